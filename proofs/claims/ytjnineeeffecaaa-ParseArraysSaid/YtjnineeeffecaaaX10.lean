/- An argument that is a slice, read: its rows of cells. For whatever program. -/
import Derived.Test.YtjnineeeffecaaaX9
import Derived.ChangeArms
namespace Go.Proofs.Ytjnineeeffecaaa.X
open Go Go.RowKit Go.ChangeShapes Go.WideShapes Go.ChangeAt

section
variable {H : Type} {enc : TypeId × Value → H} {P : Program} {w : World}
theorem slice_of_ok {t e : TypeId} {r : Reach} {b0 : Nat} {v : Value} (ht : P.underlying t = some (.slice e)) (h : Value.okWide P w r b0 t v) : v = .slice none 0 0 ∨ ∃ b off len cap, v = .slice (some ⟨b, off, none⟩) len cap ∧ len ≤ cap := by
  unfold Value.okWide at h
  rw [ht] at h
  unfold Cell.okWide at h
  rw [ht] at h
  cases v with
  | slice p len cap =>
    cases p with
    | none =>
      cases len <;> cases cap <;> first
        | exact .inl rfl
        | (simp [Cell.ok, ht] at h)
    | some a =>
      obtain ⟨b, off, spot⟩ := a
      simp only [Cell.ok, ht] at h
      obtain ⟨h1, _, h2⟩ := h
      have h3 : spot = none := h2.2.1
      subst h3
      exact .inr ⟨b, off, len, cap, rfl, h1⟩
  | _ => simp [Cell.ok, ht] at h
theorem exRows (p : Nat → List Value → Prop) : ∀ len, (∀ i, i < len → ∃ cs, p i cs) → ∃ rows : List (List Value), rows.length = len ∧ ∀ i, i < len → ∃ cs, rows[i]? = some cs ∧ p i cs
  | 0, _ => ⟨[], rfl, fun i hi => absurd hi (Nat.not_lt_zero i)⟩
  | k + 1, each => by
    obtain ⟨rows, h2, h3⟩ := exRows p k (fun i hi => each i (by omega))
    obtain ⟨cs, h4⟩ := each k (by omega)
    refine ⟨rows ++ [cs], by simp [h2], fun i hi => ?_⟩
    by_cases h6 : i < k
    · obtain ⟨cs', h7, h8⟩ := h3 i h6
      exact ⟨cs', by rw [List.getElem?_append_left (by omega)]; exact h7, h8⟩
    · have h7 : i = k := by omega
      subst h7
      exact ⟨cs, by rw [List.getElem?_append_right (by omega), h2, Nat.sub_self]; rfl, h4⟩
/-- A slice argument: its elements' cells, and that each reads as its type says. -/
theorem openRow {t e : TypeId} {sz : Nat} {r : Reach} {b0 : Nat} {sp : Nat → Bool} {hd : Bool} {v : Value} {d : DataW H} {ps : List MemPlace} (ht : P.underlying t = some (.slice e)) (hc : P.cellsOf e = sz) (hpos : 0 < sz) (hval : Value.okWide P w r b0 t v)
    (h : DataW.Trod enc P w 0 sp hd t v d ps) :
    ∃ (rows : List (List Value)), rows.length ≤ maxLen ∧ (∀ cs ∈ rows, cs.length = sz ∧ ∃ n y, DataW.trod enc P w 0 sp hd n e cs = some y) ∧ Row sz v rows.length rows.flatten w := by
  obtain ⟨n, hn⟩ := h
  rcases slice_of_ok ht hval with rfl | ⟨b, off, len, cap, rfl, hlc⟩
  · exact ⟨[], Nat.zero_le _, (fun _ h => nomatch h), row_nil sz w⟩
  have hn' : DataW.trod enc P w 0 sp hd n t [.slice (some ⟨b, off, none⟩) len cap] = some (d, ps) := hn
  rcases DataW.trod_slice ht hn' with ⟨h1, _⟩ | ⟨a, len', cap', elems, rest, m, _, h1, _, _, hl, hm, hlen, hel, _, _⟩
  · cases h1
  cases h1
  have each : ∀ i, i < len → ∃ cs, w.cells? 0 ((⟨b, off, none⟩ : Addr).add (i * sz)) sz = some cs ∧ ∃ y, DataW.trod enc P w 0 sp hd m e cs = some y := fun i hi => by
    have h2 := hel i hi
    have h3 : elems[i]? = some elems[i] := List.getElem?_eq_getElem (by omega)
    rw [h3, hc] at h2
    obtain ⟨cs, h4, h5⟩ := Option.bind_eq_some_iff.1 h2
    exact ⟨cs, h4, _, h5⟩
  have pick := exRows (fun i cs => w.cells? 0 ((⟨b, off, none⟩ : Addr).add (i * sz)) sz = some cs ∧ ∃ y, DataW.trod enc P w 0 sp hd m e cs = some y) len each
  obtain ⟨rows, h2, h3⟩ := pick
  have hsz : ∀ cs ∈ rows, cs.length = sz := fun cs hcs => by
    obtain ⟨i, hi, rfl⟩ := List.getElem_of_mem hcs
    obtain ⟨cs', h4, h5, _⟩ := h3 i (by omega)
    rw [List.getElem?_eq_getElem hi] at h4
    cases h4
    exact (World.cells?_some h5).2.1
  have hflat : ∀ (rows : List (List Value)), (∀ cs ∈ rows, cs.length = sz) → rows.flatten.length = rows.length * sz ∧ ∀ (j : Nat), rows.flatten[j]? = (rows[j / sz]?).bind (fun cs => cs[j % sz]?) := by
    intro rows
    induction rows with
    | nil => intro _; simp
    | cons cs rows ih =>
      intro h
      obtain ⟨h4, h5⟩ := ih (fun c hc => h c (List.mem_cons_of_mem _ hc))
      have h6 := h cs List.mem_cons_self
      refine ⟨by simp [h4, h6, Nat.add_mul, Nat.add_comm], fun j => ?_⟩
      rw [List.flatten_cons, List.getElem?_append, h6]
      by_cases h7 : j < sz
      · rw [if_pos h7, Nat.div_eq_of_lt h7, Nat.mod_eq_of_lt h7]
        rfl
      · have h8 : j / sz = (j - sz) / sz + 1 := Nat.div_eq_sub_div hpos (by omega)
        have h9 : j % sz = (j - sz) % sz := Nat.mod_eq_sub_mod (by omega)
        rw [if_neg h7, h5, h8, h9, List.getElem?_cons_succ]
  obtain ⟨h4, h5⟩ := hflat rows hsz
  refine ⟨rows, by omega, fun cs hcs => ⟨hsz cs hcs, ?_⟩, by rw [h2] at h4 ⊢; exact h4, .inr ⟨b, off, cap, by rw [h2], by omega, fun j u hj => ?_⟩⟩
  · obtain ⟨i, hi, rfl⟩ := List.getElem_of_mem hcs
    obtain ⟨cs', h6, _, y, h7⟩ := h3 i (by omega)
    rw [List.getElem?_eq_getElem hi] at h6
    cases h6
    exact ⟨m, y, h7⟩
  · rw [h5] at hj
    obtain ⟨cs, h6, h7⟩ := Option.bind_eq_some_iff.1 hj
    have h8 : j / sz < rows.length := (List.getElem?_eq_some_iff.1 h6).1
    obtain ⟨cs', h9, h10, _⟩ := h3 (j / sz) (by omega)
    rw [h6] at h9
    cases h9
    have h11 := (World.cells?_some h10).2.2 (j % sz) (Nat.mod_lt _ hpos)
    rw [h7] at h11
    have h12 : ((⟨b, off, none⟩ : Addr).add (j / sz * sz)).add (j % sz) = ⟨b, off + j, none⟩ := by
      rw [Addr.add_lit, Addr.add_lit]
      have := Nat.div_add_mod j sz
      rw [Nat.mul_comm] at this
      congr 1
      omega
    rw [h12] at h11
    exact h11
theorem Row.below {size n : Nat} {v : Value} {xs : List Value} (h : Row size v n xs w) : ∀ b off m cap, v = .slice (some ⟨b, off, none⟩) m cap → 0 < xs.length → b < w.heap.size := by
  intro b off m cap hv hl
  rcases h.2 with ⟨rfl | ⟨_, _, _, rfl⟩, _⟩ | ⟨b', off', cap', rfl, _, hc⟩
  · cases hv
  · cases hv
  · cases hv
    obtain ⟨u, hu⟩ : ∃ u, xs[0]? = some u := ⟨xs[0], List.getElem?_eq_getElem hl⟩
    exact World.block_lt_of_cell? w _ (hc 0 u hu)
theorem Row.top {size n : Nat} {v : Value} {xs : List Value} (h : Row size v n xs w) : (Row.fp size v n xs).h (fun _ => False) w := ⟨h, fun b off m cap hv hl => ⟨h.below b off m cap hv hl, id⟩⟩
end
theorem Tri.weak {P : Program} {f : FuncId} {args : List Value} {L : List SP} {Φ : List FP} {R R' : Ending → List SP → List FP → Prop} (h : Tri P f args L Φ R)
    (k : ∀ (c : Cx) (e : Ending) (L' : List SP) (Φ' : List FP) (w : World), R e L' Φ' → St c L' Φ' w → ∃ L1 Φ1, R' e L1 Φ1 ∧ St c L1 Φ1 w) : Tri P f args L Φ R' := fun c hc =>
  (h c hc).mono fun e w' ⟨L', Φ', hR, hS⟩ => k c e L' Φ' w' hR hS
theorem Hd.rowF {c : Cx} {K : List SP} {Φ : List FP} {w : World} {size n : Nat} {v : Value} {xs : List Value} (s : Row.fp size v n xs ∈ Φ) (h : Hd c K Φ w) : Row size v n xs w := let ⟨_, h⟩ := h; St.rowF s h
/-! ### Parts of slices -/
def subS (size : Nat) : Value → Nat → Nat → Value
  | .slice (some ⟨b, off, none⟩) _ cap, lo, hi => .slice (some (if cap = lo then ⟨b, off, none⟩ else ⟨b, off + lo * size, none⟩)) (hi - lo) (cap - lo)
  | .slice (some ⟨b, off, some s⟩) _ cap, lo, hi => .slice (some ⟨b, off, some s⟩) (hi - lo) (cap - lo)
  | _, _, _ => .slice none 0 0
theorem Row.sub {w : World} {size n lo hi : Nat} {v : Value} {xs : List Value} (h : Row size v n xs w) (h1 : lo ≤ hi) (h2 : hi ≤ n) : Row size (subS size v lo hi) (hi - lo) ((xs.drop (lo * size)).take ((hi - lo) * size)) w := by
  have hx := h.1
  have hm : hi * size ≤ n * size := Nat.mul_le_mul_right _ h2
  have hl : lo * size ≤ hi * size := Nat.mul_le_mul_right _ h1
  refine ⟨by simp only [List.length_take, List.length_drop, hx, Nat.sub_mul]; omega, ?_⟩
  rcases h.2 with ⟨rfl | ⟨b, off, s, rfl⟩, rfl⟩ | ⟨b, off, cap, rfl, hnc, hc⟩
  · exact .inl ⟨.inl rfl, by omega⟩
  · exact .inl ⟨.inr ⟨b, off, s, by simp only [subS]; congr 1 <;> omega⟩, by omega⟩
  · by_cases e : cap = lo
    · refine .inr ⟨b, off, cap - lo, by simp only [subS, if_pos e], by omega, fun j u hj => ?_⟩
      have : (hi - lo) = 0 := by omega
      rw [this] at hj
      simp at hj
    · refine .inr ⟨b, off + lo * size, cap - lo, by simp only [subS, if_neg e], by omega, fun j u hj => ?_⟩
      have h3 : xs[lo * size + j]? = some u := by
        rw [List.getElem?_take] at hj
        split at hj
        · rw [List.getElem?_drop] at hj; exact hj
        · cases hj
      rw [Nat.add_assoc]
      exact hc _ u h3
theorem Row.subF {w : World} {c : Cx} {L : List SP} {Φ : List FP} {size n lo hi : Nat} {v : Value} {xs : List Value} (s : Row.fp size v n xs ∈ Φ) (h1 : lo ≤ hi) (h2 : hi ≤ n) (h : St c L Φ w) :
    St c L (Row.fp size (subS size v lo hi) (hi - lo) ((xs.drop (lo * size)).take ((hi - lo) * size)) :: Φ) w :=
  h.fact fun O hφ => by
    obtain ⟨k1, k2⟩ := hφ _ s
    refine ⟨k1.sub h1 h2, fun b off m cap hv hl => ?_⟩
    have hl2 : 0 < xs.length := by
      rcases Nat.eq_zero_or_pos xs.length with h0 | h0
      · simp [List.eq_nil_of_length_eq_zero h0] at hl
      · exact h0
    rcases k1.2 with ⟨rfl | ⟨_, _, _, rfl⟩, _⟩ | ⟨b', off', cap', rfl, _, _⟩
    · cases hv
    · simp [subS] at hv
    · have := k2 b' off' _ cap' rfl hl2
      simp only [subS] at hv
      split at hv <;> (cases hv; exact this)
section
variable {P : Program} {n : Nat} {Q : Post} {ρ : Env} {ds : List Deferred} {A : World → Prop} {ops : Array Oper} {rest : List Oper} {o : Oper} {d q : Nat}
/-- A field of an element. -/
theorem XL.faR {s f off size m j : Nat} {x : Operand} {v u : Value} {xs : List Value} (hop : o.op = .fieldAddr s x f) (hd : o.dst = some d) (hn : Nat.blt d n = true) (hw : wantB ops ρ o = some true) (hx : evE ρ x = some (cellP v j))
    (hf : fieldOff P s f = some off) (hr : ∀ w, A w → Row size v m xs w) (hv : xs[j]? = some u) (k : XL P n ops Q (q - 1) rest ((d, cellP v (j + off)) :: ρ) ds A) : XL P n ops Q q (o :: rest) ρ ds A :=
  XL.run (d := some d) hd hn hw (fun σ w hσ hA => by
    unfold execOp
    rw [hop]
    simp only [hσ.val hx]
    rcases (hr w hA).2 with ⟨_, rfl⟩ | ⟨b, o', cap, rfl, _, hc⟩
    · have h1 := (hr w hA).1
      have := (List.getElem?_eq_some_iff.1 hv).1
      omega
    · have := run_fieldAt (b := b) (i := o' + j) hf w
      simpa [cellP, Nat.add_assoc] using run_v this) k
/-- An element of two cells. -/
theorem XL.iaR2 {t size m j : Nat} {kd : IntKind} {x y : Operand} {v : Value} {xs : List Value} (hop : o.op = .indexAddr t x y) (hd : o.dst = some d) (hn : Nat.blt d n = true) (hw : wantB ops ρ o = some true)
    (hx : evE ρ x = some v) (hy : evE ρ y = some (.int kd (j : Int))) (hr : ∀ w, A w → Row size v m xs w) (he : elemSize P t = some size) (h : j < m)
    (k : XL P n ops Q (q - 1) rest ((d, cellP v (j * size)) :: ρ) ds A) : XL P n ops Q q (o :: rest) ρ ds A := XL.iaR hop hd hn hw hx hy he hr h k
theorem run_sliceHi {t e : TypeId} {size m hi : Nat} {kd : IntKind} {v : Value} {xs : List Value} {w : World} (ht : P.underlying t = some (.slice e)) (hs : ∃ i, P.info? e = some i ∧ i.size = size) (hr : Row size v m xs w) (h : hi ≤ m) :
    (Instr.sliceAt t v none (some (.int kd (hi : Int))) none).run P w = .ok (subS size v 0 hi) w := by
  obtain ⟨i, hi1, hi2⟩ := hs
  rcases hr.2 with ⟨rfl | ⟨b, off, s, rfl⟩, rfl⟩ | ⟨b, off, cap, rfl, hnc, _⟩
  · have : hi = 0 := by omega
    subst this
    simp [Instr.sliceAt, Instr.slice, Instr.sliceBounds, Instr.sliceBound, asIntOf, run_underlying ht, sizeOf, typeInfo, hi1, subS]
  · have : hi = 0 := by omega
    subst this
    simp [Instr.sliceAt, Instr.slice, Instr.sliceBounds, Instr.sliceBound, asIntOf, run_underlying ht, sizeOf, typeInfo, hi1, subS]
  · have h1 : hi ≤ cap := by omega
    simp [Instr.sliceAt, Instr.slice, Instr.sliceBounds, Instr.sliceBound, asIntOf, run_underlying ht, sizeOf, typeInfo, hi1, subS, h1, hi2]
    intro _
    rw [Addr.add_lit, Nat.add_zero]
theorem XL.sliceHi {c : Cx} {L : List SP} {Φ : List FP} {t size m hi : Nat} {kd : IntKind} {x y : Operand} {v : Value} {xs : List Value} (hop : o.op = .slice t x none (some y) none) (hd : o.dst = some d) (hn : Nat.blt d n = true) (hw : wantB ops ρ o = some true)
    (hx : evE ρ x = some v) (hy : evE ρ y = some (.int kd (hi : Int))) (he : elemSize P t = some size) (hr : Row.fp size v m xs ∈ Φ) (h : hi ≤ m)
    (k : XL P n ops Q 0 rest ((d, subS size v 0 hi) :: ρ) ds (St c L (Row.fp size (subS size v 0 hi) hi (xs.take (hi * size)) :: Φ))) : XL P n ops Q 0 (o :: rest) ρ ds (St c L Φ) := by
  refine XL.eff (α := Unit) (v := fun _ => subS size v 0 hi) (B := fun _ => St c L (Row.fp size (subS size v 0 hi) hi (xs.take (hi * size)) :: Φ)) (d := some d) hd hn hw (fun σ w hσ hA => ?_) (fun _ => k)
  obtain ⟨e, i, h1, h2, h3⟩ := elemSize_spec he
  refine ⟨(), w, ?_, ?_⟩
  · unfold execOp
    rw [hop]
    simp only [hσ.val hx, Option.map_some, Option.map_none, hσ.val hy]
    exact run_v (run_sliceHi h1 ⟨i, h2, h3⟩ (St.rowF hr hA) h)
  · have := Row.subF hr (Nat.zero_le hi) h hA
    simpa using this
end
end Go.Proofs.Ytjnineeeffecaaa.X
