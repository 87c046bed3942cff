/- Slices of which only the elements are told: reading them, writing them, appending to them. For whatever program. -/
import Derived.Test.YtjnineeeffecaaaX7
import Derived.Laws.OwnMore
namespace Go.Proofs.Ytjnineeeffecaaa.X
open Go Go.RowKit

/-- A slice of n elements of so many cells each, which may be read. -/
def Row (size : Nat) (v : Value) (n : Nat) (xs : List Value) (w : World) : Prop :=
  xs.length = n * size ∧ (((v = .slice none 0 0 ∨ ∃ b off s, v = .slice (some ⟨b, off, some s⟩) 0 0) ∧ n = 0) ∨ ∃ b off cap, v = .slice (some ⟨b, off, none⟩) n cap ∧ n ≤ cap ∧ ∀ (j : Nat) u, xs[j]? = some u → w.cell? ⟨b, off + j, none⟩ = some u)
/-- Where an element's cell lies. -/
def cellP : Value → Nat → Value
  | .slice (some ⟨b, off, none⟩) _ _, j => .pointer (some ⟨b, off + j, none⟩)
  | _, _ => undef
theorem Row.len {size n : Nat} {v : Value} {xs : List Value} {w : World} (h : Row size v n xs w) : ∃ p cap, v = .slice p n cap := by
  rcases h.2 with ⟨rfl | ⟨_, _, _, rfl⟩, rfl⟩ | ⟨b, off, cap, rfl, _, _⟩
  · exact ⟨_, _, rfl⟩
  · exact ⟨_, _, rfl⟩
  · exact ⟨_, _, rfl⟩
/-- One that the call owns: it may be appended to. -/
def rowO (e : TypeId) (size : Nat) (v : Value) (n : Nat) (xs : List Value) : SP where
  h O w := (∀ b, O b ↔ v.ownBlock = some b) ∧ w.ownsRow 0 e size v n xs
  loc := fun {O w w'} ⟨h1, h2⟩ hk => ⟨h1, h2.1, by
    rcases h2.2 with h | ⟨g, cap, cur, rfl, hb, hg, hr⟩
    · exact .inl h
    · exact .inr ⟨g, cap, cur, rfl, hb, by rw [hk g ((h1 g).2 rfl)]; exact hg, hr⟩⟩
  lt := fun {O w b} ⟨h1, h2⟩ hb => by
    have h3 := (h1 b).1 hb
    rcases h2.2 with ⟨rfl, _⟩ | ⟨g, cap, cur, rfl, _, hg, _⟩
    · cases h3
    · cases h3; exact (Array.getElem?_eq_some_iff.1 hg).1
theorem row_of_owns {e : TypeId} {size n : Nat} {v : Value} {xs : List Value} {w : World} (h : w.ownsRow 0 e size v n xs) : Row size v n xs w := by
  refine ⟨h.1, ?_⟩
  rcases h.2 with h1 | ⟨g, cap, cur, rfl, _, _, hnc, _⟩
  · exact .inl ⟨.inl h1.1, h1.2⟩
  · refine .inr ⟨g, 0, cap, rfl, hnc, fun j u hj => ?_⟩
    have := h.cells (g := g) rfl j u hj
    simpa [Addr.add_lit] using this
theorem St.row {c : Cx} {L L' : List SP} {Φ : List FP} {w : World} {e size n : Nat} {v : Value} {xs : List Value} (s : Sel L (rowO e size v n xs) L') (h : St c L Φ w) : Row size v n xs w := by
  obtain ⟨O, h1⟩ := h.own s
  exact row_of_owns h1.2
/-- One that stays as it is. -/
def Row.fp (size : Nat) (v : Value) (n : Nat) (xs : List Value) : FP where
  h O w := Row size v n xs w ∧ ∀ b off m cap, v = .slice (some ⟨b, off, none⟩) m cap → 0 < xs.length → b < w.heap.size ∧ ¬ O b
  mono := fun {O O' w w'} ⟨h1, h2⟩ hs hk hO => by
    refine ⟨⟨h1.1, ?_⟩, fun b off m cap hv hl => ?_⟩
    · rcases h1.2 with h3 | ⟨b, off, cap, rfl, hnc, hc⟩
      · exact .inl h3
      · refine .inr ⟨b, off, cap, rfl, hnc, fun j u hj => ?_⟩
        have hl : 0 < xs.length := by have := (List.getElem?_eq_some_iff.1 hj).1; omega
        obtain ⟨h4, h5⟩ := h2 b off _ cap rfl hl
        have := hc j u hj
        simpa [World.cell?, hk b h4 h5] using this
    · obtain ⟨h4, h5⟩ := h2 b off m cap hv hl
      exact ⟨by omega, fun h => h5 (hO b h4 h)⟩
theorem St.rowF {c : Cx} {L : List SP} {Φ : List FP} {w : World} {size n : Nat} {v : Value} {xs : List Value} (s : Row.fp size v n xs ∈ Φ) (h : St c L Φ w) : Row size v n xs w := by
  obtain ⟨O, h1, _⟩ := h.has s
  exact h1

section
variable {P : Program} {n : Nat} {Q : Post} {ρ : Env} {ds : List Deferred} {A : World → Prop} {ops : Array Oper} {rest : List Oper} {o : Oper} {d q : Nat} {c : Cx} {L L' : List SP} {Φ : List FP}
/-! ### Reading -/
theorem XL.lenR {cl : Call} {size m : Nat} {v : Value} {xs : List Value} (hop : o.op = .call cl) (hd : o.dst = some d) (hn : Nat.blt d n = true) (hw : wantB ops ρ o = some true) (hb : cl.callee = .builtin .len)
    (ha : evs ρ cl.args.toList = some [v]) (ht : lenKind P cl.argTypes = 1) (hr : ∀ w, A w → Row size v m xs w) (k : XL P n ops Q (q - 1) rest ((d, .int .i64 (m : Int)) :: ρ) ds A) : XL P n ops Q q (o :: rest) ρ ds A :=
  XL.builtin hop hd hn hw hb ha (fun w hA => by
    obtain ⟨p, cap, rfl⟩ := (hr w hA).len
    unfold lenKind firstType at ht
    cases h0 : cl.argTypes[0]? with
    | none => simp [h0] at ht
    | some t =>
      simp only [h0] at ht
      split at ht <;> first | (cases ht; done) | skip
      rename_i e he
      simp [Go.builtin, Builtin.len_, h0, run_underlying he, goInt]) k
theorem XL.iaR {t size m j : Nat} {kd : IntKind} {x y : Operand} {v : Value} {xs : List Value} (hop : o.op = .indexAddr t x y) (hd : o.dst = some d) (hn : Nat.blt d n = true) (hw : wantB ops ρ o = some true)
    (hx : evE ρ x = some v) (hy : evE ρ y = some (.int kd (j : Int))) (he : elemSize P t = some size) (hr : ∀ w, A w → Row size v m xs w) (h : j < m)
    (k : XL P n ops Q (q - 1) rest ((d, cellP v (j * size)) :: ρ) ds A) : XL P n ops Q q (o :: rest) ρ ds A :=
  XL.run (d := some d) hd hn hw (fun σ w hσ hA => by
    unfold execOp
    rw [hop]
    simp only [hσ.val hx, hσ.val hy]
    rcases (hr w hA).2 with ⟨_, rfl⟩ | ⟨b, off, cap, rfl, _, _⟩
    · omega
    · have := run_indexAt_in (P := P) (b := b) (off := off) (len := m) (cap := cap) (kd := kd) (i := (j : Int)) he (by omega) (by omega) w
      simpa [cellP] using run_v this) k
/-- .. of one cell each. -/
theorem XL.iaR1 {t m j : Nat} {kd : IntKind} {x y : Operand} {v : Value} {xs : List Value} (hop : o.op = .indexAddr t x y) (hd : o.dst = some d) (hn : Nat.blt d n = true) (hw : wantB ops ρ o = some true)
    (hx : evE ρ x = some v) (hy : evE ρ y = some (.int kd (j : Int))) (he : elemSize P t = some (0 + 1)) (hr : ∀ w, A w → Row 1 v m xs w) (h : j < m)
    (k : XL P n ops Q (q - 1) rest ((d, cellP v j) :: ρ) ds A) : XL P n ops Q q (o :: rest) ρ ds A :=
  XL.iaR hop hd hn hw hx hy he hr h (by rw [Nat.mul_one]; exact k)
theorem XL.ldR {t size m j : Nat} {x : Operand} {v u : Value} {xs : List Value} (hop : o.op = .load t x) (hd : o.dst = some d) (hn : Nat.blt d n = true) (hw : wantB ops ρ o = some true) (hx : evE ρ x = some (cellP v j))
    (ht : aggB P t = some false) (hr : ∀ w, A w → Row size v m xs w) (hv : xs[j]? = some u) (k : XL P n ops Q (q - 1) rest ((d, u) :: ρ) ds A) : XL P n ops Q q (o :: rest) ρ ds A :=
  XL.run (d := some d) hd hn hw (fun σ w hσ hA => by
    unfold execOp
    rw [hop]
    simp only [hσ.val hx]
    refine run_v ?_
    rcases (hr w hA).2 with ⟨_, rfl⟩ | ⟨b, off, cap, rfl, _, hc⟩
    · have h1 := (hr w hA).1
      have := (List.getElem?_eq_some_iff.1 hv).1
      omega
    · simp [cellP, Instr.loadAt, Instr.sureAddr, loadVar, run_isAgg ht, load, Sem.run, hc j u hv]) k
/-! ### Writing -/
theorem owns_set {w : World} {e size m j : Nat} {b off : Nat} {cap : Nat} {xs : List Value} (h : w.ownsRow 0 e size (.slice (some ⟨b, off, none⟩) m cap) m xs) (hj : j < xs.length) (u : Value) :
    off = 0 ∧ (w.setCell ⟨b, j, none⟩ u).ownsRow 0 e size (.slice (some ⟨b, 0, none⟩) m cap) m (xs.set j u) ∧ (∃ cs, w.heap[b]? = some (.cells cs e (0, 0)) ∧ j < cs.size) := by
  rcases h.2 with ⟨h1, _⟩ | ⟨g, cap', cur, h1, hb, hg, hn, hm, hc, ht⟩
  · cases h1
  · simp only [Value.slice.injEq, Option.some.injEq, Addr.mk.injEq, and_true, true_and] at h1
    obtain ⟨⟨rfl, rfl⟩, rfl⟩ := h1
    have h5 : j < cur.size := by rw [← ht] at hj; simp at hj; omega
    refine ⟨rfl, ⟨by simpa using h.1, .inr ⟨_, _, cur.setIfInBounds j u, rfl, hb, heap_setCell_at w hg u, hn, hm, by simpa using hc, ?_⟩⟩, ⟨cur, hg, h5⟩⟩
    rw [← ht]
    simp [List.take_set]
theorem St.setOwn {w : World} {e size m j : Nat} {v u : Value} {xs : List Value} (s : Sel L (rowO e size v m xs) L') (h : St c L Φ w) (hj : j < xs.length) :
    ∃ b, cellP v j = .pointer (some ⟨b, j, none⟩) ∧ (w.cell? ⟨b, j, none⟩).isSome = true ∧ w.frozen? ⟨b, j, none⟩ = false ∧ St c (rowO e size v m (xs.set j u) :: L') Φ (w.setCell ⟨b, j, none⟩ u) := by
  obtain ⟨O1, h1, h2⟩ := h.own s
  rcases h2.2 with ⟨rfl, rfl⟩ | ⟨g, cap, cur, rfl, hr⟩
  · have := h2.1; omega
  · obtain ⟨_, h3, ⟨cs, h4, h5⟩⟩ := owns_set h2 hj u
    refine ⟨g, by simp [cellP], by simp [World.cell?, h4, h5], by simp [World.frozen?, h4], ?_⟩
    refine h.step (Lc := [rowO e size (.slice (some ⟨g, 0, none⟩) m cap) m xs]) (Lc' := [rowO e size (.slice (some ⟨g, 0, none⟩) m cap) m (xs.set j u)]) (.cons s .nil) (fun _ h => h) fun Oc hc _ => ?_
    obtain ⟨O3, O4, ⟨k1, k2⟩, k3, hd, hU⟩ := hc
    exact ⟨Oc, ⟨O3, O4, ⟨k1, h3⟩, k3, hd, hU⟩, Ext.setCell w u ((hU g).2 (.inl ((k1 g).2 rfl))), fun _ h => .inl h⟩
theorem XL.stR {t e size m j : Nat} {x y : Operand} {v u : Value} {xs : List Value} (hop : o.op = .store t x y) (hd : o.dst = none) (hw : wantB ops ρ o = some true)
    (hx : evE ρ x = some (cellP v j)) (hy : evE ρ y = some u) (hv : u.oneCell' = true) (hs : sizeB P t = some 1) (s : Sel L (rowO e size v m xs) L') (hj : j < xs.length)
    (k : XL P n ops Q 0 rest ρ ds (St c (rowO e size v m (xs.set j u) :: L') Φ)) : XL P n ops Q 0 (o :: rest) ρ ds (St c L Φ) :=
  XL.act hd hw (fun σ w hσ hA => by
    obtain ⟨b, h1, h2, h3, h4⟩ := hA.setOwn s hj (u := u)
    refine ⟨_, ?_, h4⟩
    unfold execOp
    rw [hop]
    simp only [hσ.val hx, hσ.val hy, h1]
    simp [run_storeOne (P := P) (w := w) hs hv h2 h3]) k
/-! ### New ones -/
/-- What an element type is, for appending: its size, its zero. -/
def elemB (P : Program) (t : TypeId) : Option (TypeId × Nat × Nat) := match P.underlying t with
  | some (.slice e) => match P.info? e with
    | some i => match i.zero with
      | some z => match i.size, i.bytes with
        | 0, _ => none
        | _, 0 => none
        | s + 1, m + 1 => match Nat.beq (cellsL z).length (s + 1) with
          | true => some (e, s + 1, m + 1)
          | false => none
      | none => none
    | none => none
  | _ => none
theorem elemB_spec {t e s m : Nat} (h : elemB P t = some (e, s, m)) : ∃ i z, P.underlying t = some (.slice e) ∧ P.info? e = some i ∧ i.zero = some z ∧ i.size = s ∧ i.bytes = m ∧ z.cells.size = s ∧ 0 < s := by
  unfold elemB at h
  split at h
  · rename_i e' hu
    split at h
    · rename_i i hi
      split at h
      · rename_i z hz
        split at h
        · cases h
        · cases h
        · rename_i s' m' hs hb
          split at h
          · rename_i hl
            cases h
            have := Nat.eq_of_beq_eq_true hl
            rw [← cellsL_eq] at this
            exact ⟨i, z, hu, hi, hz, hs, hb, by simpa using this, by omega⟩
          · cases h
      · cases h
    · cases h
  · cases h
theorem St.appended {w w' : World} {e size m k : Nat} {v v' : Value} {xs news : List Value} (s : Sel L (rowO e size v m xs) L') (h : St c L Φ w) (ho : w'.ownsRow 0 e size v' (m + k) (xs ++ news)) (hg : w.grownBy w' v.ownBlock)
    (hb : ∀ b, v'.ownBlock = some b → v.ownBlock = some b ∨ w.heap.size ≤ b) : St c (rowO e size v' (m + k) (xs ++ news) :: L') Φ w' := by
  refine h.step (Lc := [rowO e size v m xs]) (Lc' := [rowO e size v' (m + k) (xs ++ news)]) (.cons s .nil) (fun _ h => h) fun Oc hc _ => ?_
  obtain ⟨O3, O4, ⟨k1, k2⟩, k3, hd, hU⟩ := hc
  refine ⟨fun b => v'.ownBlock = some b, ⟨fun b => v'.ownBlock = some b, fun _ => False, ⟨fun _ => Iff.rfl, ho⟩, fun _ => id, fun _ _ => id, fun b => by simp⟩, ?_, ?_⟩
  · exact Ext.of_grown hg (fun b hb => (hU b).2 (.inl ((k1 b).2 hb)))
  · intro b hb'
    exact (hb b hb').imp (fun h => (hU b).2 (.inl ((k1 b).2 h))) id
theorem run_appendRA {t ty e size bytes m k cap : Nat} {v : Value} {a : Addr} {xs news : List Value} {w : World} (hb : elemB P t = some (e, size, bytes)) (ho : w.ownsRow 0 e size v m xs) (hx : news.length = k * size)
    (hc' : ∀ (j : Nat) u, news[j]? = some u → w.cell? (a.add j) = some u)
    (h1 : ∀ u ∈ news, u.oneCell' = true) (h63 : m + k ≤ maxLen) (hby : (m + k) * bytes ≤ 140737488355328) :
    ∃ v' w', (Builtin.append_ #[t, t] ty #[v, .slice (some a) k cap]).run P w = .ok v' w' ∧ w'.ownsRow 0 e size v' (m + k) (xs ++ news) ∧ w.grownBy w' v.ownBlock ∧ ∀ b, v'.ownBlock = some b → v.ownBlock = some b ∨ w.heap.size ≤ b := by
  obtain ⟨i, z, hu, hi, hz, hs, hbb, hzs, hsz⟩ := elemB_spec hb
  subst hs hbb
  rcases ho.2 with ⟨rfl, rfl⟩ | ⟨g, cap', cur, rfl, hbg, hg, hnc, hcm, hcs, htake⟩
  · have ho' : w.ownsRow w.heap.size e i.size (.slice none 0 0) 0 xs := ⟨ho.1, .inl ⟨rfl, rfl⟩⟩
    obtain ⟨v', w', hr, h2, h3, _⟩ := run_append_own (P := P) w w.heap.size t ty e i z i.size i.bytes hu hi hz rfl rfl hzs hsz _ 0 xs ho' _ k cap news hx hc' h1 h63 hby (Nat.le_refl _)
    refine ⟨v', w', hr, ⟨h2.1, ?_⟩, h3, fun b hb => .inr (h2.lt b hb).1⟩
    rcases h2.2 with h | ⟨g, c1, c2, h5, h6, h7⟩
    · exact .inl h
    · exact .inr ⟨g, c1, c2, h5, Nat.zero_le _, h7⟩
  · obtain ⟨v', w', hr, h2, h3, _⟩ := run_append_own (P := P) w 0 t ty e i z i.size i.bytes hu hi hz rfl rfl hzs hsz _ m xs ho _ k cap news hx hc' h1 h63 hby (Nat.zero_le _)
    refine ⟨v', w', hr, h2, h3, ?_⟩
    by_cases hroom : m + k ≤ cap'
    · have hfit : m * i.size + news.length ≤ cur.size := by rw [hx, hcs, ← Nat.add_mul]; exact Nat.mul_le_mul_right _ hroom
      have hr2 := run_append_room (P := P) w t ty e i hu hi g m cap' cur hg _ k cap news hx hc' h1 hroom hfit
      rw [hr2] at hr
      cases hr
      exact fun b hb => .inl hb
    · have holds : ∀ (j : Nat) u, xs[j]? = some u → w.cell? ((⟨g, 0, none⟩ : Addr).add j) = some u := ho.cells (g := g) rfl
      have hr2 := run_append_grow (P := P) w t ty e i z hu hi hz ⟨g, 0, none⟩ m cap' xs ho.1 holds _ k cap news hx hc' (by omega) (by simp only [maxLen] at h63; omega) (growslice_fits (by omega) hby)
      rw [hr2] at hr
      cases hr
      exact fun b hb => .inr (by cases hb; exact Nat.le_refl _)
theorem run_appendR {t ty e size bytes m k : Nat} {v x : Value} {xs news : List Value} {w : World} (hb : elemB P t = some (e, size, bytes)) (ho : w.ownsRow 0 e size v m xs) (hx : Row size x k news w)
    (h1 : ∀ u ∈ news, u.oneCell' = true) (h63 : m + k ≤ maxLen) (hby : (m + k) * bytes ≤ 140737488355328) :
    ∃ v' w', (Builtin.append_ #[t, t] ty #[v, x]).run P w = .ok v' w' ∧ w'.ownsRow 0 e size v' (m + k) (xs ++ news) ∧ w.grownBy w' v.ownBlock ∧ ∀ b, v'.ownBlock = some b → v.ownBlock = some b ∨ w.heap.size ≤ b := by
  obtain ⟨i, z, hu, hi, hz, hs, hbb, hzs, hsz⟩ := elemB_spec hb
  subst hs hbb
  rcases hx.2 with ⟨rfl | ⟨b, off, s, rfl⟩, rfl⟩ | ⟨b, off, cap, rfl, _, hc⟩
  · have hn : news = [] := List.eq_nil_of_length_eq_zero (by simpa using hx.1)
    subst hn
    refine ⟨v, w, run_append_owned_none w 0 t ty e i i.size hu hi v m xs ho, by simpa using ho, ⟨rfl, rfl, rfl, Nat.le_refl _, fun _ _ _ => rfl⟩, fun b h => .inl h⟩
  · exact run_appendRA hb ho hx.1 (fun j u hj => by
      have hn : news = [] := List.eq_nil_of_length_eq_zero (by simpa using hx.1)
      subst hn
      simp at hj) h1 h63 hby
  · exact run_appendRA hb ho hx.1 (fun j u hj => by rw [Addr.add_lit]; exact hc j u hj) h1 h63 hby
theorem XL.append {cl : Call} {t e size bytes m k0 : Nat} {v x : Value} {xs news : List Value} (hop : o.op = .call cl) (hd : o.dst = some d) (hn : Nat.blt d n = true) (hw : wantB ops ρ o = some true) (hcb : cl.callee = .builtin .append)
    (hct : cl.argTypes = #[t, t]) (ha : evs ρ cl.args.toList = some [v, x]) (s : Sel L (rowO e size v m xs) L') (hb : elemB P t = some (e, size, bytes)) (hx : ∀ w, St c L Φ w → Row size x k0 news w)
    (h1 : ∀ u ∈ news, u.oneCell' = true) (hbl : Nat.ble bytes 1024 = true) (hm : m + k0 ≤ 137438953472)
    (k : ∀ v', XL P n ops Q 0 rest ((d, v') :: ρ) ds (St c (rowO e size v' (m + k0) (xs ++ news) :: L') Φ)) : XL P n ops Q 0 (o :: rest) ρ ds (St c L Φ) := by
  refine XL.eff (α := Value) (v := fun v' => v') (B := fun v' w => St c (rowO e size v' (m + k0) (xs ++ news) :: L') Φ w) (d := some d) hd hn hw (fun σ w hσ hA => ?_) k
  obtain ⟨O1, _, ho⟩ := hA.own s
  have hby := Nat.le_of_ble_eq_true hbl
  obtain ⟨v', w', hr, h2, h3, h4⟩ := run_appendR (P := P) (ty := o.type) hb ho (hx w hA) h1 (Nat.le_trans hm (by decide)) (Nat.le_trans (Nat.mul_le_mul hm hby) (by decide))
  refine ⟨v', w', ?_, St.appended s hA h2 h3 h4⟩
  unfold execOp
  rw [hop]
  have h5 : cl.args.map (ev σ) = #[v, x] := Array.toList_inj.1 (by simpa using hσ.vals ha)
  simp [resolve, hcb, h5, hct, invoke, Go.builtin, hr]
/-- A block's cells, as a row that may be read. -/
theorem St.rowC {w : World} {b m cap T : Nat} {cs : List Value} {size : Nat} (s : Sel L (cel b cs.toArray T) L') (hl : cs.length = m * size) (hmc : m ≤ cap) (h : St c L Φ w) : Row size (.slice (some ⟨b, 0, none⟩) m cap) m cs w :=
  ⟨hl, .inr ⟨b, 0, cap, rfl, hmc, fun j u hj => h.cell s (by simpa using hj)⟩⟩
/-- One element of one cell more. -/
theorem XL.append1 {cl : Call} {t e bytes m m' b cp T : Nat} {v u : Value} {xs xs' : List Value} {L1 L2 : List SP} (hop : o.op = .call cl) (hd : o.dst = some d) (hn : Nat.blt d n = true) (hw : wantB ops ρ o = some true) (hcb : cl.callee = .builtin .append)
    (hct : cl.argTypes = #[t, t]) (ha : evs ρ cl.args.toList = some [v, .slice (some ⟨b, 0, none⟩) 1 cp]) (s : Sel L (rowO e 1 v m xs) L1) (s2 : Sel L1 (cel b #[u] T) L2) (s3 : ∃ L3, Sel L (cel b #[u] T) L3) (hb : elemB P t = some (e, 1, bytes))
    (hcp : 1 ≤ cp) (h1 : u.oneCell' = true) (hbl : Nat.ble bytes 1024 = true) (hm : m < 137438953472) (hm' : m + 1 = m') (hxs : xs ++ [u] = xs')
    (k : ∀ v', XL P n ops Q 0 rest ((d, v') :: ρ) ds (St c (rowO e 1 v' m' xs' :: L2) Φ)) : XL P n ops Q 0 (o :: rest) ρ ds (St c L Φ) := by
  subst hm' hxs
  obtain ⟨L3, s3⟩ := s3
  exact XL.append (news := [u]) hop hd hn hw hcb hct ha s hb (fun w h => St.rowC (cs := [u]) s3 rfl hcp h) (fun u' hu => by rcases List.mem_singleton.1 hu with rfl; exact h1) hbl hm
    (fun v' => XL.conv (fun w h => h.drop (.there s2)) (k v'))
/-- A slice of some elements, written out. -/
def rowL (P : Program) (t len : Nat) (parts : List (Nat × Value)) : Option (TypeId × List Value) := match P.underlying t with
  | some (.slice e) => match P.info? e with
    | some i => match i.zero with
      | some z => match Nat.beq (cellsL z).length i.size with
        | true => match Nat.ble (len * i.size) 65536 with
          | true => match fillL (fun j => some (j * i.size, i.size)) (List.flatten (List.replicate len (cellsL z))) parts with
            | some l => some (e, l)
            | none => none
          | false => none
        | false => none
      | none => none
    | none => none
  | _ => none
theorem flat_get {z : List Value} : ∀ (len j : Nat), (List.flatten (List.replicate len z))[j]? = if j < len * z.length then z[j % z.length]? else none
  | 0, j => by simp
  | len + 1, j => by
    rw [List.replicate_succ, List.flatten_cons, List.getElem?_append, Nat.add_mul, Nat.one_mul]
    by_cases h : j < z.length
    · rw [if_pos h, if_pos (by omega), Nat.mod_eq_of_lt h]
    · rw [if_neg h, flat_get len (j - z.length)]
      by_cases h2 : j < len * z.length + z.length
      · rw [if_pos (by omega), if_pos h2, ← Nat.mod_eq_sub_mod (by omega)]
      · rw [if_neg (by omega), if_neg h2]
theorem run_rowL {t len e : Nat} {parts : List (Nat × Value)} {l : List Value} (h : rowL P t len parts = some (e, l)) (w : World) :
    (Instr.buildSlice t len parts.toArray).run P w = .ok (.slice (some ⟨w.heap.size, 0, none⟩) len len) (w.alloc (.cells l.toArray e)) := by
  unfold rowL at h
  split at h
  · rename_i e' hu
    split at h
    · rename_i i hi
      split at h
      · rename_i z hz
        split at h
        · rename_i hl
          split at h
          · rename_i hle
            split at h
            · rename_i l' hf
              cases h
              have h1 := Nat.le_of_ble_eq_true hle
              have h2 : z.cells.size = i.size := by
                have := Nat.eq_of_beq_eq_true hl
                rw [← cellsL_eq] at this
                simpa using this
              have h3 := fillL_eq hf
              have h4 : (List.flatten (List.replicate len (cellsL z))).toArray = (Array.range (len * i.size)).map (z.cells[· % z.cells.size]!) := by
                apply Array.ext'
                apply List.ext_getElem?
                intro j
                rw [flat_get, ← cellsL_eq]
                simp only [Array.length_toList, h2, Array.getElem?_toList]
                by_cases h : j < len * i.size
                · have h5 : 0 < i.size := by
                    rcases Nat.eq_zero_or_pos i.size with h6 | h6
                    · rw [h6, Nat.mul_zero] at h; omega
                    · exact h6
                  have h6 : j % i.size < z.cells.size := by rw [h2]; exact Nat.mod_lt _ h5
                  simp [h, h6]
                · simp [h]
              rw [h4] at h3
              by_cases h0 : len * i.size = 0
              · simp only [h0, Array.range_zero', Array.map_empty] at h3
                simp [Instr.buildSlice, run_underlying hu, sizeOf, typeInfo, hi, h0, newRow, h3, Array.range_zero']
              · have hn : ¬ 16777216 < len * i.size := by omega
                simp [Instr.buildSlice, run_underlying hu, sizeOf, typeInfo, hi, h0, hn, zeroValue, hz, newRow, h3]
            · cases h
          · cases h
        · cases h
      · cases h
    · cases h
  · cases h
/-- A slice of some elements, written out, in a block of its own. -/
theorem XL.lit {t len e : Nat} {ps : Array (Nat × Operand)} {parts : List (Nat × Value)} {l : List Value} (hop : o.op = .buildSlice t len ps) (hd : o.dst = some d) (hn : Nat.blt d n = true) (hw : wantB ops ρ o = some true)
    (hp : partsE ρ ps.toList = some parts) (hb : rowL P t len parts = some (e, l)) (k : ∀ b, XL P n ops Q 0 rest ((d, .slice (some ⟨b, 0, none⟩) len len) :: ρ) ds (St c (cel b l.toArray e :: L) Φ)) :
    XL P n ops Q 0 (o :: rest) ρ ds (St c L Φ) :=
  XL.new (v := fun b => .slice (some ⟨b, 0, none⟩) len len) (ob := .cells l.toArray e (0, 0)) hd hn hw (fun σ w hσ _ => by
    unfold execOp
    rw [hop]
    simp only [hσ.partsA hp]
    exact run_v (run_rowL hb w)) k
/-- An empty one, of the call's own. -/
theorem XL.litE {t e size bytes : Nat} (hop : o.op = .buildSlice t 0 #[]) (hd : o.dst = some d) (hn : Nat.blt d n = true) (hw : wantB ops ρ o = some true) (hb : elemB P t = some (e, size, bytes)) (hr : rowL P t 0 [] = some (e, []))
    (k : ∀ v, XL P n ops Q 0 rest ((d, v) :: ρ) ds (St c (rowO e size v 0 [] :: L) Φ)) : XL P n ops Q 0 (o :: rest) ρ ds (St c L Φ) :=
  XL.lit (parts := []) hop hd hn hw rfl hr fun b => XL.conv (fun w h => h.turn (Lc := [cel b #[] e]) (Lc' := [rowO e size (.slice (some ⟨b, 0, none⟩) 0 0) 0 []]) (.cons .here .nil) fun O ⟨O1, O2, ⟨h1, h2⟩, h3, hd, hU⟩ =>
    ⟨O1, O2, ⟨fun x => by rw [h1]; simp [Value.ownBlock, eq_comm], ⟨by simp, .inr ⟨b, 0, #[], rfl, Nat.zero_le _, h2, Nat.le_refl _, Nat.zero_le _, by simp, by simp⟩⟩⟩, h3, hd, hU⟩) (k _)
/-- nil is a row of nothing. -/
theorem St.nilRow {w : World} (e size : Nat) (h : St c L Φ w) : St c (rowO e size (.slice none 0 0) 0 [] :: L) Φ w := by
  refine h.step (Lc := []) (Lc' := [rowO e size (.slice none 0 0) 0 []]) .nil (fun _ h => h) fun Oc hc _ => ?_
  exact ⟨Oc, ⟨fun _ => False, Oc, ⟨fun b => by simp [Value.ownBlock], World.ownsRow_nil w 0 e size⟩, hc, fun _ h => h.elim, fun b => by simp⟩, Ext.refl _ _, fun _ h => .inl h⟩
theorem row_nil (size : Nat) (w : World) : Row size (.slice none 0 0) 0 [] w := ⟨by simp, .inl ⟨.inl rfl, rfl⟩⟩
end
end Go.Proofs.Ytjnineeeffecaaa.X
