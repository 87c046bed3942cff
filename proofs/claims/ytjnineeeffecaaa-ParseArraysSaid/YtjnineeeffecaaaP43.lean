/- Law: any tree's depth is the document's. -/
import Derived.Test.YtjnineeeffecaaaP27
namespace Go.Proofs.Ytjnineeeffecaaa.X
open Go Go.RowKit Go.ChangeShapes Go.WideShapes Go.ChangeAt
section
variable {H : Type} {enc : TypeId × Value → H} {P : Program} {w : World} {hd : Bool}
theorem openStructF {t : TypeId} {fs : Array Field} {fuel : Nat} {cs : List Value} {x : DataW H × List MemPlace} (ht : P.underlying t = some (.struct fs)) (h : DataW.trod enc P w 0 (fun _ => true) hd fuel t cs = some x) (hw : Wt P t x.1) :
    cs.length = P.cellsOf t ∧ ∀ (i : Nat) (f : Field), fs[i]? = some f → ∃ m y, m < fuel ∧ DataW.trod enc P w 0 (fun _ => true) hd m f.type ((cs.drop f.offset).take (P.cellsOf f.type)) = some y ∧ Wt P f.type y.1 := by
  obtain ⟨xs, n, hn, rfl, hl, hlen, hf⟩ := DataW.trod_struct ht h
  refine ⟨hl, fun i f hfi => ?_⟩
  have hi : i < xs.length := by rw [hlen]; exact (Array.getElem?_eq_some_iff.1 hfi).1
  have h1 := hf i f hfi
  rw [List.getElem?_eq_getElem hi] at h1
  exact ⟨n, _, by omega, h1, hw.field ht hfi (by rw [List.getElem?_map, List.getElem?_eq_getElem hi]; rfl)⟩
theorem openFieldsF {t : TypeId} {fs : Array Field} {fuel sz : Nat} {cs : List Value} {x : DataW H × List MemPlace} (ht : P.underlying t = some (.struct fs)) (hsz : P.cellsOf t = sz) (h : DataW.trod enc P w 0 (fun _ => true) hd fuel t cs = some x) (hw : Wt P t x.1) :
    cs.length = sz ∧ ∀ (i : Nat) (ty : TypeId) (off k : Nat), (fs[i]?).map (fun f => (f.type, f.offset)) = some (ty, off) → P.cellsOf ty = k → ∃ m y, m < fuel ∧ DataW.trod enc P w 0 (fun _ => true) hd m ty ((cs.drop off).take k) = some y ∧ Wt P ty y.1 := by
  obtain ⟨hl, hf⟩ := openStructF ht h hw
  refine ⟨hl.trans hsz, fun i ty off k hi hk => ?_⟩
  subst hk
  cases hfi : fs[i]? with
  | none => rw [hfi] at hi; cases hi
  | some f =>
    rw [hfi] at hi
    cases hi
    exact hf i f hfi
/-- A slice's elements. -/
theorem openSliceF {t e : TypeId} {sz fuel : Nat} {cs : List Value} {x : DataW H × List MemPlace} (ht : P.underlying t = some (.slice e)) (hc : P.cellsOf e = sz) (hpos : 0 < sz) (h : DataW.trod enc P w 0 (fun _ => true) hd fuel t cs = some x) (hw : Wt P t x.1) :
    ∃ (v : Value) (rows : List (List Value)), cs = [v] ∧ (∃ a m c, v = .slice a m c) ∧ rows.length ≤ maxLen ∧ rows.length * P.bytesOf e ≤ reachBytes ∧
      (∀ cs ∈ rows, cs.length = sz ∧ ∃ n y, n < fuel ∧ DataW.trod enc P w 0 (fun _ => true) hd n e cs = some y ∧ Wt P e y.1) ∧ Row sz v rows.length rows.flatten w := by
  rcases DataW.trod_slice ht h with ⟨rfl, _⟩ | ⟨a, len, cap, elems, rest, m, hfm, rfl, rfl, _, hlc, hcm, hlen, hel, hre, _⟩
  · exact ⟨_, [], rfl, ⟨_, _, _, rfl⟩, Nat.zero_le _, by simp, (fun _ h => nomatch h), row_nil sz w⟩
  obtain ⟨hw1, hw2⟩ := hw.slice ht
  obtain ⟨hre1, hre2⟩ := hre rfl
  have hwl : len * P.bytesOf e ≤ reachBytes := Nat.le_trans (Nat.mul_le_mul_right _ (by rw [List.length_map, hlen]; omega)) hw1
  have each : ∀ i, i < len → ∃ cs, w.cells? 0 (a.add (i * sz)) sz = some cs ∧ ∃ y, DataW.trod enc P w 0 (fun _ => true) hd m e cs = some y ∧ Wt P e y.1 := fun i hi => by
    have h2 := hel i hi
    have h3 : elems[i]? = some elems[i] := List.getElem?_eq_getElem (by omega)
    rw [h3, hc] at h2
    obtain ⟨cs, h4, h5⟩ := Option.bind_eq_some_iff.1 h2
    exact ⟨cs, h4, _, h5, hw2 _ (List.mem_map.2 ⟨_, List.getElem_mem (by omega), rfl⟩)⟩
  obtain ⟨b, off, spot⟩ := a
  by_cases h0 : cap = 0
  · subst h0
    obtain rfl : len = 0 := by omega
    refine ⟨_, [], rfl, ⟨_, _, _, rfl⟩, Nat.zero_le _, by simp, (fun _ h => nomatch h), by simp, ?_⟩
    cases spot with
    | none => exact .inr ⟨b, off, 0, rfl, Nat.le_refl _, fun j u hj => by simp at hj⟩
    | some s => exact .inl ⟨.inr ⟨b, off, s, rfl⟩, rfl⟩
  have hcell : ∃ cs, w.cells? 0 ((⟨b, off, spot⟩ : Addr).add 0) sz = some cs := by
    by_cases hl0 : len = 0
    · subst hl0
      have h2 := hre2 0 (by omega)
      have h3 : rest[0]? = some (rest[0]'(by omega)) := List.getElem?_eq_getElem (by omega)
      rw [h3, hc] at h2
      obtain ⟨cs, h4, _⟩ := Option.bind_eq_some_iff.1 h2
      exact ⟨cs, by simpa using h4⟩
    · obtain ⟨cs, h4, _⟩ := each 0 (by omega)
      exact ⟨cs, by simpa using h4⟩
  have hspot : spot = none := by
    obtain ⟨cs, h4⟩ := hcell
    obtain ⟨_, h5, h6⟩ := World.cells?_some h4
    have h7 := h6 0 hpos
    cases spot with
    | none => rfl
    | some s =>
      have : w.cell? (((⟨b, off, some s⟩ : Addr).add 0).add 0) = none := by
        unfold World.cell?
        split
        · simp [Addr.add]
        · rfl
      rw [this] at h7
      have h8 : cs[0]? = some (cs[0]'(by omega)) := List.getElem?_eq_getElem (by omega)
      rw [h8] at h7
      cases h7
  subst hspot
  obtain ⟨rows, h2, h3⟩ := exRows (fun i cs => w.cells? 0 ((⟨b, off, none⟩ : Addr).add (i * sz)) sz = some cs ∧ ∃ y, DataW.trod enc P w 0 (fun _ => true) hd m e cs = some y ∧ Wt P e y.1) len each
  have hsz : ∀ cs ∈ rows, cs.length = sz := fun cs hcs => by
    obtain ⟨i, hi, rfl⟩ := List.getElem_of_mem hcs
    obtain ⟨cs', h4, h5, _⟩ := h3 i (by omega)
    rw [List.getElem?_eq_getElem hi] at h4
    cases h4
    exact (World.cells?_some h5).2.1
  obtain ⟨h4, h5⟩ := flatRows hpos rows hsz
  refine ⟨_, rows, rfl, ⟨_, _, _, rfl⟩, by omega, by rw [h2]; exact hwl, fun cs hcs => ⟨hsz cs hcs, ?_⟩, by rw [h2] at h4 ⊢; exact h4, .inr ⟨b, off, cap, by rw [h2], by omega, fun j u hj => ?_⟩⟩
  · obtain ⟨i, hi, rfl⟩ := List.getElem_of_mem hcs
    obtain ⟨cs', h6, _, y, h7⟩ := h3 i (by omega)
    rw [List.getElem?_eq_getElem hi] at h6
    cases h6
    exact ⟨m, y, by omega, h7⟩
  · rw [h5] at hj
    obtain ⟨cs, h6, h7⟩ := Option.bind_eq_some_iff.1 hj
    have h8 : j / sz < rows.length := (List.getElem?_eq_some_iff.1 h6).1
    obtain ⟨cs', h9, h10, _⟩ := h3 (j / sz) (by omega)
    rw [h6] at h9
    cases h9
    have h11 := (World.cells?_some h10).2.2 (j % sz) (Nat.mod_lt _ hpos)
    rw [h7] at h11
    have h12 : ((⟨b, off, none⟩ : Addr).add (j / sz * sz)).add (j % sz) = ⟨b, off + j, none⟩ := by
      rw [Addr.add_lit, Addr.add_lit]
      have := Nat.div_add_mod j sz
      rw [Nat.mul_comm] at this
      congr 1
      omega
    rw [h12] at h11
    exact h11
end
end Go.Proofs.Ytjnineeeffecaaa.X
namespace Go.Proofs.Ytjnineeeffecaaa
open Go X
set_option maxRecDepth 100000
set_option maxHeartbeats 4000000
@[reducible] def bigB : Nat := 1000000000000000
section
variable {H : Type} {enc : TypeId × Value → H} {w : World} {hd : Bool}
theorem d3 : Try.prog.cellsOf 3 = 1 := by kernel_rfl
theorem d2 : Try.prog.cellsOf 2 = 1 := by kernel_rfl
theorem d9 : Try.prog.cellsOf 9 = 1 := by kernel_rfl
theorem d22 : Try.prog.cellsOf 22 = 1 := by kernel_rfl
theorem d25 : Try.prog.cellsOf 25 = 1 := by kernel_rfl
theorem d24 : Try.prog.cellsOf 24 = 4 := by kernel_rfl
theorem d27 : Try.prog.cellsOf 27 = 8 := by kernel_rfl
theorem b24 : Try.prog.bytesOf 24 = 56 := by kernel_rfl
theorem b27 : Try.prog.bytesOf 27 = 112 := by kernel_rfl
theorem reach_le {n k : Nat} (hk : 1 ≤ k) (h : n * k ≤ reachBytes) : n ≤ bigB := by
  have h1 : n * 1 ≤ n * k := Nat.mul_le_mul_left _ hk
  have h2 : reachBytes ≤ bigB := by decide
  omega
def inT (w : World) (t : TyM) : Prop := t.ty.ok bigB ∧ ∀ φ ∈ t.fps, φ.h (fun _ => False) w
def inN (w : World) (x : NdM) : Prop := x.nd.ok bigB ∧ ∀ φ ∈ x.fps, φ.h (fun _ => False) w
theorem toks_of : ∀ {l : List TyM}, (∀ t ∈ l, t.ty.ok bigB) → Ty.oks bigB (TyM.tys l)
  | [], _ => trivial
  | x :: l, h => ⟨h x List.mem_cons_self, toks_of fun t ht => h t (List.mem_cons_of_mem _ ht)⟩
theorem noks_of2 : ∀ {l : List NdM}, (∀ t ∈ l, t.nd.ok bigB) → Nd.oks bigB (NdM.nds l)
  | [], _ => trivial
  | x :: l, h => ⟨h x List.mem_cons_self, noks_of2 fun t ht => h t (List.mem_cons_of_mem _ ht)⟩
theorem openTy : ∀ (n fuel : Nat) (cs : List Value) (x : DataW H × List MemPlace), fuel ≤ n → DataW.trod enc Try.prog w 0 (fun _ => true) hd fuel 24 cs = some x → Wt Try.prog 24 x.1 → ∃ t : TyM, cs = t.cells ∧ inT w t := by
  intro n
  induction n with
  | zero =>
    intro fuel cs x hn h hw
    obtain ⟨hl, hf⟩ := openFieldsF Try.underlying24 d24 h hw
    obtain ⟨_, _, h0, _⟩ := hf 0 3 0 _ rfl d3
    omega
  | succ n ih =>
    intro fuel cs x hn h hw
    obtain ⟨hl, hf⟩ := openFieldsF Try.underlying24 d24 h hw
    match cs, hl with
    | [a0, a1, a2, a3], _ =>
      obtain ⟨_, _, _, h0, _⟩ := hf 0 3 0 _ rfl d3
      obtain ⟨_, _, _, h1, _⟩ := hf 1 3 1 _ rfl d3
      obtain ⟨_, _, _, h2, _⟩ := hf 2 9 2 _ rfl d9
      obtain ⟨m3, _, l3, h3, w3⟩ := hf 3 22 3 _ rfl d22
      obtain ⟨n0, e0, _⟩ := DataW.trod_int Try.underlying3 h0
      obtain ⟨n1, e1, _⟩ := DataW.trod_int Try.underlying3 h1
      obtain ⟨s2, e2, _⟩ := DataW.trod_string Try.underlying9 h2
      obtain ⟨v, rows, e3, ⟨a, m, c, rfl⟩, _, hb, hr, hR⟩ := openSliceF (sz := 4) Try.underlying22 d24 (by decide) h3 w3
      obtain ⟨l, rfl, hl'⟩ := rowsMap (f := TyM.cells) (p := inT w) (rows := rows) fun cs hcs => by
        obtain ⟨_, k, y, hk, hy, wy⟩ := hr cs hcs
        exact ih k cs y (by omega) hy wy
      rw [List.length_map] at hb hR
      cases e0; cases e1; cases e2; cases e3
      refine ⟨.mk n0 n1 s2 a m c l, rfl, ?_, ?_⟩
      · rw [TyM.ty, Ty.ok, tys_len]
        exact ⟨reach_le (by rw [b24]; decide) hb, toks_of fun t ht => (hl' t ht).1⟩
      · intro φ hφ
        rw [TyM.fps, TyM.fpsL_eq] at hφ
        rcases List.mem_cons.1 hφ with rfl | hφ
        · exact hR.top
        · obtain ⟨t, ht, hφ⟩ := List.mem_flatMap.1 hφ
          exact (hl' t ht).2 φ hφ
theorem openNd : ∀ (n fuel : Nat) (cs : List Value) (x : DataW H × List MemPlace), fuel ≤ n → DataW.trod enc Try.prog w 0 (fun _ => true) hd fuel 27 cs = some x → Wt Try.prog 27 x.1 → ∃ t : NdM, cs = t.cells ∧ inN w t := by
  intro n
  induction n with
  | zero =>
    intro fuel cs x hn h hw
    obtain ⟨hl, hf⟩ := openFieldsF Try.underlying27 d27 h hw
    obtain ⟨_, _, h0, _⟩ := hf 0 3 0 _ rfl d3
    omega
  | succ n ih =>
    intro fuel cs x hn h hw
    obtain ⟨hl, hf⟩ := openFieldsF Try.underlying27 d27 h hw
    match cs, hl with
    | [a0, a1, a2, a3, a4, a5, a6, a7], _ =>
      obtain ⟨_, _, _, h0, _⟩ := hf 0 3 0 _ rfl d3
      obtain ⟨_, _, _, h1, _⟩ := hf 1 9 1 _ rfl d9
      obtain ⟨_, _, _, h2, _⟩ := hf 2 2 2 _ rfl d2
      obtain ⟨m3, _, l3, h3, w3⟩ := hf 3 24 3 _ rfl d24
      obtain ⟨m4, _, l4, h4, w4⟩ := hf 4 25 7 _ rfl d25
      obtain ⟨n0, e0, _⟩ := DataW.trod_int Try.underlying3 h0
      obtain ⟨s1, e1, _⟩ := DataW.trod_string Try.underlying9 h1
      obtain ⟨n2, e2, _⟩ := DataW.trod_int Try.underlying2 h2
      obtain ⟨t, e3, ht⟩ := openTy m3 m3 _ _ (Nat.le_refl _) h3 w3
      obtain ⟨v, rows, e4, ⟨a, m, c, rfl⟩, _, hb, hr, hR⟩ := openSliceF (sz := 8) Try.underlying25 d27 (by decide) h4 w4
      obtain ⟨l, rfl, hl'⟩ := rowsMap (f := NdM.cells) (p := inN w) (rows := rows) fun cs hcs => by
        obtain ⟨_, k, y, hk, hy, wy⟩ := hr cs hcs
        exact ih k cs y (by omega) hy wy
      rw [List.length_map] at hb hR
      cases e0; cases e1; cases e2; cases e3; cases e4
      refine ⟨.mk n0 s1 n2 t a m c l, rfl, ?_, ?_⟩
      · rw [NdM.nd, Nd.ok, nds_len]
        exact ⟨ht.1, reach_le (by rw [b27]; decide) hb, noks_of2 fun t ht => (hl' t ht).1⟩
      · intro φ hφ
        rw [NdM.fps, NdM.fpsL_eq] at hφ
        rcases List.mem_cons.1 hφ with rfl | hφ
        · exact hR.top
        · rcases List.mem_append.1 hφ with hφ | hφ
          · exact ht.2 φ hφ
          · obtain ⟨t, ht, hφ⟩ := List.mem_flatMap.1 hφ
            exact (hl' t ht).2 φ hφ
theorem openNode {v : Value} {d : DataW H} {ps : List MemPlace} (h : DataW.Trod enc Try.prog w 0 (fun _ => true) hd 27 v d ps) (hv : ∃ cs, v = .agg cs) (hw : Wt Try.prog 27 d) : ∃ x : NdM, v = x.v ∧ x.nd.ok bigB ∧ (ndFP x).h (fun _ => False) w := by
  obtain ⟨fuel, h⟩ := h
  obtain ⟨cs, rfl⟩ := hv
  obtain ⟨x, hx, hi⟩ := openNd fuel fuel _ _ (Nat.le_refl _) h hw
  have hcs : (Value.agg cs).cells.toList = cs.toList := rfl
  rw [hcs] at hx
  refine ⟨x, ?_, hi⟩
  rw [show cs = x.cells.toArray from Array.toList_inj.1 (by rw [hx])]
end
attribute [local irreducible] XC XL XQ Tri blk Shows Sq Rd Mt inBlockX XS XG XG0 TkS AnS rowO tyFP tysFP ndFP ndsFP Row.fp FP.all
theorem depths_tri {x : NdM} (hx : x.nd.ok bigB) : Tri Try.prog 3 [x.v] [] [ndFP x, gF] fun e L Φ => e = .returned (.bool true) ∧ L = [] ∧ Φ = [] := by
  refine Tri.of Try.func3 rfl fun c => ?_
  repeat' (first
    | refine XStep ?_
    | refine Fa.mk fun b => ?_
    | refine Fb.mk fun b2 => ?_
    | refine Fz.mk fun z => ?_
    | (refine Gd.mk (fun h => ?_) (fun h => ?_) <;> try (first | (exfalso; omega) | exact absurd rfl h | (exfalso; simp at h <;> omega)))
    | refine Ands.mk ?_ ?_
    | (refine XC.is ?_; refine W110 ?_; refine XC.planG (by kernel_rfl) (fun _ m h => h.drewn m) ?_; (conv => arg 5; reduce); refine XG0.of ?_; (conv => arg 5; reduce); (conv => arg 6; reduce); refine XG.go (by decide +kernel) ?_))
  refine XL.triq (shown_tri) (by rfl) (by rfl) (by rfl) (by rfl) (by rfl) (by rfl) (by rfl) (by (repeat' (first | exact Sels.nil | exact Sel.here | apply Sels.cons | apply Sel.there)); done) (by (repeat' (first | exact Sels.nil | exact Sel.here | apply Sels.cons | apply Sel.there)); done) (by (repeat (first | exact sub0 | refine subC (by repeat (first | exact List.Mem.head _ | apply List.Mem.tail)) ?_)); done) ?_
  repeat' (first
    | refine XStep ?_
    | refine Fa.mk fun b => ?_
    | refine Fb.mk fun b2 => ?_
    | refine Fz.mk fun z => ?_
    | (refine Gd.mk (fun h => ?_) (fun h => ?_) <;> try (first | (exfalso; omega) | exact absurd rfl h | (exfalso; simp at h <;> omega)))
    | refine Ands.mk ?_ ?_
    | (refine XC.is ?_; refine W110 ?_; refine XC.planG (by kernel_rfl) (fun _ m h => h.drewn m) ?_; (conv => arg 5; reduce); refine XG0.of ?_; (conv => arg 5; reduce); (conv => arg 6; reduce); refine XG.go (by decide +kernel) ?_))
  refine XL.triq (Depth_tri (B := bigB) (Nat.le_refl _) hx) (by rfl) (by rfl) (by rfl) (by rfl) (by rfl) (by rfl) (by rfl) (by (repeat' (first | exact Sels.nil | exact Sel.here | apply Sels.cons | apply Sel.there)); done) (by (repeat' (first | exact Sels.nil | exact Sel.here | apply Sels.cons | apply Sel.there)); done) (by (repeat (first | exact sub0 | refine subC (by repeat (first | exact List.Mem.head _ | apply List.Mem.tail)) ?_)); done) ?_
  repeat' (first
    | refine XStep ?_
    | refine Fa.mk fun b => ?_
    | refine Fb.mk fun b2 => ?_
    | refine Fz.mk fun z => ?_
    | (refine Gd.mk (fun h => ?_) (fun h => ?_) <;> try (first | (exfalso; omega) | exact absurd rfl h | (exfalso; simp at h <;> omega)))
    | refine Ands.mk ?_ ?_
    | (refine XC.is ?_; refine W110 ?_; refine XC.planG (by kernel_rfl) (fun _ m h => h.drewn m) ?_; (conv => arg 5; reduce); refine XG0.of ?_; (conv => arg 5; reduce); (conv => arg 6; reduce); refine XG.go (by decide +kernel) ?_))
  refine XL.triq (depth12_tri (B := bigB) (Nat.le_refl _) 250 (Nat.le_refl _) x hx) (by rfl) (by rfl) (by rfl) (by rfl) (by rfl) (by rfl) (by rfl) (by (repeat' (first | exact Sels.nil | exact Sel.here | apply Sels.cons | apply Sel.there)); done) (by (repeat' (first | exact Sels.nil | exact Sel.here | apply Sels.cons | apply Sel.there)); done) (by (repeat (first | exact sub0 | refine subC (by repeat (first | exact List.Mem.head _ | apply List.Mem.tail)) ?_)); done) ?_
  repeat' (first
    | refine XStep ?_
    | refine Fa.mk fun b => ?_
    | refine Fb.mk fun b2 => ?_
    | refine Fz.mk fun z => ?_
    | (refine Gd.mk (fun h => ?_) (fun h => ?_) <;> try (first | (exfalso; omega) | exact absurd rfl h | (exfalso; simp at h <;> omega)))
    | refine Ands.mk ?_ ?_
    | (refine XC.is ?_; refine W110 ?_; refine XC.planG (by kernel_rfl) (fun _ m h => h.drewn m) ?_; (conv => arg 5; reduce); refine XG0.of ?_; (conv => arg 5; reduce); (conv => arg 6; reduce); refine XG.go (by decide +kernel) ?_))
  refine XQ.done1 (by rfl) (by rfl) (⟨congrArg (fun b => Ending.returned (.bool b)) (decide_eq_true rfl), rfl, rfl⟩) (by (repeat' (first | exact Sels.nil | exact Sel.here | apply Sels.cons | apply Sel.there)); done) (by (repeat (first | exact sub0 | refine subC (by repeat (first | exact List.Mem.head _ | apply List.Mem.tail)) ?_)); done)
theorem parseDepths_walk {x : NdM} (hok : x.nd.ok bigB) (w : World) (hx : (ndFP x).h (fun _ => False) w) (hsh : w.ShapedOpen Try.prog) :
    Calls Try.prog 3 #[x.v] w fun e w' => e = .returned (.bool true) ∧ RowKit.Below w.heap.size w w' :=
  Tri.top (depths_tri hok) fun φ h => by
    rcases List.mem_cons.1 h with rfl | h
    · exact hx
    · exact gF_of hsh φ h
namespace parseDepths
open Go.ChangeShapes Go.WideShapes Go.ChangeAt Go.RowKit
set_option maxRecDepth 100000 in
theorem lifted (os : Os) (started : os.Started) (H : Type) (enc : TypeId × Value → H) :
    ReturnsInHanded {} Try.checked os 3 .any (Rows.parseDepthsSpec.pre6 enc Try.prog Try.f3 Rows.parseDepthsRow.domain false) (Rows.parseDepthsSpec.post enc Try.prog Try.f3 false true false false) := by
  refine returnsInHanded_of_change_shaped (C := Try.checked) own started (by kernel_rfl) Try.func3
    (ChangeSpec.witness6 (enc := enc) (C := Try.checked) false ⟨#[], #[.agg #[.int .i64 0, .string ⟨#[]⟩, .int .i64 0, .int .i64 0, .int .i64 0, .string ⟨#[]⟩, .slice none 0 0, .slice none 0 0]], []⟩ 8 (by kernel_rfl) (by kernel_rfl) (by kernel_rfl) (by kernel_rfl)) ?_
  intro W base args ds gs before hval0 hW hcnd hwt hsh _
  have hval : ∀ (j : Nat) t v, Try.f3.params[j]? = some t → args[j]? = some v → Value.okWide Try.prog W .any base t v := hval0
  have hW' := hW
  obtain ⟨p, q, hA0, hV, rfl, hfz, hnd⟩ := hW
  have hA : DataW.TrodAll enc Try.prog W 0 (fun _ => true) true Try.f3.params.toList args.toList ds p := hA0
  have hwt2 : (DataW.weightsEach Try.prog (Try.f3.params.toList ++ Rows.parseDepthsSpec.plain.varTypes Try.prog) (ds ++ gs)).all (· ≤ reachBytes) = true := hwt
  rw [Try.params3] at hA hval hwt2
  obtain ⟨v0, vs0, d0, ds0, p0, q0, hargs, rfl, rfl, h0, r0⟩ := trodAll_cons hA
  obtain ⟨rfl, rfl, rfl⟩ := trodAll_nil r0
  obtain rfl : args = #[v0] := by cases args; simp_all
  obtain ⟨cs, hcs, _⟩ := okWide_struct Try.underlying27 (hval 0 27 v0 rfl rfl)
  obtain ⟨x, rfl, hok, hΦ⟩ := openNode h0 ⟨cs, hcs⟩ (Wt.of_each hwt2 (j := 0) rfl rfl)
  refine (parseDepths_walk hok W hΦ hsh).mono fun e W' ⟨he, hg⟩ => ?_
  subst he
  exact ⟨_, rfl, law_post hW' rfl (by kernel_rfl) (fun t ht => by have ht : t ∈ [27] := ht; simp only [List.mem_cons, List.not_mem_nil, or_false] at ht; rcases ht with rfl <;> exact ⟨by kernel_rfl, of_decide_eq_true (by kernel_rfl)⟩) (T := 4) (by rfl) Try.underlying4
    (fun ds hl => by match ds, hl with | [e0], _ => exact ⟨rfl, rfl, rfl⟩) hg⟩
theorem over : Rows.parseDepthsRow.holds Try.pinned (OpenSpec.ofChange Rows.parseDepthsSpec) :=
  OpenClaim.holds_of_wide 3 Try.f3 rfl rfl rfl rfl rfl rfl rfl ⟨rfl, rfl, rfl, rfl, rfl⟩ rfl rfl rfl rfl rfl (by kernel_rfl) Try.func3 (by kernel_rfl)
    (of_decide_eq_true (by kernel_rfl)) (by unfold Func.isWrapper; first | (rw [if_pos (by decide +kernel)]; kernel_rfl) | (rw [if_neg (by decide +kernel)]; exact ⟨rfl, rfl⟩))
    (fun os started H enc _ => lifted os started H enc)
theorem proved : Rows.ParseDepthsSaid := over
end parseDepths
#print axioms parseDepths.proved
end Go.Proofs.Ytjnineeeffecaaa
