/- The parser's functions of types: a type's word, its stars, its brackets. -/
import Derived.Test.YtjnineeeffecaaaP2
namespace Go.Proofs.Ytjnineeeffecaaa
open Go X
set_option maxRecDepth 100000
set_option maxHeartbeats 4000000
attribute [local irreducible] XC XL XQ Tri blk Shows Sq Rd Mt inBlockX XS XG XG0 TkS AnS rowO tyFP tysFP ndFP ndsFP Row.fp FP.all
@[reducible] def TyR (S : Src) (lv : Value) (pb d i : Nat) (m : PM Ty) : Ending → List SP → List FP → Prop :=
  RP S lv pb d TyM.v (fun x => [tyFP x]) (fun x j => m i = .ok x.ty j ∧ i < j ∧ j ≤ S.T.length) (fun a b => m i = .bad a b)
theorem wordOf_eq (s : ByteArray) : ∀ l : List (ByteArray × Int), (lookS s l).getD 0 = wordOf s l
  | [] => rfl
  | (t, k) :: l => by
    unfold lookS wordOf
    split
    · rfl
    · exact wordOf_eq s l
theorem typed_lt {S : Src} {i : Nat} (h : typed S i = true) : i < S.T.length := isB_lt h
theorem base_tri {S : Src} (hS : S.T.length ≤ 20000) {lv : Value} {pb i d : Nat} (hi : i ≤ 30000) : Tri Try.prog 26 [.pointer (some ⟨pb, 0, none⟩)] [pB S lv pb i d] [tkF S lv] (TyR S lv pb d i (base S)) := by
  refine Tri.of Try.func26 rfl fun c => ?_
  repeat' (first
    | refine XStep ?_
    | refine Fa.mk fun b => ?_
    | refine Fb.mk fun b2 => ?_
    | refine Fz.mk fun z => ?_
    | (refine Gd.mk (fun h => ?_) (fun h => ?_) <;> try (first | (exfalso; omega) | exact absurd rfl h | (exfalso; simp at h <;> omega)))
    | refine Ands.mk ?_ ?_
    | (refine XC.is ?_; refine W110 ?_; refine XC.planG (by kernel_rfl) (fun _ m h => h.drewn m) ?_; (conv => arg 5; reduce); refine XG0.of ?_; (conv => arg 5; reduce); (conv => arg 6; reduce); refine XG.go (by decide +kernel) ?_))
  refine XL.triq (typed_tri hS (i := i) hi) (by rfl) (by rfl) (by rfl) (by rfl) (by rfl) (by rfl) (by rfl) (by (repeat' (first | exact Sels.nil | exact Sel.here | apply Sels.cons | apply Sel.there)); done) (by (repeat' (first | exact Sels.nil | exact Sel.here | apply Sels.cons | apply Sel.there)); done) (by (repeat (first | exact sub0 | refine subC (by repeat (first | exact List.Mem.head _ | apply List.Mem.tail)) ?_)); done) ?_
  obtain ⟨b, hT⟩ : ∃ b, typed S i = b := ⟨_, rfl⟩
  rw [hT]
  cases b
  · repeat' (first
      | refine XStep ?_
      | refine Fa.mk fun b => ?_
      | refine Fb.mk fun b2 => ?_
      | refine Fz.mk fun z => ?_
      | (refine Gd.mk (fun h => ?_) (fun h => ?_) <;> try (first | (exfalso; omega) | exact absurd rfl h | (exfalso; simp at h <;> omega)))
      | refine Ands.mk ?_ ?_
      | (refine XC.is ?_; refine W110 ?_; refine XC.planG (by kernel_rfl) (fun _ m h => h.drewn m) ?_; (conv => arg 5; reduce); refine XG0.of ?_; (conv => arg 5; reduce); (conv => arg 6; reduce); refine XG.go (by decide +kernel) ?_))
    refine XL.trig (give_tri (i := i) hS (by omega)) (by rfl) (by rfl) (by rfl) (by rfl) (by rfl) (by rfl) (by rfl) (by (repeat' (first | exact Sels.nil | exact Sel.here | apply Sels.cons | apply Sel.there)); done) (by (repeat (first | exact sub0 | refine subC (by repeat (first | exact List.Mem.head _ | apply List.Mem.tail)) ?_)); done) ?_
    (repeat (first | refine XQ.sqP ?_ | refine XQ.rdP ?_ | refine XQ.mtP ?_ | refine XQ.blockP ?_ | refine XQ.anSP ?_))
    exact XQ.rpBad (by (repeat' (first | exact Sels.nil | exact Sel.here | apply Sels.cons | apply Sel.there)); done) (by simp [base, hT])
  · have hlt := typed_lt hT
    repeat' (first
      | refine XStep ?_
      | refine Fa.mk fun b => ?_
      | refine Fb.mk fun b2 => ?_
      | refine Fz.mk fun z => ?_
      | (refine Gd.mk (fun h => ?_) (fun h => ?_) <;> try (first | (exfalso; omega) | exact absurd rfl h | (exfalso; simp at h <;> omega)))
      | refine Ands.mk ?_ ?_
      | (refine XC.is ?_; refine W110 ?_; refine XC.planG (by kernel_rfl) (fun _ m h => h.drewn m) ?_; (conv => arg 5; reduce); refine XG0.of ?_; (conv => arg 5; reduce); (conv => arg 6; reduce); refine XG.go (by decide +kernel) ?_))
    refine XL.triq (due_tri hS (i := i) (k := 0) hi (by omega)) (by rfl) (by rfl) (by rfl) (by rfl) (by rfl) (by rfl) (by rfl) (by (repeat' (first | exact Sels.nil | exact Sel.here | apply Sels.cons | apply Sel.there)); done) (by (repeat' (first | exact Sels.nil | exact Sel.here | apply Sels.cons | apply Sel.there)); done) (by (repeat (first | exact sub0 | refine subC (by repeat (first | exact List.Mem.head _ | apply List.Mem.tail)) ?_)); done) ?_
    repeat' (first
      | refine XStep ?_
      | refine Fa.mk fun b => ?_
      | refine Fb.mk fun b2 => ?_
      | refine Fz.mk fun z => ?_
      | (refine Gd.mk (fun h => ?_) (fun h => ?_) <;> try (first | (exfalso; omega) | exact absurd rfl h | (exfalso; simp at h <;> omega)))
      | refine Ands.mk ?_ ?_
      | (refine XC.is ?_; refine W110 ?_; refine XC.planG (by kernel_rfl) (fun _ m h => h.drewn m) ?_; (conv => arg 5; reduce); refine XG0.of ?_; (conv => arg 5; reduce); (conv => arg 6; reduce); refine XG.go (by decide +kernel) ?_))
    all_goals have e := wordOf_eq (due S i).text words
    · have h7 : wordOf (due S i).text words = 7 := by rw [← e]; assumption
      refine XL.trip (name_tri hS (i := i + 1) (by omega)) (by rfl) (by rfl) (by rfl) (by rfl) (by rfl) (by rfl) (by rfl) (by (repeat' (first | exact Sels.nil | exact Sel.here | apply Sels.cons | apply Sel.there)); done) (by (repeat (first | exact sub0 | refine subC (by repeat (first | exact List.Mem.head _ | apply List.Mem.tail)) ?_)); done) ?_ ?_
      rotate_left
      · rintro ⟨t1, k1, i1⟩ hb
        dsimp only at hb
        (repeat (first | refine XQ.sqP ?_ | refine XQ.rdP ?_ | refine XQ.mtP ?_ | refine XQ.blockP ?_ | refine XQ.anSP ?_))
        exact XQ.rpBad (by (repeat' (first | exact Sels.nil | exact Sel.here | apply Sels.cons | apply Sel.there)); done) (by simp [PM.bind, PM.pure, hb, base, h7, hT])
      rintro ⟨x, j⟩ ⟨hx, hx', hx''⟩
      dsimp only at hx hx' hx''
      conv => arg 9; dsimp only [List.cons_append, List.nil_append]
      try conv => arg 7; dsimp only
      repeat' (first
        | refine XStep ?_
        | refine Fa.mk fun b => ?_
        | refine Fb.mk fun b2 => ?_
        | refine Fz.mk fun z => ?_
        | (refine Gd.mk (fun h => ?_) (fun h => ?_) <;> try (first | (exfalso; omega) | exact absurd rfl h | (exfalso; simp at h <;> omega)))
        | refine Ands.mk ?_ ?_
        | (refine XC.is ?_; refine W110 ?_; refine XC.planG (by kernel_rfl) (fun _ m h => h.drewn m) ?_; (conv => arg 5; reduce); refine XG0.of ?_; (conv => arg 5; reduce); (conv => arg 6; reduce); refine XG.go (by decide +kernel) ?_))
      refine XQ.conv (fun w h => h.tyLeaf ((lookS (due S i).text words).getD 0) 0 x) ?_
      exact XQ.doneC (by rfl) (by rfl) (by rfl) (by rfl) (by repeat (first | exact Sel.here | apply Sel.there)) (by rfl) (RP.ok (j := j) (x := .mk ((lookS (due S i).text words).getD 0) 0 x none 0 0 []) ⟨by simp [base, hT, PM.bind, PM.pure, hx, h7, e, TyM.ty, TyM.tys], by omega, by omega⟩) (by (repeat' (first | exact Sels.nil | exact Sel.here | apply Sels.cons | apply Sel.there)); done) (by (repeat (first | exact sub0 | refine subC (by repeat (first | exact List.Mem.head _ | apply List.Mem.tail)) ?_)); done)
    · have h8 : wordOf (due S i).text words = 8 := by rw [← e]; assumption
      refine XL.trip (name_tri hS (i := i + 1) (by omega)) (by rfl) (by rfl) (by rfl) (by rfl) (by rfl) (by rfl) (by rfl) (by (repeat' (first | exact Sels.nil | exact Sel.here | apply Sels.cons | apply Sel.there)); done) (by (repeat (first | exact sub0 | refine subC (by repeat (first | exact List.Mem.head _ | apply List.Mem.tail)) ?_)); done) ?_ ?_
      rotate_left
      · rintro ⟨t1, k1, i1⟩ hb
        dsimp only at hb
        (repeat (first | refine XQ.sqP ?_ | refine XQ.rdP ?_ | refine XQ.mtP ?_ | refine XQ.blockP ?_ | refine XQ.anSP ?_))
        exact XQ.rpBad (by (repeat' (first | exact Sels.nil | exact Sel.here | apply Sels.cons | apply Sel.there)); done) (by simp [PM.bind, PM.pure, hb, base, h8, hT])
      rintro ⟨x, j⟩ ⟨hx, hx', hx''⟩
      dsimp only at hx hx' hx''
      conv => arg 9; dsimp only [List.cons_append, List.nil_append]
      try conv => arg 7; dsimp only
      repeat' (first
        | refine XStep ?_
        | refine Fa.mk fun b => ?_
        | refine Fb.mk fun b2 => ?_
        | refine Fz.mk fun z => ?_
        | (refine Gd.mk (fun h => ?_) (fun h => ?_) <;> try (first | (exfalso; omega) | exact absurd rfl h | (exfalso; simp at h <;> omega)))
        | refine Ands.mk ?_ ?_
        | (refine XC.is ?_; refine W110 ?_; refine XC.planG (by kernel_rfl) (fun _ m h => h.drewn m) ?_; (conv => arg 5; reduce); refine XG0.of ?_; (conv => arg 5; reduce); (conv => arg 6; reduce); refine XG.go (by decide +kernel) ?_))
      refine XQ.conv (fun w h => h.tyLeaf ((lookS (due S i).text words).getD 0) 0 x) ?_
      exact XQ.doneC (by rfl) (by rfl) (by rfl) (by rfl) (by repeat (first | exact Sel.here | apply Sel.there)) (by rfl) (RP.ok (j := j) (x := .mk ((lookS (due S i).text words).getD 0) 0 x none 0 0 []) ⟨by simp [base, hT, PM.bind, PM.pure, hx, h8, e, TyM.ty, TyM.tys], by omega, by omega⟩) (by (repeat' (first | exact Sels.nil | exact Sel.here | apply Sels.cons | apply Sel.there)); done) (by (repeat (first | exact sub0 | refine subC (by repeat (first | exact List.Mem.head _ | apply List.Mem.tail)) ?_)); done)
    · have h7 : ¬ wordOf (due S i).text words = 7 := by rw [← e]; assumption
      have h8 : ¬ wordOf (due S i).text words = 8 := by rw [← e]; assumption
      refine XQ.conv (fun w h => h.tyLeaf ((lookS (due S i).text words).getD 0) 0 (tx [])) ?_
      exact XQ.doneC (by rfl) (by rfl) (by rfl) (by rfl) (by repeat (first | exact Sel.here | apply Sel.there)) (by rfl) (RP.ok (j := i + 1) (x := .mk ((lookS (due S i).text words).getD 0) 0 (tx []) none 0 0 []) ⟨by simp [base, hT, h7, h8, e, TyM.ty, TyM.tys], by omega, by omega⟩) (by (repeat' (first | exact Sels.nil | exact Sel.here | apply Sels.cons | apply Sel.there)); done) (by (repeat (first | exact sub0 | refine subC (by repeat (first | exact List.Mem.head _ | apply List.Mem.tail)) ?_)); done)
/-- Of a rule that may take nothing. -/
@[reducible] def TyS (S : Src) (lv : Value) (pb d i : Nat) (m : PM Ty) : Ending → List SP → List FP → Prop :=
  RP S lv pb d TyM.v (fun x => [tyFP x]) (fun x j => m i = .ok x.ty j ∧ i ≤ j ∧ j ≤ S.T.length) (fun a b => m i = .bad a b)
theorem stars_tri {S : Src} (hS : S.T.length ≤ 20000) {lv : Value} {pb i d : Nat} {m : TyM} (hi : i ≤ S.T.length) : Tri Try.prog 28 [.pointer (some ⟨pb, 0, none⟩), m.v] [pB S lv pb i d] [tkF S lv, tyFP m] (TyS S lv pb d i (stars S m.ty)) := by
  refine Tri.of Try.func28 rfl fun c => ?_
  repeat' (first
    | refine XStep ?_
    | refine Fa.mk fun b => ?_
    | refine Fb.mk fun b2 => ?_
    | refine Fz.mk fun z => ?_
    | (refine Gd.mk (fun h => ?_) (fun h => ?_) <;> try (first | (exfalso; omega) | exact absurd rfl h | (exfalso; simp at h <;> omega)))
    | refine Ands.mk ?_ ?_
    | (refine XC.is ?_; refine W110 ?_; refine XC.planG (by kernel_rfl) (fun _ m h => h.drewn m) ?_; (conv => arg 5; reduce); refine XG0.of ?_; (conv => arg 5; reduce); (conv => arg 6; reduce); refine XG.go (by decide +kernel) ?_))
  rename_i b0
  refine XC.loop (fun s : Nat × Nat × TyM => [(0, .pointer (some ⟨pb, 0, none⟩)), (3, .pointer (some ⟨b0, 0, none⟩)), (4, .pointer (some ⟨b, 0, none⟩))])
    (fun s w => (i ≤ s.2.1 ∧ s.2.1 ≤ S.T.length ∧ S.T.length < s.1 + s.2.1 ∧ stars S m.ty i = starsF S s.1 s.2.2.ty s.2.1) ∧ St c [cel b0 s.2.2.cells.toArray 24, cel b TyM.nil.cells.toArray 24, pB S lv pb s.2.1 d] [tyFP s.2.2, tkF S lv] w) (fun s => s.1) (S.T.length + 1, i, m) (by (repeat (first | exact fits_nil | refine fits_cons (by rfl) ?_)); done) (fun w h => ⟨⟨by dsimp only; omega, by dsimp only; omega, by dsimp only; omega, rfl⟩, h.less (by (repeat' (first | exact Sels.nil | exact Sel.here | apply Sels.cons | apply Sel.there)); done) (by (repeat (first | exact sub0 | refine subC (by repeat (first | exact List.Mem.head _ | apply List.Mem.tail)) ?_)); done)⟩) ?_
  rintro ⟨f, j, x⟩
  dsimp only
  refine XC.pure (fun hi => ?_)
  obtain ⟨h1, h2, h3, h4⟩ := hi
  obtain ⟨f, rfl⟩ : ∃ g, f = g + 1 := ⟨f - 1, by omega⟩
  repeat' (first
    | refine XStep ?_
    | refine Fa.mk fun b => ?_
    | refine Fb.mk fun b2 => ?_
    | refine Fz.mk fun z => ?_
    | (refine Gd.mk (fun h => ?_) (fun h => ?_) <;> try (first | (exfalso; omega) | exact absurd rfl h | (exfalso; simp at h <;> omega)))
    | refine Ands.mk ?_ ?_
    | (refine XC.is ?_; refine W110 ?_; refine XC.planG (by kernel_rfl) (fun _ m h => h.drewn m) ?_; (conv => arg 5; reduce); refine XG0.of ?_; (conv => arg 5; reduce); (conv => arg 6; reduce); refine XG.go (by decide +kernel) ?_))
  refine XL.trir (takes_tri (t := tx [42]) (i := j) hS (by omega)) (by rfl) (by rfl) (by rfl) (by rfl) (by rfl) (by rfl) (by rfl) (by (repeat' (first | exact Sels.nil | exact Sel.here | apply Sels.cons | apply Sel.there)); done) (by (repeat (first | exact sub0 | refine subC (by repeat (first | exact List.Mem.head _ | apply List.Mem.tail)) ?_)); done) ?_
  rintro q hq
  conv => arg 9; dsimp only [List.cons_append, List.nil_append]
  try conv => arg 7; dsimp only
  cases q <;> dsimp only [bInc]
  · repeat' (first
      | refine XStep ?_
      | refine Fa.mk fun b => ?_
      | refine Fb.mk fun b2 => ?_
      | refine Fz.mk fun z => ?_
      | (refine Gd.mk (fun h => ?_) (fun h => ?_) <;> try (first | (exfalso; omega) | exact absurd rfl h | (exfalso; simp at h <;> omega)))
      | refine Ands.mk ?_ ?_
      | (refine XC.is ?_; refine W110 ?_; refine XC.planG (by kernel_rfl) (fun _ m h => h.drewn m) ?_; (conv => arg 5; reduce); refine XG0.of ?_; (conv => arg 5; reduce); (conv => arg 6; reduce); refine XG.go (by decide +kernel) ?_))
    exact XQ.doneC (by rfl) (by rfl) (by rfl) (by rfl) (by repeat (first | exact Sel.here | apply Sel.there)) (by rfl) (RP.ok (j := j) (x := x) ⟨by rw [h4]; simp [starsF, hq], by omega, by omega⟩) (by (repeat' (first | exact Sels.nil | exact Sel.here | apply Sels.cons | apply Sel.there)); done) (by (repeat (first | exact sub0 | refine subC (by repeat (first | exact List.Mem.head _ | apply List.Mem.tail)) ?_)); done)
  · have hlt := isB_lt hq
    repeat' (first
      | refine XStep ?_
      | refine Fa.mk fun b => ?_
      | refine Fb.mk fun b2 => ?_
      | refine Fz.mk fun z => ?_
      | (refine Gd.mk (fun h => ?_) (fun h => ?_) <;> try (first | (exfalso; omega) | exact absurd rfl h | (exfalso; simp at h <;> omega)))
      | refine Ands.mk ?_ ?_
      | (refine XC.is ?_; refine W110 ?_; refine XC.planG (by kernel_rfl) (fun _ m h => h.drewn m) ?_; (conv => arg 5; reduce); refine XG0.of ?_; (conv => arg 5; reduce); (conv => arg 6; reduce); refine XG.go (by decide +kernel) ?_))
    refine XL.trir (pointer_tri (m := x)) (by rfl) (by rfl) (by rfl) (by rfl) (by rfl) (by rfl) (by rfl) (by (repeat' (first | exact Sels.nil | exact Sel.here | apply Sels.cons | apply Sel.there)); done) (by (repeat (first | exact sub0 | refine subC (by repeat (first | exact List.Mem.head _ | apply List.Mem.tail)) ?_)); done) ?_
    rintro y hy
    conv => arg 9; dsimp only [List.cons_append, List.nil_append]
    try conv => arg 7; dsimp only
    repeat' (first
      | refine XStep ?_
      | refine Fa.mk fun b => ?_
      | refine Fb.mk fun b2 => ?_
      | refine Fz.mk fun z => ?_
      | (refine Gd.mk (fun h => ?_) (fun h => ?_) <;> try (first | (exfalso; omega) | exact absurd rfl h | (exfalso; simp at h <;> omega)))
      | refine Ands.mk ?_ ?_
      | (refine XC.is ?_; refine W110 ?_; refine XC.planG (by kernel_rfl) (fun _ m h => h.drewn m) ?_; (conv => arg 5; reduce); refine XG0.of ?_; (conv => arg 5; reduce); (conv => arg 6; reduce); refine XG.go (by decide +kernel) ?_))
    exact XQ.round (f, j + 1, y) (by (repeat (first | exact fits_nil | refine fits_cons (by rfl) ?_)); done) (fun w hw => ⟨⟨by dsimp only; omega, by dsimp only; omega, by dsimp only; omega, by rw [h4]; simp [starsF, hq, hy]⟩, hw.less (by (repeat' (first | exact Sels.nil | exact Sel.here | apply Sels.cons | apply Sel.there)); done) (by (repeat (first | exact sub0 | refine subC (by repeat (first | exact List.Mem.head _ | apply List.Mem.tail)) ?_)); done)⟩) (by dsimp only; omega)
theorem arrays_tri {S : Src} (hS : S.T.length ≤ 20000) {lv : Value} {pb i d : Nat} (hi : i ≤ S.T.length) : Tri Try.prog 54 [.pointer (some ⟨pb, 0, none⟩)] [pB S lv pb i d] [tkF S lv]
    (RetP (fun x : Value × List Int × Nat => x.1) (fun x => [rowO 3 1 x.1 x.2.1.length (x.2.1.map (Value.int .i64)), pB S lv pb x.2.2 d]) (fun _ => []) (fun x => arrays S i = .ok x.2.1 x.2.2 ∧ i ≤ x.2.2 ∧ x.2.2 ≤ S.T.length ∧ x.2.1.length ≤ x.2.2)
      (fun y : Bad => stopV y.t y.k) (fun y => [pB S lv pb y.i d]) (fun y => arrays S i = .bad y.t y.k)) := by
  refine Tri.of Try.func54 rfl fun c => ?_
  repeat' (first
    | refine XStep ?_
    | refine Fa.mk fun b => ?_
    | refine Fb.mk fun b2 => ?_
    | refine Fz.mk fun z => ?_
    | (refine Gd.mk (fun h => ?_) (fun h => ?_) <;> try (first | (exfalso; omega) | exact absurd rfl h | (exfalso; simp at h <;> omega)))
    | refine Ands.mk ?_ ?_
    | (refine XC.is ?_; refine W110 ?_; refine XC.planG (by kernel_rfl) (fun _ m h => h.drewn m) ?_; (conv => arg 5; reduce); refine XG0.of ?_; (conv => arg 5; reduce); (conv => arg 6; reduce); refine XG.go (by decide +kernel) ?_))
  refine XC.loop (fun s : Nat × Nat × Value × List Int => [(0, .pointer (some ⟨pb, 0, none⟩)), (3, s.2.2.1)])
    (fun s w => (i ≤ s.2.1 ∧ s.2.1 ≤ S.T.length ∧ S.T.length < s.1 + s.2.1 ∧ s.2.2.2.length ≤ s.2.1 ∧ arrays S i = arraysF S s.1 s.2.2.2 s.2.1) ∧ St c [rowO 3 1 s.2.2.1 s.2.2.2.length (s.2.2.2.map (Value.int .i64)), pB S lv pb s.2.1 d] [tkF S lv] w) (fun s => s.1) (S.T.length + 1, i, .slice none 0 0, []) (by (repeat (first | exact fits_nil | refine fits_cons (by rfl) ?_)); done) (fun w h => ⟨⟨by dsimp only; omega, by dsimp only; omega, by dsimp only; omega, by simp, rfl⟩, (h.nilRow 3 1).less (by (repeat' (first | exact Sels.nil | exact Sel.here | apply Sels.cons | apply Sel.there)); done) (by (repeat (first | exact sub0 | refine subC (by repeat (first | exact List.Mem.head _ | apply List.Mem.tail)) ?_)); done)⟩) ?_
  rintro ⟨f, j, v, l⟩
  dsimp only
  refine XC.pure (fun hi => ?_)
  obtain ⟨h1, h2, h3, h5, h4⟩ := hi
  obtain ⟨f, rfl⟩ : ∃ g, f = g + 1 := ⟨f - 1, by omega⟩
  repeat' (first
    | refine XStep ?_
    | refine Fa.mk fun b => ?_
    | refine Fb.mk fun b2 => ?_
    | refine Fz.mk fun z => ?_
    | (refine Gd.mk (fun h => ?_) (fun h => ?_) <;> try (first | (exfalso; omega) | exact absurd rfl h | (exfalso; simp at h <;> omega)))
    | refine Ands.mk ?_ ?_
    | (refine XC.is ?_; refine W110 ?_; refine XC.planG (by kernel_rfl) (fun _ m h => h.drewn m) ?_; (conv => arg 5; reduce); refine XG0.of ?_; (conv => arg 5; reduce); (conv => arg 6; reduce); refine XG.go (by decide +kernel) ?_))
  refine XL.trir (takes_tri (t := tx [91]) (i := j) hS (by omega)) (by rfl) (by rfl) (by rfl) (by rfl) (by rfl) (by rfl) (by rfl) (by (repeat' (first | exact Sels.nil | exact Sel.here | apply Sels.cons | apply Sel.there)); done) (by (repeat (first | exact sub0 | refine subC (by repeat (first | exact List.Mem.head _ | apply List.Mem.tail)) ?_)); done) ?_
  rintro q hq
  conv => arg 9; dsimp only [List.cons_append, List.nil_append]
  try conv => arg 7; dsimp only
  cases q <;> dsimp only [bInc]
  · repeat' (first
      | refine XStep ?_
      | refine Fa.mk fun b => ?_
      | refine Fb.mk fun b2 => ?_
      | refine Fz.mk fun z => ?_
      | (refine Gd.mk (fun h => ?_) (fun h => ?_) <;> try (first | (exfalso; omega) | exact absurd rfl h | (exfalso; simp at h <;> omega)))
      | refine Ands.mk ?_ ?_
      | (refine XC.is ?_; refine W110 ?_; refine XC.planG (by kernel_rfl) (fun _ m h => h.drewn m) ?_; (conv => arg 5; reduce); refine XG0.of ?_; (conv => arg 5; reduce); (conv => arg 6; reduce); refine XG.go (by decide +kernel) ?_))
    exact XQ.done1 (by rfl) (by rfl) (.inl ⟨(v, l, j), ⟨by rw [h4]; simp [arraysF, hq], by omega, by omega, by omega⟩, rfl, rfl, rfl⟩) (by (repeat' (first | exact Sels.nil | exact Sel.here | apply Sels.cons | apply Sel.there)); done) (by (repeat (first | exact sub0 | refine subC (by repeat (first | exact List.Mem.head _ | apply List.Mem.tail)) ?_)); done)
  · have hlt := isB_lt hq
    repeat' (first
      | refine XStep ?_
      | refine Fa.mk fun b => ?_
      | refine Fb.mk fun b2 => ?_
      | refine Fz.mk fun z => ?_
      | (refine Gd.mk (fun h => ?_) (fun h => ?_) <;> try (first | (exfalso; omega) | exact absurd rfl h | (exfalso; simp at h <;> omega)))
      | refine Ands.mk ?_ ?_
      | (refine XC.is ?_; refine W110 ?_; refine XC.planG (by kernel_rfl) (fun _ m h => h.drewn m) ?_; (conv => arg 5; reduce); refine XG0.of ?_; (conv => arg 5; reduce); (conv => arg 6; reduce); refine XG.go (by decide +kernel) ?_))
    refine XL.triq (due_tri hS (i := j + 1) (k := 0) (by omega) (by omega)) (by rfl) (by rfl) (by rfl) (by rfl) (by rfl) (by rfl) (by rfl) (by (repeat' (first | exact Sels.nil | exact Sel.here | apply Sels.cons | apply Sel.there)); done) (by (repeat' (first | exact Sels.nil | exact Sel.here | apply Sels.cons | apply Sel.there)); done) (by (repeat (first | exact sub0 | refine subC (by repeat (first | exact List.Mem.head _ | apply List.Mem.tail)) ?_)); done) ?_
    repeat' (first
      | refine XStep ?_
      | refine Fa.mk fun b => ?_
      | refine Fb.mk fun b2 => ?_
      | refine Fz.mk fun z => ?_
      | (refine Gd.mk (fun h => ?_) (fun h => ?_) <;> try (first | (exfalso; omega) | exact absurd rfl h | (exfalso; simp at h <;> omega)))
      | refine Ands.mk ?_ ?_
      | (refine XC.is ?_; refine W110 ?_; refine XC.planG (by kernel_rfl) (fun _ m h => h.drewn m) ?_; (conv => arg 5; reduce); refine XG0.of ?_; (conv => arg 5; reduce); (conv => arg 6; reduce); refine XG.go (by decide +kernel) ?_))
    · have h : ¬ (due S (j + 1)).kind = 3 := by assumption
      refine XL.trig (give_tri (i := j + 1) hS (by omega)) (by rfl) (by rfl) (by rfl) (by rfl) (by rfl) (by rfl) (by rfl) (by (repeat' (first | exact Sels.nil | exact Sel.here | apply Sels.cons | apply Sel.there)); done) (by (repeat (first | exact sub0 | refine subC (by repeat (first | exact List.Mem.head _ | apply List.Mem.tail)) ?_)); done) ?_
      (repeat (first | refine XQ.sqP ?_ | refine XQ.rdP ?_ | refine XQ.mtP ?_ | refine XQ.blockP ?_ | refine XQ.anSP ?_))
      exact XQ.rpBad (by (repeat' (first | exact Sels.nil | exact Sel.here | apply Sels.cons | apply Sel.there)); done) (by rw [h4]; simp [arraysF, hq, h])
    · have h0 : ¬¬ (due S (j + 1)).kind = 3 := by assumption
      have h : (due S (j + 1)).n < 1 := by assumption
      refine XL.trig (give_tri (i := j + 1) hS (by omega)) (by rfl) (by rfl) (by rfl) (by rfl) (by rfl) (by rfl) (by rfl) (by (repeat' (first | exact Sels.nil | exact Sel.here | apply Sels.cons | apply Sel.there)); done) (by (repeat (first | exact sub0 | refine subC (by repeat (first | exact List.Mem.head _ | apply List.Mem.tail)) ?_)); done) ?_
      (repeat (first | refine XQ.sqP ?_ | refine XQ.rdP ?_ | refine XQ.mtP ?_ | refine XQ.blockP ?_ | refine XQ.anSP ?_))
      exact XQ.rpBad (by (repeat' (first | exact Sels.nil | exact Sel.here | apply Sels.cons | apply Sel.there)); done) (by rw [h4]; simp [arraysF, hq, h] at h0 ⊢; simp [h0])
    · have h0 : ¬¬ (due S (j + 1)).kind = 3 := by assumption
      have h : 4096 < (due S (j + 1)).n := by assumption
      refine XL.trig (give_tri (i := j + 1) hS (by omega)) (by rfl) (by rfl) (by rfl) (by rfl) (by rfl) (by rfl) (by rfl) (by (repeat' (first | exact Sels.nil | exact Sel.here | apply Sels.cons | apply Sel.there)); done) (by (repeat (first | exact sub0 | refine subC (by repeat (first | exact List.Mem.head _ | apply List.Mem.tail)) ?_)); done) ?_
      (repeat (first | refine XQ.sqP ?_ | refine XQ.rdP ?_ | refine XQ.mtP ?_ | refine XQ.blockP ?_ | refine XQ.anSP ?_))
      exact XQ.rpBad (by (repeat' (first | exact Sels.nil | exact Sel.here | apply Sels.cons | apply Sel.there)); done) (by rw [h4]; simp [arraysF, hq, h] at h0 ⊢; simp [h0])
    · have h0 : ¬¬ (due S (j + 1)).kind = 3 := by assumption
      have n1 : ¬ (due S (j + 1)).n < 1 := by assumption
      have n2 : ¬ 4096 < (due S (j + 1)).n := by assumption
      have h0 : (due S (j + 1)).kind = 3 := by simpa using h0
      have hk := kind_lt (S := S) (i := j + 1) (by rw [h0]; decide)
      refine XL.append1 (by rfl) (by rfl) (by rfl) (by rfl) (by rfl) (by rfl) (by rfl) (by repeat (first | exact Sel.here | apply Sel.there)) (by repeat (first | exact Sel.here | apply Sel.there)) ⟨_, (by repeat (first | exact Sel.here | apply Sel.there))⟩ (by rfl) (Nat.le_refl _) (by rfl) (by rfl) (by omega) (rfl) ((by rw [List.map_append]; rfl : _ = (l ++ [(due S (j + 1)).n]).map (Value.int .i64))) (fun v' => ?_)
      repeat' (first
        | refine XStep ?_
        | refine Fa.mk fun b => ?_
        | refine Fb.mk fun b2 => ?_
        | refine Fz.mk fun z => ?_
        | (refine Gd.mk (fun h => ?_) (fun h => ?_) <;> try (first | (exfalso; omega) | exact absurd rfl h | (exfalso; simp at h <;> omega)))
        | refine Ands.mk ?_ ?_
        | (refine XC.is ?_; refine W110 ?_; refine XC.planG (by kernel_rfl) (fun _ m h => h.drewn m) ?_; (conv => arg 5; reduce); refine XG0.of ?_; (conv => arg 5; reduce); (conv => arg 6; reduce); refine XG.go (by decide +kernel) ?_))
      refine XL.trip (must_tri (t := tx [93]) hS (i := j + 1 + 1) (by omega)) (by rfl) (by rfl) (by rfl) (by rfl) (by rfl) (by rfl) (by rfl) (by (repeat' (first | exact Sels.nil | exact Sel.here | apply Sels.cons | apply Sel.there)); done) (by (repeat (first | exact sub0 | refine subC (by repeat (first | exact List.Mem.head _ | apply List.Mem.tail)) ?_)); done) ?_ ?_
      rotate_left
      · rintro ⟨t1, k1, i1⟩ hb
        dsimp only at hb
        (repeat (first | refine XQ.sqP ?_ | refine XQ.rdP ?_ | refine XQ.mtP ?_ | refine XQ.blockP ?_ | refine XQ.anSP ?_))
        exact XQ.rpBad (by (repeat' (first | exact Sels.nil | exact Sel.here | apply Sels.cons | apply Sel.there)); done) (by rw [h4]; simp [arraysF, hq, h0, n1, n2, PM.bind, hb])
      rintro ⟨x, k⟩ ⟨hx, hx', hx''⟩
      dsimp only at hx hx' hx''
      conv => arg 9; dsimp only [List.cons_append, List.nil_append]
      try conv => arg 7; dsimp only
      subst hx'
      repeat' (first
        | refine XStep ?_
        | refine Fa.mk fun b => ?_
        | refine Fb.mk fun b2 => ?_
        | refine Fz.mk fun z => ?_
        | (refine Gd.mk (fun h => ?_) (fun h => ?_) <;> try (first | (exfalso; omega) | exact absurd rfl h | (exfalso; simp at h <;> omega)))
        | refine Ands.mk ?_ ?_
        | (refine XC.is ?_; refine W110 ?_; refine XC.planG (by kernel_rfl) (fun _ m h => h.drewn m) ?_; (conv => arg 5; reduce); refine XG0.of ?_; (conv => arg 5; reduce); (conv => arg 6; reduce); refine XG.go (by decide +kernel) ?_))
      exact XQ.round (f, j + 1 + 1 + 1, v', l ++ [(due S (j + 1)).n]) (by (repeat (first | exact fits_nil | refine fits_cons (by rfl) ?_)); done) (fun w hw => ⟨⟨by dsimp only; omega, by dsimp only; omega, by dsimp only; omega, by simp; omega, by rw [h4]; simp [arraysF, hq, h0, n1, n2, PM.bind, hx]⟩, by simpa using hw.less (Lc := [rowO 3 1 v' (l.length + 1) ((l ++ [(due S (j + 1)).n]).map (Value.int .i64)), pB S lv pb (j + 1 + 1 + 1) d]) (by (repeat' (first | exact Sels.nil | exact Sel.here | apply Sels.cons | apply Sel.there)); done) (by (repeat (first | exact sub0 | refine subC (by repeat (first | exact List.Mem.head _ | apply List.Mem.tail)) ?_)); done)⟩) (by dsimp only; omega)
end Go.Proofs.Ytjnineeeffecaaa
