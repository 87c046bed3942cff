/- The parser's lists in brackets; what a function asks; the asks of a type. -/
import Derived.Test.YtjnineeeffecaaaP3
namespace Go.Proofs.Ytjnineeeffecaaa
open Go X
set_option maxRecDepth 100000
set_option maxHeartbeats 4000000
attribute [local irreducible] XC XL XQ Tri blk Shows Sq Rd Mt inBlockX XS XG XG0 TkS AnS rowO tyFP tysFP ndFP ndsFP Row.fp FP.all
/-- What the function of one item of a list comes to. -/
@[reducible] def OneR {α γ : Type} (S : Src) (lv : Value) (pb d : Nat) (K : γ → SP) (KΦ : γ → FP) (abs : γ → List α) (one : PM α) (g : γ) (j : Nat) : Ending → List SP → List FP → Prop :=
  RetP (fun _ : γ × Nat => unitV) (fun x => [pB S lv pb x.2 d, K x.1]) (fun x => [KΦ x.1]) (fun x => (∃ a, one j = .ok a x.2 ∧ abs x.1 = abs g ++ [a]) ∧ j < x.2 ∧ x.2 ≤ S.T.length) (fun y : Bad => stopV y.t y.k) (fun y => [pB S lv pb y.i d]) (fun y => one j = .bad y.t y.k)
theorem listF_succ {α : Type} {S : Src} {one : PM α} {f : Nat} {l : List α} {i : Nat} : listF S one (f + 1) l i = if isB S [tx [41]] i = true then .ok l (i + 1) else
    ((if l.length = 0 then PM.pure () else must S (tx [44])).bind (fun _ => one.bind fun a => fun j => if isB S [tx [44], tx [41]] j = true then listF S one f (l ++ [a]) j else .bad (due S j).pos 2)) i := rfl
theorem list_tri {α γ : Type} {S : Src} (hS : S.T.length ≤ 20000) {lv : Value} {pb d i : Nat} {K : γ → SP} {KΦ : γ → FP} {abs : γ → List α} {one : PM α} {f : FuncId} {fs cap : List Value} (hf : entersB Try.prog f = true) (hi : i ≤ S.T.length)
    (hone : ∀ (g : γ) (j : Nat), j ≤ S.T.length → (abs g).length < 6 → Tri Try.prog f (fs ++ [] ++ cap) [pB S lv pb j d, K g] [tkF S lv, KΦ g] (OneR S lv pb d K KΦ abs one g j)) {g0 : γ} (h0 : abs g0 = []) :
    Tri Try.prog 49 [.pointer (some ⟨pb, 0, none⟩), .func (.func f) fs.toArray cap.toArray] [pB S lv pb i d, K g0] [tkF S lv, KΦ g0]
      (RetP (fun _ : γ × Nat => unitV) (fun x => [pB S lv pb x.2 d, K x.1]) (fun x => [KΦ x.1]) (fun x => list S one i = .ok (abs x.1) x.2 ∧ i < x.2 ∧ x.2 ≤ S.T.length) (fun y : Bad => stopV y.t y.k) (fun y => [pB S lv pb y.i d]) (fun y => list S one i = .bad y.t y.k)) := by
  refine Tri.of Try.func49 rfl fun c => ?_
  repeat' (first
    | refine XStep ?_
    | refine Fa.mk fun b => ?_
    | refine Fb.mk fun b2 => ?_
    | refine Fz.mk fun z => ?_
    | (refine Gd.mk (fun h => ?_) (fun h => ?_) <;> try (first | (exfalso; omega) | exact absurd rfl h | (exfalso; simp at h <;> omega)))
    | refine Ands.mk ?_ ?_
    | (refine XC.is ?_; refine W110 ?_; refine XC.planG (by kernel_rfl) (fun _ m h => h.drewn m) ?_; (conv => arg 5; reduce); refine XG0.of ?_; (conv => arg 5; reduce); (conv => arg 6; reduce); refine XG.go (by decide +kernel) ?_))
  refine XL.trip (must_tri (t := tx [40]) hS (i := i) (by omega)) (by rfl) (by rfl) (by rfl) (by rfl) (by rfl) (by rfl) (by rfl) (by (repeat' (first | exact Sels.nil | exact Sel.here | apply Sels.cons | apply Sel.there)); done) (by (repeat (first | exact sub0 | refine subC (by repeat (first | exact List.Mem.head _ | apply List.Mem.tail)) ?_)); done) ?_ ?_
  rotate_left
  · rintro ⟨t1, k1, i1⟩ hb
    dsimp only at hb
    (repeat (first | refine XQ.sqP ?_ | refine XQ.rdP ?_ | refine XQ.mtP ?_ | refine XQ.blockP ?_ | refine XQ.anSP ?_))
    exact XQ.rpBad (by (repeat' (first | exact Sels.nil | exact Sel.here | apply Sels.cons | apply Sel.there)); done) (by simp [list, PM.bind, hb])
  rintro ⟨x, j⟩ ⟨hx, hx', hx''⟩
  dsimp only at hx hx' hx''
  conv => arg 9; dsimp only [List.cons_append, List.nil_append]
  try conv => arg 7; dsimp only
  subst hx'
  repeat' (first
    | refine XStep ?_
    | refine Fa.mk fun b => ?_
    | refine Fb.mk fun b2 => ?_
    | refine Fz.mk fun z => ?_
    | (refine Gd.mk (fun h => ?_) (fun h => ?_) <;> try (first | (exfalso; omega) | exact absurd rfl h | (exfalso; simp at h <;> omega)))
    | refine Ands.mk ?_ ?_
    | (refine XC.is ?_; refine W110 ?_; refine XC.planG (by kernel_rfl) (fun _ m h => h.drewn m) ?_; (conv => arg 5; reduce); refine XG0.of ?_; (conv => arg 5; reduce); (conv => arg 6; reduce); refine XG.go (by decide +kernel) ?_))
  refine XC.loop (fun s : γ × Nat => [(0, .pointer (some ⟨pb, 0, none⟩)), (1, .func (.func f) fs.toArray cap.toArray), (4, .int .i64 ((abs s.1).length : Int))])
    (fun s w => ((abs s.1).length ≤ 6 ∧ i < s.2 ∧ s.2 ≤ S.T.length ∧ list S one i = listF S one (6 - (abs s.1).length) (abs s.1) s.2) ∧ St c [pB S lv pb s.2 d, K s.1] [tkF S lv, KΦ s.1] w) (fun s => 7 - (abs s.1).length) (g0, i + 1) (by dsimp only; rw [h0]; exact (by (repeat (first | exact fits_nil | refine fits_cons (by rfl) ?_)); done))
    (fun w h => ⟨⟨by dsimp only; rw [h0]; simp, by dsimp only; omega, by dsimp only; omega, by dsimp only; rw [h0]; simp [list, PM.bind, hx]⟩, h.less (by (repeat' (first | exact Sels.nil | exact Sel.here | apply Sels.cons | apply Sel.there)); done) (by (repeat (first | exact sub0 | refine subC (by repeat (first | exact List.Mem.head _ | apply List.Mem.tail)) ?_)); done)⟩) ?_
  rintro ⟨g, j⟩
  dsimp only
  refine XC.pure (fun hh => ?_)
  obtain ⟨h6, h1, h2, h4⟩ := hh
  generalize hn : (abs g).length = n at *
  repeat' (first
    | refine XStep ?_
    | refine Fa.mk fun b => ?_
    | refine Fb.mk fun b2 => ?_
    | refine Fz.mk fun z => ?_
    | (refine Gd.mk (fun h => ?_) (fun h => ?_) <;> try (first | (exfalso; omega) | exact absurd rfl h | (exfalso; simp at h <;> omega)))
    | refine Ands.mk ?_ ?_
    | (refine XC.is ?_; refine W110 ?_; refine XC.planG (by kernel_rfl) (fun _ m h => h.drewn m) ?_; (conv => arg 5; reduce); refine XG0.of ?_; (conv => arg 5; reduce); (conv => arg 6; reduce); refine XG.go (by decide +kernel) ?_))
  refine XL.conv (fun w h => h.celFreeze (m := List.length ([tx [41]])) (cap := List.length ([tx [41]])) (size := 1) (cs := strs ([tx [41]])) .here rfl (Nat.le_refl _)) ?_
  refine XL.triq (is_tri (ts := [tx [41]]) (i := j) hS (by omega) (of_decide_eq_true rfl)) (by rfl) (by rfl) (by rfl) (by rfl) (by rfl) (by rfl) (by rfl) (by (repeat' (first | exact Sels.nil | exact Sel.here | apply Sels.cons | apply Sel.there)); done) (by (repeat' (first | exact Sels.nil | exact Sel.here | apply Sels.cons | apply Sel.there)); done) (by (repeat (first | exact sub0 | refine subC (by repeat (first | exact List.Mem.head _ | apply List.Mem.tail)) ?_)); done) ?_
  obtain ⟨q, hq⟩ : ∃ q, isB S [tx [41]] j = q := ⟨_, rfl⟩
  rw [hq]
  cases q
  · repeat' (first
      | refine XStep ?_
      | refine Fa.mk fun b => ?_
      | refine Fb.mk fun b2 => ?_
      | refine Fz.mk fun z => ?_
      | (refine Gd.mk (fun h => ?_) (fun h => ?_) <;> try (first | (exfalso; omega) | exact absurd rfl h | (exfalso; simp at h <;> omega)))
      | refine Ands.mk ?_ ?_
      | (refine XC.is ?_; refine W110 ?_; refine XC.planG (by kernel_rfl) (fun _ m h => h.drewn m) ?_; (conv => arg 5; reduce); refine XG0.of ?_; (conv => arg 5; reduce); (conv => arg 6; reduce); refine XG.go (by decide +kernel) ?_))
    · have e : n = 6 := by omega
      refine XL.trig (give_tri (i := j) hS (by omega)) (by rfl) (by rfl) (by rfl) (by rfl) (by rfl) (by rfl) (by rfl) (by (repeat' (first | exact Sels.nil | exact Sel.here | apply Sels.cons | apply Sel.there)); done) (by (repeat (first | exact sub0 | refine subC (by repeat (first | exact List.Mem.head _ | apply List.Mem.tail)) ?_)); done) ?_
      (repeat (first | refine XQ.sqP ?_ | refine XQ.rdP ?_ | refine XQ.mtP ?_ | refine XQ.blockP ?_ | refine XQ.anSP ?_))
      exact XQ.rpBad (by (repeat' (first | exact Sels.nil | exact Sel.here | apply Sels.cons | apply Sel.there)); done) (by rw [h4, e]; simp [listF, hq])
    · have e6 : 6 - n = (5 - n) + 1 := by omega
      rw [e6] at h4
      have hn0 : ¬ n = 0 := by omega
      have hl0 : abs g ≠ [] := by intro h; rw [h] at hn; exact hn0 hn.symm
      refine XL.trip (must_tri (t := tx [44]) hS (i := j) (by omega)) (by rfl) (by rfl) (by rfl) (by rfl) (by rfl) (by rfl) (by rfl) (by (repeat' (first | exact Sels.nil | exact Sel.here | apply Sels.cons | apply Sel.there)); done) (by (repeat (first | exact sub0 | refine subC (by repeat (first | exact List.Mem.head _ | apply List.Mem.tail)) ?_)); done) ?_ ?_
      rotate_left
      · rintro ⟨t1, k1, i1⟩ hb
        dsimp only at hb
        (repeat (first | refine XQ.sqP ?_ | refine XQ.rdP ?_ | refine XQ.mtP ?_ | refine XQ.blockP ?_ | refine XQ.anSP ?_))
        exact XQ.rpBad (by (repeat' (first | exact Sels.nil | exact Sel.here | apply Sels.cons | apply Sel.there)); done) (by rw [h4]; simp [listF, hq, PM.bind, PM.pure, hb, hl0])
      rintro ⟨x, k⟩ ⟨hk, hk', hk''⟩
      dsimp only at hk hk' hk''
      conv => arg 9; dsimp only [List.cons_append, List.nil_append]
      try conv => arg 7; dsimp only
      subst hk'
      repeat' (first
        | refine XStep ?_
        | refine Fa.mk fun b => ?_
        | refine Fb.mk fun b2 => ?_
        | refine Fz.mk fun z => ?_
        | (refine Gd.mk (fun h => ?_) (fun h => ?_) <;> try (first | (exfalso; omega) | exact absurd rfl h | (exfalso; simp at h <;> omega)))
        | refine Ands.mk ?_ ?_
        | (refine XC.is ?_; refine W110 ?_; refine XC.planG (by kernel_rfl) (fun _ m h => h.drewn m) ?_; (conv => arg 5; reduce); refine XG0.of ?_; (conv => arg 5; reduce); (conv => arg 6; reduce); refine XG.go (by decide +kernel) ?_))
      refine XL.tripF (hone g (j + 1) (by omega) (by rw [hn]; omega)) (by rfl) (by rfl) (by rfl) (by rfl) (by rfl) (by rfl) (by rfl) hf (by (repeat' (first | exact Sels.nil | exact Sel.here | apply Sels.cons | apply Sel.there)); done) (by (repeat (first | exact sub0 | refine subC (by repeat (first | exact List.Mem.head _ | apply List.Mem.tail)) ?_)); done) ?_ ?_
      rotate_left
      · rintro ⟨t1, k1, i1⟩ hb
        dsimp only at hb
        (repeat (first | refine XQ.sqP ?_ | refine XQ.rdP ?_ | refine XQ.mtP ?_ | refine XQ.blockP ?_ | refine XQ.anSP ?_))
        exact XQ.rpBad (by (repeat' (first | exact Sels.nil | exact Sel.here | apply Sels.cons | apply Sel.there)); done) (by rw [h4]; simp [listF, hq, PM.bind, PM.pure, hb, hk, hl0])
      rintro ⟨g2, k2⟩ ⟨hg, hg', hg''⟩
      dsimp only at hg hg' hg''
      conv => arg 9; dsimp only [List.cons_append, List.nil_append]
      try conv => arg 7; dsimp only
      obtain ⟨a, ha, hg2⟩ := hg
      have hl : (abs g2).length = n + 1 := by rw [hg2]; simp [hn]
      repeat' (first
        | refine XStep ?_
        | refine Fa.mk fun b => ?_
        | refine Fb.mk fun b2 => ?_
        | refine Fz.mk fun z => ?_
        | (refine Gd.mk (fun h => ?_) (fun h => ?_) <;> try (first | (exfalso; omega) | exact absurd rfl h | (exfalso; simp at h <;> omega)))
        | refine Ands.mk ?_ ?_
        | (refine XC.is ?_; refine W110 ?_; refine XC.planG (by kernel_rfl) (fun _ m h => h.drewn m) ?_; (conv => arg 5; reduce); refine XG0.of ?_; (conv => arg 5; reduce); (conv => arg 6; reduce); refine XG.go (by decide +kernel) ?_))
      refine XL.conv (fun w h => h.celFreeze (m := List.length ([tx [44], tx [41]])) (cap := List.length ([tx [44], tx [41]])) (size := 1) (cs := strs ([tx [44], tx [41]])) .here rfl (Nat.le_refl _)) ?_
      refine XL.triq (is_tri (ts := [tx [44], tx [41]]) (i := k2) hS (by omega) (of_decide_eq_true rfl)) (by rfl) (by rfl) (by rfl) (by rfl) (by rfl) (by rfl) (by rfl) (by (repeat' (first | exact Sels.nil | exact Sel.here | apply Sels.cons | apply Sel.there)); done) (by (repeat' (first | exact Sels.nil | exact Sel.here | apply Sels.cons | apply Sel.there)); done) (by (repeat (first | exact sub0 | refine subC (by repeat (first | exact List.Mem.head _ | apply List.Mem.tail)) ?_)); done) ?_
      obtain ⟨q2, hq2⟩ : ∃ q2, isB S [tx [44], tx [41]] k2 = q2 := ⟨_, rfl⟩
      rw [hq2]
      cases q2
      · repeat' (first
          | refine XStep ?_
          | refine Fa.mk fun b => ?_
          | refine Fb.mk fun b2 => ?_
          | refine Fz.mk fun z => ?_
          | (refine Gd.mk (fun h => ?_) (fun h => ?_) <;> try (first | (exfalso; omega) | exact absurd rfl h | (exfalso; simp at h <;> omega)))
          | refine Ands.mk ?_ ?_
          | (refine XC.is ?_; refine W110 ?_; refine XC.planG (by kernel_rfl) (fun _ m h => h.drewn m) ?_; (conv => arg 5; reduce); refine XG0.of ?_; (conv => arg 5; reduce); (conv => arg 6; reduce); refine XG.go (by decide +kernel) ?_))
        refine XL.trig (give_tri (i := k2) hS (by omega)) (by rfl) (by rfl) (by rfl) (by rfl) (by rfl) (by rfl) (by rfl) (by (repeat' (first | exact Sels.nil | exact Sel.here | apply Sels.cons | apply Sel.there)); done) (by (repeat (first | exact sub0 | refine subC (by repeat (first | exact List.Mem.head _ | apply List.Mem.tail)) ?_)); done) ?_
        (repeat (first | refine XQ.sqP ?_ | refine XQ.rdP ?_ | refine XQ.mtP ?_ | refine XQ.blockP ?_ | refine XQ.anSP ?_))
        exact XQ.rpBad (by (repeat' (first | exact Sels.nil | exact Sel.here | apply Sels.cons | apply Sel.there)); done) (by rw [h4]; simp [listF, hq, PM.bind, PM.pure, ha, hq2, hk, hl0])
      · repeat' (first
          | refine XStep ?_
          | refine Fa.mk fun b => ?_
          | refine Fb.mk fun b2 => ?_
          | refine Fz.mk fun z => ?_
          | (refine Gd.mk (fun h => ?_) (fun h => ?_) <;> try (first | (exfalso; omega) | exact absurd rfl h | (exfalso; simp at h <;> omega)))
          | refine Ands.mk ?_ ?_
          | (refine XC.is ?_; refine W110 ?_; refine XC.planG (by kernel_rfl) (fun _ m h => h.drewn m) ?_; (conv => arg 5; reduce); refine XG0.of ?_; (conv => arg 5; reduce); (conv => arg 6; reduce); refine XG.go (by decide +kernel) ?_))
        exact XQ.round (g2, k2) (by dsimp only; rw [hl]; exact (by (repeat (first | exact fits_nil | refine fits_cons (by rfl) ?_)); done)) (fun w hw => ⟨⟨by dsimp only; omega, by dsimp only; omega, by dsimp only; omega, by
          have e5 : 6 - (n + 1) = 5 - n := by omega
          rw [h4, hl, e5, listF_succ]
          simp [hq, PM.bind, PM.pure, ha, hq2, hg2, hk, hl0]⟩, hw.less (by (repeat' (first | exact Sels.nil | exact Sel.here | apply Sels.cons | apply Sel.there)); done) (by (repeat (first | exact sub0 | refine subC (by repeat (first | exact List.Mem.head _ | apply List.Mem.tail)) ?_)); done)⟩) (by dsimp only; omega)
    · have e : n = 0 := by omega
      have hl0 : abs g = [] := List.eq_nil_of_length_eq_zero (by rw [hn, e])
      have e6 : 6 - n = (5 - n) + 1 := by omega
      rw [e6] at h4
      refine XL.tripF (hone g (j) (by omega) (by rw [hn]; omega)) (by rfl) (by rfl) (by rfl) (by rfl) (by rfl) (by rfl) (by rfl) hf (by (repeat' (first | exact Sels.nil | exact Sel.here | apply Sels.cons | apply Sel.there)); done) (by (repeat (first | exact sub0 | refine subC (by repeat (first | exact List.Mem.head _ | apply List.Mem.tail)) ?_)); done) ?_ ?_
      rotate_left
      · rintro ⟨t1, k1, i1⟩ hb
        dsimp only at hb
        (repeat (first | refine XQ.sqP ?_ | refine XQ.rdP ?_ | refine XQ.mtP ?_ | refine XQ.blockP ?_ | refine XQ.anSP ?_))
        exact XQ.rpBad (by (repeat' (first | exact Sels.nil | exact Sel.here | apply Sels.cons | apply Sel.there)); done) (by rw [h4]; simp [listF, hq, PM.bind, PM.pure, hb, hl0])
      rintro ⟨g2, k2⟩ ⟨hg, hg', hg''⟩
      dsimp only at hg hg' hg''
      conv => arg 9; dsimp only [List.cons_append, List.nil_append]
      try conv => arg 7; dsimp only
      obtain ⟨a, ha, hg2⟩ := hg
      have hl : (abs g2).length = n + 1 := by rw [hg2]; simp [hn]
      repeat' (first
        | refine XStep ?_
        | refine Fa.mk fun b => ?_
        | refine Fb.mk fun b2 => ?_
        | refine Fz.mk fun z => ?_
        | (refine Gd.mk (fun h => ?_) (fun h => ?_) <;> try (first | (exfalso; omega) | exact absurd rfl h | (exfalso; simp at h <;> omega)))
        | refine Ands.mk ?_ ?_
        | (refine XC.is ?_; refine W110 ?_; refine XC.planG (by kernel_rfl) (fun _ m h => h.drewn m) ?_; (conv => arg 5; reduce); refine XG0.of ?_; (conv => arg 5; reduce); (conv => arg 6; reduce); refine XG.go (by decide +kernel) ?_))
      refine XL.conv (fun w h => h.celFreeze (m := List.length ([tx [44], tx [41]])) (cap := List.length ([tx [44], tx [41]])) (size := 1) (cs := strs ([tx [44], tx [41]])) .here rfl (Nat.le_refl _)) ?_
      refine XL.triq (is_tri (ts := [tx [44], tx [41]]) (i := k2) hS (by omega) (of_decide_eq_true rfl)) (by rfl) (by rfl) (by rfl) (by rfl) (by rfl) (by rfl) (by rfl) (by (repeat' (first | exact Sels.nil | exact Sel.here | apply Sels.cons | apply Sel.there)); done) (by (repeat' (first | exact Sels.nil | exact Sel.here | apply Sels.cons | apply Sel.there)); done) (by (repeat (first | exact sub0 | refine subC (by repeat (first | exact List.Mem.head _ | apply List.Mem.tail)) ?_)); done) ?_
      obtain ⟨q2, hq2⟩ : ∃ q2, isB S [tx [44], tx [41]] k2 = q2 := ⟨_, rfl⟩
      rw [hq2]
      cases q2
      · repeat' (first
          | refine XStep ?_
          | refine Fa.mk fun b => ?_
          | refine Fb.mk fun b2 => ?_
          | refine Fz.mk fun z => ?_
          | (refine Gd.mk (fun h => ?_) (fun h => ?_) <;> try (first | (exfalso; omega) | exact absurd rfl h | (exfalso; simp at h <;> omega)))
          | refine Ands.mk ?_ ?_
          | (refine XC.is ?_; refine W110 ?_; refine XC.planG (by kernel_rfl) (fun _ m h => h.drewn m) ?_; (conv => arg 5; reduce); refine XG0.of ?_; (conv => arg 5; reduce); (conv => arg 6; reduce); refine XG.go (by decide +kernel) ?_))
        refine XL.trig (give_tri (i := k2) hS (by omega)) (by rfl) (by rfl) (by rfl) (by rfl) (by rfl) (by rfl) (by rfl) (by (repeat' (first | exact Sels.nil | exact Sel.here | apply Sels.cons | apply Sel.there)); done) (by (repeat (first | exact sub0 | refine subC (by repeat (first | exact List.Mem.head _ | apply List.Mem.tail)) ?_)); done) ?_
        (repeat (first | refine XQ.sqP ?_ | refine XQ.rdP ?_ | refine XQ.mtP ?_ | refine XQ.blockP ?_ | refine XQ.anSP ?_))
        exact XQ.rpBad (by (repeat' (first | exact Sels.nil | exact Sel.here | apply Sels.cons | apply Sel.there)); done) (by rw [h4]; simp [listF, hq, PM.bind, PM.pure, ha, hq2, hl0])
      · repeat' (first
          | refine XStep ?_
          | refine Fa.mk fun b => ?_
          | refine Fb.mk fun b2 => ?_
          | refine Fz.mk fun z => ?_
          | (refine Gd.mk (fun h => ?_) (fun h => ?_) <;> try (first | (exfalso; omega) | exact absurd rfl h | (exfalso; simp at h <;> omega)))
          | refine Ands.mk ?_ ?_
          | (refine XC.is ?_; refine W110 ?_; refine XC.planG (by kernel_rfl) (fun _ m h => h.drewn m) ?_; (conv => arg 5; reduce); refine XG0.of ?_; (conv => arg 5; reduce); (conv => arg 6; reduce); refine XG.go (by decide +kernel) ?_))
        exact XQ.round (g2, k2) (by dsimp only; rw [hl]; exact (by (repeat (first | exact fits_nil | refine fits_cons (by rfl) ?_)); done)) (fun w hw => ⟨⟨by dsimp only; omega, by dsimp only; omega, by dsimp only; omega, by
          have e5 : 6 - (n + 1) = 5 - n := by omega
          rw [h4, hl, e5, listF_succ]
          simp [hq, PM.bind, PM.pure, ha, hq2, hg2, hl0]⟩, hw.less (by (repeat' (first | exact Sels.nil | exact Sel.here | apply Sels.cons | apply Sel.there)); done) (by (repeat (first | exact sub0 | refine subC (by repeat (first | exact List.Mem.head _ | apply List.Mem.tail)) ?_)); done)⟩) (by dsimp only; omega)
  · have hlt := isB_lt hq
    repeat' (first
      | refine XStep ?_
      | refine Fa.mk fun b => ?_
      | refine Fb.mk fun b2 => ?_
      | refine Fz.mk fun z => ?_
      | (refine Gd.mk (fun h => ?_) (fun h => ?_) <;> try (first | (exfalso; omega) | exact absurd rfl h | (exfalso; simp at h <;> omega)))
      | refine Ands.mk ?_ ?_
      | (refine XC.is ?_; refine W110 ?_; refine XC.planG (by kernel_rfl) (fun _ m h => h.drewn m) ?_; (conv => arg 5; reduce); refine XG0.of ?_; (conv => arg 5; reduce); (conv => arg 6; reduce); refine XG.go (by decide +kernel) ?_))
    exact XQ.conv (fun w h => h.less (by (repeat' (first | exact Sels.nil | exact Sel.here | apply Sels.cons | apply Sel.there)); done) (by (repeat (first | exact sub0 | refine subC (by repeat (first | exact List.Mem.head _ | apply List.Mem.tail)) ?_)); done)) (XQ.end0 (by rfl) (.inl ⟨(g, j + 1), ⟨by rw [h4]; unfold listF; simp [hq], by dsimp only; omega, by dsimp only; omega⟩, rfl, rfl, rfl⟩))
/-- What lies where the asks of a type are gathered. -/
@[reducible] def askK (pb bt bp : Nat) (m : TyM) (x : Value × List TyM) : SP := SP.ex (fun _ : Unit => [cel bt #[.int .i64 9, .int .i64 0, .string (tx []), x.1] 24, rowO 24 4 x.1 x.2.length (tyC x.2), cel bp #[.pointer (some ⟨pb, 0, none⟩)] 52]) fun _ => x.2.length ≤ 7 ∧ x.2.head? = some m
theorem X.St.askShut {c : Cx} {L F : List SP} {Φ : List FP} {w : World} {pb bt bp : Nat} {v : Value} {m : TyM} {l : List TyM} (h : St c L Φ w)
    (s : Sels L [cel bt #[.int .i64 9, .int .i64 0, .string (tx []), v] 24, rowO 24 4 v l.length (tyC l), cel bp #[.pointer (some ⟨pb, 0, none⟩)] 52] F) (h7 : l.length ≤ 7 ∧ l.head? = some m) : St c (askK pb bt bp m (v, l) :: F) Φ w := h.shut () s h7
theorem tyC_end (l : List TyM) (x : TyM) : tyC l ++ [.int .i64 x.kind, .int .i64 x.n, .string x.name, x.ofv] = tyC (l ++ [x]) := tyC_app l x
theorem asks1_tri {S : Src} {lv : Value} {pb d bt bp : Nat} {m : TyM} {ask : PM Ty}
    (hask : ∀ j, j ≤ S.T.length → Tri Try.prog 68 [.pointer (some ⟨pb, 0, none⟩)] [pB S lv pb j d] [tkF S lv] (TyR S lv pb d j ask)) (g : Value × List TyM) (j : Nat) (hj : j ≤ S.T.length) (hl : (TyM.tys g.2).tail.length < 6) :
    Tri Try.prog 67 ([] ++ [] ++ [.pointer (some ⟨bt, 0, none⟩), .pointer (some ⟨bp, 0, none⟩)]) [pB S lv pb j d, askK pb bt bp m g] [tkF S lv, tysFP g.2] (OneR S lv pb d (askK pb bt bp m) (fun g => tysFP g.2) (fun g => (TyM.tys g.2).tail) ask g j) := by
  refine Tri.of Try.func67 rfl fun c => ?_
  refine XC.ex (fun w h => St.open_ h (by repeat (first | exact Sel.here | apply Sel.there))) fun _ => XC.pure fun h7' => ?_
  refine XC.ex (fun w h => h.sliced (e := 24) (size := 4) (by repeat (first | exact Sel.here | apply Sel.there))) ?_
  rintro ⟨va, vc⟩
  refine XC.pure (fun ev => ?_)
  obtain ⟨v, l⟩ := g
  obtain ⟨h7, hm⟩ := h7'
  dsimp only at ev hl h7 hm ⊢
  subst ev
  conv => arg 7; dsimp only [List.cons_append, List.nil_append]
  repeat' (first
    | refine XStep ?_
    | refine Fa.mk fun b => ?_
    | refine Fb.mk fun b2 => ?_
    | refine Fz.mk fun z => ?_
    | (refine Gd.mk (fun h => ?_) (fun h => ?_) <;> try (first | (exfalso; omega) | exact absurd rfl h | (exfalso; simp at h <;> omega)))
    | refine Ands.mk ?_ ?_
    | (refine XC.is ?_; refine W110 ?_; refine XC.planG (by kernel_rfl) (fun _ m h => h.drewn m) ?_; (conv => arg 5; reduce); refine XG0.of ?_; (conv => arg 5; reduce); (conv => arg 6; reduce); refine XG.go (by decide +kernel) ?_))
  all_goals
    refine XL.trip (hask j hj) (by rfl) (by rfl) (by rfl) (by rfl) (by rfl) (by rfl) (by rfl) (by (repeat' (first | exact Sels.nil | exact Sel.here | apply Sels.cons | apply Sel.there)); done) (by (repeat (first | exact sub0 | refine subC (by repeat (first | exact List.Mem.head _ | apply List.Mem.tail)) ?_)); done) ?_ ?_
    rotate_left
    · rintro ⟨t1, k1, i1⟩ hb
      dsimp only at hb
      (repeat (first | refine XQ.sqP ?_ | refine XQ.rdP ?_ | refine XQ.mtP ?_ | refine XQ.blockP ?_ | refine XQ.anSP ?_))
      exact XQ.rpBad (by (repeat' (first | exact Sels.nil | exact Sel.here | apply Sels.cons | apply Sel.there)); done) hb
    rintro ⟨x, k⟩ ⟨hx, hx', hx''⟩
    dsimp only at hx hx' hx''
    conv => arg 9; dsimp only [List.cons_append, List.nil_append]
    try conv => arg 7; dsimp only
    repeat' (first
      | refine XStep ?_
      | refine Fa.mk fun b => ?_
      | refine Fb.mk fun b2 => ?_
      | refine Fz.mk fun z => ?_
      | (refine Gd.mk (fun h => ?_) (fun h => ?_) <;> try (first | (exfalso; omega) | exact absurd rfl h | (exfalso; simp at h <;> omega)))
      | refine Ands.mk ?_ ?_
      | (refine XC.is ?_; refine W110 ?_; refine XC.planG (by kernel_rfl) (fun _ m h => h.drewn m) ?_; (conv => arg 5; reduce); refine XG0.of ?_; (conv => arg 5; reduce); (conv => arg 6; reduce); refine XG.go (by decide +kernel) ?_))
    refine XL.appendS (e := 24) (size := 4) (by rfl) (by rfl) (by rfl) (by rfl) (by rfl) (by rfl) (by rfl) (by repeat (first | exact Sel.here | apply Sel.there)) (by repeat (first | exact Sel.here | apply Sel.there)) ⟨_, (by repeat (first | exact Sel.here | apply Sel.there))⟩ (by rfl) (Nat.le_refl _) rfl rfl (by rfl) (by omega) rfl rfl (fun v' => ?_)
    refine XL.ex (fun w h => h.sliced (e := 24) (size := 4) (by repeat (first | exact Sel.here | apply Sel.there))) ?_
    rintro ⟨va', vc'⟩
    refine XL.pureW (fun ev => ?_)
    dsimp only at ev
    subst ev
    repeat' (first
      | refine XStep ?_
      | refine Fa.mk fun b => ?_
      | refine Fb.mk fun b2 => ?_
      | refine Fz.mk fun z => ?_
      | (refine Gd.mk (fun h => ?_) (fun h => ?_) <;> try (first | (exfalso; omega) | exact absurd rfl h | (exfalso; simp at h <;> omega)))
      | refine Ands.mk ?_ ?_
      | (refine XC.is ?_; refine W110 ?_; refine XC.planG (by kernel_rfl) (fun _ m h => h.drewn m) ?_; (conv => arg 5; reduce); refine XG0.of ?_; (conv => arg 5; reduce); (conv => arg 6; reduce); refine XG.go (by decide +kernel) ?_))
    · refine XL.stsR (xs := tyC l) (by rfl) (by rfl) (by rfl) (by rfl) (by rfl) (by rfl) (by rfl) (by rfl) (by rfl) (by repeat (first | exact Sel.here | apply Sel.there)) (tyC_len l) (by rfl) ?_
      repeat' (first
        | refine XStep ?_
        | refine Fa.mk fun b => ?_
        | refine Fb.mk fun b2 => ?_
        | refine Fz.mk fun z => ?_
        | (refine Gd.mk (fun h => ?_) (fun h => ?_) <;> try (first | (exfalso; omega) | exact absurd rfl h | (exfalso; simp at h <;> omega)))
        | refine Ands.mk ?_ ?_
        | (refine XC.is ?_; refine W110 ?_; refine XC.planG (by kernel_rfl) (fun _ m h => h.drewn m) ?_; (conv => arg 5; reduce); refine XG0.of ?_; (conv => arg 5; reduce); (conv => arg 6; reduce); refine XG.go (by decide +kernel) ?_))
      have e1 := tyC_end l x
      have e2 : (l ++ [x]).length = l.length + 1 := by simp
      have e3 : TyM.tys (l ++ [x]) = TyM.tys l ++ [x.ty] := tys_app l x
      have e4 : TyM.tys l ≠ [] := by
        intro h
        cases l with
        | nil => cases hm
        | cons => cases h
      have e5 : (l ++ [x]).head? = some m := by rw [List.head?_append, hm]; rfl
      exact XQ.conv (fun w hw => by
        rw [e1, ← e2] at hw
        exact ((hw.tysApp (l := l) (x := x) (by repeat (first | exact List.Mem.head _ | apply List.Mem.tail)) (by repeat (first | exact List.Mem.head _ | apply List.Mem.tail))).askShut (l := l ++ [x]) (by (repeat' (first | exact Sels.nil | exact Sel.here | apply Sels.cons | apply Sel.there)); done) ⟨by rw [e2]; simp [tys_len] at hl; omega, e5⟩).less (by (repeat' (first | exact Sels.nil | exact Sel.here | apply Sels.cons | apply Sel.there)); done) (by (repeat (first | exact sub0 | refine subC (by repeat (first | exact List.Mem.head _ | apply List.Mem.tail)) ?_)); done))
        (XQ.end0 (by rfl) (.inl ⟨((.slice va' (l ++ [x]).length vc', l ++ [x]), k), ⟨⟨_, hx, by dsimp only; rw [e3, List.tail_append_of_ne_nil e4]⟩, hx', hx''⟩, rfl, rfl, rfl⟩))
    · refine XL.stsR (xs := tyC l) (by rfl) (by rfl) (by rfl) (by rfl) (by rfl) (by rfl) (by rfl) (by rfl) (by rfl) (by repeat (first | exact Sel.here | apply Sel.there)) (tyC_len l) (by rfl) ?_
      repeat' (first
        | refine XStep ?_
        | refine Fa.mk fun b => ?_
        | refine Fb.mk fun b2 => ?_
        | refine Fz.mk fun z => ?_
        | (refine Gd.mk (fun h => ?_) (fun h => ?_) <;> try (first | (exfalso; omega) | exact absurd rfl h | (exfalso; simp at h <;> omega)))
        | refine Ands.mk ?_ ?_
        | (refine XC.is ?_; refine W110 ?_; refine XC.planG (by kernel_rfl) (fun _ m h => h.drewn m) ?_; (conv => arg 5; reduce); refine XG0.of ?_; (conv => arg 5; reduce); (conv => arg 6; reduce); refine XG.go (by decide +kernel) ?_))
      have e1 := tyC_end l x
      have e2 : (l ++ [x]).length = l.length + 1 := by simp
      have e3 : TyM.tys (l ++ [x]) = TyM.tys l ++ [x.ty] := tys_app l x
      have e4 : TyM.tys l ≠ [] := by
        intro h
        cases l with
        | nil => cases hm
        | cons => cases h
      have e5 : (l ++ [x]).head? = some m := by rw [List.head?_append, hm]; rfl
      exact XQ.conv (fun w hw => by
        rw [e1, ← e2] at hw
        exact ((hw.tysApp (l := l) (x := x) (by repeat (first | exact List.Mem.head _ | apply List.Mem.tail)) (by repeat (first | exact List.Mem.head _ | apply List.Mem.tail))).askShut (l := l ++ [x]) (by (repeat' (first | exact Sels.nil | exact Sel.here | apply Sels.cons | apply Sel.there)); done) ⟨by rw [e2]; simp [tys_len] at hl; omega, e5⟩).less (by (repeat' (first | exact Sels.nil | exact Sel.here | apply Sels.cons | apply Sel.there)); done) (by (repeat (first | exact sub0 | refine subC (by repeat (first | exact List.Mem.head _ | apply List.Mem.tail)) ?_)); done))
        (XQ.end0 (by rfl) (.inl ⟨((.slice va' (l ++ [x]).length vc', l ++ [x]), k), ⟨⟨_, hx, by dsimp only; rw [e3, List.tail_append_of_ne_nil e4]⟩, hx', hx''⟩, rfl, rfl, rfl⟩))
theorem asks_tri {S : Src} (hS : S.T.length ≤ 20000) {lv : Value} {pb d i : Nat} {ask : PM Ty} {m : TyM} (hi : i ≤ S.T.length)
    (hask : ∀ j, j ≤ S.T.length → Tri Try.prog 68 [.pointer (some ⟨pb, 0, none⟩)] [pB S lv pb j d] [tkF S lv] (TyR S lv pb d j ask)) :
    Tri Try.prog 55 [.pointer (some ⟨pb, 0, none⟩), m.v] [pB S lv pb i d] [tkF S lv, tyFP m] (TyR S lv pb d i (asksB S ask m.ty)) := by
  refine Tri.of Try.func55 rfl fun c => ?_
  repeat' (first
    | refine XStep ?_
    | refine Fa.mk fun b => ?_
    | refine Fb.mk fun b2 => ?_
    | refine Fz.mk fun z => ?_
    | (refine Gd.mk (fun h => ?_) (fun h => ?_) <;> try (first | (exfalso; omega) | exact absurd rfl h | (exfalso; simp at h <;> omega)))
    | refine Ands.mk ?_ ?_
    | (refine XC.is ?_; refine W110 ?_; refine XC.planG (by kernel_rfl) (fun _ m h => h.drewn m) ?_; (conv => arg 5; reduce); refine XG0.of ?_; (conv => arg 5; reduce); (conv => arg 6; reduce); refine XG.go (by decide +kernel) ?_))
  rename_i bp b3 b4
  refine XL.conv (fun w h => ((h.celRow (b := b2) (e := 24) (m := 1) (size := 4) (cs := tyC [m]) (by repeat (first | exact Sel.here | apply Sel.there)) rfl (by decide)).tysOne (x := m) (by repeat (first | exact List.Mem.head _ | apply List.Mem.tail))).askShut (pb := pb) (bt := b) (bp := bp) (m := m) (l := [m]) (by (repeat' (first | exact Sels.nil | exact Sel.here | apply Sels.cons | apply Sel.there)); done) ⟨of_decide_eq_true rfl, rfl⟩) ?_
  refine XL.trip (list_tri (α := Ty) (f := 67) (fs := []) (cap := [.pointer (some ⟨b, 0, none⟩), .pointer (some ⟨bp, 0, none⟩)]) (abs := fun g : Value × List TyM => (TyM.tys g.2).tail) (K := askK pb b bp m) (KΦ := fun g => tysFP g.2) (one := ask) hS (by rfl) hi (fun g j hj hl => asks1_tri hask g j hj hl) (g0 := (.slice (some ⟨b2, 0, none⟩) 1 1, [m])) rfl) (by rfl) (by rfl) (by rfl) (by rfl) (by rfl) (by rfl) (by rfl) (by (repeat' (first | exact Sels.nil | exact Sel.here | apply Sels.cons | apply Sel.there)); done) (by (repeat (first | exact sub0 | refine subC (by repeat (first | exact List.Mem.head _ | apply List.Mem.tail)) ?_)); done) ?_ ?_
  rotate_left
  · rintro ⟨t1, k1, i1⟩ hb
    dsimp only at hb
    (repeat (first | refine XQ.sqP ?_ | refine XQ.rdP ?_ | refine XQ.mtP ?_ | refine XQ.blockP ?_ | refine XQ.anSP ?_))
    exact XQ.rpBad (by (repeat' (first | exact Sels.nil | exact Sel.here | apply Sels.cons | apply Sel.there)); done) (by simp [asksB, PM.bind, hb])
  rintro ⟨x, k⟩ ⟨hx, hx', hx''⟩
  dsimp only at hx hx' hx''
  conv => arg 9; dsimp only [List.cons_append, List.nil_append]
  try conv => arg 7; dsimp only
  refine XL.ex (fun w h => St.open_ h (by repeat (first | exact Sel.here | apply Sel.there))) fun _ => XL.pureW fun h7' => ?_
  obtain ⟨v, l⟩ := x
  obtain ⟨h7, hm⟩ := h7'
  dsimp only at h7 hm hx ⊢
  refine XL.ex (fun w h => h.sliced (e := 24) (size := 4) (by repeat (first | exact Sel.here | apply Sel.there))) ?_
  rintro ⟨va, vc⟩
  refine XL.pureW (fun ev => ?_)
  dsimp only at ev
  subst ev
  conv => arg 9; dsimp only [List.cons_append, List.nil_append]
  try conv => arg 7; dsimp only
  repeat' (first
    | refine XStep ?_
    | refine Fa.mk fun b => ?_
    | refine Fb.mk fun b2 => ?_
    | refine Fz.mk fun z => ?_
    | (refine Gd.mk (fun h => ?_) (fun h => ?_) <;> try (first | (exfalso; omega) | exact absurd rfl h | (exfalso; simp at h <;> omega)))
    | refine Ands.mk ?_ ?_
    | (refine XC.is ?_; refine W110 ?_; refine XC.planG (by kernel_rfl) (fun _ m h => h.drewn m) ?_; (conv => arg 5; reduce); refine XG0.of ?_; (conv => arg 5; reduce); (conv => arg 6; reduce); refine XG.go (by decide +kernel) ?_))
  refine XQ.conv (fun w h => (h.rowFreeze (e := 24) (size := 4) (by repeat (first | exact Sel.here | apply Sel.there))).tyMk (k := 9) (n := 0) (s := tx []) (l := l) (.head _) (by repeat (first | exact List.Mem.head _ | apply List.Mem.tail))) ?_
  refine XQ.doneC (by rfl) (by rfl) (by rfl) (by rfl) (by repeat (first | exact Sel.here | apply Sel.there)) (by rfl) (RP.ok (x := .mk 9 0 (tx []) va l.length vc l) (j := k) ⟨?_, hx', hx''⟩) (by (repeat' (first | exact Sels.nil | exact Sel.here | apply Sels.cons | apply Sel.there)); done) (by (repeat (first | exact sub0 | refine subC (by repeat (first | exact List.Mem.head _ | apply List.Mem.tail)) ?_)); done)
  cases l with
  | nil => cases hm
  | cons y l =>
    cases hm
    simp only [TyM.tys, List.tail_cons] at hx
    simp [asksB, PM.bind, PM.pure, hx, TyM.ty, TyM.tys]
theorem ask_tri {S : Src} (hS : S.T.length ≤ 20000) {lv : Value} {pb : Nat} : ∀ (n d : Nat), d + n = 60 → ∀ i, i ≤ S.T.length → Tri Try.prog 68 [.pointer (some ⟨pb, 0, none⟩)] [pB S lv pb i d] [tkF S lv] (TyR S lv pb d i (askL S n)) := by
  intro n
  induction n with
  | zero =>
    intro d hd i hi
    refine Tri.ofD Try.func68 rfl fun c => ?_
    repeat' (first
      | refine XStep ?_
      | refine Fa.mk fun b => ?_
      | refine Fb.mk fun b2 => ?_
      | refine Fz.mk fun z => ?_
      | (refine Gd.mk (fun h => ?_) (fun h => ?_) <;> try (first | (exfalso; omega) | exact absurd rfl h | (exfalso; simp at h <;> omega)))
      | refine Ands.mk ?_ ?_
      | (refine XC.is ?_; refine W110 ?_; refine XC.planG (by kernel_rfl) (fun _ m h => h.drewn m) ?_; (conv => arg 5; reduce); refine XG0.of ?_; (conv => arg 5; reduce); (conv => arg 6; reduce); refine XG.go (by decide +kernel) ?_))
    refine XL.trip (within_tri (i := i) (d := d) hS (by omega) (by omega)) (by rfl) (by rfl) (by rfl) (by rfl) (by rfl) (by rfl) (by rfl) (by (repeat' (first | exact Sels.nil | exact Sel.here | apply Sels.cons | apply Sel.there)); done) (by (repeat (first | exact sub0 | refine subC (by repeat (first | exact List.Mem.head _ | apply List.Mem.tail)) ?_)); done) ?_ ?_
    · intro bb hb
      omega
    · rintro ⟨t1, k1, i1⟩ ⟨h60, ht1, hk1⟩
      dsimp only at ht1 hk1
      subst ht1 hk1
      (repeat (first | refine XQ.sqP ?_ | refine XQ.rdP ?_ | refine XQ.mtP ?_ | refine XQ.blockP ?_ | refine XQ.anSP ?_))
      exact XQ.conv (fun w h => h.less (by (repeat' (first | exact Sels.nil | exact Sel.here | apply Sels.cons | apply Sel.there)); done) sub0) (XQ.panD (.inr ⟨⟨_, _, i1⟩, rfl, rfl, rfl, rfl⟩))
  | succ n ih =>
    intro d hd i hi
    have hask := ih (d + 1) (by omega)
    refine Tri.ofD Try.func68 rfl fun c => ?_
    repeat' (first
      | refine XStep ?_
      | refine Fa.mk fun b => ?_
      | refine Fb.mk fun b2 => ?_
      | refine Fz.mk fun z => ?_
      | (refine Gd.mk (fun h => ?_) (fun h => ?_) <;> try (first | (exfalso; omega) | exact absurd rfl h | (exfalso; simp at h <;> omega)))
      | refine Ands.mk ?_ ?_
      | (refine XC.is ?_; refine W110 ?_; refine XC.planG (by kernel_rfl) (fun _ m h => h.drewn m) ?_; (conv => arg 5; reduce); refine XG0.of ?_; (conv => arg 5; reduce); (conv => arg 6; reduce); refine XG.go (by decide +kernel) ?_))
    refine XL.trip (within_tri (i := i) (d := d) hS (by omega) (by omega)) (by rfl) (by rfl) (by rfl) (by rfl) (by rfl) (by rfl) (by rfl) (by (repeat' (first | exact Sels.nil | exact Sel.here | apply Sels.cons | apply Sel.there)); done) (by (repeat (first | exact sub0 | refine subC (by repeat (first | exact List.Mem.head _ | apply List.Mem.tail)) ?_)); done) ?_ ?_
    rotate_left
    · rintro ⟨t1, k1, i1⟩ ⟨h60, ht1, hk1⟩
      omega
    intro bb hd60
    conv => arg 9; dsimp only [List.cons_append, List.nil_append]
    try conv => arg 7; dsimp only
    repeat' (first
      | refine XStep ?_
      | refine Fa.mk fun b => ?_
      | refine Fb.mk fun b2 => ?_
      | refine Fz.mk fun z => ?_
      | (refine Gd.mk (fun h => ?_) (fun h => ?_) <;> try (first | (exfalso; omega) | exact absurd rfl h | (exfalso; simp at h <;> omega)))
      | refine Ands.mk ?_ ?_
      | (refine XC.is ?_; refine W110 ?_; refine XC.planG (by kernel_rfl) (fun _ m h => h.drewn m) ?_; (conv => arg 5; reduce); refine XG0.of ?_; (conv => arg 5; reduce); (conv => arg 6; reduce); refine XG.go (by decide +kernel) ?_))
    refine XL.trip (base_tri hS (i := i) (d := d + 1) (by omega)) (by rfl) (by rfl) (by rfl) (by rfl) (by rfl) (by rfl) (by rfl) (by (repeat' (first | exact Sels.nil | exact Sel.here | apply Sels.cons | apply Sel.there)); done) (by (repeat (first | exact sub0 | refine subC (by repeat (first | exact List.Mem.head _ | apply List.Mem.tail)) ?_)); done) ?_ ?_
    rotate_left
    · rintro ⟨t1, k1, i1⟩ hb
      dsimp only at hb
      (repeat (first | refine XQ.sqP ?_ | refine XQ.rdP ?_ | refine XQ.mtP ?_ | refine XQ.blockP ?_ | refine XQ.anSP ?_))
      refine XQ.leaveP (out_tri (S := S) (lv := lv) (pb := pb) (bb := bb) (i := i1) (d := d) (by omega)) (by (repeat' (first | exact Sels.nil | exact Sel.here | apply Sels.cons | apply Sel.there)); done) (by (repeat (first | exact sub0 | refine subC (by repeat (first | exact List.Mem.head _ | apply List.Mem.tail)) ?_)); done) (run_invoke rfl) ?_
      refine XQ.conv (fun w h => h.less (by (repeat' (first | exact Sels.nil | exact Sel.here | apply Sels.cons | apply Sel.there)); done) sub0) (XQ.panD (.inr ⟨⟨t1, k1, i1⟩, ?_, rfl, rfl, rfl⟩))
      simp [PM.bind, PM.pure, hb, askL, askB]
    rintro ⟨x, j⟩ ⟨hx, hx', hx''⟩
    dsimp only at hx hx' hx''
    conv => arg 9; dsimp only [List.cons_append, List.nil_append]
    try conv => arg 7; dsimp only
    refine XL.trip (stars_tri hS (i := j) (d := d + 1) (m := x) (by omega)) (by rfl) (by rfl) (by rfl) (by rfl) (by rfl) (by rfl) (by rfl) (by (repeat' (first | exact Sels.nil | exact Sel.here | apply Sels.cons | apply Sel.there)); done) (by (repeat (first | exact sub0 | refine subC (by repeat (first | exact List.Mem.head _ | apply List.Mem.tail)) ?_)); done) ?_ ?_
    rotate_left
    · rintro ⟨t1, k1, i1⟩ hb
      dsimp only at hb
      (repeat (first | refine XQ.sqP ?_ | refine XQ.rdP ?_ | refine XQ.mtP ?_ | refine XQ.blockP ?_ | refine XQ.anSP ?_))
      refine XQ.leaveP (out_tri (S := S) (lv := lv) (pb := pb) (bb := bb) (i := i1) (d := d) (by omega)) (by (repeat' (first | exact Sels.nil | exact Sel.here | apply Sels.cons | apply Sel.there)); done) (by (repeat (first | exact sub0 | refine subC (by repeat (first | exact List.Mem.head _ | apply List.Mem.tail)) ?_)); done) (run_invoke rfl) ?_
      refine XQ.conv (fun w h => h.less (by (repeat' (first | exact Sels.nil | exact Sel.here | apply Sels.cons | apply Sel.there)); done) sub0) (XQ.panD (.inr ⟨⟨t1, k1, i1⟩, ?_, rfl, rfl, rfl⟩))
      simp [PM.bind, PM.pure, hb, askL, askB, hx]
    rintro ⟨y, k⟩ ⟨hy, hy', hy''⟩
    dsimp only at hy hy' hy''
    conv => arg 9; dsimp only [List.cons_append, List.nil_append]
    try conv => arg 7; dsimp only
    repeat' (first
      | refine XStep ?_
      | refine Fa.mk fun b => ?_
      | refine Fb.mk fun b2 => ?_
      | refine Fz.mk fun z => ?_
      | (refine Gd.mk (fun h => ?_) (fun h => ?_) <;> try (first | (exfalso; omega) | exact absurd rfl h | (exfalso; simp at h <;> omega)))
      | refine Ands.mk ?_ ?_
      | (refine XC.is ?_; refine W110 ?_; refine XC.planG (by kernel_rfl) (fun _ m h => h.drewn m) ?_; (conv => arg 5; reduce); refine XG0.of ?_; (conv => arg 5; reduce); (conv => arg 6; reduce); refine XG.go (by decide +kernel) ?_))
    refine XL.conv (fun w h => h.celFreeze (m := List.length ([tx [40]])) (cap := List.length ([tx [40]])) (size := 1) (cs := strs ([tx [40]])) .here rfl (Nat.le_refl _)) ?_
    refine XL.triq (is_tri (ts := [tx [40]]) (i := k) hS (by omega) (of_decide_eq_true rfl)) (by rfl) (by rfl) (by rfl) (by rfl) (by rfl) (by rfl) (by rfl) (by (repeat' (first | exact Sels.nil | exact Sel.here | apply Sels.cons | apply Sel.there)); done) (by (repeat' (first | exact Sels.nil | exact Sel.here | apply Sels.cons | apply Sel.there)); done) (by (repeat (first | exact sub0 | refine subC (by repeat (first | exact List.Mem.head _ | apply List.Mem.tail)) ?_)); done) ?_
    obtain ⟨q, hq⟩ : ∃ q, isB S ([tx [40]]) (k) = q := ⟨_, rfl⟩
    rw [hq]
    cases q
    · repeat' (first
        | refine XStep ?_
        | refine Fa.mk fun b => ?_
        | refine Fb.mk fun b2 => ?_
        | refine Fz.mk fun z => ?_
        | (refine Gd.mk (fun h => ?_) (fun h => ?_) <;> try (first | (exfalso; omega) | exact absurd rfl h | (exfalso; simp at h <;> omega)))
        | refine Ands.mk ?_ ?_
        | (refine XC.is ?_; refine W110 ?_; refine XC.planG (by kernel_rfl) (fun _ m h => h.drewn m) ?_; (conv => arg 5; reduce); refine XG0.of ?_; (conv => arg 5; reduce); (conv => arg 6; reduce); refine XG.go (by decide +kernel) ?_))
      refine XQ.leave (out_tri (S := S) (lv := lv) (pb := pb) (bb := bb) (i := k) (d := d) (by omega)) (by (repeat' (first | exact Sels.nil | exact Sel.here | apply Sels.cons | apply Sel.there)); done) (by (repeat (first | exact sub0 | refine subC (by repeat (first | exact List.Mem.head _ | apply List.Mem.tail)) ?_)); done) (run_invoke rfl) ?_
      exact XQ.retDC (by rfl) (by rfl) (by rfl) (by rfl) (by repeat (first | exact Sel.here | apply Sel.there)) (by rfl) (RP.ok (x := y) (j := k) ⟨by simp [askL, askB, PM.bind, hx, hy, hq], by omega, by omega⟩) (by (repeat' (first | exact Sels.nil | exact Sel.here | apply Sels.cons | apply Sel.there)); done) (by (repeat (first | exact sub0 | refine subC (by repeat (first | exact List.Mem.head _ | apply List.Mem.tail)) ?_)); done)
    · have hlt := isB_lt hq
      repeat' (first
        | refine XStep ?_
        | refine Fa.mk fun b => ?_
        | refine Fb.mk fun b2 => ?_
        | refine Fz.mk fun z => ?_
        | (refine Gd.mk (fun h => ?_) (fun h => ?_) <;> try (first | (exfalso; omega) | exact absurd rfl h | (exfalso; simp at h <;> omega)))
        | refine Ands.mk ?_ ?_
        | (refine XC.is ?_; refine W110 ?_; refine XC.planG (by kernel_rfl) (fun _ m h => h.drewn m) ?_; (conv => arg 5; reduce); refine XG0.of ?_; (conv => arg 5; reduce); (conv => arg 6; reduce); refine XG.go (by decide +kernel) ?_))
      refine XL.trip (must_tri (t := tx [42]) hS (i := k + 1) (d := d + 1) (by omega)) (by rfl) (by rfl) (by rfl) (by rfl) (by rfl) (by rfl) (by rfl) (by (repeat' (first | exact Sels.nil | exact Sel.here | apply Sels.cons | apply Sel.there)); done) (by (repeat (first | exact sub0 | refine subC (by repeat (first | exact List.Mem.head _ | apply List.Mem.tail)) ?_)); done) ?_ ?_
      rotate_left
      · rintro ⟨t1, k1, i1⟩ hb
        dsimp only at hb
        (repeat (first | refine XQ.sqP ?_ | refine XQ.rdP ?_ | refine XQ.mtP ?_ | refine XQ.blockP ?_ | refine XQ.anSP ?_))
        refine XQ.leaveP (out_tri (S := S) (lv := lv) (pb := pb) (bb := bb) (i := i1) (d := d) (by omega)) (by (repeat' (first | exact Sels.nil | exact Sel.here | apply Sels.cons | apply Sel.there)); done) (by (repeat (first | exact sub0 | refine subC (by repeat (first | exact List.Mem.head _ | apply List.Mem.tail)) ?_)); done) (run_invoke rfl) ?_
        refine XQ.conv (fun w h => h.less (by (repeat' (first | exact Sels.nil | exact Sel.here | apply Sels.cons | apply Sel.there)); done) sub0) (XQ.panD (.inr ⟨⟨t1, k1, i1⟩, ?_, rfl, rfl, rfl⟩))
        simp [PM.bind, PM.pure, hb, askL, askB, hx, hy, hq]
      rintro ⟨u1, k2⟩ ⟨h1, h1', h1''⟩
      dsimp only at h1 h1' h1''
      conv => arg 9; dsimp only [List.cons_append, List.nil_append]
      try conv => arg 7; dsimp only
      subst h1'
      repeat' (first
        | refine XStep ?_
        | refine Fa.mk fun b => ?_
        | refine Fb.mk fun b2 => ?_
        | refine Fz.mk fun z => ?_
        | (refine Gd.mk (fun h => ?_) (fun h => ?_) <;> try (first | (exfalso; omega) | exact absurd rfl h | (exfalso; simp at h <;> omega)))
        | refine Ands.mk ?_ ?_
        | (refine XC.is ?_; refine W110 ?_; refine XC.planG (by kernel_rfl) (fun _ m h => h.drewn m) ?_; (conv => arg 5; reduce); refine XG0.of ?_; (conv => arg 5; reduce); (conv => arg 6; reduce); refine XG.go (by decide +kernel) ?_))
      refine XL.trip (must_tri (t := tx [41]) hS (i := k + 1 + 1) (d := d + 1) (by omega)) (by rfl) (by rfl) (by rfl) (by rfl) (by rfl) (by rfl) (by rfl) (by (repeat' (first | exact Sels.nil | exact Sel.here | apply Sels.cons | apply Sel.there)); done) (by (repeat (first | exact sub0 | refine subC (by repeat (first | exact List.Mem.head _ | apply List.Mem.tail)) ?_)); done) ?_ ?_
      rotate_left
      · rintro ⟨t1, k1, i1⟩ hb
        dsimp only at hb
        (repeat (first | refine XQ.sqP ?_ | refine XQ.rdP ?_ | refine XQ.mtP ?_ | refine XQ.blockP ?_ | refine XQ.anSP ?_))
        refine XQ.leaveP (out_tri (S := S) (lv := lv) (pb := pb) (bb := bb) (i := i1) (d := d) (by omega)) (by (repeat' (first | exact Sels.nil | exact Sel.here | apply Sels.cons | apply Sel.there)); done) (by (repeat (first | exact sub0 | refine subC (by repeat (first | exact List.Mem.head _ | apply List.Mem.tail)) ?_)); done) (run_invoke rfl) ?_
        refine XQ.conv (fun w h => h.less (by (repeat' (first | exact Sels.nil | exact Sel.here | apply Sels.cons | apply Sel.there)); done) sub0) (XQ.panD (.inr ⟨⟨t1, k1, i1⟩, ?_, rfl, rfl, rfl⟩))
        simp [PM.bind, PM.pure, hb, askL, askB, hx, hy, hq, h1]
      rintro ⟨u2, k3⟩ ⟨h2, h2', h2''⟩
      dsimp only at h2 h2' h2''
      conv => arg 9; dsimp only [List.cons_append, List.nil_append]
      try conv => arg 7; dsimp only
      subst h2'
      repeat' (first
        | refine XStep ?_
        | refine Fa.mk fun b => ?_
        | refine Fb.mk fun b2 => ?_
        | refine Fz.mk fun z => ?_
        | (refine Gd.mk (fun h => ?_) (fun h => ?_) <;> try (first | (exfalso; omega) | exact absurd rfl h | (exfalso; simp at h <;> omega)))
        | refine Ands.mk ?_ ?_
        | (refine XC.is ?_; refine W110 ?_; refine XC.planG (by kernel_rfl) (fun _ m h => h.drewn m) ?_; (conv => arg 5; reduce); refine XG0.of ?_; (conv => arg 5; reduce); (conv => arg 6; reduce); refine XG.go (by decide +kernel) ?_))
      refine XL.trip (asks_tri hS (i := k + 1 + 1 + 1) (d := d + 1) (m := y) (by omega) hask) (by rfl) (by rfl) (by rfl) (by rfl) (by rfl) (by rfl) (by rfl) (by (repeat' (first | exact Sels.nil | exact Sel.here | apply Sels.cons | apply Sel.there)); done) (by (repeat (first | exact sub0 | refine subC (by repeat (first | exact List.Mem.head _ | apply List.Mem.tail)) ?_)); done) ?_ ?_
      rotate_left
      · rintro ⟨t1, k1, i1⟩ hb
        dsimp only at hb
        (repeat (first | refine XQ.sqP ?_ | refine XQ.rdP ?_ | refine XQ.mtP ?_ | refine XQ.blockP ?_ | refine XQ.anSP ?_))
        refine XQ.leaveP (out_tri (S := S) (lv := lv) (pb := pb) (bb := bb) (i := i1) (d := d) (by omega)) (by (repeat' (first | exact Sels.nil | exact Sel.here | apply Sels.cons | apply Sel.there)); done) (by (repeat (first | exact sub0 | refine subC (by repeat (first | exact List.Mem.head _ | apply List.Mem.tail)) ?_)); done) (run_invoke rfl) ?_
        refine XQ.conv (fun w h => h.less (by (repeat' (first | exact Sels.nil | exact Sel.here | apply Sels.cons | apply Sel.there)); done) sub0) (XQ.panD (.inr ⟨⟨t1, k1, i1⟩, ?_, rfl, rfl, rfl⟩))
        simp [PM.bind, PM.pure, hb, askL, askB, hx, hy, hq, h1, h2]
      rintro ⟨z, k4⟩ ⟨h3, h3', h3''⟩
      dsimp only at h3 h3' h3''
      conv => arg 9; dsimp only [List.cons_append, List.nil_append]
      try conv => arg 7; dsimp only
      refine XL.trir (pointer_tri (m := z)) (by rfl) (by rfl) (by rfl) (by rfl) (by rfl) (by rfl) (by rfl) (by (repeat' (first | exact Sels.nil | exact Sel.here | apply Sels.cons | apply Sel.there)); done) (by (repeat (first | exact sub0 | refine subC (by repeat (first | exact List.Mem.head _ | apply List.Mem.tail)) ?_)); done) ?_
      rintro z2 hz2
      conv => arg 9; dsimp only [List.cons_append, List.nil_append]
      try conv => arg 7; dsimp only
      repeat' (first
        | refine XStep ?_
        | refine Fa.mk fun b => ?_
        | refine Fb.mk fun b2 => ?_
        | refine Fz.mk fun z => ?_
        | (refine Gd.mk (fun h => ?_) (fun h => ?_) <;> try (first | (exfalso; omega) | exact absurd rfl h | (exfalso; simp at h <;> omega)))
        | refine Ands.mk ?_ ?_
        | (refine XC.is ?_; refine W110 ?_; refine XC.planG (by kernel_rfl) (fun _ m h => h.drewn m) ?_; (conv => arg 5; reduce); refine XG0.of ?_; (conv => arg 5; reduce); (conv => arg 6; reduce); refine XG.go (by decide +kernel) ?_))
      refine XQ.leave (out_tri (S := S) (lv := lv) (pb := pb) (bb := bb) (i := k4) (d := d) (by omega)) (by (repeat' (first | exact Sels.nil | exact Sel.here | apply Sels.cons | apply Sel.there)); done) (by (repeat (first | exact sub0 | refine subC (by repeat (first | exact List.Mem.head _ | apply List.Mem.tail)) ?_)); done) (run_invoke rfl) ?_
      exact XQ.retDC (by rfl) (by rfl) (by rfl) (by rfl) (by repeat (first | exact Sel.here | apply Sel.there)) (by rfl) (RP.ok (x := z2) (j := k4) ⟨by simp [askL, askB, PM.bind, PM.pure, hx, hy, hq, h1, h2, h3, hz2], by omega, by omega⟩) (by (repeat' (first | exact Sels.nil | exact Sel.here | apply Sels.cons | apply Sel.there)); done) (by (repeat (first | exact sub0 | refine subC (by repeat (first | exact List.Mem.head _ | apply List.Mem.tail)) ?_)); done)
end Go.Proofs.Ytjnineeeffecaaa
