/- The parser's items. -/
import Derived.Test.YtjnineeeffecaaaP13
namespace Go.Proofs.Ytjnineeeffecaaa
open Go X
set_option maxRecDepth 100000
set_option maxHeartbeats 4000000
attribute [local irreducible] XC XL XQ Tri blk Shows Sq Rd Mt inBlockX XS XG XG0 TkS AnS rowO tyFP tysFP ndFP ndsFP Row.fp FP.all
theorem nd_global (x : NdM) : x.nd.toGlobal = (NdM.mk 21 x.text x.n x.t x.ad x.len x.cap x.kids).nd := by cases x; rfl
theorem item_tri (hW : WrapT) {S : Src} (hS : S.T.length ≤ 20000) {lv : Value} {pb d i : Nat} {ask : PM Ty} {st : PM Nd} (hi : i ≤ S.T.length)
    (hask : ∀ j, j ≤ S.T.length → Tri Try.prog 68 [.pointer (some ⟨pb, 0, none⟩)] [pB S lv pb j d] [tkF S lv] (TyR S lv pb d j ask))
    (hst : ∀ j, j ≤ S.T.length → Tri Try.prog 52 [.pointer (some ⟨pb, 0, none⟩)] [pB S lv pb j d] [tkF S lv] (NdR S lv pb d j st)) :
    Tri Try.prog 20 [.pointer (some ⟨pb, 0, none⟩)] [pB S lv pb i d] [tkF S lv] (NdR S lv pb d i (itemB S ask st)) := by
  refine Tri.of Try.func20 rfl fun c => ?_
  repeat' (first
    | refine XStep ?_
    | refine Fa.mk fun b => ?_
    | refine Fb.mk fun b2 => ?_
    | refine Fz.mk fun z => ?_
    | (refine Gd.mk (fun h => ?_) (fun h => ?_) <;> try (first | (exfalso; omega) | exact absurd rfl h | (exfalso; simp at h <;> omega)))
    | refine Ands.mk ?_ ?_
    | (refine XC.is ?_; refine W110 ?_; refine XC.planG (by kernel_rfl) (fun _ m h => h.drewn m) ?_; (conv => arg 5; reduce); refine XG0.of ?_; (conv => arg 5; reduce); (conv => arg 6; reduce); refine XG.go (by decide +kernel) ?_))
  refine XL.triq (due_tri hS (i := i) (k := 2) (by omega) (by omega)) (by rfl) (by rfl) (by rfl) (by rfl) (by rfl) (by rfl) (by rfl) (by (repeat' (first | exact Sels.nil | exact Sel.here | apply Sels.cons | apply Sel.there)); done) (by (repeat' (first | exact Sels.nil | exact Sel.here | apply Sels.cons | apply Sel.there)); done) (by (repeat (first | exact sub0 | refine subC (by repeat (first | exact List.Mem.head _ | apply List.Mem.tail)) ?_)); done) ?_
  repeat' (first
    | refine XStep ?_
    | refine Fa.mk fun b => ?_
    | refine Fb.mk fun b2 => ?_
    | refine Fz.mk fun z => ?_
    | (refine Gd.mk (fun h => ?_) (fun h => ?_) <;> try (first | (exfalso; omega) | exact absurd rfl h | (exfalso; simp at h <;> omega)))
    | refine Ands.mk ?_ ?_
    | (refine XC.is ?_; refine W110 ?_; refine XC.planG (by kernel_rfl) (fun _ m h => h.drewn m) ?_; (conv => arg 5; reduce); refine XG0.of ?_; (conv => arg 5; reduce); (conv => arg 6; reduce); refine XG.go (by decide +kernel) ?_))
  refine XL.trip (base_tri hS (i := i) (by omega)) (by rfl) (by rfl) (by rfl) (by rfl) (by rfl) (by rfl) (by rfl) (by (repeat' (first | exact Sels.nil | exact Sel.here | apply Sels.cons | apply Sel.there)); done) (by (repeat (first | exact sub0 | refine subC (by repeat (first | exact List.Mem.head _ | apply List.Mem.tail)) ?_)); done) ?_ ?_
  rotate_left
  · rintro ⟨t1, k1, i1⟩ hb
    dsimp only at hb
    (repeat (first | refine XQ.sqP ?_ | refine XQ.rdP ?_ | refine XQ.mtP ?_ | refine XQ.blockP ?_ | refine XQ.anSP ?_))
    exact XQ.rpBad (by (repeat' (first | exact Sels.nil | exact Sel.here | apply Sels.cons | apply Sel.there)); done) (by simp [PM.bind, PM.pure, hb, itemB])
  rintro ⟨y, j⟩ ⟨hy, hy', hy''⟩
  dsimp only at hy hy' hy''
  conv => arg 9; dsimp only [List.cons_append, List.nil_append]
  try conv => arg 7; dsimp only
  have hk : y.ty.kind = y.kind := by cases y; rfl
  repeat' (first
    | refine XStep ?_
    | refine Fa.mk fun b => ?_
    | refine Fb.mk fun b2 => ?_
    | refine Fz.mk fun z => ?_
    | (refine Gd.mk (fun h => ?_) (fun h => ?_) <;> try (first | (exfalso; omega) | exact absurd rfl h | (exfalso; simp at h <;> omega)))
    | refine Ands.mk ?_ ?_
    | (refine XC.is ?_; refine W110 ?_; refine XC.planG (by kernel_rfl) (fun _ m h => h.drewn m) ?_; (conv => arg 5; reduce); refine XG0.of ?_; (conv => arg 5; reduce); (conv => arg 6; reduce); refine XG.go (by decide +kernel) ?_))
  all_goals first
    | (have hrec : (y.kind = 7 ∨ y.kind = 8) ∧ (due S (i + 2)).kind = 4 ∧ (due S (i + 2)).text = tx [123] := ⟨by first | (left; assumption) | (right; assumption), by assumption, by assumption⟩
       refine XL.trip (record_tri hW hS (i := j) (m := y) (by omega) hask) (by rfl) (by rfl) (by rfl) (by rfl) (by rfl) (by rfl) (by rfl) (by (repeat' (first | exact Sels.nil | exact Sel.here | apply Sels.cons | apply Sel.there)); done) (by (repeat (first | exact sub0 | refine subC (by repeat (first | exact List.Mem.head _ | apply List.Mem.tail)) ?_)); done) ?_ ?_
       rotate_left
       · rintro ⟨t1, k1, i1⟩ hb
         dsimp only at hb
         (repeat (first | refine XQ.sqP ?_ | refine XQ.rdP ?_ | refine XQ.mtP ?_ | refine XQ.blockP ?_ | refine XQ.anSP ?_))
         exact XQ.rpBad (by (repeat' (first | exact Sels.nil | exact Sel.here | apply Sels.cons | apply Sel.there)); done) (by simp [PM.bind, PM.pure, hb, itemB, hy, hk, hrec])
       rintro ⟨x, k⟩ ⟨hx, hx', hx''⟩
       dsimp only at hx hx' hx''
       conv => arg 9; dsimp only [List.cons_append, List.nil_append]
       try conv => arg 7; dsimp only
       repeat' (first
         | refine XStep ?_
         | refine Fa.mk fun b => ?_
         | refine Fb.mk fun b2 => ?_
         | refine Fz.mk fun z => ?_
         | (refine Gd.mk (fun h => ?_) (fun h => ?_) <;> try (first | (exfalso; omega) | exact absurd rfl h | (exfalso; simp at h <;> omega)))
         | refine Ands.mk ?_ ?_
         | (refine XC.is ?_; refine W110 ?_; refine XC.planG (by kernel_rfl) (fun _ m h => h.drewn m) ?_; (conv => arg 5; reduce); refine XG0.of ?_; (conv => arg 5; reduce); (conv => arg 6; reduce); refine XG.go (by decide +kernel) ?_))
       exact XQ.doneC (by rfl) (by rfl) (by rfl) (by rfl) (by repeat (first | exact Sel.here | apply Sel.there)) (by rfl) (RP.ok (x := x) (j := k) ⟨by simp [itemB, PM.bind, hy, hk, hrec, hx], by omega, by omega⟩) (by (repeat' (first | exact Sels.nil | exact Sel.here | apply Sels.cons | apply Sel.there)); done) (by (repeat (first | exact sub0 | refine subC (by repeat (first | exact List.Mem.head _ | apply List.Mem.tail)) ?_)); done))
    | (have hc : ¬ ((y.kind = 7 ∨ y.kind = 8) ∧ (due S (i + 2)).kind = 4 ∧ (due S (i + 2)).text = tx [123]) := by
         rintro ⟨h1, h2, h3⟩
         first
           | contradiction
           | (rcases h1 with h1 | h1 <;> contradiction)
       refine XL.trip (stars_tri hS (i := j) (m := y) (by omega)) (by rfl) (by rfl) (by rfl) (by rfl) (by rfl) (by rfl) (by rfl) (by (repeat' (first | exact Sels.nil | exact Sel.here | apply Sels.cons | apply Sel.there)); done) (by (repeat (first | exact sub0 | refine subC (by repeat (first | exact List.Mem.head _ | apply List.Mem.tail)) ?_)); done) ?_ ?_
       rotate_left
       · rintro ⟨t1, k1, i1⟩ hb
         dsimp only at hb
         (repeat (first | refine XQ.sqP ?_ | refine XQ.rdP ?_ | refine XQ.mtP ?_ | refine XQ.blockP ?_ | refine XQ.anSP ?_))
         exact XQ.rpBad (by (repeat' (first | exact Sels.nil | exact Sel.here | apply Sels.cons | apply Sel.there)); done) (by simp only [itemB, PM.bind, hy, hk, if_neg hc, hb])
       rintro ⟨z, k⟩ ⟨hz, hz', hz''⟩
       dsimp only at hz hz' hz''
       conv => arg 9; dsimp only [List.cons_append, List.nil_append]
       try conv => arg 7; dsimp only
       repeat' (first
         | refine XStep ?_
         | refine Fa.mk fun b => ?_
         | refine Fb.mk fun b2 => ?_
         | refine Fz.mk fun z => ?_
         | (refine Gd.mk (fun h => ?_) (fun h => ?_) <;> try (first | (exfalso; omega) | exact absurd rfl h | (exfalso; simp at h <;> omega)))
         | refine Ands.mk ?_ ?_
         | (refine XC.is ?_; refine W110 ?_; refine XC.planG (by kernel_rfl) (fun _ m h => h.drewn m) ?_; (conv => arg 5; reduce); refine XG0.of ?_; (conv => arg 5; reduce); (conv => arg 6; reduce); refine XG.go (by decide +kernel) ?_))
       refine XL.triq (due_tri hS (i := k) (k := 0) (by omega) (by omega)) (by rfl) (by rfl) (by rfl) (by rfl) (by rfl) (by rfl) (by rfl) (by (repeat' (first | exact Sels.nil | exact Sel.here | apply Sels.cons | apply Sel.there)); done) (by (repeat' (first | exact Sels.nil | exact Sel.here | apply Sels.cons | apply Sel.there)); done) (by (repeat (first | exact sub0 | refine subC (by repeat (first | exact List.Mem.head _ | apply List.Mem.tail)) ?_)); done) ?_
       repeat' (first
         | refine XStep ?_
         | refine Fa.mk fun b => ?_
         | refine Fb.mk fun b2 => ?_
         | refine Fz.mk fun z => ?_
         | (refine Gd.mk (fun h => ?_) (fun h => ?_) <;> try (first | (exfalso; omega) | exact absurd rfl h | (exfalso; simp at h <;> omega)))
         | refine Ands.mk ?_ ?_
         | (refine XC.is ?_; refine W110 ?_; refine XC.planG (by kernel_rfl) (fun _ m h => h.drewn m) ?_; (conv => arg 5; reduce); refine XG0.of ?_; (conv => arg 5; reduce); (conv => arg 6; reduce); refine XG.go (by decide +kernel) ?_))
       · have kn : (due S k).kind = 1 := by assumption
         refine XL.triq (due_tri hS (i := k) (k := 1) (by omega) (by omega)) (by rfl) (by rfl) (by rfl) (by rfl) (by rfl) (by rfl) (by rfl) (by (repeat' (first | exact Sels.nil | exact Sel.here | apply Sels.cons | apply Sel.there)); done) (by (repeat' (first | exact Sels.nil | exact Sel.here | apply Sels.cons | apply Sel.there)); done) (by (repeat (first | exact sub0 | refine subC (by repeat (first | exact List.Mem.head _ | apply List.Mem.tail)) ?_)); done) ?_
         repeat' (first
           | refine XStep ?_
           | refine Fa.mk fun b => ?_
           | refine Fb.mk fun b2 => ?_
           | refine Fz.mk fun z => ?_
           | (refine Gd.mk (fun h => ?_) (fun h => ?_) <;> try (first | (exfalso; omega) | exact absurd rfl h | (exfalso; simp at h <;> omega)))
           | refine Ands.mk ?_ ?_
           | (refine XC.is ?_; refine W110 ?_; refine XC.planG (by kernel_rfl) (fun _ m h => h.drewn m) ?_; (conv => arg 5; reduce); refine XG0.of ?_; (conv => arg 5; reduce); (conv => arg 6; reduce); refine XG.go (by decide +kernel) ?_))
         · have k4 : (due S (k + 1)).kind = 4 := by assumption
           refine XL.triq (due_tri hS (i := k) (k := 1) (by omega) (by omega)) (by rfl) (by rfl) (by rfl) (by rfl) (by rfl) (by rfl) (by rfl) (by (repeat' (first | exact Sels.nil | exact Sel.here | apply Sels.cons | apply Sel.there)); done) (by (repeat' (first | exact Sels.nil | exact Sel.here | apply Sels.cons | apply Sel.there)); done) (by (repeat (first | exact sub0 | refine subC (by repeat (first | exact List.Mem.head _ | apply List.Mem.tail)) ?_)); done) ?_
           repeat' (first
             | refine XStep ?_
             | refine Fa.mk fun b => ?_
             | refine Fb.mk fun b2 => ?_
             | refine Fz.mk fun z => ?_
             | (refine Gd.mk (fun h => ?_) (fun h => ?_) <;> try (first | (exfalso; omega) | exact absurd rfl h | (exfalso; simp at h <;> omega)))
             | refine Ands.mk ?_ ?_
             | (refine XC.is ?_; refine W110 ?_; refine XC.planG (by kernel_rfl) (fun _ m h => h.drewn m) ?_; (conv => arg 5; reduce); refine XG0.of ?_; (conv => arg 5; reduce); (conv => arg 6; reduce); refine XG.go (by decide +kernel) ?_))
           · have kt : (due S (k + 1)).text = tx [40] := by assumption
             refine XL.trip (fn_tri hW hS (i := k) (m := z) (by omega) hask hst) (by rfl) (by rfl) (by rfl) (by rfl) (by rfl) (by rfl) (by rfl) (by (repeat' (first | exact Sels.nil | exact Sel.here | apply Sels.cons | apply Sel.there)); done) (by (repeat (first | exact sub0 | refine subC (by repeat (first | exact List.Mem.head _ | apply List.Mem.tail)) ?_)); done) ?_ ?_
             rotate_left
             · rintro ⟨t1, k1, i1⟩ hb
               dsimp only at hb
               (repeat (first | refine XQ.sqP ?_ | refine XQ.rdP ?_ | refine XQ.mtP ?_ | refine XQ.blockP ?_ | refine XQ.anSP ?_))
               exact XQ.rpBad (by (repeat' (first | exact Sels.nil | exact Sel.here | apply Sels.cons | apply Sel.there)); done) (by simp only [itemB, PM.bind, hy, hk, if_neg hc, hz, kn, k4, kt, and_self, if_true, hb])
             rintro ⟨x, k2⟩ ⟨hx, hx', hx''⟩
             dsimp only at hx hx' hx''
             conv => arg 9; dsimp only [List.cons_append, List.nil_append]
             try conv => arg 7; dsimp only
             repeat' (first
               | refine XStep ?_
               | refine Fa.mk fun b => ?_
               | refine Fb.mk fun b2 => ?_
               | refine Fz.mk fun z => ?_
               | (refine Gd.mk (fun h => ?_) (fun h => ?_) <;> try (first | (exfalso; omega) | exact absurd rfl h | (exfalso; simp at h <;> omega)))
               | refine Ands.mk ?_ ?_
               | (refine XC.is ?_; refine W110 ?_; refine XC.planG (by kernel_rfl) (fun _ m h => h.drewn m) ?_; (conv => arg 5; reduce); refine XG0.of ?_; (conv => arg 5; reduce); (conv => arg 6; reduce); refine XG.go (by decide +kernel) ?_))
             exact XQ.doneC (by rfl) (by rfl) (by rfl) (by rfl) (by repeat (first | exact Sel.here | apply Sel.there)) (by rfl) (RP.ok (x := x) (j := k2) ⟨by simp only [itemB, PM.bind, hy, hk, if_neg hc, hz, kn, k4, kt, and_self, if_true, hx], by omega, by omega⟩) (by (repeat' (first | exact Sels.nil | exact Sel.here | apply Sels.cons | apply Sel.there)); done) (by (repeat (first | exact sub0 | refine subC (by repeat (first | exact List.Mem.head _ | apply List.Mem.tail)) ?_)); done)
           · skip
             have hn : ¬ ((due S k).kind = 1 ∧ (due S (k + 1)).kind = 4 ∧ (due S (k + 1)).text = tx [40]) := by
               rintro ⟨h1, h2, h3⟩
               contradiction
             refine XL.trip (decl_tri hW hS (i := k) (m := z) (by omega) hask) (by rfl) (by rfl) (by rfl) (by rfl) (by rfl) (by rfl) (by rfl) (by (repeat' (first | exact Sels.nil | exact Sel.here | apply Sels.cons | apply Sel.there)); done) (by (repeat (first | exact sub0 | refine subC (by repeat (first | exact List.Mem.head _ | apply List.Mem.tail)) ?_)); done) ?_ ?_
             rotate_left
             · rintro ⟨t1, k1, i1⟩ hb
               dsimp only at hb
               (repeat (first | refine XQ.sqP ?_ | refine XQ.rdP ?_ | refine XQ.mtP ?_ | refine XQ.blockP ?_ | refine XQ.anSP ?_))
               exact XQ.rpBad (by (repeat' (first | exact Sels.nil | exact Sel.here | apply Sels.cons | apply Sel.there)); done) (by simp only [itemB, PM.bind, hy, hk, if_neg hc, hz, if_neg hn, hb])
             rintro ⟨x, k2⟩ ⟨hx, hx', hx''⟩
             dsimp only at hx hx' hx''
             conv => arg 9; dsimp only [List.cons_append, List.nil_append]
             try conv => arg 7; dsimp only
             repeat' (first
               | refine XStep ?_
               | refine Fa.mk fun b => ?_
               | refine Fb.mk fun b2 => ?_
               | refine Fz.mk fun z => ?_
               | (refine Gd.mk (fun h => ?_) (fun h => ?_) <;> try (first | (exfalso; omega) | exact absurd rfl h | (exfalso; simp at h <;> omega)))
               | refine Ands.mk ?_ ?_
               | (refine XC.is ?_; refine W110 ?_; refine XC.planG (by kernel_rfl) (fun _ m h => h.drewn m) ?_; (conv => arg 5; reduce); refine XG0.of ?_; (conv => arg 5; reduce); (conv => arg 6; reduce); refine XG.go (by decide +kernel) ?_))
             refine XL.trip (must_tri (t := tx [59]) hS (i := k2) (by omega)) (by rfl) (by rfl) (by rfl) (by rfl) (by rfl) (by rfl) (by rfl) (by (repeat' (first | exact Sels.nil | exact Sel.here | apply Sels.cons | apply Sel.there)); done) (by (repeat (first | exact sub0 | refine subC (by repeat (first | exact List.Mem.head _ | apply List.Mem.tail)) ?_)); done) ?_ ?_
             rotate_left
             · rintro ⟨t1, k1, i1⟩ hb
               dsimp only at hb
               (repeat (first | refine XQ.sqP ?_ | refine XQ.rdP ?_ | refine XQ.mtP ?_ | refine XQ.blockP ?_ | refine XQ.anSP ?_))
               exact XQ.rpBad (by (repeat' (first | exact Sels.nil | exact Sel.here | apply Sels.cons | apply Sel.there)); done) (by simp only [itemB, PM.bind, hy, hk, if_neg hc, hz, if_neg hn, hx, hb])
             rintro ⟨u1, k3⟩ ⟨h1, h1', h1''⟩
             dsimp only at h1 h1' h1''
             conv => arg 9; dsimp only [List.cons_append, List.nil_append]
             try conv => arg 7; dsimp only
             subst h1'
             repeat' (first
               | refine XStep ?_
               | refine Fa.mk fun b => ?_
               | refine Fb.mk fun b2 => ?_
               | refine Fz.mk fun z => ?_
               | (refine Gd.mk (fun h => ?_) (fun h => ?_) <;> try (first | (exfalso; omega) | exact absurd rfl h | (exfalso; simp at h <;> omega)))
               | refine Ands.mk ?_ ?_
               | (refine XC.is ?_; refine W110 ?_; refine XC.planG (by kernel_rfl) (fun _ m h => h.drewn m) ?_; (conv => arg 5; reduce); refine XG0.of ?_; (conv => arg 5; reduce); (conv => arg 6; reduce); refine XG.go (by decide +kernel) ?_))
             refine XQ.conv (fun w h => h.ndGlobal (x := x) (by repeat (first | exact List.Mem.head _ | apply List.Mem.tail))) ?_
             exact XQ.doneC (by rfl) (by rfl) (by rfl) (by rfl) (by repeat (first | exact Sel.here | apply Sel.there)) (by rfl) (RP.ok (x := .mk 21 x.text x.n x.t x.ad x.len x.cap x.kids) (j := k2 + 1) ⟨by simp only [itemB, PM.bind, PM.pure, hy, hk, if_neg hc, hz, if_neg hn, hx, h1, nd_global], by omega, by omega⟩) (by (repeat' (first | exact Sels.nil | exact Sel.here | apply Sels.cons | apply Sel.there)); done) (by (repeat (first | exact sub0 | refine subC (by repeat (first | exact List.Mem.head _ | apply List.Mem.tail)) ?_)); done)
         · skip
           have hn : ¬ ((due S k).kind = 1 ∧ (due S (k + 1)).kind = 4 ∧ (due S (k + 1)).text = tx [40]) := by
             rintro ⟨h1, h2, h3⟩
             contradiction
           refine XL.trip (decl_tri hW hS (i := k) (m := z) (by omega) hask) (by rfl) (by rfl) (by rfl) (by rfl) (by rfl) (by rfl) (by rfl) (by (repeat' (first | exact Sels.nil | exact Sel.here | apply Sels.cons | apply Sel.there)); done) (by (repeat (first | exact sub0 | refine subC (by repeat (first | exact List.Mem.head _ | apply List.Mem.tail)) ?_)); done) ?_ ?_
           rotate_left
           · rintro ⟨t1, k1, i1⟩ hb
             dsimp only at hb
             (repeat (first | refine XQ.sqP ?_ | refine XQ.rdP ?_ | refine XQ.mtP ?_ | refine XQ.blockP ?_ | refine XQ.anSP ?_))
             exact XQ.rpBad (by (repeat' (first | exact Sels.nil | exact Sel.here | apply Sels.cons | apply Sel.there)); done) (by simp only [itemB, PM.bind, hy, hk, if_neg hc, hz, if_neg hn, hb])
           rintro ⟨x, k2⟩ ⟨hx, hx', hx''⟩
           dsimp only at hx hx' hx''
           conv => arg 9; dsimp only [List.cons_append, List.nil_append]
           try conv => arg 7; dsimp only
           repeat' (first
             | refine XStep ?_
             | refine Fa.mk fun b => ?_
             | refine Fb.mk fun b2 => ?_
             | refine Fz.mk fun z => ?_
             | (refine Gd.mk (fun h => ?_) (fun h => ?_) <;> try (first | (exfalso; omega) | exact absurd rfl h | (exfalso; simp at h <;> omega)))
             | refine Ands.mk ?_ ?_
             | (refine XC.is ?_; refine W110 ?_; refine XC.planG (by kernel_rfl) (fun _ m h => h.drewn m) ?_; (conv => arg 5; reduce); refine XG0.of ?_; (conv => arg 5; reduce); (conv => arg 6; reduce); refine XG.go (by decide +kernel) ?_))
           refine XL.trip (must_tri (t := tx [59]) hS (i := k2) (by omega)) (by rfl) (by rfl) (by rfl) (by rfl) (by rfl) (by rfl) (by rfl) (by (repeat' (first | exact Sels.nil | exact Sel.here | apply Sels.cons | apply Sel.there)); done) (by (repeat (first | exact sub0 | refine subC (by repeat (first | exact List.Mem.head _ | apply List.Mem.tail)) ?_)); done) ?_ ?_
           rotate_left
           · rintro ⟨t1, k1, i1⟩ hb
             dsimp only at hb
             (repeat (first | refine XQ.sqP ?_ | refine XQ.rdP ?_ | refine XQ.mtP ?_ | refine XQ.blockP ?_ | refine XQ.anSP ?_))
             exact XQ.rpBad (by (repeat' (first | exact Sels.nil | exact Sel.here | apply Sels.cons | apply Sel.there)); done) (by simp only [itemB, PM.bind, hy, hk, if_neg hc, hz, if_neg hn, hx, hb])
           rintro ⟨u1, k3⟩ ⟨h1, h1', h1''⟩
           dsimp only at h1 h1' h1''
           conv => arg 9; dsimp only [List.cons_append, List.nil_append]
           try conv => arg 7; dsimp only
           subst h1'
           repeat' (first
             | refine XStep ?_
             | refine Fa.mk fun b => ?_
             | refine Fb.mk fun b2 => ?_
             | refine Fz.mk fun z => ?_
             | (refine Gd.mk (fun h => ?_) (fun h => ?_) <;> try (first | (exfalso; omega) | exact absurd rfl h | (exfalso; simp at h <;> omega)))
             | refine Ands.mk ?_ ?_
             | (refine XC.is ?_; refine W110 ?_; refine XC.planG (by kernel_rfl) (fun _ m h => h.drewn m) ?_; (conv => arg 5; reduce); refine XG0.of ?_; (conv => arg 5; reduce); (conv => arg 6; reduce); refine XG.go (by decide +kernel) ?_))
           refine XQ.conv (fun w h => h.ndGlobal (x := x) (by repeat (first | exact List.Mem.head _ | apply List.Mem.tail))) ?_
           exact XQ.doneC (by rfl) (by rfl) (by rfl) (by rfl) (by repeat (first | exact Sel.here | apply Sel.there)) (by rfl) (RP.ok (x := .mk 21 x.text x.n x.t x.ad x.len x.cap x.kids) (j := k2 + 1) ⟨by simp only [itemB, PM.bind, PM.pure, hy, hk, if_neg hc, hz, if_neg hn, hx, h1, nd_global], by omega, by omega⟩) (by (repeat' (first | exact Sels.nil | exact Sel.here | apply Sels.cons | apply Sel.there)); done) (by (repeat (first | exact sub0 | refine subC (by repeat (first | exact List.Mem.head _ | apply List.Mem.tail)) ?_)); done)
       · skip
         have hn : ¬ ((due S k).kind = 1 ∧ (due S (k + 1)).kind = 4 ∧ (due S (k + 1)).text = tx [40]) := by
           rintro ⟨h1, h2, h3⟩
           contradiction
         refine XL.trip (decl_tri hW hS (i := k) (m := z) (by omega) hask) (by rfl) (by rfl) (by rfl) (by rfl) (by rfl) (by rfl) (by rfl) (by (repeat' (first | exact Sels.nil | exact Sel.here | apply Sels.cons | apply Sel.there)); done) (by (repeat (first | exact sub0 | refine subC (by repeat (first | exact List.Mem.head _ | apply List.Mem.tail)) ?_)); done) ?_ ?_
         rotate_left
         · rintro ⟨t1, k1, i1⟩ hb
           dsimp only at hb
           (repeat (first | refine XQ.sqP ?_ | refine XQ.rdP ?_ | refine XQ.mtP ?_ | refine XQ.blockP ?_ | refine XQ.anSP ?_))
           exact XQ.rpBad (by (repeat' (first | exact Sels.nil | exact Sel.here | apply Sels.cons | apply Sel.there)); done) (by simp only [itemB, PM.bind, hy, hk, if_neg hc, hz, if_neg hn, hb])
         rintro ⟨x, k2⟩ ⟨hx, hx', hx''⟩
         dsimp only at hx hx' hx''
         conv => arg 9; dsimp only [List.cons_append, List.nil_append]
         try conv => arg 7; dsimp only
         repeat' (first
           | refine XStep ?_
           | refine Fa.mk fun b => ?_
           | refine Fb.mk fun b2 => ?_
           | refine Fz.mk fun z => ?_
           | (refine Gd.mk (fun h => ?_) (fun h => ?_) <;> try (first | (exfalso; omega) | exact absurd rfl h | (exfalso; simp at h <;> omega)))
           | refine Ands.mk ?_ ?_
           | (refine XC.is ?_; refine W110 ?_; refine XC.planG (by kernel_rfl) (fun _ m h => h.drewn m) ?_; (conv => arg 5; reduce); refine XG0.of ?_; (conv => arg 5; reduce); (conv => arg 6; reduce); refine XG.go (by decide +kernel) ?_))
         refine XL.trip (must_tri (t := tx [59]) hS (i := k2) (by omega)) (by rfl) (by rfl) (by rfl) (by rfl) (by rfl) (by rfl) (by rfl) (by (repeat' (first | exact Sels.nil | exact Sel.here | apply Sels.cons | apply Sel.there)); done) (by (repeat (first | exact sub0 | refine subC (by repeat (first | exact List.Mem.head _ | apply List.Mem.tail)) ?_)); done) ?_ ?_
         rotate_left
         · rintro ⟨t1, k1, i1⟩ hb
           dsimp only at hb
           (repeat (first | refine XQ.sqP ?_ | refine XQ.rdP ?_ | refine XQ.mtP ?_ | refine XQ.blockP ?_ | refine XQ.anSP ?_))
           exact XQ.rpBad (by (repeat' (first | exact Sels.nil | exact Sel.here | apply Sels.cons | apply Sel.there)); done) (by simp only [itemB, PM.bind, hy, hk, if_neg hc, hz, if_neg hn, hx, hb])
         rintro ⟨u1, k3⟩ ⟨h1, h1', h1''⟩
         dsimp only at h1 h1' h1''
         conv => arg 9; dsimp only [List.cons_append, List.nil_append]
         try conv => arg 7; dsimp only
         subst h1'
         repeat' (first
           | refine XStep ?_
           | refine Fa.mk fun b => ?_
           | refine Fb.mk fun b2 => ?_
           | refine Fz.mk fun z => ?_
           | (refine Gd.mk (fun h => ?_) (fun h => ?_) <;> try (first | (exfalso; omega) | exact absurd rfl h | (exfalso; simp at h <;> omega)))
           | refine Ands.mk ?_ ?_
           | (refine XC.is ?_; refine W110 ?_; refine XC.planG (by kernel_rfl) (fun _ m h => h.drewn m) ?_; (conv => arg 5; reduce); refine XG0.of ?_; (conv => arg 5; reduce); (conv => arg 6; reduce); refine XG.go (by decide +kernel) ?_))
         refine XQ.conv (fun w h => h.ndGlobal (x := x) (by repeat (first | exact List.Mem.head _ | apply List.Mem.tail))) ?_
         exact XQ.doneC (by rfl) (by rfl) (by rfl) (by rfl) (by repeat (first | exact Sel.here | apply Sel.there)) (by rfl) (RP.ok (x := .mk 21 x.text x.n x.t x.ad x.len x.cap x.kids) (j := k2 + 1) ⟨by simp only [itemB, PM.bind, PM.pure, hy, hk, if_neg hc, hz, if_neg hn, hx, h1, nd_global], by omega, by omega⟩) (by (repeat' (first | exact Sels.nil | exact Sel.here | apply Sels.cons | apply Sel.there)); done) (by (repeat (first | exact sub0 | refine subC (by repeat (first | exact List.Mem.head _ | apply List.Mem.tail)) ?_)); done))
end Go.Proofs.Ytjnineeeffecaaa
