/- The parser's declarations, and its statements without their ;. -/
import Derived.Test.YtjnineeeffecaaaP9
namespace Go.Proofs.Ytjnineeeffecaaa
open Go X
set_option maxRecDepth 100000
set_option maxHeartbeats 4000000
attribute [local irreducible] XC XL XQ Tri blk Shows Sq Rd Mt inBlockX XS XG XG0 TkS AnS rowO tyFP tysFP ndFP ndsFP Row.fp FP.all
/-- What is asked of the function that makes arrays of a type. -/
def WrapT : Prop := ∀ {m : TyM} {v : Value} {l : List Int}, l.length ≤ 20000 → Tri Try.prog 53 [m.v, v] [] [tyFP m, Row.fp 1 v l.length (l.map (Value.int .i64))] (Ret (fun x : TyM => x.v) (fun _ => []) (fun x => [tyFP x]) fun x => x.ty = wrapS m.ty l)
theorem decl_tri (hW : WrapT) {S : Src} (hS : S.T.length ≤ 20000) {lv : Value} {pb d i : Nat} {ask : PM Ty} {m : TyM} (hi : i ≤ S.T.length)
    (hask : ∀ j, j ≤ S.T.length → Tri Try.prog 68 [.pointer (some ⟨pb, 0, none⟩)] [pB S lv pb j d] [tkF S lv] (TyR S lv pb d j ask)) :
    Tri Try.prog 30 [.pointer (some ⟨pb, 0, none⟩), m.v] [pB S lv pb i d] [tkF S lv, tyFP m] (NdR S lv pb d i (declB S ask m.ty)) := by
  refine Tri.of Try.func30 rfl fun c => ?_
  repeat' (first
    | refine XStep ?_
    | refine Fa.mk fun b => ?_
    | refine Fb.mk fun b2 => ?_
    | refine Fz.mk fun z => ?_
    | (refine Gd.mk (fun h => ?_) (fun h => ?_) <;> try (first | (exfalso; omega) | exact absurd rfl h | (exfalso; simp at h <;> omega)))
    | refine Ands.mk ?_ ?_
    | (refine XC.is ?_; refine W110 ?_; refine XC.planG (by kernel_rfl) (fun _ m h => h.drewn m) ?_; (conv => arg 5; reduce); refine XG0.of ?_; (conv => arg 5; reduce); (conv => arg 6; reduce); refine XG.go (by decide +kernel) ?_))
  refine XL.trip (stars_tri hS (i := i) (m := m) hi) (by rfl) (by rfl) (by rfl) (by rfl) (by rfl) (by rfl) (by rfl) (by (repeat' (first | exact Sels.nil | exact Sel.here | apply Sels.cons | apply Sel.there)); done) (by (repeat (first | exact sub0 | refine subC (by repeat (first | exact List.Mem.head _ | apply List.Mem.tail)) ?_)); done) ?_ ?_
  rotate_left
  · rintro ⟨t1, k1, i1⟩ hb
    dsimp only at hb
    (repeat (first | refine XQ.sqP ?_ | refine XQ.rdP ?_ | refine XQ.mtP ?_ | refine XQ.blockP ?_ | refine XQ.anSP ?_))
    exact XQ.rpBad (by (repeat' (first | exact Sels.nil | exact Sel.here | apply Sels.cons | apply Sel.there)); done) (by simp [PM.bind, PM.pure, hb, declB])
  rintro ⟨y, j⟩ ⟨hy, hy', hy''⟩
  dsimp only at hy hy' hy''
  conv => arg 9; dsimp only [List.cons_append, List.nil_append]
  try conv => arg 7; dsimp only
  repeat' (first
    | refine XStep ?_
    | refine Fa.mk fun b => ?_
    | refine Fb.mk fun b2 => ?_
    | refine Fz.mk fun z => ?_
    | (refine Gd.mk (fun h => ?_) (fun h => ?_) <;> try (first | (exfalso; omega) | exact absurd rfl h | (exfalso; simp at h <;> omega)))
    | refine Ands.mk ?_ ?_
    | (refine XC.is ?_; refine W110 ?_; refine XC.planG (by kernel_rfl) (fun _ m h => h.drewn m) ?_; (conv => arg 5; reduce); refine XG0.of ?_; (conv => arg 5; reduce); (conv => arg 6; reduce); refine XG.go (by decide +kernel) ?_))
  refine XL.trir (takes_tri (t := tx [40]) (i := j) hS (by omega)) (by rfl) (by rfl) (by rfl) (by rfl) (by rfl) (by rfl) (by rfl) (by (repeat' (first | exact Sels.nil | exact Sel.here | apply Sels.cons | apply Sel.there)); done) (by (repeat (first | exact sub0 | refine subC (by repeat (first | exact List.Mem.head _ | apply List.Mem.tail)) ?_)); done) ?_
  rintro q hq
  conv => arg 9; dsimp only [List.cons_append, List.nil_append]
  try conv => arg 7; dsimp only
  cases q <;> dsimp only [bInc]
  · repeat' (first
      | refine XStep ?_
      | refine Fa.mk fun b => ?_
      | refine Fb.mk fun b2 => ?_
      | refine Fz.mk fun z => ?_
      | (refine Gd.mk (fun h => ?_) (fun h => ?_) <;> try (first | (exfalso; omega) | exact absurd rfl h | (exfalso; simp at h <;> omega)))
      | refine Ands.mk ?_ ?_
      | (refine XC.is ?_; refine W110 ?_; refine XC.planG (by kernel_rfl) (fun _ m h => h.drewn m) ?_; (conv => arg 5; reduce); refine XG0.of ?_; (conv => arg 5; reduce); (conv => arg 6; reduce); refine XG.go (by decide +kernel) ?_))
    refine XL.trip (name_tri hS (i := j) (by omega)) (by rfl) (by rfl) (by rfl) (by rfl) (by rfl) (by rfl) (by rfl) (by (repeat' (first | exact Sels.nil | exact Sel.here | apply Sels.cons | apply Sel.there)); done) (by (repeat (first | exact sub0 | refine subC (by repeat (first | exact List.Mem.head _ | apply List.Mem.tail)) ?_)); done) ?_ ?_
    rotate_left
    · rintro ⟨t1, k1, i1⟩ hb
      dsimp only at hb
      (repeat (first | refine XQ.sqP ?_ | refine XQ.rdP ?_ | refine XQ.mtP ?_ | refine XQ.blockP ?_ | refine XQ.anSP ?_))
      exact XQ.rpBad (by (repeat' (first | exact Sels.nil | exact Sel.here | apply Sels.cons | apply Sel.there)); done) (by simp [PM.bind, PM.pure, hb, declB, hy, hq])
    rintro ⟨s, k⟩ ⟨hs, hs', hs''⟩
    dsimp only at hs hs' hs''
    conv => arg 9; dsimp only [List.cons_append, List.nil_append]
    try conv => arg 7; dsimp only
    repeat' (first
      | refine XStep ?_
      | refine Fa.mk fun b => ?_
      | refine Fb.mk fun b2 => ?_
      | refine Fz.mk fun z => ?_
      | (refine Gd.mk (fun h => ?_) (fun h => ?_) <;> try (first | (exfalso; omega) | exact absurd rfl h | (exfalso; simp at h <;> omega)))
      | refine Ands.mk ?_ ?_
      | (refine XC.is ?_; refine W110 ?_; refine XC.planG (by kernel_rfl) (fun _ m h => h.drewn m) ?_; (conv => arg 5; reduce); refine XG0.of ?_; (conv => arg 5; reduce); (conv => arg 6; reduce); refine XG.go (by decide +kernel) ?_))
    refine XL.trip (arrays_tri hS (i := k) (by omega)) (by rfl) (by rfl) (by rfl) (by rfl) (by rfl) (by rfl) (by rfl) (by (repeat' (first | exact Sels.nil | exact Sel.here | apply Sels.cons | apply Sel.there)); done) (by (repeat (first | exact sub0 | refine subC (by repeat (first | exact List.Mem.head _ | apply List.Mem.tail)) ?_)); done) ?_ ?_
    rotate_left
    · rintro ⟨t1, k1, i1⟩ hb
      dsimp only at hb
      (repeat (first | refine XQ.sqP ?_ | refine XQ.rdP ?_ | refine XQ.mtP ?_ | refine XQ.blockP ?_ | refine XQ.anSP ?_))
      exact XQ.rpBad (by (repeat' (first | exact Sels.nil | exact Sel.here | apply Sels.cons | apply Sel.there)); done) (by simp [PM.bind, PM.pure, hb, declB, hy, hq, hs])
    rintro ⟨v, l, k2⟩ ⟨hl, hl', hl'', hal⟩
    dsimp only at hl hl' hl'' hal
    conv => arg 9; dsimp only [List.cons_append, List.nil_append]
    try conv => arg 7; dsimp only
    repeat' (first
      | refine XStep ?_
      | refine Fa.mk fun b => ?_
      | refine Fb.mk fun b2 => ?_
      | refine Fz.mk fun z => ?_
      | (refine Gd.mk (fun h => ?_) (fun h => ?_) <;> try (first | (exfalso; omega) | exact absurd rfl h | (exfalso; simp at h <;> omega)))
      | refine Ands.mk ?_ ?_
      | (refine XC.is ?_; refine W110 ?_; refine XC.planG (by kernel_rfl) (fun _ m h => h.drewn m) ?_; (conv => arg 5; reduce); refine XG0.of ?_; (conv => arg 5; reduce); (conv => arg 6; reduce); refine XG.go (by decide +kernel) ?_))
    refine XL.conv (fun w h => h.rowFreeze (e := 3) (size := 1) (by repeat (first | exact Sel.here | apply Sel.there))) ?_
    refine XL.trir (hW (m := y) (v := v) (l := l) (by omega)) (by rfl) (by rfl) (by rfl) (by rfl) (by rfl) (by rfl) (by rfl) (by (repeat' (first | exact Sels.nil | exact Sel.here | apply Sels.cons | apply Sel.there)); done) (by (repeat (first | exact sub0 | refine subC (by repeat (first | exact List.Mem.head _ | apply List.Mem.tail)) ?_)); done) ?_
    rintro z hz
    conv => arg 9; dsimp only [List.cons_append, List.nil_append]
    try conv => arg 7; dsimp only
    repeat' (first
      | refine XStep ?_
      | refine Fa.mk fun b => ?_
      | refine Fb.mk fun b2 => ?_
      | refine Fz.mk fun z => ?_
      | (refine Gd.mk (fun h => ?_) (fun h => ?_) <;> try (first | (exfalso; omega) | exact absurd rfl h | (exfalso; simp at h <;> omega)))
      | refine Ands.mk ?_ ?_
      | (refine XC.is ?_; refine W110 ?_; refine XC.planG (by kernel_rfl) (fun _ m h => h.drewn m) ?_; (conv => arg 5; reduce); refine XG0.of ?_; (conv => arg 5; reduce); (conv => arg 6; reduce); refine XG.go (by decide +kernel) ?_))
    refine XQ.conv (fun w h => h.ndLeaf 13 0 s z (by repeat (first | exact List.Mem.head _ | apply List.Mem.tail))) ?_
    exact XQ.doneC (by rfl) (by rfl) (by rfl) (by rfl) (by repeat (first | exact Sel.here | apply Sel.there)) (by rfl) (RP.ok (x := .mk 13 s 0 z none 0 0 []) (j := k2) ⟨by simp [declB, PM.bind, PM.pure, hy, hq, hs, hl, hz, NdM.nd, NdM.nds], by omega, by omega⟩) (by (repeat' (first | exact Sels.nil | exact Sel.here | apply Sels.cons | apply Sel.there)); done) (by (repeat (first | exact sub0 | refine subC (by repeat (first | exact List.Mem.head _ | apply List.Mem.tail)) ?_)); done)
  · have hlt := isB_lt hq
    repeat' (first
      | refine XStep ?_
      | refine Fa.mk fun b => ?_
      | refine Fb.mk fun b2 => ?_
      | refine Fz.mk fun z => ?_
      | (refine Gd.mk (fun h => ?_) (fun h => ?_) <;> try (first | (exfalso; omega) | exact absurd rfl h | (exfalso; simp at h <;> omega)))
      | refine Ands.mk ?_ ?_
      | (refine XC.is ?_; refine W110 ?_; refine XC.planG (by kernel_rfl) (fun _ m h => h.drewn m) ?_; (conv => arg 5; reduce); refine XG0.of ?_; (conv => arg 5; reduce); (conv => arg 6; reduce); refine XG.go (by decide +kernel) ?_))
    refine XL.trip (must_tri (t := tx [42]) hS (i := j + 1) (by omega)) (by rfl) (by rfl) (by rfl) (by rfl) (by rfl) (by rfl) (by rfl) (by (repeat' (first | exact Sels.nil | exact Sel.here | apply Sels.cons | apply Sel.there)); done) (by (repeat (first | exact sub0 | refine subC (by repeat (first | exact List.Mem.head _ | apply List.Mem.tail)) ?_)); done) ?_ ?_
    rotate_left
    · rintro ⟨t1, k1, i1⟩ hb
      dsimp only at hb
      (repeat (first | refine XQ.sqP ?_ | refine XQ.rdP ?_ | refine XQ.mtP ?_ | refine XQ.blockP ?_ | refine XQ.anSP ?_))
      exact XQ.rpBad (by (repeat' (first | exact Sels.nil | exact Sel.here | apply Sels.cons | apply Sel.there)); done) (by simp [PM.bind, PM.pure, hb, declB, hy, hq])
    rintro ⟨u1, k1⟩ ⟨h1, h1', h1''⟩
    dsimp only at h1 h1' h1''
    conv => arg 9; dsimp only [List.cons_append, List.nil_append]
    try conv => arg 7; dsimp only
    subst h1'
    repeat' (first
      | refine XStep ?_
      | refine Fa.mk fun b => ?_
      | refine Fb.mk fun b2 => ?_
      | refine Fz.mk fun z => ?_
      | (refine Gd.mk (fun h => ?_) (fun h => ?_) <;> try (first | (exfalso; omega) | exact absurd rfl h | (exfalso; simp at h <;> omega)))
      | refine Ands.mk ?_ ?_
      | (refine XC.is ?_; refine W110 ?_; refine XC.planG (by kernel_rfl) (fun _ m h => h.drewn m) ?_; (conv => arg 5; reduce); refine XG0.of ?_; (conv => arg 5; reduce); (conv => arg 6; reduce); refine XG.go (by decide +kernel) ?_))
    refine XL.trip (name_tri hS (i := j + 1 + 1) (by omega)) (by rfl) (by rfl) (by rfl) (by rfl) (by rfl) (by rfl) (by rfl) (by (repeat' (first | exact Sels.nil | exact Sel.here | apply Sels.cons | apply Sel.there)); done) (by (repeat (first | exact sub0 | refine subC (by repeat (first | exact List.Mem.head _ | apply List.Mem.tail)) ?_)); done) ?_ ?_
    rotate_left
    · rintro ⟨t1, k1, i1⟩ hb
      dsimp only at hb
      (repeat (first | refine XQ.sqP ?_ | refine XQ.rdP ?_ | refine XQ.mtP ?_ | refine XQ.blockP ?_ | refine XQ.anSP ?_))
      exact XQ.rpBad (by (repeat' (first | exact Sels.nil | exact Sel.here | apply Sels.cons | apply Sel.there)); done) (by simp [PM.bind, PM.pure, hb, declB, hy, hq, h1])
    rintro ⟨s, k⟩ ⟨hs, hs', hs''⟩
    dsimp only at hs hs' hs''
    conv => arg 9; dsimp only [List.cons_append, List.nil_append]
    try conv => arg 7; dsimp only
    repeat' (first
      | refine XStep ?_
      | refine Fa.mk fun b => ?_
      | refine Fb.mk fun b2 => ?_
      | refine Fz.mk fun z => ?_
      | (refine Gd.mk (fun h => ?_) (fun h => ?_) <;> try (first | (exfalso; omega) | exact absurd rfl h | (exfalso; simp at h <;> omega)))
      | refine Ands.mk ?_ ?_
      | (refine XC.is ?_; refine W110 ?_; refine XC.planG (by kernel_rfl) (fun _ m h => h.drewn m) ?_; (conv => arg 5; reduce); refine XG0.of ?_; (conv => arg 5; reduce); (conv => arg 6; reduce); refine XG.go (by decide +kernel) ?_))
    refine XL.trip (arrays_tri hS (i := k) (by omega)) (by rfl) (by rfl) (by rfl) (by rfl) (by rfl) (by rfl) (by rfl) (by (repeat' (first | exact Sels.nil | exact Sel.here | apply Sels.cons | apply Sel.there)); done) (by (repeat (first | exact sub0 | refine subC (by repeat (first | exact List.Mem.head _ | apply List.Mem.tail)) ?_)); done) ?_ ?_
    rotate_left
    · rintro ⟨t1, k1, i1⟩ hb
      dsimp only at hb
      (repeat (first | refine XQ.sqP ?_ | refine XQ.rdP ?_ | refine XQ.mtP ?_ | refine XQ.blockP ?_ | refine XQ.anSP ?_))
      exact XQ.rpBad (by (repeat' (first | exact Sels.nil | exact Sel.here | apply Sels.cons | apply Sel.there)); done) (by simp [PM.bind, PM.pure, hb, declB, hy, hq, h1, hs])
    rintro ⟨v, l, k2⟩ ⟨hl, hl', hl'', hal⟩
    dsimp only at hl hl' hl'' hal
    conv => arg 9; dsimp only [List.cons_append, List.nil_append]
    try conv => arg 7; dsimp only
    repeat' (first
      | refine XStep ?_
      | refine Fa.mk fun b => ?_
      | refine Fb.mk fun b2 => ?_
      | refine Fz.mk fun z => ?_
      | (refine Gd.mk (fun h => ?_) (fun h => ?_) <;> try (first | (exfalso; omega) | exact absurd rfl h | (exfalso; simp at h <;> omega)))
      | refine Ands.mk ?_ ?_
      | (refine XC.is ?_; refine W110 ?_; refine XC.planG (by kernel_rfl) (fun _ m h => h.drewn m) ?_; (conv => arg 5; reduce); refine XG0.of ?_; (conv => arg 5; reduce); (conv => arg 6; reduce); refine XG.go (by decide +kernel) ?_))
    refine XL.trip (must_tri (t := tx [41]) hS (i := k2) (by omega)) (by rfl) (by rfl) (by rfl) (by rfl) (by rfl) (by rfl) (by rfl) (by (repeat' (first | exact Sels.nil | exact Sel.here | apply Sels.cons | apply Sel.there)); done) (by (repeat (first | exact sub0 | refine subC (by repeat (first | exact List.Mem.head _ | apply List.Mem.tail)) ?_)); done) ?_ ?_
    rotate_left
    · rintro ⟨t1, k1, i1⟩ hb
      dsimp only at hb
      (repeat (first | refine XQ.sqP ?_ | refine XQ.rdP ?_ | refine XQ.mtP ?_ | refine XQ.blockP ?_ | refine XQ.anSP ?_))
      exact XQ.rpBad (by (repeat' (first | exact Sels.nil | exact Sel.here | apply Sels.cons | apply Sel.there)); done) (by simp [PM.bind, PM.pure, hb, declB, hy, hq, h1, hs, hl])
    rintro ⟨u2, k3⟩ ⟨h2, h2', h2''⟩
    dsimp only at h2 h2' h2''
    conv => arg 9; dsimp only [List.cons_append, List.nil_append]
    try conv => arg 7; dsimp only
    subst h2'
    repeat' (first
      | refine XStep ?_
      | refine Fa.mk fun b => ?_
      | refine Fb.mk fun b2 => ?_
      | refine Fz.mk fun z => ?_
      | (refine Gd.mk (fun h => ?_) (fun h => ?_) <;> try (first | (exfalso; omega) | exact absurd rfl h | (exfalso; simp at h <;> omega)))
      | refine Ands.mk ?_ ?_
      | (refine XC.is ?_; refine W110 ?_; refine XC.planG (by kernel_rfl) (fun _ m h => h.drewn m) ?_; (conv => arg 5; reduce); refine XG0.of ?_; (conv => arg 5; reduce); (conv => arg 6; reduce); refine XG.go (by decide +kernel) ?_))
    refine XL.trip (asks_tri hS (i := k2 + 1) (m := y) (by omega) hask) (by rfl) (by rfl) (by rfl) (by rfl) (by rfl) (by rfl) (by rfl) (by (repeat' (first | exact Sels.nil | exact Sel.here | apply Sels.cons | apply Sel.there)); done) (by (repeat (first | exact sub0 | refine subC (by repeat (first | exact List.Mem.head _ | apply List.Mem.tail)) ?_)); done) ?_ ?_
    rotate_left
    · rintro ⟨t1, k1, i1⟩ hb
      dsimp only at hb
      (repeat (first | refine XQ.sqP ?_ | refine XQ.rdP ?_ | refine XQ.mtP ?_ | refine XQ.blockP ?_ | refine XQ.anSP ?_))
      exact XQ.rpBad (by (repeat' (first | exact Sels.nil | exact Sel.here | apply Sels.cons | apply Sel.there)); done) (by simp [PM.bind, PM.pure, hb, declB, hy, hq, h1, hs, hl, h2])
    rintro ⟨z0, k4⟩ ⟨hz0, hz0', hz0''⟩
    dsimp only at hz0 hz0' hz0''
    conv => arg 9; dsimp only [List.cons_append, List.nil_append]
    try conv => arg 7; dsimp only
    repeat' (first
      | refine XStep ?_
      | refine Fa.mk fun b => ?_
      | refine Fb.mk fun b2 => ?_
      | refine Fz.mk fun z => ?_
      | (refine Gd.mk (fun h => ?_) (fun h => ?_) <;> try (first | (exfalso; omega) | exact absurd rfl h | (exfalso; simp at h <;> omega)))
      | refine Ands.mk ?_ ?_
      | (refine XC.is ?_; refine W110 ?_; refine XC.planG (by kernel_rfl) (fun _ m h => h.drewn m) ?_; (conv => arg 5; reduce); refine XG0.of ?_; (conv => arg 5; reduce); (conv => arg 6; reduce); refine XG.go (by decide +kernel) ?_))
    refine XL.trir (pointer_tri (m := z0)) (by rfl) (by rfl) (by rfl) (by rfl) (by rfl) (by rfl) (by rfl) (by (repeat' (first | exact Sels.nil | exact Sel.here | apply Sels.cons | apply Sel.there)); done) (by (repeat (first | exact sub0 | refine subC (by repeat (first | exact List.Mem.head _ | apply List.Mem.tail)) ?_)); done) ?_
    rintro z1 hz1
    conv => arg 9; dsimp only [List.cons_append, List.nil_append]
    try conv => arg 7; dsimp only
    repeat' (first
      | refine XStep ?_
      | refine Fa.mk fun b => ?_
      | refine Fb.mk fun b2 => ?_
      | refine Fz.mk fun z => ?_
      | (refine Gd.mk (fun h => ?_) (fun h => ?_) <;> try (first | (exfalso; omega) | exact absurd rfl h | (exfalso; simp at h <;> omega)))
      | refine Ands.mk ?_ ?_
      | (refine XC.is ?_; refine W110 ?_; refine XC.planG (by kernel_rfl) (fun _ m h => h.drewn m) ?_; (conv => arg 5; reduce); refine XG0.of ?_; (conv => arg 5; reduce); (conv => arg 6; reduce); refine XG.go (by decide +kernel) ?_))
    refine XL.conv (fun w h => h.rowFreeze (e := 3) (size := 1) (by repeat (first | exact Sel.here | apply Sel.there))) ?_
    refine XL.trir (hW (m := z1) (v := v) (l := l) (by omega)) (by rfl) (by rfl) (by rfl) (by rfl) (by rfl) (by rfl) (by rfl) (by (repeat' (first | exact Sels.nil | exact Sel.here | apply Sels.cons | apply Sel.there)); done) (by (repeat (first | exact sub0 | refine subC (by repeat (first | exact List.Mem.head _ | apply List.Mem.tail)) ?_)); done) ?_
    rintro z hz
    conv => arg 9; dsimp only [List.cons_append, List.nil_append]
    try conv => arg 7; dsimp only
    repeat' (first
      | refine XStep ?_
      | refine Fa.mk fun b => ?_
      | refine Fb.mk fun b2 => ?_
      | refine Fz.mk fun z => ?_
      | (refine Gd.mk (fun h => ?_) (fun h => ?_) <;> try (first | (exfalso; omega) | exact absurd rfl h | (exfalso; simp at h <;> omega)))
      | refine Ands.mk ?_ ?_
      | (refine XC.is ?_; refine W110 ?_; refine XC.planG (by kernel_rfl) (fun _ m h => h.drewn m) ?_; (conv => arg 5; reduce); refine XG0.of ?_; (conv => arg 5; reduce); (conv => arg 6; reduce); refine XG.go (by decide +kernel) ?_))
    refine XQ.conv (fun w h => h.ndLeaf 13 0 s z (by repeat (first | exact List.Mem.head _ | apply List.Mem.tail))) ?_
    exact XQ.doneC (by rfl) (by rfl) (by rfl) (by rfl) (by repeat (first | exact Sel.here | apply Sel.there)) (by rfl) (RP.ok (x := .mk 13 s 0 z none 0 0 []) (j := k4) ⟨by simp [declB, PM.bind, PM.pure, hy, hq, h1, hs, hl, h2, hz0, hz1, hz, NdM.nd, NdM.nds], by omega, by omega⟩) (by (repeat' (first | exact Sels.nil | exact Sel.here | apply Sels.cons | apply Sel.there)); done) (by (repeat (first | exact sub0 | refine subC (by repeat (first | exact List.Mem.head _ | apply List.Mem.tail)) ?_)); done)
theorem nd_kid (x e : NdM) {a : Option Addr} : x.nd.setKids [e.nd] = (NdM.mk x.kind x.text x.n x.t a 1 1 [e]).nd := by cases x; rfl
theorem simple_tri (hW : WrapT) {S : Src} (hS : S.T.length ≤ 20000) {lv : Value} {pb d i : Nat} {ask : PM Ty} {ex : PM Nd} (hi : i ≤ S.T.length)
    (hask : ∀ j, j ≤ S.T.length → Tri Try.prog 68 [.pointer (some ⟨pb, 0, none⟩)] [pB S lv pb j d] [tkF S lv] (TyR S lv pb d j ask))
    (hex : ∀ j, j ≤ S.T.length → Tri Try.prog 77 [.pointer (some ⟨pb, 0, none⟩)] [pB S lv pb j d] [tkF S lv] (NdR S lv pb d j ex)) :
    Tri Try.prog 65 [.pointer (some ⟨pb, 0, none⟩)] [pB S lv pb i d] [tkF S lv] (NdR S lv pb d i (simpleB S ex ask)) := by
  refine Tri.of Try.func65 rfl fun c => ?_
  repeat' (first
    | refine XStep ?_
    | refine Fa.mk fun b => ?_
    | refine Fb.mk fun b2 => ?_
    | refine Fz.mk fun z => ?_
    | (refine Gd.mk (fun h => ?_) (fun h => ?_) <;> try (first | (exfalso; omega) | exact absurd rfl h | (exfalso; simp at h <;> omega)))
    | refine Ands.mk ?_ ?_
    | (refine XC.is ?_; refine W110 ?_; refine XC.planG (by kernel_rfl) (fun _ m h => h.drewn m) ?_; (conv => arg 5; reduce); refine XG0.of ?_; (conv => arg 5; reduce); (conv => arg 6; reduce); refine XG.go (by decide +kernel) ?_))
  refine XL.trir (takes_tri (t := tx [114, 101, 116, 117, 114, 110]) (i := i) hS (by omega)) (by rfl) (by rfl) (by rfl) (by rfl) (by rfl) (by rfl) (by rfl) (by (repeat' (first | exact Sels.nil | exact Sel.here | apply Sels.cons | apply Sel.there)); done) (by (repeat (first | exact sub0 | refine subC (by repeat (first | exact List.Mem.head _ | apply List.Mem.tail)) ?_)); done) ?_
  rintro q hq1
  conv => arg 9; dsimp only [List.cons_append, List.nil_append]
  try conv => arg 7; dsimp only
  cases q <;> dsimp only [bInc]
  case true =>
    have hlt := isB_lt hq1
    repeat' (first
      | refine XStep ?_
      | refine Fa.mk fun b => ?_
      | refine Fb.mk fun b2 => ?_
      | refine Fz.mk fun z => ?_
      | (refine Gd.mk (fun h => ?_) (fun h => ?_) <;> try (first | (exfalso; omega) | exact absurd rfl h | (exfalso; simp at h <;> omega)))
      | refine Ands.mk ?_ ?_
      | (refine XC.is ?_; refine W110 ?_; refine XC.planG (by kernel_rfl) (fun _ m h => h.drewn m) ?_; (conv => arg 5; reduce); refine XG0.of ?_; (conv => arg 5; reduce); (conv => arg 6; reduce); refine XG.go (by decide +kernel) ?_))
    refine XL.conv (fun w h => h.celFreeze (m := List.length ([tx [59]])) (cap := List.length ([tx [59]])) (size := 1) (cs := strs ([tx [59]])) .here rfl (Nat.le_refl _)) ?_
    refine XL.triq (is_tri (ts := [tx [59]]) (i := i + 1) hS (by omega) (of_decide_eq_true rfl)) (by rfl) (by rfl) (by rfl) (by rfl) (by rfl) (by rfl) (by rfl) (by (repeat' (first | exact Sels.nil | exact Sel.here | apply Sels.cons | apply Sel.there)); done) (by (repeat' (first | exact Sels.nil | exact Sel.here | apply Sels.cons | apply Sel.there)); done) (by (repeat (first | exact sub0 | refine subC (by repeat (first | exact List.Mem.head _ | apply List.Mem.tail)) ?_)); done) ?_
    obtain ⟨q, hq2⟩ : ∃ q, isB S ([tx [59]]) (i + 1) = q := ⟨_, rfl⟩
    rw [hq2]
    cases q
    · repeat' (first
        | refine XStep ?_
        | refine Fa.mk fun b => ?_
        | refine Fb.mk fun b2 => ?_
        | refine Fz.mk fun z => ?_
        | (refine Gd.mk (fun h => ?_) (fun h => ?_) <;> try (first | (exfalso; omega) | exact absurd rfl h | (exfalso; simp at h <;> omega)))
        | refine Ands.mk ?_ ?_
        | (refine XC.is ?_; refine W110 ?_; refine XC.planG (by kernel_rfl) (fun _ m h => h.drewn m) ?_; (conv => arg 5; reduce); refine XG0.of ?_; (conv => arg 5; reduce); (conv => arg 6; reduce); refine XG.go (by decide +kernel) ?_))
      refine XL.trip (hex (i + 1) (by omega)) (by rfl) (by rfl) (by rfl) (by rfl) (by rfl) (by rfl) (by rfl) (by (repeat' (first | exact Sels.nil | exact Sel.here | apply Sels.cons | apply Sel.there)); done) (by (repeat (first | exact sub0 | refine subC (by repeat (first | exact List.Mem.head _ | apply List.Mem.tail)) ?_)); done) ?_ ?_
      rotate_left
      · rintro ⟨t1, k1, i1⟩ hb
        dsimp only at hb
        (repeat (first | refine XQ.sqP ?_ | refine XQ.rdP ?_ | refine XQ.mtP ?_ | refine XQ.blockP ?_ | refine XQ.anSP ?_))
        exact XQ.rpBad (by (repeat' (first | exact Sels.nil | exact Sel.here | apply Sels.cons | apply Sel.there)); done) (by simp [PM.bind, PM.pure, hb, simpleB, hq1, hq2])
      rintro ⟨x, j⟩ ⟨hx, hx', hx''⟩
      dsimp only at hx hx' hx''
      conv => arg 9; dsimp only [List.cons_append, List.nil_append]
      try conv => arg 7; dsimp only
      repeat' (first
        | refine XStep ?_
        | refine Fa.mk fun b => ?_
        | refine Fb.mk fun b2 => ?_
        | refine Fz.mk fun z => ?_
        | (refine Gd.mk (fun h => ?_) (fun h => ?_) <;> try (first | (exfalso; omega) | exact absurd rfl h | (exfalso; simp at h <;> omega)))
        | refine Ands.mk ?_ ?_
        | (refine XC.is ?_; refine W110 ?_; refine XC.planG (by kernel_rfl) (fun _ m h => h.drewn m) ?_; (conv => arg 5; reduce); refine XG0.of ?_; (conv => arg 5; reduce); (conv => arg 6; reduce); refine XG.go (by decide +kernel) ?_))
      refine XQ.conv (fun w h => h.nilTy.ndOne (x := x) 16 0 (tx []) TyM.nil (by repeat (first | exact List.Mem.head _ | apply List.Mem.tail)) (by repeat (first | exact List.Mem.head _ | apply List.Mem.tail)) (by repeat (first | exact Sel.here | apply Sel.there))) ?_
      exact XQ.doneC (by rfl) (by rfl) (by rfl) (by rfl) (by repeat (first | exact Sel.here | apply Sel.there)) (by rfl) (RP.ok (x := .mk 16 (tx []) 0 TyM.nil (some ⟨b2, 0, none⟩) 1 1 [x]) (j := j) ⟨by simp [simpleB, PM.bind, PM.pure, hq1, hq2, hx, NdM.nd, NdM.nds, TyM.ty, TyM.tys], by omega, by omega⟩) (by (repeat' (first | exact Sels.nil | exact Sel.here | apply Sels.cons | apply Sel.there)); done) (by (repeat (first | exact sub0 | refine subC (by repeat (first | exact List.Mem.head _ | apply List.Mem.tail)) ?_)); done)
    · repeat' (first
        | refine XStep ?_
        | refine Fa.mk fun b => ?_
        | refine Fb.mk fun b2 => ?_
        | refine Fz.mk fun z => ?_
        | (refine Gd.mk (fun h => ?_) (fun h => ?_) <;> try (first | (exfalso; omega) | exact absurd rfl h | (exfalso; simp at h <;> omega)))
        | refine Ands.mk ?_ ?_
        | (refine XC.is ?_; refine W110 ?_; refine XC.planG (by kernel_rfl) (fun _ m h => h.drewn m) ?_; (conv => arg 5; reduce); refine XG0.of ?_; (conv => arg 5; reduce); (conv => arg 6; reduce); refine XG.go (by decide +kernel) ?_))
      refine XQ.conv (fun w h => h.nilTy.ndLeaf 16 0 (tx []) TyM.nil (by repeat (first | exact List.Mem.head _ | apply List.Mem.tail))) ?_
      exact XQ.doneC (by rfl) (by rfl) (by rfl) (by rfl) (by repeat (first | exact Sel.here | apply Sel.there)) (by rfl) (RP.ok (x := .mk 16 (tx []) 0 TyM.nil none 0 0 []) (j := i + 1) ⟨by simp [simpleB, hq1, hq2, NdM.nd, NdM.nds, TyM.ty, TyM.tys], by omega, by omega⟩) (by (repeat' (first | exact Sels.nil | exact Sel.here | apply Sels.cons | apply Sel.there)); done) (by (repeat (first | exact sub0 | refine subC (by repeat (first | exact List.Mem.head _ | apply List.Mem.tail)) ?_)); done)
  repeat' (first
    | refine XStep ?_
    | refine Fa.mk fun b => ?_
    | refine Fb.mk fun b2 => ?_
    | refine Fz.mk fun z => ?_
    | (refine Gd.mk (fun h => ?_) (fun h => ?_) <;> try (first | (exfalso; omega) | exact absurd rfl h | (exfalso; simp at h <;> omega)))
    | refine Ands.mk ?_ ?_
    | (refine XC.is ?_; refine W110 ?_; refine XC.planG (by kernel_rfl) (fun _ m h => h.drewn m) ?_; (conv => arg 5; reduce); refine XG0.of ?_; (conv => arg 5; reduce); (conv => arg 6; reduce); refine XG.go (by decide +kernel) ?_))
  refine XL.trir (takes_tri (t := tx [98, 114, 101, 97, 107]) (i := i) hS (by omega)) (by rfl) (by rfl) (by rfl) (by rfl) (by rfl) (by rfl) (by rfl) (by (repeat' (first | exact Sels.nil | exact Sel.here | apply Sels.cons | apply Sel.there)); done) (by (repeat (first | exact sub0 | refine subC (by repeat (first | exact List.Mem.head _ | apply List.Mem.tail)) ?_)); done) ?_
  rintro q hq2
  conv => arg 9; dsimp only [List.cons_append, List.nil_append]
  try conv => arg 7; dsimp only
  cases q <;> dsimp only [bInc]
  case true =>
    have hlt := isB_lt hq2
    repeat' (first
      | refine XStep ?_
      | refine Fa.mk fun b => ?_
      | refine Fb.mk fun b2 => ?_
      | refine Fz.mk fun z => ?_
      | (refine Gd.mk (fun h => ?_) (fun h => ?_) <;> try (first | (exfalso; omega) | exact absurd rfl h | (exfalso; simp at h <;> omega)))
      | refine Ands.mk ?_ ?_
      | (refine XC.is ?_; refine W110 ?_; refine XC.planG (by kernel_rfl) (fun _ m h => h.drewn m) ?_; (conv => arg 5; reduce); refine XG0.of ?_; (conv => arg 5; reduce); (conv => arg 6; reduce); refine XG.go (by decide +kernel) ?_))
    refine XQ.conv (fun w h => h.nilTy.ndLeaf 18 0 (tx []) TyM.nil (by repeat (first | exact List.Mem.head _ | apply List.Mem.tail))) ?_
    exact XQ.doneC (by rfl) (by rfl) (by rfl) (by rfl) (by repeat (first | exact Sel.here | apply Sel.there)) (by rfl) (RP.ok (x := .mk 18 (tx []) 0 TyM.nil none 0 0 []) (j := i + 1) ⟨by simp [simpleB, hq1, hq2, NdM.nd, NdM.nds, TyM.ty, TyM.tys], by omega, by omega⟩) (by (repeat' (first | exact Sels.nil | exact Sel.here | apply Sels.cons | apply Sel.there)); done) (by (repeat (first | exact sub0 | refine subC (by repeat (first | exact List.Mem.head _ | apply List.Mem.tail)) ?_)); done)
  repeat' (first
    | refine XStep ?_
    | refine Fa.mk fun b => ?_
    | refine Fb.mk fun b2 => ?_
    | refine Fz.mk fun z => ?_
    | (refine Gd.mk (fun h => ?_) (fun h => ?_) <;> try (first | (exfalso; omega) | exact absurd rfl h | (exfalso; simp at h <;> omega)))
    | refine Ands.mk ?_ ?_
    | (refine XC.is ?_; refine W110 ?_; refine XC.planG (by kernel_rfl) (fun _ m h => h.drewn m) ?_; (conv => arg 5; reduce); refine XG0.of ?_; (conv => arg 5; reduce); (conv => arg 6; reduce); refine XG.go (by decide +kernel) ?_))
  refine XL.trir (takes_tri (t := tx [99, 111, 110, 116, 105, 110, 117, 101]) (i := i) hS (by omega)) (by rfl) (by rfl) (by rfl) (by rfl) (by rfl) (by rfl) (by rfl) (by (repeat' (first | exact Sels.nil | exact Sel.here | apply Sels.cons | apply Sel.there)); done) (by (repeat (first | exact sub0 | refine subC (by repeat (first | exact List.Mem.head _ | apply List.Mem.tail)) ?_)); done) ?_
  rintro q hq3
  conv => arg 9; dsimp only [List.cons_append, List.nil_append]
  try conv => arg 7; dsimp only
  cases q <;> dsimp only [bInc]
  case true =>
    have hlt := isB_lt hq3
    repeat' (first
      | refine XStep ?_
      | refine Fa.mk fun b => ?_
      | refine Fb.mk fun b2 => ?_
      | refine Fz.mk fun z => ?_
      | (refine Gd.mk (fun h => ?_) (fun h => ?_) <;> try (first | (exfalso; omega) | exact absurd rfl h | (exfalso; simp at h <;> omega)))
      | refine Ands.mk ?_ ?_
      | (refine XC.is ?_; refine W110 ?_; refine XC.planG (by kernel_rfl) (fun _ m h => h.drewn m) ?_; (conv => arg 5; reduce); refine XG0.of ?_; (conv => arg 5; reduce); (conv => arg 6; reduce); refine XG.go (by decide +kernel) ?_))
    refine XQ.conv (fun w h => h.nilTy.ndLeaf 19 0 (tx []) TyM.nil (by repeat (first | exact List.Mem.head _ | apply List.Mem.tail))) ?_
    exact XQ.doneC (by rfl) (by rfl) (by rfl) (by rfl) (by repeat (first | exact Sel.here | apply Sel.there)) (by rfl) (RP.ok (x := .mk 19 (tx []) 0 TyM.nil none 0 0 []) (j := i + 1) ⟨by simp [simpleB, hq1, hq2, hq3, NdM.nd, NdM.nds, TyM.ty, TyM.tys], by omega, by omega⟩) (by (repeat' (first | exact Sels.nil | exact Sel.here | apply Sels.cons | apply Sel.there)); done) (by (repeat (first | exact sub0 | refine subC (by repeat (first | exact List.Mem.head _ | apply List.Mem.tail)) ?_)); done)
  repeat' (first
    | refine XStep ?_
    | refine Fa.mk fun b => ?_
    | refine Fb.mk fun b2 => ?_
    | refine Fz.mk fun z => ?_
    | (refine Gd.mk (fun h => ?_) (fun h => ?_) <;> try (first | (exfalso; omega) | exact absurd rfl h | (exfalso; simp at h <;> omega)))
    | refine Ands.mk ?_ ?_
    | (refine XC.is ?_; refine W110 ?_; refine XC.planG (by kernel_rfl) (fun _ m h => h.drewn m) ?_; (conv => arg 5; reduce); refine XG0.of ?_; (conv => arg 5; reduce); (conv => arg 6; reduce); refine XG.go (by decide +kernel) ?_))
  refine XL.triq (typed_tri hS (i := i) (by omega)) (by rfl) (by rfl) (by rfl) (by rfl) (by rfl) (by rfl) (by rfl) (by (repeat' (first | exact Sels.nil | exact Sel.here | apply Sels.cons | apply Sel.there)); done) (by (repeat' (first | exact Sels.nil | exact Sel.here | apply Sels.cons | apply Sel.there)); done) (by (repeat (first | exact sub0 | refine subC (by repeat (first | exact List.Mem.head _ | apply List.Mem.tail)) ?_)); done) ?_
  obtain ⟨q, hT⟩ : ∃ q, typed S i = q := ⟨_, rfl⟩
  rw [hT]
  cases q
  · repeat' (first
      | refine XStep ?_
      | refine Fa.mk fun b => ?_
      | refine Fb.mk fun b2 => ?_
      | refine Fz.mk fun z => ?_
      | (refine Gd.mk (fun h => ?_) (fun h => ?_) <;> try (first | (exfalso; omega) | exact absurd rfl h | (exfalso; simp at h <;> omega)))
      | refine Ands.mk ?_ ?_
      | (refine XC.is ?_; refine W110 ?_; refine XC.planG (by kernel_rfl) (fun _ m h => h.drewn m) ?_; (conv => arg 5; reduce); refine XG0.of ?_; (conv => arg 5; reduce); (conv => arg 6; reduce); refine XG.go (by decide +kernel) ?_))
    refine XL.trip (hex i (by omega)) (by rfl) (by rfl) (by rfl) (by rfl) (by rfl) (by rfl) (by rfl) (by (repeat' (first | exact Sels.nil | exact Sel.here | apply Sels.cons | apply Sel.there)); done) (by (repeat (first | exact sub0 | refine subC (by repeat (first | exact List.Mem.head _ | apply List.Mem.tail)) ?_)); done) ?_ ?_
    rotate_left
    · rintro ⟨t1, k1, i1⟩ hb
      dsimp only at hb
      (repeat (first | refine XQ.sqP ?_ | refine XQ.rdP ?_ | refine XQ.mtP ?_ | refine XQ.blockP ?_ | refine XQ.anSP ?_))
      exact XQ.rpBad (by (repeat' (first | exact Sels.nil | exact Sel.here | apply Sels.cons | apply Sel.there)); done) (by simp [PM.bind, PM.pure, hb, simpleB, hq1, hq2, hq3, hT])
    rintro ⟨x, j⟩ ⟨hx, hx', hx''⟩
    dsimp only at hx hx' hx''
    conv => arg 9; dsimp only [List.cons_append, List.nil_append]
    try conv => arg 7; dsimp only
    repeat' (first
      | refine XStep ?_
      | refine Fa.mk fun b => ?_
      | refine Fb.mk fun b2 => ?_
      | refine Fz.mk fun z => ?_
      | (refine Gd.mk (fun h => ?_) (fun h => ?_) <;> try (first | (exfalso; omega) | exact absurd rfl h | (exfalso; simp at h <;> omega)))
      | refine Ands.mk ?_ ?_
      | (refine XC.is ?_; refine W110 ?_; refine XC.planG (by kernel_rfl) (fun _ m h => h.drewn m) ?_; (conv => arg 5; reduce); refine XG0.of ?_; (conv => arg 5; reduce); (conv => arg 6; reduce); refine XG.go (by decide +kernel) ?_))
    refine XQ.conv (fun w h => h.nilTy.ndOne (x := x) 12 0 (tx []) TyM.nil (by repeat (first | exact List.Mem.head _ | apply List.Mem.tail)) (by repeat (first | exact List.Mem.head _ | apply List.Mem.tail)) (by repeat (first | exact Sel.here | apply Sel.there))) ?_
    exact XQ.doneC (by rfl) (by rfl) (by rfl) (by rfl) (by repeat (first | exact Sel.here | apply Sel.there)) (by rfl) (RP.ok (x := .mk 12 (tx []) 0 TyM.nil (some ⟨b2, 0, none⟩) 1 1 [x]) (j := j) ⟨by simp [simpleB, PM.bind, PM.pure, hq1, hq2, hq3, hT, hx, NdM.nd, NdM.nds, TyM.ty, TyM.tys], by omega, by omega⟩) (by (repeat' (first | exact Sels.nil | exact Sel.here | apply Sels.cons | apply Sel.there)); done) (by (repeat (first | exact sub0 | refine subC (by repeat (first | exact List.Mem.head _ | apply List.Mem.tail)) ?_)); done)
  · repeat' (first
      | refine XStep ?_
      | refine Fa.mk fun b => ?_
      | refine Fb.mk fun b2 => ?_
      | refine Fz.mk fun z => ?_
      | (refine Gd.mk (fun h => ?_) (fun h => ?_) <;> try (first | (exfalso; omega) | exact absurd rfl h | (exfalso; simp at h <;> omega)))
      | refine Ands.mk ?_ ?_
      | (refine XC.is ?_; refine W110 ?_; refine XC.planG (by kernel_rfl) (fun _ m h => h.drewn m) ?_; (conv => arg 5; reduce); refine XG0.of ?_; (conv => arg 5; reduce); (conv => arg 6; reduce); refine XG.go (by decide +kernel) ?_))
    refine XL.trip (base_tri hS (i := i) (by omega)) (by rfl) (by rfl) (by rfl) (by rfl) (by rfl) (by rfl) (by rfl) (by (repeat' (first | exact Sels.nil | exact Sel.here | apply Sels.cons | apply Sel.there)); done) (by (repeat (first | exact sub0 | refine subC (by repeat (first | exact List.Mem.head _ | apply List.Mem.tail)) ?_)); done) ?_ ?_
    rotate_left
    · rintro ⟨t1, k1, i1⟩ hb
      dsimp only at hb
      (repeat (first | refine XQ.sqP ?_ | refine XQ.rdP ?_ | refine XQ.mtP ?_ | refine XQ.blockP ?_ | refine XQ.anSP ?_))
      exact XQ.rpBad (by (repeat' (first | exact Sels.nil | exact Sel.here | apply Sels.cons | apply Sel.there)); done) (by simp [PM.bind, PM.pure, hb, simpleB, hq1, hq2, hq3, hT])
    rintro ⟨y, k⟩ ⟨hy, hy', hy''⟩
    dsimp only at hy hy' hy''
    conv => arg 9; dsimp only [List.cons_append, List.nil_append]
    try conv => arg 7; dsimp only
    repeat' (first
      | refine XStep ?_
      | refine Fa.mk fun b => ?_
      | refine Fb.mk fun b2 => ?_
      | refine Fz.mk fun z => ?_
      | (refine Gd.mk (fun h => ?_) (fun h => ?_) <;> try (first | (exfalso; omega) | exact absurd rfl h | (exfalso; simp at h <;> omega)))
      | refine Ands.mk ?_ ?_
      | (refine XC.is ?_; refine W110 ?_; refine XC.planG (by kernel_rfl) (fun _ m h => h.drewn m) ?_; (conv => arg 5; reduce); refine XG0.of ?_; (conv => arg 5; reduce); (conv => arg 6; reduce); refine XG.go (by decide +kernel) ?_))
    refine XL.trip (decl_tri hW hS (i := k) (m := y) (by omega) hask) (by rfl) (by rfl) (by rfl) (by rfl) (by rfl) (by rfl) (by rfl) (by (repeat' (first | exact Sels.nil | exact Sel.here | apply Sels.cons | apply Sel.there)); done) (by (repeat (first | exact sub0 | refine subC (by repeat (first | exact List.Mem.head _ | apply List.Mem.tail)) ?_)); done) ?_ ?_
    rotate_left
    · rintro ⟨t1, k1, i1⟩ hb
      dsimp only at hb
      (repeat (first | refine XQ.sqP ?_ | refine XQ.rdP ?_ | refine XQ.mtP ?_ | refine XQ.blockP ?_ | refine XQ.anSP ?_))
      exact XQ.rpBad (by (repeat' (first | exact Sels.nil | exact Sel.here | apply Sels.cons | apply Sel.there)); done) (by simp [PM.bind, PM.pure, hb, simpleB, hq1, hq2, hq3, hT, hy])
    rintro ⟨x, j⟩ ⟨hx, hx', hx''⟩
    dsimp only at hx hx' hx''
    conv => arg 9; dsimp only [List.cons_append, List.nil_append]
    try conv => arg 7; dsimp only
    repeat' (first
      | refine XStep ?_
      | refine Fa.mk fun b => ?_
      | refine Fb.mk fun b2 => ?_
      | refine Fz.mk fun z => ?_
      | (refine Gd.mk (fun h => ?_) (fun h => ?_) <;> try (first | (exfalso; omega) | exact absurd rfl h | (exfalso; simp at h <;> omega)))
      | refine Ands.mk ?_ ?_
      | (refine XC.is ?_; refine W110 ?_; refine XC.planG (by kernel_rfl) (fun _ m h => h.drewn m) ?_; (conv => arg 5; reduce); refine XG0.of ?_; (conv => arg 5; reduce); (conv => arg 6; reduce); refine XG.go (by decide +kernel) ?_))
    refine XL.trir (takes_tri (t := tx [61]) (i := j) hS (by omega)) (by rfl) (by rfl) (by rfl) (by rfl) (by rfl) (by rfl) (by rfl) (by (repeat' (first | exact Sels.nil | exact Sel.here | apply Sels.cons | apply Sel.there)); done) (by (repeat (first | exact sub0 | refine subC (by repeat (first | exact List.Mem.head _ | apply List.Mem.tail)) ?_)); done) ?_
    rintro q hq4
    conv => arg 9; dsimp only [List.cons_append, List.nil_append]
    try conv => arg 7; dsimp only
    cases q <;> dsimp only [bInc]
    · repeat' (first
        | refine XStep ?_
        | refine Fa.mk fun b => ?_
        | refine Fb.mk fun b2 => ?_
        | refine Fz.mk fun z => ?_
        | (refine Gd.mk (fun h => ?_) (fun h => ?_) <;> try (first | (exfalso; omega) | exact absurd rfl h | (exfalso; simp at h <;> omega)))
        | refine Ands.mk ?_ ?_
        | (refine XC.is ?_; refine W110 ?_; refine XC.planG (by kernel_rfl) (fun _ m h => h.drewn m) ?_; (conv => arg 5; reduce); refine XG0.of ?_; (conv => arg 5; reduce); (conv => arg 6; reduce); refine XG.go (by decide +kernel) ?_))
      exact XQ.doneC (by rfl) (by rfl) (by rfl) (by rfl) (by repeat (first | exact Sel.here | apply Sel.there)) (by rfl) (RP.ok (x := x) (j := j) ⟨by simp [simpleB, PM.bind, hq1, hq2, hq3, hT, hy, hx, hq4], by omega, by omega⟩) (by (repeat' (first | exact Sels.nil | exact Sel.here | apply Sels.cons | apply Sel.there)); done) (by (repeat (first | exact sub0 | refine subC (by repeat (first | exact List.Mem.head _ | apply List.Mem.tail)) ?_)); done)
    · have hlt := isB_lt hq4
      repeat' (first
        | refine XStep ?_
        | refine Fa.mk fun b => ?_
        | refine Fb.mk fun b2 => ?_
        | refine Fz.mk fun z => ?_
        | (refine Gd.mk (fun h => ?_) (fun h => ?_) <;> try (first | (exfalso; omega) | exact absurd rfl h | (exfalso; simp at h <;> omega)))
        | refine Ands.mk ?_ ?_
        | (refine XC.is ?_; refine W110 ?_; refine XC.planG (by kernel_rfl) (fun _ m h => h.drewn m) ?_; (conv => arg 5; reduce); refine XG0.of ?_; (conv => arg 5; reduce); (conv => arg 6; reduce); refine XG.go (by decide +kernel) ?_))
      refine XL.trip (hex (j + 1) (by omega)) (by rfl) (by rfl) (by rfl) (by rfl) (by rfl) (by rfl) (by rfl) (by (repeat' (first | exact Sels.nil | exact Sel.here | apply Sels.cons | apply Sel.there)); done) (by (repeat (first | exact sub0 | refine subC (by repeat (first | exact List.Mem.head _ | apply List.Mem.tail)) ?_)); done) ?_ ?_
      rotate_left
      · rintro ⟨t1, k1, i1⟩ hb
        dsimp only at hb
        (repeat (first | refine XQ.sqP ?_ | refine XQ.rdP ?_ | refine XQ.mtP ?_ | refine XQ.blockP ?_ | refine XQ.anSP ?_))
        exact XQ.rpBad (by (repeat' (first | exact Sels.nil | exact Sel.here | apply Sels.cons | apply Sel.there)); done) (by simp [PM.bind, PM.pure, hb, simpleB, hq1, hq2, hq3, hT, hy, hx, hq4])
      rintro ⟨e, k5⟩ ⟨he, he', he''⟩
      dsimp only at he he' he''
      conv => arg 9; dsimp only [List.cons_append, List.nil_append]
      try conv => arg 7; dsimp only
      repeat' (first
        | refine XStep ?_
        | refine Fa.mk fun b => ?_
        | refine Fb.mk fun b2 => ?_
        | refine Fz.mk fun z => ?_
        | (refine Gd.mk (fun h => ?_) (fun h => ?_) <;> try (first | (exfalso; omega) | exact absurd rfl h | (exfalso; simp at h <;> omega)))
        | refine Ands.mk ?_ ?_
        | (refine XC.is ?_; refine W110 ?_; refine XC.planG (by kernel_rfl) (fun _ m h => h.drewn m) ?_; (conv => arg 5; reduce); refine XG0.of ?_; (conv => arg 5; reduce); (conv => arg 6; reduce); refine XG.go (by decide +kernel) ?_))
      refine XQ.conv (fun w h => (h.ndTy (x := x) (by repeat (first | exact List.Mem.head _ | apply List.Mem.tail))).ndOne (x := e) x.kind x.n x.text x.t (by repeat (first | exact List.Mem.head _ | apply List.Mem.tail)) (by repeat (first | exact List.Mem.head _ | apply List.Mem.tail)) (by repeat (first | exact Sel.here | apply Sel.there))) ?_
      exact XQ.doneC (by rfl) (by rfl) (by rfl) (by rfl) (by repeat (first | exact Sel.here | apply Sel.there)) (by rfl) (RP.ok (x := .mk x.kind x.text x.n x.t (some ⟨b2, 0, none⟩) 1 1 [e]) (j := k5) ⟨by rw [← nd_kid]; simp [simpleB, PM.bind, PM.pure, hq1, hq2, hq3, hT, hy, hx, hq4, he], by omega, by omega⟩) (by (repeat' (first | exact Sels.nil | exact Sel.here | apply Sels.cons | apply Sel.there)); done) (by (repeat (first | exact sub0 | refine subC (by repeat (first | exact List.Mem.head _ | apply List.Mem.tail)) ?_)); done)
end Go.Proofs.Ytjnineeeffecaaa
