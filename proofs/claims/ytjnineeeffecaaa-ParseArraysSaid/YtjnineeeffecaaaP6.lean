/- The parser's terms, and what stands behind them. -/
import Derived.Test.YtjnineeeffecaaaP5
namespace Go.Proofs.Ytjnineeeffecaaa
open Go X
set_option maxRecDepth 100000
set_option maxHeartbeats 4000000
attribute [local irreducible] XC XL XQ Tri blk Shows Sq Rd Mt inBlockX XS XG XG0 TkS AnS rowO tyFP tysFP ndFP ndsFP Row.fp FP.all
@[reducible] def NdR (S : Src) (lv : Value) (pb d i : Nat) (m : PM Nd) : Ending → List SP → List FP → Prop :=
  RP S lv pb d NdM.v (fun x => [ndFP x]) (fun x j => m i = .ok x.nd j ∧ i < j ∧ j ≤ S.T.length) (fun a b => m i = .bad a b)
theorem braced_tri {S : Src} (hS : S.T.length ≤ 20000) {lv : Value} {pb d i : Nat} {ex : PM Nd} (hi : i ≤ S.T.length)
    (hex : ∀ j, j ≤ S.T.length → Tri Try.prog 77 [.pointer (some ⟨pb, 0, none⟩)] [pB S lv pb j d] [tkF S lv] (NdR S lv pb d j ex)) :
    Tri Try.prog 64 [.pointer (some ⟨pb, 0, none⟩)] [pB S lv pb i d] [tkF S lv] (NdR S lv pb d i (bracedB S ex)) := by
  refine Tri.of Try.func64 rfl fun c => ?_
  repeat' (first
    | refine XStep ?_
    | refine Fa.mk fun b => ?_
    | refine Fb.mk fun b2 => ?_
    | refine Fz.mk fun z => ?_
    | (refine Gd.mk (fun h => ?_) (fun h => ?_) <;> try (first | (exfalso; omega) | exact absurd rfl h | (exfalso; simp at h <;> omega)))
    | refine Ands.mk ?_ ?_
    | (refine XC.is ?_; refine W110 ?_; refine XC.planG (by kernel_rfl) (fun _ m h => h.drewn m) ?_; (conv => arg 5; reduce); refine XG0.of ?_; (conv => arg 5; reduce); (conv => arg 6; reduce); refine XG.go (by decide +kernel) ?_))
  refine XL.trip (must_tri (t := tx [40]) hS (i := i) (by omega)) (by rfl) (by rfl) (by rfl) (by rfl) (by rfl) (by rfl) (by rfl) (by (repeat' (first | exact Sels.nil | exact Sel.here | apply Sels.cons | apply Sel.there)); done) (by (repeat (first | exact sub0 | refine subC (by repeat (first | exact List.Mem.head _ | apply List.Mem.tail)) ?_)); done) ?_ ?_
  rotate_left
  · rintro ⟨t1, k1, i1⟩ hb
    dsimp only at hb
    (repeat (first | refine XQ.sqP ?_ | refine XQ.rdP ?_ | refine XQ.mtP ?_ | refine XQ.blockP ?_ | refine XQ.anSP ?_))
    exact XQ.rpBad (by (repeat' (first | exact Sels.nil | exact Sel.here | apply Sels.cons | apply Sel.there)); done) (by simp [PM.bind, PM.pure, hb, bracedB])
  rintro ⟨u1, j⟩ ⟨h1, h1', h1''⟩
  dsimp only at h1 h1' h1''
  conv => arg 9; dsimp only [List.cons_append, List.nil_append]
  try conv => arg 7; dsimp only
  subst h1'
  repeat' (first
    | refine XStep ?_
    | refine Fa.mk fun b => ?_
    | refine Fb.mk fun b2 => ?_
    | refine Fz.mk fun z => ?_
    | (refine Gd.mk (fun h => ?_) (fun h => ?_) <;> try (first | (exfalso; omega) | exact absurd rfl h | (exfalso; simp at h <;> omega)))
    | refine Ands.mk ?_ ?_
    | (refine XC.is ?_; refine W110 ?_; refine XC.planG (by kernel_rfl) (fun _ m h => h.drewn m) ?_; (conv => arg 5; reduce); refine XG0.of ?_; (conv => arg 5; reduce); (conv => arg 6; reduce); refine XG.go (by decide +kernel) ?_))
  refine XL.trip (hex (i + 1) (by omega)) (by rfl) (by rfl) (by rfl) (by rfl) (by rfl) (by rfl) (by rfl) (by (repeat' (first | exact Sels.nil | exact Sel.here | apply Sels.cons | apply Sel.there)); done) (by (repeat (first | exact sub0 | refine subC (by repeat (first | exact List.Mem.head _ | apply List.Mem.tail)) ?_)); done) ?_ ?_
  rotate_left
  · rintro ⟨t1, k1, i1⟩ hb
    dsimp only at hb
    (repeat (first | refine XQ.sqP ?_ | refine XQ.rdP ?_ | refine XQ.mtP ?_ | refine XQ.blockP ?_ | refine XQ.anSP ?_))
    exact XQ.rpBad (by (repeat' (first | exact Sels.nil | exact Sel.here | apply Sels.cons | apply Sel.there)); done) (by simp [PM.bind, PM.pure, hb, bracedB, h1])
  rintro ⟨x, k⟩ ⟨hx, hx', hx''⟩
  dsimp only at hx hx' hx''
  conv => arg 9; dsimp only [List.cons_append, List.nil_append]
  try conv => arg 7; dsimp only
  repeat' (first
    | refine XStep ?_
    | refine Fa.mk fun b => ?_
    | refine Fb.mk fun b2 => ?_
    | refine Fz.mk fun z => ?_
    | (refine Gd.mk (fun h => ?_) (fun h => ?_) <;> try (first | (exfalso; omega) | exact absurd rfl h | (exfalso; simp at h <;> omega)))
    | refine Ands.mk ?_ ?_
    | (refine XC.is ?_; refine W110 ?_; refine XC.planG (by kernel_rfl) (fun _ m h => h.drewn m) ?_; (conv => arg 5; reduce); refine XG0.of ?_; (conv => arg 5; reduce); (conv => arg 6; reduce); refine XG.go (by decide +kernel) ?_))
  refine XL.trip (must_tri (t := tx [41]) hS (i := k) (by omega)) (by rfl) (by rfl) (by rfl) (by rfl) (by rfl) (by rfl) (by rfl) (by (repeat' (first | exact Sels.nil | exact Sel.here | apply Sels.cons | apply Sel.there)); done) (by (repeat (first | exact sub0 | refine subC (by repeat (first | exact List.Mem.head _ | apply List.Mem.tail)) ?_)); done) ?_ ?_
  rotate_left
  · rintro ⟨t1, k1, i1⟩ hb
    dsimp only at hb
    (repeat (first | refine XQ.sqP ?_ | refine XQ.rdP ?_ | refine XQ.mtP ?_ | refine XQ.blockP ?_ | refine XQ.anSP ?_))
    exact XQ.rpBad (by (repeat' (first | exact Sels.nil | exact Sel.here | apply Sels.cons | apply Sel.there)); done) (by simp [PM.bind, PM.pure, hb, bracedB, h1, hx])
  rintro ⟨u2, k2⟩ ⟨h2, h2', h2''⟩
  dsimp only at h2 h2' h2''
  conv => arg 9; dsimp only [List.cons_append, List.nil_append]
  try conv => arg 7; dsimp only
  subst h2'
  repeat' (first
    | refine XStep ?_
    | refine Fa.mk fun b => ?_
    | refine Fb.mk fun b2 => ?_
    | refine Fz.mk fun z => ?_
    | (refine Gd.mk (fun h => ?_) (fun h => ?_) <;> try (first | (exfalso; omega) | exact absurd rfl h | (exfalso; simp at h <;> omega)))
    | refine Ands.mk ?_ ?_
    | (refine XC.is ?_; refine W110 ?_; refine XC.planG (by kernel_rfl) (fun _ m h => h.drewn m) ?_; (conv => arg 5; reduce); refine XG0.of ?_; (conv => arg 5; reduce); (conv => arg 6; reduce); refine XG.go (by decide +kernel) ?_))
  exact XQ.doneC (by rfl) (by rfl) (by rfl) (by rfl) (by repeat (first | exact Sel.here | apply Sel.there)) (by rfl) (RP.ok (x := x) (j := k + 1) ⟨by simp [bracedB, PM.bind, PM.pure, h1, hx, h2], by omega, by omega⟩) (by (repeat' (first | exact Sels.nil | exact Sel.here | apply Sels.cons | apply Sel.there)); done) (by (repeat (first | exact sub0 | refine subC (by repeat (first | exact List.Mem.head _ | apply List.Mem.tail)) ?_)); done)
theorem term_tri {S : Src} (hS : S.T.length ≤ 20000) {lv : Value} {pb d i : Nat} {ex : PM Nd} (hi : i ≤ S.T.length)
    (hex : ∀ j, j ≤ S.T.length → Tri Try.prog 77 [.pointer (some ⟨pb, 0, none⟩)] [pB S lv pb j d] [tkF S lv] (NdR S lv pb d j ex)) :
    Tri Try.prog 83 [.pointer (some ⟨pb, 0, none⟩)] [pB S lv pb i d] [tkF S lv] (NdR S lv pb d i (termB S ex)) := by
  refine Tri.of Try.func83 rfl fun c => ?_
  repeat' (first
    | refine XStep ?_
    | refine Fa.mk fun b => ?_
    | refine Fb.mk fun b2 => ?_
    | refine Fz.mk fun z => ?_
    | (refine Gd.mk (fun h => ?_) (fun h => ?_) <;> try (first | (exfalso; omega) | exact absurd rfl h | (exfalso; simp at h <;> omega)))
    | refine Ands.mk ?_ ?_
    | (refine XC.is ?_; refine W110 ?_; refine XC.planG (by kernel_rfl) (fun _ m h => h.drewn m) ?_; (conv => arg 5; reduce); refine XG0.of ?_; (conv => arg 5; reduce); (conv => arg 6; reduce); refine XG.go (by decide +kernel) ?_))
  refine XL.triq (due_tri hS (i := i) (k := 0) (by omega) (by omega)) (by rfl) (by rfl) (by rfl) (by rfl) (by rfl) (by rfl) (by rfl) (by (repeat' (first | exact Sels.nil | exact Sel.here | apply Sels.cons | apply Sel.there)); done) (by (repeat' (first | exact Sels.nil | exact Sel.here | apply Sels.cons | apply Sel.there)); done) (by (repeat (first | exact sub0 | refine subC (by repeat (first | exact List.Mem.head _ | apply List.Mem.tail)) ?_)); done) ?_
  repeat' (first
    | refine XStep ?_
    | refine Fa.mk fun b => ?_
    | refine Fb.mk fun b2 => ?_
    | refine Fz.mk fun z => ?_
    | (refine Gd.mk (fun h => ?_) (fun h => ?_) <;> try (first | (exfalso; omega) | exact absurd rfl h | (exfalso; simp at h <;> omega)))
    | refine Ands.mk ?_ ?_
    | (refine XC.is ?_; refine W110 ?_; refine XC.planG (by kernel_rfl) (fun _ m h => h.drewn m) ?_; (conv => arg 5; reduce); refine XG0.of ?_; (conv => arg 5; reduce); (conv => arg 6; reduce); refine XG.go (by decide +kernel) ?_))
  · have h : (due S i).kind = 3 := by assumption
    have hlt := kind_lt (S := S) (i := i) (by rw [h]; decide)
    refine XQ.conv (fun w h => (h.nilTy).ndLeaf 1 (due S i).n (tx []) TyM.nil (.head _)) ?_
    exact XQ.doneC (by rfl) (by rfl) (by rfl) (by rfl) (by repeat (first | exact Sel.here | apply Sel.there)) (by rfl) (RP.ok (x := .mk 1 (tx []) (due S i).n TyM.nil none 0 0 []) (j := i + 1) ⟨by simp [termB, h, NdM.nd, NdM.nds, TyM.ty, TyM.tys], by omega, by omega⟩) (by (repeat' (first | exact Sels.nil | exact Sel.here | apply Sels.cons | apply Sel.there)); done) (by (repeat (first | exact sub0 | refine subC (by repeat (first | exact List.Mem.head _ | apply List.Mem.tail)) ?_)); done)
  · have h : ¬ (due S i).kind = 3 := by assumption
    refine XL.conv (fun w h => h.celFreeze (m := List.length ([tx [40]])) (cap := List.length ([tx [40]])) (size := 1) (cs := strs ([tx [40]])) .here rfl (Nat.le_refl _)) ?_
    refine XL.triq (is_tri (ts := [tx [40]]) (i := i) hS (by omega) (of_decide_eq_true rfl)) (by rfl) (by rfl) (by rfl) (by rfl) (by rfl) (by rfl) (by rfl) (by (repeat' (first | exact Sels.nil | exact Sel.here | apply Sels.cons | apply Sel.there)); done) (by (repeat' (first | exact Sels.nil | exact Sel.here | apply Sels.cons | apply Sel.there)); done) (by (repeat (first | exact sub0 | refine subC (by repeat (first | exact List.Mem.head _ | apply List.Mem.tail)) ?_)); done) ?_
    obtain ⟨q, hq⟩ : ∃ q, isB S ([tx [40]]) (i) = q := ⟨_, rfl⟩
    rw [hq]
    cases q
    · repeat' (first
        | refine XStep ?_
        | refine Fa.mk fun b => ?_
        | refine Fb.mk fun b2 => ?_
        | refine Fz.mk fun z => ?_
        | (refine Gd.mk (fun h => ?_) (fun h => ?_) <;> try (first | (exfalso; omega) | exact absurd rfl h | (exfalso; simp at h <;> omega)))
        | refine Ands.mk ?_ ?_
        | (refine XC.is ?_; refine W110 ?_; refine XC.planG (by kernel_rfl) (fun _ m h => h.drewn m) ?_; (conv => arg 5; reduce); refine XG0.of ?_; (conv => arg 5; reduce); (conv => arg 6; reduce); refine XG.go (by decide +kernel) ?_))
      refine XL.trip (name_tri hS (i := i) (by omega)) (by rfl) (by rfl) (by rfl) (by rfl) (by rfl) (by rfl) (by rfl) (by (repeat' (first | exact Sels.nil | exact Sel.here | apply Sels.cons | apply Sel.there)); done) (by (repeat (first | exact sub0 | refine subC (by repeat (first | exact List.Mem.head _ | apply List.Mem.tail)) ?_)); done) ?_ ?_
      rotate_left
      · rintro ⟨t1, k1, i1⟩ hb
        dsimp only at hb
        (repeat (first | refine XQ.sqP ?_ | refine XQ.rdP ?_ | refine XQ.mtP ?_ | refine XQ.blockP ?_ | refine XQ.anSP ?_))
        exact XQ.rpBad (by (repeat' (first | exact Sels.nil | exact Sel.here | apply Sels.cons | apply Sel.there)); done) (by simp [PM.bind, PM.pure, hb, termB, h, hq])
      rintro ⟨x, k⟩ ⟨hx, hx', hx''⟩
      dsimp only at hx hx' hx''
      conv => arg 9; dsimp only [List.cons_append, List.nil_append]
      try conv => arg 7; dsimp only
      repeat' (first
        | refine XStep ?_
        | refine Fa.mk fun b => ?_
        | refine Fb.mk fun b2 => ?_
        | refine Fz.mk fun z => ?_
        | (refine Gd.mk (fun h => ?_) (fun h => ?_) <;> try (first | (exfalso; omega) | exact absurd rfl h | (exfalso; simp at h <;> omega)))
        | refine Ands.mk ?_ ?_
        | (refine XC.is ?_; refine W110 ?_; refine XC.planG (by kernel_rfl) (fun _ m h => h.drewn m) ?_; (conv => arg 5; reduce); refine XG0.of ?_; (conv => arg 5; reduce); (conv => arg 6; reduce); refine XG.go (by decide +kernel) ?_))
      refine XQ.conv (fun w h => (h.nilTy).ndLeaf 2 0 x TyM.nil (.head _)) ?_
      exact XQ.doneC (by rfl) (by rfl) (by rfl) (by rfl) (by repeat (first | exact Sel.here | apply Sel.there)) (by rfl) (RP.ok (x := .mk 2 x 0 TyM.nil none 0 0 []) (j := k) ⟨by simp [termB, h, hq, PM.bind, PM.pure, hx, NdM.nd, NdM.nds, TyM.ty, TyM.tys], by omega, by omega⟩) (by (repeat' (first | exact Sels.nil | exact Sel.here | apply Sels.cons | apply Sel.there)); done) (by (repeat (first | exact sub0 | refine subC (by repeat (first | exact List.Mem.head _ | apply List.Mem.tail)) ?_)); done)
    · repeat' (first
        | refine XStep ?_
        | refine Fa.mk fun b => ?_
        | refine Fb.mk fun b2 => ?_
        | refine Fz.mk fun z => ?_
        | (refine Gd.mk (fun h => ?_) (fun h => ?_) <;> try (first | (exfalso; omega) | exact absurd rfl h | (exfalso; simp at h <;> omega)))
        | refine Ands.mk ?_ ?_
        | (refine XC.is ?_; refine W110 ?_; refine XC.planG (by kernel_rfl) (fun _ m h => h.drewn m) ?_; (conv => arg 5; reduce); refine XG0.of ?_; (conv => arg 5; reduce); (conv => arg 6; reduce); refine XG.go (by decide +kernel) ?_))
      refine XL.trip (braced_tri hS (i := i) (by omega) hex) (by rfl) (by rfl) (by rfl) (by rfl) (by rfl) (by rfl) (by rfl) (by (repeat' (first | exact Sels.nil | exact Sel.here | apply Sels.cons | apply Sel.there)); done) (by (repeat (first | exact sub0 | refine subC (by repeat (first | exact List.Mem.head _ | apply List.Mem.tail)) ?_)); done) ?_ ?_
      rotate_left
      · rintro ⟨t1, k1, i1⟩ hb
        dsimp only at hb
        (repeat (first | refine XQ.sqP ?_ | refine XQ.rdP ?_ | refine XQ.mtP ?_ | refine XQ.blockP ?_ | refine XQ.anSP ?_))
        exact XQ.rpBad (by (repeat' (first | exact Sels.nil | exact Sel.here | apply Sels.cons | apply Sel.there)); done) (by simp [PM.bind, PM.pure, hb, termB, h, hq])
      rintro ⟨x, k⟩ ⟨hx, hx', hx''⟩
      dsimp only at hx hx' hx''
      conv => arg 9; dsimp only [List.cons_append, List.nil_append]
      try conv => arg 7; dsimp only
      repeat' (first
        | refine XStep ?_
        | refine Fa.mk fun b => ?_
        | refine Fb.mk fun b2 => ?_
        | refine Fz.mk fun z => ?_
        | (refine Gd.mk (fun h => ?_) (fun h => ?_) <;> try (first | (exfalso; omega) | exact absurd rfl h | (exfalso; simp at h <;> omega)))
        | refine Ands.mk ?_ ?_
        | (refine XC.is ?_; refine W110 ?_; refine XC.planG (by kernel_rfl) (fun _ m h => h.drewn m) ?_; (conv => arg 5; reduce); refine XG0.of ?_; (conv => arg 5; reduce); (conv => arg 6; reduce); refine XG.go (by decide +kernel) ?_))
      exact XQ.doneC (by rfl) (by rfl) (by rfl) (by rfl) (by repeat (first | exact Sel.here | apply Sel.there)) (by rfl) (RP.ok (x := x) (j := k) ⟨by simp [termB, h, hq, hx], by omega, by omega⟩) (by (repeat' (first | exact Sels.nil | exact Sel.here | apply Sels.cons | apply Sel.there)); done) (by (repeat (first | exact sub0 | refine subC (by repeat (first | exact List.Mem.head _ | apply List.Mem.tail)) ?_)); done)
/-- What lies where the arguments of a call are gathered. -/
@[reducible] def callK (pb bt bp : Nat) (m : NdM) (x : Value × List NdM) : SP :=
  SP.ex (fun _ : Unit => [cel bt #[.int .i64 9, .string (tx []), .int .i64 0, .int .i64 0, .int .i64 0, .string (tx []), .slice none 0 0, x.1] 27, rowO 27 8 x.1 x.2.length (ndC x.2), cel bp #[.pointer (some ⟨pb, 0, none⟩)] 52]) fun _ => x.2.length ≤ 7 ∧ x.2.head? = some m
theorem X.St.callShut {c : Cx} {L F : List SP} {Φ : List FP} {w : World} {pb bt bp : Nat} {v : Value} {m : NdM} {l : List NdM} (h : St c L Φ w)
    (s : Sels L [cel bt #[.int .i64 9, .string (tx []), .int .i64 0, .int .i64 0, .int .i64 0, .string (tx []), .slice none 0 0, v] 27, rowO 27 8 v l.length (ndC l), cel bp #[.pointer (some ⟨pb, 0, none⟩)] 52] F) (h7 : l.length ≤ 7 ∧ l.head? = some m) :
    St c (callK pb bt bp m (v, l) :: F) Φ w := h.shut () s h7
theorem ndC_end (l : List NdM) (x : NdM) : ndC l ++ [.int .i64 x.kind, .string x.text, .int .i64 x.n, .int .i64 x.t.kind, .int .i64 x.t.n, .string x.t.name, x.t.ofv, x.kv] = ndC (l ++ [x]) := ndC_app l x
theorem St.ndsOne {c : Cx} {L : List SP} {Φ : List FP} {w : World} {x : NdM} (h2 : ndFP x ∈ Φ) (h : St c L Φ w) : St c L (ndsFP [x] :: Φ) w := ((h.ndsNil).ndsApp (l := []) (x := x) (.head _) (.tail _ h2)).forget (fun φ hφ => by
  rcases List.mem_cons.1 hφ with rfl | h
  · exact .head _
  · exact .tail _ (.tail _ h))
theorem post1_tri {S : Src} {lv : Value} {pb d bt bp : Nat} {m : NdM} {ex : PM Nd}
    (hex : ∀ j, j ≤ S.T.length → Tri Try.prog 77 [.pointer (some ⟨pb, 0, none⟩)] [pB S lv pb j d] [tkF S lv] (NdR S lv pb d j ex)) (g : Value × List NdM) (j : Nat) (hj : j ≤ S.T.length) (hl : (NdM.nds g.2).tail.length < 6) :
    Tri Try.prog 84 ([] ++ [] ++ [.pointer (some ⟨bt, 0, none⟩), .pointer (some ⟨bp, 0, none⟩)]) [pB S lv pb j d, callK pb bt bp m g] [tkF S lv, ndsFP g.2] (OneR S lv pb d (callK pb bt bp m) (fun g => ndsFP g.2) (fun g => (NdM.nds g.2).tail) ex g j) := by
  refine Tri.of Try.func84 rfl fun c => ?_
  refine XC.ex (fun w h => St.open_ h (by repeat (first | exact Sel.here | apply Sel.there))) fun _ => XC.pure fun h7' => ?_
  refine XC.ex (fun w h => h.sliced (e := 27) (size := 8) (by repeat (first | exact Sel.here | apply Sel.there))) ?_
  rintro ⟨va, vc⟩
  refine XC.pure (fun ev => ?_)
  obtain ⟨v, l⟩ := g
  obtain ⟨h7, hm⟩ := h7'
  dsimp only at ev hl h7 hm ⊢
  subst ev
  conv => arg 7; dsimp only [List.cons_append, List.nil_append]
  repeat' (first
    | refine XStep ?_
    | refine Fa.mk fun b => ?_
    | refine Fb.mk fun b2 => ?_
    | refine Fz.mk fun z => ?_
    | (refine Gd.mk (fun h => ?_) (fun h => ?_) <;> try (first | (exfalso; omega) | exact absurd rfl h | (exfalso; simp at h <;> omega)))
    | refine Ands.mk ?_ ?_
    | (refine XC.is ?_; refine W110 ?_; refine XC.planG (by kernel_rfl) (fun _ m h => h.drewn m) ?_; (conv => arg 5; reduce); refine XG0.of ?_; (conv => arg 5; reduce); (conv => arg 6; reduce); refine XG.go (by decide +kernel) ?_))
  all_goals
    refine XL.trip (hex j hj) (by rfl) (by rfl) (by rfl) (by rfl) (by rfl) (by rfl) (by rfl) (by (repeat' (first | exact Sels.nil | exact Sel.here | apply Sels.cons | apply Sel.there)); done) (by (repeat (first | exact sub0 | refine subC (by repeat (first | exact List.Mem.head _ | apply List.Mem.tail)) ?_)); done) ?_ ?_
    rotate_left
    · rintro ⟨t1, k1, i1⟩ hb
      dsimp only at hb
      (repeat (first | refine XQ.sqP ?_ | refine XQ.rdP ?_ | refine XQ.mtP ?_ | refine XQ.blockP ?_ | refine XQ.anSP ?_))
      exact XQ.rpBad (by (repeat' (first | exact Sels.nil | exact Sel.here | apply Sels.cons | apply Sel.there)); done) hb
    rintro ⟨x, k⟩ ⟨hx, hx', hx''⟩
    dsimp only at hx hx' hx''
    conv => arg 9; dsimp only [List.cons_append, List.nil_append]
    try conv => arg 7; dsimp only
    repeat' (first
      | refine XStep ?_
      | refine Fa.mk fun b => ?_
      | refine Fb.mk fun b2 => ?_
      | refine Fz.mk fun z => ?_
      | (refine Gd.mk (fun h => ?_) (fun h => ?_) <;> try (first | (exfalso; omega) | exact absurd rfl h | (exfalso; simp at h <;> omega)))
      | refine Ands.mk ?_ ?_
      | (refine XC.is ?_; refine W110 ?_; refine XC.planG (by kernel_rfl) (fun _ m h => h.drewn m) ?_; (conv => arg 5; reduce); refine XG0.of ?_; (conv => arg 5; reduce); (conv => arg 6; reduce); refine XG.go (by decide +kernel) ?_))
    refine XL.appendS (e := 27) (size := 8) (by rfl) (by rfl) (by rfl) (by rfl) (by rfl) (by rfl) (by rfl) (by repeat (first | exact Sel.here | apply Sel.there)) (by repeat (first | exact Sel.here | apply Sel.there)) ⟨_, (by repeat (first | exact Sel.here | apply Sel.there))⟩ (by rfl) (Nat.le_refl _) rfl rfl (by rfl) (by omega) rfl rfl (fun v' => ?_)
    refine XL.ex (fun w h => h.sliced (e := 27) (size := 8) (by repeat (first | exact Sel.here | apply Sel.there))) ?_
    rintro ⟨va', vc'⟩
    refine XL.pureW (fun ev => ?_)
    dsimp only at ev
    subst ev
    repeat' (first
      | refine XStep ?_
      | refine Fa.mk fun b => ?_
      | refine Fb.mk fun b2 => ?_
      | refine Fz.mk fun z => ?_
      | (refine Gd.mk (fun h => ?_) (fun h => ?_) <;> try (first | (exfalso; omega) | exact absurd rfl h | (exfalso; simp at h <;> omega)))
      | refine Ands.mk ?_ ?_
      | (refine XC.is ?_; refine W110 ?_; refine XC.planG (by kernel_rfl) (fun _ m h => h.drewn m) ?_; (conv => arg 5; reduce); refine XG0.of ?_; (conv => arg 5; reduce); (conv => arg 6; reduce); refine XG.go (by decide +kernel) ?_))
    · refine XL.stsR (xs := ndC l) (by rfl) (by rfl) (by rfl) (by rfl) (by rfl) (by rfl) (by rfl) (by rfl) (by rfl) (by repeat (first | exact Sel.here | apply Sel.there)) (ndC_len l) (by rfl) ?_
      repeat' (first
        | refine XStep ?_
        | refine Fa.mk fun b => ?_
        | refine Fb.mk fun b2 => ?_
        | refine Fz.mk fun z => ?_
        | (refine Gd.mk (fun h => ?_) (fun h => ?_) <;> try (first | (exfalso; omega) | exact absurd rfl h | (exfalso; simp at h <;> omega)))
        | refine Ands.mk ?_ ?_
        | (refine XC.is ?_; refine W110 ?_; refine XC.planG (by kernel_rfl) (fun _ m h => h.drewn m) ?_; (conv => arg 5; reduce); refine XG0.of ?_; (conv => arg 5; reduce); (conv => arg 6; reduce); refine XG.go (by decide +kernel) ?_))
      have e1 := ndC_end l x
      have e2 : (l ++ [x]).length = l.length + 1 := by simp
      have e3 : NdM.nds (l ++ [x]) = NdM.nds l ++ [x.nd] := nds_app l x
      have e4 : NdM.nds l ≠ [] := by
        intro h
        cases l with
        | nil => cases hm
        | cons => cases h
      have e5 : (l ++ [x]).head? = some m := by rw [List.head?_append, hm]; rfl
      exact XQ.conv (fun w hw => by
        rw [e1, ← e2] at hw
        exact ((hw.ndsApp (l := l) (x := x) (by repeat (first | exact List.Mem.head _ | apply List.Mem.tail)) (by repeat (first | exact List.Mem.head _ | apply List.Mem.tail))).callShut (l := l ++ [x]) (by (repeat' (first | exact Sels.nil | exact Sel.here | apply Sels.cons | apply Sel.there)); done) ⟨by rw [e2]; simp [nds_len] at hl; omega, e5⟩).less (by (repeat' (first | exact Sels.nil | exact Sel.here | apply Sels.cons | apply Sel.there)); done) (by (repeat (first | exact sub0 | refine subC (by repeat (first | exact List.Mem.head _ | apply List.Mem.tail)) ?_)); done))
        (XQ.end0 (by rfl) (.inl ⟨((.slice va' (l ++ [x]).length vc', l ++ [x]), k), ⟨⟨_, hx, by dsimp only; rw [e3, List.tail_append_of_ne_nil e4]⟩, hx', hx''⟩, rfl, rfl, rfl⟩))
    · refine XL.stsR (xs := ndC l) (by rfl) (by rfl) (by rfl) (by rfl) (by rfl) (by rfl) (by rfl) (by rfl) (by rfl) (by repeat (first | exact Sel.here | apply Sel.there)) (ndC_len l) (by rfl) ?_
      repeat' (first
        | refine XStep ?_
        | refine Fa.mk fun b => ?_
        | refine Fb.mk fun b2 => ?_
        | refine Fz.mk fun z => ?_
        | (refine Gd.mk (fun h => ?_) (fun h => ?_) <;> try (first | (exfalso; omega) | exact absurd rfl h | (exfalso; simp at h <;> omega)))
        | refine Ands.mk ?_ ?_
        | (refine XC.is ?_; refine W110 ?_; refine XC.planG (by kernel_rfl) (fun _ m h => h.drewn m) ?_; (conv => arg 5; reduce); refine XG0.of ?_; (conv => arg 5; reduce); (conv => arg 6; reduce); refine XG.go (by decide +kernel) ?_))
      have e1 := ndC_end l x
      have e2 : (l ++ [x]).length = l.length + 1 := by simp
      have e3 : NdM.nds (l ++ [x]) = NdM.nds l ++ [x.nd] := nds_app l x
      have e4 : NdM.nds l ≠ [] := by
        intro h
        cases l with
        | nil => cases hm
        | cons => cases h
      have e5 : (l ++ [x]).head? = some m := by rw [List.head?_append, hm]; rfl
      exact XQ.conv (fun w hw => by
        rw [e1, ← e2] at hw
        exact ((hw.ndsApp (l := l) (x := x) (by repeat (first | exact List.Mem.head _ | apply List.Mem.tail)) (by repeat (first | exact List.Mem.head _ | apply List.Mem.tail))).callShut (l := l ++ [x]) (by (repeat' (first | exact Sels.nil | exact Sel.here | apply Sels.cons | apply Sel.there)); done) ⟨by rw [e2]; simp [nds_len] at hl; omega, e5⟩).less (by (repeat' (first | exact Sels.nil | exact Sel.here | apply Sels.cons | apply Sel.there)); done) (by (repeat (first | exact sub0 | refine subC (by repeat (first | exact List.Mem.head _ | apply List.Mem.tail)) ?_)); done))
        (XQ.end0 (by rfl) (.inl ⟨((.slice va' (l ++ [x]).length vc', l ++ [x]), k), ⟨⟨_, hx, by dsimp only; rw [e3, List.tail_append_of_ne_nil e4]⟩, hx', hx''⟩, rfl, rfl, rfl⟩))
end Go.Proofs.Ytjnineeeffecaaa
