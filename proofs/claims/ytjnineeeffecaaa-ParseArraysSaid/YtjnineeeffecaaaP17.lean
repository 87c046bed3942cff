/- The parser: its deferred function, that catches what the rules panic with. -/
import Derived.Test.YtjnineeeffecaaaP16
import Derived.Test.YtjnineeeffecaaaP15
import Derived.Test.YtjnineeeffecaaaP19
import Derived.Test.YtjnineeeffecaaaX19
namespace Go.Proofs.Ytjnineeeffecaaa
open Go X
set_option maxRecDepth 100000
set_option maxHeartbeats 4000000
attribute [local irreducible] XC XL XQ Tri blk Shows Sq Rd Mt inBlockX XS XG XG0 TkS AnS rowO tyFP tysFP ndFP ndsFP Row.fp FP.all
@[reducible] def nilN : NdM := .mk 0 (tx []) 0 TyM.nil none 0 0 []
/-- The results' variables, as they lie. -/
@[reducible] def resL (b2 b3 b4 : Nat) (x : NdM) (t k : Int) : List SP := [cel b2 x.cells.toArray 27, cel b3 #[.int .i64 t] 3, cel b4 #[.int .i64 k] 32]
theorem catch_tri {b2 b3 b4 : Nat} {x : NdM} {t0 k0 t k : Int} : TriR Try.prog 19 [.pointer (some ⟨b2, 0, none⟩), .pointer (some ⟨b3, 0, none⟩), .pointer (some ⟨b4, 0, none⟩)] (stopV t k) (resL b2 b3 b4 x t0 k0) [] (resL b2 b3 b4 nilN t k) [] := by
  refine TriR.of Try.func19 rfl rfl (by rfl) (by rfl) (by rfl) (by rfl) (by rfl) (by rfl) (by rfl) (by rfl) fun c => ?_
  repeat' (first
    | refine XStep ?_
    | refine Fa.mk fun b => ?_
    | refine Fb.mk fun b2 => ?_
    | refine Fz.mk fun z => ?_
    | (refine Gd.mk (fun h => ?_) (fun h => ?_) <;> try (first | (exfalso; omega) | exact absurd rfl h | (exfalso; simp at h <;> omega)))
    | refine Ands.mk ?_ ?_
    | (refine XC.is ?_; refine W110 ?_; refine XC.planG (by kernel_rfl) (fun _ m h => h.drewn m) ?_; (conv => arg 5; reduce); refine XG0.of ?_; (conv => arg 5; reduce); (conv => arg 6; reduce); refine XG.go (by decide +kernel) ?_))
  refine XL.neNil (by rfl) (by rfl) (by rfl) (by rfl) (by rfl) (by rfl) (.inr ⟨_, _, rfl, rfl⟩) ?_
  repeat' (first
    | refine XStep ?_
    | refine Fa.mk fun b => ?_
    | refine Fb.mk fun b2 => ?_
    | refine Fz.mk fun z => ?_
    | (refine Gd.mk (fun h => ?_) (fun h => ?_) <;> try (first | (exfalso; omega) | exact absurd rfl h | (exfalso; simp at h <;> omega)))
    | refine Ands.mk ?_ ?_
    | (refine XC.is ?_; refine W110 ?_; refine XC.planG (by kernel_rfl) (fun _ m h => h.drewn m) ?_; (conv => arg 5; reduce); refine XG0.of ?_; (conv => arg 5; reduce); (conv => arg 6; reduce); refine XG.go (by decide +kernel) ?_))
  refine XL.assert (by rfl) (by rfl) (by rfl) (by rfl) (by rfl) (by rfl) ?_
  repeat' (first
    | refine XStep ?_
    | refine Fa.mk fun b => ?_
    | refine Fb.mk fun b2 => ?_
    | refine Fz.mk fun z => ?_
    | (refine Gd.mk (fun h => ?_) (fun h => ?_) <;> try (first | (exfalso; omega) | exact absurd rfl h | (exfalso; simp at h <;> omega)))
    | refine Ands.mk ?_ ?_
    | (refine XC.is ?_; refine W110 ?_; refine XC.planG (by kernel_rfl) (fun _ m h => h.drewn m) ?_; (conv => arg 5; reduce); refine XG0.of ?_; (conv => arg 5; reduce); (conv => arg 6; reduce); refine XG.go (by decide +kernel) ?_))
  exact XQ.endR (fun w h => h.less (by (repeat' (first | exact Sels.nil | exact Sel.here | apply Sels.cons | apply Sel.there)); done) (by (repeat (first | exact sub0 | refine subC (by repeat (first | exact List.Mem.head _ | apply List.Mem.tail)) ?_)); done))
theorem catch0_tri {b2 b3 b4 : Nat} {x : NdM} {t0 k0 : Int} (c : Cx) (hc : St c (resL b2 b3 b4 x t0 k0) [] c.w0) :
    CallsD Try.prog 19 [.pointer (some ⟨b2, 0, none⟩), .pointer (some ⟨b3, 0, none⟩), .pointer (some ⟨b4, 0, none⟩)].toArray .returning c.w0 fun e u' w' => u' = .returning ∧ (∃ v, e = .returned v) ∧ St c (resL b2 b3 b4 x t0 k0) [] w' := by
  refine TriR.none (args := [.pointer (some ⟨b2, 0, none⟩), .pointer (some ⟨b3, 0, none⟩), .pointer (some ⟨b4, 0, none⟩)]) Try.func19 rfl (by rfl) (by rfl) (by rfl) (by rfl) (by rfl) (by rfl) (by rfl) (by rfl) (by rfl) (fun c => ?_) c hc
  repeat' (first
    | refine XStep ?_
    | refine Fa.mk fun b => ?_
    | refine Fb.mk fun b2 => ?_
    | refine Fz.mk fun z => ?_
    | (refine Gd.mk (fun h => ?_) (fun h => ?_) <;> try (first | (exfalso; omega) | exact absurd rfl h | (exfalso; simp at h <;> omega)))
    | refine Ands.mk ?_ ?_
    | (refine XC.is ?_; refine W110 ?_; refine XC.planG (by kernel_rfl) (fun _ m h => h.drewn m) ?_; (conv => arg 5; reduce); refine XG0.of ?_; (conv => arg 5; reduce); (conv => arg 6; reduce); refine XG.go (by decide +kernel) ?_))
  refine XL.neNil (by rfl) (by rfl) (by rfl) (by rfl) (by rfl) (by rfl) (.inl ⟨rfl, rfl⟩) ?_
  repeat' (first
    | refine XStep ?_
    | refine Fa.mk fun b => ?_
    | refine Fb.mk fun b2 => ?_
    | refine Fz.mk fun z => ?_
    | (refine Gd.mk (fun h => ?_) (fun h => ?_) <;> try (first | (exfalso; omega) | exact absurd rfl h | (exfalso; simp at h <;> omega)))
    | refine Ands.mk ?_ ?_
    | (refine XC.is ?_; refine W110 ?_; refine XC.planG (by kernel_rfl) (fun _ m h => h.drewn m) ?_; (conv => arg 5; reduce); refine XG0.of ?_; (conv => arg 5; reduce); (conv => arg 6; reduce); refine XG.go (by decide +kernel) ?_))
  exact XQ.endR (fun w h => h)
/-! ### The parser -/
/-- What the reader of tokens hands over. -/
def TokT : Prop := ∀ s : List UInt8, Tri Try.prog 16 [.string (tx s)] [] [gF]
  (Ret (fun x : Value × LexO => match x.2 with | .ok _ => .tuple #[x.1, .int .i64 0, .int .i64 0] | .bad t k => .tuple #[.slice none 0 0, .int .i64 t, .int .i64 k]) (fun x => match x.2 with | .ok T => [rowO 60 4 x.1 T.length (tokC T)] | .bad _ _ => []) (fun _ => [])
    fun x => x.2 = lexS s)
def parseA (s : List UInt8) : Nd × Int × Int := match lexS s with
  | .bad t k => (.nil, t, k)
  | .ok T => parseT ⟨T, s.length⟩
theorem unit_ok {S : Src} (hS : S.Ok) {l : List Nd} {j : Nat} (h : unitF S (S.T.length + 1) [] 0 = .ok l j) : (Nd.mk 23 (tx []) 0 .nil l).ok 30000 := by
  have := unit_w hS 0
  rw [h] at this
  exact nok_mk (ok0 _ _ _) this.1 fun x hx => (this.2 x hx).1
theorem unitF_succ {S : Src} {f : Nat} {l : List Nd} {i : Nat} : unitF S (f + 1) l i = if i < S.T.length then ((item S).bind fun x => unitF S f (l ++ [x])) i else .ok l i := rfl
theorem parse_tri (hL : TokT) (s : List UInt8) : Tri Try.prog 13 [.string (tx s)] [] [gF]
    (Ret (fun x : NdM × Int × Int => .tuple #[x.1.v, .int .i64 x.2.1, .int .i64 x.2.2]) (fun _ => []) (fun x => [ndFP x.1]) fun x => (x.1.nd, x.2) = parseA s) := by
  refine Tri.ofP (K := [2, 3, 4]) Try.func13 rfl fun c => ?_
  repeat' (first
    | refine XStep ?_
    | refine Fa.mk fun b => ?_
    | refine Fb.mk fun b2 => ?_
    | refine Fz.mk fun z => ?_
    | (refine Gd.mk (fun h => ?_) (fun h => ?_) <;> try (first | (exfalso; omega) | exact absurd rfl h | (exfalso; simp at h <;> omega)))
    | refine Ands.mk ?_ ?_
    | (refine XC.is ?_; refine W110 ?_; refine XC.planG (by kernel_rfl) (fun _ m h => h.drewn m) ?_; (conv => arg 5; reduce); refine XG0.of ?_; (conv => arg 5; reduce); (conv => arg 6; reduce); refine XG.go (by decide +kernel) ?_))
  refine XL.trir (hL s) (by rfl) (by rfl) (by rfl) (by rfl) (by rfl) (by rfl) (by rfl) (by (repeat' (first | exact Sels.nil | exact Sel.here | apply Sels.cons | apply Sel.there)); done) (by (repeat (first | exact sub0 | refine subC (by repeat (first | exact List.Mem.head _ | apply List.Mem.tail)) ?_)); done) ?_
  rintro ⟨v, r⟩ hr
  dsimp only at hr
  cases r with
  | bad t k =>
    have hk := (lexS_bad hr.symm).2.2
    dsimp only
    conv => arg 9; dsimp only [List.cons_append, List.nil_append]
    try conv => arg 7; dsimp only
    repeat' (first
      | refine W100 ?_
      | refine W103 ?_
      | refine W101 ?_
      | refine W112 ?_
      | refine W116 ?_
      | refine W1 ?_
      | (refine W2 (fun h => ?_) (fun h => ?_) <;> try (first | (exfalso; omega) | exact absurd rfl h | (exfalso; simp at h <;> omega)))
      | refine W3 ?_
      | refine W33 ?_
      | refine XL.pure 1 (by rfl) ?_
      | refine W13 ?_
      | refine W5 ?_
      | refine W14 ?_
      | refine W18 ?_
      | refine W6 ?_
      | refine W24 ?_
      | refine W27 ?_
      | refine W19 ?_
      | refine W20 ?_
      | refine W15 ?_
      | refine W7 ?_
      | refine W28 ?_
      | refine W30 ?_
      | refine W35 ?_
      | refine W36 ?_
      | refine W37 ?_
      | refine W38 ?_
      | refine W39 ?_
      | refine W40 ?_
      | refine W31 ?_
      | refine W32 ?_
      | refine W41 ?_
      | refine W42 ?_
      | refine W43 ?_
      | refine W44 ?_
      | refine W45 ?_
      | refine W46 ?_
      | refine W47 ?_
      | refine W8 ?_
      | refine W21 ?_
      | refine W22 ?_
      | refine W16 ?_
      | refine W9 ?_
      | refine W10 ?_
      | refine W48 ?_
      | (refine W49 (fun b => ?_))
      | (refine W50 (fun b => ?_))
      | (refine W51 (fun b => ?_))
      | refine W25 ?_)
    refine XC.cond_d (by rfl) (fun h => ?_) (fun h => absurd hk h)
    refine XC.seq ?_
    refine XC.np ?_
    repeat' (first
      | refine XStep ?_
      | refine Fa.mk fun b => ?_
      | refine Fb.mk fun b2 => ?_
      | refine Fz.mk fun z => ?_
      | (refine Gd.mk (fun h => ?_) (fun h => ?_) <;> try (first | (exfalso; omega) | exact absurd rfl h | (exfalso; simp at h <;> omega)))
      | refine Ands.mk ?_ ?_
      | (refine XC.is ?_; refine W110 ?_; refine XC.planG (by kernel_rfl) (fun _ m h => h.drewn m) ?_; (conv => arg 5; reduce); refine XG0.of ?_; (conv => arg 5; reduce); (conv => arg 6; reduce); refine XG.go (by decide +kernel) ?_))
    refine XQ.np ?_
    repeat' (first
      | refine XStep ?_
      | refine Fa.mk fun b => ?_
      | refine Fb.mk fun b2 => ?_
      | refine Fz.mk fun z => ?_
      | (refine Gd.mk (fun h => ?_) (fun h => ?_) <;> try (first | (exfalso; omega) | exact absurd rfl h | (exfalso; simp at h <;> omega)))
      | refine Ands.mk ?_ ?_
      | (refine XC.is ?_; refine W110 ?_; refine XC.planG (by kernel_rfl) (fun _ m h => h.drewn m) ?_; (conv => arg 5; reduce); refine XG0.of ?_; (conv => arg 5; reduce); (conv => arg 6; reduce); refine XG.go (by decide +kernel) ?_))
    rename_i c2 c3
    refine XQ.conv (fun w h => h.nilTy.ndLeaf 0 0 (tx []) TyM.nil (.head _)) ?_
    exact XQ.retPl (fun tmps w' hs hA => leaves3 rfl (hs 2 _ rfl) (hs 3 _ rfl) (hs 4 _ rfl) rfl rfl rfl rfl hA (by repeat (first | exact Sel.here | apply Sel.there)) (by repeat (first | exact Sel.here | apply Sel.there)) (by repeat (first | exact Sel.here | apply Sel.there)) rfl ⟨(nilN, t, k), by simp [parseA, ← hr, NdM.nd, NdM.nds, TyM.ty, TyM.tys], rfl, rfl, rfl⟩ (by (repeat' (first | exact Sels.nil | exact Sel.here | apply Sels.cons | apply Sel.there)); done) (by (repeat (first | exact sub0 | refine subC (by repeat (first | exact List.Mem.head _ | apply List.Mem.tail)) ?_)); done))
  | ok T =>
    have hk := lexS_ok hr.symm
    dsimp only
    conv => arg 9; dsimp only [List.cons_append, List.nil_append]
    try conv => arg 7; dsimp only
    refine XL.ex (fun w h => h.sliced (e := 60) (size := 4) (by repeat (first | exact Sel.here | apply Sel.there))) ?_
    rintro ⟨va, vc⟩
    refine XL.pureW (fun ev => ?_)
    dsimp only at ev
    subst ev
    refine XL.conv (fun w h => h.rowFreeze (e := 60) (size := 4) (by repeat (first | exact Sel.here | apply Sel.there))) ?_
    repeat' (first
      | refine XStep ?_
      | refine Fa.mk fun b => ?_
      | refine Fb.mk fun b2 => ?_
      | refine Fz.mk fun z => ?_
      | (refine Gd.mk (fun h => ?_) (fun h => ?_) <;> try (first | (exfalso; omega) | exact absurd rfl h | (exfalso; simp at h <;> omega)))
      | refine Ands.mk ?_ ?_
      | (refine XC.is ?_; refine W110 ?_; refine XC.planG (by kernel_rfl) (fun _ m h => h.drewn m) ?_; (conv => arg 5; reduce); refine XG0.of ?_; (conv => arg 5; reduce); (conv => arg 6; reduce); refine XG.go (by decide +kernel) ?_))
    rename_i c2 c3 c4 c6
    have hS : (Src.mk T s.length).T.length ≤ 20000 := hk.n
    refine XC.loop (fun z : Nat × Nat × (Option Addr × Nat) × List NdM => [(2, .pointer (some ⟨c2, 0, none⟩)), (3, .pointer (some ⟨c3, 0, none⟩)), (4, .pointer (some ⟨c4, 0, none⟩)), (5, .slice va T.length vc), (6, .pointer (some ⟨c6, 0, none⟩)), (7, .pointer (some ⟨b, 0, none⟩))])
      (fun z w => (z.2.1 ≤ T.length ∧ T.length < z.1 + z.2.1 ∧ z.2.2.2.length ≤ z.2.1 ∧ unitF ⟨T, s.length⟩ (T.length + 1) [] 0 = unitF ⟨T, s.length⟩ z.1 (NdM.nds z.2.2.2) z.2.1) ∧
        St c [cel b (NdM.mk 23 (tx []) 0 TyM.nil z.2.2.1.1 z.2.2.2.length z.2.2.1.2 []).cells.toArray 27, rowO 27 8 (.slice z.2.2.1.1 z.2.2.2.length z.2.2.1.2) z.2.2.2.length (ndC z.2.2.2), pB ⟨T, s.length⟩ (.slice va T.length vc) c6 z.2.1 0, cel c2 nilN.cells.toArray 27, cel c3 #[.int .i64 0] 3, cel c4 #[.int .i64 0] 32] [ndsFP z.2.2.2, tkF ⟨T, s.length⟩ (.slice va T.length vc)] w)
      (fun z => z.1) (T.length + 1, 0, (none, 0), []) (by (repeat (first | exact fits_nil | refine fits_cons (by rfl) ?_)); done) (fun w h => ⟨⟨by dsimp only; omega, by dsimp only; omega, by simp, rfl⟩, ((h.nilRow 27 8).ndsNil).less (by (repeat' (first | exact Sels.nil | exact Sel.here | apply Sels.cons | apply Sel.there)); done) (by (repeat (first | exact sub0 | refine subC (by repeat (first | exact List.Mem.head _ | apply List.Mem.tail)) ?_)); done)⟩) ?_
    rintro ⟨f, j, ⟨ua, uc⟩, l⟩
    dsimp only
    refine XC.pure (fun hh => ?_)
    obtain ⟨h1, h2, h3, h4⟩ := hh
    obtain ⟨f, rfl⟩ : ∃ g, f = g + 1 := ⟨f - 1, by omega⟩
    rw [unitF_succ (f := f)] at h4
    by_cases hlt : j < T.length
    · rw [if_pos (show j < (Src.mk T s.length).T.length from hlt)] at h4
      repeat' (first
        | refine W100 ?_
        | refine W103 ?_
        | refine W101 ?_
        | refine W112 ?_
        | refine W116 ?_
        | refine W1 ?_
        | (refine W2 (fun h => ?_) (fun h => ?_) <;> try (first | (exfalso; omega) | exact absurd rfl h | (exfalso; simp at h <;> omega)))
        | refine W3 ?_
        | refine W33 ?_
        | refine XL.pure 1 (by rfl) ?_
        | refine W13 ?_
        | refine W5 ?_
        | refine W14 ?_
        | refine W18 ?_
        | refine W6 ?_
        | refine W24 ?_
        | refine W27 ?_
        | refine W19 ?_
        | refine W20 ?_
        | refine W15 ?_
        | refine W7 ?_
        | refine W28 ?_
        | refine W30 ?_
        | refine W35 ?_
        | refine W36 ?_
        | refine W37 ?_
        | refine W38 ?_
        | refine W39 ?_
        | refine W40 ?_
        | refine W31 ?_
        | refine W32 ?_
        | refine W41 ?_
        | refine W42 ?_
        | refine W43 ?_
        | refine W44 ?_
        | refine W45 ?_
        | refine W46 ?_
        | refine W47 ?_
        | refine W8 ?_
        | refine W21 ?_
        | refine W22 ?_
        | refine W16 ?_
        | refine W9 ?_
        | refine W10 ?_
        | refine W48 ?_
        | (refine W49 (fun b => ?_))
        | (refine W50 (fun b => ?_))
        | (refine W51 (fun b => ?_))
        | refine W25 ?_)
      refine XC.cond_d (by rfl) (fun _ => ?_) (fun h => absurd (by exact_mod_cast hlt) h)
      repeat (first | refine XC.seq ?_ | refine XC.skip ?_ | refine XQ.next ?_ | refine XC.block ?_)
      refine XC.planG (by kernel_rfl) (fun _ m h => h.drewn m) ?_; (conv => arg 5; reduce); refine XG0.of ?_; (conv => arg 5; reduce); (conv => arg 6; reduce); refine XG.go (by decide +kernel) ?_
      refine XS.faK rfl rfl rfl (by repeat (first | exact PFd.bodyP (by decide) | apply PFd.sq | apply PFd.rd | apply PFd.block)) rfl rfl rfl rfl ?_
      refine XS.ldK rfl rfl rfl (by repeat (first | exact PFd.bodyP (by decide) | apply PFd.sq | apply PFd.rd | apply PFd.block)) rfl rfl rfl rfl (by repeat (first | exact Sel.here | apply Sel.there)) rfl ?_
      refine XS.pureK rfl rfl rfl (by repeat (first | exact PFd.bodyP (by decide) | apply PFd.sq | apply PFd.rd | apply PFd.block)) rfl rfl ?_
      refine XS.a (by rfl) (by (repeat (first | exact Lft.nil | (apply Lft.drop; · rfl) | apply Lft.keep)); done) ?_
      refine XL.trip (item_tri wrap_tri (S := ⟨T, s.length⟩) hS (lv := .slice va T.length vc) (pb := c6) (d := 0) (i := j) h1 (ask_tri hS 60 0 rfl) (stmt_tri wrap_tri hS 60 0 rfl)) (by rfl) (by rfl) (by rfl) (by rfl) (by rfl) (by rfl) (by rfl) (by (repeat' (first | exact Sels.nil | exact Sel.here | apply Sels.cons | apply Sel.there)); done) (by (repeat (first | exact sub0 | refine subC (by repeat (first | exact List.Mem.head _ | apply List.Mem.tail)) ?_)); done) ?_ ?_
      rotate_left
      · rintro ⟨t1, k1, i1⟩ hb
        dsimp only at hb
        (repeat (first | refine XQ.sqP ?_ | refine XQ.rdP ?_ | refine XQ.mtP ?_ | refine XQ.blockP ?_ | refine XQ.anSP ?_))
        refine XQ.leaveR (catch_tri (b2 := c2) (b3 := c3) (b4 := c4) (x := nilN) (t0 := 0) (k0 := 0) (t := t1) (k := k1)) (by (repeat' (first | exact Sels.nil | exact Sel.here | apply Sels.cons | apply Sel.there)); done) (by (repeat (first | exact sub0 | refine subC (by repeat (first | exact List.Mem.head _ | apply List.Mem.tail)) ?_)); done) (run_invoke rfl) (fun tmps w' hs hA => ?_)
        have hA2 := hA.nilTy.ndLeaf 0 0 (tx []) TyM.nil (.head _)
        have hb : item ⟨T, s.length⟩ j = .bad t1 k1 := hb
        exact leaves3 rfl (hs 2 (by decide) _ rfl) (hs 3 (by decide) _ rfl) (hs 4 (by decide) _ rfl) rfl rfl rfl rfl hA2 (by repeat (first | exact Sel.here | apply Sel.there)) (by repeat (first | exact Sel.here | apply Sel.there)) (by repeat (first | exact Sel.here | apply Sel.there)) rfl ⟨(nilN, t1, k1), by simp [parseA, ← hr, parseT, h4, PM.bind, hb, NdM.nd, NdM.nds, TyM.ty, TyM.tys], rfl, rfl, rfl⟩ (by (repeat' (first | exact Sels.nil | exact Sel.here | apply Sels.cons | apply Sel.there)); done) (by (repeat (first | exact sub0 | refine subC (by repeat (first | exact List.Mem.head _ | apply List.Mem.tail)) ?_)); done)
      rintro ⟨x, k⟩ ⟨hx, hx', hx''⟩
      dsimp only at hx hx' hx''
      have hx : item ⟨T, s.length⟩ j = .ok x.nd k := hx
      conv => arg 9; dsimp only [List.cons_append, List.nil_append]
      try conv => arg 7; dsimp only
      refine XL.nil ?_
      refine XQ.anS (by (repeat (first | exact heldNil | refine heldCons ?_ ?_ | exact fun w h => h.cell (by first | exact Sel.here | exact (Sel.there Sel.here) | exact (Sel.there (Sel.there Sel.here)) | exact (Sel.there (Sel.there (Sel.there Sel.here))) | exact (Sel.there (Sel.there (Sel.there (Sel.there Sel.here)))) | exact (Sel.there (Sel.there (Sel.there (Sel.there (Sel.there Sel.here))))) | exact (Sel.there (Sel.there (Sel.there (Sel.there (Sel.there (Sel.there Sel.here)))))) | exact (Sel.there (Sel.there (Sel.there (Sel.there (Sel.there (Sel.there (Sel.there Sel.here))))))) | exact (Sel.there (Sel.there (Sel.there (Sel.there (Sel.there (Sel.there (Sel.there (Sel.there Sel.here))))))))) (by rfl) | exact fun w h => h.cells (by first | exact Sel.here | exact (Sel.there Sel.here) | exact (Sel.there (Sel.there Sel.here)) | exact (Sel.there (Sel.there (Sel.there Sel.here))) | exact (Sel.there (Sel.there (Sel.there (Sel.there Sel.here)))) | exact (Sel.there (Sel.there (Sel.there (Sel.there (Sel.there Sel.here))))) | exact (Sel.there (Sel.there (Sel.there (Sel.there (Sel.there (Sel.there Sel.here)))))) | exact (Sel.there (Sel.there (Sel.there (Sel.there (Sel.there (Sel.there (Sel.there Sel.here))))))) | exact (Sel.there (Sel.there (Sel.there (Sel.there (Sel.there (Sel.there (Sel.there (Sel.there Sel.here))))))))) (by rfl) | refine (by first | exact fun w h => St.row (by first | exact Sel.here | exact (Sel.there Sel.here) | exact (Sel.there (Sel.there Sel.here)) | exact (Sel.there (Sel.there (Sel.there Sel.here))) | exact (Sel.there (Sel.there (Sel.there (Sel.there Sel.here)))) | exact (Sel.there (Sel.there (Sel.there (Sel.there (Sel.there Sel.here))))) | exact (Sel.there (Sel.there (Sel.there (Sel.there (Sel.there (Sel.there Sel.here)))))) | exact (Sel.there (Sel.there (Sel.there (Sel.there (Sel.there (Sel.there (Sel.there Sel.here))))))) | exact (Sel.there (Sel.there (Sel.there (Sel.there (Sel.there (Sel.there (Sel.there (Sel.there Sel.here))))))))) h | exact fun w h => St.rowF (by first | exact (List.Mem.head _) | exact (List.Mem.tail _ (List.Mem.head _)) | exact (List.Mem.tail _ (List.Mem.tail _ (List.Mem.head _))) | exact (List.Mem.tail _ (List.Mem.tail _ (List.Mem.tail _ (List.Mem.head _)))) | exact (List.Mem.tail _ (List.Mem.tail _ (List.Mem.tail _ (List.Mem.tail _ (List.Mem.head _))))) | exact (List.Mem.tail _ (List.Mem.tail _ (List.Mem.tail _ (List.Mem.tail _ (List.Mem.tail _ (List.Mem.head _))))))) h | exact fun w h => Hd.rowF (by first | exact (List.Mem.head _) | exact (List.Mem.tail _ (List.Mem.head _)) | exact (List.Mem.tail _ (List.Mem.tail _ (List.Mem.head _))) | exact (List.Mem.tail _ (List.Mem.tail _ (List.Mem.tail _ (List.Mem.head _)))) | exact (List.Mem.tail _ (List.Mem.tail _ (List.Mem.tail _ (List.Mem.tail _ (List.Mem.head _))))) | exact (List.Mem.tail _ (List.Mem.tail _ (List.Mem.tail _ (List.Mem.tail _ (List.Mem.tail _ (List.Mem.head _))))))) h))); done) ?_
      refine XS.a (by rfl) (by (repeat (first | exact Lft.nil | (apply Lft.drop; · rfl) | apply Lft.keep)); done) ?_
      refine XL.lit (by rfl) (by rfl) (by rfl) (by rfl) (by rfl) (by rfl) (fun b2 => ?_)
      refine XL.nil ?_
      refine XQ.anS (by (repeat (first | exact heldNil | refine heldCons ?_ ?_ | exact fun w h => h.cell (by first | exact Sel.here | exact (Sel.there Sel.here) | exact (Sel.there (Sel.there Sel.here)) | exact (Sel.there (Sel.there (Sel.there Sel.here))) | exact (Sel.there (Sel.there (Sel.there (Sel.there Sel.here)))) | exact (Sel.there (Sel.there (Sel.there (Sel.there (Sel.there Sel.here))))) | exact (Sel.there (Sel.there (Sel.there (Sel.there (Sel.there (Sel.there Sel.here)))))) | exact (Sel.there (Sel.there (Sel.there (Sel.there (Sel.there (Sel.there (Sel.there Sel.here))))))) | exact (Sel.there (Sel.there (Sel.there (Sel.there (Sel.there (Sel.there (Sel.there (Sel.there Sel.here))))))))) (by rfl) | exact fun w h => h.cells (by first | exact Sel.here | exact (Sel.there Sel.here) | exact (Sel.there (Sel.there Sel.here)) | exact (Sel.there (Sel.there (Sel.there Sel.here))) | exact (Sel.there (Sel.there (Sel.there (Sel.there Sel.here)))) | exact (Sel.there (Sel.there (Sel.there (Sel.there (Sel.there Sel.here))))) | exact (Sel.there (Sel.there (Sel.there (Sel.there (Sel.there (Sel.there Sel.here)))))) | exact (Sel.there (Sel.there (Sel.there (Sel.there (Sel.there (Sel.there (Sel.there Sel.here))))))) | exact (Sel.there (Sel.there (Sel.there (Sel.there (Sel.there (Sel.there (Sel.there (Sel.there Sel.here))))))))) (by rfl) | refine (by first | exact fun w h => St.row (by first | exact Sel.here | exact (Sel.there Sel.here) | exact (Sel.there (Sel.there Sel.here)) | exact (Sel.there (Sel.there (Sel.there Sel.here))) | exact (Sel.there (Sel.there (Sel.there (Sel.there Sel.here)))) | exact (Sel.there (Sel.there (Sel.there (Sel.there (Sel.there Sel.here))))) | exact (Sel.there (Sel.there (Sel.there (Sel.there (Sel.there (Sel.there Sel.here)))))) | exact (Sel.there (Sel.there (Sel.there (Sel.there (Sel.there (Sel.there (Sel.there Sel.here))))))) | exact (Sel.there (Sel.there (Sel.there (Sel.there (Sel.there (Sel.there (Sel.there (Sel.there Sel.here))))))))) h | exact fun w h => St.rowF (by first | exact (List.Mem.head _) | exact (List.Mem.tail _ (List.Mem.head _)) | exact (List.Mem.tail _ (List.Mem.tail _ (List.Mem.head _))) | exact (List.Mem.tail _ (List.Mem.tail _ (List.Mem.tail _ (List.Mem.head _)))) | exact (List.Mem.tail _ (List.Mem.tail _ (List.Mem.tail _ (List.Mem.tail _ (List.Mem.head _))))) | exact (List.Mem.tail _ (List.Mem.tail _ (List.Mem.tail _ (List.Mem.tail _ (List.Mem.tail _ (List.Mem.head _))))))) h | exact fun w h => Hd.rowF (by first | exact (List.Mem.head _) | exact (List.Mem.tail _ (List.Mem.head _)) | exact (List.Mem.tail _ (List.Mem.tail _ (List.Mem.head _))) | exact (List.Mem.tail _ (List.Mem.tail _ (List.Mem.tail _ (List.Mem.head _)))) | exact (List.Mem.tail _ (List.Mem.tail _ (List.Mem.tail _ (List.Mem.tail _ (List.Mem.head _))))) | exact (List.Mem.tail _ (List.Mem.tail _ (List.Mem.tail _ (List.Mem.tail _ (List.Mem.tail _ (List.Mem.head _))))))) h))); done) ?_
      refine XS.a (by rfl) (by (repeat (first | exact Lft.nil | (apply Lft.drop; · rfl) | apply Lft.keep)); done) ?_
      refine XL.appendS (e := 27) (size := 8) (us := NdM.cells x) (xs' := ndC (l ++ [x])) (by rfl) (by rfl) (by rfl) (by rfl) (by rfl) (by rfl) (by rfl) (by repeat (first | exact Sel.here | apply Sel.there)) (by repeat (first | exact Sel.here | apply Sel.there)) ⟨_, (by repeat (first | exact Sel.here | apply Sel.there))⟩ (by rfl) (Nat.le_refl _) rfl rfl (by rfl) (by omega) rfl (ndC_app l x) (fun v' => ?_)
      refine XL.ex (fun w h => h.sliced (e := 27) (size := 8) (by repeat (first | exact Sel.here | apply Sel.there))) ?_
      rintro ⟨ua', uc'⟩
      refine XL.pureW (fun ev => ?_)
      dsimp only at ev
      subst ev
      refine XL.nil ?_
      refine XQ.anS (by (repeat (first | exact heldNil | refine heldCons ?_ ?_ | exact fun w h => h.cell (by first | exact Sel.here | exact (Sel.there Sel.here) | exact (Sel.there (Sel.there Sel.here)) | exact (Sel.there (Sel.there (Sel.there Sel.here))) | exact (Sel.there (Sel.there (Sel.there (Sel.there Sel.here)))) | exact (Sel.there (Sel.there (Sel.there (Sel.there (Sel.there Sel.here))))) | exact (Sel.there (Sel.there (Sel.there (Sel.there (Sel.there (Sel.there Sel.here)))))) | exact (Sel.there (Sel.there (Sel.there (Sel.there (Sel.there (Sel.there (Sel.there Sel.here))))))) | exact (Sel.there (Sel.there (Sel.there (Sel.there (Sel.there (Sel.there (Sel.there (Sel.there Sel.here))))))))) (by rfl) | exact fun w h => h.cells (by first | exact Sel.here | exact (Sel.there Sel.here) | exact (Sel.there (Sel.there Sel.here)) | exact (Sel.there (Sel.there (Sel.there Sel.here))) | exact (Sel.there (Sel.there (Sel.there (Sel.there Sel.here)))) | exact (Sel.there (Sel.there (Sel.there (Sel.there (Sel.there Sel.here))))) | exact (Sel.there (Sel.there (Sel.there (Sel.there (Sel.there (Sel.there Sel.here)))))) | exact (Sel.there (Sel.there (Sel.there (Sel.there (Sel.there (Sel.there (Sel.there Sel.here))))))) | exact (Sel.there (Sel.there (Sel.there (Sel.there (Sel.there (Sel.there (Sel.there (Sel.there Sel.here))))))))) (by rfl) | refine (by first | exact fun w h => St.row (by first | exact Sel.here | exact (Sel.there Sel.here) | exact (Sel.there (Sel.there Sel.here)) | exact (Sel.there (Sel.there (Sel.there Sel.here))) | exact (Sel.there (Sel.there (Sel.there (Sel.there Sel.here)))) | exact (Sel.there (Sel.there (Sel.there (Sel.there (Sel.there Sel.here))))) | exact (Sel.there (Sel.there (Sel.there (Sel.there (Sel.there (Sel.there Sel.here)))))) | exact (Sel.there (Sel.there (Sel.there (Sel.there (Sel.there (Sel.there (Sel.there Sel.here))))))) | exact (Sel.there (Sel.there (Sel.there (Sel.there (Sel.there (Sel.there (Sel.there (Sel.there Sel.here))))))))) h | exact fun w h => St.rowF (by first | exact (List.Mem.head _) | exact (List.Mem.tail _ (List.Mem.head _)) | exact (List.Mem.tail _ (List.Mem.tail _ (List.Mem.head _))) | exact (List.Mem.tail _ (List.Mem.tail _ (List.Mem.tail _ (List.Mem.head _)))) | exact (List.Mem.tail _ (List.Mem.tail _ (List.Mem.tail _ (List.Mem.tail _ (List.Mem.head _))))) | exact (List.Mem.tail _ (List.Mem.tail _ (List.Mem.tail _ (List.Mem.tail _ (List.Mem.tail _ (List.Mem.head _))))))) h | exact fun w h => Hd.rowF (by first | exact (List.Mem.head _) | exact (List.Mem.tail _ (List.Mem.head _)) | exact (List.Mem.tail _ (List.Mem.tail _ (List.Mem.head _))) | exact (List.Mem.tail _ (List.Mem.tail _ (List.Mem.tail _ (List.Mem.head _)))) | exact (List.Mem.tail _ (List.Mem.tail _ (List.Mem.tail _ (List.Mem.tail _ (List.Mem.head _))))) | exact (List.Mem.tail _ (List.Mem.tail _ (List.Mem.tail _ (List.Mem.tail _ (List.Mem.tail _ (List.Mem.head _))))))) h))); done) ?_
      refine XS.faK rfl rfl rfl (by repeat (first | exact PFd.bodyP (by decide) | apply PFd.sq | apply PFd.rd | apply PFd.block)) rfl rfl rfl rfl ?_
      refine XS.a (by rfl) (by (repeat (first | exact Lft.nil | (apply Lft.drop; · rfl) | apply Lft.keep)); done) ?_
      repeat' (first
        | refine XStep ?_
        | refine Fa.mk fun b => ?_
        | refine Fb.mk fun b2 => ?_
        | refine Fz.mk fun z => ?_
        | (refine Gd.mk (fun h => ?_) (fun h => ?_) <;> try (first | (exfalso; omega) | exact absurd rfl h | (exfalso; simp at h <;> omega)))
        | refine Ands.mk ?_ ?_
        | (refine XC.is ?_; refine W110 ?_; refine XC.planG (by kernel_rfl) (fun _ m h => h.drewn m) ?_; (conv => arg 5; reduce); refine XG0.of ?_; (conv => arg 5; reduce); (conv => arg 6; reduce); refine XG.go (by decide +kernel) ?_))
      have e2 : (l ++ [x]).length = l.length + 1 := by simp
      refine XQ.round (f, k, (ua', uc'), l ++ [x]) (by (repeat (first | exact fits_nil | refine fits_cons (by rfl) ?_)); done) (fun w hw => ⟨⟨by dsimp only; omega, by dsimp only; omega, by dsimp only; omega, by rw [h4, nds_app]; simp [PM.bind, hx]⟩, ?_⟩) (by dsimp only; omega)
      dsimp only
      rw [e2]
      exact (hw.ndsApp (l := l) (x := x) (by repeat (first | exact List.Mem.head _ | apply List.Mem.tail)) (by repeat (first | exact List.Mem.head _ | apply List.Mem.tail))).less (by (repeat' (first | exact Sels.nil | exact Sel.here | apply Sels.cons | apply Sel.there)); done) (by (repeat (first | exact sub0 | refine subC (by repeat (first | exact List.Mem.head _ | apply List.Mem.tail)) ?_)); done)
    · rw [if_neg (show ¬ j < (Src.mk T s.length).T.length from hlt)] at h4
      have hok := unit_ok hk h4
      have hp : parseA s = if 250 < depthL 250 (.mk 23 (tx []) 0 .nil (NdM.nds l)) then (.nil, 0, 4) else (.mk 23 (tx []) 0 .nil (NdM.nds l), 0, 0) := by
        simp only [parseA, ← hr, parseT, h4]
      repeat' (first
        | refine W100 ?_
        | refine W103 ?_
        | refine W101 ?_
        | refine W112 ?_
        | refine W116 ?_
        | refine W1 ?_
        | (refine W2 (fun h => ?_) (fun h => ?_) <;> try (first | (exfalso; omega) | exact absurd rfl h | (exfalso; simp at h <;> omega)))
        | refine W3 ?_
        | refine W33 ?_
        | refine XL.pure 1 (by rfl) ?_
        | refine W13 ?_
        | refine W5 ?_
        | refine W14 ?_
        | refine W18 ?_
        | refine W6 ?_
        | refine W24 ?_
        | refine W27 ?_
        | refine W19 ?_
        | refine W20 ?_
        | refine W15 ?_
        | refine W7 ?_
        | refine W28 ?_
        | refine W30 ?_
        | refine W35 ?_
        | refine W36 ?_
        | refine W37 ?_
        | refine W38 ?_
        | refine W39 ?_
        | refine W40 ?_
        | refine W31 ?_
        | refine W32 ?_
        | refine W41 ?_
        | refine W42 ?_
        | refine W43 ?_
        | refine W44 ?_
        | refine W45 ?_
        | refine W46 ?_
        | refine W47 ?_
        | refine W8 ?_
        | refine W21 ?_
        | refine W22 ?_
        | refine W16 ?_
        | refine W9 ?_
        | refine W10 ?_
        | refine W48 ?_
        | (refine W49 (fun b => ?_))
        | (refine W50 (fun b => ?_))
        | (refine W51 (fun b => ?_))
        | refine W25 ?_)
      refine XC.cond_d (by rfl) (fun h => absurd (by exact_mod_cast h) hlt) (fun _ => ?_)
      refine XC.exit ?_
      repeat' (first
        | refine XStep ?_
        | refine Fa.mk fun b => ?_
        | refine Fb.mk fun b2 => ?_
        | refine Fz.mk fun z => ?_
        | (refine Gd.mk (fun h => ?_) (fun h => ?_) <;> try (first | (exfalso; omega) | exact absurd rfl h | (exfalso; simp at h <;> omega)))
        | refine Ands.mk ?_ ?_
        | (refine XC.is ?_; refine W110 ?_; refine XC.planG (by kernel_rfl) (fun _ m h => h.drewn m) ?_; (conv => arg 5; reduce); refine XG0.of ?_; (conv => arg 5; reduce); (conv => arg 6; reduce); refine XG.go (by decide +kernel) ?_))
      refine XL.conv (fun w h => (((h.rowFreeze (e := 27) (size := 8) (xs := ndC l) (by repeat (first | exact Sel.here | apply Sel.there))).nilTy).ndMk (k := 23) (n := 0) (s := tx []) (t := TyM.nil) (l := l) (.tail _ (.head _)) (.head _) (by repeat (first | exact List.Mem.head _ | apply List.Mem.tail)))) ?_
      repeat' (first
        | refine XStep ?_
        | refine Fa.mk fun b => ?_
        | refine Fb.mk fun b2 => ?_
        | refine Fz.mk fun z => ?_
        | (refine Gd.mk (fun h => ?_) (fun h => ?_) <;> try (first | (exfalso; omega) | exact absurd rfl h | (exfalso; simp at h <;> omega)))
        | refine Ands.mk ?_ ?_
        | (refine XC.is ?_; refine W110 ?_; refine XC.planG (by kernel_rfl) (fun _ m h => h.drewn m) ?_; (conv => arg 5; reduce); refine XG0.of ?_; (conv => arg 5; reduce); (conv => arg 6; reduce); refine XG.go (by decide +kernel) ?_))
      refine XL.triq (Depth_tri (B := 30000) (by decide) (x := .mk 23 (tx []) 0 TyM.nil ua l.length uc l) hok) (by rfl) (by rfl) (by rfl) (by rfl) (by rfl) (by rfl) (by rfl) (by (repeat' (first | exact Sels.nil | exact Sel.here | apply Sels.cons | apply Sel.there)); done) (by (repeat' (first | exact Sels.nil | exact Sel.here | apply Sels.cons | apply Sel.there)); done) (by (repeat (first | exact sub0 | refine subC (by repeat (first | exact List.Mem.head _ | apply List.Mem.tail)) ?_)); done) ?_
      repeat' (first
        | refine XStep ?_
        | refine Fa.mk fun b => ?_
        | refine Fb.mk fun b2 => ?_
        | refine Fz.mk fun z => ?_
        | (refine Gd.mk (fun h => ?_) (fun h => ?_) <;> try (first | (exfalso; omega) | exact absurd rfl h | (exfalso; simp at h <;> omega)))
        | refine Ands.mk ?_ ?_
        | (refine XC.is ?_; refine W110 ?_; refine XC.planG (by kernel_rfl) (fun _ m h => h.drewn m) ?_; (conv => arg 5; reduce); refine XG0.of ?_; (conv => arg 5; reduce); (conv => arg 6; reduce); refine XG.go (by decide +kernel) ?_))
      · rw [if_pos (by rename_i h; exact_mod_cast h)] at hp
        refine XQ.leaveRet (catch0_tri (b2 := c2) (b3 := c3) (b4 := c4) (x := nilN) (t0 := 0) (k0 := 4)) (by (repeat' (first | exact Sels.nil | exact Sel.here | apply Sels.cons | apply Sel.there)); done) (by (repeat (first | exact sub0 | refine subC (by repeat (first | exact List.Mem.head _ | apply List.Mem.tail)) ?_)); done) (run_invoke rfl) (fun tmps w' hs hA => ?_)
        have hA2 := hA.nilTy.ndLeaf 0 0 (tx []) TyM.nil (.head _)
        exact leaves3 rfl (hs 2 _ rfl) (hs 3 _ rfl) (hs 4 _ rfl) rfl rfl rfl rfl hA2 (by repeat (first | exact Sel.here | apply Sel.there)) (by repeat (first | exact Sel.here | apply Sel.there)) (by repeat (first | exact Sel.here | apply Sel.there)) rfl ⟨(nilN, 0, 4), by simp [hp, NdM.nd, NdM.nds, TyM.ty, TyM.tys], rfl, rfl, rfl⟩ (by (repeat' (first | exact Sels.nil | exact Sel.here | apply Sels.cons | apply Sel.there)); done) (by (repeat (first | exact sub0 | refine subC (by repeat (first | exact List.Mem.head _ | apply List.Mem.tail)) ?_)); done)
      · rw [if_neg (by rename_i h; exact_mod_cast h)] at hp
        refine XQ.leaveRet (catch0_tri (b2 := c2) (b3 := c3) (b4 := c4) (x := .mk 23 (tx []) 0 TyM.nil ua l.length uc l) (t0 := 0) (k0 := 0)) (by (repeat' (first | exact Sels.nil | exact Sel.here | apply Sels.cons | apply Sel.there)); done) (by (repeat (first | exact sub0 | refine subC (by repeat (first | exact List.Mem.head _ | apply List.Mem.tail)) ?_)); done) (run_invoke rfl) (fun tmps w' hs hA => ?_)
        exact leaves3 rfl (hs 2 _ rfl) (hs 3 _ rfl) (hs 4 _ rfl) rfl rfl rfl rfl hA (by repeat (first | exact Sel.here | apply Sel.there)) (by repeat (first | exact Sel.here | apply Sel.there)) (by repeat (first | exact Sel.here | apply Sel.there)) rfl ⟨(.mk 23 (tx []) 0 TyM.nil ua l.length uc l, 0, 0), by simp [hp, NdM.nd, NdM.nds, TyM.ty, TyM.tys], rfl, rfl, rfl⟩ (by (repeat' (first | exact Sels.nil | exact Sel.here | apply Sels.cons | apply Sel.there)); done) (by (repeat (first | exact sub0 | refine subC (by repeat (first | exact List.Mem.head _ | apply List.Mem.tail)) ?_)); done)
end Go.Proofs.Ytjnineeeffecaaa
