/- The parser's functions and items. -/
import Derived.Test.YtjnineeeffecaaaP12
namespace Go.Proofs.Ytjnineeeffecaaa
open Go X
set_option maxRecDepth 100000
set_option maxHeartbeats 4000000
attribute [local irreducible] XC XL XQ Tri blk Shows Sq Rd Mt inBlockX XS XG XG0 TkS AnS rowO tyFP tysFP ndFP ndsFP Row.fp FP.all
theorem nds_t : ∀ l : List NdM, TyM.tys (l.map NdM.t) = (NdM.nds l).map Nd.t
  | [] => rfl
  | x :: l => by
    have := nds_t l
    cases x
    simp only [List.map_cons, NdM.nds, TyM.tys, this]
    rfl
theorem X.St.fnMk {c : Cx} {L L1 L2 : List SP} {Φ : List FP} {w : World} {m : TyM} {l : List NdM} {y : NdM} {va ua : Option Addr} {vc uc : Nat} (s : ByteArray) (h : St c L Φ w) (h1 : tyFP m ∈ Φ) (h2 : ndsFP l ∈ Φ) (h3 : ndFP y ∈ Φ)
    (s1 : Sel L (rowO 24 4 (.slice va (m :: l.map NdM.t).length vc) (m :: l.map NdM.t).length (tyC (m :: l.map NdM.t))) L1) (s2 : Sel L1 (rowO 27 8 (.slice ua (l.length + 1) uc) (l.length + 1) (ndC l ++ y.cells)) L2) :
    St c L2 (ndFP (.mk 22 s 0 (.mk 9 0 (tx []) va (m :: l.map NdM.t).length vc (m :: l.map NdM.t)) ua (l.length + 1) uc (l ++ [y])) :: Φ) w := by
  have e2 : (l ++ [y]).length = l.length + 1 := by simp
  rw [ndC_app] at s2
  have a1 := h.rowFreeze (e := 24) (size := 4) s1
  have a2 := a1.rowFreeze (e := 27) (size := 8) s2
  have a3 := a2.ndsTys (l := l) (.tail _ (.tail _ h2))
  have a4 := a3.tysCons (m := m) (l := l.map NdM.t) (.tail _ (.tail _ (.tail _ h1))) (.head _)
  have a5 := a4.tyMk (k := 9) (n := 0) (s := tx []) (l := m :: l.map NdM.t) (.tail _ (.tail _ (.tail _ (.head _)))) (.head _)
  have a6 := a5.ndsApp (l := l) (x := y) (.tail _ (.tail _ (.tail _ (.tail _ (.tail _ h2))))) (.tail _ (.tail _ (.tail _ (.tail _ (.tail _ h3)))))
  have a7 := a6.ndMk (k := 22) (n := 0) (s := s) (t := .mk 9 0 (tx []) va (m :: l.map NdM.t).length vc (m :: l.map NdM.t)) (a := ua) (m := l.length + 1) (cp := uc) (l := l ++ [y]) (by rw [e2]; exact (.tail _ (.tail _ (.tail _ (.tail _ (.head _)))))) (.tail _ (.head _)) (.head _)
  exact a7.forget (fun φ hφ => by
    rcases List.mem_cons.1 hφ with rfl | h
    · exact .head _
    · exact .tail _ (.tail _ (.tail _ (.tail _ (.tail _ (.tail _ (.tail _ h)))))))
theorem fn_tri (hW : WrapT) {S : Src} (hS : S.T.length ≤ 20000) {lv : Value} {pb d i : Nat} {ask : PM Ty} {st : PM Nd} {m : TyM} (hi : i ≤ S.T.length)
    (hask : ∀ j, j ≤ S.T.length → Tri Try.prog 68 [.pointer (some ⟨pb, 0, none⟩)] [pB S lv pb j d] [tkF S lv] (TyR S lv pb d j ask))
    (hst : ∀ j, j ≤ S.T.length → Tri Try.prog 52 [.pointer (some ⟨pb, 0, none⟩)] [pB S lv pb j d] [tkF S lv] (NdR S lv pb d j st)) :
    Tri Try.prog 29 [.pointer (some ⟨pb, 0, none⟩), m.v] [pB S lv pb i d] [tkF S lv, tyFP m] (NdR S lv pb d i (fnB S ask st m.ty)) := by
  refine Tri.of Try.func29 rfl fun c => ?_
  repeat' (first
    | refine XStep ?_
    | refine Fa.mk fun b => ?_
    | refine Fb.mk fun b2 => ?_
    | refine Fz.mk fun z => ?_
    | (refine Gd.mk (fun h => ?_) (fun h => ?_) <;> try (first | (exfalso; omega) | exact absurd rfl h | (exfalso; simp at h <;> omega)))
    | refine Ands.mk ?_ ?_
    | (refine XC.is ?_; refine W110 ?_; refine XC.planG (by kernel_rfl) (fun _ m h => h.drewn m) ?_; (conv => arg 5; reduce); refine XG0.of ?_; (conv => arg 5; reduce); (conv => arg 6; reduce); refine XG.go (by decide +kernel) ?_))
  all_goals
    refine XL.trip (name_tri hS (i := i) (by omega)) (by rfl) (by rfl) (by rfl) (by rfl) (by rfl) (by rfl) (by rfl) (by (repeat' (first | exact Sels.nil | exact Sel.here | apply Sels.cons | apply Sel.there)); done) (by (repeat (first | exact sub0 | refine subC (by repeat (first | exact List.Mem.head _ | apply List.Mem.tail)) ?_)); done) ?_ ?_
    rotate_left
    · rintro ⟨t1, k1, i1⟩ hb
      dsimp only at hb
      (repeat (first | refine XQ.sqP ?_ | refine XQ.rdP ?_ | refine XQ.mtP ?_ | refine XQ.blockP ?_ | refine XQ.anSP ?_))
      exact XQ.rpBad (by (repeat' (first | exact Sels.nil | exact Sel.here | apply Sels.cons | apply Sel.there)); done) (by simp [PM.bind, PM.pure, hb, fnB])
    rintro ⟨s, j⟩ ⟨hs, hs', hs''⟩
    dsimp only at hs hs' hs''
    conv => arg 9; dsimp only [List.cons_append, List.nil_append]
    try conv => arg 7; dsimp only
    repeat' (first
      | refine XStep ?_
      | refine Fa.mk fun b => ?_
      | refine Fb.mk fun b2 => ?_
      | refine Fz.mk fun z => ?_
      | (refine Gd.mk (fun h => ?_) (fun h => ?_) <;> try (first | (exfalso; omega) | exact absurd rfl h | (exfalso; simp at h <;> omega)))
      | refine Ands.mk ?_ ?_
      | (refine XC.is ?_; refine W110 ?_; refine XC.planG (by kernel_rfl) (fun _ m h => h.drewn m) ?_; (conv => arg 5; reduce); refine XG0.of ?_; (conv => arg 5; reduce); (conv => arg 6; reduce); refine XG.go (by decide +kernel) ?_))
    all_goals
      rename_i bp bm br
      refine XL.conv (fun w h => ((((h.celRow (b := b2) (e := 24) (m := 1) (size := 4) (cs := tyC [m]) (by repeat (first | exact Sel.here | apply Sel.there)) rfl (by decide)).nilRow 27 8).ndsNil).fnShut (pb := pb) (bt := b) (bp := bp) (s := s) (m := m) (l := []) (by (repeat' (first | exact Sels.nil | exact Sel.here | apply Sels.cons | apply Sel.there)); done) (by decide))) ?_
      refine XL.trip (list_tri (α := Nd) (f := 50) (fs := []) (cap := [.pointer (some ⟨bp, 0, none⟩), .pointer (some ⟨b, 0, none⟩)]) (abs := fun g : (Value × Value) × List NdM => NdM.nds g.2) (K := fnK pb b bp s m) (KΦ := fun g => ndsFP g.2) (one := (base S).bind (declB S ask)) (i := j) hS (by rfl) (by omega) (fun g j hj hl => fn1_tri hW hS hask g j hj hl) (g0 := ((.slice (some ⟨b2, 0, none⟩) 1 1, .slice none 0 0), [])) rfl) (by rfl) (by rfl) (by rfl) (by rfl) (by rfl) (by rfl) (by rfl) (by (repeat' (first | exact Sels.nil | exact Sel.here | apply Sels.cons | apply Sel.there)); done) (by (repeat (first | exact sub0 | refine subC (by repeat (first | exact List.Mem.head _ | apply List.Mem.tail)) ?_)); done) ?_ ?_
      rotate_left
      · rintro ⟨t1, k1, i1⟩ hb
        dsimp only at hb
        (repeat (first | refine XQ.sqP ?_ | refine XQ.rdP ?_ | refine XQ.mtP ?_ | refine XQ.blockP ?_ | refine XQ.anSP ?_))
        exact XQ.rpBad (by (repeat' (first | exact Sels.nil | exact Sel.here | apply Sels.cons | apply Sel.there)); done) (by simp [PM.bind, PM.pure, hb, fnB, hs])
      rintro ⟨x, k⟩ ⟨hx, hx', hx''⟩
      dsimp only at hx hx' hx''
      conv => arg 9; dsimp only [List.cons_append, List.nil_append]
      try conv => arg 7; dsimp only
      refine XL.ex (fun w h => St.open_ h (by repeat (first | exact Sel.here | apply Sel.there))) fun _ => XL.pureW fun h7 => ?_
      obtain ⟨⟨v, u⟩, l⟩ := x
      dsimp only at h7 hx ⊢
      refine XL.ex (fun w h => h.sliced (e := 24) (size := 4) (by repeat (first | exact Sel.here | apply Sel.there))) ?_
      rintro ⟨va, vc⟩
      refine XL.pureW (fun ev => ?_)
      refine XL.ex (fun w h => h.sliced (e := 27) (size := 8) (by repeat (first | exact Sel.here | apply Sel.there))) ?_
      rintro ⟨ua, uc⟩
      refine XL.pureW (fun eu => ?_)
      dsimp only at ev eu
      subst ev eu
      conv => arg 9; dsimp only [List.cons_append, List.nil_append]
      try conv => arg 7; dsimp only
      repeat' (first
        | refine XStep ?_
        | refine Fa.mk fun b => ?_
        | refine Fb.mk fun b2 => ?_
        | refine Fz.mk fun z => ?_
        | (refine Gd.mk (fun h => ?_) (fun h => ?_) <;> try (first | (exfalso; omega) | exact absurd rfl h | (exfalso; simp at h <;> omega)))
        | refine Ands.mk ?_ ?_
        | (refine XC.is ?_; refine W110 ?_; refine XC.planG (by kernel_rfl) (fun _ m h => h.drewn m) ?_; (conv => arg 5; reduce); refine XG0.of ?_; (conv => arg 5; reduce); (conv => arg 6; reduce); refine XG.go (by decide +kernel) ?_))
      refine XL.conv (fun w h => h.celFreeze (m := List.length ([tx [123]])) (cap := List.length ([tx [123]])) (size := 1) (cs := strs ([tx [123]])) .here rfl (Nat.le_refl _)) ?_
      refine XL.triq (is_tri (ts := [tx [123]]) (i := k) hS (by omega) (of_decide_eq_true rfl)) (by rfl) (by rfl) (by rfl) (by rfl) (by rfl) (by rfl) (by rfl) (by (repeat' (first | exact Sels.nil | exact Sel.here | apply Sels.cons | apply Sel.there)); done) (by (repeat' (first | exact Sels.nil | exact Sel.here | apply Sels.cons | apply Sel.there)); done) (by (repeat (first | exact sub0 | refine subC (by repeat (first | exact List.Mem.head _ | apply List.Mem.tail)) ?_)); done) ?_
      obtain ⟨q, hq⟩ : ∃ q, isB S ([tx [123]]) (k) = q := ⟨_, rfl⟩
      rw [hq]
      cases q
      · repeat' (first
          | refine XStep ?_
          | refine Fa.mk fun b => ?_
          | refine Fb.mk fun b2 => ?_
          | refine Fz.mk fun z => ?_
          | (refine Gd.mk (fun h => ?_) (fun h => ?_) <;> try (first | (exfalso; omega) | exact absurd rfl h | (exfalso; simp at h <;> omega)))
          | refine Ands.mk ?_ ?_
          | (refine XC.is ?_; refine W110 ?_; refine XC.planG (by kernel_rfl) (fun _ m h => h.drewn m) ?_; (conv => arg 5; reduce); refine XG0.of ?_; (conv => arg 5; reduce); (conv => arg 6; reduce); refine XG.go (by decide +kernel) ?_))
        refine XL.trig (give_tri (i := k) hS (by omega)) (by rfl) (by rfl) (by rfl) (by rfl) (by rfl) (by rfl) (by rfl) (by (repeat' (first | exact Sels.nil | exact Sel.here | apply Sels.cons | apply Sel.there)); done) (by (repeat (first | exact sub0 | refine subC (by repeat (first | exact List.Mem.head _ | apply List.Mem.tail)) ?_)); done) ?_
        (repeat (first | refine XQ.sqP ?_ | refine XQ.rdP ?_ | refine XQ.mtP ?_ | refine XQ.blockP ?_ | refine XQ.anSP ?_))
        exact XQ.rpBad (by (repeat' (first | exact Sels.nil | exact Sel.here | apply Sels.cons | apply Sel.there)); done) (by simp [fnB, PM.bind, hs, hx, hq])
      · repeat' (first
          | refine XStep ?_
          | refine Fa.mk fun b => ?_
          | refine Fb.mk fun b2 => ?_
          | refine Fz.mk fun z => ?_
          | (refine Gd.mk (fun h => ?_) (fun h => ?_) <;> try (first | (exfalso; omega) | exact absurd rfl h | (exfalso; simp at h <;> omega)))
          | refine Ands.mk ?_ ?_
          | (refine XC.is ?_; refine W110 ?_; refine XC.planG (by kernel_rfl) (fun _ m h => h.drewn m) ?_; (conv => arg 5; reduce); refine XG0.of ?_; (conv => arg 5; reduce); (conv => arg 6; reduce); refine XG.go (by decide +kernel) ?_))
        all_goals
          refine XL.trip (hst k (by omega)) (by rfl) (by rfl) (by rfl) (by rfl) (by rfl) (by rfl) (by rfl) (by (repeat' (first | exact Sels.nil | exact Sel.here | apply Sels.cons | apply Sel.there)); done) (by (repeat (first | exact sub0 | refine subC (by repeat (first | exact List.Mem.head _ | apply List.Mem.tail)) ?_)); done) ?_ ?_
          rotate_left
          · rintro ⟨t1, k1, i1⟩ hb
            dsimp only at hb
            (repeat (first | refine XQ.sqP ?_ | refine XQ.rdP ?_ | refine XQ.mtP ?_ | refine XQ.blockP ?_ | refine XQ.anSP ?_))
            exact XQ.rpBad (by (repeat' (first | exact Sels.nil | exact Sel.here | apply Sels.cons | apply Sel.there)); done) (by simp [PM.bind, PM.pure, hb, fnB, hs, hx, hq])
          rintro ⟨y, k2⟩ ⟨hy, hy', hy''⟩
          dsimp only at hy hy' hy''
          conv => arg 9; dsimp only [List.cons_append, List.nil_append]
          try conv => arg 7; dsimp only
          repeat' (first
            | refine XStep ?_
            | refine Fa.mk fun b => ?_
            | refine Fb.mk fun b2 => ?_
            | refine Fz.mk fun z => ?_
            | (refine Gd.mk (fun h => ?_) (fun h => ?_) <;> try (first | (exfalso; omega) | exact absurd rfl h | (exfalso; simp at h <;> omega)))
            | refine Ands.mk ?_ ?_
            | (refine XC.is ?_; refine W110 ?_; refine XC.planG (by kernel_rfl) (fun _ m h => h.drewn m) ?_; (conv => arg 5; reduce); refine XG0.of ?_; (conv => arg 5; reduce); (conv => arg 6; reduce); refine XG.go (by decide +kernel) ?_))
          refine XL.appendS (e := 27) (size := 8) (m := l.length) (by rfl) (by rfl) (by rfl) (by rfl) (by rfl) (by rfl) (by rfl) (by repeat (first | exact Sel.here | apply Sel.there)) (by repeat (first | exact Sel.here | apply Sel.there)) ⟨_, (by repeat (first | exact Sel.here | apply Sel.there))⟩ (by rfl) (Nat.le_refl _) rfl rfl (by rfl) (by omega) rfl rfl (fun v' => ?_)
          refine XL.ex (fun w h => h.sliced (e := 27) (size := 8) (by repeat (first | exact Sel.here | apply Sel.there))) ?_
          rintro ⟨ua', uc'⟩
          refine XL.pureW (fun ev => ?_)
          dsimp only at ev
          subst ev
          repeat' (first
            | refine XStep ?_
            | refine Fa.mk fun b => ?_
            | refine Fb.mk fun b2 => ?_
            | refine Fz.mk fun z => ?_
            | (refine Gd.mk (fun h => ?_) (fun h => ?_) <;> try (first | (exfalso; omega) | exact absurd rfl h | (exfalso; simp at h <;> omega)))
            | refine Ands.mk ?_ ?_
            | (refine XC.is ?_; refine W110 ?_; refine XC.planG (by kernel_rfl) (fun _ m h => h.drewn m) ?_; (conv => arg 5; reduce); refine XG0.of ?_; (conv => arg 5; reduce); (conv => arg 6; reduce); refine XG.go (by decide +kernel) ?_))
          all_goals
            refine XL.stsR (xs := ndC l) (by rfl) (by rfl) (by rfl) (by rfl) (by rfl) (by rfl) (by rfl) (by rfl) (by rfl) (by repeat (first | exact Sel.here | apply Sel.there)) (ndC_len l) (by rfl) ?_
            repeat' (first
              | refine XStep ?_
              | refine Fa.mk fun b => ?_
              | refine Fb.mk fun b2 => ?_
              | refine Fz.mk fun z => ?_
              | (refine Gd.mk (fun h => ?_) (fun h => ?_) <;> try (first | (exfalso; omega) | exact absurd rfl h | (exfalso; simp at h <;> omega)))
              | refine Ands.mk ?_ ?_
              | (refine XC.is ?_; refine W110 ?_; refine XC.planG (by kernel_rfl) (fun _ m h => h.drewn m) ?_; (conv => arg 5; reduce); refine XG0.of ?_; (conv => arg 5; reduce); (conv => arg 6; reduce); refine XG.go (by decide +kernel) ?_))
            refine XQ.conv (fun w h => h.fnMk (m := m) (l := l) (y := y) s (by repeat (first | exact List.Mem.head _ | apply List.Mem.tail)) (by repeat (first | exact List.Mem.head _ | apply List.Mem.tail)) (by repeat (first | exact List.Mem.head _ | apply List.Mem.tail)) (by repeat (first | exact Sel.here | apply Sel.there)) (by repeat (first | exact Sel.here | apply Sel.there))) ?_
            exact XQ.doneC (by rfl) (by rfl) (by rfl) (by rfl) (by repeat (first | exact Sel.here | apply Sel.there)) (by rfl) (RP.ok (x := .mk 22 s 0 (.mk 9 0 (tx []) va (m :: l.map NdM.t).length vc (m :: l.map NdM.t)) ua' (l.length + 1) uc' (l ++ [y])) (j := k2) ⟨by simp [fnB, PM.bind, PM.pure, hs, hx, hq, hy, NdM.nd, nds_app, TyM.ty, TyM.tys, nds_t], by omega, by omega⟩) (by (repeat' (first | exact Sels.nil | exact Sel.here | apply Sels.cons | apply Sel.there)); done) (by (repeat (first | exact sub0 | refine subC (by repeat (first | exact List.Mem.head _ | apply List.Mem.tail)) ?_)); done)
end Go.Proofs.Ytjnineeeffecaaa
