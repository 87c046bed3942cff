/- Law: two sources one behind the other have the items of both. -/
import Derived.Test.YtjnineeeffecaaaP27
import Derived.Test.YtjnineeeffecaaaP32
import Derived.Test.YtjnineeeffecaaaX51
namespace Go.Proofs.Ytjnineeeffecaaa
open Go X
set_option maxRecDepth 100000
set_option maxHeartbeats 4000000
theorem parseA_len {s : List UInt8} (h : (parseA s).2.2 = 0) : s.length ≤ 20000 := by
  unfold parseA at h
  cases hl : lexS s with
  | bad t k =>
    rw [hl] at h
    exact absurd h (lexS_bad hl).2.2
  | ok T => exact (lexS_lx hl).1
theorem ndC_app2 (l l2 : List NdM) : ndC (l ++ l2) = ndC l ++ ndC l2 := by simp [ndC]
theorem nds_app2 (l l2 : List NdM) : NdM.nds (l ++ l2) = NdM.nds l ++ NdM.nds l2 := by simp [NdM.nds_eq]
theorem ndC_ones (l : List NdM) : ∀ u ∈ ndC l, u.oneCell' = true := fun u hu => by
  have hu : u ∈ (l.map NdM.cells).flatten := by simpa [ndC] using hu
  obtain ⟨xs, hxs, hu⟩ := List.mem_flatten.1 hu
  obtain ⟨x, _, rfl⟩ := List.mem_map.1 hxs
  cases x with
  | mk k s n t a m cp l =>
    cases t
    simp only [NdM.cells, List.mem_cons, List.not_mem_nil, or_false] at hu
    rcases hu with rfl | rfl | rfl | rfl | rfl | rfl | rfl | rfl <;> rfl
theorem X.St.ndsApp2 {c : Cx} {L : List SP} {Φ : List FP} {w : World} {l l2 : List NdM} (h1 : ndsFP l ∈ Φ) (h2 : ndsFP l2 ∈ Φ) (h : St c L Φ w) : St c L (ndsFP (l ++ l2) :: Φ) w := h.many fun O hΦ φ hφ => by
  rw [NdM.fpsL_eq, List.flatMap_append, ← NdM.fpsL_eq, ← NdM.fpsL_eq] at hφ
  rcases List.mem_append.1 hφ with hφ | hφ
  · exact hΦ _ h1 φ hφ
  · exact hΦ _ h2 φ hφ
theorem X.St.ndMk2 {c : Cx} {L : List SP} {Φ : List FP} {w : World} {k n : Int} {s : ByteArray} {t : TyM} {a : Option Addr} {m cp q : Nat} {l : List NdM} (hq : l.length = q) (h1 : Row.fp 8 (.slice a m cp) q (ndC l) ∈ Φ) (h0 : tyFP t ∈ Φ) (h2 : ndsFP l ∈ Φ) (h : St c L Φ w) : St c L (ndFP (.mk k s n t a m cp l) :: Φ) w := by
  subst hq
  exact h.ndMk h1 h0 h2
attribute [local irreducible] XC XL XQ Tri blk Shows Sq Rd Mt inBlockX XS XG XG0 TkS AnS rowO tyFP tysFP ndFP ndsFP Row.fp FP.all
theorem items_tri (s t : List UInt8) : Tri Try.prog 6 [.string (tx s), .string (tx t)] [] [gF] fun e L Φ => e = .returned (.bool true) ∧ L = [] ∧ Φ = [] := by
  refine Tri.of Try.func6 rfl fun c => ?_
  repeat' (first
    | refine XStep ?_
    | refine Fa.mk fun b => ?_
    | refine Fb.mk fun b2 => ?_
    | refine Fz.mk fun z => ?_
    | (refine Gd.mk (fun h => ?_) (fun h => ?_) <;> try (first | (exfalso; omega) | exact absurd rfl h | (exfalso; simp at h <;> omega)))
    | refine Ands.mk ?_ ?_
    | (refine XC.is ?_; refine W110 ?_; refine XC.planG (by kernel_rfl) (fun _ m h => h.drewn m) ?_; (conv => arg 5; reduce); refine XG0.of ?_; (conv => arg 5; reduce); (conv => arg 6; reduce); refine XG.go (by decide +kernel) ?_))
  refine XL.triq (shown_tri) (by rfl) (by rfl) (by rfl) (by rfl) (by rfl) (by rfl) (by rfl) (by (repeat' (first | exact Sels.nil | exact Sel.here | apply Sels.cons | apply Sel.there)); done) (by (repeat' (first | exact Sels.nil | exact Sel.here | apply Sels.cons | apply Sel.there)); done) (by (repeat (first | exact sub0 | refine subC (by repeat (first | exact List.Mem.head _ | apply List.Mem.tail)) ?_)); done) ?_
  repeat' (first
    | refine XStep ?_
    | refine Fa.mk fun b => ?_
    | refine Fb.mk fun b2 => ?_
    | refine Fz.mk fun z => ?_
    | (refine Gd.mk (fun h => ?_) (fun h => ?_) <;> try (first | (exfalso; omega) | exact absurd rfl h | (exfalso; simp at h <;> omega)))
    | refine Ands.mk ?_ ?_
    | (refine XC.is ?_; refine W110 ?_; refine XC.planG (by kernel_rfl) (fun _ m h => h.drewn m) ?_; (conv => arg 5; reduce); refine XG0.of ?_; (conv => arg 5; reduce); (conv => arg 6; reduce); refine XG.go (by decide +kernel) ?_))
  refine XL.trir (parse_tri tokens_tri s) (by rfl) (by rfl) (by rfl) (by rfl) (by rfl) (by rfl) (by rfl) (by (repeat' (first | exact Sels.nil | exact Sel.here | apply Sels.cons | apply Sel.there)); done) (by (repeat (first | exact sub0 | refine subC (by repeat (first | exact List.Mem.head _ | apply List.Mem.tail)) ?_)); done) ?_
  rintro ⟨x, a, k⟩ hx
  dsimp only at hx
  conv => arg 9; dsimp only [List.cons_append, List.nil_append]
  try conv => arg 7; dsimp only
  repeat' (first
    | refine XStep ?_
    | refine Fa.mk fun b => ?_
    | refine Fb.mk fun b2 => ?_
    | refine Fz.mk fun z => ?_
    | (refine Gd.mk (fun h => ?_) (fun h => ?_) <;> try (first | (exfalso; omega) | exact absurd rfl h | (exfalso; simp at h <;> omega)))
    | refine Ands.mk ?_ ?_
    | (refine XC.is ?_; refine W110 ?_; refine XC.planG (by kernel_rfl) (fun _ m h => h.drewn m) ?_; (conv => arg 5; reduce); refine XG0.of ?_; (conv => arg 5; reduce); (conv => arg 6; reduce); refine XG.go (by decide +kernel) ?_))
  refine XL.trir (parse_tri tokens_tri t) (by rfl) (by rfl) (by rfl) (by rfl) (by rfl) (by rfl) (by rfl) (by (repeat' (first | exact Sels.nil | exact Sel.here | apply Sels.cons | apply Sel.there)); done) (by (repeat (first | exact sub0 | refine subC (by repeat (first | exact List.Mem.head _ | apply List.Mem.tail)) ?_)); done) ?_
  rintro ⟨y, a2, k2⟩ hy
  dsimp only at hy
  conv => arg 9; dsimp only [List.cons_append, List.nil_append]
  try conv => arg 7; dsimp only
  by_cases hk : k = 0
  · by_cases hk2 : k2 = 0
    · subst hk hk2
      have l1 := parseA_len (s := s) (by rw [← hx])
      have l2 := parseA_len (s := t) (by rw [← hy])
      repeat' (first
        | refine XStep ?_
        | refine Fa.mk fun b => ?_
        | refine Fb.mk fun b2 => ?_
        | refine Fz.mk fun z => ?_
        | (refine Gd.mk (fun h => ?_) (fun h => ?_) <;> try (first | (exfalso; omega) | exact absurd rfl h | (exfalso; simp at h <;> omega)))
        | refine Ands.mk ?_ ?_
        | (refine XC.is ?_; refine W110 ?_; refine XC.planG (by kernel_rfl) (fun _ m h => h.drewn m) ?_; (conv => arg 5; reduce); refine XG0.of ?_; (conv => arg 5; reduce); (conv => arg 6; reduce); refine XG.go (by decide +kernel) ?_))
      · refine XQ.done1 (by rfl) (by rfl) (⟨rfl, rfl, rfl⟩) (by (repeat' (first | exact Sels.nil | exact Sel.here | apply Sels.cons | apply Sel.there)); done) (by (repeat (first | exact sub0 | refine subC (by repeat (first | exact List.Mem.head _ | apply List.Mem.tail)) ?_)); done)
      have hz0 := parse_items hx.symm hy.symm (by omega)
      rw [nd_kids, nd_kids] at hz0
      refine XL.cat (a := s) (b := [10]) (by rfl) (by rfl) (by rfl) (by rfl) (by rfl) (by rfl) (by simp; omega) ?_
      repeat' (first
        | refine XStep ?_
        | refine Fa.mk fun b => ?_
        | refine Fb.mk fun b2 => ?_
        | refine Fz.mk fun z => ?_
        | (refine Gd.mk (fun h => ?_) (fun h => ?_) <;> try (first | (exfalso; omega) | exact absurd rfl h | (exfalso; simp at h <;> omega)))
        | refine Ands.mk ?_ ?_
        | (refine XC.is ?_; refine W110 ?_; refine XC.planG (by kernel_rfl) (fun _ m h => h.drewn m) ?_; (conv => arg 5; reduce); refine XG0.of ?_; (conv => arg 5; reduce); (conv => arg 6; reduce); refine XG.go (by decide +kernel) ?_))
      refine XL.cat (a := s ++ [10]) (b := t) (by rfl) (by rfl) (by rfl) (by rfl) (by rfl) (by rfl) (by simp; omega) ?_
      repeat' (first
        | refine XStep ?_
        | refine Fa.mk fun b => ?_
        | refine Fb.mk fun b2 => ?_
        | refine Fz.mk fun z => ?_
        | (refine Gd.mk (fun h => ?_) (fun h => ?_) <;> try (first | (exfalso; omega) | exact absurd rfl h | (exfalso; simp at h <;> omega)))
        | refine Ands.mk ?_ ?_
        | (refine XC.is ?_; refine W110 ?_; refine XC.planG (by kernel_rfl) (fun _ m h => h.drewn m) ?_; (conv => arg 5; reduce); refine XG0.of ?_; (conv => arg 5; reduce); (conv => arg 6; reduce); refine XG.go (by decide +kernel) ?_))
      refine XL.trir (parse_tri tokens_tri (s ++ [10] ++ t)) (by rfl) (by rfl) (by rfl) (by rfl) (by rfl) (by rfl) (by rfl) (by (repeat' (first | exact Sels.nil | exact Sel.here | apply Sels.cons | apply Sel.there)); done) (by (repeat (first | exact sub0 | refine subC (by repeat (first | exact List.Mem.head _ | apply List.Mem.tail)) ?_)); done) ?_
      rintro ⟨z, a3, k3⟩ hz
      rw [List.append_assoc, List.singleton_append, hz0] at hz
      obtain ⟨hz, h0⟩ := Prod.mk.inj hz
      cases h0
      have hok : z.nd.ok 30000 := by
        have := parseA_ok (s := s ++ 10 :: t)
        rw [hz0] at this
        rw [hz]
        exact (this.resolve_left fun h => h.1 rfl).2.1
      obtain ⟨lx, -, -⟩ := nd_ok (x := x) (by
        have := parseA_ok (s := s)
        rw [← hx] at this
        exact (this.resolve_left fun h => h.1 rfl).2.1)
      obtain ⟨ly, -, -⟩ := nd_ok (x := y) (by
        have := parseA_ok (s := t)
        rw [← hy] at this
        exact (this.resolve_left fun h => h.1 rfl).2.1)
      refine XL.conv (fun w h => (((h.ndRowF (x := x) (.tail _ (.tail _ (.head _)))).ndRowF (x := y) (.tail _ (.tail _ (.head _)))).ndKids (x := x) (.tail _ (.tail _ (.tail _ (.tail _ (.head _)))))).ndKids (x := y) (.tail _ (.tail _ (.tail _ (.tail _ (.head _)))))) ?_
      conv => arg 9; dsimp only [List.cons_append, List.nil_append]
      try conv => arg 7; dsimp only
      repeat' (first
        | refine XStep ?_
        | refine Fa.mk fun b => ?_
        | refine Fb.mk fun b2 => ?_
        | refine Fz.mk fun z => ?_
        | (refine Gd.mk (fun h => ?_) (fun h => ?_) <;> try (first | (exfalso; omega) | exact absurd rfl h | (exfalso; simp at h <;> omega)))
        | refine Ands.mk ?_ ?_
        | (refine XC.is ?_; refine W110 ?_; refine XC.planG (by kernel_rfl) (fun _ m h => h.drewn m) ?_; (conv => arg 5; reduce); refine XG0.of ?_; (conv => arg 5; reduce); (conv => arg 6; reduce); refine XG.go (by decide +kernel) ?_))
      · refine XL.conv (fun w h => h.celRow (e := 27) (m := 0) (size := 8) (b := b2) (cs := []) (by repeat (first | exact Sel.here | apply Sel.there)) rfl rfl) ?_
        have one : ∀ u ∈ ndC x.kids, u.oneCell' = true := ndC_ones _
        have two : ∀ u ∈ ndC y.kids, u.oneCell' = true := ndC_ones _
        refine XL.append (e := 27) (size := 8) (m := 0) (k0 := x.kids.length) (v := .slice (some ⟨b2, 0, none⟩) 0 0) (x := x.kv) (news := ndC x.kids) (xs := []) (by rfl) (by rfl) (by rfl) (by rfl) (by rfl) (by rfl) (by rfl) (by repeat (first | exact Sel.here | apply Sel.there)) (by rfl) ?_ one ?_ ?_ (fun v1 => ?_)
        · exact fun w h => St.rowF (.tail _ (.tail _ (.tail _ (.head _)))) h
        · exact rfl
        · omega
        refine XL.nil ?_
        repeat' (first
          | refine XStep ?_
          | refine Fa.mk fun b => ?_
          | refine Fb.mk fun b2 => ?_
          | refine Fz.mk fun z => ?_
          | (refine Gd.mk (fun h => ?_) (fun h => ?_) <;> try (first | (exfalso; omega) | exact absurd rfl h | (exfalso; simp at h <;> omega)))
          | refine Ands.mk ?_ ?_
          | (refine XC.is ?_; refine W110 ?_; refine XC.planG (by kernel_rfl) (fun _ m h => h.drewn m) ?_; (conv => arg 5; reduce); refine XG0.of ?_; (conv => arg 5; reduce); (conv => arg 6; reduce); refine XG.go (by decide +kernel) ?_))
        · refine XL.append (e := 27) (size := 8) (m := 0 + x.kids.length) (k0 := y.kids.length) (v := v1) (x := y.kv) (news := ndC y.kids) (xs := [] ++ ndC x.kids) (by rfl) (by rfl) (by rfl) (by rfl) (by rfl) (by rfl) (by rfl) (by repeat (first | exact Sel.here | apply Sel.there)) (by rfl) ?_ two ?_ ?_ (fun v2 => ?_)
          · exact fun w h => St.rowF (.tail _ (.tail _ (.head _))) h
          · exact rfl
          · omega
          rw [List.nil_append, ← ndC_app2, Nat.zero_add, ← List.length_append]
          refine XL.ex (fun w h => h.sliced (e := 27) (size := 8) (by repeat (first | exact Sel.here | apply Sel.there))) ?_
          rintro ⟨va, vc⟩
          refine XL.pureW (fun ev => ?_)
          dsimp only at ev
          subst ev
          repeat' (first
            | refine XStep ?_
            | refine Fa.mk fun b => ?_
            | refine Fb.mk fun b2 => ?_
            | refine Fz.mk fun z => ?_
            | (refine Gd.mk (fun h => ?_) (fun h => ?_) <;> try (first | (exfalso; omega) | exact absurd rfl h | (exfalso; simp at h <;> omega)))
            | refine Ands.mk ?_ ?_
            | (refine XC.is ?_; refine W110 ?_; refine XC.planG (by kernel_rfl) (fun _ m h => h.drewn m) ?_; (conv => arg 5; reduce); refine XG0.of ?_; (conv => arg 5; reduce); (conv => arg 6; reduce); refine XG.go (by decide +kernel) ?_))
          refine XL.conv (fun w h => (((h.rowFreeze (e := 27) (size := 8) (by repeat (first | exact Sel.here | apply Sel.there))).ndsApp2 (l := x.kids) (l2 := y.kids) (.tail _ (.tail _ (.head _))) (.tail _ (.head _))).nilTy).ndMk2 (k := 23) (n := 0) (s := tx []) (t := TyM.nil) (l := x.kids ++ y.kids) List.length_append (.tail _ (.tail _ (.head _))) (.head _) (.tail _ (.head _))) ?_
          refine XL.triq (Same_tri (x := z) (y := .mk 23 (tx []) 0 TyM.nil va (x.kids.length + y.kids.length) vc (x.kids ++ y.kids)) (hz.trans (by simp [NdM.nd, NdM.nds_eq, TyM.ty, TyM.tys])) hok) (by rfl) (by rfl) (by rfl) (by rfl) (by rfl) (by rfl) (by rfl) (by (repeat' (first | exact Sels.nil | exact Sel.here | apply Sels.cons | apply Sel.there)); done) (by (repeat' (first | exact Sels.nil | exact Sel.here | apply Sels.cons | apply Sel.there)); done) (by (repeat (first | exact sub0 | refine subC (by repeat (first | exact List.Mem.head _ | apply List.Mem.tail)) ?_)); done) ?_
          repeat' (first
            | refine XStep ?_
            | refine Fa.mk fun b => ?_
            | refine Fb.mk fun b2 => ?_
            | refine Fz.mk fun z => ?_
            | (refine Gd.mk (fun h => ?_) (fun h => ?_) <;> try (first | (exfalso; omega) | exact absurd rfl h | (exfalso; simp at h <;> omega)))
            | refine Ands.mk ?_ ?_
            | (refine XC.is ?_; refine W110 ?_; refine XC.planG (by kernel_rfl) (fun _ m h => h.drewn m) ?_; (conv => arg 5; reduce); refine XG0.of ?_; (conv => arg 5; reduce); (conv => arg 6; reduce); refine XG.go (by decide +kernel) ?_))
          refine XQ.done1 (by rfl) (by rfl) (⟨rfl, rfl, rfl⟩) (by (repeat' (first | exact Sels.nil | exact Sel.here | apply Sels.cons | apply Sel.there)); done) (by (repeat (first | exact sub0 | refine subC (by repeat (first | exact List.Mem.head _ | apply List.Mem.tail)) ?_)); done)
        · refine XL.append (e := 27) (size := 8) (m := 0 + x.kids.length) (k0 := y.kids.length) (v := v1) (x := y.kv) (news := ndC y.kids) (xs := [] ++ ndC x.kids) (by rfl) (by rfl) (by rfl) (by rfl) (by rfl) (by rfl) (by rfl) (by repeat (first | exact Sel.here | apply Sel.there)) (by rfl) ?_ two ?_ ?_ (fun v2 => ?_)
          · exact fun w h => St.rowF (.tail _ (.tail _ (.head _))) h
          · exact rfl
          · omega
          rw [List.nil_append, ← ndC_app2, Nat.zero_add, ← List.length_append]
          refine XL.ex (fun w h => h.sliced (e := 27) (size := 8) (by repeat (first | exact Sel.here | apply Sel.there))) ?_
          rintro ⟨va, vc⟩
          refine XL.pureW (fun ev => ?_)
          dsimp only at ev
          subst ev
          repeat' (first
            | refine XStep ?_
            | refine Fa.mk fun b => ?_
            | refine Fb.mk fun b2 => ?_
            | refine Fz.mk fun z => ?_
            | (refine Gd.mk (fun h => ?_) (fun h => ?_) <;> try (first | (exfalso; omega) | exact absurd rfl h | (exfalso; simp at h <;> omega)))
            | refine Ands.mk ?_ ?_
            | (refine XC.is ?_; refine W110 ?_; refine XC.planG (by kernel_rfl) (fun _ m h => h.drewn m) ?_; (conv => arg 5; reduce); refine XG0.of ?_; (conv => arg 5; reduce); (conv => arg 6; reduce); refine XG.go (by decide +kernel) ?_))
          refine XL.conv (fun w h => (((h.rowFreeze (e := 27) (size := 8) (by repeat (first | exact Sel.here | apply Sel.there))).ndsApp2 (l := x.kids) (l2 := y.kids) (.tail _ (.tail _ (.head _))) (.tail _ (.head _))).nilTy).ndMk2 (k := 23) (n := 0) (s := tx []) (t := TyM.nil) (l := x.kids ++ y.kids) List.length_append (.tail _ (.tail _ (.head _))) (.head _) (.tail _ (.head _))) ?_
          refine XL.triq (Same_tri (x := z) (y := .mk 23 (tx []) 0 TyM.nil va (x.kids.length + y.kids.length) vc (x.kids ++ y.kids)) (hz.trans (by simp [NdM.nd, NdM.nds_eq, TyM.ty, TyM.tys])) hok) (by rfl) (by rfl) (by rfl) (by rfl) (by rfl) (by rfl) (by rfl) (by (repeat' (first | exact Sels.nil | exact Sel.here | apply Sels.cons | apply Sel.there)); done) (by (repeat' (first | exact Sels.nil | exact Sel.here | apply Sels.cons | apply Sel.there)); done) (by (repeat (first | exact sub0 | refine subC (by repeat (first | exact List.Mem.head _ | apply List.Mem.tail)) ?_)); done) ?_
          repeat' (first
            | refine XStep ?_
            | refine Fa.mk fun b => ?_
            | refine Fb.mk fun b2 => ?_
            | refine Fz.mk fun z => ?_
            | (refine Gd.mk (fun h => ?_) (fun h => ?_) <;> try (first | (exfalso; omega) | exact absurd rfl h | (exfalso; simp at h <;> omega)))
            | refine Ands.mk ?_ ?_
            | (refine XC.is ?_; refine W110 ?_; refine XC.planG (by kernel_rfl) (fun _ m h => h.drewn m) ?_; (conv => arg 5; reduce); refine XG0.of ?_; (conv => arg 5; reduce); (conv => arg 6; reduce); refine XG.go (by decide +kernel) ?_))
          refine XQ.done1 (by rfl) (by rfl) (⟨rfl, rfl, rfl⟩) (by (repeat' (first | exact Sels.nil | exact Sel.here | apply Sels.cons | apply Sel.there)); done) (by (repeat (first | exact sub0 | refine subC (by repeat (first | exact List.Mem.head _ | apply List.Mem.tail)) ?_)); done)
      · refine XL.conv (fun w h => h.celRow (e := 27) (m := 0) (size := 8) (b := b2) (cs := []) (by repeat (first | exact Sel.here | apply Sel.there)) rfl rfl) ?_
        have one : ∀ u ∈ ndC x.kids, u.oneCell' = true := ndC_ones _
        have two : ∀ u ∈ ndC y.kids, u.oneCell' = true := ndC_ones _
        refine XL.append (e := 27) (size := 8) (m := 0) (k0 := x.kids.length) (v := .slice (some ⟨b2, 0, none⟩) 0 0) (x := x.kv) (news := ndC x.kids) (xs := []) (by rfl) (by rfl) (by rfl) (by rfl) (by rfl) (by rfl) (by rfl) (by repeat (first | exact Sel.here | apply Sel.there)) (by rfl) ?_ one ?_ ?_ (fun v1 => ?_)
        · exact fun w h => St.rowF (.tail _ (.tail _ (.tail _ (.head _)))) h
        · exact rfl
        · omega
        refine XL.nil ?_
        repeat' (first
          | refine XStep ?_
          | refine Fa.mk fun b => ?_
          | refine Fb.mk fun b2 => ?_
          | refine Fz.mk fun z => ?_
          | (refine Gd.mk (fun h => ?_) (fun h => ?_) <;> try (first | (exfalso; omega) | exact absurd rfl h | (exfalso; simp at h <;> omega)))
          | refine Ands.mk ?_ ?_
          | (refine XC.is ?_; refine W110 ?_; refine XC.planG (by kernel_rfl) (fun _ m h => h.drewn m) ?_; (conv => arg 5; reduce); refine XG0.of ?_; (conv => arg 5; reduce); (conv => arg 6; reduce); refine XG.go (by decide +kernel) ?_))
        refine XL.append (e := 27) (size := 8) (m := 0 + x.kids.length) (k0 := y.kids.length) (v := v1) (x := y.kv) (news := ndC y.kids) (xs := [] ++ ndC x.kids) (by rfl) (by rfl) (by rfl) (by rfl) (by rfl) (by rfl) (by rfl) (by repeat (first | exact Sel.here | apply Sel.there)) (by rfl) ?_ two ?_ ?_ (fun v2 => ?_)
        · exact fun w h => St.rowF (.tail _ (.tail _ (.head _))) h
        · exact rfl
        · omega
        rw [List.nil_append, ← ndC_app2, Nat.zero_add, ← List.length_append]
        refine XL.ex (fun w h => h.sliced (e := 27) (size := 8) (by repeat (first | exact Sel.here | apply Sel.there))) ?_
        rintro ⟨va, vc⟩
        refine XL.pureW (fun ev => ?_)
        dsimp only at ev
        subst ev
        repeat' (first
          | refine XStep ?_
          | refine Fa.mk fun b => ?_
          | refine Fb.mk fun b2 => ?_
          | refine Fz.mk fun z => ?_
          | (refine Gd.mk (fun h => ?_) (fun h => ?_) <;> try (first | (exfalso; omega) | exact absurd rfl h | (exfalso; simp at h <;> omega)))
          | refine Ands.mk ?_ ?_
          | (refine XC.is ?_; refine W110 ?_; refine XC.planG (by kernel_rfl) (fun _ m h => h.drewn m) ?_; (conv => arg 5; reduce); refine XG0.of ?_; (conv => arg 5; reduce); (conv => arg 6; reduce); refine XG.go (by decide +kernel) ?_))
        refine XL.conv (fun w h => (((h.rowFreeze (e := 27) (size := 8) (by repeat (first | exact Sel.here | apply Sel.there))).ndsApp2 (l := x.kids) (l2 := y.kids) (.tail _ (.tail _ (.head _))) (.tail _ (.head _))).nilTy).ndMk2 (k := 23) (n := 0) (s := tx []) (t := TyM.nil) (l := x.kids ++ y.kids) List.length_append (.tail _ (.tail _ (.head _))) (.head _) (.tail _ (.head _))) ?_
        refine XL.triq (Same_tri (x := z) (y := .mk 23 (tx []) 0 TyM.nil va (x.kids.length + y.kids.length) vc (x.kids ++ y.kids)) (hz.trans (by simp [NdM.nd, NdM.nds_eq, TyM.ty, TyM.tys])) hok) (by rfl) (by rfl) (by rfl) (by rfl) (by rfl) (by rfl) (by rfl) (by (repeat' (first | exact Sels.nil | exact Sel.here | apply Sels.cons | apply Sel.there)); done) (by (repeat' (first | exact Sels.nil | exact Sel.here | apply Sels.cons | apply Sel.there)); done) (by (repeat (first | exact sub0 | refine subC (by repeat (first | exact List.Mem.head _ | apply List.Mem.tail)) ?_)); done) ?_
        repeat' (first
          | refine XStep ?_
          | refine Fa.mk fun b => ?_
          | refine Fb.mk fun b2 => ?_
          | refine Fz.mk fun z => ?_
          | (refine Gd.mk (fun h => ?_) (fun h => ?_) <;> try (first | (exfalso; omega) | exact absurd rfl h | (exfalso; simp at h <;> omega)))
          | refine Ands.mk ?_ ?_
          | (refine XC.is ?_; refine W110 ?_; refine XC.planG (by kernel_rfl) (fun _ m h => h.drewn m) ?_; (conv => arg 5; reduce); refine XG0.of ?_; (conv => arg 5; reduce); (conv => arg 6; reduce); refine XG.go (by decide +kernel) ?_))
        refine XQ.done1 (by rfl) (by rfl) (⟨rfl, rfl, rfl⟩) (by (repeat' (first | exact Sels.nil | exact Sel.here | apply Sels.cons | apply Sel.there)); done) (by (repeat (first | exact sub0 | refine subC (by repeat (first | exact List.Mem.head _ | apply List.Mem.tail)) ?_)); done)
      · refine XL.conv (fun w h => h.celRow (e := 27) (m := 0) (size := 8) (b := b2) (cs := []) (by repeat (first | exact Sel.here | apply Sel.there)) rfl rfl) ?_
        have one : ∀ u ∈ ndC x.kids, u.oneCell' = true := ndC_ones _
        have two : ∀ u ∈ ndC y.kids, u.oneCell' = true := ndC_ones _
        refine XL.append (e := 27) (size := 8) (m := 0) (k0 := x.kids.length) (v := .slice (some ⟨b2, 0, none⟩) 0 0) (x := x.kv) (news := ndC x.kids) (xs := []) (by rfl) (by rfl) (by rfl) (by rfl) (by rfl) (by rfl) (by rfl) (by repeat (first | exact Sel.here | apply Sel.there)) (by rfl) ?_ one ?_ ?_ (fun v1 => ?_)
        · exact fun w h => St.rowF (.tail _ (.tail _ (.tail _ (.head _)))) h
        · exact rfl
        · omega
        refine XL.nil ?_
        repeat' (first
          | refine XStep ?_
          | refine Fa.mk fun b => ?_
          | refine Fb.mk fun b2 => ?_
          | refine Fz.mk fun z => ?_
          | (refine Gd.mk (fun h => ?_) (fun h => ?_) <;> try (first | (exfalso; omega) | exact absurd rfl h | (exfalso; simp at h <;> omega)))
          | refine Ands.mk ?_ ?_
          | (refine XC.is ?_; refine W110 ?_; refine XC.planG (by kernel_rfl) (fun _ m h => h.drewn m) ?_; (conv => arg 5; reduce); refine XG0.of ?_; (conv => arg 5; reduce); (conv => arg 6; reduce); refine XG.go (by decide +kernel) ?_))
        refine XL.append (e := 27) (size := 8) (m := 0 + x.kids.length) (k0 := y.kids.length) (v := v1) (x := y.kv) (news := ndC y.kids) (xs := [] ++ ndC x.kids) (by rfl) (by rfl) (by rfl) (by rfl) (by rfl) (by rfl) (by rfl) (by repeat (first | exact Sel.here | apply Sel.there)) (by rfl) ?_ two ?_ ?_ (fun v2 => ?_)
        · exact fun w h => St.rowF (.tail _ (.tail _ (.head _))) h
        · exact rfl
        · omega
        rw [List.nil_append, ← ndC_app2, Nat.zero_add, ← List.length_append]
        refine XL.ex (fun w h => h.sliced (e := 27) (size := 8) (by repeat (first | exact Sel.here | apply Sel.there))) ?_
        rintro ⟨va, vc⟩
        refine XL.pureW (fun ev => ?_)
        dsimp only at ev
        subst ev
        repeat' (first
          | refine XStep ?_
          | refine Fa.mk fun b => ?_
          | refine Fb.mk fun b2 => ?_
          | refine Fz.mk fun z => ?_
          | (refine Gd.mk (fun h => ?_) (fun h => ?_) <;> try (first | (exfalso; omega) | exact absurd rfl h | (exfalso; simp at h <;> omega)))
          | refine Ands.mk ?_ ?_
          | (refine XC.is ?_; refine W110 ?_; refine XC.planG (by kernel_rfl) (fun _ m h => h.drewn m) ?_; (conv => arg 5; reduce); refine XG0.of ?_; (conv => arg 5; reduce); (conv => arg 6; reduce); refine XG.go (by decide +kernel) ?_))
        refine XL.conv (fun w h => (((h.rowFreeze (e := 27) (size := 8) (by repeat (first | exact Sel.here | apply Sel.there))).ndsApp2 (l := x.kids) (l2 := y.kids) (.tail _ (.tail _ (.head _))) (.tail _ (.head _))).nilTy).ndMk2 (k := 23) (n := 0) (s := tx []) (t := TyM.nil) (l := x.kids ++ y.kids) List.length_append (.tail _ (.tail _ (.head _))) (.head _) (.tail _ (.head _))) ?_
        refine XL.triq (Same_tri (x := z) (y := .mk 23 (tx []) 0 TyM.nil va (x.kids.length + y.kids.length) vc (x.kids ++ y.kids)) (hz.trans (by simp [NdM.nd, NdM.nds_eq, TyM.ty, TyM.tys])) hok) (by rfl) (by rfl) (by rfl) (by rfl) (by rfl) (by rfl) (by rfl) (by (repeat' (first | exact Sels.nil | exact Sel.here | apply Sels.cons | apply Sel.there)); done) (by (repeat' (first | exact Sels.nil | exact Sel.here | apply Sels.cons | apply Sel.there)); done) (by (repeat (first | exact sub0 | refine subC (by repeat (first | exact List.Mem.head _ | apply List.Mem.tail)) ?_)); done) ?_
        repeat' (first
          | refine XStep ?_
          | refine Fa.mk fun b => ?_
          | refine Fb.mk fun b2 => ?_
          | refine Fz.mk fun z => ?_
          | (refine Gd.mk (fun h => ?_) (fun h => ?_) <;> try (first | (exfalso; omega) | exact absurd rfl h | (exfalso; simp at h <;> omega)))
          | refine Ands.mk ?_ ?_
          | (refine XC.is ?_; refine W110 ?_; refine XC.planG (by kernel_rfl) (fun _ m h => h.drewn m) ?_; (conv => arg 5; reduce); refine XG0.of ?_; (conv => arg 5; reduce); (conv => arg 6; reduce); refine XG.go (by decide +kernel) ?_))
        refine XQ.done1 (by rfl) (by rfl) (⟨rfl, rfl, rfl⟩) (by (repeat' (first | exact Sels.nil | exact Sel.here | apply Sels.cons | apply Sel.there)); done) (by (repeat (first | exact sub0 | refine subC (by repeat (first | exact List.Mem.head _ | apply List.Mem.tail)) ?_)); done)
    · repeat' (first
        | refine XStep ?_
        | refine Fa.mk fun b => ?_
        | refine Fb.mk fun b2 => ?_
        | refine Fz.mk fun z => ?_
        | (refine Gd.mk (fun h => ?_) (fun h => ?_) <;> try (first | (exfalso; omega) | exact absurd rfl h | (exfalso; simp at h <;> omega)))
        | refine Ands.mk ?_ ?_
        | (refine XC.is ?_; refine W110 ?_; refine XC.planG (by kernel_rfl) (fun _ m h => h.drewn m) ?_; (conv => arg 5; reduce); refine XG0.of ?_; (conv => arg 5; reduce); (conv => arg 6; reduce); refine XG.go (by decide +kernel) ?_))
      refine XQ.done1 (by rfl) (by rfl) (⟨rfl, rfl, rfl⟩) (by (repeat' (first | exact Sels.nil | exact Sel.here | apply Sels.cons | apply Sel.there)); done) (by (repeat (first | exact sub0 | refine subC (by repeat (first | exact List.Mem.head _ | apply List.Mem.tail)) ?_)); done)
  · repeat' (first
      | refine XStep ?_
      | refine Fa.mk fun b => ?_
      | refine Fb.mk fun b2 => ?_
      | refine Fz.mk fun z => ?_
      | (refine Gd.mk (fun h => ?_) (fun h => ?_) <;> try (first | (exfalso; omega) | exact absurd rfl h | (exfalso; simp at h <;> omega)))
      | refine Ands.mk ?_ ?_
      | (refine XC.is ?_; refine W110 ?_; refine XC.planG (by kernel_rfl) (fun _ m h => h.drewn m) ?_; (conv => arg 5; reduce); refine XG0.of ?_; (conv => arg 5; reduce); (conv => arg 6; reduce); refine XG.go (by decide +kernel) ?_))
    refine XQ.done1 (by rfl) (by rfl) (⟨rfl, rfl, rfl⟩) (by (repeat' (first | exact Sels.nil | exact Sel.here | apply Sels.cons | apply Sel.there)); done) (by (repeat (first | exact sub0 | refine subC (by repeat (first | exact List.Mem.head _ | apply List.Mem.tail)) ?_)); done)
theorem parseItems_walk (s t : ByteArray) (w : World) (_ : s.size ≤ maxLen) (_ : t.size ≤ maxLen) (hsh : w.ShapedOpen Try.prog) :
    Calls Try.prog 6 #[.string s, .string t] w fun e w' => e = .returned (.bool true) ∧ RowKit.Below w.heap.size w w' := by
  obtain ⟨⟨l⟩⟩ := s
  obtain ⟨⟨l2⟩⟩ := t
  exact Tri.top (items_tri l l2) (gF_of hsh)
namespace parseItems
open Go.ChangeShapes Go.WideShapes Go.ChangeAt Go.RowKit
set_option maxRecDepth 100000 in
theorem lifted (os : Os) (started : os.Started) (H : Type) (enc : TypeId × Value → H) :
    ReturnsInHanded {} Try.checked os 6 .any (Rows.parseItemsSpec.pre6 enc Try.prog Try.f6 Rows.parseItemsRow.domain false) (Rows.parseItemsSpec.post enc Try.prog Try.f6 false true false false) := by
  refine returnsInHanded_of_change_shaped (C := Try.checked) own started (by kernel_rfl) Try.func6
    (ChangeSpec.witness6 (enc := enc) (C := Try.checked) false ⟨#[], #[.string ⟨#[]⟩, .string ⟨#[]⟩], []⟩ 8 (by kernel_rfl) (by kernel_rfl) (by kernel_rfl) (by kernel_rfl)) ?_
  intro W base args ds gs before hval0 hW hcnd _ hsh _
  have hval : ∀ (j : Nat) t v, Try.f6.params[j]? = some t → args[j]? = some v → Value.okWide Try.prog W .any base t v := hval0
  have hW' := hW
  obtain ⟨p, q, hA0, hV, rfl, hfz, hnd⟩ := hW
  have hA : DataW.TrodAll enc Try.prog W 0 (fun _ => true) true Try.f6.params.toList args.toList ds p := hA0
  rw [Try.params6] at hA hval
  obtain ⟨v0, vs0, d0, ds0, p0, q0, hargs, rfl, rfl, h0, r0⟩ := trodAll_cons hA
  obtain ⟨v1, vs1, d1, ds1, p1, q1, rfl, rfl, rfl, h1, r1⟩ := trodAll_cons r0
  obtain ⟨rfl, rfl, rfl⟩ := trodAll_nil r1
  obtain rfl : args = #[v0, v1] := by cases args; simp_all
  obtain ⟨a0, rfl, rfl, rfl, w0⟩ := Go.ChangeMaps.open_string Try.underlying9 (hval 0 9 v0 rfl rfl) h0
  obtain ⟨a1, rfl, rfl, rfl, w1⟩ := Go.ChangeMaps.open_string Try.underlying9 (hval 1 9 v1 rfl rfl) h1
  refine (parseItems_walk a0 a1 W w0 w1 hsh).mono fun e W' ⟨he, hg⟩ => ?_
  subst he
  exact ⟨_, rfl, law_post hW' rfl (by kernel_rfl) (fun t ht => by have ht : t ∈ [9, 9] := ht; simp only [List.mem_cons, List.not_mem_nil, or_false] at ht; rcases ht with rfl | rfl <;> exact ⟨by kernel_rfl, of_decide_eq_true (by kernel_rfl)⟩) (T := 4) (by rfl) Try.underlying4
    (fun ds hl => by match ds, hl with | [e0, e1], _ => exact ⟨rfl, rfl, rfl⟩) hg⟩
theorem over : Rows.parseItemsRow.holds Try.pinned (OpenSpec.ofChange Rows.parseItemsSpec) :=
  OpenClaim.holds_of_wide 6 Try.f6 rfl rfl rfl rfl rfl rfl rfl ⟨rfl, rfl, rfl, rfl, rfl⟩ rfl rfl rfl rfl rfl (by kernel_rfl) Try.func6 (by kernel_rfl)
    (of_decide_eq_true (by kernel_rfl)) (by unfold Func.isWrapper; first | (rw [if_pos (by decide +kernel)]; kernel_rfl) | (rw [if_neg (by decide +kernel)]; exact ⟨rfl, rfl⟩))
    (fun os started H enc _ => lifted os started H enc)
theorem proved : Rows.ParseItemsSaid := over
end parseItems
#print axioms parseItems.proved
end Go.Proofs.Ytjnineeeffecaaa
