/- Trees that are the same are told as the same. -/
import Derived.Test.YtjnineeeffecaaaP15
namespace Go.Proofs.Ytjnineeeffecaaa
open Go X
set_option maxRecDepth 100000
set_option maxHeartbeats 4000000
theorem ty_eq {x y : TyM} (h : x.ty = y.ty) : x.kind = y.kind ∧ x.n = y.n ∧ x.name = y.name ∧ x.of.length = y.of.length ∧ ∀ (i : Nat) a b, x.of[i]? = some a → y.of[i]? = some b → a.ty = b.ty := by
  cases x with
  | mk k n s a m cp l =>
    cases y with
    | mk k' n' s' a' m' cp' l' =>
      rw [TyM.ty, TyM.ty] at h
      injection h with h1 h2 h3 h4
      rw [TyM.tys_eq, TyM.tys_eq] at h4
      refine ⟨h1, h2, h3, by have := congrArg List.length h4; rwa [List.length_map, List.length_map] at this, fun i a b ha hb => ?_⟩
      have h5 := congrArg (fun l => l[i]?) h4
      simp only [List.getElem?_map] at h5
      rw [show l[i]? = some a from ha, show l'[i]? = some b from hb] at h5
      exact Option.some.inj h5
theorem nd_eq {x y : NdM} (h : x.nd = y.nd) : x.kind = y.kind ∧ x.text = y.text ∧ x.n = y.n ∧ x.t.ty = y.t.ty ∧ x.kids.length = y.kids.length ∧ ∀ (i : Nat) a b, x.kids[i]? = some a → y.kids[i]? = some b → a.nd = b.nd := by
  cases x with
  | mk k s n t a m cp l =>
    cases y with
    | mk k' s' n' t' a' m' cp' l' =>
      rw [NdM.nd, NdM.nd] at h
      injection h with h1 h2 h3 h4 h5
      rw [NdM.nds_eq, NdM.nds_eq] at h5
      refine ⟨h1, h2, h3, h4, by have := congrArg List.length h5; rwa [List.length_map, List.length_map] at this, fun i a b ha hb => ?_⟩
      have h6 := congrArg (fun l => l[i]?) h5
      simp only [List.getElem?_map] at h6
      rw [show l[i]? = some a from ha, show l'[i]? = some b from hb] at h6
      exact Option.some.inj h6
theorem ty_ok {B : Nat} {x : TyM} (h : x.ty.ok B) : x.of.length ≤ B ∧ ∀ y ∈ x.of, y.ty.ok B := by
  cases x with
  | mk k n s a m cp l =>
    rw [TyM.ty, Ty.ok, TyM.tys_eq, List.length_map] at h
    refine ⟨h.1, fun y hy => Ty.oks_mem h.2 _ (List.mem_map_of_mem hy)⟩
theorem ty_size {x y : TyM} (h : y ∈ x.of) : SizeOf.sizeOf y < SizeOf.sizeOf x := by
  cases x with
  | mk k n s a m cp l =>
    have := List.sizeOf_lt_of_mem (show y ∈ l from h)
    rw [TyM.mk.sizeOf_spec]
    omega
theorem nd_size {x y : NdM} (h : y ∈ x.kids) : SizeOf.sizeOf y < SizeOf.sizeOf x := by
  cases x with
  | mk k s n t a m cp l =>
    have := List.sizeOf_lt_of_mem (show y ∈ l from h)
    rw [NdM.mk.sizeOf_spec]
    omega
attribute [local irreducible] XC XL XQ Tri blk Shows Sq Rd Mt inBlockX XS XG XG0 TkS AnS rowO tyFP tysFP ndFP ndsFP Row.fp FP.all
theorem sameT_tri : ∀ (f : Nat) (x y : TyM), SizeOf.sizeOf x < f → x.ty = y.ty → x.ty.ok 30000 → Tri Try.prog 21 [x.v, y.v] [] [tyFP x, tyFP y] fun e L Φ => e = .returned (.bool true) ∧ L = [] ∧ Φ = [] := by
  intro f
  induction f with
  | zero => intro x y h; omega
  | succ f ih =>
    intro x y hf he hx
    obtain ⟨e1, e2, e3, e4, e5⟩ := ty_eq he
    obtain ⟨hl, hk⟩ := ty_ok hx
    refine Tri.of Try.func21 rfl fun c => ?_
    refine XC.conv (fun w h => (((h.tyRowF (x := x) (.head _)).tyRowF (x := y) (.tail _ (.tail _ (.head _)))).tyOf (x := x) (.tail _ (.tail _ (.head _)))).tyOf (x := y) (.tail _ (.tail _ (.tail _ (.tail _ (.head _)))))) ?_
    repeat' (first
      | refine XStep ?_
      | refine Fa.mk fun b => ?_
      | refine Fb.mk fun b2 => ?_
      | refine Fz.mk fun z => ?_
      | (refine Gd.mk (fun h => ?_) (fun h => ?_) <;> try (first | (exfalso; omega) | exact absurd rfl h | (exfalso; simp at h <;> omega)))
      | refine Ands.mk ?_ ?_
      | (refine XC.is ?_; refine W110 ?_; refine XC.planG (by kernel_rfl) (fun _ m h => h.drewn m) ?_; (conv => arg 5; reduce); refine XG0.of ?_; (conv => arg 5; reduce); (conv => arg 6; reduce); refine XG.go (by decide +kernel) ?_))
    all_goals try exact absurd e3 (by assumption)
    rename_i b1 _ _ _
    refine XC.loop (fun i : Nat => [(2, .pointer (some ⟨b1, 0, none⟩)), (3, .pointer (some ⟨b, 0, none⟩)), (5, .int .i64 (i : Int))])
      (fun i w => i ≤ x.of.length ∧ St c [cel b1 x.cells.toArray 24, cel b y.cells.toArray 24] [tysFP y.of, tysFP x.of, Row.fp 4 y.ofv y.of.length (tyC y.of), Row.fp 4 x.ofv x.of.length (tyC x.of)] w) (fun i => x.of.length - i) 0 (by (repeat (first | exact fits_nil | refine fits_cons (by rfl) ?_)); done) (fun w h => ⟨by omega, h.less (by (repeat' (first | exact Sels.nil | exact Sel.here | apply Sels.cons | apply Sel.there)); done) (by (repeat (first | exact sub0 | refine subC (by repeat (first | exact List.Mem.head _ | apply List.Mem.tail)) ?_)); done)⟩) ?_
    intro i
    refine XC.pure (fun hi => ?_)
    by_cases hlt : i < x.of.length
    · obtain ⟨z, hz, mz⟩ := get_of_lt hlt
      obtain ⟨z', hz', mz'⟩ := get_of_lt (show i < y.of.length by omega)
      have aZ := ty_at hz
      have aZ' := ty_at hz'
      refine XC.conv (fun w h => (h.tyKid (y := z) (.tail _ (.head _)) mz).tyKid (y := z') (.tail _ (.head _)) mz') ?_
      repeat' (first
        | refine XStep ?_
        | refine Fa.mk fun b => ?_
        | refine Fb.mk fun b2 => ?_
        | refine Fz.mk fun z => ?_
        | (refine Gd.mk (fun h => ?_) (fun h => ?_) <;> try (first | (exfalso; omega) | exact absurd rfl h | (exfalso; simp at h <;> omega)))
        | refine Ands.mk ?_ ?_
        | (refine XC.is ?_; refine W110 ?_; refine XC.planG (by kernel_rfl) (fun _ m h => h.drewn m) ?_; (conv => arg 5; reduce); refine XG0.of ?_; (conv => arg 5; reduce); (conv => arg 6; reduce); refine XG.go (by decide +kernel) ?_))
      refine XL.triq (ih z z' (by have := ty_size mz; omega) (e5 i z z' hz hz') (hk z mz)) (by rfl) (by rfl) (by rfl) (by rfl) (by rfl) (by rfl) (by rfl) (by (repeat' (first | exact Sels.nil | exact Sel.here | apply Sels.cons | apply Sel.there)); done) (by (repeat' (first | exact Sels.nil | exact Sel.here | apply Sels.cons | apply Sel.there)); done) (by (repeat (first | exact sub0 | refine subC (by repeat (first | exact List.Mem.head _ | apply List.Mem.tail)) ?_)); done) ?_
      repeat' (first
        | refine XStep ?_
        | refine Fa.mk fun b => ?_
        | refine Fb.mk fun b2 => ?_
        | refine Fz.mk fun z => ?_
        | (refine Gd.mk (fun h => ?_) (fun h => ?_) <;> try (first | (exfalso; omega) | exact absurd rfl h | (exfalso; simp at h <;> omega)))
        | refine Ands.mk ?_ ?_
        | (refine XC.is ?_; refine W110 ?_; refine XC.planG (by kernel_rfl) (fun _ m h => h.drewn m) ?_; (conv => arg 5; reduce); refine XG0.of ?_; (conv => arg 5; reduce); (conv => arg 6; reduce); refine XG.go (by decide +kernel) ?_))
      exact XQ.round (i + 1) (by (repeat (first | exact fits_nil | refine fits_cons (by rfl) ?_)); done) (fun w hw => ⟨by omega, hw.less (by (repeat' (first | exact Sels.nil | exact Sel.here | apply Sels.cons | apply Sel.there)); done) (by (repeat (first | exact sub0 | refine subC (by repeat (first | exact List.Mem.head _ | apply List.Mem.tail)) ?_)); done)⟩) (by omega)
    · repeat' (first
        | refine XStep ?_
        | refine Fa.mk fun b => ?_
        | refine Fb.mk fun b2 => ?_
        | refine Fz.mk fun z => ?_
        | (refine Gd.mk (fun h => ?_) (fun h => ?_) <;> try (first | (exfalso; omega) | exact absurd rfl h | (exfalso; simp at h <;> omega)))
        | refine Ands.mk ?_ ?_
        | (refine XC.is ?_; refine W110 ?_; refine XC.planG (by kernel_rfl) (fun _ m h => h.drewn m) ?_; (conv => arg 5; reduce); refine XG0.of ?_; (conv => arg 5; reduce); (conv => arg 6; reduce); refine XG.go (by decide +kernel) ?_))
      refine XQ.done1 (by rfl) (by rfl) (⟨rfl, rfl, rfl⟩) (by (repeat' (first | exact Sels.nil | exact Sel.here | apply Sels.cons | apply Sel.there)); done) (by (repeat (first | exact sub0 | refine subC (by repeat (first | exact List.Mem.head _ | apply List.Mem.tail)) ?_)); done)
theorem same_tri : ∀ (f : Nat) (x y : NdM), SizeOf.sizeOf x < f → x.nd = y.nd → x.nd.ok 30000 → Tri Try.prog 15 [x.v, y.v] [] [ndFP x, ndFP y] fun e L Φ => e = .returned (.bool true) ∧ L = [] ∧ Φ = [] := by
  intro f
  induction f with
  | zero => intro x y h; omega
  | succ f ih =>
    intro x y hf he hx
    obtain ⟨e1, e2, e3, e4, e6, e5⟩ := nd_eq he
    obtain ⟨hl, hk, ht⟩ := nd_ok hx
    refine Tri.of Try.func15 rfl fun c => ?_
    refine XC.conv (fun w h => (((((h.ndTy (x := x) (.head _)).ndTy (x := y) (.tail _ (.tail _ (.head _)))).ndRowF (x := x) (.tail _ (.tail _ (.head _)))).ndRowF (x := y) (.tail _ (.tail _ (.tail _ (.tail _ (.head _)))))).ndKids (x := x) (.tail _ (.tail _ (.tail _ (.tail _ (.head _)))))).ndKids (x := y) (.tail _ (.tail _ (.tail _ (.tail _ (.tail _ (.tail _ (.head _)))))))) ?_
    repeat' (first
      | refine XStep ?_
      | refine Fa.mk fun b => ?_
      | refine Fb.mk fun b2 => ?_
      | refine Fz.mk fun z => ?_
      | (refine Gd.mk (fun h => ?_) (fun h => ?_) <;> try (first | (exfalso; omega) | exact absurd rfl h | (exfalso; simp at h <;> omega)))
      | refine Ands.mk ?_ ?_
      | (refine XC.is ?_; refine W110 ?_; refine XC.planG (by kernel_rfl) (fun _ m h => h.drewn m) ?_; (conv => arg 5; reduce); refine XG0.of ?_; (conv => arg 5; reduce); (conv => arg 6; reduce); refine XG.go (by decide +kernel) ?_))
    all_goals try exact absurd e2 (by assumption)
    refine XL.triq (sameT_tri (SizeOf.sizeOf x.t + 1) x.t y.t (by omega) e4 ht) (by rfl) (by rfl) (by rfl) (by rfl) (by rfl) (by rfl) (by rfl) (by (repeat' (first | exact Sels.nil | exact Sel.here | apply Sels.cons | apply Sel.there)); done) (by (repeat' (first | exact Sels.nil | exact Sel.here | apply Sels.cons | apply Sel.there)); done) (by (repeat (first | exact sub0 | refine subC (by repeat (first | exact List.Mem.head _ | apply List.Mem.tail)) ?_)); done) ?_
    repeat' (first
      | refine XStep ?_
      | refine Fa.mk fun b => ?_
      | refine Fb.mk fun b2 => ?_
      | refine Fz.mk fun z => ?_
      | (refine Gd.mk (fun h => ?_) (fun h => ?_) <;> try (first | (exfalso; omega) | exact absurd rfl h | (exfalso; simp at h <;> omega)))
      | refine Ands.mk ?_ ?_
      | (refine XC.is ?_; refine W110 ?_; refine XC.planG (by kernel_rfl) (fun _ m h => h.drewn m) ?_; (conv => arg 5; reduce); refine XG0.of ?_; (conv => arg 5; reduce); (conv => arg 6; reduce); refine XG.go (by decide +kernel) ?_))
    rename_i b1 _ _ _
    refine XC.loop (fun i : Nat => [(2, .pointer (some ⟨b1, 0, none⟩)), (3, .pointer (some ⟨b, 0, none⟩)), (5, .int .i64 (i : Int))])
      (fun i w => i ≤ x.kids.length ∧ St c [cel b1 x.cells.toArray 27, cel b y.cells.toArray 27] [ndsFP y.kids, ndsFP x.kids, Row.fp 8 y.kv y.kids.length (ndC y.kids), Row.fp 8 x.kv x.kids.length (ndC x.kids)] w) (fun i => x.kids.length - i) 0 (by (repeat (first | exact fits_nil | refine fits_cons (by rfl) ?_)); done) (fun w h => ⟨by omega, h.less (by (repeat' (first | exact Sels.nil | exact Sel.here | apply Sels.cons | apply Sel.there)); done) (by (repeat (first | exact sub0 | refine subC (by repeat (first | exact List.Mem.head _ | apply List.Mem.tail)) ?_)); done)⟩) ?_
    intro i
    refine XC.pure (fun hi => ?_)
    by_cases hlt : i < x.kids.length
    · obtain ⟨z, hz, mz⟩ := get_of_lt hlt
      obtain ⟨z', hz', mz'⟩ := get_of_lt (show i < y.kids.length by omega)
      have aZ := nd_at hz
      have aZ' := nd_at hz'
      refine XC.conv (fun w h => (h.ndKid (y := z) (.tail _ (.head _)) mz).ndKid (y := z') (.tail _ (.head _)) mz') ?_
      repeat' (first
        | refine XStep ?_
        | refine Fa.mk fun b => ?_
        | refine Fb.mk fun b2 => ?_
        | refine Fz.mk fun z => ?_
        | (refine Gd.mk (fun h => ?_) (fun h => ?_) <;> try (first | (exfalso; omega) | exact absurd rfl h | (exfalso; simp at h <;> omega)))
        | refine Ands.mk ?_ ?_
        | (refine XC.is ?_; refine W110 ?_; refine XC.planG (by kernel_rfl) (fun _ m h => h.drewn m) ?_; (conv => arg 5; reduce); refine XG0.of ?_; (conv => arg 5; reduce); (conv => arg 6; reduce); refine XG.go (by decide +kernel) ?_))
      refine XL.triq (ih z z' (by have := nd_size mz; omega) (e5 i z z' hz hz') (hk z mz)) (by rfl) (by rfl) (by rfl) (by rfl) (by rfl) (by rfl) (by rfl) (by (repeat' (first | exact Sels.nil | exact Sel.here | apply Sels.cons | apply Sel.there)); done) (by (repeat' (first | exact Sels.nil | exact Sel.here | apply Sels.cons | apply Sel.there)); done) (by (repeat (first | exact sub0 | refine subC (by repeat (first | exact List.Mem.head _ | apply List.Mem.tail)) ?_)); done) ?_
      repeat' (first
        | refine XStep ?_
        | refine Fa.mk fun b => ?_
        | refine Fb.mk fun b2 => ?_
        | refine Fz.mk fun z => ?_
        | (refine Gd.mk (fun h => ?_) (fun h => ?_) <;> try (first | (exfalso; omega) | exact absurd rfl h | (exfalso; simp at h <;> omega)))
        | refine Ands.mk ?_ ?_
        | (refine XC.is ?_; refine W110 ?_; refine XC.planG (by kernel_rfl) (fun _ m h => h.drewn m) ?_; (conv => arg 5; reduce); refine XG0.of ?_; (conv => arg 5; reduce); (conv => arg 6; reduce); refine XG.go (by decide +kernel) ?_))
      exact XQ.round (i + 1) (by (repeat (first | exact fits_nil | refine fits_cons (by rfl) ?_)); done) (fun w hw => ⟨by omega, hw.less (by (repeat' (first | exact Sels.nil | exact Sel.here | apply Sels.cons | apply Sel.there)); done) (by (repeat (first | exact sub0 | refine subC (by repeat (first | exact List.Mem.head _ | apply List.Mem.tail)) ?_)); done)⟩) (by omega)
    · repeat' (first
        | refine XStep ?_
        | refine Fa.mk fun b => ?_
        | refine Fb.mk fun b2 => ?_
        | refine Fz.mk fun z => ?_
        | (refine Gd.mk (fun h => ?_) (fun h => ?_) <;> try (first | (exfalso; omega) | exact absurd rfl h | (exfalso; simp at h <;> omega)))
        | refine Ands.mk ?_ ?_
        | (refine XC.is ?_; refine W110 ?_; refine XC.planG (by kernel_rfl) (fun _ m h => h.drewn m) ?_; (conv => arg 5; reduce); refine XG0.of ?_; (conv => arg 5; reduce); (conv => arg 6; reduce); refine XG.go (by decide +kernel) ?_))
      refine XQ.done1 (by rfl) (by rfl) (⟨rfl, rfl, rfl⟩) (by (repeat' (first | exact Sels.nil | exact Sel.here | apply Sels.cons | apply Sel.there)); done) (by (repeat (first | exact sub0 | refine subC (by repeat (first | exact List.Mem.head _ | apply List.Mem.tail)) ?_)); done)
/-- Two trees that are the same. -/
theorem Same_tri {x y : NdM} (he : x.nd = y.nd) (hx : x.nd.ok 30000) : Tri Try.prog 15 [x.v, y.v] [] [ndFP x, ndFP y] fun e L Φ => e = .returned (.bool true) ∧ L = [] ∧ Φ = [] :=
  same_tri (SizeOf.sizeOf x + 1) x y (by omega) he hx
end Go.Proofs.Ytjnineeeffecaaa
