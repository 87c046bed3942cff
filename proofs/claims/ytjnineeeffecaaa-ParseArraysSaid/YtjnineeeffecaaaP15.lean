/- How deep a tree is. -/
import Derived.Test.YtjnineeeffecaaaP14
namespace Go.Proofs.Ytjnineeeffecaaa
open Go X
set_option maxRecDepth 100000
set_option maxHeartbeats 4000000
mutual
def Ty.ok (B : Nat) : Ty → Prop
  | .mk _ _ _ l => l.length ≤ B ∧ Ty.oks B l
def Ty.oks (B : Nat) : List Ty → Prop
  | [] => True
  | x :: l => x.ok B ∧ Ty.oks B l
end
mutual
def Nd.ok (B : Nat) : Nd → Prop
  | .mk _ _ _ t l => t.ok B ∧ l.length ≤ B ∧ Nd.oks B l
def Nd.oks (B : Nat) : List Nd → Prop
  | [] => True
  | x :: l => x.ok B ∧ Nd.oks B l
end
theorem Nd.oks_mem {B : Nat} : ∀ {l : List Nd}, Nd.oks B l → ∀ x ∈ l, x.ok B
  | [], _, _, h => nomatch h
  | y :: l, h, x, hx => by
    rw [Nd.oks] at h
    rcases List.mem_cons.1 hx with rfl | hx
    · exact h.1
    · exact Nd.oks_mem h.2 x hx
theorem Ty.oks_mem {B : Nat} : ∀ {l : List Ty}, Ty.oks B l → ∀ x ∈ l, x.ok B
  | [], _, _, h => nomatch h
  | y :: l, h, x, hx => by
    rw [Ty.oks] at h
    rcases List.mem_cons.1 hx with rfl | hx
    · exact h.1
    · exact Ty.oks_mem h.2 x hx
theorem nd_kids (x : NdM) : x.nd.kids = NdM.nds x.kids := by cases x; rfl
theorem nd_ok {B : Nat} {x : NdM} (h : x.nd.ok B) : x.kids.length ≤ B ∧ (∀ y ∈ x.kids, y.nd.ok B) ∧ x.t.ty.ok B := by
  cases x with
  | mk k s n t a m cp l =>
    rw [NdM.nd, Nd.ok, nds_len] at h
    refine ⟨h.2.1, fun y hy => Nd.oks_mem h.2.2 _ ?_, h.1⟩
    rw [NdM.nds_eq]
    exact List.mem_map_of_mem hy
namespace X
section
variable {c : Cx} {L : List SP} {Φ : List FP} {w : World}
theorem St.ndRowF {x : NdM} (h : St c L Φ w) (h1 : ndFP x ∈ Φ) : St c L (Row.fp 8 x.kv x.kids.length (ndC x.kids) :: Φ) w := h.fact fun O hΦ => by
  cases x
  exact hΦ _ h1 _ (by rw [NdM.fps]; exact .head _)
theorem St.ndKid {l : List NdM} {y : NdM} (h : St c L Φ w) (h1 : ndsFP l ∈ Φ) (hy : y ∈ l) : St c L (ndFP y :: Φ) w := h.many fun O hΦ φ hφ =>
  hΦ _ h1 φ (by rw [NdM.fpsL_eq]; exact List.mem_flatMap.2 ⟨y, hy, hφ⟩)
theorem St.tyRowF {x : TyM} (h : St c L Φ w) (h1 : tyFP x ∈ Φ) : St c L (Row.fp 4 x.ofv x.of.length (tyC x.of) :: Φ) w := h.fact fun O hΦ => by
  cases x
  exact hΦ _ h1 _ (by rw [TyM.fps]; exact .head _)
theorem St.tyOf {x : TyM} (h : St c L Φ w) (h1 : tyFP x ∈ Φ) : St c L (tysFP x.of :: Φ) w := h.many fun O hΦ φ hφ => by
  cases x
  exact hΦ _ h1 φ (by rw [TyM.fps]; exact .tail _ hφ)
theorem St.tyKid {l : List TyM} {y : TyM} (h : St c L Φ w) (h1 : tysFP l ∈ Φ) (hy : y ∈ l) : St c L (tyFP y :: Φ) w := h.many fun O hΦ φ hφ =>
  hΦ _ h1 φ (by rw [TyM.fpsL_eq]; exact List.mem_flatMap.2 ⟨y, hy, hφ⟩)
end
end X
attribute [local irreducible] XC XL XQ Tri blk Shows Sq Rd Mt inBlockX XS XG XG0 TkS AnS rowO tyFP tysFP ndFP ndsFP Row.fp FP.all
def mostL (f : Nat) (l : List Nd) (i : Nat) : Nat := ((l.take i).map (depthL f)).foldl max 0
theorem mostL_zero (f : Nat) (l : List Nd) : mostL f l 0 = 0 := by simp [mostL]
theorem mostL_succ {f : Nat} {l : List Nd} {i : Nat} {x : Nd} (h : l[i]? = some x) : mostL f l (i + 1) = max (mostL f l i) (depthL f x) := by
  unfold mostL
  rw [List.take_add_one, h]
  simp
theorem depthL_le : ∀ (f : Nat) (x : Nd), depthL f x ≤ f + 1
  | 0, x => by simp [depthL]
  | f + 1, x => by
    rw [depthL]
    have : ∀ (l : List Nd) (m : Nat), m ≤ f + 1 → (l.map (depthL f)).foldl max m ≤ f + 1 := by
      intro l
      induction l with
      | nil => exact fun m h => h
      | cons y l ih =>
        intro m h
        rw [List.map_cons, List.foldl_cons]
        exact ih _ (Nat.max_le.2 ⟨h, depthL_le f y⟩)
    exact Nat.succ_le_succ (this _ 0 (by omega))
theorem mostL_le (f : Nat) (l : List Nd) (i : Nat) : mostL f l i ≤ f + 1 := by
  have : ∀ (l : List Nd) (m : Nat), m ≤ f + 1 → (l.map (depthL f)).foldl max m ≤ f + 1 := by
    intro l
    induction l with
    | nil => exact fun m h => h
    | cons y l ih =>
      intro m h
      rw [List.map_cons, List.foldl_cons]
      exact ih _ (Nat.max_le.2 ⟨h, depthL_le f y⟩)
  exact this _ 0 (by omega)
theorem cast_max (a b : Nat) : ((max a b : Nat) : Int) = max (a : Int) (b : Int) := by omega
theorem depth_tri {B : Nat} (hB : B ≤ 1000000000000000) : ∀ (f : Nat), f ≤ 250 → ∀ (x : NdM), x.nd.ok B → Tri Try.prog 18 [x.v, .int .i64 (f : Int)] [] [ndFP x] fun e L Φ => e = .returned (.int .i64 (depthL f x.nd : Int)) ∧ L = [] ∧ Φ = [] := by
  intro f
  induction f with
  | zero =>
    intro hf x hx
    refine Tri.of Try.func18 rfl fun c => ?_
    repeat' (first
      | refine XStep ?_
      | refine Fa.mk fun b => ?_
      | refine Fb.mk fun b2 => ?_
      | refine Fz.mk fun z => ?_
      | (refine Gd.mk (fun h => ?_) (fun h => ?_) <;> try (first | (exfalso; omega) | exact absurd rfl h | (exfalso; simp at h <;> omega)))
      | refine Ands.mk ?_ ?_
      | (refine XC.is ?_; refine W110 ?_; refine XC.planG (by kernel_rfl) (fun _ m h => h.drewn m) ?_; (conv => arg 5; reduce); refine XG0.of ?_; (conv => arg 5; reduce); (conv => arg 6; reduce); refine XG.go (by decide +kernel) ?_))
    refine XQ.done1 (by rfl) (by rfl) (⟨rfl, rfl, rfl⟩) (by (repeat' (first | exact Sels.nil | exact Sel.here | apply Sels.cons | apply Sel.there)); done) (by (repeat (first | exact sub0 | refine subC (by repeat (first | exact List.Mem.head _ | apply List.Mem.tail)) ?_)); done)
  | succ f ih =>
    intro hf x hx
    obtain ⟨hk, hks, -⟩ := nd_ok hx
    refine Tri.of Try.func18 rfl fun c => ?_
    refine XC.conv (fun w h => ((h.ndRowF (x := x) (.head _)).ndKids (x := x) (.tail _ (.head _)))) ?_
    repeat' (first
      | refine XStep ?_
      | refine Fa.mk fun b => ?_
      | refine Fb.mk fun b2 => ?_
      | refine Fz.mk fun z => ?_
      | (refine Gd.mk (fun h => ?_) (fun h => ?_) <;> try (first | (exfalso; omega) | exact absurd rfl h | (exfalso; simp at h <;> omega)))
      | refine Ands.mk ?_ ?_
      | (refine XC.is ?_; refine W110 ?_; refine XC.planG (by kernel_rfl) (fun _ m h => h.drewn m) ?_; (conv => arg 5; reduce); refine XG0.of ?_; (conv => arg 5; reduce); (conv => arg 6; reduce); refine XG.go (by decide +kernel) ?_))
    refine XC.loop (fun i : Nat => [(1, .int .i64 ((f + 1 : Nat) : Int)), (5, .int .i64 (mostL f (NdM.nds x.kids) i : Int)), (11, x.kv), (12, .int .i64 (x.kids.length : Int)), (13, .int .i64 (i : Int))])
      (fun i w => i ≤ x.kids.length ∧ St c [] [ndsFP x.kids, Row.fp 8 x.kv x.kids.length (ndC x.kids)] w) (fun i => x.kids.length - i) 0 (by rw [mostL_zero]; exact (by (repeat (first | exact fits_nil | refine fits_cons (by rfl) ?_)); done)) (fun w h => ⟨by omega, h.less (by (repeat' (first | exact Sels.nil | exact Sel.here | apply Sels.cons | apply Sel.there)); done) (by (repeat (first | exact sub0 | refine subC (by repeat (first | exact List.Mem.head _ | apply List.Mem.tail)) ?_)); done)⟩) ?_
    intro i
    refine XC.pure (fun hi => ?_)
    by_cases hlt : i < x.kids.length
    · obtain ⟨y, hy, my⟩ := get_of_lt hlt
      have aY := nd_at hy
      have hm := mostL_succ (f := f) (l := NdM.nds x.kids) (i := i) (x := y.nd) (by rw [NdM.nds_eq, List.getElem?_map, hy]; rfl)
      have hd := depthL_le f y.nd
      have hml := mostL_le f (NdM.nds x.kids) i
      refine XC.conv (fun w h => h.ndKid (y := y) (.head _) my) ?_
      repeat' (first
        | refine XStep ?_
        | refine Fa.mk fun b => ?_
        | refine Fb.mk fun b2 => ?_
        | refine Fz.mk fun z => ?_
        | (refine Gd.mk (fun h => ?_) (fun h => ?_) <;> try (first | (exfalso; omega) | exact absurd rfl h | (exfalso; simp at h <;> omega)))
        | refine Ands.mk ?_ ?_
        | (refine XC.is ?_; refine W110 ?_; refine XC.planG (by kernel_rfl) (fun _ m h => h.drewn m) ?_; (conv => arg 5; reduce); refine XG0.of ?_; (conv => arg 5; reduce); (conv => arg 6; reduce); refine XG.go (by decide +kernel) ?_))
      refine XL.triq (ih (by omega) y (hks y my)) (by rfl) (by rfl) (by rfl) (by rfl) (by rfl) (by rfl) (by rfl) (by (repeat' (first | exact Sels.nil | exact Sel.here | apply Sels.cons | apply Sel.there)); done) (by (repeat' (first | exact Sels.nil | exact Sel.here | apply Sels.cons | apply Sel.there)); done) (by (repeat (first | exact sub0 | refine subC (by repeat (first | exact List.Mem.head _ | apply List.Mem.tail)) ?_)); done) ?_
      repeat' (first
        | refine XStep ?_
        | refine Fa.mk fun b => ?_
        | refine Fb.mk fun b2 => ?_
        | refine Fz.mk fun z => ?_
        | (refine Gd.mk (fun h => ?_) (fun h => ?_) <;> try (first | (exfalso; omega) | exact absurd rfl h | (exfalso; simp at h <;> omega)))
        | refine Ands.mk ?_ ?_
        | (refine XC.is ?_; refine W110 ?_; refine XC.planG (by kernel_rfl) (fun _ m h => h.drewn m) ?_; (conv => arg 5; reduce); refine XG0.of ?_; (conv => arg 5; reduce); (conv => arg 6; reduce); refine XG.go (by decide +kernel) ?_))
      refine XQ.round (i + 1) ?_ (fun w hw => ⟨by omega, hw.less (by (repeat' (first | exact Sels.nil | exact Sel.here | apply Sels.cons | apply Sel.there)); done) (by (repeat (first | exact sub0 | refine subC (by repeat (first | exact List.Mem.head _ | apply List.Mem.tail)) ?_)); done)⟩) (by omega)
      rw [hm, cast_max]
      exact (by (repeat (first | exact fits_nil | refine fits_cons (by rfl) ?_)); done)
    · have e : i = x.kids.length := by omega
      subst e
      have hml := mostL_le f (NdM.nds x.kids) x.kids.length
      repeat' (first
        | refine XStep ?_
        | refine Fa.mk fun b => ?_
        | refine Fb.mk fun b2 => ?_
        | refine Fz.mk fun z => ?_
        | (refine Gd.mk (fun h => ?_) (fun h => ?_) <;> try (first | (exfalso; omega) | exact absurd rfl h | (exfalso; simp at h <;> omega)))
        | refine Ands.mk ?_ ?_
        | (refine XC.is ?_; refine W110 ?_; refine XC.planG (by kernel_rfl) (fun _ m h => h.drewn m) ?_; (conv => arg 5; reduce); refine XG0.of ?_; (conv => arg 5; reduce); (conv => arg 6; reduce); refine XG.go (by decide +kernel) ?_))
      have e : depthL (f + 1) x.nd = mostL f (NdM.nds x.kids) x.kids.length + 1 := by
        rw [depthL, nd_kids, mostL, List.take_of_length_le (by rw [nds_len]; exact Nat.le_refl _)]
      rw [e]
      refine XQ.done1 (by rfl) (by rfl) (⟨rfl, rfl, rfl⟩) (by (repeat' (first | exact Sels.nil | exact Sel.here | apply Sels.cons | apply Sel.there)); done) (by (repeat (first | exact sub0 | refine subC (by repeat (first | exact List.Mem.head _ | apply List.Mem.tail)) ?_)); done)
theorem Depth_tri {B : Nat} (hB : B ≤ 1000000000000000) {x : NdM} (hx : x.nd.ok B) : Tri Try.prog 11 [x.v] [] [ndFP x] fun e L Φ => e = .returned (.int .i64 (depthL 250 x.nd : Int)) ∧ L = [] ∧ Φ = [] := by
  refine Tri.of Try.func11 rfl fun c => ?_
  repeat' (first
    | refine XStep ?_
    | refine Fa.mk fun b => ?_
    | refine Fb.mk fun b2 => ?_
    | refine Fz.mk fun z => ?_
    | (refine Gd.mk (fun h => ?_) (fun h => ?_) <;> try (first | (exfalso; omega) | exact absurd rfl h | (exfalso; simp at h <;> omega)))
    | refine Ands.mk ?_ ?_
    | (refine XC.is ?_; refine W110 ?_; refine XC.planG (by kernel_rfl) (fun _ m h => h.drewn m) ?_; (conv => arg 5; reduce); refine XG0.of ?_; (conv => arg 5; reduce); (conv => arg 6; reduce); refine XG.go (by decide +kernel) ?_))
  refine XL.triq (depth_tri hB 250 (Nat.le_refl _) x hx) (by rfl) (by rfl) (by rfl) (by rfl) (by rfl) (by rfl) (by rfl) (by (repeat' (first | exact Sels.nil | exact Sel.here | apply Sels.cons | apply Sel.there)); done) (by (repeat' (first | exact Sels.nil | exact Sel.here | apply Sels.cons | apply Sel.there)); done) (by (repeat (first | exact sub0 | refine subC (by repeat (first | exact List.Mem.head _ | apply List.Mem.tail)) ?_)); done) ?_
  repeat' (first
    | refine XStep ?_
    | refine Fa.mk fun b => ?_
    | refine Fb.mk fun b2 => ?_
    | refine Fz.mk fun z => ?_
    | (refine Gd.mk (fun h => ?_) (fun h => ?_) <;> try (first | (exfalso; omega) | exact absurd rfl h | (exfalso; simp at h <;> omega)))
    | refine Ands.mk ?_ ?_
    | (refine XC.is ?_; refine W110 ?_; refine XC.planG (by kernel_rfl) (fun _ m h => h.drewn m) ?_; (conv => arg 5; reduce); refine XG0.of ?_; (conv => arg 5; reduce); (conv => arg 6; reduce); refine XG.go (by decide +kernel) ?_))
  refine XQ.done1 (by rfl) (by rfl) (⟨rfl, rfl, rfl⟩) (by (repeat' (first | exact Sels.nil | exact Sel.here | apply Sels.cons | apply Sel.there)); done) (by (repeat (first | exact sub0 | refine subC (by repeat (first | exact List.Mem.head _ | apply List.Mem.tail)) ?_)); done)
theorem depth12_tri {B : Nat} (hB : B ≤ 1000000000000000) : ∀ (f : Nat), f ≤ 250 → ∀ (x : NdM), x.nd.ok B → Tri Try.prog 12 [x.v, .int .i64 (f : Int)] [] [ndFP x] fun e L Φ => e = .returned (.int .i64 (depthL f x.nd : Int)) ∧ L = [] ∧ Φ = [] := by
  intro f
  induction f with
  | zero =>
    intro hf x hx
    refine Tri.of Try.func12 rfl fun c => ?_
    repeat' (first
      | refine XStep ?_
      | refine Fa.mk fun b => ?_
      | refine Fb.mk fun b2 => ?_
      | refine Fz.mk fun z => ?_
      | (refine Gd.mk (fun h => ?_) (fun h => ?_) <;> try (first | (exfalso; omega) | exact absurd rfl h | (exfalso; simp at h <;> omega)))
      | refine Ands.mk ?_ ?_
      | (refine XC.is ?_; refine W110 ?_; refine XC.planG (by kernel_rfl) (fun _ m h => h.drewn m) ?_; (conv => arg 5; reduce); refine XG0.of ?_; (conv => arg 5; reduce); (conv => arg 6; reduce); refine XG.go (by decide +kernel) ?_))
    refine XQ.done1 (by rfl) (by rfl) (⟨rfl, rfl, rfl⟩) (by (repeat' (first | exact Sels.nil | exact Sel.here | apply Sels.cons | apply Sel.there)); done) (by (repeat (first | exact sub0 | refine subC (by repeat (first | exact List.Mem.head _ | apply List.Mem.tail)) ?_)); done)
  | succ f ih =>
    intro hf x hx
    obtain ⟨hk, hks, -⟩ := nd_ok hx
    refine Tri.of Try.func12 rfl fun c => ?_
    refine XC.conv (fun w h => ((h.ndRowF (x := x) (.head _)).ndKids (x := x) (.tail _ (.head _)))) ?_
    repeat' (first
      | refine XStep ?_
      | refine Fa.mk fun b => ?_
      | refine Fb.mk fun b2 => ?_
      | refine Fz.mk fun z => ?_
      | (refine Gd.mk (fun h => ?_) (fun h => ?_) <;> try (first | (exfalso; omega) | exact absurd rfl h | (exfalso; simp at h <;> omega)))
      | refine Ands.mk ?_ ?_
      | (refine XC.is ?_; refine W110 ?_; refine XC.planG (by kernel_rfl) (fun _ m h => h.drewn m) ?_; (conv => arg 5; reduce); refine XG0.of ?_; (conv => arg 5; reduce); (conv => arg 6; reduce); refine XG.go (by decide +kernel) ?_))
    refine XC.loop (fun i : Nat => [(1, .int .i64 ((f + 1 : Nat) : Int)), (5, .int .i64 (mostL f (NdM.nds x.kids) i : Int)), (2, .pointer (some ⟨b, 0, none⟩)), (6, .int .i64 (i : Int))])
      (fun i w => i ≤ x.kids.length ∧ St c [cel b x.cells.toArray 27] [ndsFP x.kids, Row.fp 8 x.kv x.kids.length (ndC x.kids)] w) (fun i => x.kids.length - i) 0 (by rw [mostL_zero]; exact (by (repeat (first | exact fits_nil | refine fits_cons (by rfl) ?_)); done)) (fun w h => ⟨by omega, h.less (by (repeat' (first | exact Sels.nil | exact Sel.here | apply Sels.cons | apply Sel.there)); done) (by (repeat (first | exact sub0 | refine subC (by repeat (first | exact List.Mem.head _ | apply List.Mem.tail)) ?_)); done)⟩) ?_
    intro i
    refine XC.pure (fun hi => ?_)
    by_cases hlt : i < x.kids.length
    · obtain ⟨y, hy, my⟩ := get_of_lt hlt
      have aY := nd_at hy
      have hm := mostL_succ (f := f) (l := NdM.nds x.kids) (i := i) (x := y.nd) (by rw [NdM.nds_eq, List.getElem?_map, hy]; rfl)
      have hd := depthL_le f y.nd
      have hml := mostL_le f (NdM.nds x.kids) i
      refine XC.conv (fun w h => h.ndKid (y := y) (.head _) my) ?_
      repeat' (first
        | refine XStep ?_
        | refine Fa.mk fun b => ?_
        | refine Fb.mk fun b2 => ?_
        | refine Fz.mk fun z => ?_
        | (refine Gd.mk (fun h => ?_) (fun h => ?_) <;> try (first | (exfalso; omega) | exact absurd rfl h | (exfalso; simp at h <;> omega)))
        | refine Ands.mk ?_ ?_
        | (refine XC.is ?_; refine W110 ?_; refine XC.planG (by kernel_rfl) (fun _ m h => h.drewn m) ?_; (conv => arg 5; reduce); refine XG0.of ?_; (conv => arg 5; reduce); (conv => arg 6; reduce); refine XG.go (by decide +kernel) ?_))
      refine XL.triq (ih (by omega) y (hks y my)) (by rfl) (by rfl) (by rfl) (by rfl) (by rfl) (by rfl) (by rfl) (by (repeat' (first | exact Sels.nil | exact Sel.here | apply Sels.cons | apply Sel.there)); done) (by (repeat' (first | exact Sels.nil | exact Sel.here | apply Sels.cons | apply Sel.there)); done) (by (repeat (first | exact sub0 | refine subC (by repeat (first | exact List.Mem.head _ | apply List.Mem.tail)) ?_)); done) ?_
      repeat' (first
        | refine XStep ?_
        | refine Fa.mk fun b => ?_
        | refine Fb.mk fun b2 => ?_
        | refine Fz.mk fun z => ?_
        | (refine Gd.mk (fun h => ?_) (fun h => ?_) <;> try (first | (exfalso; omega) | exact absurd rfl h | (exfalso; simp at h <;> omega)))
        | refine Ands.mk ?_ ?_
        | (refine XC.is ?_; refine W110 ?_; refine XC.planG (by kernel_rfl) (fun _ m h => h.drewn m) ?_; (conv => arg 5; reduce); refine XG0.of ?_; (conv => arg 5; reduce); (conv => arg 6; reduce); refine XG.go (by decide +kernel) ?_))
      · rename_i hgt
        refine XQ.round (i + 1) ?_ (fun w hw => ⟨by omega, hw.less (by (repeat' (first | exact Sels.nil | exact Sel.here | apply Sels.cons | apply Sel.there)); done) (by (repeat (first | exact sub0 | refine subC (by repeat (first | exact List.Mem.head _ | apply List.Mem.tail)) ?_)); done)⟩) (by omega)
        rw [hm, Nat.max_eq_right (by omega)]
        exact (by (repeat (first | exact fits_nil | refine fits_cons (by rfl) ?_)); done)
      · rename_i hgt
        refine XQ.round (i + 1) ?_ (fun w hw => ⟨by omega, hw.less (by (repeat' (first | exact Sels.nil | exact Sel.here | apply Sels.cons | apply Sel.there)); done) (by (repeat (first | exact sub0 | refine subC (by repeat (first | exact List.Mem.head _ | apply List.Mem.tail)) ?_)); done)⟩) (by omega)
        rw [hm, Nat.max_eq_left (by omega)]
        exact (by (repeat (first | exact fits_nil | refine fits_cons (by rfl) ?_)); done)
    · have e : i = x.kids.length := by omega
      subst e
      have hml := mostL_le f (NdM.nds x.kids) x.kids.length
      repeat' (first
        | refine XStep ?_
        | refine Fa.mk fun b => ?_
        | refine Fb.mk fun b2 => ?_
        | refine Fz.mk fun z => ?_
        | (refine Gd.mk (fun h => ?_) (fun h => ?_) <;> try (first | (exfalso; omega) | exact absurd rfl h | (exfalso; simp at h <;> omega)))
        | refine Ands.mk ?_ ?_
        | (refine XC.is ?_; refine W110 ?_; refine XC.planG (by kernel_rfl) (fun _ m h => h.drewn m) ?_; (conv => arg 5; reduce); refine XG0.of ?_; (conv => arg 5; reduce); (conv => arg 6; reduce); refine XG.go (by decide +kernel) ?_))
      have e : depthL (f + 1) x.nd = mostL f (NdM.nds x.kids) x.kids.length + 1 := by
        rw [depthL, nd_kids, mostL, List.take_of_length_le (by rw [nds_len]; exact Nat.le_refl _)]
      rw [e]
      refine XQ.done1 (by rfl) (by rfl) (⟨rfl, rfl, rfl⟩) (by (repeat' (first | exact Sels.nil | exact Sel.here | apply Sels.cons | apply Sel.there)); done) (by (repeat (first | exact sub0 | refine subC (by repeat (first | exact List.Mem.head _ | apply List.Mem.tail)) ?_)); done)
end Go.Proofs.Ytjnineeeffecaaa
