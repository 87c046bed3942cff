/- The document's examples, at the head of all laws of the parser. -/
import Derived.Test.YtjnineeeffecaaaP24
import Derived.Test.YtjnineeeffecaaaP25
namespace Go.Proofs.Ytjnineeeffecaaa
open Go X
set_option maxRecDepth 100000
set_option maxHeartbeats 4000000
theorem nd_mk {x : NdM} {k n : Int} {s : ByteArray} {t : Ty} {l : List Nd} (h : x.nd = .mk k s n t l) : x.kind = k ∧ x.text = s ∧ x.n = n ∧ x.t.ty = t ∧ NdM.nds x.kids = l := by
  cases x with
  | mk k' s' n' t' a m cp l' =>
    rw [NdM.nd] at h
    injection h with h1 h2 h3 h4 h5
    exact ⟨h1, h2, h3, h4, h5⟩
theorem ty_mk {x : TyM} {k n : Int} {s : ByteArray} {l : List Ty} (h : x.ty = .mk k n s l) : x.kind = k ∧ x.n = n ∧ x.name = s ∧ TyM.tys x.of = l := by
  cases x with
  | mk k' n' s' a m cp l' =>
    rw [TyM.ty] at h
    injection h with h1 h2 h3 h4
    exact ⟨h1, h2, h3, h4⟩
theorem nds_one {l : List NdM} {a : Nd} (h : NdM.nds l = [a]) : ∃ y, l = [y] ∧ y.nd = a := by
  rw [NdM.nds_eq] at h
  obtain ⟨y, hy, e⟩ := List.map_eq_singleton_iff.1 h
  exact ⟨y, hy, e⟩
theorem tys_one {l : List TyM} {a : Ty} (h : TyM.tys l = [a]) : ∃ y, l = [y] ∧ y.ty = a := by
  rw [TyM.tys_eq] at h
  obtain ⟨y, hy, e⟩ := List.map_eq_singleton_iff.1 h
  exact ⟨y, hy, e⟩
theorem shape1 {x : NdM} (h : x.nd = .mk 23 (tx []) 0 .nil [.mk 21 (tx [97]) 0 (.mk 6 3 (tx []) [.mk 5 0 (tx []) [.mk 3 0 (tx []) []]]) []]) :
    ∃ y, x.kids = [y] ∧ ∃ u, y.t.of = [u] ∧ y.kind = 21 ∧ y.t.kind = 6 ∧ y.t.n = 3 ∧ u.kind = 5 := by
  obtain ⟨-, -, -, -, q⟩ := nd_mk h
  obtain ⟨y, hy, q⟩ := nds_one q
  obtain ⟨p, -, -, r, -⟩ := nd_mk q
  obtain ⟨s1, s2, -, r⟩ := ty_mk r
  obtain ⟨u, hu, r⟩ := tys_one r
  exact ⟨y, hy, u, hu, p, s1, s2, (ty_mk r).1⟩
theorem shape2 {x : NdM} (h : x.nd = .mk 23 (tx []) 0 .nil [.mk 21 (tx [102]) 0 (.mk 5 0 (tx []) [.mk 9 0 (tx []) [.mk 4 0 (tx []) [], .mk 3 0 (tx []) [], .mk 5 0 (tx []) [.mk 2 0 (tx []) []]]]) []]) :
    ∃ y, x.kids = [y] ∧ ∃ u, y.t.of = [u] ∧ u.kind = 9 ∧ u.of.length = 3 := by
  obtain ⟨-, -, -, -, q⟩ := nd_mk h
  obtain ⟨y, hy, q⟩ := nds_one q
  obtain ⟨-, -, -, r, -⟩ := nd_mk q
  obtain ⟨-, -, -, r⟩ := ty_mk r
  obtain ⟨u, hu, r⟩ := tys_one r
  obtain ⟨v, -, -, r⟩ := ty_mk r
  refine ⟨y, hy, u, hu, v, ?_⟩
  have := congrArg List.length r
  rwa [tys_len] at this
namespace X
section
variable {c : Cx} {L : List SP} {Φ : List FP} {w : World}
theorem St.ndRow1 {x y : NdM} (h : St c L Φ w) (h1 : ndFP x ∈ Φ) (hk : x.kids = [y]) : St c L (ndFP y :: Row.fp 8 x.kv 1 (ndC [y]) :: Φ) w := by
  have h2 := h.ndRowF h1
  have h3 := h2.ndKids (x := x) (.tail _ h1)
  rw [hk] at h2 h3
  have h4 := h3.ndKid (y := y) (.head _) (.head _)
  refine h4.forget (fun φ hφ => ?_)
  rcases List.mem_cons.1 hφ with rfl | hφ
  · exact .head _
  · rcases List.mem_cons.1 hφ with rfl | hφ
    · exact .tail _ (.tail _ (.head _))
    · exact .tail _ (.tail _ (.tail _ hφ))
theorem St.tyRow1 {x y : TyM} (h : St c L Φ w) (h1 : tyFP x ∈ Φ) (hk : x.of = [y]) : St c L (tyFP y :: Row.fp 4 x.ofv 1 (tyC [y]) :: Φ) w := by
  have h2 := h.tyRowF h1
  have h3 := h2.tyOf (x := x) (.tail _ h1)
  rw [hk] at h2 h3
  have h4 := h3.tyKid (y := y) (.head _) (.head _)
  refine h4.forget (fun φ hφ => ?_)
  rcases List.mem_cons.1 hφ with rfl | hφ
  · exact .head _
  · rcases List.mem_cons.1 hφ with rfl | hφ
    · exact .tail _ (.tail _ (.head _))
    · exact .tail _ (.tail _ (.tail _ hφ))
end
end X
attribute [local irreducible] XC XL XQ Tri blk Shows Sq Rd Mt inBlockX XS XG XG0 TkS AnS rowO tyFP tysFP ndFP ndsFP Row.fp FP.all
theorem shown_tri : Tri Try.prog 10 [] [] [gF] fun e L Φ => e = .returned (.bool true) ∧ L = [] ∧ Φ = [] := by
  refine Tri.of Try.func10 rfl fun c => ?_
  repeat' (first
    | refine XStep ?_
    | refine Fa.mk fun b => ?_
    | refine Fb.mk fun b2 => ?_
    | refine Fz.mk fun z => ?_
    | (refine Gd.mk (fun h => ?_) (fun h => ?_) <;> try (first | (exfalso; omega) | exact absurd rfl h | (exfalso; simp at h <;> omega)))
    | refine Ands.mk ?_ ?_
    | (refine XC.is ?_; refine W110 ?_; refine XC.planG (by kernel_rfl) (fun _ m h => h.drewn m) ?_; (conv => arg 5; reduce); refine XG0.of ?_; (conv => arg 5; reduce); (conv => arg 6; reduce); refine XG.go (by decide +kernel) ?_))
  refine XL.trir (parse_tri tokens_tri src1) (by rfl) (by rfl) (by rfl) (by rfl) (by rfl) (by rfl) (by rfl) (by (repeat' (first | exact Sels.nil | exact Sel.here | apply Sels.cons | apply Sel.there)); done) (by (repeat (first | exact sub0 | refine subC (by repeat (first | exact List.Mem.head _ | apply List.Mem.tail)) ?_)); done) ?_
  rintro ⟨x1, a1, k1⟩ hx1
  dsimp only at hx1
  rw [ev1] at hx1
  obtain ⟨h1, hx1⟩ := Prod.mk.inj hx1
  cases hx1
  conv => arg 9; dsimp only [List.cons_append, List.nil_append]
  try conv => arg 7; dsimp only
  repeat' (first
    | refine XStep ?_
    | refine Fa.mk fun b => ?_
    | refine Fb.mk fun b2 => ?_
    | refine Fz.mk fun z => ?_
    | (refine Gd.mk (fun h => ?_) (fun h => ?_) <;> try (first | (exfalso; omega) | exact absurd rfl h | (exfalso; simp at h <;> omega)))
    | refine Ands.mk ?_ ?_
    | (refine XC.is ?_; refine W110 ?_; refine XC.planG (by kernel_rfl) (fun _ m h => h.drewn m) ?_; (conv => arg 5; reduce); refine XG0.of ?_; (conv => arg 5; reduce); (conv => arg 6; reduce); refine XG.go (by decide +kernel) ?_))
  refine XL.trir (parse_tri tokens_tri src2) (by rfl) (by rfl) (by rfl) (by rfl) (by rfl) (by rfl) (by rfl) (by (repeat' (first | exact Sels.nil | exact Sel.here | apply Sels.cons | apply Sel.there)); done) (by (repeat (first | exact sub0 | refine subC (by repeat (first | exact List.Mem.head _ | apply List.Mem.tail)) ?_)); done) ?_
  rintro ⟨x2, a2, k2⟩ hx2
  dsimp only at hx2
  rw [ev2] at hx2
  obtain ⟨h2, hx2⟩ := Prod.mk.inj hx2
  cases hx2
  conv => arg 9; dsimp only [List.cons_append, List.nil_append]
  try conv => arg 7; dsimp only
  repeat' (first
    | refine XStep ?_
    | refine Fa.mk fun b => ?_
    | refine Fb.mk fun b2 => ?_
    | refine Fz.mk fun z => ?_
    | (refine Gd.mk (fun h => ?_) (fun h => ?_) <;> try (first | (exfalso; omega) | exact absurd rfl h | (exfalso; simp at h <;> omega)))
    | refine Ands.mk ?_ ?_
    | (refine XC.is ?_; refine W110 ?_; refine XC.planG (by kernel_rfl) (fun _ m h => h.drewn m) ?_; (conv => arg 5; reduce); refine XG0.of ?_; (conv => arg 5; reduce); (conv => arg 6; reduce); refine XG.go (by decide +kernel) ?_))
  refine XL.trir (parse_tri tokens_tri src3) (by rfl) (by rfl) (by rfl) (by rfl) (by rfl) (by rfl) (by rfl) (by (repeat' (first | exact Sels.nil | exact Sel.here | apply Sels.cons | apply Sel.there)); done) (by (repeat (first | exact sub0 | refine subC (by repeat (first | exact List.Mem.head _ | apply List.Mem.tail)) ?_)); done) ?_
  rintro ⟨x3, a3, k3⟩ hx3
  dsimp only at hx3
  rw [ev3] at hx3
  obtain ⟨h3, hx3⟩ := Prod.mk.inj hx3
  cases hx3
  conv => arg 9; dsimp only [List.cons_append, List.nil_append]
  try conv => arg 7; dsimp only
  obtain ⟨y1, hy1, u1, hu1, p1, s1, s2, v1⟩ := shape1 h1
  obtain ⟨y2, hy2, u2, hu2, v2, hl3⟩ := shape2 h2
  clear h1 h2 h3 hx1 hx2 hx3
  have gy0 : (ndC [y1])[0]? = some (.int .i64 y1.kind) := rfl
  have gy3 : (ndC [y1])[3]? = some (.int .i64 y1.t.kind) := rfl
  have gy4 : (ndC [y1])[4]? = some (.int .i64 y1.t.n) := rfl
  have gy6 : (ndC [y1])[6]? = some y1.t.ofv := rfl
  have gz0 : (ndC [y2])[0]? = some (.int .i64 y2.kind) := rfl
  have gz3 : (ndC [y2])[3]? = some (.int .i64 y2.t.kind) := rfl
  have gz6 : (ndC [y2])[6]? = some y2.t.ofv := rfl
  have gu0 : (tyC [u1])[0]? = some (.int .i64 u1.kind) := rfl
  have gw0 : (tyC [u2])[0]? = some (.int .i64 u2.kind) := rfl
  have gw3 : (tyC [u2])[3]? = some u2.ofv := rfl
  refine XL.conv (fun w h => ((((((((h.ndRow1 (x := x1) (by repeat (first | exact List.Mem.head _ | apply List.Mem.tail)) hy1).ndTy (x := y1) (.head _)).tyRow1 (.head _) hu1).ndRow1 (x := x2) (by repeat (first | exact List.Mem.head _ | apply List.Mem.tail)) hy2).ndTy (x := y2) (.head _)).tyRow1 (.head _) hu2).tyRowF (x := u2) (.head _)).forget (Φ' := [Row.fp 4 u2.ofv u2.of.length (tyC u2.of), Row.fp 4 y2.t.ofv 1 (tyC [u2]), Row.fp 8 x2.kv 1 (ndC [y2]), Row.fp 4 y1.t.ofv 1 (tyC [u1]), Row.fp 8 x1.kv 1 (ndC [y1])]) (by (repeat (first | exact sub0 | refine subC (by repeat (first | exact List.Mem.head _ | apply List.Mem.tail)) ?_)); done))) ?_
  generalize ndC [y1] = C1 at *
  generalize ndC [y2] = C2 at *
  generalize tyC [u1] = C3 at *
  generalize tyC [u2] = C4 at *
  generalize x1.kv = V1 at *
  generalize x2.kv = V2 at *
  generalize y1.t.ofv = Wa at *
  generalize y2.t.ofv = Wb at *
  generalize u2.ofv = Wc at *
  repeat' (first
    | refine XStep ?_
    | refine Fa.mk fun b => ?_
    | refine Fb.mk fun b2 => ?_
    | refine Fz.mk fun z => ?_
    | (refine Gd.mk (fun h => ?_) (fun h => ?_) <;> try (first | (exfalso; omega) | exact absurd rfl h | (exfalso; simp at h <;> omega)))
    | refine Ands.mk ?_ ?_
    | (refine XC.is ?_; refine W110 ?_; refine XC.planG (by kernel_rfl) (fun _ m h => h.drewn m) ?_; (conv => arg 5; reduce); refine XG0.of ?_; (conv => arg 5; reduce); (conv => arg 6; reduce); refine XG.go (by decide +kernel) ?_))
  refine XQ.done1 (by rfl) (by rfl) (⟨rfl, rfl, rfl⟩) (by (repeat' (first | exact Sels.nil | exact Sel.here | apply Sels.cons | apply Sel.there)); done) (by (repeat (first | exact sub0 | refine subC (by repeat (first | exact List.Mem.head _ | apply List.Mem.tail)) ?_)); done)
#print axioms shown_tri
end Go.Proofs.Ytjnineeeffecaaa
