/- Law: a source that is refused has no tree, and the place stands within it; one that is read has a whole, of items, no deeper than may be. -/
import Derived.Test.YtjnineeeffecaaaP26
import Derived.Test.YtjnineeeffecaaaPL
import Derived.Test.YtjnineeeffecaaaX9
import Derived.HandedShaped
import Derived.Test.YtjnineeeffecaaaChecked
import Derived.Test.YtjnineeeffecaaaRows
namespace Go.Proofs.Ytjnineeeffecaaa
open Go X
set_option maxRecDepth 100000
set_option maxHeartbeats 4000000
/-- What a parse comes to. -/
theorem parseA_ok {s : List UInt8} : ((parseA s).2.2 ≠ 0 ∧ (parseA s).1 = .nil ∧ 0 ≤ (parseA s).2.1 ∧ (parseA s).2.1 ≤ s.length) ∨
    ((parseA s).2 = (0, 0) ∧ (parseA s).1.ok 30000 ∧ (parseA s).1.kind = 23 ∧ depthL 250 (parseA s).1 ≤ 250 ∧ ∀ y ∈ (parseA s).1.kids, y.kind = 20 ∨ y.kind = 21 ∨ y.kind = 22) := by
  unfold parseA
  cases h : lexS s with
  | bad t k =>
    have := lexS_bad h
    exact .inl ⟨this.2.2, rfl, this.1, this.2.1⟩
  | ok T =>
    have hS := lexS_ok h
    have hw := unit_w hS 0
    dsimp only
    unfold parseT
    cases hu : unitF ⟨T, s.length⟩ ((Src.mk T s.length).T.length + 1) [] 0 with
    | bad t k =>
      rw [hu] at hw
      exact .inl ⟨hw.2.2, rfl, hw.1, hw.2.1⟩
    | ok l j =>
      have hk := unit_ok hS hu
      rw [hu] at hw
      dsimp only
      split
      · exact .inl ⟨by decide, rfl, Int.le_refl _, by simp⟩
      · rename_i hd
        exact .inr ⟨rfl, hk, rfl, Nat.le_of_not_lt hd, fun y hy => (hw.2 y hy).2⟩
theorem nilN_nd : nilN.nd = .nil := by simp [NdM.nd, NdM.nds, TyM.ty, TyM.tys]
theorem nil_ok : Nd.nil.ok 30000 := nok0 (ok0 _ _ _)
theorem nd_kind (x : NdM) : x.nd.kind = x.kind := by cases x; rfl
attribute [local irreducible] XC XL XQ Tri blk Shows Sq Rd Mt inBlockX XS XG XG0 TkS AnS rowO tyFP tysFP ndFP ndsFP Row.fp FP.all
theorem places_tri (s : List UInt8) : Tri Try.prog 5 [.string (tx s)] [] [gF] fun e L Φ => e = .returned (.bool true) ∧ L = [] ∧ Φ = [] := by
  refine Tri.of Try.func5 rfl fun c => ?_
  repeat' (first
    | refine XStep ?_
    | refine Fa.mk fun b => ?_
    | refine Fb.mk fun b2 => ?_
    | refine Fz.mk fun z => ?_
    | (refine Gd.mk (fun h => ?_) (fun h => ?_) <;> try (first | (exfalso; omega) | exact absurd rfl h | (exfalso; simp at h <;> omega)))
    | refine Ands.mk ?_ ?_
    | (refine XC.is ?_; refine W110 ?_; refine XC.planG (by kernel_rfl) (fun _ m h => h.drewn m) ?_; (conv => arg 5; reduce); refine XG0.of ?_; (conv => arg 5; reduce); (conv => arg 6; reduce); refine XG.go (by decide +kernel) ?_))
  refine XL.triq (shown_tri) (by rfl) (by rfl) (by rfl) (by rfl) (by rfl) (by rfl) (by rfl) (by (repeat' (first | exact Sels.nil | exact Sel.here | apply Sels.cons | apply Sel.there)); done) (by (repeat' (first | exact Sels.nil | exact Sel.here | apply Sels.cons | apply Sel.there)); done) (by (repeat (first | exact sub0 | refine subC (by repeat (first | exact List.Mem.head _ | apply List.Mem.tail)) ?_)); done) ?_
  repeat' (first
    | refine XStep ?_
    | refine Fa.mk fun b => ?_
    | refine Fb.mk fun b2 => ?_
    | refine Fz.mk fun z => ?_
    | (refine Gd.mk (fun h => ?_) (fun h => ?_) <;> try (first | (exfalso; omega) | exact absurd rfl h | (exfalso; simp at h <;> omega)))
    | refine Ands.mk ?_ ?_
    | (refine XC.is ?_; refine W110 ?_; refine XC.planG (by kernel_rfl) (fun _ m h => h.drewn m) ?_; (conv => arg 5; reduce); refine XG0.of ?_; (conv => arg 5; reduce); (conv => arg 6; reduce); refine XG.go (by decide +kernel) ?_))
  refine XL.trir (parse_tri tokens_tri s) (by rfl) (by rfl) (by rfl) (by rfl) (by rfl) (by rfl) (by rfl) (by (repeat' (first | exact Sels.nil | exact Sel.here | apply Sels.cons | apply Sel.there)); done) (by (repeat (first | exact sub0 | refine subC (by repeat (first | exact List.Mem.head _ | apply List.Mem.tail)) ?_)); done) ?_
  rintro ⟨x, a, k⟩ hx
  dsimp only at hx
  have hp := parseA_ok (s := s)
  rw [← hx] at hp
  dsimp only at hp
  clear hx
  conv => arg 9; dsimp only [List.cons_append, List.nil_append]
  try conv => arg 7; dsimp only
  by_cases hk : k = 0
  · have hp := hp.resolve_left (fun h => h.1 hk)
    obtain ⟨h1, h2, h3, h4, h5⟩ := hp
    obtain ⟨rfl, -⟩ := Prod.mk.inj h1
    subst hk
    repeat' (first
      | refine XStep ?_
      | refine Fa.mk fun b => ?_
      | refine Fb.mk fun b2 => ?_
      | refine Fz.mk fun z => ?_
      | (refine Gd.mk (fun h => ?_) (fun h => ?_) <;> try (first | (exfalso; omega) | exact absurd rfl h | (exfalso; simp at h <;> omega)))
      | refine Ands.mk ?_ ?_
      | (refine XC.is ?_; refine W110 ?_; refine XC.planG (by kernel_rfl) (fun _ m h => h.drewn m) ?_; (conv => arg 5; reduce); refine XG0.of ?_; (conv => arg 5; reduce); (conv => arg 6; reduce); refine XG.go (by decide +kernel) ?_))
    obtain ⟨hl, hk, ht⟩ := nd_ok h2
    rw [nd_kids, NdM.nds_eq] at h5
    have h3 : x.kind = 23 := by
      cases x
      exact h3
    refine XC.conv (fun w h => (h.ndRowF (x := x) (.head _)).ndKids (x := x) (.tail _ (.head _))) ?_
    refine XC.loop (fun i : Nat => [(3, .bool true), (4, .pointer (some ⟨b, 0, none⟩)), (5, .int .i64 0), (7, .int .i64 (i : Int))])
      (fun i w => i ≤ x.kids.length ∧ St c [cel b x.cells.toArray 27] [ndsFP x.kids, Row.fp 8 x.kv x.kids.length (ndC x.kids), ndFP x] w) (fun i => x.kids.length - i) 0 (by (repeat (first | exact fits_nil | refine fits_cons (by rfl) ?_)); done) (fun w h => ⟨by omega, h.less (by (repeat' (first | exact Sels.nil | exact Sel.here | apply Sels.cons | apply Sel.there)); done) (by (repeat (first | exact sub0 | refine subC (by repeat (first | exact List.Mem.head _ | apply List.Mem.tail)) ?_)); done)⟩) ?_
    intro i
    refine XC.pure (fun hi => ?_)
    by_cases hlt : i < x.kids.length
    · obtain ⟨z, hz, mz⟩ := get_of_lt hlt
      have aZ := nd_at hz
      have hk := h5 _ (List.mem_map_of_mem mz)
      rw [nd_kind] at hk
      repeat' (first
        | refine XStep ?_
        | refine Fa.mk fun b => ?_
        | refine Fb.mk fun b2 => ?_
        | refine Fz.mk fun z => ?_
        | (refine Gd.mk (fun h => ?_) (fun h => ?_) <;> try (first | (exfalso; omega) | exact absurd rfl h | (exfalso; simp at h <;> omega)))
        | refine Ands.mk ?_ ?_
        | (refine XC.is ?_; refine W110 ?_; refine XC.planG (by kernel_rfl) (fun _ m h => h.drewn m) ?_; (conv => arg 5; reduce); refine XG0.of ?_; (conv => arg 5; reduce); (conv => arg 6; reduce); refine XG.go (by decide +kernel) ?_))
      all_goals first | (exfalso; omega) | exact XQ.round (i + 1) (by (repeat (first | exact fits_nil | refine fits_cons (by rfl) ?_)); done) (fun w hw => ⟨by omega, hw.less (by (repeat' (first | exact Sels.nil | exact Sel.here | apply Sels.cons | apply Sel.there)); done) (by (repeat (first | exact sub0 | refine subC (by repeat (first | exact List.Mem.head _ | apply List.Mem.tail)) ?_)); done)⟩) (by omega)
    · repeat' (first
        | refine XStep ?_
        | refine Fa.mk fun b => ?_
        | refine Fb.mk fun b2 => ?_
        | refine Fz.mk fun z => ?_
        | (refine Gd.mk (fun h => ?_) (fun h => ?_) <;> try (first | (exfalso; omega) | exact absurd rfl h | (exfalso; simp at h <;> omega)))
        | refine Ands.mk ?_ ?_
        | (refine XC.is ?_; refine W110 ?_; refine XC.planG (by kernel_rfl) (fun _ m h => h.drewn m) ?_; (conv => arg 5; reduce); refine XG0.of ?_; (conv => arg 5; reduce); (conv => arg 6; reduce); refine XG.go (by decide +kernel) ?_))
      refine XL.triq (Depth_tri (B := 30000) (by decide) h2) (by rfl) (by rfl) (by rfl) (by rfl) (by rfl) (by rfl) (by rfl) (by (repeat' (first | exact Sels.nil | exact Sel.here | apply Sels.cons | apply Sel.there)); done) (by (repeat' (first | exact Sels.nil | exact Sel.here | apply Sels.cons | apply Sel.there)); done) (by (repeat (first | exact sub0 | refine subC (by repeat (first | exact List.Mem.head _ | apply List.Mem.tail)) ?_)); done) ?_
      repeat' (first
        | refine XStep ?_
        | refine Fa.mk fun b => ?_
        | refine Fb.mk fun b2 => ?_
        | refine Fz.mk fun z => ?_
        | (refine Gd.mk (fun h => ?_) (fun h => ?_) <;> try (first | (exfalso; omega) | exact absurd rfl h | (exfalso; simp at h <;> omega)))
        | refine Ands.mk ?_ ?_
        | (refine XC.is ?_; refine W110 ?_; refine XC.planG (by kernel_rfl) (fun _ m h => h.drewn m) ?_; (conv => arg 5; reduce); refine XG0.of ?_; (conv => arg 5; reduce); (conv => arg 6; reduce); refine XG.go (by decide +kernel) ?_))
      refine XQ.done1 (by rfl) (by rfl) (⟨congrArg (fun b => Ending.returned (.bool b)) (decide_eq_true rfl), rfl, rfl⟩) (by (repeat' (first | exact Sels.nil | exact Sel.here | apply Sels.cons | apply Sel.there)); done) (by (repeat (first | exact sub0 | refine subC (by repeat (first | exact List.Mem.head _ | apply List.Mem.tail)) ?_)); done)
  · have hp := hp.resolve_right (fun h => hk (congrArg Prod.snd h.1))
    repeat' (first
      | refine XStep ?_
      | refine Fa.mk fun b => ?_
      | refine Fb.mk fun b2 => ?_
      | refine Fz.mk fun z => ?_
      | (refine Gd.mk (fun h => ?_) (fun h => ?_) <;> try (first | (exfalso; omega) | exact absurd rfl h | (exfalso; simp at h <;> omega)))
      | refine Ands.mk ?_ ?_
      | (refine XC.is ?_; refine W110 ?_; refine XC.planG (by kernel_rfl) (fun _ m h => h.drewn m) ?_; (conv => arg 5; reduce); refine XG0.of ?_; (conv => arg 5; reduce); (conv => arg 6; reduce); refine XG.go (by decide +kernel) ?_))
    refine XL.conv (fun w h => (h.nilTy).ndLeaf 0 0 (tx []) TyM.nil (.head _)) ?_
    refine XL.triq (Same_tri (x := x) (y := nilN) (by rw [nilN_nd]; exact hp.2.1) (by rw [hp.2.1]; exact nil_ok)) (by rfl) (by rfl) (by rfl) (by rfl) (by rfl) (by rfl) (by rfl) (by (repeat' (first | exact Sels.nil | exact Sel.here | apply Sels.cons | apply Sel.there)); done) (by (repeat' (first | exact Sels.nil | exact Sel.here | apply Sels.cons | apply Sel.there)); done) (by (repeat (first | exact sub0 | refine subC (by repeat (first | exact List.Mem.head _ | apply List.Mem.tail)) ?_)); done) ?_
    repeat' (first
      | refine XStep ?_
      | refine Fa.mk fun b => ?_
      | refine Fb.mk fun b2 => ?_
      | refine Fz.mk fun z => ?_
      | (refine Gd.mk (fun h => ?_) (fun h => ?_) <;> try (first | (exfalso; omega) | exact absurd rfl h | (exfalso; simp at h <;> omega)))
      | refine Ands.mk ?_ ?_
      | (refine XC.is ?_; refine W110 ?_; refine XC.planG (by kernel_rfl) (fun _ m h => h.drewn m) ?_; (conv => arg 5; reduce); refine XG0.of ?_; (conv => arg 5; reduce); (conv => arg 6; reduce); refine XG.go (by decide +kernel) ?_))
    refine XQ.done1 (by rfl) (by rfl) (⟨congrArg (fun b => Ending.returned (.bool b)) (decide_eq_true (by omega)), rfl, rfl⟩) (by (repeat' (first | exact Sels.nil | exact Sel.here | apply Sels.cons | apply Sel.there)); done) (by (repeat (first | exact sub0 | refine subC (by repeat (first | exact List.Mem.head _ | apply List.Mem.tail)) ?_)); done)
theorem own : ownKnob Try.prog.godebug = none := by kernel_rfl
theorem gF_of {w : World} (hsh : w.ShapedOpen Try.prog) : ∀ φ ∈ [gF], φ.h (fun _ => False) w := fun φ h => by
  rcases List.mem_singleton.1 h
  exact ⟨sh_laysM143.s1_3 w hsh, fun h => h⟩
theorem parsePlaces_walk (s : ByteArray) (w : World) (_ : s.size ≤ maxLen) (hsh : w.ShapedOpen Try.prog) :
    Calls Try.prog 5 #[.string s] w fun e w' => e = .returned (.bool true) ∧ RowKit.Below w.heap.size w w' := by
  obtain ⟨⟨l⟩⟩ := s
  exact Tri.top (places_tri l) (gF_of hsh)
namespace parsePlaces
open Go.ChangeShapes Go.WideShapes Go.ChangeAt Go.RowKit
set_option maxRecDepth 100000 in
theorem lifted (os : Os) (started : os.Started) (H : Type) (enc : TypeId × Value → H) :
    ReturnsInHanded {} Try.checked os 5 .any (Rows.parsePlacesSpec.pre6 enc Try.prog Try.f5 Rows.parsePlacesRow.domain false) (Rows.parsePlacesSpec.post enc Try.prog Try.f5 false true false false) := by
  refine returnsInHanded_of_change_shaped (C := Try.checked) own started (by kernel_rfl) Try.func5
    (ChangeSpec.witness6 (enc := enc) (C := Try.checked) false ⟨#[], #[.string ⟨#[]⟩], []⟩ 8 (by kernel_rfl) (by kernel_rfl) (by kernel_rfl) (by kernel_rfl)) ?_
  intro W base args ds gs before hval0 hW hcnd _ hsh _
  have hval : ∀ (j : Nat) t v, Try.f5.params[j]? = some t → args[j]? = some v → Value.okWide Try.prog W .any base t v := hval0
  have hW' := hW
  obtain ⟨p, q, hA0, hV, rfl, hfz, hnd⟩ := hW
  have hA : DataW.TrodAll enc Try.prog W 0 (fun _ => true) true Try.f5.params.toList args.toList ds p := hA0
  rw [Try.params5] at hA hval
  obtain ⟨v0, vs0, d0, ds0, p0, q0, hargs, rfl, rfl, h0, r0⟩ := trodAll_cons hA
  obtain ⟨rfl, rfl, rfl⟩ := trodAll_nil r0
  obtain rfl : args = #[v0] := by cases args; simp_all
  obtain ⟨a0, rfl, rfl, rfl, w0⟩ := Go.ChangeMaps.open_string Try.underlying9 (hval 0 9 v0 rfl rfl) h0
  refine (parsePlaces_walk a0 W w0 hsh).mono fun e W' ⟨he, hg⟩ => ?_
  subst he
  exact ⟨_, rfl, law_post hW' rfl (by kernel_rfl) (fun t ht => by have ht : t ∈ [9] := ht; simp only [List.mem_cons, List.not_mem_nil, or_false] at ht; rcases ht with rfl <;> exact ⟨by kernel_rfl, of_decide_eq_true (by kernel_rfl)⟩) (T := 4) (by rfl) Try.underlying4
    (fun ds hl => by match ds, hl with | [e0], _ => exact ⟨rfl, rfl, rfl⟩) hg⟩
theorem over : Rows.parsePlacesRow.holds Try.pinned (OpenSpec.ofChange Rows.parsePlacesSpec) :=
  OpenClaim.holds_of_wide 5 Try.f5 rfl rfl rfl rfl rfl rfl rfl ⟨rfl, rfl, rfl, rfl, rfl⟩ rfl rfl rfl rfl rfl (by kernel_rfl) Try.func5 (by kernel_rfl)
    (of_decide_eq_true (by kernel_rfl)) (by unfold Func.isWrapper; first | (rw [if_pos (by decide +kernel)]; kernel_rfl) | (rw [if_neg (by decide +kernel)]; exact ⟨rfl, rfl⟩))
    (fun os started H enc _ => lifted os started H enc)
theorem proved : Rows.ParsePlacesSaid := over
end parsePlaces
#print axioms parsePlaces.proved
end Go.Proofs.Ytjnineeeffecaaa
