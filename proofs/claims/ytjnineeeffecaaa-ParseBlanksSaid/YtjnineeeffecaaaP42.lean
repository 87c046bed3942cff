/- Law: a source and the text of its tokens are read as the same tree, or refused with the same error. -/
import Derived.Test.YtjnineeeffecaaaP27
import Derived.Test.YtjnineeeffecaaaP41
namespace Go.Proofs.Ytjnineeeffecaaa
open Go X
set_option maxRecDepth 100000
set_option maxHeartbeats 4000000
theorem parseA_nd {s : List UInt8} : (parseA s).1.ok 30000 := by
  rcases parseA_ok (s := s) with h | h
  · rw [h.2.1]
    exact nil_ok
  · exact h.2.1
attribute [local irreducible] XC XL XQ Tri blk Shows Sq Rd Mt inBlockX XS XG XG0 TkS AnS rowO tyFP tysFP ndFP ndsFP Row.fp FP.all
theorem blanks_tri (s : List UInt8) : Tri Try.prog 9 [.string (tx s)] [] [gF] fun e L Φ => e = .returned (.bool true) ∧ L = [] ∧ Φ = [] := by
  refine Tri.of Try.func9 rfl fun c => ?_
  repeat' (first
    | refine XStep ?_
    | refine Fa.mk fun b => ?_
    | refine Fb.mk fun b2 => ?_
    | refine Fz.mk fun z => ?_
    | (refine Gd.mk (fun h => ?_) (fun h => ?_) <;> try (first | (exfalso; omega) | exact absurd rfl h | (exfalso; simp at h <;> omega)))
    | refine Ands.mk ?_ ?_
    | (refine XC.is ?_; refine W110 ?_; refine XC.planG (by kernel_rfl) (fun _ m h => h.drewn m) ?_; (conv => arg 5; reduce); refine XG0.of ?_; (conv => arg 5; reduce); (conv => arg 6; reduce); refine XG.go (by decide +kernel) ?_))
  refine XL.triq (shown_tri) (by rfl) (by rfl) (by rfl) (by rfl) (by rfl) (by rfl) (by rfl) (by (repeat' (first | exact Sels.nil | exact Sel.here | apply Sels.cons | apply Sel.there)); done) (by (repeat' (first | exact Sels.nil | exact Sel.here | apply Sels.cons | apply Sel.there)); done) (by (repeat (first | exact sub0 | refine subC (by repeat (first | exact List.Mem.head _ | apply List.Mem.tail)) ?_)); done) ?_
  repeat' (first
    | refine XStep ?_
    | refine Fa.mk fun b => ?_
    | refine Fb.mk fun b2 => ?_
    | refine Fz.mk fun z => ?_
    | (refine Gd.mk (fun h => ?_) (fun h => ?_) <;> try (first | (exfalso; omega) | exact absurd rfl h | (exfalso; simp at h <;> omega)))
    | refine Ands.mk ?_ ?_
    | (refine XC.is ?_; refine W110 ?_; refine XC.planG (by kernel_rfl) (fun _ m h => h.drewn m) ?_; (conv => arg 5; reduce); refine XG0.of ?_; (conv => arg 5; reduce); (conv => arg 6; reduce); refine XG.go (by decide +kernel) ?_))
  refine XL.trir (tokens_tri s) (by rfl) (by rfl) (by rfl) (by rfl) (by rfl) (by rfl) (by rfl) (by (repeat' (first | exact Sels.nil | exact Sel.here | apply Sels.cons | apply Sel.there)); done) (by (repeat (first | exact sub0 | refine subC (by repeat (first | exact List.Mem.head _ | apply List.Mem.tail)) ?_)); done) ?_
  rintro ⟨v, r⟩ hr
  dsimp only at hr
  cases r with
  | bad t k =>
    have hk := (lexS_bad hr.symm).2.2
    dsimp only
    conv => arg 9; dsimp only [List.cons_append, List.nil_append]
    try conv => arg 7; dsimp only
    refine XL.conv (fun w h => (h.nilRow 60 4).rowFreeze (e := 60) (size := 4) .here) ?_
    repeat' (first
      | refine XStep ?_
      | refine Fa.mk fun b => ?_
      | refine Fb.mk fun b2 => ?_
      | refine Fz.mk fun z => ?_
      | (refine Gd.mk (fun h => ?_) (fun h => ?_) <;> try (first | (exfalso; omega) | exact absurd rfl h | (exfalso; simp at h <;> omega)))
      | refine Ands.mk ?_ ?_
      | (refine XC.is ?_; refine W110 ?_; refine XC.planG (by kernel_rfl) (fun _ m h => h.drewn m) ?_; (conv => arg 5; reduce); refine XG0.of ?_; (conv => arg 5; reduce); (conv => arg 6; reduce); refine XG.go (by decide +kernel) ?_))
    refine XL.triq (text_tri (v := .slice none 0 0) (T := []) (by simp) (by simp)) (by rfl) (by rfl) (by rfl) (by rfl) (by rfl) (by rfl) (by rfl) (by (repeat' (first | exact Sels.nil | exact Sel.here | apply Sels.cons | apply Sel.there)); done) (by (repeat' (first | exact Sels.nil | exact Sel.here | apply Sels.cons | apply Sel.there)); done) (by (repeat (first | exact sub0 | refine subC (by repeat (first | exact List.Mem.head _ | apply List.Mem.tail)) ?_)); done) ?_
    repeat' (first
      | refine XStep ?_
      | refine Fa.mk fun b => ?_
      | refine Fb.mk fun b2 => ?_
      | refine Fz.mk fun z => ?_
      | (refine Gd.mk (fun h => ?_) (fun h => ?_) <;> try (first | (exfalso; omega) | exact absurd rfl h | (exfalso; simp at h <;> omega)))
      | refine Ands.mk ?_ ?_
      | (refine XC.is ?_; refine W110 ?_; refine XC.planG (by kernel_rfl) (fun _ m h => h.drewn m) ?_; (conv => arg 5; reduce); refine XG0.of ?_; (conv => arg 5; reduce); (conv => arg 6; reduce); refine XG.go (by decide +kernel) ?_))
    refine XQ.done1 (by rfl) (by rfl) (⟨rfl, rfl, rfl⟩) (by (repeat' (first | exact Sels.nil | exact Sel.here | apply Sels.cons | apply Sel.there)); done) (by (repeat (first | exact sub0 | refine subC (by repeat (first | exact List.Mem.head _ | apply List.Mem.tail)) ?_)); done)
  | ok T =>
    have hx := lexS_lx hr.symm
    obtain ⟨hs, hn⟩ := lx_sum hx.2
    rw [List.map_map] at hs
    rw [List.length_map] at hn
    have hb := parse_blanks hr.symm
    dsimp only
    conv => arg 9; dsimp only [List.cons_append, List.nil_append]
    try conv => arg 7; dsimp only
    refine XL.conv (fun w h => h.rowFreeze (e := 60) (size := 4) (by repeat (first | exact Sel.here | apply Sel.there))) ?_
    repeat' (first
      | refine XStep ?_
      | refine Fa.mk fun b => ?_
      | refine Fb.mk fun b2 => ?_
      | refine Fz.mk fun z => ?_
      | (refine Gd.mk (fun h => ?_) (fun h => ?_) <;> try (first | (exfalso; omega) | exact absurd rfl h | (exfalso; simp at h <;> omega)))
      | refine Ands.mk ?_ ?_
      | (refine XC.is ?_; refine W110 ?_; refine XC.planG (by kernel_rfl) (fun _ m h => h.drewn m) ?_; (conv => arg 5; reduce); refine XG0.of ?_; (conv => arg 5; reduce); (conv => arg 6; reduce); refine XG.go (by decide +kernel) ?_))
    refine XL.triq (text_tri (v := v) (T := T) (Nat.le_trans hn hx.1) (Nat.le_trans hs hx.1)) (by rfl) (by rfl) (by rfl) (by rfl) (by rfl) (by rfl) (by rfl) (by (repeat' (first | exact Sels.nil | exact Sel.here | apply Sels.cons | apply Sel.there)); done) (by (repeat' (first | exact Sels.nil | exact Sel.here | apply Sels.cons | apply Sel.there)); done) (by (repeat (first | exact sub0 | refine subC (by repeat (first | exact List.Mem.head _ | apply List.Mem.tail)) ?_)); done) ?_
    generalize Lib.join (T.map fun t => t.text.data.toList) [32] = l at *
    clear hs hn hx hr
    repeat' (first
      | refine XStep ?_
      | refine Fa.mk fun b => ?_
      | refine Fb.mk fun b2 => ?_
      | refine Fz.mk fun z => ?_
      | (refine Gd.mk (fun h => ?_) (fun h => ?_) <;> try (first | (exfalso; omega) | exact absurd rfl h | (exfalso; simp at h <;> omega)))
      | refine Ands.mk ?_ ?_
      | (refine XC.is ?_; refine W110 ?_; refine XC.planG (by kernel_rfl) (fun _ m h => h.drewn m) ?_; (conv => arg 5; reduce); refine XG0.of ?_; (conv => arg 5; reduce); (conv => arg 6; reduce); refine XG.go (by decide +kernel) ?_))
    · refine XQ.done1 (by rfl) (by rfl) (⟨rfl, rfl, rfl⟩) (by (repeat' (first | exact Sels.nil | exact Sel.here | apply Sels.cons | apply Sel.there)); done) (by (repeat (first | exact sub0 | refine subC (by repeat (first | exact List.Mem.head _ | apply List.Mem.tail)) ?_)); done)
    have hb := hb (by omega)
    refine XL.trir (parse_tri tokens_tri s) (by rfl) (by rfl) (by rfl) (by rfl) (by rfl) (by rfl) (by rfl) (by (repeat' (first | exact Sels.nil | exact Sel.here | apply Sels.cons | apply Sel.there)); done) (by (repeat (first | exact sub0 | refine subC (by repeat (first | exact List.Mem.head _ | apply List.Mem.tail)) ?_)); done) ?_
    rintro ⟨x, a, k⟩ hx
    dsimp only at hx
    conv => arg 9; dsimp only [List.cons_append, List.nil_append]
    try conv => arg 7; dsimp only
    repeat' (first
      | refine XStep ?_
      | refine Fa.mk fun b => ?_
      | refine Fb.mk fun b2 => ?_
      | refine Fz.mk fun z => ?_
      | (refine Gd.mk (fun h => ?_) (fun h => ?_) <;> try (first | (exfalso; omega) | exact absurd rfl h | (exfalso; simp at h <;> omega)))
      | refine Ands.mk ?_ ?_
      | (refine XC.is ?_; refine W110 ?_; refine XC.planG (by kernel_rfl) (fun _ m h => h.drewn m) ?_; (conv => arg 5; reduce); refine XG0.of ?_; (conv => arg 5; reduce); (conv => arg 6; reduce); refine XG.go (by decide +kernel) ?_))
    refine XL.trir (parse_tri tokens_tri l) (by rfl) (by rfl) (by rfl) (by rfl) (by rfl) (by rfl) (by rfl) (by (repeat' (first | exact Sels.nil | exact Sel.here | apply Sels.cons | apply Sel.there)); done) (by (repeat (first | exact sub0 | refine subC (by repeat (first | exact List.Mem.head _ | apply List.Mem.tail)) ?_)); done) ?_
    rintro ⟨y, a2, k2⟩ hy
    dsimp only at hy
    rw [← hx, ← hy] at hb
    obtain ⟨h1, h2⟩ := hb
    dsimp only at h1 h2
    subst h2
    have hok : x.nd.ok 30000 := by
      have := parseA_nd (s := s)
      rwa [← hx] at this
    clear hx hy
    conv => arg 9; dsimp only [List.cons_append, List.nil_append]
    try conv => arg 7; dsimp only
    repeat' (first
      | refine XStep ?_
      | refine Fa.mk fun b => ?_
      | refine Fb.mk fun b2 => ?_
      | refine Fz.mk fun z => ?_
      | (refine Gd.mk (fun h => ?_) (fun h => ?_) <;> try (first | (exfalso; omega) | exact absurd rfl h | (exfalso; simp at h <;> omega)))
      | refine Ands.mk ?_ ?_
      | (refine XC.is ?_; refine W110 ?_; refine XC.planG (by kernel_rfl) (fun _ m h => h.drewn m) ?_; (conv => arg 5; reduce); refine XG0.of ?_; (conv => arg 5; reduce); (conv => arg 6; reduce); refine XG.go (by decide +kernel) ?_))
    refine XL.triq (Same_tri (x := x) (y := y) h1.symm hok) (by rfl) (by rfl) (by rfl) (by rfl) (by rfl) (by rfl) (by rfl) (by (repeat' (first | exact Sels.nil | exact Sel.here | apply Sels.cons | apply Sel.there)); done) (by (repeat' (first | exact Sels.nil | exact Sel.here | apply Sels.cons | apply Sel.there)); done) (by (repeat (first | exact sub0 | refine subC (by repeat (first | exact List.Mem.head _ | apply List.Mem.tail)) ?_)); done) ?_
    repeat' (first
      | refine XStep ?_
      | refine Fa.mk fun b => ?_
      | refine Fb.mk fun b2 => ?_
      | refine Fz.mk fun z => ?_
      | (refine Gd.mk (fun h => ?_) (fun h => ?_) <;> try (first | (exfalso; omega) | exact absurd rfl h | (exfalso; simp at h <;> omega)))
      | refine Ands.mk ?_ ?_
      | (refine XC.is ?_; refine W110 ?_; refine XC.planG (by kernel_rfl) (fun _ m h => h.drewn m) ?_; (conv => arg 5; reduce); refine XG0.of ?_; (conv => arg 5; reduce); (conv => arg 6; reduce); refine XG.go (by decide +kernel) ?_))
    refine XQ.done1 (by rfl) (by rfl) (⟨rfl, rfl, rfl⟩) (by (repeat' (first | exact Sels.nil | exact Sel.here | apply Sels.cons | apply Sel.there)); done) (by (repeat (first | exact sub0 | refine subC (by repeat (first | exact List.Mem.head _ | apply List.Mem.tail)) ?_)); done)
theorem parseBlanks_walk (s : ByteArray) (w : World) (_ : s.size ≤ maxLen) (hsh : w.ShapedOpen Try.prog) :
    Calls Try.prog 9 #[.string s] w fun e w' => e = .returned (.bool true) ∧ RowKit.Below w.heap.size w w' := by
  obtain ⟨⟨l⟩⟩ := s
  exact Tri.top (blanks_tri l) (gF_of hsh)
namespace parseBlanks
open Go.ChangeShapes Go.WideShapes Go.ChangeAt Go.RowKit
set_option maxRecDepth 100000 in
theorem lifted (os : Os) (started : os.Started) (H : Type) (enc : TypeId × Value → H) :
    ReturnsInHanded {} Try.checked os 9 .any (Rows.parseBlanksSpec.pre6 enc Try.prog Try.f9 Rows.parseBlanksRow.domain false) (Rows.parseBlanksSpec.post enc Try.prog Try.f9 false true false false) := by
  refine returnsInHanded_of_change_shaped (C := Try.checked) own started (by kernel_rfl) Try.func9
    (ChangeSpec.witness6 (enc := enc) (C := Try.checked) false ⟨#[], #[.string ⟨#[]⟩], []⟩ 8 (by kernel_rfl) (by kernel_rfl) (by kernel_rfl) (by kernel_rfl)) ?_
  intro W base args ds gs before hval0 hW hcnd _ hsh _
  have hval : ∀ (j : Nat) t v, Try.f9.params[j]? = some t → args[j]? = some v → Value.okWide Try.prog W .any base t v := hval0
  have hW' := hW
  obtain ⟨p, q, hA0, hV, rfl, hfz, hnd⟩ := hW
  have hA : DataW.TrodAll enc Try.prog W 0 (fun _ => true) true Try.f9.params.toList args.toList ds p := hA0
  rw [Try.params9] at hA hval
  obtain ⟨v0, vs0, d0, ds0, p0, q0, hargs, rfl, rfl, h0, r0⟩ := trodAll_cons hA
  obtain ⟨rfl, rfl, rfl⟩ := trodAll_nil r0
  obtain rfl : args = #[v0] := by cases args; simp_all
  obtain ⟨a0, rfl, rfl, rfl, w0⟩ := Go.ChangeMaps.open_string Try.underlying9 (hval 0 9 v0 rfl rfl) h0
  refine (parseBlanks_walk a0 W w0 hsh).mono fun e W' ⟨he, hg⟩ => ?_
  subst he
  exact ⟨_, rfl, law_post hW' rfl (by kernel_rfl) (fun t ht => by have ht : t ∈ [9] := ht; simp only [List.mem_cons, List.not_mem_nil, or_false] at ht; rcases ht with rfl <;> exact ⟨by kernel_rfl, of_decide_eq_true (by kernel_rfl)⟩) (T := 4) (by rfl) Try.underlying4
    (fun ds hl => by match ds, hl with | [e0], _ => exact ⟨rfl, rfl, rfl⟩) hg⟩
theorem over : Rows.parseBlanksRow.holds Try.pinned (OpenSpec.ofChange Rows.parseBlanksSpec) :=
  OpenClaim.holds_of_wide 9 Try.f9 rfl rfl rfl rfl rfl rfl rfl ⟨rfl, rfl, rfl, rfl, rfl⟩ rfl rfl rfl rfl rfl (by kernel_rfl) Try.func9 (by kernel_rfl)
    (of_decide_eq_true (by kernel_rfl)) (by unfold Func.isWrapper; first | (rw [if_pos (by decide +kernel)]; kernel_rfl) | (rw [if_neg (by decide +kernel)]; exact ⟨rfl, rfl⟩))
    (fun os started H enc _ => lifted os started H enc)
theorem proved : Rows.ParseBlanksSaid := over
end parseBlanks
#print axioms parseBlanks.proved
end Go.Proofs.Ytjnineeeffecaaa
