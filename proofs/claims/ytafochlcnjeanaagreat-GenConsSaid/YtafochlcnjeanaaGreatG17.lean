/- GenCons: whatever program is handed over, the law tells true, and the program reads as it did. -/
import Derived.Test.YtafochlcnjeanaaGreatG15
import Derived.Test.YtafochlcnjeanaaGreatG16
import Derived.Test.YtafochlcnjeanaaGreatRows
import Derived.Test.YtafochlcnjeanaaGreatX9
namespace Go.Proofs.YtafochlcnjeanaaGreat
open Go X
theorem own : ownKnob Tryz.prog.godebug = none := by kernel_rfl
theorem genCons_walk {p : ProgM} (hw : p.WF) (W : World) (hΦ : (progFP p).h (fun _ => False) W) : Calls Tryz.prog 3 #[p.v] W fun e W' => e = .returned (.bool true) ∧ RowKit.Below W.heap.size W W' :=
  Tri.top (genCons_tri hw) (fun φ hφ => by rw [List.mem_singleton.1 hφ]; exact hΦ)
namespace genCons
open Go.ChangeShapes Go.WideShapes Go.ChangeAt Go.RowKit
set_option maxRecDepth 100000 in
theorem lifted (os : Os) (started : os.Started) (H : Type) (enc : TypeId × Value → H) :
    ReturnsInHanded {} Tryz.checked os 3 .any (Rows.genConsSpec.pre6 enc Tryz.prog Tryz.f3 Rows.genConsRow.domain false) (Rows.genConsSpec.post enc Tryz.prog Tryz.f3 false true false false) := by
  refine returnsInHanded_of_change_sized (C := Tryz.checked) own started (by kernel_rfl) Tryz.func3
    (ChangeSpec.witness6 (enc := enc) (C := Tryz.checked) false ⟨#[], #[.agg #[.slice none 0 0, .slice none 0 0, .int .i64 0]], []⟩ 8 (by kernel_rfl) (by kernel_rfl) (by kernel_rfl) (by kernel_rfl)) ?_
  intro W base args ds gs before hval0 hW hcnd hwt _
  have hval : ∀ (j : Nat) t v, Tryz.f3.params[j]? = some t → args[j]? = some v → Value.okWide Tryz.prog W .any base t v := hval0
  have hW' := hW
  obtain ⟨p, q, hA0, hV, rfl, hfz, hnd⟩ := hW
  have hA : DataW.TrodAll enc Tryz.prog W 0 (fun _ => true) true Tryz.f3.params.toList args.toList ds p := hA0
  have hwt2 : (DataW.weightsEach Tryz.prog (Tryz.f3.params.toList ++ Rows.genConsSpec.plain.varTypes Tryz.prog) (ds ++ gs)).all (· ≤ reachBytes) = true := hwt
  rw [Tryz.params3] at hA hval hwt2
  obtain ⟨v0, vs0, d0, ds0, p0, q0, hargs, rfl, rfl, h0, r0⟩ := trodAll_cons hA
  obtain ⟨rfl, rfl, rfl⟩ := trodAll_nil r0
  obtain rfl : args = #[v0] := by cases args; simp_all
  obtain ⟨cs, hcs, _⟩ := okWide_struct Tryz.underlying25 (hval 0 25 v0 rfl rfl)
  obtain ⟨p, rfl, hwf, hΦ⟩ := openProg h0 ⟨cs, hcs⟩ (Wt.of_each hwt2 (j := 0) rfl rfl)
  refine (genCons_walk hwf W hΦ).mono fun e W' ⟨he, hg⟩ => ?_
  subst he
  exact ⟨_, rfl, law_post hW' rfl (by kernel_rfl) (fun t ht => by have ht : t ∈ [25] := ht; simp only [List.mem_cons, List.not_mem_nil, or_false] at ht; rcases ht with rfl <;> exact ⟨by kernel_rfl, of_decide_eq_true (by kernel_rfl)⟩) (T := 4) (by rfl) Tryz.underlying4
    (fun ds hl => by match ds, hl with | [e0], _ => exact ⟨rfl, rfl, rfl⟩) hg⟩
theorem over : Rows.genConsRow.holds Tryz.pinned (OpenSpec.ofChange Rows.genConsSpec) :=
  OpenClaim.holds_of_wide 3 Tryz.f3 rfl rfl rfl rfl rfl rfl rfl ⟨rfl, rfl, rfl, rfl, rfl⟩ rfl rfl rfl rfl rfl (by kernel_rfl) Tryz.func3 (by kernel_rfl)
    (of_decide_eq_true (by kernel_rfl)) (by unfold Func.isWrapper; first | (rw [if_pos (by decide +kernel)]; kernel_rfl) | (rw [if_neg (by decide +kernel)]; exact ⟨rfl, rfl⟩))
    (fun os started H enc _ => lifted os started H enc)
theorem proved : Rows.GenConsSaid := over
end genCons
#print axioms genCons.proved
end Go.Proofs.YtafochlcnjeanaaGreat
