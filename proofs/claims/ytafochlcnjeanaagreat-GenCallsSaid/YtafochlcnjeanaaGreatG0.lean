/- The example at the head of the laws of layer 17: it is as the document says. Run by numbers, from the checked source on. -/
import Derived.Test.YtafochlcnjeanaaGreatG0a
namespace Go.Proofs.YtafochlcnjeanaaGreat
open Go X
theorem shown_run : E.isBool true (E.stepF Tryz.prog (E.anyE Tryz.prog) 100000 (E.memo 16 [OfRun.arg] OfRun.lits (.ret OfRun.res) 2031 (E.runF Tryz.prog (E.anyE Tryz.prog) 100000 500)) 8 [] .leaf 0) = true := by kernel_rfl
theorem shown_tri : Tri Tryz.prog 8 [] [] [] fun e L Φ => e = .returned (.bool true) ∧ L = [] ∧ Φ = [] :=
  E.Tri.runM mixed (E.memo_OK (E.runF_OK (E.anyE_OK mixed) 100000 500) (E.runF_OK (E.anyE_OK mixed) 100000 500) of_run) shown_run
#print axioms shown_tri
end Go.Proofs.YtafochlcnjeanaaGreat
