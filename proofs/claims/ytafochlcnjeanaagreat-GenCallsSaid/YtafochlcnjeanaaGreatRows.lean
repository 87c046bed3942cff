/-
  NARROWER THAN 'FOR EVERY INPUT', by the rows' own cells (each row's printed sentence says how): GenCons: loops · GenOnes: loops · GenReturns: loops · GenNumbers: loops · GenCalls: loops.
  DERIVED. THE GIVEN ROWS OF THIS SEAT. 5 by the template 'for every input the law returns true; each argument reads behind the call as it read before'; 0 by the template 'total and deterministic' (their statements: YtafochlcnjeanaaGreatTotals.lean).
  GIVEN WITH THE SEED: the statements are not yours to turn. If you find one false, say at which input.
  Laid BY PROGRAM, IN A SANDBOX (cutbox-rows.mjs): the forced cells as the released guide's own fill.sh prints them over the translation 07b24acbc5389c19… (all of the seat's roots in one cut). By AI agents, Wed Nov 11 2026. No macro, syntax, notation, axiom, sorry.
-/
import Derived.Test.YtafochlcnjeanaaGreatChecked
import GoSem.Claim
import GoSem.ClaimJoined
import GoSem.ClaimMapViews
import Derived.JoinedTies
import Derived.KernelRfl
namespace Go.Proofs.YtafochlcnjeanaaGreat
/- THE CELL 'sum', in the pinned program and in every row, IS THE sha256 OF THE DUMP (.gsa) THAT YtafochlcnjeanaaGreatProg.lean LOADS. Nothing in Lean hashes anything: it is a label: what it is worth is what the hold of that sum in a sandbox is worth. -/
noncomputable def Tryz.pinned : Pinned := { name := "ytafochlcnjeanaagreat", sum := "07b24acbc5389c191b9c0e55928df801a10a5c16f9d7b619b8da5155e63c59be", checked := Tryz.checked }
namespace Rows
def none {H : Type} : Left H := { results := [], args := [] }

/-- 'crosstreelaw17.GenCons': WHATEVER THE INPUT: true; the input reads as it did. -/
def genConsSpec : ChangeSpec := { name := "genCons", fn := fun _ => fun
  | [d] => { results := [.lit (.bool true)], args := [d] }
  | _ => none }
def genConsRow : OpenClaim := { program := "ytafochlcnjeanaagreat", sum := "07b24acbc5389c191b9c0e55928df801a10a5c16f9d7b619b8da5155e63c59be", func := "crosstree/crosstreelaw17.GenCons", spec := "genCons", unfollowed := true, recurses := true, loops := true, apart := false }
def GenConsSaid : Prop := genConsRow.holds Tryz.pinned (OpenSpec.ofChange genConsSpec)

/-- ITS FALSE NEIGHBOUR: 'it returns false'. Refute it at one input. -/
def genConsWrong : ChangeSpec := { name := "genCons", fn := fun _ => fun
  | [d] => { results := [.lit (.bool false)], args := [d] }
  | _ => none }
def GenConsWrongFalsely : Prop := genConsRow.holds Tryz.pinned (OpenSpec.ofChange genConsWrong)

/-- 'crosstreelaw17.GenOnes': WHATEVER THE INPUT: true; the input reads as it did. -/
def genOnesSpec : ChangeSpec := { name := "genOnes", fn := fun _ => fun
  | [d1, d2] => { results := [.lit (.bool true)], args := [d1, d2] }
  | _ => none }
def genOnesRow : OpenClaim := { program := "ytafochlcnjeanaagreat", sum := "07b24acbc5389c191b9c0e55928df801a10a5c16f9d7b619b8da5155e63c59be", func := "crosstree/crosstreelaw17.GenOnes", spec := "genOnes", unfollowed := true, recurses := true, loops := true, apart := false }
def GenOnesSaid : Prop := genOnesRow.holds Tryz.pinned (OpenSpec.ofChange genOnesSpec)

/-- ITS FALSE NEIGHBOUR: 'it returns false'. Refute it at one input. -/
def genOnesWrong : ChangeSpec := { name := "genOnes", fn := fun _ => fun
  | [d1, d2] => { results := [.lit (.bool false)], args := [d1, d2] }
  | _ => none }
def GenOnesWrongFalsely : Prop := genOnesRow.holds Tryz.pinned (OpenSpec.ofChange genOnesWrong)

/-- 'crosstreelaw17.GenReturns': WHATEVER THE INPUT: true; the input reads as it did. -/
def genReturnsSpec : ChangeSpec := { name := "genReturns", fn := fun _ => fun
  | [d] => { results := [.lit (.bool true)], args := [d] }
  | _ => none }
def genReturnsRow : OpenClaim := { program := "ytafochlcnjeanaagreat", sum := "07b24acbc5389c191b9c0e55928df801a10a5c16f9d7b619b8da5155e63c59be", func := "crosstree/crosstreelaw17.GenReturns", spec := "genReturns", unfollowed := true, recurses := true, loops := true, apart := false }
def GenReturnsSaid : Prop := genReturnsRow.holds Tryz.pinned (OpenSpec.ofChange genReturnsSpec)

/-- ITS FALSE NEIGHBOUR: 'it returns false'. Refute it at one input. -/
def genReturnsWrong : ChangeSpec := { name := "genReturns", fn := fun _ => fun
  | [d] => { results := [.lit (.bool false)], args := [d] }
  | _ => none }
def GenReturnsWrongFalsely : Prop := genReturnsRow.holds Tryz.pinned (OpenSpec.ofChange genReturnsWrong)

/-- 'crosstreelaw17.GenNumbers': WHATEVER THE INPUT: true; the input reads as it did. -/
def genNumbersSpec : ChangeSpec := { name := "genNumbers", fn := fun _ => fun
  | [d] => { results := [.lit (.bool true)], args := [d] }
  | _ => none }
def genNumbersRow : OpenClaim := { program := "ytafochlcnjeanaagreat", sum := "07b24acbc5389c191b9c0e55928df801a10a5c16f9d7b619b8da5155e63c59be", func := "crosstree/crosstreelaw17.GenNumbers", spec := "genNumbers", unfollowed := true, recurses := true, loops := true, apart := false }
def GenNumbersSaid : Prop := genNumbersRow.holds Tryz.pinned (OpenSpec.ofChange genNumbersSpec)

/-- ITS FALSE NEIGHBOUR: 'it returns false'. Refute it at one input. -/
def genNumbersWrong : ChangeSpec := { name := "genNumbers", fn := fun _ => fun
  | [d] => { results := [.lit (.bool false)], args := [d] }
  | _ => none }
def GenNumbersWrongFalsely : Prop := genNumbersRow.holds Tryz.pinned (OpenSpec.ofChange genNumbersWrong)

/-- 'crosstreelaw17.GenCalls': WHATEVER THE INPUT: true; the input reads as it did. -/
def genCallsSpec : ChangeSpec := { name := "genCalls", fn := fun _ => fun
  | [d] => { results := [.lit (.bool true)], args := [d] }
  | _ => none }
def genCallsRow : OpenClaim := { program := "ytafochlcnjeanaagreat", sum := "07b24acbc5389c191b9c0e55928df801a10a5c16f9d7b619b8da5155e63c59be", func := "crosstree/crosstreelaw17.GenCalls", spec := "genCalls", unfollowed := true, recurses := true, loops := true, apart := false }
def GenCallsSaid : Prop := genCallsRow.holds Tryz.pinned (OpenSpec.ofChange genCallsSpec)

/-- ITS FALSE NEIGHBOUR: 'it returns false'. Refute it at one input. -/
def genCallsWrong : ChangeSpec := { name := "genCalls", fn := fun _ => fun
  | [d] => { results := [.lit (.bool false)], args := [d] }
  | _ => none }
def GenCallsWrongFalsely : Prop := genCallsRow.holds Tryz.pinned (OpenSpec.ofChange genCallsWrong)

/- THE SECOND FORM. 'bulk': how many values and letters a reading holds, each counted each time it is reached (what is shared counts as often as it is met; a slice's spare places count too). A statement '..UptoSaid' is the law's where the arguments, and the package variables that the reading takes, are together of bulk at most 1048576: NARROWER than '..Said'. Prove '..Said' where nothing that the law and all that it calls make is longer than what came in: it says more and counts as full. Else prove '..UptoSaid'. A law counts once. -/
mutual
def uptoBulk {H : Type} : DataW H → Nat
  | .lit (.string bytes) => bytes.length + 1
  | .lit _ => 1
  | .nil => 1
  | .ptr d => uptoBulk d + 1
  | .slice elems spare => uptoBulkAll elems + uptoBulkAll spare + 1
  | .agg parts => uptoBulkAll parts + 1
  | .iface _ d => uptoBulk d + 1
  | .map entries => uptoBulkEntries entries + 1
  | .held _ => 1
def uptoBulkAll {H : Type} : List (DataW H) → Nat
  | [] => 0
  | d :: r => uptoBulk d + uptoBulkAll r
def uptoBulkEntries {H : Type} : List (Lit × DataW H) → Nat
  | [] => 0
  | x :: r => uptoBulkEntry x + uptoBulkEntries r
def uptoBulkEntry {H : Type} : Lit × DataW H → Nat
  | (.string bytes, d) => bytes.length + uptoBulk d + 1
  | (_, d) => uptoBulk d + 1
 end
def uptoSmall : (H : Type) → List (DataW H) → Bool := fun _ ds => decide (uptoBulkAll ds ≤ 1048576)
def OpenSpec.upto (s : _root_.Go.ChangeSpec) : _root_.Go.OpenSpec := { _root_.Go.OpenSpec.ofChange s with cond := some uptoSmall }

/-- 'crosstreelaw17.GenCons', WHERE WHAT IT READS IS OF BULK AT MOST 1048576: true; the input reads as it did. -/
def genConsUptoRow : OpenClaim := { program := "ytafochlcnjeanaagreat", sum := "07b24acbc5389c191b9c0e55928df801a10a5c16f9d7b619b8da5155e63c59be", func := "crosstree/crosstreelaw17.GenCons", spec := "genCons", unfollowed := true, recurses := true, loops := true, apart := false, narrowed := true }
def GenConsUptoSaid : Prop := genConsUptoRow.holds Tryz.pinned (OpenSpec.upto genConsSpec)

/-- 'crosstreelaw17.GenOnes', WHERE WHAT IT READS IS OF BULK AT MOST 1048576: true; the input reads as it did. -/
def genOnesUptoRow : OpenClaim := { program := "ytafochlcnjeanaagreat", sum := "07b24acbc5389c191b9c0e55928df801a10a5c16f9d7b619b8da5155e63c59be", func := "crosstree/crosstreelaw17.GenOnes", spec := "genOnes", unfollowed := true, recurses := true, loops := true, apart := false, narrowed := true }
def GenOnesUptoSaid : Prop := genOnesUptoRow.holds Tryz.pinned (OpenSpec.upto genOnesSpec)

/-- 'crosstreelaw17.GenReturns', WHERE WHAT IT READS IS OF BULK AT MOST 1048576: true; the input reads as it did. -/
def genReturnsUptoRow : OpenClaim := { program := "ytafochlcnjeanaagreat", sum := "07b24acbc5389c191b9c0e55928df801a10a5c16f9d7b619b8da5155e63c59be", func := "crosstree/crosstreelaw17.GenReturns", spec := "genReturns", unfollowed := true, recurses := true, loops := true, apart := false, narrowed := true }
def GenReturnsUptoSaid : Prop := genReturnsUptoRow.holds Tryz.pinned (OpenSpec.upto genReturnsSpec)

/-- 'crosstreelaw17.GenNumbers', WHERE WHAT IT READS IS OF BULK AT MOST 1048576: true; the input reads as it did. -/
def genNumbersUptoRow : OpenClaim := { program := "ytafochlcnjeanaagreat", sum := "07b24acbc5389c191b9c0e55928df801a10a5c16f9d7b619b8da5155e63c59be", func := "crosstree/crosstreelaw17.GenNumbers", spec := "genNumbers", unfollowed := true, recurses := true, loops := true, apart := false, narrowed := true }
def GenNumbersUptoSaid : Prop := genNumbersUptoRow.holds Tryz.pinned (OpenSpec.upto genNumbersSpec)

/-- 'crosstreelaw17.GenCalls', WHERE WHAT IT READS IS OF BULK AT MOST 1048576: true; the input reads as it did. -/
def genCallsUptoRow : OpenClaim := { program := "ytafochlcnjeanaagreat", sum := "07b24acbc5389c191b9c0e55928df801a10a5c16f9d7b619b8da5155e63c59be", func := "crosstree/crosstreelaw17.GenCalls", spec := "genCalls", unfollowed := true, recurses := true, loops := true, apart := false, narrowed := true }
def GenCallsUptoSaid : Prop := genCallsUptoRow.holds Tryz.pinned (OpenSpec.upto genCallsSpec)

end Rows
end Go.Proofs.YtafochlcnjeanaaGreat
