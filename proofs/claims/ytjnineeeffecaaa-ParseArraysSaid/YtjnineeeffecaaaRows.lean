/-
  NARROWER THAN 'FOR EVERY INPUT', by the rows' own cells (each row's printed sentence says how): ParseDepths: loops.
  DERIVED. THE GIVEN ROWS OF THIS SEAT. 7 by the template 'for every input the law returns true; each argument reads behind the call as it read before'; 0 by the template 'total and deterministic' (their statements: YtjnineeeffecaaaTotals.lean).
  GIVEN WITH THE SEED: the statements are not yours to turn. If you find one false, say at which input.
  Laid BY PROGRAM, IN A SANDBOX (cutbox-rows.mjs): the forced cells as the released guide's own fill.sh prints them over the translation 8b6bdda830c3fe4e… (all of the seat's roots in one cut). By AI agents, Wed Nov 11 2026. No macro, syntax, notation, axiom, sorry.
-/
import Derived.Test.YtjnineeeffecaaaChecked
import GoSem.Claim
import GoSem.ClaimJoined
import GoSem.ClaimMapViews
import Derived.JoinedTies
import Derived.KernelRfl
namespace Go.Proofs.Ytjnineeeffecaaa
/- THE CELL 'sum', in the pinned program and in every row, IS THE sha256 OF THE DUMP (.gsa) THAT YtjnineeeffecaaaProg.lean LOADS. Nothing in Lean hashes anything: it is a label: what it is worth is what the hold of that sum in a sandbox is worth. -/
noncomputable def Try.pinned : Pinned := { name := "ytjnineeeffecaaa", sum := "8b6bdda830c3fe4ee787e77ca339f625794b0015e97b12ab73753cfc18cff24c", checked := Try.checked }
namespace Rows
def none {H : Type} : Left H := { results := [], args := [] }

/-- 'crosstreelaw02.ParseDepths': WHATEVER THE INPUT: true; the input reads as it did. -/
def parseDepthsSpec : ChangeSpec := { name := "parseDepths", fn := fun _ => fun
  | [d] => { results := [.lit (.bool true)], args := [d] }
  | _ => none }
def parseDepthsRow : OpenClaim := { program := "ytjnineeeffecaaa", sum := "8b6bdda830c3fe4ee787e77ca339f625794b0015e97b12ab73753cfc18cff24c", func := "crosstree/crosstreelaw02.ParseDepths", spec := "parseDepths", inPlace := ["internal/bytealg.IndexByteString", "internal/bytealg.IndexString"], unfollowed := true, recurses := true, named := ["internal/bytealg.MaxLen"], loops := true, apart := false }
def ParseDepthsSaid : Prop := parseDepthsRow.holds Try.pinned (OpenSpec.ofChange parseDepthsSpec)

/-- ITS FALSE NEIGHBOUR: 'it returns false'. Refute it at one input. -/
def parseDepthsWrong : ChangeSpec := { name := "parseDepths", fn := fun _ => fun
  | [d] => { results := [.lit (.bool false)], args := [d] }
  | _ => none }
def ParseDepthsWrongFalsely : Prop := parseDepthsRow.holds Try.pinned (OpenSpec.ofChange parseDepthsWrong)

/-- 'crosstreelaw02.ParseBrackets': WHATEVER THE INPUT: true; the input reads as it did. -/
def parseBracketsSpec : ChangeSpec := { name := "parseBrackets", fn := fun _ => fun
  | [d] => { results := [.lit (.bool true)], args := [d] }
  | _ => none }
def parseBracketsRow : OpenClaim := { program := "ytjnineeeffecaaa", sum := "8b6bdda830c3fe4ee787e77ca339f625794b0015e97b12ab73753cfc18cff24c", func := "crosstree/crosstreelaw02.ParseBrackets", spec := "parseBrackets", inPlace := ["internal/bytealg.IndexByteString", "internal/bytealg.IndexString"], unfollowed := true, recurses := true, named := ["internal/bytealg.MaxLen"], apart := false }
def ParseBracketsSaid : Prop := parseBracketsRow.holds Try.pinned (OpenSpec.ofChange parseBracketsSpec)

/-- ITS FALSE NEIGHBOUR: 'it returns false'. Refute it at one input. -/
def parseBracketsWrong : ChangeSpec := { name := "parseBrackets", fn := fun _ => fun
  | [d] => { results := [.lit (.bool false)], args := [d] }
  | _ => none }
def ParseBracketsWrongFalsely : Prop := parseBracketsRow.holds Try.pinned (OpenSpec.ofChange parseBracketsWrong)

/-- 'crosstreelaw02.ParsePlaces': WHATEVER THE INPUT: true; the input reads as it did. -/
def parsePlacesSpec : ChangeSpec := { name := "parsePlaces", fn := fun _ => fun
  | [d] => { results := [.lit (.bool true)], args := [d] }
  | _ => none }
def parsePlacesRow : OpenClaim := { program := "ytjnineeeffecaaa", sum := "8b6bdda830c3fe4ee787e77ca339f625794b0015e97b12ab73753cfc18cff24c", func := "crosstree/crosstreelaw02.ParsePlaces", spec := "parsePlaces", inPlace := ["internal/bytealg.IndexByteString", "internal/bytealg.IndexString"], unfollowed := true, recurses := true, named := ["internal/bytealg.MaxLen"], apart := false }
def ParsePlacesSaid : Prop := parsePlacesRow.holds Try.pinned (OpenSpec.ofChange parsePlacesSpec)

/-- ITS FALSE NEIGHBOUR: 'it returns false'. Refute it at one input. -/
def parsePlacesWrong : ChangeSpec := { name := "parsePlaces", fn := fun _ => fun
  | [d] => { results := [.lit (.bool false)], args := [d] }
  | _ => none }
def ParsePlacesWrongFalsely : Prop := parsePlacesRow.holds Try.pinned (OpenSpec.ofChange parsePlacesWrong)

/-- 'crosstreelaw02.ParseItems': WHATEVER THE INPUT: true; the input reads as it did. -/
def parseItemsSpec : ChangeSpec := { name := "parseItems", fn := fun _ => fun
  | [d1, d2] => { results := [.lit (.bool true)], args := [d1, d2] }
  | _ => none }
def parseItemsRow : OpenClaim := { program := "ytjnineeeffecaaa", sum := "8b6bdda830c3fe4ee787e77ca339f625794b0015e97b12ab73753cfc18cff24c", func := "crosstree/crosstreelaw02.ParseItems", spec := "parseItems", inPlace := ["internal/bytealg.IndexByteString", "internal/bytealg.IndexString"], unfollowed := true, recurses := true, named := ["internal/bytealg.MaxLen"], apart := false }
def ParseItemsSaid : Prop := parseItemsRow.holds Try.pinned (OpenSpec.ofChange parseItemsSpec)

/-- ITS FALSE NEIGHBOUR: 'it returns false'. Refute it at one input. -/
def parseItemsWrong : ChangeSpec := { name := "parseItems", fn := fun _ => fun
  | [d1, d2] => { results := [.lit (.bool false)], args := [d1, d2] }
  | _ => none }
def ParseItemsWrongFalsely : Prop := parseItemsRow.holds Try.pinned (OpenSpec.ofChange parseItemsWrong)

/-- 'crosstreelaw02.ParseRows': WHATEVER THE INPUT: true; the input reads as it did. -/
def parseRowsSpec : ChangeSpec := { name := "parseRows", fn := fun _ => fun
  | [d1, d2] => { results := [.lit (.bool true)], args := [d1, d2] }
  | _ => none }
def parseRowsRow : OpenClaim := { program := "ytjnineeeffecaaa", sum := "8b6bdda830c3fe4ee787e77ca339f625794b0015e97b12ab73753cfc18cff24c", func := "crosstree/crosstreelaw02.ParseRows", spec := "parseRows", inPlace := ["internal/bytealg.IndexByteString", "internal/bytealg.IndexString"], unfollowed := true, recurses := true, named := ["internal/bytealg.MaxLen"], apart := false }
def ParseRowsSaid : Prop := parseRowsRow.holds Try.pinned (OpenSpec.ofChange parseRowsSpec)

/-- ITS FALSE NEIGHBOUR: 'it returns false'. Refute it at one input. -/
def parseRowsWrong : ChangeSpec := { name := "parseRows", fn := fun _ => fun
  | [d1, d2] => { results := [.lit (.bool false)], args := [d1, d2] }
  | _ => none }
def ParseRowsWrongFalsely : Prop := parseRowsRow.holds Try.pinned (OpenSpec.ofChange parseRowsWrong)

/-- 'crosstreelaw02.ParseArrays': WHATEVER THE INPUT: true; the input reads as it did. -/
def parseArraysSpec : ChangeSpec := { name := "parseArrays", fn := fun _ => fun
  | [d1, d2] => { results := [.lit (.bool true)], args := [d1, d2] }
  | _ => none }
def parseArraysRow : OpenClaim := { program := "ytjnineeeffecaaa", sum := "8b6bdda830c3fe4ee787e77ca339f625794b0015e97b12ab73753cfc18cff24c", func := "crosstree/crosstreelaw02.ParseArrays", spec := "parseArrays", inPlace := ["internal/bytealg.IndexByteString", "internal/bytealg.IndexString"], unfollowed := true, recurses := true, named := ["internal/bytealg.MaxLen"], apart := false }
def ParseArraysSaid : Prop := parseArraysRow.holds Try.pinned (OpenSpec.ofChange parseArraysSpec)

/-- ITS FALSE NEIGHBOUR: 'it returns false'. Refute it at one input. -/
def parseArraysWrong : ChangeSpec := { name := "parseArrays", fn := fun _ => fun
  | [d1, d2] => { results := [.lit (.bool false)], args := [d1, d2] }
  | _ => none }
def ParseArraysWrongFalsely : Prop := parseArraysRow.holds Try.pinned (OpenSpec.ofChange parseArraysWrong)

/-- 'crosstreelaw02.ParseBlanks': WHATEVER THE INPUT: true; the input reads as it did. -/
def parseBlanksSpec : ChangeSpec := { name := "parseBlanks", fn := fun _ => fun
  | [d] => { results := [.lit (.bool true)], args := [d] }
  | _ => none }
def parseBlanksRow : OpenClaim := { program := "ytjnineeeffecaaa", sum := "8b6bdda830c3fe4ee787e77ca339f625794b0015e97b12ab73753cfc18cff24c", func := "crosstree/crosstreelaw02.ParseBlanks", spec := "parseBlanks", inPlace := ["internal/bytealg.IndexByteString", "internal/bytealg.IndexString", "internal/abi.NoEscape", "internal/bytealg.MakeNoZero"], unfollowed := true, recurses := true, named := ["internal/bytealg.MaxLen"], apart := false }
def ParseBlanksSaid : Prop := parseBlanksRow.holds Try.pinned (OpenSpec.ofChange parseBlanksSpec)

/-- ITS FALSE NEIGHBOUR: 'it returns false'. Refute it at one input. -/
def parseBlanksWrong : ChangeSpec := { name := "parseBlanks", fn := fun _ => fun
  | [d] => { results := [.lit (.bool false)], args := [d] }
  | _ => none }
def ParseBlanksWrongFalsely : Prop := parseBlanksRow.holds Try.pinned (OpenSpec.ofChange parseBlanksWrong)

/- THE SECOND FORM. 'bulk': how many values and letters a reading holds, each counted each time it is reached (what is shared counts as often as it is met; a slice's spare places count too). A statement '..UptoSaid' is the law's where the arguments, and the package variables that the reading takes, are together of bulk at most 1048576: NARROWER than '..Said'. Prove '..Said' where nothing that the law and all that it calls make is longer than what came in: it says more and counts as full. Else prove '..UptoSaid'. A law counts once. -/
mutual
def uptoBulk {H : Type} : DataW H → Nat
  | .lit (.string bytes) => bytes.length + 1
  | .lit _ => 1
  | .nil => 1
  | .ptr d => uptoBulk d + 1
  | .slice elems spare => uptoBulkAll elems + uptoBulkAll spare + 1
  | .agg parts => uptoBulkAll parts + 1
  | .iface _ d => uptoBulk d + 1
  | .map entries => uptoBulkEntries entries + 1
  | .held _ => 1
def uptoBulkAll {H : Type} : List (DataW H) → Nat
  | [] => 0
  | d :: r => uptoBulk d + uptoBulkAll r
def uptoBulkEntries {H : Type} : List (Lit × DataW H) → Nat
  | [] => 0
  | x :: r => uptoBulkEntry x + uptoBulkEntries r
def uptoBulkEntry {H : Type} : Lit × DataW H → Nat
  | (.string bytes, d) => bytes.length + uptoBulk d + 1
  | (_, d) => uptoBulk d + 1
 end
def uptoSmall : (H : Type) → List (DataW H) → Bool := fun _ ds => decide (uptoBulkAll ds ≤ 1048576)
def OpenSpec.upto (s : _root_.Go.ChangeSpec) : _root_.Go.OpenSpec := { _root_.Go.OpenSpec.ofChange s with cond := some uptoSmall }

/-- 'crosstreelaw02.ParseDepths', WHERE WHAT IT READS IS OF BULK AT MOST 1048576: true; the input reads as it did. -/
def parseDepthsUptoRow : OpenClaim := { program := "ytjnineeeffecaaa", sum := "8b6bdda830c3fe4ee787e77ca339f625794b0015e97b12ab73753cfc18cff24c", func := "crosstree/crosstreelaw02.ParseDepths", spec := "parseDepths", inPlace := ["internal/bytealg.IndexByteString", "internal/bytealg.IndexString"], unfollowed := true, recurses := true, named := ["internal/bytealg.MaxLen"], loops := true, apart := false, narrowed := true }
def ParseDepthsUptoSaid : Prop := parseDepthsUptoRow.holds Try.pinned (OpenSpec.upto parseDepthsSpec)

/-- 'crosstreelaw02.ParseBrackets', WHERE WHAT IT READS IS OF BULK AT MOST 1048576: true; the input reads as it did. -/
def parseBracketsUptoRow : OpenClaim := { program := "ytjnineeeffecaaa", sum := "8b6bdda830c3fe4ee787e77ca339f625794b0015e97b12ab73753cfc18cff24c", func := "crosstree/crosstreelaw02.ParseBrackets", spec := "parseBrackets", inPlace := ["internal/bytealg.IndexByteString", "internal/bytealg.IndexString"], unfollowed := true, recurses := true, named := ["internal/bytealg.MaxLen"], apart := false, narrowed := true }
def ParseBracketsUptoSaid : Prop := parseBracketsUptoRow.holds Try.pinned (OpenSpec.upto parseBracketsSpec)

/-- 'crosstreelaw02.ParsePlaces', WHERE WHAT IT READS IS OF BULK AT MOST 1048576: true; the input reads as it did. -/
def parsePlacesUptoRow : OpenClaim := { program := "ytjnineeeffecaaa", sum := "8b6bdda830c3fe4ee787e77ca339f625794b0015e97b12ab73753cfc18cff24c", func := "crosstree/crosstreelaw02.ParsePlaces", spec := "parsePlaces", inPlace := ["internal/bytealg.IndexByteString", "internal/bytealg.IndexString"], unfollowed := true, recurses := true, named := ["internal/bytealg.MaxLen"], apart := false, narrowed := true }
def ParsePlacesUptoSaid : Prop := parsePlacesUptoRow.holds Try.pinned (OpenSpec.upto parsePlacesSpec)

/-- 'crosstreelaw02.ParseItems', WHERE WHAT IT READS IS OF BULK AT MOST 1048576: true; the input reads as it did. -/
def parseItemsUptoRow : OpenClaim := { program := "ytjnineeeffecaaa", sum := "8b6bdda830c3fe4ee787e77ca339f625794b0015e97b12ab73753cfc18cff24c", func := "crosstree/crosstreelaw02.ParseItems", spec := "parseItems", inPlace := ["internal/bytealg.IndexByteString", "internal/bytealg.IndexString"], unfollowed := true, recurses := true, named := ["internal/bytealg.MaxLen"], apart := false, narrowed := true }
def ParseItemsUptoSaid : Prop := parseItemsUptoRow.holds Try.pinned (OpenSpec.upto parseItemsSpec)

/-- 'crosstreelaw02.ParseRows', WHERE WHAT IT READS IS OF BULK AT MOST 1048576: true; the input reads as it did. -/
def parseRowsUptoRow : OpenClaim := { program := "ytjnineeeffecaaa", sum := "8b6bdda830c3fe4ee787e77ca339f625794b0015e97b12ab73753cfc18cff24c", func := "crosstree/crosstreelaw02.ParseRows", spec := "parseRows", inPlace := ["internal/bytealg.IndexByteString", "internal/bytealg.IndexString"], unfollowed := true, recurses := true, named := ["internal/bytealg.MaxLen"], apart := false, narrowed := true }
def ParseRowsUptoSaid : Prop := parseRowsUptoRow.holds Try.pinned (OpenSpec.upto parseRowsSpec)

/-- 'crosstreelaw02.ParseArrays', WHERE WHAT IT READS IS OF BULK AT MOST 1048576: true; the input reads as it did. -/
def parseArraysUptoRow : OpenClaim := { program := "ytjnineeeffecaaa", sum := "8b6bdda830c3fe4ee787e77ca339f625794b0015e97b12ab73753cfc18cff24c", func := "crosstree/crosstreelaw02.ParseArrays", spec := "parseArrays", inPlace := ["internal/bytealg.IndexByteString", "internal/bytealg.IndexString"], unfollowed := true, recurses := true, named := ["internal/bytealg.MaxLen"], apart := false, narrowed := true }
def ParseArraysUptoSaid : Prop := parseArraysUptoRow.holds Try.pinned (OpenSpec.upto parseArraysSpec)

/-- 'crosstreelaw02.ParseBlanks', WHERE WHAT IT READS IS OF BULK AT MOST 1048576: true; the input reads as it did. -/
def parseBlanksUptoRow : OpenClaim := { program := "ytjnineeeffecaaa", sum := "8b6bdda830c3fe4ee787e77ca339f625794b0015e97b12ab73753cfc18cff24c", func := "crosstree/crosstreelaw02.ParseBlanks", spec := "parseBlanks", inPlace := ["internal/bytealg.IndexByteString", "internal/bytealg.IndexString", "internal/abi.NoEscape", "internal/bytealg.MakeNoZero"], unfollowed := true, recurses := true, named := ["internal/bytealg.MaxLen"], apart := false, narrowed := true }
def ParseBlanksUptoSaid : Prop := parseBlanksUptoRow.holds Try.pinned (OpenSpec.upto parseBlanksSpec)

end Rows
end Go.Proofs.Ytjnineeeffecaaa
