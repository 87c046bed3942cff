/-
  No cell of these rows narrows 'for every input' (looked for: loops, veiled, ifaces, maps, wideKeys, modest, calm, conditions, laid).
  DERIVED. THE GIVEN ROWS OF THIS SEAT. 6 by the template 'for every input the law returns true; each argument reads behind the call as it read before'; 0 by the template 'total and deterministic' (their statements: YtkhjnmhingdmoaaTotals.lean).
  GIVEN WITH THE SEED: the statements are not yours to turn. If you find one false, say at which input.
  Laid BY PROGRAM, IN A SANDBOX (cutbox-rows.mjs): the forced cells as the released guide's own fill.sh prints them over the translation 2723f03f0c0a6c45… (all of the seat's roots in one cut). By AI agents, Wed Nov 11 2026. No macro, syntax, notation, axiom, sorry.
-/
import Derived.Test.YtkhjnmhingdmoaaChecked
import GoSem.Claim
import GoSem.ClaimJoined
import GoSem.ClaimMapViews
import Derived.JoinedTies
import Derived.KernelRfl
namespace Go.Proofs.Ytkhjnmhingdmoaa
/- THE CELL 'sum', in the pinned program and in every row, IS THE sha256 OF THE DUMP (.gsa) THAT YtkhjnmhingdmoaaProg.lean LOADS. Nothing in Lean hashes anything: it is a label: what it is worth is what the hold of that sum in a sandbox is worth. -/
noncomputable def Try.pinned : Pinned := { name := "ytkhjnmhingdmoaa", sum := "2723f03f0c0a6c45819258edffb991438d293131be80ad2980db54d279043bd6", checked := Try.checked }
namespace Rows
def none {H : Type} : Left H := { results := [], args := [] }

/-- 'crosstreelaw14.UniteJoins': WHATEVER THE INPUT: true; the input reads as it did. -/
def uniteJoinsSpec : ChangeSpec := { name := "uniteJoins", fn := fun _ => fun
  | [d1, d2, d3] => { results := [.lit (.bool true)], args := [d1, d2, d3] }
  | _ => none }
def uniteJoinsRow : OpenClaim := { program := "ytkhjnmhingdmoaa", sum := "2723f03f0c0a6c45819258edffb991438d293131be80ad2980db54d279043bd6", func := "crosstree/crosstreelaw14.UniteJoins", spec := "uniteJoins", apart := false }
def UniteJoinsSaid : Prop := uniteJoinsRow.holds Try.pinned (OpenSpec.ofChange uniteJoinsSpec)

/-- ITS FALSE NEIGHBOUR: 'it returns false'. Refute it at one input. -/
def uniteJoinsWrong : ChangeSpec := { name := "uniteJoins", fn := fun _ => fun
  | [d1, d2, d3] => { results := [.lit (.bool false)], args := [d1, d2, d3] }
  | _ => none }
def UniteJoinsWrongFalsely : Prop := uniteJoinsRow.holds Try.pinned (OpenSpec.ofChange uniteJoinsWrong)

/-- 'crosstreelaw14.UniteSame': WHATEVER THE INPUT: true; the input reads as it did. -/
def uniteSameSpec : ChangeSpec := { name := "uniteSame", fn := fun _ => fun
  | [d1, d2] => { results := [.lit (.bool true)], args := [d1, d2] }
  | _ => none }
def uniteSameRow : OpenClaim := { program := "ytkhjnmhingdmoaa", sum := "2723f03f0c0a6c45819258edffb991438d293131be80ad2980db54d279043bd6", func := "crosstree/crosstreelaw14.UniteSame", spec := "uniteSame", apart := false }
def UniteSameSaid : Prop := uniteSameRow.holds Try.pinned (OpenSpec.ofChange uniteSameSpec)

/-- ITS FALSE NEIGHBOUR: 'it returns false'. Refute it at one input. -/
def uniteSameWrong : ChangeSpec := { name := "uniteSame", fn := fun _ => fun
  | [d1, d2] => { results := [.lit (.bool false)], args := [d1, d2] }
  | _ => none }
def UniteSameWrongFalsely : Prop := uniteSameRow.holds Try.pinned (OpenSpec.ofChange uniteSameWrong)

/-- 'crosstreelaw14.UniteOrder': WHATEVER THE INPUT: true; the input reads as it did. -/
def uniteOrderSpec : ChangeSpec := { name := "uniteOrder", fn := fun _ => fun
  | [d1, d2] => { results := [.lit (.bool true)], args := [d1, d2] }
  | _ => none }
def uniteOrderRow : OpenClaim := { program := "ytkhjnmhingdmoaa", sum := "2723f03f0c0a6c45819258edffb991438d293131be80ad2980db54d279043bd6", func := "crosstree/crosstreelaw14.UniteOrder", spec := "uniteOrder", apart := false }
def UniteOrderSaid : Prop := uniteOrderRow.holds Try.pinned (OpenSpec.ofChange uniteOrderSpec)

/-- ITS FALSE NEIGHBOUR: 'it returns false'. Refute it at one input. -/
def uniteOrderWrong : ChangeSpec := { name := "uniteOrder", fn := fun _ => fun
  | [d1, d2] => { results := [.lit (.bool false)], args := [d1, d2] }
  | _ => none }
def UniteOrderWrongFalsely : Prop := uniteOrderRow.holds Try.pinned (OpenSpec.ofChange uniteOrderWrong)

/-- 'crosstreelaw14.UniteNobody': WHATEVER THE INPUT: true; the input reads as it did. -/
def uniteNobodySpec : ChangeSpec := { name := "uniteNobody", fn := fun _ => fun
  | [d1, d2] => { results := [.lit (.bool true)], args := [d1, d2] }
  | _ => none }
def uniteNobodyRow : OpenClaim := { program := "ytkhjnmhingdmoaa", sum := "2723f03f0c0a6c45819258edffb991438d293131be80ad2980db54d279043bd6", func := "crosstree/crosstreelaw14.UniteNobody", spec := "uniteNobody", apart := false }
def UniteNobodySaid : Prop := uniteNobodyRow.holds Try.pinned (OpenSpec.ofChange uniteNobodySpec)

/-- ITS FALSE NEIGHBOUR: 'it returns false'. Refute it at one input. -/
def uniteNobodyWrong : ChangeSpec := { name := "uniteNobody", fn := fun _ => fun
  | [d1, d2] => { results := [.lit (.bool false)], args := [d1, d2] }
  | _ => none }
def UniteNobodyWrongFalsely : Prop := uniteNobodyRow.holds Try.pinned (OpenSpec.ofChange uniteNobodyWrong)

/-- 'crosstreelaw14.UniteChains': WHATEVER THE INPUT: true; the input reads as it did. -/
def uniteChainsSpec : ChangeSpec := { name := "uniteChains", fn := fun _ => fun
  | [d1, d2, d3, d4] => { results := [.lit (.bool true)], args := [d1, d2, d3, d4] }
  | _ => none }
def uniteChainsRow : OpenClaim := { program := "ytkhjnmhingdmoaa", sum := "2723f03f0c0a6c45819258edffb991438d293131be80ad2980db54d279043bd6", func := "crosstree/crosstreelaw14.UniteChains", spec := "uniteChains", apart := false }
def UniteChainsSaid : Prop := uniteChainsRow.holds Try.pinned (OpenSpec.ofChange uniteChainsSpec)

/-- ITS FALSE NEIGHBOUR: 'it returns false'. Refute it at one input. -/
def uniteChainsWrong : ChangeSpec := { name := "uniteChains", fn := fun _ => fun
  | [d1, d2, d3, d4] => { results := [.lit (.bool false)], args := [d1, d2, d3, d4] }
  | _ => none }
def UniteChainsWrongFalsely : Prop := uniteChainsRow.holds Try.pinned (OpenSpec.ofChange uniteChainsWrong)

/-- 'crosstreelaw14.UniteBeyond': WHATEVER THE INPUT: true; the input reads as it did. -/
def uniteBeyondSpec : ChangeSpec := { name := "uniteBeyond", fn := fun _ => fun
  | [d1, d2, d3] => { results := [.lit (.bool true)], args := [d1, d2, d3] }
  | _ => none }
def uniteBeyondRow : OpenClaim := { program := "ytkhjnmhingdmoaa", sum := "2723f03f0c0a6c45819258edffb991438d293131be80ad2980db54d279043bd6", func := "crosstree/crosstreelaw14.UniteBeyond", spec := "uniteBeyond", apart := false }
def UniteBeyondSaid : Prop := uniteBeyondRow.holds Try.pinned (OpenSpec.ofChange uniteBeyondSpec)

/-- ITS FALSE NEIGHBOUR: 'it returns false'. Refute it at one input. -/
def uniteBeyondWrong : ChangeSpec := { name := "uniteBeyond", fn := fun _ => fun
  | [d1, d2, d3] => { results := [.lit (.bool false)], args := [d1, d2, d3] }
  | _ => none }
def UniteBeyondWrongFalsely : Prop := uniteBeyondRow.holds Try.pinned (OpenSpec.ofChange uniteBeyondWrong)

/- THE SECOND FORM. 'bulk': how many values and letters a reading holds, each counted each time it is reached (what is shared counts as often as it is met; a slice's spare places count too). A statement '..UptoSaid' is the law's where the arguments, and the package variables that the reading takes, are together of bulk at most 1048576: NARROWER than '..Said'. Prove '..Said' where nothing that the law and all that it calls make is longer than what came in: it says more and counts as full. Else prove '..UptoSaid'. A law counts once. -/
mutual
def uptoBulk {H : Type} : DataW H → Nat
  | .lit (.string bytes) => bytes.length + 1
  | .lit _ => 1
  | .nil => 1
  | .ptr d => uptoBulk d + 1
  | .slice elems spare => uptoBulkAll elems + uptoBulkAll spare + 1
  | .agg parts => uptoBulkAll parts + 1
  | .iface _ d => uptoBulk d + 1
  | .map entries => uptoBulkEntries entries + 1
  | .held _ => 1
def uptoBulkAll {H : Type} : List (DataW H) → Nat
  | [] => 0
  | d :: r => uptoBulk d + uptoBulkAll r
def uptoBulkEntries {H : Type} : List (Lit × DataW H) → Nat
  | [] => 0
  | x :: r => uptoBulkEntry x + uptoBulkEntries r
def uptoBulkEntry {H : Type} : Lit × DataW H → Nat
  | (.string bytes, d) => bytes.length + uptoBulk d + 1
  | (_, d) => uptoBulk d + 1
 end
def uptoSmall : (H : Type) → List (DataW H) → Bool := fun _ ds => decide (uptoBulkAll ds ≤ 1048576)
def OpenSpec.upto (s : _root_.Go.ChangeSpec) : _root_.Go.OpenSpec := { _root_.Go.OpenSpec.ofChange s with cond := some uptoSmall }

/-- 'crosstreelaw14.UniteJoins', WHERE WHAT IT READS IS OF BULK AT MOST 1048576: true; the input reads as it did. -/
def uniteJoinsUptoRow : OpenClaim := { program := "ytkhjnmhingdmoaa", sum := "2723f03f0c0a6c45819258edffb991438d293131be80ad2980db54d279043bd6", func := "crosstree/crosstreelaw14.UniteJoins", spec := "uniteJoins", apart := false, narrowed := true }
def UniteJoinsUptoSaid : Prop := uniteJoinsUptoRow.holds Try.pinned (OpenSpec.upto uniteJoinsSpec)

/-- 'crosstreelaw14.UniteSame', WHERE WHAT IT READS IS OF BULK AT MOST 1048576: true; the input reads as it did. -/
def uniteSameUptoRow : OpenClaim := { program := "ytkhjnmhingdmoaa", sum := "2723f03f0c0a6c45819258edffb991438d293131be80ad2980db54d279043bd6", func := "crosstree/crosstreelaw14.UniteSame", spec := "uniteSame", apart := false, narrowed := true }
def UniteSameUptoSaid : Prop := uniteSameUptoRow.holds Try.pinned (OpenSpec.upto uniteSameSpec)

/-- 'crosstreelaw14.UniteOrder', WHERE WHAT IT READS IS OF BULK AT MOST 1048576: true; the input reads as it did. -/
def uniteOrderUptoRow : OpenClaim := { program := "ytkhjnmhingdmoaa", sum := "2723f03f0c0a6c45819258edffb991438d293131be80ad2980db54d279043bd6", func := "crosstree/crosstreelaw14.UniteOrder", spec := "uniteOrder", apart := false, narrowed := true }
def UniteOrderUptoSaid : Prop := uniteOrderUptoRow.holds Try.pinned (OpenSpec.upto uniteOrderSpec)

/-- 'crosstreelaw14.UniteNobody', WHERE WHAT IT READS IS OF BULK AT MOST 1048576: true; the input reads as it did. -/
def uniteNobodyUptoRow : OpenClaim := { program := "ytkhjnmhingdmoaa", sum := "2723f03f0c0a6c45819258edffb991438d293131be80ad2980db54d279043bd6", func := "crosstree/crosstreelaw14.UniteNobody", spec := "uniteNobody", apart := false, narrowed := true }
def UniteNobodyUptoSaid : Prop := uniteNobodyUptoRow.holds Try.pinned (OpenSpec.upto uniteNobodySpec)

/-- 'crosstreelaw14.UniteChains', WHERE WHAT IT READS IS OF BULK AT MOST 1048576: true; the input reads as it did. -/
def uniteChainsUptoRow : OpenClaim := { program := "ytkhjnmhingdmoaa", sum := "2723f03f0c0a6c45819258edffb991438d293131be80ad2980db54d279043bd6", func := "crosstree/crosstreelaw14.UniteChains", spec := "uniteChains", apart := false, narrowed := true }
def UniteChainsUptoSaid : Prop := uniteChainsUptoRow.holds Try.pinned (OpenSpec.upto uniteChainsSpec)

/-- 'crosstreelaw14.UniteBeyond', WHERE WHAT IT READS IS OF BULK AT MOST 1048576: true; the input reads as it did. -/
def uniteBeyondUptoRow : OpenClaim := { program := "ytkhjnmhingdmoaa", sum := "2723f03f0c0a6c45819258edffb991438d293131be80ad2980db54d279043bd6", func := "crosstree/crosstreelaw14.UniteBeyond", spec := "uniteBeyond", apart := false, narrowed := true }
def UniteBeyondUptoSaid : Prop := uniteBeyondUptoRow.holds Try.pinned (OpenSpec.upto uniteBeyondSpec)

end Rows
end Go.Proofs.Ytkhjnmhingdmoaa
