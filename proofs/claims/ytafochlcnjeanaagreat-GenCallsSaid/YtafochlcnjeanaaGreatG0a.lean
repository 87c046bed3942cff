/- The example's source, parsed and checked by the document: run by numbers, first part. -/
import Derived.Test.YtafochlcnjeanaaGreatX36
import Derived.Test.YtafochlcnjeanaaGreatProg
namespace Go.Proofs.YtafochlcnjeanaaGreat
open Go X
namespace OfRun
open E
abbrev n (k : Nat) : EV := .int .i64 (.ofNat k)
abbrev st0 : EV := .str []
abbrev sl0 : EV := .flat (.slice none 0 0)
abbrev sl (k o l z : Nat) : EV := .slc k o l z none
abbrev arg : EV := (.str [105, 110, 116, 32, 103, 59, 32, 105, 110, 116, 32, 109, 97, 105, 110, 40, 41, 32, 123, 32, 105, 110, 116, 32, 42, 112, 32, 61, 32, 38, 103, 59, 32, 114, 101, 116, 117, 114, 110, 32, 42, 112, 59, 32, 125])
abbrev res : EV := (.tup [(.agg [(n 23), st0, (n 0), (n 0), (n 0), st0, sl0, (sl 2029 0 2 8)]), sl0, (.bool true)])
abbrev lits : Lits := [(423, 47, [(n 3), (n 0), st0, sl0]),
  (938, 47, [(n 3), (n 0), st0, sl0]),
  (1459, 50, [(n 2), (.str [103]), (n 0), (n 3), (n 0), st0, sl0, sl0]),
  (1509, 47, [(n 3), (n 0), st0, sl0]),
  (1527, 50, [(n 3), (.str [38]), (n 0), (n 5), (n 0), st0, (.slc 1509 0 1 4 (some 1)), (sl 1459 0 1 8)]),
  (1840, 50, [(n 2), (.str [112]), (n 1000), (n 5), (n 0), st0, (.slc 423 0 1 4 (some 1)), sl0]),
  (1890, 50, [(n 3), (.str [42]), (n 0), (n 3), (n 0), st0, sl0, (sl 1840 0 1 8)]),
  (1930, 50, [(n 13), (.str [112]), (n 1000), (n 5), (n 0), st0, (.slc 423 0 1 4 (some 1)), (sl 1527 0 1 8), (n 16), st0, (n 0), (n 0), (n 0), st0, sl0, (sl 1890 0 1 8)]),
  (1932, 50, [(n 17), st0, (n 0), (n 0), (n 0), st0, sl0, (sl 1930 0 2 8)]),
  (2029, 50, [(n 21), (.str [103]), (n 0), (n 3), (n 0), st0, sl0, sl0, (n 22), (.str [109, 97, 105, 110]), (n 0), (n 9), (n 0), st0, (.slc 938 0 1 4 (some 1)), (sl 1932 0 1 8)])]
end OfRun
theorem mixed : Tryz.prog.follows .mixedOrders = true := by kernel_rfl
theorem of_run : E.sameR OfRun.lits (.ret OfRun.res) 2031 (E.runF Tryz.prog (E.anyE Tryz.prog) 100000 500 16 [OfRun.arg] .leaf 0) = true := by kernel_rfl
end Go.Proofs.YtafochlcnjeanaaGreat
