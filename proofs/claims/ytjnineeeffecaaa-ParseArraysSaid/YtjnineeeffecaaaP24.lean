/- What the parser comes to at the three sources that the laws show. -/
import Derived.Test.YtjnineeeffecaaaP23
namespace Go.Proofs.Ytjnineeeffecaaa
open Go X
set_option maxRecDepth 100000
@[reducible] def src1 : List UInt8 := [105, 110, 116, 32, 42, 97, 91, 51, 93, 59]
@[reducible] def src2 : List UInt8 := [108, 111, 110, 103, 32, 40, 42, 102, 41, 40, 105, 110, 116, 44, 32, 99, 104, 97, 114, 32, 42, 41, 59]
@[reducible] def src3 : List UInt8 := [105, 110, 116, 32, 102, 40, 105, 110, 116, 32, 120, 41, 32, 123, 32, 114, 101, 116, 117, 114, 110, 32, 120, 32, 125]
theorem lex1 : lexS src1 = .ok [⟨2, 0, tx [105, 110, 116], 0⟩, ⟨4, 4, tx [42], 0⟩, ⟨1, 5, tx [97], 0⟩, ⟨4, 6, tx [91], 0⟩, ⟨3, 7, tx [51], 3⟩, ⟨4, 8, tx [93], 0⟩, ⟨4, 9, tx [59], 0⟩] := by kernel_rfl
theorem ev1 : parseA src1 = (.mk 23 (tx []) 0 .nil [.mk 21 (tx [97]) 0 (.mk 6 3 (tx []) [.mk 5 0 (tx []) [.mk 3 0 (tx []) []]]) []], 0, 0) := by kernel_rfl
theorem ev3 : parseA src3 = (.nil, 24, 2) := by kernel_rfl
theorem ev2 : parseA src2 = (.mk 23 (tx []) 0 .nil [.mk 21 (tx [102]) 0 (.mk 5 0 (tx []) [.mk 9 0 (tx []) [.mk 4 0 (tx []) [], .mk 3 0 (tx []) [], .mk 5 0 (tx []) [.mk 2 0 (tx []) []]]]) []], 0, 0) := by kernel_rfl
end Go.Proofs.Ytjnineeeffecaaa
