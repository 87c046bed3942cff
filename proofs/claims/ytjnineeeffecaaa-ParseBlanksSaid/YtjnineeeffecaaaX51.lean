/- Texts joined; rows one behind the other. For whatever program. -/
import Derived.Test.YtjnineeeffecaaaX50
namespace Go.Proofs.Ytjnineeeffecaaa.X
open Go Go.RowKit
section
variable {P : Program} {n : Nat} {Q : Post} {ρ : Env} {ds : List Deferred} {A : World → Prop} {ops : Array Oper} {rest : List Oper} {o : Oper} {d q : Nat} {c : Cx} {L L' : List SP} {Φ : List FP}
theorem cat_tx (a b : List UInt8) : (ByteArray.mk a.toArray) ++ (ByteArray.mk b.toArray) = ⟨(a ++ b).toArray⟩ := by
  apply ByteArray.ext
  rw [ByteArray.data_append]
  simp
theorem XL.cat {t t' : TypeId} {x y : Operand} {a b : List UInt8} (hop : o.op = .binOp .add t x y t') (hd : o.dst = some d) (hn : Nat.blt d n = true) (hw : wantB ops ρ o = some true) (hx : evE ρ x = some (.string ⟨a.toArray⟩)) (hy : evE ρ y = some (.string ⟨b.toArray⟩))
    (h : a.length + b.length ≤ 9223372036854775807)     (k : XL P n ops Q (q - 1) rest ((d, .string ⟨(a ++ b).toArray⟩) :: ρ) ds A) : XL P n ops Q q (o :: rest) ρ ds A :=
  XL.bin hop hd hn hw hx hy (fun w => by
    simp only [binOp, eqGuard]
    rw [← cat_tx]
    simp [Op.stringOp, size_tx]
    omega) k
/-- A contract of the library that makes new blocks alone. -/
theorem Tri.ofBelow {f : FuncId} {args : List Value} {v : Value} {φ : World → Prop} (hφ : ∀ (c : Cx) w, St c L Φ w → φ w) (h : ∀ w, φ w → Calls P f args.toArray w fun e w' => e = .returned v ∧ Below w.heap.size w w') :
    Tri P f args L Φ fun e L' Φ' => e = .returned v ∧ L' = L ∧ Φ' = Φ := fun c hc => (h c.w0 (hφ c _ hc)).mono (by
  rintro e w' ⟨rfl, hB⟩
  exact ⟨L, Φ, ⟨rfl, rfl, rfl⟩, hc.step (Lc := []) (Lc' := []) .nil (fun _ h => h) (fun Oc hO _ => ⟨Oc, hO, ⟨hB.os, hB.tape, hB.output, hB.size, fun b hb _ => hB.block b hb⟩, fun b hb => absurd hb (hO b)⟩)⟩)
end
end Go.Proofs.Ytjnineeeffecaaa.X
