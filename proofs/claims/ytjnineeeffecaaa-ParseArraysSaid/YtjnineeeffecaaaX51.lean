/- Texts joined; rows one behind the other. For whatever program. -/
import Derived.Test.YtjnineeeffecaaaX50
namespace Go.Proofs.Ytjnineeeffecaaa.X
open Go Go.RowKit
section
variable {P : Program} {n : Nat} {Q : Post} {ρ : Env} {ds : List Deferred} {A : World → Prop} {ops : Array Oper} {rest : List Oper} {o : Oper} {d q : Nat} {c : Cx} {L L' : List SP} {Φ : List FP}
theorem cat_tx (a b : List UInt8) : (ByteArray.mk a.toArray) ++ (ByteArray.mk b.toArray) = ⟨(a ++ b).toArray⟩ := by
  apply ByteArray.ext
  rw [ByteArray.data_append]
  simp
theorem XL.cat {t t' : TypeId} {x y : Operand} {a b : List UInt8} (hop : o.op = .binOp .add t x y t') (hd : o.dst = some d) (hn : Nat.blt d n = true) (hw : wantB ops ρ o = some true) (hx : evE ρ x = some (.string ⟨a.toArray⟩)) (hy : evE ρ y = some (.string ⟨b.toArray⟩))
    (h : a.length + b.length ≤ 9223372036854775807)     (k : XL P n ops Q (q - 1) rest ((d, .string ⟨(a ++ b).toArray⟩) :: ρ) ds A) : XL P n ops Q q (o :: rest) ρ ds A :=
  XL.bin hop hd hn hw hx hy (fun w => by
    simp only [binOp, eqGuard]
    rw [← cat_tx]
    simp [Op.stringOp, size_tx]
    omega) k
theorem XL.rem64 {t t' : TypeId} {x y : Operand} {a b : Nat} (hop : o.op = .binOp .rem t x y t') (hd : o.dst = some d) (hn : Nat.blt d n = true) (hw : wantB ops ρ o = some true) (hx : evE ρ x = some (.int .i64 (a : Int))) (hy : evE ρ y = some (.int .i64 (b : Int)))
    (h : a ≤ 9223372036854775807 ∧ 0 < b) (k : XL P n ops Q (q - 1) rest ((d, .int .i64 ((a % b : Nat) : Int)) :: ρ) ds A) : XL P n ops Q q (o :: rest) ρ ds A :=
  XL.bin hop hd hn hw hx hy (fun w => by
    have h1 : ¬ (b : Int) = 0 := by omega
    have h0 : (0 : Int) ≤ a := by omega
    have h4 : (a : Int) % (b : Int) = ((a % b : Nat) : Int) := by omega
    have h5 := Nat.mod_le a b
    have h2 : -9223372036854775808 ≤ (a : Int) % (b : Int) ∧ (a : Int) % (b : Int) ≤ 9223372036854775807 := by omega
    rw [← h4]
    generalize (b : Int) = b' at *
    generalize (a : Int) = a' at *
    simp [binOp, eqGuard, Op.intDiv, h1, Int.tmod_eq_emod_of_nonneg h0, wrap_in h2]) k
theorem XL.remU8 {t t' : TypeId} {x y : Operand} {a b : Nat} (hop : o.op = .binOp .rem t x y t') (hd : o.dst = some d) (hn : Nat.blt d n = true) (hw : wantB ops ρ o = some true) (hx : evE ρ x = some (.int .u8 (a : Int))) (hy : evE ρ y = some (.int .u8 (b : Int)))
    (h : a ≤ 255 ∧ 0 < b) (k : XL P n ops Q (q - 1) rest ((d, .int .u8 ((a % b : Nat) : Int)) :: ρ) ds A) : XL P n ops Q q (o :: rest) ρ ds A :=
  XL.bin hop hd hn hw hx hy (fun w => by
    have h1 : ¬ (b : Int) = 0 := by omega
    have h0 : (0 : Int) ≤ a := by omega
    have h4 : (a : Int) % (b : Int) = ((a % b : Nat) : Int) := by omega
    have h5 := Nat.mod_le a b
    have h2 : 0 ≤ (a : Int) % (b : Int) ∧ (a : Int) % (b : Int) ≤ 255 := by omega
    rw [← h4]
    generalize (b : Int) = b' at *
    generalize (a : Int) = a' at *
    simp [binOp, eqGuard, Op.intDiv, h1, Int.tmod_eq_emod_of_nonneg h0, wrap_u8 h2]) k
/-- A decimal digit's byte, as a text. -/
theorem XL.chrD {n' : Nat} {src dst : TypeId} {x : Operand} {ks : IntKind} {n : Nat} (hop : o.op = .convert src dst x) (hd : o.dst = some d) (hn : Nat.blt d n' = true) (hw : wantB ops ρ o = some true) (hx : evE ρ x = some (.int .u8 ((([48, 49, 50, 51, 52, 53, 54, 55, 56, 57] : List UInt8).getD n 0).toNat : Int)))
    (hs : intB P src = some ks) (ht : strB P dst = true) (h : n < 10) (k : XL P n' ops Q (q - 1) rest ((d, .string ⟨[([48, 49, 50, 51, 52, 53, 54, 55, 56, 57] : List UInt8).getD n 0].toArray⟩) :: ρ) ds A) : XL P n' ops Q q (o :: rest) ρ ds A :=
  XL.run (d := some d) hd hn hw (fun σ w hσ _ => by
    unfold intB at hs
    cases h1 : P.underlying src with
    | none => simp [h1] at hs
    | some u1 =>
    have h2 := strB_spec ht
    unfold execOp
    rw [hop]
    simp only [hσ.val hx]
    refine run_v ?_
    have h3 : u1 = .int ks := by
      simp only [h1] at hs
      split at hs
      · rename_i heq; cases hs; cases heq; rfl
      · cases hs
    subst h3
    rcases (show n = 0 ∨ n = 1 ∨ n = 2 ∨ n = 3 ∨ n = 4 ∨ n = 5 ∨ n = 6 ∨ n = 7 ∨ n = 8 ∨ n = 9 by omega) with rfl | rfl | rfl | rfl | rfl | rfl | rfl | rfl | rfl | rfl <;>
      simp [convert, run_underlying h1, run_underlying h2, Conv.intToString] <;> decide +kernel) k
/-- A contract of the library that makes new blocks alone. -/
theorem Tri.ofBelow {f : FuncId} {args : List Value} {v : Value} {φ : World → Prop} (hφ : ∀ (c : Cx) w, St c L Φ w → φ w) (h : ∀ w, φ w → Calls P f args.toArray w fun e w' => e = .returned v ∧ Below w.heap.size w w') :
    Tri P f args L Φ fun e L' Φ' => e = .returned v ∧ L' = L ∧ Φ' = Φ := fun c hc => (h c.w0 (hφ c _ hc)).mono (by
  rintro e w' ⟨rfl, hB⟩
  exact ⟨L, Φ, ⟨rfl, rfl, rfl⟩, hc.step (Lc := []) (Lc' := []) .nil (fun _ h => h) (fun Oc hO _ => ⟨Oc, hO, ⟨hB.os, hB.tape, hB.output, hB.size, fun b hb _ => hB.block b hb⟩, fun b hb => absurd hb (hO b)⟩)⟩)
end
end Go.Proofs.Ytjnineeeffecaaa.X
