/- Texts: their bytes, their parts; bits of bytes; products and quotients; what the library's contracts tell. For whatever program. -/
import Derived.Test.YtjnineeeffecaaaX19
import Derived.Laws.IdiomStrings
import Derived.Lib.Strings
namespace Go.Proofs.Ytjnineeeffecaaa.X
open Go Go.RowKit

section
variable {P : Program} {n : Nat} {Q : Post} {ρ : Env} {ds : List Deferred} {A : World → Prop} {ops : Array Oper} {rest : List Oper} {o : Oper} {d q : Nat} {c : Cx} {L L' : List SP} {Φ : List FP}
def strB (P : Program) (t : TypeId) : Bool := match P.underlying t with
  | some .string => true
  | _ => false
theorem strB_spec {t : TypeId} (h : strB P t = true) : P.underlying t = some .string := by
  unfold strB at h
  split at h
  · assumption
  · cases h
theorem size_tx (l : List UInt8) : ByteArray.size ⟨l.toArray⟩ = l.length := by simp [ByteArray.size]
theorem extract_tx (l : List UInt8) (a b : Nat) : (ByteArray.mk l.toArray).extract a b = ⟨((l.drop a).take (b - a)).toArray⟩ := by
  rw [ByteArray.extract_mk]
theorem run_sidx {t : TypeId} {l : List UInt8} {kd : IntKind} {i : Int} (ht : strB P t = true) (h : 0 ≤ i ∧ i < l.length) (w : World) :
    (Instr.index t (.string ⟨l.toArray⟩) (.int kd i)).run P w = .ok (.int .u8 ((l.getD i.toNat 0).toNat : Int)) w := by
  rw [run_index_string w t _ kd i (strB_spec ht), dif_pos (by rw [size_tx]; exact h)]
  have h2 : i.toNat < l.length := by omega
  have : (ByteArray.mk l.toArray)[i.toNat]'(by rw [size_tx]; exact h2) = l.getD i.toNat 0 := by
    rw [List.getD_eq_getElem?_getD, List.getElem?_eq_getElem h2]
    rfl
  rw [this]
theorem XL.sidx {t : TypeId} {x y : Operand} {l : List UInt8} {kd : IntKind} {i : Int} (hop : o.op = .index t x y) (hd : o.dst = some d) (hn : Nat.blt d n = true) (hw : wantB ops ρ o = some true) (hx : evE ρ x = some (.string ⟨l.toArray⟩))
    (hy : evE ρ y = some (.int kd i)) (ht : strB P t = true) (h : 0 ≤ i ∧ i < l.length) (k : XL P n ops Q (q - 1) rest ((d, .int .u8 ((l.getD i.toNat 0).toNat : Int)) :: ρ) ds A) : XL P n ops Q q (o :: rest) ρ ds A :=
  XL.run (d := some d) hd hn hw (fun σ w hσ _ => by
    unfold execOp
    rw [hop]
    simp only [hσ.val hx, hσ.val hy]
    exact run_v (run_sidx ht h w)) k
theorem XL.sidxN {t : TypeId} {x y : Operand} {l : List UInt8} {kd : IntKind} {i : Nat} (hop : o.op = .index t x y) (hd : o.dst = some d) (hn : Nat.blt d n = true) (hw : wantB ops ρ o = some true) (hx : evE ρ x = some (.string ⟨l.toArray⟩))
    (hy : evE ρ y = some (.int kd (i : Int))) (ht : strB P t = true) (h : i < l.length) (k : XL P n ops Q (q - 1) rest ((d, .int .u8 ((l.getD i 0).toNat : Int)) :: ρ) ds A) : XL P n ops Q q (o :: rest) ρ ds A :=
  XL.sidx hop hd hn hw hx hy ht (by omega) k
/-- A text's length. -/
theorem XL.lenTx {cl : Call} {l : List UInt8} (hop : o.op = .call cl) (hd : o.dst = some d) (hn : Nat.blt d n = true) (hw : wantB ops ρ o = some true) (hb : cl.callee = .builtin .len)
    (ha : evs ρ cl.args.toList = some [.string ⟨l.toArray⟩]) (ht : lenKind P cl.argTypes = 2) (k : XL P n ops Q (q - 1) rest ((d, .int .i64 (l.length : Int)) :: ρ) ds A) : XL P n ops Q q (o :: rest) ρ ds A :=
  XL.lenStr hop hd hn hw hb ha ht (by rw [size_tx]; exact k)
theorem XL.sslN {t : TypeId} {x y : Operand} {l : List UInt8} {kd : IntKind} {i : Nat} (hop : o.op = .slice t x (some y) none none) (hd : o.dst = some d) (hn : Nat.blt d n = true) (hw : wantB ops ρ o = some true) (hx : evE ρ x = some (.string ⟨l.toArray⟩))
    (hy : evE ρ y = some (.int kd (i : Int))) (ht : strB P t = true) (h : i ≤ l.length) (k : XL P n ops Q (q - 1) rest ((d, .string ⟨(l.drop i).toArray⟩) :: ρ) ds A) : XL P n ops Q q (o :: rest) ρ ds A :=
  XL.run (d := some d) hd hn hw (fun σ w hσ _ => by
    unfold execOp
    rw [hop]
    simp only [hσ.val hx, Option.map_some, Option.map_none, hσ.val hy]
    refine run_v ?_
    rw [run_sliceAt_string w t _ _ _ _ (strB_spec ht), run_slice_string_l w t _ (strB_spec ht) kd (i : Int) (by omega) (by rw [size_tx]; omega), extract_tx, size_tx]
    congr 4
    exact List.take_of_length_le (by simp)) k
theorem XL.sslI {t : TypeId} {x y : Operand} {l : List UInt8} {kd : IntKind} {i : Int} (hop : o.op = .slice t x (some y) none none) (hd : o.dst = some d) (hn : Nat.blt d n = true) (hw : wantB ops ρ o = some true) (hx : evE ρ x = some (.string ⟨l.toArray⟩))
    (hy : evE ρ y = some (.int kd i)) (ht : strB P t = true) (h : 0 ≤ i ∧ i ≤ l.length) (k : XL P n ops Q (q - 1) rest ((d, .string ⟨(l.drop i.toNat).toArray⟩) :: ρ) ds A) : XL P n ops Q q (o :: rest) ρ ds A :=
  XL.sslN (i := i.toNat) hop hd hn hw hx (by rw [hy, Int.toNat_of_nonneg h.1]) ht (by omega) k
theorem XL.sshN {t : TypeId} {x y : Operand} {l : List UInt8} {kd : IntKind} {i : Nat} (hop : o.op = .slice t x none (some y) none) (hd : o.dst = some d) (hn : Nat.blt d n = true) (hw : wantB ops ρ o = some true) (hx : evE ρ x = some (.string ⟨l.toArray⟩))
    (hy : evE ρ y = some (.int kd (i : Int))) (ht : strB P t = true) (h : i ≤ l.length) (k : XL P n ops Q (q - 1) rest ((d, .string ⟨(l.take i).toArray⟩) :: ρ) ds A) : XL P n ops Q q (o :: rest) ρ ds A :=
  XL.run (d := some d) hd hn hw (fun σ w hσ _ => by
    unfold execOp
    rw [hop]
    simp only [hσ.val hx, Option.map_some, Option.map_none, hσ.val hy]
    refine run_v ?_
    rw [run_sliceAt_string w t _ _ _ _ (strB_spec ht), run_slice_string_h w t _ (strB_spec ht) kd (i : Int) (by omega) (by rw [size_tx]; omega), extract_tx]
    rfl) k
theorem XL.sshI {t : TypeId} {x y : Operand} {l : List UInt8} {kd : IntKind} {i : Int} (hop : o.op = .slice t x none (some y) none) (hd : o.dst = some d) (hn : Nat.blt d n = true) (hw : wantB ops ρ o = some true) (hx : evE ρ x = some (.string ⟨l.toArray⟩))
    (hy : evE ρ y = some (.int kd i)) (ht : strB P t = true) (h : 0 ≤ i ∧ i ≤ l.length) (k : XL P n ops Q (q - 1) rest ((d, .string ⟨(l.take i.toNat).toArray⟩) :: ρ) ds A) : XL P n ops Q q (o :: rest) ρ ds A :=
  XL.sshN (i := i.toNat) hop hd hn hw hx (by rw [hy, Int.toNat_of_nonneg h.1]) ht (by omega) k
theorem XL.sslh {t : TypeId} {x y z : Operand} {l : List UInt8} {kd ke : IntKind} {i j : Nat} (hop : o.op = .slice t x (some y) (some z) none) (hd : o.dst = some d) (hn : Nat.blt d n = true) (hw : wantB ops ρ o = some true) (hx : evE ρ x = some (.string ⟨l.toArray⟩))
    (hy : evE ρ y = some (.int kd (i : Int))) (hz : evE ρ z = some (.int ke (j : Int))) (ht : strB P t = true) (h : i ≤ j ∧ j ≤ l.length) (k : XL P n ops Q (q - 1) rest ((d, .string ⟨((l.take j).drop i).toArray⟩) :: ρ) ds A) : XL P n ops Q q (o :: rest) ρ ds A :=
  XL.run (d := some d) hd hn hw (fun σ w hσ _ => by
    unfold execOp
    rw [hop]
    simp only [hσ.val hx, Option.map_some, Option.map_none, hσ.val hy, hσ.val hz]
    refine run_v ?_
    have hs := strB_spec ht
    have h1 : i ≤ (ByteArray.mk l.toArray).size := by rw [size_tx]; omega
    have h2 : j ≤ (ByteArray.mk l.toArray).size := by rw [size_tx]; omega
    rw [run_sliceAt_string w t _ _ _ _ hs]
    simp [Instr.slice, run_underlying hs, Instr.sliceBounds, run_sliceBound, sliced, h.1, h1, h2]
    rw [List.drop_take]
    exact extract_tx l i j) k
/-! ### Bits and numbers -/
theorem wrap_u8 {a : Int} (h : 0 ≤ a ∧ a ≤ 255) : IntKind.u8.wrap a = a := by
  have : IntKind.u8.wrap a = a % 256 := by
    unfold IntKind.wrap
    simp only [IntKind.signed, Bool.false_and]
    rfl
  rw [this]
  omega
theorem or32 (a : UInt8) : (IntKind.u8.wrap (((BitVec.ofInt IntKind.u8.bits (a.toNat : Int)) ||| (BitVec.ofInt IntKind.u8.bits 32)).toNat : Nat)) = ((a ||| 32).toNat : Int) := by
  have h1 : BitVec.ofInt 8 (a.toNat : Int) = a.toBitVec := by
    apply BitVec.eq_of_toNat_eq
    simp [BitVec.toNat_ofInt]
  have h2 : ((BitVec.ofInt IntKind.u8.bits (a.toNat : Int)) ||| (BitVec.ofInt IntKind.u8.bits 32)).toNat = (a ||| 32).toNat := by
    show (BitVec.ofInt 8 (a.toNat : Int) ||| (32 : UInt8).toBitVec).toNat = _
    rw [h1]
    rfl
  rw [h2]
  have h3 : (a ||| 32).toNat < 256 := (a ||| 32).toBitVec.isLt
  exact wrap_u8 (by omega)
theorem XL.or32 {t t' : TypeId} {x y : Operand} {a : UInt8} (hop : o.op = .binOp .or t x y t') (hd : o.dst = some d) (hn : Nat.blt d n = true) (hw : wantB ops ρ o = some true) (hx : evE ρ x = some (.int .u8 (a.toNat : Int))) (hy : evE ρ y = some (.int .u8 32))
    (k : XL P n ops Q (q - 1) rest ((d, .int .u8 ((a ||| 32).toNat : Int)) :: ρ) ds A) : XL P n ops Q q (o :: rest) ρ ds A :=
  XL.bin hop hd hn hw hx hy (fun w => by
    simp only [binOp, eqGuard, Op.intBits]
    simp
    exact X.or32 a) k
theorem XL.subU8 {t t' : TypeId} {x y : Operand} {a b : Int} (hop : o.op = .binOp .sub t x y t') (hd : o.dst = some d) (hn : Nat.blt d n = true) (hw : wantB ops ρ o = some true) (hx : evE ρ x = some (.int .u8 a)) (hy : evE ρ y = some (.int .u8 b))
    (h : 0 ≤ a - b ∧ a - b ≤ 255) (k : XL P n ops Q (q - 1) rest ((d, .int .u8 (a - b)) :: ρ) ds A) : XL P n ops Q q (o :: rest) ρ ds A :=
  XL.bin hop hd hn hw hx hy (fun w => by simp [binOp, eqGuard, Op.intArith, wrap_u8 h]) k
theorem XL.quo {t t' : TypeId} {x y : Operand} {a b : Int} (hop : o.op = .binOp .quo t x y t') (hd : o.dst = some d) (hn : Nat.blt d n = true) (hw : wantB ops ρ o = some true) (hx : evE ρ x = some (.int .i64 a)) (hy : evE ρ y = some (.int .i64 b))
    (h : 0 ≤ a ∧ a ≤ 9223372036854775807 ∧ 0 < b) (k : XL P n ops Q (q - 1) rest ((d, .int .i64 (a / b)) :: ρ) ds A) : XL P n ops Q q (o :: rest) ρ ds A :=
  XL.bin hop hd hn hw hx hy (fun w => by
    have h1 : ¬ b = 0 := by omega
    have h2 : -9223372036854775808 ≤ a / b ∧ a / b ≤ 9223372036854775807 := ⟨by have := Int.ediv_nonneg h.1 (by omega : 0 ≤ b); omega, by have := Int.ediv_le_self b h.1; omega⟩
    simp [binOp, eqGuard, Op.intDiv, h1, Int.tdiv_eq_ediv_of_nonneg h.1, wrap_in h2]) k
/-! ### An array's cell -/
def arrB (P : Program) (t : TypeId) : Option Nat := match P.underlying t with
  | some (.array len e) => match sizeB P e, aggB P e with
    | some 1, some false => some len
    | _, _ => none
  | _ => none
theorem XL.aidx {t : TypeId} {x y : Operand} {vs : List Value} {v : Value} {kd : IntKind} {i len : Nat} (hop : o.op = .index t x y) (hd : o.dst = some d) (hn : Nat.blt d n = true) (hw : wantB ops ρ o = some true) (hx : evE ρ x = some (.agg vs.toArray))
    (hy : evE ρ y = some (.int kd (i : Int))) (ht : arrB P t = some len) (h : i < len) (hv : vs[i]? = some v) (k : XL P n ops Q (q - 1) rest ((d, v) :: ρ) ds A) : XL P n ops Q q (o :: rest) ρ ds A :=
  XL.run (d := some d) hd hn hw (fun σ w hσ _ => by
    unfold execOp
    rw [hop]
    simp only [hσ.val hx, hσ.val hy]
    refine run_v ?_
    unfold arrB at ht
    cases hu : P.underlying t with
    | none => simp [hu] at ht
    | some u =>
    cases u <;> simp only [hu] at ht <;> first | (cases ht; done) | skip
    rename_i len' e
    split at ht
    · rename_i hs ha
      cases ht
      obtain ⟨inf, hi, hsz⟩ := sizeB_spec hs
      have h0 : (0 : Int) ≤ (i : Int) ∧ (i : Int) < (len : Int) := by omega
      simp only [Instr.index, asIntOf, Sem.run_bind, Sem.run_pure, Result.andThen_ok, run_underlying hu, h0, and_self, if_true]
      simp [sizeOf, typeInfo, hi, hsz, part, run_isAgg ha, hv]
    · cases ht) k
/-! ### The bytes of a text -/
def bytV (l : List UInt8) : List Value := l.map fun b => .int .u8 (b.toNat : Int)
def bytB (P : Program) (s t : TypeId) : Bool := match P.underlying s, P.underlying t with
  | some .string, some (.slice e) => match P.underlying e with
    | some (.int .u8) => true
    | _ => false
  | _, _ => false
theorem St.bytes {w : World} (h : St c L Φ w) (b0 : Nat) (hb0 : b0 = w.heap.size) (l : List UInt8) (cs : List Value) (e cap : Nat) (fz : Nat × Nat) (hc : l.length ≤ cap) (hcs : ∀ (j : Nat) v, (bytV l)[j]? = some v → cs[j]? = some v) :
    St c L (Row.fp 1 (.slice (some ⟨b0, 0, none⟩) l.length cap) l.length (bytV l) :: Φ) (w.drew.alloc (.cells cs.toArray e fz)) := by
  subst hb0
  have h1 := (h.drewn (w.drawn + 1)).alloc (.cells cs.toArray e fz)
  refine h1.freeze (r := X.blk w.heap.size (.cells cs.toArray e fz)) .here fun O1 O hh hd _ => ?_
  refine ⟨⟨by simp [bytV], .inr ⟨w.heap.size, 0, cap, rfl, hc, fun j u hj => ?_⟩⟩, fun b' off m' cap' hv _ => ?_⟩
  · obtain ⟨_, h2⟩ := hh
    have h3 := hcs j u hj
    simp only [World.cell?, Nat.zero_add]
    have h4 : (w.drew.alloc (.cells cs.toArray e fz)).heap[w.heap.size]? = some (.cells cs.toArray e fz) := h2
    erw [h4]
    simpa using h3
  · cases hv
    exact ⟨(X.blk w.heap.size (.cells cs.toArray e fz)).lt hh ((hh.1 _).2 rfl), hd _ ((hh.1 _).2 rfl)⟩
theorem XL.bytes {s t : TypeId} {x : Operand} {l : List UInt8} (hop : o.op = .convert s t x) (hd : o.dst = some d) (hn : Nat.blt d n = true) (hw : wantB ops ρ o = some true) (hx : evE ρ x = some (.string ⟨l.toArray⟩))
    (ht : bytB P s t = true) (k : ∀ z : Nat × Nat, XL P n ops Q 0 rest ((d, .slice (some ⟨z.1, 0, none⟩) l.length z.2) :: ρ) ds (St c L (Row.fp 1 (.slice (some ⟨z.1, 0, none⟩) l.length z.2) l.length (bytV l) :: Φ))) :
    XL P n ops Q 0 (o :: rest) ρ ds (St c L Φ) := by
  unfold bytB at ht
  split at ht
  · rename_i e hs hdst
    split at ht
    · rename_i he
      refine XL.eff (α := Nat × Nat) (v := fun z => .slice (some ⟨z.1, 0, none⟩) l.length z.2) (B := fun z w => St c L (Row.fp 1 (.slice (some ⟨z.1, 0, none⟩) l.length z.2) l.length (bytV l) :: Φ) w) (d := some d) hd hn hw (fun σ w hσ hA => ?_) k
      have hrun := run_bytes_of_string (P := P) w s t e ⟨l.toArray⟩ hs hdst he
      rw [size_tx] at hrun
      refine ⟨(w.heap.size, grownCap w l.length 0 e), w.drew.alloc (.cells (bytesRow ⟨l.toArray⟩ (grownCap w l.length 0 e)) e ((bytesRow ⟨l.toArray⟩ (grownCap w l.length 0 e)).size, (bytesRow ⟨l.toArray⟩ (grownCap w l.length 0 e)).size + 1)), ?_, ?_⟩
      · unfold execOp
        rw [hop]
        simp only [hσ.val hx]
        exact run_v hrun
      · have hge := grownCap_ge w l.length 0 e
        have h2 := hA.bytes w.heap.size rfl l (bytesRow ⟨l.toArray⟩ (grownCap w l.length 0 e)).toList e (grownCap w l.length 0 e) ((bytesRow ⟨l.toArray⟩ (grownCap w l.length 0 e)).size, (bytesRow ⟨l.toArray⟩ (grownCap w l.length 0 e)).size + 1) hge (fun j v hv => by
          unfold bytesRow
          have hlt : j < (bytV l).length := (List.getElem?_eq_some_iff.1 hv).1
          rw [Array.toList_append, List.getElem?_append_left (by simpa [bytV] using hlt)]
          simpa [bytV] using hv)
        simpa using h2
    · cases ht
  · cases ht
/-! ### Contracts of the library -/
theorem Tri.ofCalls {f : FuncId} {args : List Value} {v : Value} {φ : World → Prop} (hφ : ∀ (c : Cx) w, St c L Φ w → φ w) (h : ∀ w, φ w → Calls P f args.toArray w fun e w' => e = .returned v ∧ w' = w) :
    Tri P f args L Φ fun e L' Φ' => e = .returned v ∧ L' = L ∧ Φ' = Φ := fun c hc => (h c.w0 (hφ c _ hc)).mono (by
  rintro e w' ⟨rfl, rfl⟩
  exact ⟨L, Φ, ⟨rfl, rfl, rfl⟩, hc⟩)
end
end Go.Proofs.Ytjnineeeffecaaa.X
