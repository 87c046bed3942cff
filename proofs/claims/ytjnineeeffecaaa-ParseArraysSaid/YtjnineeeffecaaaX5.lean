/- More single operations: nil, lengths, sums, kinds of numbers, min and max; new variables; structs. For whatever program. -/
import Derived.Test.YtjnineeeffecaaaX4
namespace Go.Proofs.Ytjnineeeffecaaa.X
open Go Go.RowKit

section
variable {P : Program} {n : Nat} {Q : Post} {ρ : Env} {ds : List Deferred} {A : World → Prop} {ops : Array Oper} {rest : List Oper} {o : Oper} {d q : Nat}

/-- What an operation on two values comes to. -/
theorem XL.bin {t t' : TypeId} {op : BinOp} {x y : Operand} {a b v : Value} (hop : o.op = .binOp op t x y t') (hd : o.dst = some d) (hn : Nat.blt d n = true) (hw : wantB ops ρ o = some true) (hx : evE ρ x = some a) (hy : evE ρ y = some b)
    (hr : ∀ w, (do eqGuard op t x y a b; binOp op t a b : Sem Value).run P w = .ok v w) (k : XL P n ops Q (q - 1) rest ((d, v) :: ρ) ds A) : XL P n ops Q q (o :: rest) ρ ds A :=
  XL.run (d := some d) hd hn hw (fun σ w hσ _ => by
    unfold execOp
    rw [hop]
    simp only [hσ.val hx, hσ.val hy]
    exact run_v (hr w)) k

/-! ### nil -/
def ptrB (P : Program) (t : TypeId) : Bool := match P.underlying t with | some (.pointer _) => true | _ => false
def sliB (P : Program) (t : TypeId) : Bool := match P.underlying t with | some (.slice _) => true | _ => false
theorem ptrB_spec {t : TypeId} (h : ptrB P t = true) : ∃ e, P.underlying t = some (.pointer e) := by
  unfold ptrB at h
  split at h
  · rename_i e he; exact ⟨e, he⟩
  · cases h
theorem sliB_spec {t : TypeId} (h : sliB P t = true) : ∃ e, P.underlying t = some (.slice e) := by
  unfold sliB at h
  split at h
  · rename_i e he; exact ⟨e, he⟩
  · cases h
theorem run_equalIn_pnil {t : TypeId} (h : ptrB P t = true) (p : Option Addr) (m : Nat) (w : World) : (Op.equalIn (m + 1) t (.pointer p) (.pointer none)).run P w = .ok p.isNone w := by
  obtain ⟨e, he⟩ := ptrB_spec h
  cases p <;> simp [Op.equalIn, run_underlying he]
theorem run_equal_pnil {t : TypeId} (h : ptrB P t = true) (p : Option Addr) (w : World) : (Op.equal t (.pointer p) (.pointer none)).run P w = .ok p.isNone w := run_equalIn_pnil h p 9999 w
theorem run_equalIn_snil {t : TypeId} (h : sliB P t = true) (p : Option Addr) (m c k : Nat) (w : World) : (Op.equalIn (k + 1) t (.slice p m c) (.slice none 0 0)).run P w = .ok p.isNone w := by
  obtain ⟨e, he⟩ := sliB_spec h
  cases p <;> simp [Op.equalIn, run_underlying he]
theorem run_equal_snil {t : TypeId} (h : sliB P t = true) (p : Option Addr) (m c : Nat) (w : World) : (Op.equal t (.slice p m c) (.slice none 0 0)).run P w = .ok p.isNone w := run_equalIn_snil h p m c 9999 w
theorem XL.pnil {t t' : TypeId} {x y : Operand} {p : Option Addr} (hop : o.op = .binOp .eql t x y t') (hd : o.dst = some d) (hn : Nat.blt d n = true) (hw : wantB ops ρ o = some true) (hx : evE ρ x = some (.pointer p))
    (hy : evE ρ y = some (.pointer none)) (ht : ptrB P t = true) (k : XL P n ops Q (q - 1) rest ((d, .bool (Option.isNone p)) :: ρ) ds A) : XL P n ops Q q (o :: rest) ρ ds A :=
  XL.bin hop hd hn hw hx hy (fun w => by simp [binOp, run_equal_pnil ht, eqGuard]) k
theorem XL.pnil' {t t' : TypeId} {x y : Operand} {p : Option Addr} (hop : o.op = .binOp .neq t x y t') (hd : o.dst = some d) (hn : Nat.blt d n = true) (hw : wantB ops ρ o = some true) (hx : evE ρ x = some (.pointer p))
    (hy : evE ρ y = some (.pointer none)) (ht : ptrB P t = true) (k : XL P n ops Q (q - 1) rest ((d, .bool (Option.isSome p)) :: ρ) ds A) : XL P n ops Q q (o :: rest) ρ ds A :=
  XL.bin hop hd hn hw hx hy (fun w => by cases p <;> simp [binOp, run_equal_pnil ht, eqGuard]) k
/-- .. of a pointer to something. -/
theorem XL.psome {t t' : TypeId} {x y : Operand} {p : Addr} (hop : o.op = .binOp .eql t x y t') (hd : o.dst = some d) (hn : Nat.blt d n = true) (hw : wantB ops ρ o = some true) (hx : evE ρ x = some (.pointer (some p)))
    (hy : evE ρ y = some (.pointer none)) (ht : ptrB P t = true) (k : XL P n ops Q (q - 1) rest ((d, .bool false) :: ρ) ds A) : XL P n ops Q q (o :: rest) ρ ds A := XL.pnil hop hd hn hw hx hy ht k
theorem XL.pnone {t t' : TypeId} {x y : Operand} (hop : o.op = .binOp .eql t x y t') (hd : o.dst = some d) (hn : Nat.blt d n = true) (hw : wantB ops ρ o = some true) (hx : evE ρ x = some (.pointer none))
    (hy : evE ρ y = some (.pointer none)) (ht : ptrB P t = true) (k : XL P n ops Q (q - 1) rest ((d, .bool true) :: ρ) ds A) : XL P n ops Q q (o :: rest) ρ ds A := XL.pnil hop hd hn hw hx hy ht k
theorem XL.psome' {t t' : TypeId} {x y : Operand} {p : Addr} (hop : o.op = .binOp .neq t x y t') (hd : o.dst = some d) (hn : Nat.blt d n = true) (hw : wantB ops ρ o = some true) (hx : evE ρ x = some (.pointer (some p)))
    (hy : evE ρ y = some (.pointer none)) (ht : ptrB P t = true) (k : XL P n ops Q (q - 1) rest ((d, .bool true) :: ρ) ds A) : XL P n ops Q q (o :: rest) ρ ds A := XL.pnil' hop hd hn hw hx hy ht k
theorem XL.pnone' {t t' : TypeId} {x y : Operand} (hop : o.op = .binOp .neq t x y t') (hd : o.dst = some d) (hn : Nat.blt d n = true) (hw : wantB ops ρ o = some true) (hx : evE ρ x = some (.pointer none))
    (hy : evE ρ y = some (.pointer none)) (ht : ptrB P t = true) (k : XL P n ops Q (q - 1) rest ((d, .bool false) :: ρ) ds A) : XL P n ops Q q (o :: rest) ρ ds A := XL.pnil' hop hd hn hw hx hy ht k

/-! ### Truth values compared -/
def boolB (P : Program) (t : TypeId) : Bool := match P.underlying t with | some .bool => true | _ => false
theorem run_equalIn_bool {t : TypeId} (h : boolB P t = true) (a b : Bool) (m : Nat) (w : World) : (Op.equalIn (m + 1) t (.bool a) (.bool b)).run P w = .ok (a == b) w := by
  unfold boolB at h
  split at h
  · rename_i hu
    simp [Op.equalIn, run_underlying hu]
  · cases h
theorem run_equal_bool {t : TypeId} (h : boolB P t = true) (a b : Bool) (w : World) : (Op.equal t (.bool a) (.bool b)).run P w = .ok (a == b) w := run_equalIn_bool h a b 9999 w
theorem XL.eqB {t t' : TypeId} {x y : Operand} {a b : Bool} (hop : o.op = .binOp .eql t x y t') (hd : o.dst = some d) (hn : Nat.blt d n = true) (hw : wantB ops ρ o = some true) (hx : evE ρ x = some (.bool a))
    (hy : evE ρ y = some (.bool b)) (ht : boolB P t = true) (k : XL P n ops Q (q - 1) rest ((d, .bool (decide (a = b))) :: ρ) ds A) : XL P n ops Q q (o :: rest) ρ ds A :=
  XL.bin hop hd hn hw hx hy (fun w => by cases a <;> cases b <;> simp [binOp, run_equal_bool ht, eqGuard]) k
theorem XL.neB {t t' : TypeId} {x y : Operand} {a b : Bool} (hop : o.op = .binOp .neq t x y t') (hd : o.dst = some d) (hn : Nat.blt d n = true) (hw : wantB ops ρ o = some true) (hx : evE ρ x = some (.bool a))
    (hy : evE ρ y = some (.bool b)) (ht : boolB P t = true) (k : XL P n ops Q (q - 1) rest ((d, .bool (decide (¬ a = b))) :: ρ) ds A) : XL P n ops Q q (o :: rest) ρ ds A :=
  XL.bin hop hd hn hw hx hy (fun w => by cases a <;> cases b <;> simp [binOp, run_equal_bool ht, eqGuard]) k

/-! ### Builtins on values -/
theorem XL.builtin {cl : Call} {b : Builtin} {args : List Value} {v : Value} (hop : o.op = .call cl) (hd : o.dst = some d) (hn : Nat.blt d n = true) (hw : wantB ops ρ o = some true) (hb : cl.callee = .builtin b) (ha : evs ρ cl.args.toList = some args)
    (hr : ∀ w, A w → (Go.builtin b cl.argTypes o.type (cl.args.map fun | .const _ => true | _ => false) args.toArray).run P w = .ok (.value v) w)
    (k : XL P n ops Q (q - 1) rest ((d, v) :: ρ) ds A) : XL P n ops Q q (o :: rest) ρ ds A :=
  XL.run (d := some d) hd hn hw (fun σ w hσ hA => by
    unfold execOp
    rw [hop]
    have h1 : cl.args.map (ev σ) = args.toArray := Array.toList_inj.1 (by simpa using hσ.vals ha)
    simp only [resolve, hb, h1]
    exact hr w hA) k
def firstType (P : Program) (ts : Array TypeId) : Option TypeDesc := match ts[0]? with | some t => P.underlying t | none => none
/-- 1: a slice's; 2: a string's. -/
def lenKind (P : Program) (ts : Array TypeId) : Nat := match firstType P ts with | some (.slice _) => 1 | some .string => 2 | _ => 0
theorem XL.lenS {cl : Call} {p : Option Addr} {m c : Nat} (hop : o.op = .call cl) (hd : o.dst = some d) (hn : Nat.blt d n = true) (hw : wantB ops ρ o = some true) (hb : cl.callee = .builtin .len)
    (ha : evs ρ cl.args.toList = some [.slice p m c]) (ht : lenKind P cl.argTypes = 1) (k : XL P n ops Q (q - 1) rest ((d, .int .i64 (m : Int)) :: ρ) ds A) : XL P n ops Q q (o :: rest) ρ ds A :=
  XL.builtin hop hd hn hw hb ha (fun w _ => by
    unfold lenKind firstType at ht
    cases h0 : cl.argTypes[0]? with
    | none => simp [h0] at ht
    | some t =>
      simp only [h0] at ht
      split at ht <;> first | (cases ht; done) | skip
      rename_i e he
      simp [Go.builtin, Builtin.len_, h0, run_underlying he, goInt]) k
theorem XL.capS {cl : Call} {p : Option Addr} {m c : Nat} (hop : o.op = .call cl) (hd : o.dst = some d) (hn : Nat.blt d n = true) (hw : wantB ops ρ o = some true) (hb : cl.callee = .builtin .cap)
    (ha : evs ρ cl.args.toList = some [.slice p m c]) (ht : lenKind P cl.argTypes = 1) (k : XL P n ops Q (q - 1) rest ((d, .int .i64 (c : Int)) :: ρ) ds A) : XL P n ops Q q (o :: rest) ρ ds A :=
  XL.builtin hop hd hn hw hb ha (fun w _ => by
    unfold lenKind firstType at ht
    cases h0 : cl.argTypes[0]? with
    | none => simp [h0] at ht
    | some t =>
      simp only [h0] at ht
      split at ht <;> first | (cases ht; done) | skip
      rename_i e he
      simp [Go.builtin, Builtin.cap_, h0, run_underlying he, goInt]) k
theorem XL.lenStr {cl : Call} {s : ByteArray} (hop : o.op = .call cl) (hd : o.dst = some d) (hn : Nat.blt d n = true) (hw : wantB ops ρ o = some true) (hb : cl.callee = .builtin .len)
    (ha : evs ρ cl.args.toList = some [.string s]) (ht : lenKind P cl.argTypes = 2) (k : XL P n ops Q (q - 1) rest ((d, .int .i64 (s.size : Int)) :: ρ) ds A) : XL P n ops Q q (o :: rest) ρ ds A :=
  XL.builtin hop hd hn hw hb ha (fun w _ => by
    unfold lenKind firstType at ht
    cases h0 : cl.argTypes[0]? with
    | none => simp [h0] at ht
    | some t =>
      simp only [h0] at ht
      split at ht <;> first | (cases ht; done) | skip
      rename_i he
      simp [Go.builtin, Builtin.len_, h0, run_underlying he, goInt]) k
theorem XL.min2 {cl : Call} {kd : IntKind} {a b : Int} (hop : o.op = .call cl) (hd : o.dst = some d) (hn : Nat.blt d n = true) (hw : wantB ops ρ o = some true) (hb : cl.callee = .builtin .min)
    (ha : evs ρ cl.args.toList = some [.int kd a, .int kd b]) (k : XL P n ops Q (q - 1) rest ((d, .int kd (min a b)) :: ρ) ds A) : XL P n ops Q q (o :: rest) ρ ds A :=
  XL.builtin hop hd hn hw hb ha (fun w _ => by
    have : (if b < a then b else a) = min a b := by omega
    simp [Go.builtin, Builtin.min_, Builtin.min2, this]) k
theorem XL.max2 {cl : Call} {kd : IntKind} {a b : Int} (hop : o.op = .call cl) (hd : o.dst = some d) (hn : Nat.blt d n = true) (hw : wantB ops ρ o = some true) (hb : cl.callee = .builtin .max)
    (ha : evs ρ cl.args.toList = some [.int kd a, .int kd b]) (k : XL P n ops Q (q - 1) rest ((d, .int kd (max a b)) :: ρ) ds A) : XL P n ops Q q (o :: rest) ρ ds A :=
  XL.builtin hop hd hn hw hb ha (fun w _ => by
    have : (if a < b then b else a) = max a b := by omega
    simp [Go.builtin, Builtin.max_, Builtin.max2, this]) k

/-! ### Sums -/
theorem wrap_in {a : Int} (h : -9223372036854775808 ≤ a ∧ a ≤ 9223372036854775807) : IntKind.i64.wrap a = a := by
  simp only [IntKind.wrap, IntKind.bits, IntKind.signed]
  simp only [Bool.true_and, decide_eq_true_eq, ge_iff_le]
  rw [show (2 : Int) ^ (64 - 1) = 9223372036854775808 from by decide, show (2 : Int) ^ 64 = 18446744073709551616 from by decide]
  split <;> omega
theorem XL.add {t t' : TypeId} {x y : Operand} {a b : Int} (hop : o.op = .binOp .add t x y t') (hd : o.dst = some d) (hn : Nat.blt d n = true) (hw : wantB ops ρ o = some true) (hx : evE ρ x = some (.int .i64 a)) (hy : evE ρ y = some (.int .i64 b))
    (h : -9223372036854775808 ≤ a + b ∧ a + b ≤ 9223372036854775807) (k : XL P n ops Q (q - 1) rest ((d, .int .i64 (a + b)) :: ρ) ds A) : XL P n ops Q q (o :: rest) ρ ds A :=
  XL.bin hop hd hn hw hx hy (fun w => by simp [binOp, eqGuard, Op.intArith, wrap_in h]) k
theorem XL.sub {t t' : TypeId} {x y : Operand} {a b : Int} (hop : o.op = .binOp .sub t x y t') (hd : o.dst = some d) (hn : Nat.blt d n = true) (hw : wantB ops ρ o = some true) (hx : evE ρ x = some (.int .i64 a)) (hy : evE ρ y = some (.int .i64 b))
    (h : -9223372036854775808 ≤ a - b ∧ a - b ≤ 9223372036854775807) (k : XL P n ops Q (q - 1) rest ((d, .int .i64 (a - b)) :: ρ) ds A) : XL P n ops Q q (o :: rest) ρ ds A :=
  XL.bin hop hd hn hw hx hy (fun w => by simp [binOp, eqGuard, Op.intArith, wrap_in h]) k
theorem XL.mul {t t' : TypeId} {x y : Operand} {a b : Int} (hop : o.op = .binOp .mul t x y t') (hd : o.dst = some d) (hn : Nat.blt d n = true) (hw : wantB ops ρ o = some true) (hx : evE ρ x = some (.int .i64 a)) (hy : evE ρ y = some (.int .i64 b))
    (h : -9223372036854775808 ≤ a * b ∧ a * b ≤ 9223372036854775807) (k : XL P n ops Q (q - 1) rest ((d, .int .i64 (a * b)) :: ρ) ds A) : XL P n ops Q q (o :: rest) ρ ds A :=
  XL.bin hop hd hn hw hx hy (fun w => by simp [binOp, eqGuard, Op.intArith, wrap_in h]) k
/-- .. of natural numbers. -/
theorem XL.addn {t t' : TypeId} {x y : Operand} {a b : Nat} (hop : o.op = .binOp .add t x y t') (hd : o.dst = some d) (hn : Nat.blt d n = true) (hw : wantB ops ρ o = some true) (hx : evE ρ x = some (.int .i64 (a : Int))) (hy : evE ρ y = some (.int .i64 (b : Int)))
    (h : a + b ≤ 9223372036854775807) (k : XL P n ops Q (q - 1) rest ((d, .int .i64 ((a + b : Nat) : Int)) :: ρ) ds A) : XL P n ops Q q (o :: rest) ρ ds A :=
  XL.add hop hd hn hw hx hy (by omega) (by rw [← Int.natCast_add]; exact k)
theorem XL.succ {t t' : TypeId} {x y : Operand} {a : Nat} (hop : o.op = .binOp .add t x y t') (hd : o.dst = some d) (hn : Nat.blt d n = true) (hw : wantB ops ρ o = some true) (hx : evE ρ x = some (.int .i64 (a : Int))) (hy : evE ρ y = some (.int .i64 1))
    (h : a < 9223372036854775807) (k : XL P n ops Q (q - 1) rest ((d, .int .i64 ((a + 1 : Nat) : Int)) :: ρ) ds A) : XL P n ops Q q (o :: rest) ρ ds A :=
  XL.add hop hd hn hw hx hy (by omega) (by rw [show ((a : Int) + 1) = ((a + 1 : Nat) : Int) by omega]; exact k)
theorem XL.pred {t t' : TypeId} {x y : Operand} {a : Nat} (hop : o.op = .binOp .sub t x y t') (hd : o.dst = some d) (hn : Nat.blt d n = true) (hw : wantB ops ρ o = some true) (hx : evE ρ x = some (.int .i64 (a : Int))) (hy : evE ρ y = some (.int .i64 1))
    (h : 0 < a ∧ a ≤ 9223372036854775807) (k : XL P n ops Q (q - 1) rest ((d, .int .i64 ((a - 1 : Nat) : Int)) :: ρ) ds A) : XL P n ops Q q (o :: rest) ρ ds A :=
  XL.sub hop hd hn hw hx hy (by omega) (by rw [show ((a : Int) - 1) = ((a - 1 : Nat) : Int) by omega]; exact k)
theorem XL.subn {t t' : TypeId} {x y : Operand} {a b : Nat} (hop : o.op = .binOp .sub t x y t') (hd : o.dst = some d) (hn : Nat.blt d n = true) (hw : wantB ops ρ o = some true) (hx : evE ρ x = some (.int .i64 (a : Int))) (hy : evE ρ y = some (.int .i64 (b : Int)))
    (h : b ≤ a ∧ a ≤ 9223372036854775807) (k : XL P n ops Q (q - 1) rest ((d, .int .i64 ((a - b : Nat) : Int)) :: ρ) ds A) : XL P n ops Q q (o :: rest) ρ ds A :=
  XL.sub hop hd hn hw hx hy (by omega) (by rw [show ((a : Int) - (b : Int)) = ((a - b : Nat) : Int) by omega]; exact k)
def intB (P : Program) (t : TypeId) : Option IntKind := match P.underlying t with | some (.int k) => some k | _ => none
theorem XL.conv64 {src dst : TypeId} {x : Operand} {kd ks : IntKind} {a : Int} (hop : o.op = .convert src dst x) (hd : o.dst = some d) (hn : Nat.blt d n = true) (hw : wantB ops ρ o = some true) (hx : evE ρ x = some (.int kd a))
    (hs : intB P src = some ks) (ht : intB P dst = some .i64) (h : -9223372036854775808 ≤ a ∧ a ≤ 9223372036854775807) (k : XL P n ops Q (q - 1) rest ((d, .int .i64 a) :: ρ) ds A) : XL P n ops Q q (o :: rest) ρ ds A :=
  XL.run (d := some d) hd hn hw (fun σ w hσ _ => by
    unfold intB at hs ht
    cases h1 : P.underlying src with
    | none => simp [h1] at hs
    | some u1 =>
    cases h2 : P.underlying dst with
    | none => simp [h2] at ht
    | some u2 =>
    have h3 : u2 = .int .i64 := by
      simp only [h2] at ht
      split at ht
      · rename_i heq; cases ht; cases heq; rfl
      · cases ht
    subst h3
    unfold execOp
    rw [hop]
    simp only [hσ.val hx]
    refine run_v ?_
    simp [convert, run_underlying h1, run_underlying h2, Conv.intToInt, wrap_in h]) k
end
end Go.Proofs.Ytjnineeeffecaaa.X
