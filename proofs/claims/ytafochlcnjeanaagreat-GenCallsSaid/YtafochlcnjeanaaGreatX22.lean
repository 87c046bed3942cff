/- Runs by numbers: operations that leave the heap alone. For whatever program. -/
import Derived.Test.YtafochlcnjeanaaGreatX21
namespace Go.Proofs.YtafochlcnjeanaaGreat.E
open Go Go.RowKit X

/-! ### Reading operands -/
abbrev Rd := Operand → Option EV
def rdE (S : T EV) : Rd
  | .tmp t => S.get t
  | .const v => ofConst v
  | .func f => some (.fn (.func f) [] [])
  | .global _ => none
/-- What is read stands for what is there. -/
def RdR (R : Rel) (rd : Rd) (ρ : Operand → Value) : Prop := ∀ x v, rd x = some v → VR R v (ρ x)
theorem RdR.mono {R R' : Rel} {rd : Rd} {ρ : Operand → Value} (h : RdR R rd ρ) (hs : Rel.le R R') : RdR R' rd ρ := fun x v e => (h x v e).mono hs
def rds (rd : Rd) : List Operand → Option (List EV)
  | [] => some []
  | x :: l => match rd x, rds rd l with
    | some v, some vs => some (v :: vs)
    | _, _ => none
theorem rds_R {R : Rel} {rd : Rd} {ρ : Operand → Value} (h : RdR R rd ρ) : ∀ {l : List Operand} {vs : List EV}, rds rd l = some vs → VRs R vs (l.map ρ)
  | [], vs, e => by simp only [rds] at e; cases e; rfl
  | x :: l, vs, e => by
    simp only [rds] at e
    split at e
    · rename_i v vs' h1 h2
      cases e
      exact ⟨ρ x, l.map ρ, rfl, h _ _ h1, rds_R h h2⟩
    · cases e
def rdParts (rd : Rd) : List (Nat × Operand) → Option (List (Nat × EV))
  | [] => some []
  | (i, x) :: l => match rd x, rdParts rd l with
    | some v, some vs => some ((i, v) :: vs)
    | _, _ => none
/-- Parts of a struct or an array that is made. -/
def PRs (R : Rel) : List (Nat × EV) → List (Nat × Value) → Prop
  | [], l => l = []
  | (i, x) :: xs, l => ∃ v vs, l = (i, v) :: vs ∧ VR R x v ∧ PRs R xs vs
theorem rdParts_R {R : Rel} {rd : Rd} {ρ : Operand → Value} (h : RdR R rd ρ) : ∀ {l : List (Nat × Operand)} {vs : List (Nat × EV)}, rdParts rd l = some vs → PRs R vs (l.map fun (i, x) => (i, ρ x))
  | [], vs, e => by simp only [rdParts] at e; cases e; rfl
  | (i, x) :: l, vs, e => by
    simp only [rdParts] at e
    split at e
    · rename_i v vs' h1 h2
      cases e
      exact ⟨ρ x, l.map fun (i, x) => (i, ρ x), rfl, h _ _ h1, rdParts_R h h2⟩
    · cases e

/-! ### Strings -/
theorem bs_size (l : List Nat) : (bs l).size = l.length := by
  show (l.map UInt8.ofNat).toArray.size = l.length
  simp
theorem bs_append (l k : List Nat) : bs l ++ bs k = bs (l ++ k) := by
  apply ByteArray.ext
  rw [ByteArray.data_append]
  simp [bs]
def strEq : List Nat → List Nat → Bool
  | [], [] => true
  | a :: l, b :: k => Nat.beq (a % 256) (b % 256) && strEq l k
  | _, _ => false
theorem strEq_spec : ∀ (l k : List Nat), strEq l k = decide (bs l = bs k)
  | [], [] => by simp [strEq]
  | [], b :: k => by
    have : ¬ bs [] = bs (b :: k) := fun h => by have := congrArg ByteArray.size h; rw [bs_size, bs_size] at this; simp at this
    simp [strEq, this]
  | a :: l, [] => by
    have : ¬ bs (a :: l) = bs [] := fun h => by have := congrArg ByteArray.size h; rw [bs_size, bs_size] at this; simp at this
    simp [strEq, this]
  | a :: l, b :: k => by
    have e1 : ∀ (a b : Nat) (l k : List Nat), bs (a :: l) = bs (b :: k) ↔ a % 256 = b % 256 ∧ bs l = bs k := fun a b l k => by
      have hu : ∀ a b : Nat, UInt8.ofNat a = UInt8.ofNat b ↔ a % 256 = b % 256 := fun a b => by
        constructor
        · intro h
          have := congrArg UInt8.toNat h
          simpa using this
        · intro h
          apply UInt8.toNat_inj.1
          simpa using h
      simp only [bs, ByteArray.mk.injEq, List.map_cons, ← Array.toList_inj, List.cons.injEq, hu]
    simp only [strEq]
    rw [strEq_spec l k]
    rw [Bool.eq_iff_iff]
    simp [e1]
def strLt : List Nat → List Nat → Bool
  | _, [] => false
  | [], _ :: _ => true
  | a :: x, b :: y => Nat.blt (a % 256) (b % 256) || (Nat.beq (a % 256) (b % 256) && strLt x y)
theorem strLt_spec : ∀ (l k : List Nat), Op.bytesLess (l.map UInt8.ofNat) (k.map UInt8.ofNat) = strLt l k
  | [], [] => rfl
  | [], b :: k => rfl
  | a :: l, [] => rfl
  | a :: l, b :: k => by
    simp only [List.map_cons, Op.bytesLess, strLt, strLt_spec l k]
    congr 1
    · rw [Bool.eq_iff_iff]
      simp [UInt8.lt_iff_toNat_lt]
    · congr 1
      rw [Bool.eq_iff_iff]
      simp only [beq_iff_eq, Nat.beq_eq]
      constructor
      · intro h
        have := congrArg UInt8.toNat h
        simpa using this
      · intro h
        apply UInt8.toNat_inj.1
        simpa using h
theorem bs_toList (l : List Nat) : (bs l).toList = l.map UInt8.ofNat := by
  rw [ByteArray.toList_eq]
  simp [bs]

/-! ### Numbers -/
def wrapE (k : IntKind) (n : Int) : Int := match k, n with
  | .i64, .ofNat m => match Nat.ble m 9223372036854775807 with
    | true => .ofNat m
    | false => k.wrap n
  | _, _ => k.wrap n
theorem wrapE_eq (k : IntKind) (n : Int) : wrapE k n = k.wrap n := by
  unfold wrapE
  split
  · rename_i m
    split
    · rename_i h
      have := Nat.le_of_ble_eq_true h
      rw [wrap_in]
      have e : Int.ofNat m = (m : Int) := rfl
      rw [e]
      exact ⟨by omega, by omega⟩
    · rfl
  · rfl
def ltI : Int → Int → Bool
  | .ofNat a, .ofNat b => Nat.blt a b
  | a, b => decide (a < b)
theorem ltI_eq (a b : Int) : ltI a b = decide (a < b) := by
  unfold ltI
  split
  · rw [Bool.eq_iff_iff]; simp
  · rfl
def eqI : Int → Int → Bool
  | .ofNat a, .ofNat b => Nat.beq a b
  | .negSucc a, .negSucc b => Nat.beq a b
  | _, _ => false
theorem eqI_eq (a b : Int) : eqI a b = decide (a = b) := by
  cases a <;> cases b <;> simp only [eqI] <;> rw [Bool.eq_iff_iff] <;> simp <;> omega
def intE (op : BinOp) (k : IntKind) (a b : Int) : Option EV := match op with
  | .add => some (.int k (wrapE k (a + b)))
  | .sub => some (.int k (wrapE k (a - b)))
  | .mul => some (.int k (wrapE k (a * b)))
  | .quo => match eqI b 0 with
    | true => none
    | false => some (.int k (wrapE k (a.tdiv b)))
  | .rem => match eqI b 0 with
    | true => none
    | false => some (.int k (a.tmod b))
  | .eql => some (.bool (eqI a b))
  | .neq => some (.bool (!eqI a b))
  | .lss => some (.bool (ltI a b))
  | .leq => some (.bool (!ltI b a))
  | .gtr => some (.bool (ltI b a))
  | .geq => some (.bool (!ltI a b))
  | .and => some (.int k (k.wrap ((BitVec.ofInt k.bits a &&& BitVec.ofInt k.bits b).toNat : Int)))
  | .or => some (.int k (k.wrap ((BitVec.ofInt k.bits a ||| BitVec.ofInt k.bits b).toNat : Int)))
  | .xor => some (.int k (k.wrap ((BitVec.ofInt k.bits a ^^^ BitVec.ofInt k.bits b).toNat : Int)))
  | _ => none
def shiftE (op : BinOp) (k : IntKind) (a b : Int) : Option EV := match op, b with
  | .shl, .ofNat m => some (.int k (k.wrap (a * 2 ^ (min m k.bits))))
  | .shr, .ofNat m => some (.int k (a.fdiv (2 ^ (min m k.bits))))
  | _, _ => none
def isShift : BinOp → Bool
  | .shl => true
  | .shr => true
  | _ => false
def strE (op : BinOp) (a b : List Nat) : Option EV := match op with
  | .eql => some (.bool (strEq a b))
  | .neq => some (.bool (!strEq a b))
  | .lss => some (.bool (strLt a b))
  | .leq => some (.bool (strLt a b || strEq a b))
  | .gtr => some (.bool (!(strLt a b || strEq a b)))
  | .geq => some (.bool (!strLt a b))
  | .add => match Nat.ble (a.length + b.length) 1000000 with
    | true => some (.str (a ++ b))
    | false => none
  | _ => none
/-- Is a value nil? none: not known. -/
def nilE : EV → Option Bool
  | .flat (.pointer none) | .flat (.slice none 0 0) | .flat (.map none) | .flat .nilFunc | .flat .nilIface => some true
  | .ptr _ _ | .slc _ _ _ _ _ | .map _ | .fn _ _ _ | .iface _ _ => some false
  | _ => none
/-- What kinds of values are compared with nil. -/
def nilKind (P : Program) (t : TypeId) : EV → Bool := fun x => match P.underlying t, x with
  | some (.pointer _), .flat (.pointer none) => true
  | some (.pointer _), .ptr _ _ => true
  | some (.slice _), .flat (.slice none 0 0) => true
  | some (.slice _), .slc _ _ _ _ _ => true
  | some (.map _ _), .flat (.map none) => true
  | some (.map _ _), .map _ => true
  | some (.func _ _ _), .flat .nilFunc => true
  | some (.func _ _ _), .fn _ _ _ => true
  | some (.interface _), .flat .nilIface => true
  | some (.interface _), .iface _ _ => true
  | _, _ => false
def eqE (P : Program) (t : TypeId) (a b : EV) : Option Bool := match a, b with
  | .bool x, .bool y => match P.underlying t with
    | some .bool => some (x == y)
    | _ => none
  | _, _ => match nilKind P t a && nilKind P t b with
    | true => match nilE a, nilE b with
      | some true, some true => match a with
        | .flat .nilIface => none
        | _ => some true
      | some true, some false => some false
      | some false, some true => some false
      | _, _ => none
    | false => none
def binEE (P : Program) (op : BinOp) (t : TypeId) (a b : EV) : Option EV := match a, b with
  | .int k x, .int k' y => match isShift op with
    | true => shiftE op k x y
    | false => match decide (k = k') with
      | true => intE op k x y
      | false => none
  | .str x, .str y => strE op x y
  | _, _ => match op with
    | .eql => match eqE P t a b with
      | some r => some (.bool r)
      | none => none
    | .neq => match eqE P t a b with
      | some r => some (.bool (!r))
      | none => none
    | _ => none
section
variable {P : Program} {R : Rel}
theorem VR.intI {k : IntKind} {n : Int} : VR R (.int k n) (.int k n) := rfl
theorem VR.boolI {b : Bool} : VR R (.bool b) (.bool b) := rfl
theorem VR.strI {l : List Nat} : VR R (.str l) (.string (bs l)) := rfl
theorem VR.flatI {v : Value} : VR R (.flat v) v := rfl
theorem div_run {k : IntKind} {op : BinOp} {a b r : Int} {t : TypeId} {x y : Operand} (hz : eqI b 0 = false) (h : (op = .quo ∧ r = wrapE k (a.tdiv b)) ∨ (op = .rem ∧ r = a.tmod b)) (w : World) :
    (do eqGuard op t x y (.int k a) (.int k b); binOp op t (.int k a) (.int k b) : Sem Value).run P w = .ok (.int k r) w := by
  rw [eqI_eq] at hz
  have hz : ¬ b = 0 := by simpa using hz
  rcases h with ⟨rfl, rfl⟩ | ⟨rfl, rfl⟩ <;> simp [eqGuard, binOp, Op.intDiv, hz, wrapE_eq]
theorem intE_run {op : BinOp} {k : IntKind} {a b : Int} {t : TypeId} {x y : Operand} {v : EV} (h : intE op k a b = some v) (w : World) :
    ∃ v', (do eqGuard op t x y (.int k a) (.int k b); binOp op t (.int k a) (.int k b) : Sem Value).run P w = .ok v' w ∧ VR R v v' := by
  unfold intE at h
  cases op <;> simp only at h <;> first
    | (cases h; done)
    | (cases h; refine ⟨_, ?_, VR.intI⟩; simp [eqGuard, binOp, Op.intArith, wrapE_eq]; done)
    | (cases h; refine ⟨_, ?_, VR.intI⟩; simp [eqGuard, binOp, Op.intBits]; done)
    | (cases h; refine ⟨_, ?_, VR.boolI⟩; simp only [eqGuard, binOp, Op.intCmp, eqI_eq, ltI_eq]; simp; try (first | rfl | (rw [Bool.eq_iff_iff]; simp)); done)
    | skip
  · cases hz : eqI b 0 with
    | true => rw [hz] at h; cases h
    | false => rw [hz] at h; cases h; exact ⟨_, div_run hz (.inl ⟨rfl, rfl⟩) w, VR.intI⟩
  · cases hz : eqI b 0 with
    | true => rw [hz] at h; cases h
    | false => rw [hz] at h; cases h; exact ⟨_, div_run hz (.inr ⟨rfl, rfl⟩) w, VR.intI⟩
theorem shiftE_run {op : BinOp} {k k' : IntKind} {a b : Int} {t : TypeId} {x y : Operand} {v : EV} (h : shiftE op k a b = some v) (w : World) :
    ∃ v', (do eqGuard op t x y (.int k a) (.int k' b); binOp op t (.int k a) (.int k' b) : Sem Value).run P w = .ok v' w ∧ VR R v v' := by
  unfold shiftE at h
  split at h
  · rename_i m
    cases h
    have h0 : ¬ (m : Int) < 0 := by omega
    exact ⟨_, by simp [eqGuard, binOp, Op.shift, h0], VR.intI⟩
  · rename_i m
    cases h
    have h0 : ¬ (m : Int) < 0 := by omega
    exact ⟨_, by simp [eqGuard, binOp, Op.shift, h0], VR.intI⟩
  · cases h
theorem strE_run {op : BinOp} {a b : List Nat} {t : TypeId} {x y : Operand} {v : EV} (h : strE op a b = some v) (w : World) :
    ∃ v', (do eqGuard op t x y (.string (bs a)) (.string (bs b)); binOp op t (.string (bs a)) (.string (bs b)) : Sem Value).run P w = .ok v' w ∧ VR R v v' := by
  have he : ((bs a).toList == (bs b).toList) = strEq a b := by rw [toList_beq, strEq_spec]
  have hl : Op.bytesLess (bs a).toList (bs b).toList = strLt a b := by rw [bs_toList, bs_toList, strLt_spec]
  unfold strE at h
  cases op <;> simp only at h <;> first
    | (cases h; done)
    | (cases h; refine ⟨_, ?_, VR.boolI⟩; simp only [eqGuard, binOp, Op.stringOp, he, hl]; simp; done)
    | skip
  cases hz : Nat.ble (a.length + b.length) 1000000 with
  | false => rw [hz] at h; cases h
  | true =>
    rw [hz] at h
    cases h
    have hz := Nat.le_of_ble_eq_true hz
    refine ⟨_, ?_, VR.strI⟩
    have h2 : ¬ (((bs a).size + (bs b).size : Nat) : Int) > IntKind.i64.max := by
      have : IntKind.i64.max = 9223372036854775807 := by decide
      rw [this, bs_size, bs_size]; omega
    simp only [eqGuard, binOp, Op.stringOp, h2, if_false, bs_append]
    rfl
theorem nil_spec {t : TypeId} {a : EV} {v : Value} (hk : nilKind P t a = true) (hv : VR R a v) :
    (∃ e, P.underlying t = some (.pointer e) ∧ ∃ p, v = .pointer p ∧ nilE a = some p.isNone) ∨ (∃ e, P.underlying t = some (.slice e) ∧ ∃ p m c, v = .slice p m c ∧ nilE a = some p.isNone ∧ (p = none → m = 0 ∧ c = 0)) ∨
    (∃ e k, P.underlying t = some (.map e k) ∧ ∃ p, v = .map p ∧ nilE a = some p.isNone) ∨ (∃ e k l, P.underlying t = some (.func e k l) ∧ ((v = .nilFunc ∧ nilE a = some true) ∨ ∃ f x y, v = .func f x y ∧ nilE a = some false)) ∨
    (∃ e, P.underlying t = some (.interface e) ∧ ((v = .nilIface ∧ a = .flat .nilIface) ∨ ∃ f x, v = .iface f x ∧ nilE a = some false)) := by
  unfold nilKind at hk
  split at hk <;> first | (cases hk; done) | skip
  case h_1 e hu => simp only [VR] at hv; subst hv; exact .inl ⟨_, hu, none, rfl, rfl⟩
  case h_2 e k o hu => obtain ⟨b, c, _, rfl⟩ := hv; exact .inl ⟨_, by assumption, _, rfl, rfl⟩
  case h_3 e hu => simp only [VR] at hv; subst hv; exact .inr (.inl ⟨_, hu, none, 0, 0, rfl, rfl, fun _ => ⟨rfl, rfl⟩⟩)
  case h_4 => obtain ⟨b, c, c', _, rfl, _⟩ := hv; exact .inr (.inl ⟨_, by assumption, _, _, _, rfl, rfl, fun h => by cases h⟩)
  case h_5 => simp only [VR] at hv; subst hv; exact .inr (.inr (.inl ⟨_, _, by assumption, _, rfl, rfl⟩))
  case h_6 => obtain ⟨b, c, _, rfl⟩ := hv; exact .inr (.inr (.inl ⟨_, _, by assumption, _, rfl, rfl⟩))
  case h_7 => simp only [VR] at hv; subst hv; exact .inr (.inr (.inr (.inl ⟨_, _, _, by assumption, .inl ⟨rfl, rfl⟩⟩)))
  case h_8 => obtain ⟨a', c', rfl, _⟩ := hv; exact .inr (.inr (.inr (.inl ⟨_, _, _, by assumption, .inr ⟨_, _, _, rfl, rfl⟩⟩)))
  case h_9 e hu => simp only [VR] at hv; subst hv; exact .inr (.inr (.inr (.inr ⟨_, hu, .inl ⟨rfl, rfl⟩⟩)))
  case h_10 => obtain ⟨x', rfl, _⟩ := hv; exact .inr (.inr (.inr (.inr ⟨_, by assumption, .inr ⟨_, _, rfl, rfl⟩⟩)))
theorem eqE_run {t : TypeId} {a b : EV} {va vb : Value} {r : Bool} (h : eqE P t a b = some r) (ha : VR R a va) (hb : VR R b vb) (m : Nat) (w : World) :
    (Op.equalIn (m + 1) t va vb).run P w = .ok r w ∧ ¬ (va = .nilIface ∧ vb = .nilIface) ∧ (∀ c d, ¬ (va = .agg c ∧ vb = .agg d)) ∧ (∀ k x, va ≠ .int k x) ∧ (∀ k x, va ≠ .float k x) ∧ (∀ k x y, va ≠ .complex k x y) ∧ (∀ x, va ≠ .string x) := by
  unfold eqE at h
  split at h
  · rename_i x y
    simp only [VR] at ha hb
    subst ha hb
    split at h
    · rename_i hu
      cases h
      exact ⟨by simp [Op.equalIn, run_underlying hu], by simp, by simp, by simp, by simp, by simp, by simp⟩
    · cases h
  · split at h
    · rename_i hk
      simp only [Bool.and_eq_true] at hk
      rcases nil_spec hk.1 ha with ⟨e, hu, p, rfl, hn⟩ | ⟨e, hu, p, m1, c1, rfl, hn, hp⟩ | ⟨e, k, hu, p, rfl, hn⟩ | ⟨e, k, l, hu, hn⟩ | ⟨e, hu, hn⟩ <;>
        rcases nil_spec hk.2 hb with ⟨e', hu', p', rfl, hn'⟩ | ⟨e', hu', p', m1', c1', rfl, hn', hp'⟩ | ⟨e', k', hu', p', rfl, hn'⟩ | ⟨e', k', l', hu', hn'⟩ | ⟨e', hu', hn'⟩ <;>
        first
          | (rw [hu] at hu'; cases hu'; done)
          | skip
      · rw [hn, hn'] at h
        refine ⟨?_, by simp, by simp, by simp, by simp, by simp, by simp⟩
        cases p <;> cases p' <;> simp only [Option.isNone] at h
        · split at h
          · cases h
          · cases h; simp [Op.equalIn, run_underlying hu]
        · cases h; simp [Op.equalIn, run_underlying hu]
        · cases h; simp [Op.equalIn, run_underlying hu]
        · cases h
      · rw [hn, hn'] at h
        refine ⟨?_, by simp, by simp, by simp, by simp, by simp, by simp⟩
        cases p <;> cases p' <;> simp only [Option.isNone] at h
        · split at h
          · cases h
          · cases h; simp [Op.equalIn, run_underlying hu]
        · cases h; simp [Op.equalIn, run_underlying hu]
        · cases h; simp [Op.equalIn, run_underlying hu]
        · cases h
      · rw [hn, hn'] at h
        refine ⟨?_, by simp, by simp, by simp, by simp, by simp, by simp⟩
        cases p <;> cases p' <;> simp only [Option.isNone] at h
        · split at h
          · cases h
          · cases h; simp [Op.equalIn, run_underlying hu]
        · cases h; simp [Op.equalIn, run_underlying hu]
        · cases h; simp [Op.equalIn, run_underlying hu]
        · cases h
      · rcases hn with ⟨rfl, hn⟩ | ⟨f, x, y, rfl, hn⟩ <;> rcases hn' with ⟨rfl, hn'⟩ | ⟨f', x', y', rfl, hn'⟩ <;> rw [hn, hn'] at h <;> simp only at h
        · split at h
          · cases h
          · cases h
            exact ⟨by simp [Op.equalIn, run_underlying hu], by simp, by simp, by simp, by simp, by simp, by simp⟩
        · cases h
          exact ⟨by simp [Op.equalIn, run_underlying hu], by simp, by simp, by simp, by simp, by simp, by simp⟩
        · cases h
          exact ⟨by simp [Op.equalIn, run_underlying hu], by simp, by simp, by simp, by simp, by simp, by simp⟩
        · cases h
      · rcases hn with ⟨rfl, rfl⟩ | ⟨f, x, rfl, hn⟩ <;> rcases hn' with ⟨rfl, rfl⟩ | ⟨f', x', rfl, hn'⟩
        · simp only [nilE] at h
          cases h
        · rw [hn'] at h
          simp only [nilE] at h
          cases h
          exact ⟨by simp [Op.equalIn, run_underlying hu], by simp, by simp, by simp, by simp, by simp, by simp⟩
        · rw [hn] at h
          simp only [nilE] at h
          cases h
          exact ⟨by simp [Op.equalIn, run_underlying hu], by simp, by simp, by simp, by simp, by simp, by simp⟩
        · rw [hn, hn'] at h
          cases h
    · cases h
theorem guard_ok {op : BinOp} {t : TypeId} {x y : Operand} {va vb : Value} (h2 : ¬ (va = .nilIface ∧ vb = .nilIface)) (h3 : ∀ c d, ¬ (va = .agg c ∧ vb = .agg d)) (w : World) : (eqGuard op t x y va vb).run P w = .ok () w := by
  unfold eqGuard
  split
  · rw [if_neg (by simp)]
    cases va <;> first
      | rfl
      | (cases vb <;> first | rfl | exact absurd ⟨rfl, rfl⟩ h2 | exact absurd ⟨rfl, rfl⟩ (h3 _ _))
  · rw [if_neg (by simp)]
    cases va <;> first
      | rfl
      | (cases vb <;> first | rfl | exact absurd ⟨rfl, rfl⟩ h2 | exact absurd ⟨rfl, rfl⟩ (h3 _ _))
  · rw [if_pos (by simp)]
    rfl
theorem equal_ok {op : BinOp} {t : TypeId} {va vb : Value} {r : Bool} {w : World} (h4 : ∀ k x, va ≠ .int k x) (h5 : ∀ k x, va ≠ .float k x) (h6 : ∀ k x y, va ≠ .complex k x y) (h7 : ∀ x, va ≠ .string x) (hop : op = .eql ∨ op = .neq)
    (h1 : (Op.equal t va vb).run P w = .ok r w) : (binOp op t va vb).run P w = .ok (.bool (match op with | .eql => r | _ => !r)) w := by
  have key : binOp .eql t va vb = (do pure (.bool (← Op.equal t va vb)) : Sem Value) ∧ binOp .neq t va vb = (do pure (.bool (!(← Op.equal t va vb))) : Sem Value) := by
    cases va <;> first
      | exact absurd rfl (h4 _ _)
      | exact absurd rfl (h5 _ _)
      | exact absurd rfl (h6 _ _ _)
      | exact absurd rfl (h7 _)
      | exact ⟨rfl, rfl⟩
  rcases hop with rfl | rfl
  · rw [key.1]; simp [h1]
  · rw [key.2]; simp [h1]
theorem eqE_runB {op : BinOp} {t : TypeId} {a b : EV} {va vb : Value} {r : Bool} {x y : Operand} (h : eqE P t a b = some r) (ha : VR R a va) (hb : VR R b vb) (hop : op = .eql ∨ op = .neq) (w : World) :
    (do eqGuard op t x y va vb; binOp op t va vb : Sem Value).run P w = .ok (.bool (match op with | .eql => r | _ => !r)) w := by
  obtain ⟨h1, h2, h3, h4, h5, h6, h7⟩ := eqE_run h ha hb 9999 w
  have h1 : (Op.equal t va vb).run P w = .ok r w := h1
  have hg := guard_ok (P := P) (op := op) (t := t) (x := x) (y := y) h2 h3 w
  have hb := equal_ok (P := P) (op := op) (t := t) h4 h5 h6 h7 hop h1
  simp only [Sem.run_bind, hg, Result.andThen_ok, hb]
theorem binEE_run {op : BinOp} {t : TypeId} {a b v : EV} {va vb : Value} {x y : Operand} (h : binEE P op t a b = some v) (ha : VR R a va) (hb : VR R b vb) (w : World) :
    ∃ v', (do eqGuard op t x y va vb; binOp op t va vb : Sem Value).run P w = .ok v' w ∧ VR R v v' := by
  unfold binEE at h
  split at h
  · simp only [VR] at ha hb
    subst ha hb
    split at h
    · exact shiftE_run h w
    · split at h
      · rename_i hk
        have hk := of_decide_eq_true hk
        subst hk
        exact intE_run h w
      · cases h
  · simp only [VR] at ha hb
    subst ha hb
    exact strE_run h w
  · split at h
    · split at h
      · rename_i r hr
        cases h
        exact ⟨_, eqE_runB hr ha hb (.inl rfl) w, VR.boolI⟩
      · cases h
    · split at h
      · rename_i r hr
        cases h
        exact ⟨_, eqE_runB hr ha hb (.inr rfl) w, VR.boolI⟩
      · cases h
    · cases h
end
end Go.Proofs.YtafochlcnjeanaaGreat.E
