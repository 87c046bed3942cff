/- Single operations: those that hang on slots alone, many at a time; addresses, loads, stores, new variables; calls; arithmetic. For whatever program. -/
import Derived.Test.YtjnineeeffecaaaX2
namespace Go.Proofs.Ytjnineeeffecaaa.X
open Go Go.RowKit

/-! ### What hangs on slots alone -/
def binE : BinOp → Value → Value → Option Value
  | .lss, .int k a, .int k' b => if k = k' then some (.bool (decide (a < b))) else none
  | .leq, .int k a, .int k' b => if k = k' then some (.bool (decide (a ≤ b))) else none
  | .gtr, .int k a, .int k' b => if k = k' then some (.bool (decide (b < a))) else none
  | .geq, .int k a, .int k' b => if k = k' then some (.bool (decide (b ≤ a))) else none
  | .eql, .int k a, .int k' b => if k = k' then some (.bool (decide (a = b))) else none
  | .neq, .int k a, .int k' b => if k = k' then some (.bool (decide (¬ a = b))) else none
  | .eql, .string a, .string b => some (.bool (decide (a = b)))
  | .neq, .string a, .string b => some (.bool (decide (¬ a = b)))
  | _, _, _ => none
def optE (f : Value → Option Value) : Option Value → Option Value
  | some v => f v
  | none => none
def pureOp (ρ : Env) : Op → Option Value
  | .move x => evE ρ x
  | .assign x => evE ρ x
  | .pick c a b => match evE ρ c with
    | some (.bool true) => evE ρ a
    | some (.bool false) => evE ρ b
    | _ => none
  | .nilCheck x => match evE ρ x with
    | some (.pointer (some a)) => some (.pointer (some a))
    | some (.func (.func f) fs cs) => some (.func (.func f) fs cs)
    | some (.iface t v) => some (.iface t v)
    | _ => none
  | .binOp op _ x y _ => match evE ρ x, evE ρ y with
    | some a, some b => binE op a b
    | _, _ => none
  | .unOp .not _ x => match evE ρ x with
    | some (.bool b) => some (.bool (!b))
    | _ => none
  | .extract t i => match evE ρ t with
    | some (.tuple vs) => vs[i]?
    | _ => none
  | .makeFunc fn first cap => match evs ρ first.toList, evs ρ cap.toList with
    | some a, some b => some (.func fn a.toArray b.toArray)
    | _, _ => none
  | _ => none
theorem toList_beq (a b : ByteArray) : (a.toList == b.toList) = decide (a = b) := by
  rw [Bool.eq_iff_iff]
  simp only [beq_iff_eq, decide_eq_true_eq]
  constructor
  · intro h
    rw [ByteArray.toList_eq, ByteArray.toList_eq] at h
    cases a; cases b; simp_all
  · rintro rfl; rfl
theorem binE_run {P : Program} {op : BinOp} {a b v : Value} {t : TypeId} {x y : Operand} (h : binE op a b = some v) (w : World) :
    (do eqGuard op t x y a b; binOp op t a b : Sem Value).run P w = .ok v w := by
  unfold binE at h
  split at h <;> first
    | (cases h; done)
    | (split at h
       · rename_i hk
         subst hk
         cases h
         simp [eqGuard, binOp, Op.intCmp]
         try (first | rfl | (rw [Bool.eq_iff_iff]; simp))
       · cases h)
    | (cases h
       simp [eqGuard, binOp, Op.stringOp, toList_beq]; done)
theorem run_v {P : Program} {s : Sem Value} {v : Value} {w w' : World} (h : s.run P w = .ok v w') : (do pure (Next.value (← s)) : Sem Next).run P w = .ok (.value v) w' := by
  simp [h]
theorem pureOp_run {P : Program} {ρ : Env} {σ : Slots} {o : Oper} {v : Value} (hσ : Agree ρ σ) (h : pureOp ρ o.op = some v) (w : World) : (execOp (ev σ) o).run P w = .ok (.value v) w := by
  obtain ⟨dst, op, ty, pos, aft, gd⟩ := o
  simp only at h
  unfold pureOp at h
  split at h
  · simp [execOp, hσ.val h]
  · simp [execOp, hσ.val h]
  · split at h
    · rename_i hc; simp [execOp, hσ.val hc, asBool, hσ.val h]
    · rename_i hc; simp [execOp, hσ.val hc, asBool, hσ.val h]
    · cases h
  · split at h
    · rename_i hc; cases h; simp [execOp, hσ.val hc]
    · rename_i hc; cases h; simp [execOp, hσ.val hc]
    · rename_i hc; cases h; simp [execOp, hσ.val hc]
    · cases h
  · split at h
    · rename_i a b ha hb
      simp only [execOp, hσ.val ha, hσ.val hb]
      exact run_v (binE_run h w)
    · cases h
  · split at h
    · rename_i hc; cases h; simp [execOp, hσ.val hc, Op.unary]
    · cases h
  · split at h
    · rename_i hc; simp [execOp, hσ.val hc, Instr.extract, h]
    · cases h
  · rename_i fn fst cap
    split at h
    · rename_i a b ha hb
      cases h
      have h1 : fst.map (ev σ) = a.toArray := Array.toList_inj.1 (by simpa using hσ.vals ha)
      have h2 : cap.map (ev σ) = b.toArray := Array.toList_inj.1 (by simpa using hσ.vals hb)
      simp [execOp, Instr.makeFunc, h1, h2]
    · cases h
  · cases h

/-- As many as that, one behind the other. -/
def pureRun (n : Nat) (ops : Array Oper) : Nat → List Oper → Env → Option (List Oper × Env)
  | 0, l, ρ => some (l, ρ)
  | _ + 1, [], _ => none
  | k + 1, o :: l, ρ => match wantB ops ρ o with
    | some true => match pureOp ρ o.op with
      | some v => match fitsB n o.dst with
        | true => match o.dst with
          | some d => pureRun n ops k l ((d, v) :: ρ)
          | none => pureRun n ops k l ρ
        | false => none
      | none => none
    | some false => match fitsB n o.dst with
      | true => match o.dst with
        | some d => pureRun n ops k l ((d, undef) :: ρ)
        | none => pureRun n ops k l ρ
      | false => none
    | none => none
theorem XL.pure {P : Program} {n : Nat} {Q : Post} {ds : List Deferred} {A : World → Prop} {ops : Array Oper} (k : Nat) : ∀ {q : Nat} {l l' : List Oper} {ρ ρ' : Env}, pureRun n ops k l ρ = some (l', ρ') →
    XL P n ops Q (q - k) l' ρ' ds A → XL P n ops Q q l ρ ds A := by
  induction k with
  | zero => intro q l l' ρ ρ' h hk; simp only [pureRun] at h; cases h; exact hk
  | succ k ih =>
    intro q l l' ρ ρ' h hk
    have hk : XL P n ops Q (q - 1 - k) l' ρ' ds A := by rw [show q - 1 - k = q - (k + 1) by omega]; exact hk
    cases l with
    | nil => cases h
    | cons o l =>
      simp only [pureRun] at h
      split at h
      · rename_i hw
        split at h
        · rename_i v hv
          split at h
          · rename_i hf
            refine XL.run (d := o.dst) rfl hf hw (fun σ w hσ _ => pureOp_run hσ hv w) ?_
            split at h
            · rename_i d hd; rw [hd]; exact ih h hk
            · rename_i hd; rw [hd]; exact ih h hk
          · cases h
        · cases h
      · rename_i hw
        split at h
        · rename_i hf
          refine XL.off (d := o.dst) rfl hf hw ?_
          split at h
          · rename_i d hd; rw [hd]; exact ih h hk
          · rename_i hd; rw [hd]; exact ih h hk
        · cases h
      · cases h

/-- .. but for those that may hang on what isn't known. -/
def pureOpM (ρ : Env) : Op → Option Value
  | .pick _ _ _ => none
  | .unOp _ _ _ => none
  | op => pureOp ρ op
theorem pureOpM_eq {ρ : Env} {op : Op} {v : Value} (h : pureOpM ρ op = some v) : pureOp ρ op = some v := by
  unfold pureOpM at h
  split at h
  · cases h
  · cases h
  · exact h
/-- As many as go without a guard; the first is carried out. -/
def pureMax (n : Nat) (ops : Array Oper) : Nat → List Oper → Env → Nat × List Oper × Env
  | q, [], ρ => (q, [], ρ)
  | q, o :: l, ρ => match o.guard with
    | some _ => (q, o :: l, ρ)
    | none => match o.dst with
      | none => (q, o :: l, ρ)
      | some d => match Nat.blt d n with
        | false => (q, o :: l, ρ)
        | true => match pureOpM ρ o.op with
          | some v => pureMax n ops (q - 1) l ((d, v) :: ρ)
          | none => (q, o :: l, ρ)
section
variable {P : Program} {n : Nat} {Q : Post} {ρ : Env} {ds : List Deferred} {A : World → Prop} {ops : Array Oper} {rest : List Oper} {o : Oper} {d q : Nat}
theorem XL.pureMax' : ∀ {q : Nat} {l : List Oper} {ρ : Env}, XL P n ops Q (pureMax n ops q l ρ).1 (pureMax n ops q l ρ).2.1 (pureMax n ops q l ρ).2.2 ds A → XL P n ops Q q l ρ ds A
  | _, [], _, h => h
  | q, o :: l, ρ, h => by
    unfold pureMax at h
    split at h
    · exact h
    · rename_i hg
      split at h
      · exact h
      · rename_i d hd
        split at h
        · exact h
        · rename_i hlt
          split at h
          · rename_i v hv
            exact XL.run (d := some d) hd hlt (by simp [wantB, hg]) (fun σ w hσ _ => pureOp_run hσ (pureOpM_eq hv) w) (XL.pureMax' h)
          · exact h
/-- At least one. -/
theorem XL.pures {q' : Nat} {l l' : List Oper} {ρ' : Env} {v : Value} (hg : o.guard = none) (hd : o.dst = some d) (hn : Nat.blt d n = true) (hv : pureOpM ρ o.op = some v) (h : pureMax n ops (q - 1) l ((d, v) :: ρ) = (q', l', ρ'))
    (k : XL P n ops Q q' l' ρ' ds A) : XL P n ops Q q (o :: l) ρ ds A :=
  XL.run (d := some d) hd hn (by simp [wantB, hg]) (fun σ w hσ _ => pureOp_run hσ (pureOpM_eq hv) w) (XL.pureMax' (by simp only [putE, h]; exact k))

/-- A test turned round. -/
theorem XL.not_d {t : TypeId} {x : Operand} {p : Prop} [Decidable p] {rest : List Oper} (hop : o.op = .unOp .not t x) (hd : o.dst = some d) (hn : Nat.blt d n = true) (hw : wantB ops ρ o = some true) (hx : evE ρ x = some (.bool (decide p)))
    (k : XL P n ops Q (q - 1) rest ((d, .bool (decide (¬ p))) :: ρ) ds A) : XL P n ops Q q (o :: rest) ρ ds A :=
  XL.run (d := some d) hd hn hw (fun σ w hσ _ => by
    unfold execOp
    rw [hop]
    simp only [hσ.val hx]
    simp [Op.unary]) k
/-- A guard that is not known: both ways. -/
def guardSlot (ops : Array Oper) (o : Oper) : Option Nat :=
  match o.guard with
  | some (j, _) => (ops[j]?).bind (·.dst)
  | none => none
theorem XL.guard_d {g : Nat} {p : Prop} [Decidable p] {l : List Oper} (_hg : guardSlot ops o = some g) (h : find ρ g = some (.bool (decide p))) (ht : p → XL P n ops Q q (o :: l) ((g, .bool true) :: ρ) ds A)
    (hf : ¬ p → XL P n ops Q q (o :: l) ((g, .bool false) :: ρ) ds A) : XL P n ops Q q (o :: l) ρ ds A := XL.cases_d g h ht hf
theorem XL.guard {g : Nat} {b : Bool} {l : List Oper} (_hg : guardSlot ops o = some g) (h : find ρ g = some (.bool b)) (ht : b = true → XL P n ops Q q (o :: l) ((g, .bool true) :: ρ) ds A)
    (hf : b = false → XL P n ops Q q (o :: l) ((g, .bool false) :: ρ) ds A) : XL P n ops Q q (o :: l) ρ ds A := XL.cases g h ht hf

/-! ### Addresses -/
/-- A numeral, told by itself. -/
def numeral : Nat → Nat
  | 0 => 0
  | k + 1 => k + 1
theorem numeral_eq (k : Nat) : numeral k = k := by cases k <;> rfl
def fieldOff (P : Program) (s : TypeId) (f : Nat) : Option Nat :=
  match P.underlying s with
  | some (.struct fs) => match fs[f]? with
    | some fd => match P.info? fd.type with
      | some i => match i.size, fd.offset with
        | 0, _ => none
        | _ + 1, 0 => some 0
        | _ + 1, m + 1 => some (m + 1)
      | none => none
    | none => none
  | _ => none
theorem run_fieldAt {s : TypeId} {f off b i : Nat} (h : fieldOff P s f = some off) (w : World) : (Instr.fieldAt s (.pointer (some ⟨b, i, none⟩)) f).run P w = .ok (.pointer (some ⟨b, i + off, none⟩)) w := by
  unfold fieldOff at h
  split at h
  · rename_i fs hs
    split at h
    · rename_i fd hfd
      split at h
      · rename_i inf hi
        have hsz : inf.size ≠ 0 ∧ fd.offset = off := by
          split at h
          · cases h
          · rename_i h1 h2; cases h; exact ⟨by omega, by omega⟩
          · rename_i h1 h2; cases h; exact ⟨by omega, by omega⟩
        obtain ⟨h1, rfl⟩ := hsz
        simp [Instr.fieldAt, run_underlying hs, hfd, Instr.sureAddr, fieldPlace, sizeOf, typeInfo, hi, h1, Addr.add_lit]
      · cases h
    · cases h
  · cases h
theorem XL.fa {s f off b i : Nat} {x : Operand} (hop : o.op = .fieldAddr s x f) (hd : o.dst = some d) (hn : Nat.blt d n = true) (hw : wantB ops ρ o = some true) (hx : evE ρ x = some (.pointer (some ⟨b, i, none⟩)))
    (hf : fieldOff P s f = some off) (k : XL P n ops Q (q - 1) rest ((d, .pointer (some ⟨b, i + off, none⟩)) :: ρ) ds A) : XL P n ops Q q (o :: rest) ρ ds A :=
  XL.run (d := some d) hd hn hw (fun σ w hσ _ => by
    unfold execOp
    rw [hop]
    simp only [hσ.val hx]
    exact run_v (run_fieldAt hf w)) k
/-- .. of a whole variable. -/
theorem XL.fa0 {s f off b : Nat} {x : Operand} (hop : o.op = .fieldAddr s x f) (hd : o.dst = some d) (hn : Nat.blt d n = true) (hw : wantB ops ρ o = some true) (hx : evE ρ x = some (.pointer (some ⟨b, 0, none⟩)))
    (hf : fieldOff P s f = some off) (k : XL P n ops Q (q - 1) rest ((d, .pointer (some ⟨b, off, none⟩)) :: ρ) ds A) : XL P n ops Q q (o :: rest) ρ ds A :=
  XL.fa hop hd hn hw hx hf (by rw [Nat.zero_add]; exact k)
/-- An element type's cells. -/
def elemSize (P : Program) (t : TypeId) : Option Nat :=
  match P.underlying t with
  | some (.slice e) => match P.info? e with
    | some i => match i.size with
      | 0 => some 0
      | m + 1 => some (m + 1)
    | none => none
  | _ => none
theorem elemSize_spec {t : TypeId} {sz : Nat} (h : elemSize P t = some sz) : ∃ e i, P.underlying t = some (.slice e) ∧ P.info? e = some i ∧ i.size = sz := by
  unfold elemSize at h
  split at h
  · rename_i e he
    split at h
    · rename_i i hi
      refine ⟨e, i, he, hi, ?_⟩
      split at h <;> cases h <;> omega
    · cases h
  · cases h
theorem run_indexAt_in {t : TypeId} {sz b off len cap : Nat} {kd : IntKind} {i : Int} (h : elemSize P t = some sz) (h0 : 0 ≤ i) (h1 : i < len) (w : World) :
    (Instr.indexAt t (.slice (some ⟨b, off, none⟩) len cap) (.int kd i)).run P w = .ok (.pointer (some ⟨b, off + i.toNat * sz, none⟩)) w := by
  obtain ⟨e, inf, he, hi, hsz⟩ := elemSize_spec h
  simp [Instr.indexAt, asIntOf, run_underlying he, h0, h1, sizeOf, typeInfo, hi, Addr.add_lit, hsz]
theorem XL.ia {t sz b off len cap j : Nat} {kd : IntKind} {i : Int} {x y : Operand} (hop : o.op = .indexAddr t x y) (hd : o.dst = some d) (hn : Nat.blt d n = true) (hw : wantB ops ρ o = some true)
    (hx : evE ρ x = some (.slice (some ⟨b, off, none⟩) len cap)) (hy : evE ρ y = some (.int kd i)) (he : elemSize P t = some sz) (h : 0 ≤ i ∧ i < len) (hj : off + i.toNat * sz = j)
    (k : XL P n ops Q (q - 1) rest ((d, .pointer (some ⟨b, j, none⟩)) :: ρ) ds A) : XL P n ops Q q (o :: rest) ρ ds A :=
  XL.run (d := some d) hd hn hw (fun σ w hσ _ => by
    unfold execOp
    rw [hop]
    simp only [hσ.val hx, hσ.val hy]
    rw [← hj]
    exact run_v (run_indexAt_in he h.1 h.2 w)) k
/-- .. of one cell each, a natural number. -/
theorem XL.ia1 {t b len cap m : Nat} {kd : IntKind} {x y : Operand} (hop : o.op = .indexAddr t x y) (hd : o.dst = some d) (hn : Nat.blt d n = true) (hw : wantB ops ρ o = some true)
    (hx : evE ρ x = some (.slice (some ⟨b, 0, none⟩) len cap)) (hy : evE ρ y = some (.int kd (m : Int))) (he : elemSize P t = some (0 + 1)) (h : m < len)
    (k : XL P n ops Q (q - 1) rest ((d, .pointer (some ⟨b, m, none⟩)) :: ρ) ds A) : XL P n ops Q q (o :: rest) ρ ds A :=
  XL.ia hop hd hn hw hx hy he ⟨by omega, by omega⟩ (by simp) k

/-! ### Loads and stores -/
def nth : List Value → Nat → Option Value
  | [], _ => none
  | v :: _, 0 => some v
  | _ :: l, k + 1 => nth l k
theorem nth_eq : ∀ (l : List Value) (i : Nat), nth l i = l[i]?
  | [], _ => rfl
  | _ :: _, 0 => rfl
  | _ :: l, k + 1 => by simp [nth, nth_eq l k]
def setL : List Value → Nat → Value → Option (List Value)
  | [], _, _ => none
  | _ :: l, 0, u => some (u :: l)
  | v :: l, k + 1, u => match setL l k u with
    | some l' => some (v :: l')
    | none => none
theorem setL_eq : ∀ {l l' : List Value} {i : Nat} {u : Value}, setL l i u = some l' → i < l.length ∧ l.set i u = l'
  | [], _, _, _, h => by cases h
  | _ :: _, _, 0, _, h => by cases h; simp
  | v :: l, l', k + 1, u, h => by
    simp only [setL] at h
    split at h
    · rename_i l2 h2
      cases h
      obtain ⟨h3, h4⟩ := setL_eq h2
      simp [h3, h4]
    · cases h
def sub : List Value → Nat → Nat → Option (List Value)
  | _, 0, 0 => some []
  | [], _, _ => none
  | v :: l, 0, k + 1 => match sub l 0 k with
    | some l' => some (v :: l')
    | none => none
  | _ :: l, i + 1, k => sub l i k
theorem sub_eq : ∀ {l l' : List Value} {i k : Nat}, sub l i k = some l' → l'.length = k ∧ ∀ j v, l'[j]? = some v → l[i + j]? = some v
  | [], l', 0, 0, h => by cases h; simp
  | _ :: _, l', 0, 0, h => by cases h; simp
  | [], l', 0, k + 1, h => by cases h
  | [], l', i + 1, 0, h => by cases h
  | [], l', i + 1, k + 1, h => by cases h
  | v :: l, l', 0, k + 1, h => by
    simp only [sub] at h
    split at h
    · rename_i l2 h2
      cases h
      obtain ⟨h3, h4⟩ := sub_eq h2
      refine ⟨by simp [h3], fun j u hj => ?_⟩
      cases j with
      | zero => simpa using hj
      | succ j => have := h4 j u (by simpa using hj); simpa [Nat.add_comm] using this
    · cases h
  | v :: l, l', i + 1, 0, h => by
    obtain ⟨h3, h4⟩ := sub_eq (l := l) (by simpa [sub] using h)
    exact ⟨h3, fun j u hj => by have := h4 j u hj; rw [show i + 1 + j = (i + j) + 1 by omega]; simpa using this⟩
  | v :: l, l', i + 1, k + 1, h => by
    obtain ⟨h3, h4⟩ := sub_eq (l := l) (by simpa [sub] using h)
    exact ⟨h3, fun j u hj => by have := h4 j u hj; rw [show i + 1 + j = (i + j) + 1 by omega]; simpa using this⟩
def aggB (P : Program) (t : TypeId) : Option Bool :=
  match P.underlying t with
  | some (.struct _) => some true
  | some (.array _ _) => some true
  | some _ => some false
  | none => none
theorem run_isAgg {t : TypeId} {b : Bool} (h : aggB P t = some b) (w : World) : (isAgg t).run P w = .ok b w := by
  unfold aggB at h
  split at h <;> cases h
  · rename_i fs hs; simp [isAgg, run_underlying hs]
  · rename_i a e hs; simp [isAgg, run_underlying hs]
  · rename_i dd h1 h2 hs
    simp only [isAgg, Sem.run_bind, run_underlying hs]
    cases dd <;> first | rfl | exact absurd rfl (h1 _) | exact absurd rfl (h2 _ _)
theorem XL.ldv {t b i : Nat} {x : Operand} {v : Value} (hop : o.op = .load t x) (hd : o.dst = some d) (hn : Nat.blt d n = true) (hw : wantB ops ρ o = some true) (hx : evE ρ x = some (.pointer (some ⟨b, i, none⟩)))
    (ht : aggB P t = some false) (hc : ∀ w, A w → w.cell? ⟨b, i, none⟩ = some v) (k : XL P n ops Q (q - 1) rest ((d, v) :: ρ) ds A) : XL P n ops Q q (o :: rest) ρ ds A :=
  XL.run (d := some d) hd hn hw (fun σ w hσ hA => by
    unfold execOp
    rw [hop]
    simp only [hσ.val hx]
    refine run_v ?_
    simp [Instr.loadAt, Instr.sureAddr, loadVar, run_isAgg ht, load, Sem.run, hc w hA]) k
/-- A variable of one cell, of the call's own. -/
theorem XL.ld {c : Cx} {L L' : List SP} {Φ : List FP} {t b i T : Nat} {cs : Array Value} {x : Operand} {v : Value} (hop : o.op = .load t x) (hd : o.dst = some d) (hn : Nat.blt d n = true) (hw : wantB ops ρ o = some true)
    (hx : evE ρ x = some (.pointer (some ⟨b, i, none⟩))) (ht : aggB P t = some false) (s : Sel L (cel b cs T) L') (hv : nth cs.toList i = some v) (k : XL P n ops Q (q - 1) rest ((d, v) :: ρ) ds (St c L Φ)) :
    XL P n ops Q q (o :: rest) ρ ds (St c L Φ) := XL.ldv hop hd hn hw hx ht (fun _ h => h.cell s (by rw [nth_eq] at hv; simpa using hv)) k
/-- .. by what is known of its row. -/
theorem XL.ldr {c : Cx} {L L' : List SP} {Φ : List FP} {t b i T : Nat} {cs : Array Value} {x : Operand} {v : Value} (hop : o.op = .load t x) (hd : o.dst = some d) (hn : Nat.blt d n = true) (hw : wantB ops ρ o = some true)
    (hx : evE ρ x = some (.pointer (some ⟨b, i, none⟩))) (ht : aggB P t = some false) (s : Sel L (cel b cs T) L') (hv : cs[i]? = some v) (k : XL P n ops Q (q - 1) rest ((d, v) :: ρ) ds (St c L Φ)) :
    XL P n ops Q q (o :: rest) ρ ds (St c L Φ) := XL.ldv hop hd hn hw hx ht (fun _ h => h.cell s hv) k
/-- Of several cells: a struct. -/
def sizeB (P : Program) (t : TypeId) : Option Nat :=
  match P.info? t with
  | some i => match i.size with
    | 0 => some 0
    | m + 1 => some (m + 1)
  | none => none
theorem sizeB_spec {t sz : Nat} (h : sizeB P t = some sz) : ∃ i, P.info? t = some i ∧ i.size = sz := by
  unfold sizeB at h
  split at h
  · rename_i i hi
    refine ⟨i, hi, ?_⟩
    split at h <;> cases h <;> omega
  · cases h
theorem XL.ldsv {t b i sz : Nat} {x : Operand} {vs : List Value} (hop : o.op = .load t x) (hd : o.dst = some d) (hn : Nat.blt d n = true) (hw : wantB ops ρ o = some true) (hx : evE ρ x = some (.pointer (some ⟨b, i, none⟩)))
    (ht : aggB P t = some true) (hs : sizeB P t = some sz) (hl : vs.length = sz) (hc : ∀ w, A w → ∀ j v, vs[j]? = some v → w.cell? ⟨b, i + j, none⟩ = some v) (k : XL P n ops Q (q - 1) rest ((d, .agg vs.toArray) :: ρ) ds A) :
    XL P n ops Q q (o :: rest) ρ ds A :=
  XL.run (d := some d) hd hn hw (fun σ w hσ hA => by
    unfold execOp
    rw [hop]
    simp only [hσ.val hx]
    refine run_v ?_
    obtain ⟨inf, hi, hsz⟩ := sizeB_spec hs
    have := run_loadCells_list (P := P) (w := w) ⟨b, i, none⟩ vs (fun j v hj => by rw [Addr.add_lit]; exact hc w hA j v hj)
    simp [Instr.loadAt, Instr.sureAddr, loadVar, run_isAgg ht, sizeOf, typeInfo, hi, hsz, ← hl, this]) k
theorem XL.lds {c : Cx} {L L' : List SP} {Φ : List FP} {t b i sz T : Nat} {cs : Array Value} {x : Operand} {vs : List Value} (hop : o.op = .load t x) (hd : o.dst = some d) (hn : Nat.blt d n = true) (hw : wantB ops ρ o = some true)
    (hx : evE ρ x = some (.pointer (some ⟨b, i, none⟩))) (ht : aggB P t = some true) (hs : sizeB P t = some sz) (s : Sel L (cel b cs T) L') (hv : sub cs.toList i sz = some vs)
    (k : XL P n ops Q (q - 1) rest ((d, .agg vs.toArray) :: ρ) ds (St c L Φ)) : XL P n ops Q q (o :: rest) ρ ds (St c L Φ) :=
  XL.ldsv hop hd hn hw hx ht hs (sub_eq hv).1 (fun _ h j v hj => h.cell s (by have := (sub_eq hv).2 j v hj; simpa using this)) k
theorem run_storeOne {t b i : Nat} {v : Value} {w : World} (hs : sizeB P t = some 1) (hv : v.oneCell' = true) (hc : (w.cell? ⟨b, i, none⟩).isSome = true) (hf : w.frozen? ⟨b, i, none⟩ = false) :
    (Instr.storeAt t (.pointer (some ⟨b, i, none⟩)) v).run P w = .ok () (w.setCell ⟨b, i, none⟩ v) := by
  obtain ⟨inf, hi, hsz⟩ := sizeB_spec hs
  have hcs : v.cells = #[v] := by cases v <;> first | rfl | cases hv
  obtain ⟨u, hu⟩ := Option.isSome_iff_exists.1 hc
  have ha : (⟨b, i, none⟩ : Addr).add 0 = ⟨b, i, none⟩ := rfl
  simp [Instr.storeAt, Instr.sureAddr, storeVar, sizeOf, typeInfo, hi, hsz, hcs, storeCells, run_store P w _ v _ hv, ha, hu, hf]
theorem XL.st {c : Cx} {L L' : List SP} {Φ : List FP} {t b i T : Nat} {cs : Array Value} {x y : Operand} {v : Value} (hop : o.op = .store t x y) (hd : o.dst = none) (hw : wantB ops ρ o = some true)
    (hx : evE ρ x = some (.pointer (some ⟨b, i, none⟩))) (hy : evE ρ y = some v) (hv : v.oneCell' = true) (hs : sizeB P t = some 1) (s : Sel L (cel b cs T) L') (hi : i < cs.size)
    (k : XL P n ops Q 0 rest ρ ds (St c (cel b (cs.setIfInBounds i v) T :: L') Φ)) : XL P n ops Q 0 (o :: rest) ρ ds (St c L Φ) :=
  XL.act hd hw (fun σ w hσ hA => ⟨_, by
    unfold execOp
    rw [hop]
    simp only [hσ.val hx, hσ.val hy]
    have h1 : cs[i]? = some cs[i] := Array.getElem?_eq_getElem hi
    have := run_storeOne (P := P) (w := w) hs hv (by rw [hA.cell s h1]; rfl) (hA.free s)
    simp [this], hA.set s v⟩) k

/-- .. into a variable that is written out. -/
theorem XL.stl {c : Cx} {L L' : List SP} {Φ : List FP} {t b i T : Nat} {cs : Array Value} {x y : Operand} {v : Value} {l' : List Value} (hop : o.op = .store t x y) (hd : o.dst = none) (hw : wantB ops ρ o = some true)
    (hx : evE ρ x = some (.pointer (some ⟨b, i, none⟩))) (hy : evE ρ y = some v) (hv : v.oneCell' = true) (hs : sizeB P t = some 1) (s : Sel L (cel b cs T) L') (hl : setL cs.toList i v = some l')
    (k : XL P n ops Q 0 rest ρ ds (St c (cel b l'.toArray T :: L') Φ)) : XL P n ops Q 0 (o :: rest) ρ ds (St c L Φ) := by
  obtain ⟨h1, h2⟩ := setL_eq hl
  refine XL.st hop hd hw hx hy hv hs s (by simpa using h1) ?_
  rw [show cs.setIfInBounds i v = l'.toArray from Array.toList_inj.1 (by simp [h2])]
  exact k
/-- .. into a row, told anew. -/
theorem XL.sto {c : Cx} {L L' : List SP} {Φ : List FP} {t b i T : Nat} {cs cs' : Array Value} {x y : Operand} {v : Value} (hop : o.op = .store t x y) (hd : o.dst = none) (hw : wantB ops ρ o = some true)
    (hx : evE ρ x = some (.pointer (some ⟨b, i, none⟩))) (hy : evE ρ y = some v) (hv : v.oneCell' = true) (hs : sizeB P t = some 1) (s : Sel L (cel b cs T) L') (hi : i < cs.size) (hcs : cs.setIfInBounds i v = cs')
    (k : XL P n ops Q 0 rest ρ ds (St c (cel b cs' T :: L') Φ)) : XL P n ops Q 0 (o :: rest) ρ ds (St c L Φ) := by
  subst hcs
  exact XL.st hop hd hw hx hy hv hs s hi k

/-! ### Calls -/
def entersB (P : Program) (f : FuncId) : Bool :=
  match P.funcs[f]? with
  | some fn => match fn.body with
    | some _ => !(fn.name == "runtime.NumGoroutine")
    | none => false
  | none => false
theorem run_enter {f : FuncId} (h : entersB P f = true) (args : Array Value) (w : World) : (callFunc f args).run P w = .ok (.enter f args) w := by
  unfold entersB at h
  split at h
  · rename_i fn hf
    split at h
    · rename_i b hb
      have h1 : ¬ fn.name = "runtime.NumGoroutine" := by simpa using h
      simp [callFunc, hf, hb, h1]
    · cases h
  · cases h
/-- A call of a function by its number, its result in a slot. -/
theorem XL.tri {c : Cx} {L Lc F : List SP} {Φ Φc : List FP} {R : Ending → List SP → List FP → Prop} {cl : Call} {f : FuncId} {args : List Value} (hT : Tri P f args Lc Φc R)
    (hop : o.op = .call cl) (hd : o.dst = some d) (hn : Nat.blt d n = true) (hw : wantB ops ρ o = some true) (hf : cl.callee = .value (.func f)) (ha : evs ρ cl.args.toList = some args) (he : entersB P f = true)
    (s : Sels L Lc F) (hΦ : ∀ φ ∈ Φc, φ ∈ Φ) (hR : ∀ L Φ, ¬ R .outgrown L Φ)
    (k : ∀ v L1 Φ1, R (.returned v) L1 Φ1 → XL P n ops Q 0 rest ((d, v) :: ρ) ds (St c (L1 ++ F) (Φ1 ++ Φ)))
    (kp : ∀ ch L1 Φ1, R (.panicked ch) L1 Φ1 → XQ Q (.panic ch) ρ ds (St c (L1 ++ F) (Φ1 ++ Φ))) : XL P n ops Q 0 (o :: rest) ρ ds (St c L Φ) := by
  refine XL.call (args := args.toArray) (f := f) (d := some d) hd hn hw (fun σ w hσ _ => ?_) (fun w hA => St.call hT s hΦ hA) (fun w ⟨_, _, h, _⟩ => hR _ _ h) (fun v => ?_) (fun ch => ?_)
  · unfold execOp
    rw [hop]
    have h1 : cl.args.map (ev σ) = args.toArray := Array.toList_inj.1 (by simpa using hσ.vals ha)
    simp [resolve, hf, ev, Deferred.ofValue, h1, invoke, run_enter he]
  · rintro a h1 h2 h3 w ⟨L1, Φ1, hr, hS⟩
    exact (k v L1 Φ1 hr).zero h1 h2 h3 hS
  · rintro σ w hσ ⟨L1, Φ1, hr, hS⟩
    exact kp ch L1 Φ1 hr σ w hσ hS
/-- .. that returns, for some x, the value v x, and leaves L1 x and Φ1 x. -/
def Ret {α : Type} (v : α → Value) (L1 : α → List SP) (Φ1 : α → List FP) (p : α → Prop) (e : Ending) (L : List SP) (Φ : List FP) : Prop := ∃ x, p x ∧ e = .returned (v x) ∧ L = L1 x ∧ Φ = Φ1 x
theorem XL.trir {α : Type} {c : Cx} {L Lc F : List SP} {Φ Φc : List FP} {v : α → Value} {L1 : α → List SP} {Φ1 : α → List FP} {p : α → Prop} {cl : Call} {f : FuncId} {args : List Value}
    (hT : Tri P f args Lc Φc (Ret v L1 Φ1 p))
    (hop : o.op = .call cl) (hd : o.dst = some d) (hn : Nat.blt d n = true) (hw : wantB ops ρ o = some true) (hf : cl.callee = .value (.func f)) (ha : evs ρ cl.args.toList = some args) (he : entersB P f = true)
    (s : Sels L Lc F) (hΦ : ∀ φ ∈ Φc, φ ∈ Φ) (k : ∀ x, p x → XL P n ops Q 0 rest ((d, v x) :: ρ) ds (St c (L1 x ++ F) (Φ1 x ++ Φ))) : XL P n ops Q 0 (o :: rest) ρ ds (St c L Φ) :=
  XL.tri hT hop hd hn hw hf ha he s hΦ (fun _ _ ⟨_, _, h, _⟩ => by cases h) (by
    rintro _ _ _ ⟨x, hx, hv, rfl, rfl⟩
    cases hv
    exact k x hx) (by
    rintro _ _ _ ⟨_, _, h, _⟩
    cases h)
/-- A call that hands over one scalar, whatever the world, and leaves what it was given. -/
theorem XL.triq {c : Cx} {L Lc F : List SP} {Φ Φc : List FP} {v : Value} {cl : Call} {f : FuncId} {args : List Value} (hT : Tri P f args Lc Φc fun e L Φ => e = .returned v ∧ L = Lc ∧ Φ = [])
    (hop : o.op = .call cl) (hd : o.dst = some d) (hn : Nat.blt d n = true) (hw : wantB ops ρ o = some true) (hf : cl.callee = .value (.func f)) (ha : evs ρ cl.args.toList = some args) (he : entersB P f = true)
    (s : Sels L Lc F) (s' : Sels (Lc ++ F) L []) (hΦ : ∀ φ ∈ Φc, φ ∈ Φ) (k : XL P n ops Q (q - 1) rest ((d, v) :: ρ) ds (St c L Φ)) : XL P n ops Q q (o :: rest) ρ ds (St c L Φ) := by
  refine XL.qcall (args := args.toArray) (f := f) (d := some d) (v := v) hd hn hw (fun σ w hσ _ => ?_) (fun w hA => (St.call hT s hΦ hA).mono ?_) k
  · unfold execOp
    rw [hop]
    have h1 : cl.args.map (ev σ) = args.toArray := Array.toList_inj.1 (by simpa using hσ.vals ha)
    simp [resolve, hf, ev, Deferred.ofValue, h1, invoke, run_enter he]
  · rintro e w' ⟨L1, Φ1, ⟨rfl, rfl, rfl⟩, hS⟩
    refine ⟨rfl, ?_⟩
    have := hS.turn s' (fun O h => h)
    simpa using this

/-! ### A function, from its body -/
/-- What a call's end must show. -/
def Shows (R : Ending → List SP → List FP → Prop) (c : Cx) (e : Ending) (w' : World) : Prop := ∃ L' Φ', R e L' Φ' ∧ St c L' Φ' w'
theorem Tri.of {f : FuncId} {fn : Func} {cd : Code} {args : List Value} {L : List SP} {Φ : List FP} {R : Ending → List SP → List FP → Prop} (hf : P.funcs[f]? = some fn) (hb : fn.body = some cd)
    (h : ∀ c : Cx, XC P fn.ntmps cd (bodyX P fn (Shows R c)) (envArgs 0 args) [] (St c L Φ)) : Tri P f args L Φ R := fun c hc =>
  calls_of_X hf hb (fun σ w hσ hw => by subst hw; exact h c σ _ (by simpa using hσ) hc)
theorem run_results1 {fn : Func} {t : Nat} (h : fn.results = #[.tmp t]) (tmps : Array Value) (w : World) : (results fn tmps).run P w = .ok (tmps.getD t undef) w := results_tmp h tmps P w
/-- The end of a function of one result. -/
theorem XQ.ret1 {fn : Func} {R : Ending → List SP → List FP → Prop} {c : Cx} {L : List SP} {Φ : List FP} {t : Nat} {v : Value} (h : fn.results = #[.tmp t]) (hv : find ρ t = some v) (hR : R (.returned v) L Φ) :
    XQ (bodyX P fn (Shows R c)) .ret ρ [] (St c L Φ) := fun σ w hσ hA =>
  ⟨rfl, v, fun tmps ht => by rw [results_tmp h, show tmps.getD t undef = σ t from congrFun ht t, hσ t v hv], L, Φ, hR, hA⟩
theorem XQ.ret0 {fn : Func} {R : Ending → List SP → List FP → Prop} {c : Cx} {L : List SP} {Φ : List FP} (h : fn.results = #[]) (hR : R (.returned (.tuple #[])) L Φ) :
    XQ (bodyX P fn (Shows R c)) .ret ρ [] (St c L Φ) := fun σ w _ hA =>
  ⟨rfl, .tuple #[], fun tmps _ => results_none h tmps P w, L, Φ, hR, hA⟩
theorem XQ.end0 {fn : Func} {R : Ending → List SP → List FP → Prop} {c : Cx} {L : List SP} {Φ : List FP} (h : fn.results = #[]) (hR : R (.returned (.tuple #[])) L Φ) :
    XQ (bodyX P fn (Shows R c)) .normal ρ [] (St c L Φ) := fun σ w _ hA =>
  ⟨rfl, .tuple #[], fun tmps _ => results_none h tmps P w, L, Φ, hR, hA⟩
theorem XQ.ret2 {fn : Func} {R : Ending → List SP → List FP → Prop} {c : Cx} {L : List SP} {Φ : List FP} {t u : Nat} {v x : Value} (h : fn.results = #[.tmp t, .tmp u]) (hv : find ρ t = some v) (hx : find ρ u = some x)
    (hR : R (.returned (.tuple #[v, x])) L Φ) : XQ (bodyX P fn (Shows R c)) .ret ρ [] (St c L Φ) := fun σ w hσ hA =>
  ⟨rfl, _, fun tmps ht => by rw [results_tmp2 h, show tmps.getD t undef = σ t from congrFun ht t, show tmps.getD u undef = σ u from congrFun ht u, hσ t v hv, hσ u x hx], L, Φ, hR, hA⟩
end
end Go.Proofs.Ytjnineeeffecaaa.X
