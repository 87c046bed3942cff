/- Fields of values, interfaces, panics, maps of whole numbers by texts. For whatever program. -/
import Derived.Test.YtjnineeeffecaaaX16
namespace Go.Proofs.Ytjnineeeffecaaa.X
open Go Go.RowKit

def nthQ {α : Type} : List α → Nat → Option α
  | [], _ => none
  | v :: _, 0 => some v
  | _ :: l, k + 1 => nthQ l k
theorem nthQ_eq {α : Type} : ∀ (l : List α) (i : Nat), nthQ l i = l[i]?
  | [], _ => rfl
  | _ :: _, 0 => rfl
  | _ :: l, k + 1 => by simp [nthQ, nthQ_eq l k]
def partInf (P : Program) (s : TypeId) (f : Nat) : Option (Nat × Option Nat) := match P.underlying s with
  | some (.struct fs) => match fs[f]? with
    | some fd => match aggB P fd.type with
      | some false => some (numeral fd.offset, none)
      | some true => match sizeB P fd.type with
        | some sz => some (numeral fd.offset, some sz)
        | none => none
      | none => none
    | none => none
  | _ => none
theorem run_getM {P : Program} {w : World} {b : Nat} {es : Array MapEntry} {cl : Nat} (h : w.heap[b]? = some (.map es cl)) : (getObj b).run P w = .ok (.map es cl) w := by simp [getObj, Sem.run, h]
section
variable {P : Program} {n : Nat} {Q : Post} {ρ : Env} {ds : List Deferred} {A : World → Prop} {ops : Array Oper} {rest : List Oper} {o : Oper} {d q : Nat} {c : Cx} {L L' : List SP} {Φ : List FP}
/-! ### Fields of values -/
def fieldV (P : Program) (s : TypeId) (f : Nat) (vs : List Value) : Option Value := match partInf P s f with
  | some (off, none) => nthQ vs off
  | some (off, some sz) => some (.agg ((vs.drop off).take sz).toArray)
  | none => none
theorem run_fieldV {s : TypeId} {f : Nat} {vs : List Value} {v : Value} (h : fieldV P s f vs = some v) (w : World) : (Instr.field s (.agg vs.toArray) f).run P w = .ok v w := by
  unfold fieldV partInf at h
  cases hu : P.underlying s with
  | none => simp [hu] at h
  | some d =>
    cases d <;> simp only [hu] at h <;> first | (cases h; done) | skip
    rename_i fs
    cases hf : fs[f]? with
    | none => simp [hf] at h
    | some fd =>
      simp only [hf] at h
      cases ha : aggB P fd.type with
      | none => simp [ha] at h
      | some b =>
        cases b with
        | false =>
          simp only [ha, numeral_eq] at h
          rw [nthQ_eq] at h
          simp [Instr.field, run_underlying hu, hf, asAgg, part, run_isAgg ha, h]
        | true =>
          simp only [ha] at h
          cases hs : sizeB P fd.type with
          | none => simp [hs] at h
          | some sz =>
            simp only [hs, numeral_eq] at h
            cases h
            obtain ⟨i, hi, hsz⟩ := sizeB_spec hs
            simp [Instr.field, run_underlying hu, hf, asAgg, part, run_isAgg ha, sizeOf, typeInfo, hi, hsz]
theorem XL.field {s : TypeId} {f : Nat} {x : Operand} {vs : List Value} {v : Value} (hop : o.op = .field s x f) (hd : o.dst = some d) (hn : Nat.blt d n = true) (hw : wantB ops ρ o = some true) (hx : evE ρ x = some (.agg vs.toArray))
    (hf : fieldV P s f vs = some v) (k : XL P n ops Q (q - 1) rest ((d, v) :: ρ) ds A) : XL P n ops Q q (o :: rest) ρ ds A :=
  XL.run (d := some d) hd hn hw (fun σ w hσ _ => by
    unfold execOp
    rw [hop]
    simp only [hσ.val hx]
    exact run_v (run_fieldV hf w)) k
/-! ### Interfaces, panics -/
def concB (P : Program) (t : TypeId) : Bool := match P.underlying t with
  | some (.interface _) => false
  | some _ => true
  | none => false
theorem XL.iface {t : TypeId} {x : Operand} {v : Value} (hop : o.op = .makeInterface t x) (hd : o.dst = some d) (hn : Nat.blt d n = true) (hw : wantB ops ρ o = some true) (hx : evE ρ x = some v)
    (ht : concB P t = true) (k : XL P n ops Q (q - 1) rest ((d, .iface t v) :: ρ) ds A) : XL P n ops Q q (o :: rest) ρ ds A :=
  XL.run (d := some d) hd hn hw (fun σ w hσ _ => by
    unfold execOp
    rw [hop]
    simp only [hσ.val hx]
    refine run_v ?_
    unfold concB at ht
    cases hu : P.underlying t with
    | none => simp [hu] at ht
    | some d =>
      simp only [Instr.makeInterface, Sem.run_bind, run_underlying hu, Result.andThen_ok]
      cases d <;> first | (simp [hu] at ht; done) | rfl) k
theorem XL.panics {t : TypeId} {x : Operand} {v : Value} (hop : o.op = .panic x) (hw : wantB ops ρ o = some true) (hx : evE ρ x = some (.iface t v)) (k : XQ Q (.panic (pn (.iface t v))) ρ ds A) :
    XL P n ops Q 0 (o :: rest) ρ ds A :=
  XL.dies (v := fun _ => .iface t v) hw fun σ w hσ hA => ⟨w, by
    unfold execOp
    rw [hop]
    simp only [hσ.val hx]
    simp [Instr.panic, goPanic, Sem.run], fun σ' w' hσ' hw' => by subst hw'; exact k σ' w' hσ' hA⟩
/-- A call of a function value that may panic. -/
theorem XL.tripF {α β : Type} {Lc F : List SP} {Φc : List FP} {v : α → Value} {L1 : α → List SP} {Φ1 : α → List FP} {p : α → Prop} {pv : β → Value} {L2 : β → List SP} {q' : β → Prop} {cl : Call} {x : Operand} {f : FuncId} {fs cap args : List Value}
    (hT : Tri P f (fs ++ args ++ cap) Lc Φc (RetP v L1 Φ1 p pv L2 q'))
    (hop : o.op = .call cl) (hd : o.dst = some d) (hn : Nat.blt d n = true) (hw : wantB ops ρ o = some true) (hf : cl.callee = .value x) (hx : evE ρ x = some (.func (.func f) fs.toArray cap.toArray)) (ha : evs ρ cl.args.toList = some args) (he : entersB P f = true)
    (s : Sels L Lc F) (hΦ : ∀ φ ∈ Φc, φ ∈ Φ) (k : ∀ x, p x → XL P n ops Q 0 rest ((d, v x) :: ρ) ds (St c (L1 x ++ F) (Φ1 x ++ Φ)))
    (kp : ∀ y, q' y → XQ Q (.panic (pn (pv y))) ρ ds (St c (L2 y ++ F) Φ)) : XL P n ops Q 0 (o :: rest) ρ ds (St c L Φ) :=
  XL.triF hT hop hd hn hw hf hx ha he s hΦ (fun _ _ h => by rcases h with ⟨_, _, h, _⟩ | ⟨_, _, h, _⟩ <;> cases h) (by
    rintro _ _ _ (⟨x, hx, hv, rfl, rfl⟩ | ⟨_, _, h, _⟩)
    · cases hv
      exact k x hx
    · cases h) (by
    rintro _ _ _ (⟨_, _, h, _⟩ | ⟨y, hy, hv, rfl, rfl⟩)
    · cases h
    · cases hv
      exact kp y hy)
/-! ### Structs stored into rows of the call's own -/
theorem owns_setRow {w : World} {e size m j : Nat} {b off : Nat} {cap : Nat} {xs vs : List Value} (h : w.ownsRow 0 e size (.slice (some ⟨b, off, none⟩) m cap) m xs) (hj : j + vs.length ≤ xs.length) (hv : 0 < vs.length) :
    off = 0 ∧ ∃ cur, w.heap[b]? = some (.cells cur e (0, 0)) ∧ j + vs.length ≤ cur.size ∧
      (w.setRow b (cur.toList.take j ++ vs ++ cur.toList.drop (j + vs.length)).toArray).ownsRow 0 e size (.slice (some ⟨b, 0, none⟩) m cap) m (xs.take j ++ vs ++ xs.drop (j + vs.length)) := by
  rcases h.2 with ⟨h1, _⟩ | ⟨g, cap', cur, h1, hb, hg, hn, hm, hc, ht⟩
  · cases h1
  · simp only [Value.slice.injEq, Option.some.injEq, Addr.mk.injEq, and_true, true_and] at h1
    obtain ⟨⟨rfl, rfl⟩, rfl⟩ := h1
    have h5 : j + vs.length ≤ cur.size := by rw [← ht] at hj; simp at hj; omega
    have hxs : xs.length = m * size := h.1
    have hlen : (cur.toList.take j ++ vs ++ cur.toList.drop (j + vs.length)).length = cur.size := by simp; omega
    refine ⟨rfl, cur, hg, h5, by simp; omega, .inr ⟨_, _, _, rfl, hb, setRow_heap w b cur _ e _ hg, hn, hm, by rw [← hc, List.size_toArray]; exact hlen, ?_⟩⟩
    have hx : m * size ≤ cur.size := by
      have : xs.length ≤ cur.size := by rw [← ht]; simp; omega
      omega
    simp only [List.toList_toArray]
    rw [← ht]
    apply List.ext_getElem?
    intro k
    simp only [List.getElem?_take, List.getElem?_append, List.length_append, List.length_take, List.getElem?_drop, Array.length_toList]
    repeat' split
    all_goals first
      | rfl
      | (exfalso; omega)
      | (congr 1; omega)
theorem St.setOwnRow {w : World} {e size m j : Nat} {v : Value} {xs vs : List Value} (s : Sel L (rowO e size v m xs) L') (h : St c L Φ w) (hj : j + vs.length ≤ xs.length) (hv : 0 < vs.length) :
    ∃ b cur, cellP v j = .pointer (some ⟨b, j, none⟩) ∧ w.heap[b]? = some (.cells cur e (0, 0)) ∧ j + vs.length ≤ cur.size ∧
      St c (rowO e size v m (xs.take j ++ vs ++ xs.drop (j + vs.length)) :: L') Φ (w.setRow b (cur.toList.take j ++ vs ++ cur.toList.drop (j + vs.length)).toArray) := by
  obtain ⟨O1, h1, h2⟩ := h.own s
  rcases h2.2 with ⟨rfl, rfl⟩ | ⟨g, cap, cur0, rfl, hr⟩
  · have := h2.1; omega
  · obtain ⟨_, cur, h4, h5, h3⟩ := owns_setRow h2 hj hv
    refine ⟨g, cur, by simp [cellP], h4, h5, ?_⟩
    refine h.step (Lc := [rowO e size (.slice (some ⟨g, 0, none⟩) m cap) m xs]) (Lc' := [rowO e size (.slice (some ⟨g, 0, none⟩) m cap) m (xs.take j ++ vs ++ xs.drop (j + vs.length))]) (.cons s .nil) (fun _ h => h) fun Oc hc _ => ?_
    obtain ⟨O3, O4, ⟨k1, k2⟩, k3, hd, hU⟩ := hc
    refine ⟨Oc, ⟨O3, O4, ⟨k1, h3⟩, k3, hd, hU⟩, ⟨rfl, rfl, rfl, by simp [World.setRow], fun b' _ hn => ?_⟩, fun _ h => .inl h⟩
    have hne : b' ≠ g := fun e => hn ((hU b').2 (.inl ((k1 b').2 (by rw [e]; rfl))))
    simp [World.setRow, Array.getElem?_modify, Ne.symm hne]
theorem XL.stsR {t e size sz m j : Nat} {x y : Operand} {v : Value} {vs xs zs : List Value} (hop : o.op = .store t x y) (hd : o.dst = none) (hw : wantB ops ρ o = some true)
    (hx : evE ρ x = some (cellP v j)) (hy : evE ρ y = some (.agg vs.toArray)) (hs : sizeB P t = some sz) (hl : vs.length = sz) (h1 : onesL vs = true) (hv0 : Nat.ble 1 vs.length = true) (s : Sel L (rowO e size v m (xs ++ zs)) L') (ha : xs.length = j) (hz : zs.length = sz)
    (k : XL P n ops Q 0 rest ρ ds (St c (rowO e size v m (xs ++ vs) :: L') Φ)) : XL P n ops Q 0 (o :: rest) ρ ds (St c L Φ) :=
  XL.act hd hw (fun σ w hσ hA => by
    obtain ⟨b, cur, h2, h3, h4, h5⟩ := hA.setOwnRow (j := j) (vs := vs) s (by simp; omega) (Nat.le_of_ble_eq_true hv0)
    have e1 : (xs ++ zs).take j ++ vs ++ (xs ++ zs).drop (j + vs.length) = xs ++ vs := by
      subst ha
      rw [List.take_left, List.drop_eq_nil_of_le (by simp; omega), List.append_nil]
    rw [e1] at h5
    obtain ⟨inf, hi, hsz⟩ := sizeB_spec hs
    refine ⟨_, ?_, h5⟩
    unfold execOp
    rw [hop]
    simp only [hσ.val hx, hσ.val hy, h2]
    have h6 := run_storeCells_at P b j e vs 0 cur w h3 (by simpa using h4) (onesL_spec h1)
    simp only [Nat.add_zero] at h6
    have h7 : (Value.agg vs.toArray).cells = vs.toArray := rfl
    simp [Instr.storeAt, Instr.sureAddr, storeVar, sizeOf, typeInfo, hi, hsz, h7, hl] at h6 ⊢
    simp [h6]) k
/-! ### Maps -/
def ents : Nat → List (ByteArray × Int) → List MapEntry
  | _, [] => []
  | k, (s, x) :: l => { key := .string s, val := .int .i64 x, born := k } :: ents (k + 1) l
def lookS (s : ByteArray) : List (ByteArray × Int) → Option Int
  | [] => none
  | (t, x) :: l => if s = t then some x else lookS s l
theorem findNow_ents {s : ByteArray} : ∀ (l : List (ByteArray × Int)) (k i : Nat), ∃ j, Instr.findNow .string (.string s) (ents k l) i = some ((lookS s l).map fun x => (j, .int .i64 x))
  | [], _, _ => ⟨0, rfl⟩
  | (t, x) :: l, k, i => by
    unfold ents Instr.findNow lookS
    simp only [Instr.sameNow]
    have hb : (s == t) = decide (s = t) := by rw [beq_toListBytes, toList_beq]
    rw [hb]
    by_cases h : s = t
    · subst h
      exact ⟨i, by simp⟩
    · obtain ⟨j, hj⟩ := findNow_ents (s := s) l (k + 1) (i + 1)
      exact ⟨j, by simpa [h] using hj⟩
theorem ents_app : ∀ (l : List (ByteArray × Int)) (k : Nat) (s : ByteArray) (x : Int), ents k (l ++ [(s, x)]) = ents k l ++ [{ key := .string s, val := .int .i64 x, born := k + l.length }]
  | [], k, s, x => rfl
  | (t, y) :: l, k, s, x => by
    simp only [List.cons_append, ents, List.length_cons, ents_app l (k + 1) s x]
    rw [show k + 1 + l.length = k + (l.length + 1) by omega]
@[reducible] def mapB (b : Nat) (l : List (ByteArray × Int)) : SP := blk b (.map (ents 0 l).toArray l.length)
theorem XL.mkMap {t : TypeId} (hop : o.op = .makeMap t none) (hd : o.dst = some d) (hn : Nat.blt d n = true) (hw : wantB ops ρ o = some true)
    (k : ∀ b, XL P n ops Q 0 rest ((d, .map (some b)) :: ρ) ds (St c (mapB b [] :: L) Φ)) : XL P n ops Q 0 (o :: rest) ρ ds (St c L Φ) :=
  XL.new (v := fun b => .map (some b)) (ob := .map #[] 0) hd hn hw (fun σ w hσ _ => by
    unfold execOp
    rw [hop]
    exact run_v (by simp [Instr.makeMap])) k
def strMap (P : Program) (t : TypeId) : Bool := match P.underlying t with
  | some (.map kt et) => match P.underlying kt, P.info? et with
    | some .string, some i => match i.zero with
      | some (.int .i64 0) => true
      | _ => false
    | _, _ => false
  | _ => false
theorem strMap_spec {t : TypeId} (h : strMap P t = true) : ∃ kt et i, P.underlying t = some (.map kt et) ∧ P.underlying kt = some .string ∧ P.info? et = some i ∧ i.zero = some (.int .i64 0) := by
  unfold strMap at h
  split at h
  · rename_i kt et hu
    split at h
    · rename_i i h1 h2
      split at h
      · rename_i h3
        exact ⟨kt, et, i, hu, h1, h2, h3⟩
      · cases h
    · cases h
  · cases h
theorem checkS {kt : TypeId} (h : P.underlying kt = some .string) (e : Bool) (s : ByteArray) (w : World) : (Instr.checkKey e 10000 kt (.string s)).run P w = .ok () w := by
  unfold Instr.checkKey
  simp [run_underlying h]
theorem St.setObj {w : World} {b : Nat} {o o' : Obj} (h : St c L Φ w) (s : Sel L (X.blk b o) L') : St c (X.blk b o' :: L') Φ { w with heap := w.heap.setIfInBounds b o' } := by
  refine h.step (Lc := [X.blk b o]) (Lc' := [X.blk b o']) (.cons s .nil) (fun _ h => h) fun Oc hc _ => ?_
  obtain ⟨O1, O2, ⟨h1, h2⟩, h3, hd, hU⟩ := hc
  have hlt := (Array.getElem?_eq_some_iff.1 h2).1
  refine ⟨Oc, ⟨O1, O2, ⟨h1, by simp [Array.getElem?_setIfInBounds, hlt]⟩, h3, hd, hU⟩, ⟨rfl, rfl, rfl, by simp, fun b' _ hn => ?_⟩, fun _ h => .inl h⟩
  have hne : b' ≠ b := fun e => hn ((hU b').2 (.inl (by rw [e]; exact (h1 b).2 rfl)))
  show (w.heap.setIfInBounds _ _)[b']? = _
  rw [Array.getElem?_setIfInBounds_ne (Ne.symm hne)]
theorem XL.insS {t : TypeId} {x y z : Operand} {b : Nat} {l : List (ByteArray × Int)} {s : ByteArray} {v : Int} (hop : o.op = .insert t x y z) (hd : o.dst = none) (hw : wantB ops ρ o = some true)
    (hx : evE ρ x = some (.map (some b))) (hy : evE ρ y = some (.string s)) (hz : evE ρ z = some (.int .i64 v)) (ht : strMap P t = true) (hs : Sel L (mapB b l) L') (hne : lookS s l = none)
    (k : XL P n ops Q 0 rest ρ ds (St c (mapB b (l ++ [(s, v)]) :: L') Φ)) : XL P n ops Q 0 (o :: rest) ρ ds (St c L Φ) :=
  XL.act hd hw (fun σ w hσ hA => by
    obtain ⟨kt, et, i, h1, h2, h3, h4⟩ := strMap_spec ht
    refine ⟨_, ?_, hA.setObj hs⟩
    unfold execOp
    rw [hop]
    simp only [hσ.val hx, hσ.val hy, hσ.val hz]
    have hb := hA.blk hs
    obtain ⟨j, hj⟩ := findNow_ents (s := s) l 0 0
    rw [hne] at hj
    have hf : (Instr.findKey kt (.string s) (ents 0 l)).run P w = .ok none w := by
      unfold Instr.findKey
      simp only [Sem.run_bind, run_underlying h2, Result.andThen_ok]
      have hj' : Instr.findNow .string (.string s) (ents 0 l) 0 = some none := hj
      rw [hj']
      rfl
    have hset : ∀ o : Obj, (Go.setObj b o).run P w = .ok () { w with heap := w.heap.setIfInBounds b o } := fun o => by simp [Go.setObj, Sem.run, hb]
    have hm : (Instr.mapUpdate t (.map (some b)) (.string s) (.int .i64 v)).run P w = .ok () { w with heap := w.heap.setIfInBounds b (.map (ents 0 (l ++ [(s, v)])).toArray (l ++ [(s, v)]).length) } := by
      unfold Instr.mapUpdate
      simp only [Sem.run_bind, run_underlying h1, Result.andThen_ok, run_getM hb, checkS h2, List.toList_toArray, hf]
      rw [ents_app]
      simp only [List.push_toArray, Nat.zero_add, List.length_append, List.length_singleton]
      exact hset _
    simp [hm]) k
theorem XL.lookS {t : TypeId} {x y : Operand} {b : Nat} {l : List (ByteArray × Int)} {s : ByteArray} (hop : o.op = .lookup t x y false) (hd : o.dst = some d) (hn : Nat.blt d n = true) (hw : wantB ops ρ o = some true)
    (hx : evE ρ x = some (.map (some b))) (hy : evE ρ y = some (.string s)) (ht : strMap P t = true) (hs : Sel L (mapB b l) L')
    (k : XL P n ops Q (q - 1) rest ((d, .int .i64 ((lookS s l).getD 0)) :: ρ) ds (St c L Φ)) : XL P n ops Q q (o :: rest) ρ ds (St c L Φ) :=
  XL.run (d := some d) hd hn hw (fun σ w hσ hA => by
    obtain ⟨kt, et, i, h1, h2, h3, h4⟩ := strMap_spec ht
    unfold execOp
    rw [hop]
    simp only [hσ.val hx, hσ.val hy]
    refine run_v ?_
    have hb := hA.blk hs
    obtain ⟨j, hj⟩ := findNow_ents (s := s) l 0 0
    have hf : (Instr.findKey kt (.string s) (ents 0 l)).run P w = .ok ((X.lookS s l).map fun x => (j, .int .i64 x)) w := by
      unfold Instr.findKey
      simp only [Sem.run_bind, run_underlying h2, Result.andThen_ok]
      rw [hj]
      rfl
    have hz : (zeroValue et).run P w = .ok (.int .i64 0) w := by simp [zeroValue, typeInfo, h3, h4]
    unfold Instr.lookup
    simp only [Sem.run_bind, run_underlying h1, Result.andThen_ok, run_getM hb, checkS h2, List.toList_toArray, hf, Sem.run_pure]
    cases X.lookS s l <;> simp [hz]) k
end
end Go.Proofs.Ytjnineeeffecaaa.X
