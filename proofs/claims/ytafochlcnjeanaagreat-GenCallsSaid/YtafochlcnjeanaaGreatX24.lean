/- Runs by numbers: operations on the heap; one step. For whatever program. -/
import Derived.Test.YtafochlcnjeanaaGreatX23
import Derived.Laws.IdiomStrings
import Derived.Laws.RangeString
namespace Go.Proofs.YtafochlcnjeanaaGreat.E
open Go Go.RowKit X

/-! ### Reading blocks -/
def getN (cs : T EV) : Nat → Nat → Option (List EV)
  | _, 0 => some []
  | i, n + 1 => match cs.get i, getN cs (i + 1) n with
    | some x, some l => some (x :: l)
    | _, _ => none
theorem getN_length {cs : T EV} : ∀ {n i : Nat} {l : List EV}, getN cs i n = some l → l.length = n
  | 0, i, l, h => by simp only [getN] at h; cases h; rfl
  | n + 1, i, l, h => by
    simp only [getN] at h
    split at h
    · rename_i x l' h1 h2
      cases h
      simp [getN_length h2]
    · cases h
theorem getN_R {R : Rel} {cs : T EV} {cur : Array Value} (hc : ∀ i x, cs.get i = some x → ∃ u, cur[i]? = some u ∧ VR R x u) : ∀ {n i : Nat} {l : List EV}, getN cs i n = some l →
    ∃ us : List Value, VRs R l us ∧ ∀ j u, us[j]? = some u → cur[i + j]? = some u
  | 0, i, l, h => by simp only [getN] at h; cases h; exact ⟨[], rfl, fun j u hj => by simp at hj⟩
  | n + 1, i, l, h => by
    simp only [getN] at h
    split at h
    · rename_i x l' h1 h2
      cases h
      obtain ⟨u, h3, h4⟩ := hc i x h1
      obtain ⟨us, h5, h6⟩ := getN_R hc h2
      refine ⟨u :: us, ⟨u, us, rfl, h4, h5⟩, fun j v hj => ?_⟩
      cases j with
      | zero => simp at hj; subst hj; exact h3
      | succ j => rw [show i + (j + 1) = i + 1 + j by omega]; exact h6 j v (by simpa using hj)
    · cases h
theorem HR.row {R : Rel} {h : Heap} {hp : Array Obj} {k b c : Nat} {ty n : Nat} {cs : T EV} (H : HR R h hp) (hk : h k = some (.row ty n cs)) (hR : R k b c) :
    ∃ cur, hp[b]? = some (.cells cur ty (0, 0)) ∧ cur.size = c ∧ n ≤ c ∧ ∀ i x, cs.get i = some x → i < n ∧ ∃ u, cur[i]? = some u ∧ VR R x u := by
  obtain ⟨b', c', h1, h2⟩ := H.blk k _ hk trivial
  obtain ⟨rfl, rfl⟩ := H.fn _ _ _ _ _ hR h1
  exact h2
theorem cell_of {w : World} {b i : Nat} {cur : Array Value} {ty : Nat} {fz : Nat × Nat} {u : Value} (h : w.heap[b]? = some (.cells cur ty fz)) (hu : cur[i]? = some u) : w.cell? ⟨b, i, none⟩ = some u := by simp [World.cell?, h, hu]
/-- Cells that may be read. -/
def rowOf : Option Blk → Option (T EV)
  | some (.row _ _ cs) => some cs
  | some (.ro _ cs) => some cs
  | _ => none
theorem HR.rowOf {R : Rel} {h : Heap} {hp : Array Obj} {k b c : Nat} {cs : T EV} (H : HR R h hp) (hk : E.rowOf (h k) = some cs) (hR : R k b c) :
    ∃ cur ty fz, hp[b]? = some (.cells cur ty fz) ∧ ∀ i x, cs.get i = some x → ∃ u, cur[i]? = some u ∧ VR R x u := by
  unfold E.rowOf at hk
  split at hk
  · rename_i ty n cs' e
    cases hk
    obtain ⟨cur, h1, _, _, h4⟩ := H.row e hR
    exact ⟨cur, _, _, h1, fun i x hx => (h4 i x hx).2⟩
  · rename_i n cs' e
    cases hk
    obtain ⟨b', c', h1, h2⟩ := H.blk k _ e trivial
    obtain ⟨rfl, rfl⟩ := H.fn _ _ _ _ _ hR h1
    obtain ⟨cur, ty, fz, h3, _, _, h4⟩ := h2
    exact ⟨cur, ty, fz, h3, h4⟩
  · cases hk
def loadE (P : Program) (H : T Blk) (t : TypeId) : EV → Option EV
  | .ptr k off => match rowOf (H.get k) with
    | some cs => match aggB P t with
      | some false => cs.get off
      | some true => match sizeB P t with
        | some sz => match getN cs off sz with
          | some l => some (.agg l)
          | none => none
        | none => none
      | none => none
    | none => none
  | _ => none
section
variable {P : Program} {R : Rel}
theorem loadE_run {H : T Blk} {t : TypeId} {x v : EV} {vx : Value} {w : World} (h : loadE P H t x = some v) (hx : VR R x vx) (HH : HR R H.get w.heap) : ∃ v', (Instr.loadAt t vx).run P w = .ok v' w ∧ VR R v v' := by
  unfold loadE at h
  split at h
  · rename_i k off
    obtain ⟨b, c, hR, rfl⟩ := hx
    split at h
    · rename_i cs hk
      obtain ⟨cur, ty, fz, hb, hcs⟩ := HH.rowOf hk hR
      split at h
      · rename_i ht
        obtain ⟨u, hu, hv⟩ := hcs off v h
        refine ⟨u, ?_, hv⟩
        simp [Instr.loadAt, Instr.sureAddr, loadVar, run_isAgg ht, load, Sem.run, cell_of hb hu]
      · rename_i ht
        split at h
        · rename_i sz hs
          split at h
          · rename_i l hl
            cases h
            obtain ⟨us, h1, h2⟩ := getN_R hcs hl
            obtain ⟨inf, hi, hsz⟩ := sizeB_spec hs
            refine ⟨.agg us.toArray, ?_, us, rfl, h1⟩
            have := run_loadCells_list (P := P) (w := w) ⟨b, off, none⟩ us (fun j v hj => by rw [Addr.add_lit]; exact cell_of hb (h2 j v hj))
            have hlen : us.length = sz := by rw [h1.length, getN_length hl]
            simp [Instr.loadAt, Instr.sureAddr, loadVar, run_isAgg ht, sizeOf, typeInfo, hi, hsz, ← hlen, this]
          · cases h
        · cases h
      · cases h
    · cases h
  · cases h

/-! ### Writing blocks -/
theorem BR.write {B c : Nat} {ty n : Nat} {cs : T EV} {cur : Array Value} {nl : List EV} {us : List Value} {o n' : Nat} (hsz : cur.size = c) (hn : n ≤ c) (hcs : ∀ i x, cs.get i = some x → i < n ∧ ∃ u, cur[i]? = some u ∧ VR R x u)
    (hv : VRs R nl us) (ho : o + nl.length ≤ n') (hn' : n ≤ n') (hc' : n' ≤ c) :
    BR R (.row ty n' (cs.puts o nl)) c (some (.cells (cur.toList.take o ++ us ++ cur.toList.drop (o + us.length)).toArray ty (0, 0))) := by
  have hl := hv.length
  refine ⟨_, rfl, ?_, hc', fun i x hx => ?_⟩
  · simp; omega
  · rw [T.get_puts] at hx
    split at hx
    · rename_i hi
      obtain ⟨u, h1, h2⟩ := hv.get hx
      refine ⟨by omega, u, ?_, h2⟩
      have h3 : (cur.toList.take o).length = o := by simp; omega
      simp only [List.getElem?_toArray, List.append_assoc]
      rw [List.getElem?_append_right (by rw [h3]; exact hi.1), h3, List.getElem?_append_left (by omega)]
      exact h1
    · rename_i hi
      obtain ⟨h4, u, h1, h2⟩ := hcs i x hx
      refine ⟨by omega, u, ?_, h2⟩
      have h3 : (cur.toList.take o).length = o := by simp; omega
      simp only [List.getElem?_toArray, List.append_assoc]
      by_cases hlo : i < o
      · rw [List.getElem?_append_left (by omega), List.getElem?_take, if_pos hlo]
        simpa using h1
      · rw [List.getElem?_append_right (by omega), h3, List.getElem?_append_right (by omega), List.getElem?_drop]
        rw [show o + us.length + (i - o - us.length) = i by omega]
        simpa using h1
theorem setRow_size (w : World) (b : Nat) (cs : Array Value) : (w.setRow b cs).heap.size = w.heap.size := by simp [World.setRow]
theorem setRow_ne (w : World) {b b' : Nat} (cs : Array Value) (h : b' ≠ b) : (w.setRow b cs).heap[b']? = w.heap[b']? := by
  simp [World.setRow, Array.getElem?_modify, Ne.symm h]
structure SameW (w w' : World) : Prop where
  os : w'.os = w.os
  tape : w'.tape = w.tape
  output : w'.output = w.output
theorem SameW.refl (w : World) : SameW w w := ⟨rfl, rfl, rfl⟩
theorem SameW.trans {w w1 w2 : World} (h : SameW w w1) (k : SameW w1 w2) : SameW w w2 := ⟨k.os.trans h.os, k.tape.trans h.tape, k.output.trans h.output⟩
theorem setRow_same (w : World) (b : Nat) (cs : Array Value) : SameW w (w.setRow b cs) := ⟨rfl, rfl, rfl⟩
/-- What a step comes to. -/
def After (id hi : Nat) (R : Rel) (H : Heap) (w : World) (R' : Rel) (H' : Heap) (w' : World) : Prop := HR R' H' w'.heap ∧ Go_ id hi R H w.heap R' H' w'.heap ∧ SameW w w'
def storeE (P : Program) (H : T Blk) (t : TypeId) : EV → EV → Option (T Blk)
  | .ptr k off, y => match H.get k with
    | some (.row ty n cs) => match sizeB P t with
      | some sz => match Nat.beq (cellsE y).length sz && onesE (cellsE y) && Nat.ble (off + sz) n with
        | true => some (H.put k (.row ty n (cs.puts off (cellsE y))))
        | false => none
      | none => none
    | _ => none
  | _, _ => none
theorem write_after {H : T Blk} {w : World} {k b c ty n n' o id hi : Nat} {cs : T EV} {nl : List EV} {us : List Value} {cur : Array Value} (HH : HR R H.get w.heap) (hk : H.get k = some (.row ty n cs)) (hR : R k b c)
    (hb : w.heap[b]? = some (.cells cur ty (0, 0))) (hv : VRs R nl us) (ho : o + nl.length ≤ n') (hn' : n ≤ n') (hc' : n' ≤ c) :
    After id hi R H.get w R (H.put k (.row ty n' (cs.puts o nl))).get (w.setRow b (cur.toList.take o ++ us ++ cur.toList.drop (o + us.length)).toArray) := by
  obtain ⟨cur', hb', hc, hn, hcs⟩ := HH.row hk hR
  rw [hb] at hb'
  cases hb'
  have hbr := BR.write (B := 0) (ty := ty) hc hn hcs hv ho hn' hc'
  have h1 := setRow_heap w b cur (cur.toList.take o ++ us ++ cur.toList.drop (o + us.length)).toArray ty (0, 0) hb
  have := HH.write (lo := id) (hi := hi) (hp' := (w.setRow b (cur.toList.take o ++ us ++ cur.toList.drop (o + us.length)).toArray).heap) hk trivial (B' := .row ty n' (cs.puts o nl)) trivial hR
    (setRow_size _ _ _) (fun b' hb' => setRow_ne w _ hb') (by rw [h1]; exact hbr)
  rw [get_put_upd]
  exact ⟨this.1, this.2, setRow_same _ _ _⟩
theorem storeE_run {H H' : T Blk} {t : TypeId} {x y : EV} {vx vy : Value} {w : World} {id hi : Nat} (h : storeE P H t x y = some H') (hx : VR R x vx) (hy : VR R y vy) (HH : HR R H.get w.heap) :
    ∃ w', (Instr.storeAt t vx vy).run P w = .ok () w' ∧ After id hi R H.get w R H'.get w' := by
  unfold storeE at h
  split at h
  · rename_i k off
    obtain ⟨b, c, hR, rfl⟩ := hx
    split at h
    · rename_i ty n cs hk
      split at h
      · rename_i sz hs
        split at h
        · rename_i hb
          simp only [Bool.and_eq_true, Nat.beq_eq, Nat.ble_eq] at hb
          obtain ⟨⟨hl, ho⟩, hle⟩ := hb
          cases h
          obtain ⟨cur, hb, hc, hn, hcs⟩ := HH.row hk hR
          have hv := cellsE_R hy ho
          rw [← cellsL_eq] at hv
          obtain ⟨inf, hi', hsz⟩ := sizeB_spec hs
          refine ⟨_, ?_, write_after HH hk hR hb hv (by omega) (Nat.le_refl _) hn⟩
          have h1 := run_storeCells_at P b off ty vy.cells.toList 0 cur w hb (by rw [hv.length]; omega) (onesE_spec hv ho)
          have h2 : ¬ vy.cells.size ≠ sz := by have := hv.length; simp at this; omega
          simp only [Nat.add_zero] at h1
          simp only [Instr.storeAt, Instr.sureAddr, storeVar, Sem.run_bind, Sem.run_pure, Result.andThen_ok, sizeOf, typeInfo]
          simp [hi', hsz] 
          have h3 : vy.cells.size = sz := by simpa using h2
          simp [h3, h1]
        · cases h
      · cases h
    · cases h
  · cases h

/-! ### New blocks -/
def newRowE (ty : TypeId) (l : List EV) : Blk := .row ty l.length (T.leaf.puts 0 l)
theorem new_BR {ty : TypeId} {l : List EV} {us rest : List Value} (hv : VRs R l us) : BR R (newRowE ty l) (us.length + rest.length) (some (.cells (us ++ rest).toArray ty (0, 0))) := by
  have hl := hv.length
  refine ⟨_, rfl, by simp, by omega, fun i x hx => ?_⟩
  rw [T.get_puts] at hx
  split at hx
  · rename_i hi
    obtain ⟨u, h1, h2⟩ := hv.get hx
    refine ⟨by omega, u, ?_, h2⟩
    simp only [List.getElem?_toArray]
    rw [List.getElem?_append_left (by omega)]
    simpa using h1
  · simp [T.get] at hx
theorem alloc_after {H : T Blk} {w w' : World} {id ty : Nat} {l : List EV} {us rest : List Value} (HH : HR R H.get w.heap) (hid : ∀ b c, ¬ R id b c) (hv : VRs R l us) (hw : w'.heap = w.heap.push (.cells (us ++ rest).toArray ty (0, 0))) (hs : SameW w w') :
    After id (id + 1) R H.get w (R.add id w.heap.size (us.length + rest.length)) (H.put id (newRowE ty l)).get w' := by
  have hsub : Rel.le R (R.add id w.heap.size (us.length + rest.length)) := fun _ _ _ h => .inl h
  have := HH.new (hp' := w'.heap) (c := us.length + rest.length) (B' := newRowE ty l) hid trivial (by rw [hw]; simp) (fun b' hb' => by rw [hw, Array.getElem?_push_lt hb']; simp [hb'])
    (by rw [hw]; simp only [Array.getElem?_push_size]; exact new_BR (hv.mono hsub))
  rw [get_put_upd]
  exact ⟨this.1, this.2, hs⟩
def zeroE (P : Program) (t : TypeId) : Option (List EV) := match P.info? t with
  | some i => match i.zero with
    | some z => ofVals (cellsL z)
    | none => none
  | none => none
def flat : List EV → Nat → List EV
  | _, 0 => []
  | l, n + 1 => l ++ flat l n
theorem flat_R {l : List EV} {vl : List Value} (h : VRs R l vl) : ∀ n : Nat, VRs R (flat l n) (List.flatten (List.replicate n vl))
  | 0 => rfl
  | n + 1 => by rw [List.replicate_succ, List.flatten_cons]; exact h.append (flat_R h n)
/-- A slice that is written out: its element type, an element's cells, its cells. -/
def rowE (P : Program) (t len : Nat) (parts : List (Nat × EV)) : Option (TypeId × Nat × List EV) := match P.underlying t with
  | some (.slice e) => match P.info? e with
    | some i => match i.zero with
      | some z => match ofVals (cellsL z) with
        | some zc => match Nat.beq zc.length i.size && Nat.ble (len * i.size) 65536 with
          | true => match fillE (fun j => some (j * i.size, i.size)) (flat zc len) parts with
            | some l => match Nat.beq l.length (len * i.size) with
              | true => some (e, i.size, l)
              | false => none
            | none => none
          | false => none
        | none => none
      | none => none
    | none => none
  | _ => none
theorem rowE_R {t len e sz : Nat} {parts : List (Nat × EV)} {vp : List (Nat × Value)} {l : List EV} (h : rowE P t len parts = some (e, sz, l)) (hp : PRs R parts vp) : ∃ vl, rowL P t len vp = some (e, vl) ∧ VRs R l vl ∧ l.length = len * sz := by
  unfold rowE at h
  unfold rowL
  split at h
  · rename_i e' hu
    split at h
    · rename_i i hi
      split at h
      · rename_i z hz
        split at h
        · rename_i zc hzc
          have hzr := ofVals_VR (R := R) hzc
          split at h
          · rename_i hb
            simp only [Bool.and_eq_true] at hb
            split at h
            · rename_i l' hl
              split at h
              · rename_i hlen
                cases h
                obtain ⟨vl, h1, h2⟩ := fillE_R hl (flat_R hzr len) hp
                refine ⟨vl, ?_, h2, by simpa using hlen⟩
                have : Nat.beq (cellsL z).length i.size = true := by rw [hzr.length]; exact hb.1
                simp only [hu, hi, hz, this, hb.2, h1]
              · cases h
            · cases h
          · cases h
        · cases h
      · cases h
    · cases h
  · cases h
/-- A type's zero, as a value. -/
def zeroV (P : Program) (t : TypeId) : Option EV := match P.info? t with
  | some i => match i.zero with
    | some z => match ofVal z with
      | some x => some x
      | none => match z with
        | .agg cs => match ofVals cs.toList with
          | some l => some (.agg l)
          | none => none
        | _ => none
    | none => none
  | none => none
theorem zeroV_R {t : TypeId} {x : EV} (h : zeroV P t = some x) : ∃ i z, P.info? t = some i ∧ i.zero = some z ∧ VR R x z := by
  unfold zeroV at h
  split at h
  · rename_i i hi
    split at h
    · rename_i z hz
      refine ⟨i, z, hi, hz, ?_⟩
      split at h
      · rename_i y hy
        cases h
        exact ofVal_VR hy
      · split at h
        · split at h
          · rename_i l hl
            cases h
            exact ⟨_, (by simp), ofVals_VR hl⟩
          · cases h
        · cases h
    · cases h
  · cases h
theorem zeros_eq {z : Value} {sz n : Nat} (h2 : z.cells.size = sz) : (Array.range (n * sz)).map (z.cells[· % z.cells.size]!) = (List.flatten (List.replicate n (cellsL z))).toArray := by
  apply Array.ext'
  apply List.ext_getElem?
  intro j
  simp only [List.toList_toArray]
  rw [flat_get, ← cellsL_eq]
  simp only [Array.length_toList, h2, Array.getElem?_toList]
  by_cases h : j < n * sz
  · have h5 : 0 < sz := by
      rcases Nat.eq_zero_or_pos sz with h6 | h6
      · rw [h6, Nat.mul_zero] at h; omega
      · exact h6
    have h6 : j % sz < z.cells.size := by rw [h2]; exact Nat.mod_lt _ h5
    simp [h, h6]
  · simp [h]
def newE (P : Program) (rd : Rd) (id : Nat) : Op → Option (EV × Blk)
  | .makeMap t none => match P.underlying t with
    | some (.map _ _) => some (.map id, .map [] 0)
    | _ => none
  | .range t x => match P.underlying t, rd x with
    | some .string, some (.str l) => some (.ptr id 0, .iter l 0)
    | _, _ => none
  | .convert s d x => match P.underlying s, P.underlying d, rd x with
    | some .string, some (.slice e), some (.str l) => match P.underlying e, Nat.ble l.length 1000000 with
      | some (.int .u8), true => some (.slc id 0 l.length 1 none, .ro l.length (T.leaf.puts 0 (l.map fun b => .int .u8 (.ofNat (b % 256)))))
      | _, _ => none
    | _, _, _ => none
  | .makeSlice t l c => match rd l, rd c with
    | some (.int .i64 (.ofNat a)), some (.int .i64 (.ofNat b)) => match elemB P t with
      | some (e, sz, bytes) => match zeroE P e, Nat.ble a b && Nat.ble b 65536 && Nat.ble bytes 65536 with
        | some zl, true => some (.slc id 0 a sz (some b), newRowE e (flat zl b))
        | _, _ => none
      | none => none
    | _, _ => none
  | .alloc t => match zeroE P t with
    | some l => some (.ptr id 0, newRowE t l)
    | none => none
  | .box t x => match rd x with
    | some v => match onesE (cellsE v) with
      | true => some (.ptr id 0, newRowE t (cellsE v))
      | false => none
    | none => none
  | .buildSlice t len ps => match rdParts rd ps.toList with
    | some parts => match rowE P t len parts with
      | some (e, sz, l) => some (.slc id 0 len sz (some len), newRowE e l)
      | none => none
    | none => none
  | _ => none
theorem newE_run {rd : Rd} {ρ : Operand → Value} {id : Nat} {o : Oper} {H : T Blk} {w : World} {v : EV} {B : Blk} (h : newE P rd id o.op = some (v, B)) (hr : RdR R rd ρ) (HH : HR R H.get w.heap) (hid : ∀ b c, ¬ R id b c) :
    ∃ c v' w', (execOp ρ o).run P w = .ok (.value v') w' ∧ VR (R.add id w.heap.size c) v v' ∧ After id (id + 1) R H.get w (R.add id w.heap.size c) (H.put id B).get w' := by
  obtain ⟨dst, op, ty, pos, aft, gd⟩ := o
  simp only at h
  unfold newE at h
  split at h
  · rename_i t
    split at h
    · rename_i kt et hu
      cases h
      refine ⟨0, .map (some w.heap.size), w.alloc (.map #[] 0), by simp [execOp, Instr.makeMap], ⟨_, _, .inr ⟨rfl, rfl, rfl⟩, rfl⟩, ?_⟩
      have := HH.new (hp' := (w.alloc (.map #[] 0)).heap) (c := 0) (B' := .map [] 0) hid trivial (by show w.heap.size < (w.heap.push _).size; simp) (fun b' hb' => by show (w.heap.push _)[b']? = _; rw [Array.getElem?_push_lt hb']; simp [hb'])
        (by show BR _ _ _ (w.heap.push _)[w.heap.size]?; simp only [Array.getElem?_push_size]; exact ⟨[], rfl, rfl, rfl, rfl⟩)
      rw [get_put_upd]
      exact ⟨this.1, this.2, ⟨rfl, rfl, rfl⟩⟩
    · cases h
  · rename_i t x
    split at h
    · rename_i l hu hx
      cases h
      have hx : ρ x = .string (bs l) := hr _ _ hx
      refine ⟨0, .pointer (some ⟨w.heap.size, 0, none⟩), w.alloc (.stringIter (bs l) 0), by simp [execOp, Instr.range, run_underlying hu, hx], ⟨_, _, .inr ⟨rfl, rfl, rfl⟩, rfl⟩, ?_⟩
      have := HH.new (hp' := (w.alloc (.stringIter (bs l) 0)).heap) (c := 0) (B' := .iter l 0) hid trivial (by show w.heap.size < (w.heap.push _).size; simp) (fun b' hb' => by show (w.heap.push _)[b']? = _; rw [Array.getElem?_push_lt hb']; simp [hb'])
        (by show BR _ _ _ (w.heap.push _)[w.heap.size]?; simp only [Array.getElem?_push_size]; rfl)
      rw [get_put_upd]
      exact ⟨this.1, this.2, ⟨rfl, rfl, rfl⟩⟩
    · cases h
  · rename_i sT dT x
    split at h
    · rename_i e l hs hd hx
      split at h
      · rename_i he hlen
        have hlen := Nat.le_of_ble_eq_true hlen
        cases h
        have hx : ρ x = .string (bs l) := hr _ _ hx
        have hrun := run_bytes_of_string (P := P) w sT dT e (bs l) hs hd he
        have hge := grownCap_ge w (bs l).size 0 e
        have hbr : (bytesRow (bs l) (grownCap w (bs l).size 0 e)).size = grownCap w (bs l).size 0 e := by
          have : (bs l).data.size = (bs l).size := rfl
          simp [bytesRow]
          omega
        rw [hbr] at hrun
        have hget : ∀ i x, (T.leaf.puts 0 (l.map fun b => EV.int .u8 (.ofNat (b % 256)))).get i = some x → ∃ u, (bytesRow (bs l) (grownCap w (bs l).size 0 e))[i]? = some u ∧ x = .int .u8 (.ofNat (l.getD i 0 % 256)) ∧ u = .int .u8 ((l.getD i 0 % 256 : Nat) : Int) := fun i x hx => by
          rw [T.get_puts] at hx
          split at hx
          · rename_i hi
            have hi : i < l.length := by simpa using hi.2
            simp only [Nat.sub_zero, List.getElem?_map, List.getElem?_eq_getElem hi, Option.map_some, Option.some.injEq] at hx
            have hD : l.getD i 0 = l[i] := by simp [hi]
            refine ⟨_, ?_, by rw [hD, ← hx], rfl⟩
            unfold bytesRow
            rw [Array.getElem?_append_left (by rw [Array.size_map]; show i < (bs l).data.size; have : (bs l).data.size = (bs l).size := rfl; rw [this, bs_size]; exact hi)]
            rw [Array.getElem?_map]
            have h3 : (bs l).data[i]? = some (UInt8.ofNat l[i]) := by
              show ((l.map UInt8.ofNat).toArray)[i]? = _
              simp [hi]
            rw [h3, hD]
            simp
          · simp [T.get] at hx
        refine ⟨grownCap w (bs l).size 0 e, .slice (some ⟨w.heap.size, 0, none⟩) (bs l).size (grownCap w (bs l).size 0 e), _, by simp only [execOp, hx]; exact run_v hrun, ?_, ?_⟩
        · rw [bs_size]
          rw [bs_size] at hge
          exact ⟨w.heap.size, _, grownCap w l.length 0 e, .inr ⟨rfl, rfl, rfl⟩, rfl, hge, by omega, (fun _ => by omega), fun x hx => by cases hx⟩
        · have := HH.new (hp' := (w.drew.alloc (.cells (bytesRow (bs l) (grownCap w (bs l).size 0 e)) e (grownCap w (bs l).size 0 e, grownCap w (bs l).size 0 e + 1))).heap) (c := grownCap w (bs l).size 0 e) (B' := .ro l.length (T.leaf.puts 0 (l.map fun b => .int .u8 (.ofNat (b % 256))))) hid trivial
            (by show w.heap.size < (w.heap.push _).size; simp) (fun b' hb' => by show (w.heap.push _)[b']? = _; rw [Array.getElem?_push_lt hb']; simp [hb'])
            (by show BR _ _ _ (w.heap.push _)[w.heap.size]?
                simp only [Array.getElem?_push_size]
                refine ⟨_, _, _, rfl, hbr, by rw [bs_size] at hge ⊢; exact hge, fun i x hx => ?_⟩
                obtain ⟨u, h1, h2, h3⟩ := hget i x hx
                exact ⟨u, h1, by rw [h2, h3]; exact rfl⟩)
          rw [get_put_upd]
          exact ⟨this.1, this.2, ⟨rfl, rfl, rfl⟩⟩
      · cases h
    · cases h
  · rename_i t l c
    split at h
    · rename_i a b ha hb
      have ha : ρ l = .int .i64 (a : Int) := hr _ _ ha
      have hb : ρ c = .int .i64 (b : Int) := hr _ _ hb
      split at h
      · rename_i e sz bytes he
        obtain ⟨i, z, hu, hi, hz, hsz, hby, hzs, hpos⟩ := elemB_spec he
        split at h
        · rename_i zl hzl hbd
          simp only [Bool.and_eq_true, Nat.ble_eq] at hbd
          obtain ⟨⟨hab, hb65⟩, hb1⟩ := hbd
          cases h
          have hv : VRs R zl (cellsL z) := by
            unfold zeroE at hzl
            simp only [hi, hz] at hzl
            exact ofVals_VR hzl
          have hlen : (List.flatten (List.replicate b (cellsL z))).length = b * sz := by
            have : (cellsL z).length = sz := by rw [← cellsL_eq]; simpa using hzs
            simp [this]
          refine ⟨(List.flatten (List.replicate b (cellsL z))).length + 0, .slice (some ⟨w.heap.size, 0, none⟩) a b, w.alloc (.cells (List.flatten (List.replicate b (cellsL z))).toArray e), ?_, ?_, alloc_after (rest := []) HH hid (flat_R hv b) (by rw [List.append_nil]; rfl) ⟨rfl, rfl, rfl⟩⟩
          · have w1 : IntKind.i64.wrap (a : Int) = a := wrap_in ⟨by omega, by omega⟩
            have w2 : IntKind.i64.wrap (b : Int) = b := wrap_in ⟨by omega, by omega⟩
            have hbytes : i.bytes * b ≤ 4294967296 := Nat.le_trans (Nat.mul_le_mul (hby ▸ hb1) hb65) (by decide)
            have hbig : ¬ (281474976710656 : Int) < (i.bytes : Int) * (b : Int) := by
              have : ((i.bytes * b : Nat) : Int) ≤ 4294967296 := by omega
              push_cast at this
              omega
            have hroom : ¬ roomBytes < b * i.bytes := by
              rw [Nat.mul_comm]
              have : roomBytes = 140737488355328 := rfl
              omega
            have h0 : ¬ (b : Int) < 0 := by omega
            have h1 : ¬ (a : Int) < 0 := by omega
            have h2 : ¬ (b : Int) < (a : Int) := by omega
            have h3 : ¬ b < a := by omega
            simp only [execOp, ha, hb]
            refine run_v ?_
            have hz2 := zeros_eq (n := b) hzs
            by_cases hn : b * sz = 0
            · have hb0 : b = 0 := by
                rcases Nat.eq_zero_or_pos b with h | h
                · exact h
                · have := Nat.mul_pos h hpos; omega
              subst hb0
              have ha0 : a = 0 := by omega
              subst ha0
              have w0 : IntKind.i64.wrap 0 = 0 := by decide
              simp [Instr.makeSlice, run_underlying hu, asInt, asIntOf, typeInfo, hi, w0, askRoom, sizeOf, newRow, Array.range_zero', roomBytes]
            · simp [Instr.makeSlice, run_underlying hu, asInt, asIntOf, typeInfo, hi, w1, w2, h0, h1, h3, hbig, askRoom, hroom, sizeOf, hsz, hn, zeroValue, hz, newRow]
              rw [← hz2]
          · exact ⟨w.heap.size, _, b, .inr ⟨rfl, rfl, rfl⟩, rfl, hab, by rw [hlen]; omega, (fun h => by cases h), fun x hx => by cases hx; rfl⟩
        · cases h
      · cases h
    · cases h
  · rename_i t
    split at h
    · rename_i l hl
      cases h
      unfold zeroE at hl
      split at hl
      · rename_i i hi
        split at hl
        · rename_i z hz
          have hv := ofVals_VR (R := R) hl
          refine ⟨_, .pointer (some ⟨w.heap.size, 0, none⟩), w.alloc (.cells (cellsL z).toArray t), ?_, ?_, alloc_after (rest := []) HH hid hv (by rw [List.append_nil]; rfl) ⟨rfl, rfl, rfl⟩⟩
          · have h1 : (cellsL z).toArray = z.cells := by rw [← cellsL_eq]
            simp [execOp, Instr.alloc, zeroValue, typeInfo, hi, hz, run_newVar', h1]
          · exact ⟨_, _, .inr ⟨rfl, rfl, rfl⟩, rfl⟩
        · cases hl
      · cases hl
    · cases h
  · rename_i t x
    split at h
    · rename_i u hu
      split at h
      · rename_i ho
        cases h
        have hv := cellsE_R (hr _ _ hu) ho
        refine ⟨_, .pointer (some ⟨w.heap.size, 0, none⟩), w.alloc (.cells (cellsL (ρ x)).toArray t), ?_, ?_, alloc_after (rest := []) HH hid hv (by rw [List.append_nil]; rfl) ⟨rfl, rfl, rfl⟩⟩
        · have h1 : (cellsL (ρ x)).toArray = (ρ x).cells := by rw [← cellsL_eq]
          simp [execOp, Instr.box, run_newVar', h1]
        · exact ⟨_, _, .inr ⟨rfl, rfl, rfl⟩, rfl⟩
      · cases h
    · cases h
  · rename_i t len ps
    split at h
    · rename_i parts hp
      split at h
      · rename_i e sz l hl
        cases h
        have hpr := rdParts_R hr hp
        obtain ⟨vl, h1, h2, h3⟩ := rowE_R hl hpr
        refine ⟨vl.length + 0, .slice (some ⟨w.heap.size, 0, none⟩) len len, w.alloc (.cells vl.toArray e), ?_, ?_, alloc_after (rest := []) HH hid h2 (by rw [List.append_nil]; rfl) ⟨rfl, rfl, rfl⟩⟩
        · have := run_rowL (P := P) (t := t) (len := len) h1 w
          have h4 : (ps.map fun (i, x) => (i, ρ x)) = (ps.toList.map fun (i, x) => (i, ρ x)).toArray := by apply Array.toList_inj.1; simp
          simp only [execOp, h4]
          exact run_v this
        · have := h2.length
          refine ⟨w.heap.size, vl.length + 0, len, .inr ⟨rfl, rfl, rfl⟩, rfl, Nat.le_refl _, by omega, (fun h => by cases h), fun x hx => by cases hx; rfl⟩
      · cases h
    · cases h
  · cases h
end
end Go.Proofs.YtafochlcnjeanaaGreat.E
