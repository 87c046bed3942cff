/- New variables: rows, structs, their addresses; what is appended to an own row. For whatever program. -/
import Derived.Test.YtjnineeeffecaaaX5
import Derived.Test.YtjnineeeffecaaaX6
import Derived.Laws.MakeOwn
import Derived.Laws.Tables
namespace Go.Proofs.Ytjnineeeffecaaa.X
open Go Go.RowKit

/-! ### Cells, told one by one -/
def cellsL : Value → List Value
  | .agg cs => cs.toList
  | v => [v]
theorem cellsL_eq (v : Value) : v.cells.toList = cellsL v := by cases v <;> rfl
/-- Where a row is laid over another one, from a place on. -/
def layL : List Value → Nat → List Value → Option (List Value)
  | l, 0, [] => some l
  | [], _, _ => none
  | _ :: l, 0, u :: us => match layL l 0 us with
    | some l' => some (u :: l')
    | none => none
  | v :: l, k + 1, us => match layL l k us with
    | some l' => some (v :: l')
    | none => none
theorem layL_eq : ∀ {l l' : List Value} {k : Nat} {us : List Value}, layL l k us = some l' → k + us.length ≤ l.length ∧ l' = l.take k ++ us ++ l.drop (k + us.length)
  | l, l', 0, [], h => by
    cases l <;> (simp only [layL] at h; cases h; simp)
  | [], l', 0, u :: us, h => by cases h
  | [], l', k + 1, us, h => by cases us <;> cases h
  | v :: l, l', 0, u :: us, h => by
    simp only [layL] at h
    split at h
    · rename_i l2 h2
      cases h
      obtain ⟨h3, rfl⟩ := layL_eq h2
      simp only [List.length_cons]
      exact ⟨by omega, by simp⟩
    · cases h
  | v :: l, l', k + 1, us, h => by
    have h : (match layL l k us with | some l' => some (v :: l') | none => none) = some l' := by cases us <;> exact h
    split at h
    · rename_i l2 h2
      cases h
      obtain ⟨h3, rfl⟩ := layL_eq h2
      simp only [List.length_cons]
      exact ⟨by omega, by rw [show k + 1 + us.length = (k + us.length) + 1 by omega]; simp⟩
    · cases h
theorem fold_lay : ∀ (us : List Value) (j off : Nat) (cells : Array Value), off + j + us.length ≤ cells.size →
    ((us.zipIdx j).foldl (fun cs (c, j) => cs.setIfInBounds (off + j) c) cells).toList = cells.toList.take (off + j) ++ us ++ cells.toList.drop (off + j + us.length)
  | [], j, off, cells, h => by simp
  | u :: us, j, off, cells, h => by
    simp only [List.zipIdx_cons, List.foldl_cons]
    simp only [List.length_cons] at h
    rw [fold_lay us (j + 1) off _ (by simp; omega)]
    have hlt : off + j < cells.size := by omega
    have hlt' : off + j < cells.toList.length := by simpa using hlt
    simp only [Array.toList_setIfInBounds, List.length_cons]
    rw [show off + (j + 1) = off + j + 1 by omega, List.take_add_one, List.take_set, List.drop_set, if_pos (by omega)]
    rw [List.set_eq_of_length_le (by simp; omega)]
    rw [List.getElem?_set_self hlt']
    rw [show off + j + 1 + us.length = off + j + (us.length + 1) by omega]
    simp
/-- The same list, told by itself. -/
def nf : List Value → Option (List Value)
  | [] => some []
  | v :: l => match nf l with
    | some l' => some (v :: l')
    | none => none
theorem nf_eq : ∀ {l l' : List Value}, nf l = some l' → l' = l
  | [], l', h => by simp only [nf] at h; cases h; rfl
  | v :: l, l', h => by
    simp only [nf] at h
    split at h
    · rename_i l2 h2
      cases h
      rw [nf_eq h2]
    · cases h
def fillL (place : Nat → Option (Nat × Nat)) : List Value → List (Nat × Value) → Option (List Value)
  | cells, [] => nf cells
  | cells, (i, v) :: rest => match place i with
    | none => none
    | some (off, size) => match Nat.beq (cellsL v).length size with
      | true => match layL cells off (cellsL v) with
        | some c' => fillL place c' rest
        | none => none
      | false => none
theorem fillL_eq {place : Nat → Option (Nat × Nat)} : ∀ {cells l' : List Value} {parts : List (Nat × Value)}, fillL place cells parts = some l' → Instr.fill place cells.toArray parts = some l'.toArray
  | cells, l', [], h => by simp only [fillL] at h; rw [nf_eq h]; rfl
  | cells, l', (i, v) :: rest, h => by
    simp only [fillL] at h
    split at h
    · cases h
    · rename_i off size hp
      split at h
      · rename_i hs
        split at h
        · rename_i c' hc
          obtain ⟨h1, h2⟩ := layL_eq hc
          have hs2 : v.cells.size = size := by
            have := Nat.eq_of_beq_eq_true hs
            rw [← cellsL_eq] at this
            simpa using this
          have h3 : off + v.cells.size ≤ cells.length := by rw [← cellsL_eq] at h1; simpa using h1
          unfold Instr.fill
          simp only [hp, hs2]
          have h4 : (v.cells.zipIdx.foldl (fun cs (c, j) => cs.setIfInBounds (off + j) c) cells.toArray) = c'.toArray := by
            apply Array.toList_inj.1
            rw [← Array.foldl_toList, Array.toList_zipIdx]
            have := fold_lay v.cells.toList 0 off cells.toArray (by simpa using h3)
            rw [this, h2, cellsL_eq]
            simp
          rw [if_neg (by simp; omega), h4]
          exact fillL_eq h
        · cases h
      · cases h

section
variable {P : Program} {n : Nat} {Q : Post} {ρ : Env} {ds : List Deferred} {A : World → Prop} {ops : Array Oper} {rest : List Oper} {o : Oper} {d q : Nat} {c : Cx} {L L' : List SP} {Φ : List FP}

/-! ### Structs by value -/
def placesL (P : Program) : List Field → Option (List (Nat × Nat))
  | [] => some []
  | f :: fs => match P.info? f.type, placesL P fs with
    | some i, some l => some ((numeral f.offset, numeral i.size) :: l)
    | _, _ => none
theorem placesL_eq : ∀ {fs : List Field} {l : List (Nat × Nat)}, placesL P fs = some l → fs.mapM (fun f => (P.info? f.type).map fun i => (f.offset, i.size)) = some l
  | [], l, h => by simp only [placesL] at h; cases h; rfl
  | f :: fs, l, h => by
    simp only [placesL] at h
    split at h
    · rename_i i l2 h1 h2
      cases h
      simp [h1, placesL_eq h2, numeral_eq]
    · cases h
def builtL (P : Program) (t : TypeId) (parts : List (Nat × Value)) : Option (List Value) :=
  match P.info? t with
  | some it => match it.zero, P.underlying t with
    | some z, some (.struct fs) => match placesL P fs.toList with
      | some places => fillL (places[·]?) (cellsL z) parts
      | none => none
    | some z, some (.array _ e) => match P.info? e with
      | some ie => fillL (fun i => some (i * ie.size, ie.size)) (cellsL z) parts
      | none => none
    | _, _ => none
  | none => none
theorem builtL_eq {t : TypeId} {parts : List (Nat × Value)} {l : List Value} (h : builtL P t parts = some l) : P.built t parts = some l.toArray := by
  unfold builtL at h
  unfold Program.built
  split at h
  · rename_i it hi
    split at h
    · rename_i z fs hz hu
      split at h
      · rename_i places hp
        simp only [hi, hu, hz, placesL_eq hp]
        rw [← cellsL_eq] at h
        have := fillL_eq h
        simpa using this
      · cases h
    · rename_i z m e hz hu
      split at h
      · rename_i ie he
        simp only [hi, hu, hz, he]
        rw [← cellsL_eq] at h
        have := fillL_eq h
        simpa using this
      · cases h
    · cases h
  · cases h
def partsE (ρ : Env) : List (Nat × Operand) → Option (List (Nat × Value))
  | [] => some []
  | (i, x) :: l => match evE ρ x, partsE ρ l with
    | some v, some vs => some ((i, v) :: vs)
    | _, _ => none
theorem Agree.parts {ρ : Env} {σ : Slots} (h : Agree ρ σ) : ∀ {l : List (Nat × Operand)} {vs : List (Nat × Value)}, partsE ρ l = some vs → l.map (fun (i, x) => (i, ev σ x)) = vs
  | [], vs, he => by simp [partsE] at he; simp [he]
  | (i, x) :: l, vs, he => by
    simp only [partsE] at he
    split at he
    · rename_i v vs' h1 h2
      cases he
      have := h.parts h2
      simp [h.val h1, this]
    · cases he
theorem Agree.partsA {ρ : Env} {σ : Slots} (h : Agree ρ σ) {ps : Array (Nat × Operand)} {vs : List (Nat × Value)} (he : partsE ρ ps.toList = some vs) : ps.map (fun (i, x) => (i, ev σ x)) = vs.toArray := by
  apply Array.toList_inj.1
  have := h.parts he
  simpa using this
theorem XL.build {t : TypeId} {ps : Array (Nat × Operand)} {parts : List (Nat × Value)} {l : List Value} (hop : o.op = .build t ps) (hd : o.dst = some d) (hn : Nat.blt d n = true) (hw : wantB ops ρ o = some true)
    (hp : partsE ρ ps.toList = some parts) (hb : builtL P t parts = some l) (k : XL P n ops Q (q - 1) rest ((d, .agg l.toArray) :: ρ) ds A) : XL P n ops Q q (o :: rest) ρ ds A :=
  XL.run (d := some d) hd hn hw (fun σ w hσ _ => by
    unfold execOp
    rw [hop]
    simp only [hσ.partsA hp]
    exact run_v (run_build w t _ _ (by simpa using builtL_eq hb))) k

/-! ### New blocks -/
/-- An operation that makes one block. -/
theorem XL.new {v : Nat → Value} {ob : Obj} (hd : o.dst = some d) (hn : Nat.blt d n = true) (hw : wantB ops ρ o = some true)
    (hr : ∀ σ w, Agree ρ σ → St c L Φ w → (execOp (ev σ) o).run P w = .ok (.value (v w.heap.size)) (w.alloc ob))
    (k : ∀ b, XL P n ops Q 0 rest ((d, v b) :: ρ) ds (St c (blk b ob :: L) Φ)) : XL P n ops Q 0 (o :: rest) ρ ds (St c L Φ) :=
  XL.eff (α := Nat) (v := v) (B := fun b w => St c (blk b ob :: L) Φ w) (d := some d) hd hn hw (fun σ w hσ hA => ⟨w.heap.size, _, hr σ w hσ hA, hA.alloc ob⟩) k
def zeroB (P : Program) (t : TypeId) : Option (List Value) := match P.info? t with
  | some i => match i.zero with
    | some z => some (cellsL z)
    | none => none
  | none => none
theorem run_newVar' (t : TypeId) (v : Value) (w : World) : (newVar t v).run P w = .ok ⟨w.heap.size, 0, none⟩ (w.alloc (.cells v.cells t)) := by
  simp [newVar, newRow]
/-- A struct's (or other value's) own variable. -/
theorem XL.box {t : TypeId} {x : Operand} {v : Value} {l : List Value} (hop : o.op = .box t x) (hd : o.dst = some d) (hn : Nat.blt d n = true) (hw : wantB ops ρ o = some true) (hx : evE ρ x = some v) (hl : cellsL v = l)
    (k : ∀ b, XL P n ops Q 0 rest ((d, .pointer (some ⟨b, 0, none⟩)) :: ρ) ds (St c (cel b l.toArray t :: L) Φ)) : XL P n ops Q 0 (o :: rest) ρ ds (St c L Φ) :=
  XL.new (v := fun b => .pointer (some ⟨b, 0, none⟩)) (ob := .cells l.toArray t (0, 0)) hd hn hw (fun σ w hσ _ => by
    unfold execOp
    rw [hop]
    simp only [hσ.val hx]
    refine run_v ?_
    have h1 : l.toArray = v.cells := by rw [← hl, ← cellsL_eq]
    simp [Instr.box, run_newVar', h1]) k
theorem XL.boxA {t : TypeId} {x : Operand} {l : List Value} (hop : o.op = .box t x) (hd : o.dst = some d) (hn : Nat.blt d n = true) (hw : wantB ops ρ o = some true) (hx : evE ρ x = some (.agg l.toArray))
    (k : ∀ b, XL P n ops Q 0 rest ((d, .pointer (some ⟨b, 0, none⟩)) :: ρ) ds (St c (cel b l.toArray t :: L) Φ)) : XL P n ops Q 0 (o :: rest) ρ ds (St c L Φ) := XL.box hop hd hn hw hx rfl k
/-- A new variable of a type's zero. -/
theorem XL.var {t : TypeId} {l : List Value} (hop : o.op = .alloc t) (hd : o.dst = some d) (hn : Nat.blt d n = true) (hw : wantB ops ρ o = some true) (hl : zeroB P t = some l)
    (k : ∀ b, XL P n ops Q 0 rest ((d, .pointer (some ⟨b, 0, none⟩)) :: ρ) ds (St c (cel b l.toArray t :: L) Φ)) : XL P n ops Q 0 (o :: rest) ρ ds (St c L Φ) :=
  XL.new (v := fun b => .pointer (some ⟨b, 0, none⟩)) (ob := .cells l.toArray t (0, 0)) hd hn hw (fun σ w hσ _ => by
    unfold zeroB at hl
    split at hl
    · rename_i i hi
      split at hl
      · rename_i z hz
        cases hl
        unfold execOp
        rw [hop]
        refine run_v ?_
        simp [Instr.alloc, zeroValue, typeInfo, hi, hz, run_newVar', ← cellsL_eq]
      · cases hl
    · cases hl) k
/-- Rows of elements of one cell each. -/
def rowB (P : Program) (t : TypeId) : Option (TypeId × Value × Nat) := match P.underlying t with
  | some (.slice e) => match P.info? e with
    | some i => match i.zero with
      | some (.agg _) => none
      | some z => match i.size, i.bytes with
        | 1, 0 => some (e, z, 0)
        | 1, m + 1 => some (e, z, m + 1)
        | _, _ => none
      | none => none
    | none => none
  | _ => none
theorem rowB_spec {t e : TypeId} {z : Value} {m : Nat} (h : rowB P t = some (e, z, m)) : ∃ i, P.underlying t = some (.slice e) ∧ P.info? e = some i ∧ i.zero = some z ∧ i.size = 1 ∧ i.bytes = m ∧ z.cells = #[z] := by
  unfold rowB at h
  split at h
  · rename_i e' hu
    split at h
    · rename_i i hi
      split at h
      · cases h
      · rename_i z' hna hz
        have hc : z'.cells = #[z'] := by cases z' <;> first | rfl | exact absurd rfl (hna _)
        split at h
        · rename_i hs hb
          cases h
          exact ⟨i, hu, hi, hz, hs, hb, hc⟩
        · rename_i hs hb
          cases h
          exact ⟨i, hu, hi, hz, hs, hb, hc⟩
        · cases h
      · cases h
    · cases h
  · cases h
theorem XL.makeRow {t e : TypeId} {x : Operand} {z : Value} {m k0 : Nat} {kd : IntKind} (hop : o.op = .makeSlice t x x) (hd : o.dst = some d) (hn : Nat.blt d n = true) (hw : wantB ops ρ o = some true) (hx : evE ρ x = some (.int kd (k0 : Int)))
    (hb : rowB P t = some (e, z, m)) (hm : Nat.ble m 1024 = true) (hk : k0 ≤ 274877906944)
    (k : ∀ b, XL P n ops Q 0 rest ((d, .slice (some ⟨b, 0, none⟩) k0 k0) :: ρ) ds (St c (cel b (Array.replicate k0 z) e :: L) Φ)) : XL P n ops Q 0 (o :: rest) ρ ds (St c L Φ) := by
  obtain ⟨i, hu, hi, hz, hs, hby, hc⟩ := rowB_spec hb
  clear hb
  refine XL.new (v := fun b => .slice (some ⟨b, 0, none⟩) k0 k0) (ob := .cells (Array.replicate k0 z) e (0, 0)) hd hn hw (fun σ w hσ _ => ?_) k
  unfold execOp
  rw [hop]
  simp only [hσ.val hx]
  refine run_v ?_
  have := run_make (P := P) w t e i z hu hi hz kd kd (k0 : Int) (k0 : Int) (Int.natCast_nonneg _) (Int.le_refl _) (by
    rw [hby]
    have h1 := Nat.le_of_ble_eq_true hm
    have h2 : m * k0 ≤ 1024 * 274877906944 := Nat.mul_le_mul h1 hk
    exact Int.ofNat_le.2 (by omega)) (Int.le_trans (Int.ofNat_le.2 hk) (by decide))
  rw [this]
  have h2 : madeCells z.cells ((k0 : Int).toNat * i.size) = Array.replicate k0 z := by
    rw [hs, hc]
    apply Array.ext
    · simp [size_madeCells]
    · intro j h1 h2
      simp [madeCells, Nat.mod_one]
  rw [h2]
  simp
end
end Go.Proofs.Ytjnineeeffecaaa.X
