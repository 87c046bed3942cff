/- How many constraints of a kind there are. -/
import Derived.Test.YtafochlcnjeanaaGreatG11
namespace Go.Proofs.YtafochlcnjeanaaGreat
open Go X
/-- As much as the first ones weigh. -/
def wsum {α : Type} (w : α → Nat) (l : List α) (i : Nat) : Nat := ((l.take i).map w).sum
theorem wsum_zero {α : Type} (w : α → Nat) (l : List α) : wsum w l 0 = 0 := by simp [wsum]
theorem wsum_succ {α : Type} {w : α → Nat} {l : List α} {i : Nat} {x : α} (h : l[i]? = some x) : wsum w l (i + 1) = wsum w l i + w x := by
  unfold wsum
  rw [List.take_add_one, h]
  simp
theorem wsum_le {α : Type} {w : α → Nat} {l : List α} {m : Nat} (h : ∀ x ∈ l, w x ≤ m) : ∀ i, i ≤ l.length → wsum w l i ≤ i * m := by
  intro i
  induction i with
  | zero => intro _; simp [wsum_zero]
  | succ i ih =>
    intro hi
    have hx : l[i]? = some l[i] := List.getElem?_eq_getElem (by omega)
    rw [wsum_succ hx, Nat.add_mul]
    have := h _ (List.getElem_mem (show i < l.length by omega))
    have := ih (by omega)
    omega
theorem countP_parts {α β : Type} {f : Nat → α → List β} {q : β → Bool} {w : α → Nat} {l : List α} (h : ∀ i x, l[i]? = some x → (f i x).countP q = w x) : ∀ i, i ≤ l.length → (parts f l i).countP q = wsum w l i := by
  intro i
  induction i with
  | zero => intro _; simp [parts_zero, wsum_zero]
  | succ i ih =>
    intro hi
    have hx : l[i]? = some l[i] := List.getElem?_eq_getElem (by omega)
    rw [parts_succ hx, wsum_succ hx, List.countP_append, ih (by omega), h i _ hx]
/-- Of a kind. -/
def isK (k : Int) (P : ConP) : Bool := decide (P.kind = k)
/-- A function's weight. -/
def fsum (w : InsnM → Nat) (F : FnM) : Nat := wsum w F.codeL F.codeL.length
theorem count_genS {p : ProgM} {k : Int} {w : InsnM → Nat} (h : ∀ F ∈ p.fnL, ∀ I ∈ F.codeL, ∀ fn, (insnS p fn I).countP (isK k) = w I) : (genS p).countP (isK k) = wsum (fsum w) p.fnL p.fnL.length := by
  unfold genS
  rw [← parts_all]
  refine countP_parts (fun i F hF => ?_) _ (Nat.le_refl _)
  unfold consF
  rw [← parts_all]
  refine (countP_parts (w := w) (fun j I hI => ?_) _ (Nat.le_refl _)).trans rfl
  rw [consI, List.countP_map]
  exact h F (List.mem_of_getElem? hF) I (List.mem_of_getElem? hI) i
theorem fsum_le {p : ProgM} (hp : p.OK) {w : InsnM → Nat} {m : Nat} (h : ∀ F ∈ p.fnL, ∀ I ∈ F.codeL, w I ≤ m) : ∀ F ∈ p.fnL, fsum w F ≤ 4000 * m := fun F hF =>
  Nat.le_trans (wsum_le (h F hF) _ (Nat.le_refl _)) (Nat.mul_le_mul_right _ (hp.code F hF))
/-- Calls by a pointer; bases; copies. -/
def w8 (I : InsnM) : Nat := if I.op = 16 then 1 else 0
def w1 (I : InsnM) : Nat := if I.op = 2 ∨ I.op = 13 then 1 else 0
def w2 (I : InsnM) : Nat := (if I.op = 19 ∧ 0 ≤ I.a ∨ I.op = 7 ∧ ¬ I.w = 4 then 1 else 0) + (if I.op = 15 then 1 + I.argL.length else 0)
theorem count_ite {c : Prop} [Decidable c] {a b : List ConP} {q : ConP → Bool} {n : Nat} (h1 : c → a.countP q = n) (h2 : ¬ c → b.countP q = n) : (if c then a else b).countP q = n := by
  split
  · exact h1 ‹_›
  · exact h2 ‹_›
theorem count8 {p : ProgM} {fn : Nat} {I : InsnM} : (insnS p fn I).countP (isK 8) = w8 I := by
  unfold insnS w8
  dsimp only
  repeat' (refine count_ite (fun _ => ?_) (fun _ => ?_))
  all_goals first
    | (simp [isK, *]; done)
    | (rw [List.countP_append, List.countP_eq_zero.2 (fun P hP => by obtain ⟨i, hi, rfl⟩ := List.mem_mapIdx.1 hP; simp [isK])]; simp [isK, *]; done)
    | (simp [isK, *]; omega)
theorem count1 {p : ProgM} {fn : Nat} {I : InsnM} : (insnS p fn I).countP (isK 1) = w1 I := by
  unfold insnS w1
  dsimp only
  repeat' (refine count_ite (fun _ => ?_) (fun _ => ?_))
  all_goals first
    | (simp [isK, *]; done)
    | (rw [List.countP_append, List.countP_eq_zero.2 (fun P hP => by obtain ⟨i, hi, rfl⟩ := List.mem_mapIdx.1 hP; simp [isK])]; simp [isK, *]; done)
    | (simp [isK, *]; omega)
theorem count2 {p : ProgM} {fn : Nat} {I : InsnM} (hI : okI p I) : (insnS p fn I).countP (isK 2) = w2 I := by
  have h7 := hI.2.1
  unfold insnS w2
  dsimp only
  repeat' (refine count_ite (fun _ => ?_) (fun _ => ?_))
  all_goals first
    | (simp [isK, *]; done)
    | (rw [List.countP_append, List.countP_eq_length.2 (fun P hP => by obtain ⟨i, hi, rfl⟩ := List.mem_mapIdx.1 hP; simp [isK])]; simp [isK, *]; omega)
    | (have h9 := h7 (by assumption); rcases h9 with h9 | h9 | h9 <;> simp [isK, *] at * <;> done)
    | (simp [isK, *]; omega)
end Go.Proofs.YtafochlcnjeanaaGreat
