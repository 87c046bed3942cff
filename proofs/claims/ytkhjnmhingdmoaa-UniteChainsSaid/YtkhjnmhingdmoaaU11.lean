/- The plain laws of numbers that are put together: how many groups, their sizes, whatever the order. -/
import Derived.Test.YtkhjnmhingdmoaaU6
namespace Go.Proofs.Ytkhjnmhingdmoaa
open Go X U
/-- Lists of least numbers that may be. -/
def Good (n : Nat) (G : List Nat) : Prop := ∃ up sz ls cnt, UF n up sz ls cnt G
def cnt (n : Nat) (G : List Nat) : Nat := (List.range n).countP (fun i => G.getD i 0 == i)
theorem Good.new (n : Nat) : Good n (List.range n) := ⟨_, _, _, _, UF.new n⟩
theorem Good.rep {n : Nat} {G : List Nat} (h : Good n G) {i : Nat} (hi : i < n) : G.getD i 0 ≤ i ∧ G.getD (G.getD i 0) 0 = G.getD i 0 := by
  obtain ⟨_, _, _, _, h⟩ := h
  exact h.rep i hi
theorem Good.len {n : Nat} {G : List Nat} (h : Good n G) : G.length = n := by
  obtain ⟨_, _, _, _, h⟩ := h
  exact h.lL
theorem Good.step {n : Nat} {G : List Nat} (h : Good n G) (a b : Int) : Good n (joined n G a b) ∧ (joins n G a b = true → cnt n (joined n G a b) + 1 = cnt n G) := by
  by_cases hj : joins n G a b = true
  · have hd := of_decide_eq_true hj
    obtain ⟨up, sz, ls, c, h⟩ := h
    obtain ⟨dep, f⟩ := h.forest
    have hu := h.lu
    obtain ⟨r, hr⟩ := f.ex a.toNat (by omega)
    obtain ⟨s, hs⟩ := f.ex b.toNat (by omega)
    have hne : r ≠ s := fun e => hd.2.2.2.2 ((h.same _ _ _ _ (by omega) (by omega) hr hs).2 e)
    have h2 := h.join (by omega) (by omega) hr hs hne
    have e : joined n G a b = U.join G (G.getD a.toNat 0) (G.getD b.toNat 0) := by rw [joined, if_pos hj]
    rw [e]
    refine ⟨⟨_, _, _, _, h2⟩, fun _ => ?_⟩
    have h3 := h2.many
    have h4 := h.many
    have h5 : 0 < c := by
      rw [h4]
      refine List.countP_pos_iff.2 ⟨G.getD a.toNat 0, ?_, ?_⟩
      · have := (h.rep a.toNat (by omega)).1
        exact List.mem_range.2 (by omega)
      · rw [(h.rep a.toNat (by omega)).2]; exact beq_self_eq_true _
    unfold cnt
    omega
  · have e : joined n G a b = G := by rw [joined, if_neg hj]
    rw [e]
    exact ⟨h, fun h1 => absurd h1 hj⟩
/-- What Find tells. -/
def fnd (n : Nat) (G : List Nat) (i : Int) : Int := if 0 ≤ i ∧ i < n then ((G.getD i.toNat 0 : Nat) : Int) else -1
theorem fnd_joins {n : Nat} {G : List Nat} {a b : Int} : (joins n G a b = true ∧ 0 ≤ fnd n G a ∧ 0 ≤ fnd n G b ∧ fnd n G a ≠ fnd n G b) ∨ (joins n G a b = false ∧ (fnd n G a < 0 ∨ fnd n G b < 0 ∨ fnd n G a = fnd n G b)) := by
  by_cases hj : joins n G a b = true
  · have hd := of_decide_eq_true hj
    refine .inl ⟨hj, ?_⟩
    unfold fnd
    rw [if_pos (by omega), if_pos (by omega)]
    omega
  · refine .inr ⟨by simpa using hj, ?_⟩
    have hd : ¬ (0 ≤ a ∧ a < n ∧ 0 ≤ b ∧ b < n ∧ G.getD a.toNat 0 ≠ G.getD b.toNat 0) := fun h => hj (decide_eq_true h)
    unfold fnd
    by_cases h1 : 0 ≤ a ∧ a < n
    · by_cases h2 : 0 ≤ b ∧ b < n
      · rw [if_pos h1, if_pos h2]; omega
      · rw [if_neg h2]; omega
    · rw [if_neg h1]; omega
theorem fnd_joined {n : Nat} {G : List Nat} {a b : Int} (hG : G.length = n) (hj : joins n G a b = true) : fnd n (joined n G a b) a = min (fnd n G a) (fnd n G b) ∧ fnd n (joined n G a b) b = min (fnd n G a) (fnd n G b) := by
  have hd := of_decide_eq_true hj
  have e : joined n G a b = U.join G (G.getD a.toNat 0) (G.getD b.toNat 0) := by rw [joined, if_pos hj]
  have h1 := join_get (L := G) (x := G.getD a.toNat 0) (y := G.getD b.toNat 0) (i := a.toNat) (by omega)
  have h2 := join_get (L := G) (x := G.getD a.toNat 0) (y := G.getD b.toNat 0) (i := b.toNat) (by omega)
  unfold fnd
  rw [if_pos (by omega), if_pos (by omega), if_pos (by omega), if_pos (by omega), e, h1, h2]
  generalize G.getD a.toNat 0 = p at *
  generalize G.getD b.toNat 0 = r at *
  constructor
  · split <;> omega
  · split <;> omega
/-! ### All sizes are all numbers -/
theorem sum_next {n : Nat} {G : List Nat} (h : Good n G) {k : Nat} (hk : k < n) : G.countP (fun g => decide (g < k + 1)) = G.countP (fun g => decide (g < k)) + (if G.getD k 0 = k then G.count k else 0) := by
  have h1 : ∀ L : List Nat, L.countP (fun g => decide (g < k + 1)) = L.countP (fun g => decide (g < k)) + L.count k := by
    intro L
    induction L with
    | nil => rfl
    | cons x L ih =>
      rw [List.countP_cons, List.countP_cons, List.count_cons, ih]
      by_cases e : x = k
      · subst e; simp; omega
      · have : (x == k) = false := by simpa using e
        rw [this]
        by_cases h2 : x < k
        · simp [h2, show x < k + 1 by omega]; omega
        · simp [h2, show ¬ x < k + 1 by omega]
  rw [h1]
  congr 1
  split
  · rfl
  · rename_i hne
    rw [List.count_eq_zero]
    intro hm
    obtain ⟨j, hj, e⟩ := List.getElem_of_mem hm
    have hj2 : j < n := by have := h.len; omega
    have h3 := (h.rep hj2).2
    have h4 : G.getD j 0 = k := by rw [List.getD_eq_getElem?_getD, List.getElem?_eq_getElem hj]; exact e
    rw [h4] at h3
    exact hne h3
theorem sum_all {n : Nat} {G : List Nat} (h : Good n G) : G.countP (fun g => decide (g < n)) = n := by
  have h1 := h.len
  rw [← h1, List.countP_eq_length, h1]
  intro x hx
  obtain ⟨j, hj, e⟩ := List.getElem_of_mem hx
  have hj2 : j < n := by omega
  have h3 := (h.rep hj2).1
  have h4 : G.getD j 0 = x := by rw [List.getD_eq_getElem?_getD, List.getElem?_eq_getElem hj]; exact e
  exact decide_eq_true (by omega)
/-! ### Whatever the order -/
inductive Con (n : Nat) (S : Int × Int → Prop) : Nat → Nat → Prop
  | rel {p : Int × Int} : S p → 0 ≤ p.1 → p.1 < n → 0 ≤ p.2 → p.2 < n → Con n S p.1.toNat p.2.toNat
  | refl {i : Nat} : Con n S i i
  | symm {i j : Nat} : Con n S i j → Con n S j i
  | trans {i j k : Nat} : Con n S i j → Con n S j k → Con n S i k
theorem Con.mono {n : Nat} {S S' : Int × Int → Prop} (hs : ∀ p, S p → Con n S' p.1.toNat p.2.toNat ∨ S' p) {i j : Nat} (h : Con n S i j) : Con n S' i j := by
  induction h with
  | rel h a b c d => exact (hs _ h).elim id (fun h => .rel h a b c d)
  | refl => exact .refl
  | symm _ ih => exact .symm ih
  | trans _ _ ih ih' => exact .trans ih ih'
/-- A list tells just that. -/
def Tells (n : Nat) (G : List Nat) (S : Int × Int → Prop) : Prop := (∀ i j, i < n → j < n → G.getD i 0 = G.getD j 0 → Con n S i j) ∧ (∀ i j, Con n S i j → G.getD i 0 = G.getD j 0)
theorem Tells.new (n : Nat) : Tells n (List.range n) (fun _ => False) := by
  refine ⟨fun i j hi hj e => ?_, fun i j h => ?_⟩
  · have h1 : (List.range n).getD i 0 = i := by simp [List.getD_eq_getElem?_getD, hi]
    have h2 : (List.range n).getD j 0 = j := by simp [List.getD_eq_getElem?_getD, hj]
    rw [h1, h2] at e
    subst e
    exact .refl
  · induction h with
    | rel h _ _ _ _ => exact h.elim
    | refl => rfl
    | symm _ ih => exact ih.symm
    | trans _ _ ih ih' => exact ih.trans ih'
theorem Tells.step {n : Nat} {G : List Nat} {S : Int × Int → Prop} (hG : G.length = n) (h : Tells n G S) (a b : Int) : Tells n (joined n G a b) (fun p => S p ∨ p = (a, b)) := by
  by_cases hj : joins n G a b = true
  · have hd := of_decide_eq_true hj
    have e : joined n G a b = U.join G (G.getD a.toNat 0) (G.getD b.toNat 0) := by rw [joined, if_pos hj]
    rw [e]
    have hab : Con n (fun p => S p ∨ p = (a, b)) a.toNat b.toNat := .rel (p := (a, b)) (.inr rfl) hd.1 hd.2.1 hd.2.2.1 hd.2.2.2.1
    have old : ∀ {i j}, Con n S i j → Con n (fun p => S p ∨ p = (a, b)) i j := fun h => h.mono (fun p hp => .inr (.inl hp))
    have out : ∀ i, n ≤ i → (U.join G (G.getD a.toNat 0) (G.getD b.toNat 0)).getD i 0 = 0 := fun i hi => by
      rw [List.getD_eq_getElem?_getD, List.getElem?_eq_none (by rw [join_len]; omega)]; rfl
    constructor
    · intro i j hi hj' he
      rw [join_get (by omega), join_get (by omega)] at he
      have ha := h.1 i a.toNat hi (by omega)
      have hb := h.1 i b.toNat hi (by omega)
      have ha' := h.1 j a.toNat hj' (by omega)
      have hb' := h.1 j b.toNat hj' (by omega)
      have hij := h.1 i j hi hj'
      generalize G.getD a.toNat 0 = p at *
      generalize G.getD b.toNat 0 = r at *
      by_cases e1 : G.getD i 0 = G.getD j 0
      · exact old (hij e1)
      by_cases e2 : G.getD i 0 = p
      · have e3 : G.getD j 0 = r := by split at he <;> split at he <;> omega
        exact .trans (old (ha e2)) (.trans hab (.symm (old (hb' e3))))
      · have e3 : G.getD i 0 = r := by split at he <;> split at he <;> omega
        have e4 : G.getD j 0 = p := by split at he <;> split at he <;> omega
        exact .trans (old (hb e3)) (.trans (.symm hab) (.symm (old (ha' e4))))
    · have key : ∀ i j, i < n → j < n → G.getD i 0 = G.getD j 0 → (U.join G (G.getD a.toNat 0) (G.getD b.toNat 0)).getD i 0 = (U.join G (G.getD a.toNat 0) (G.getD b.toNat 0)).getD j 0 := fun i j hi hj' he => by
        rw [join_get (by omega), join_get (by omega), he]
      intro i j hc
      induction hc with
      | rel hp h1 h2 h3 h4 =>
        rcases hp with hp | rfl
        · exact key _ _ (by omega) (by omega) (h.2 _ _ (.rel hp h1 h2 h3 h4))
        · dsimp only at *
          rw [join_get (by omega), join_get (by omega)]
          generalize G.getD a.toNat 0 = p at *
          generalize G.getD b.toNat 0 = r at *
          split <;> split <;> omega
      | refl => rfl
      | symm _ ih => exact ih.symm
      | trans _ _ ih ih' => exact ih.trans ih'
  · have e : joined n G a b = G := by rw [joined, if_neg hj]
    rw [e]
    have hd : ¬ (0 ≤ a ∧ a < n ∧ 0 ≤ b ∧ b < n ∧ G.getD a.toNat 0 ≠ G.getD b.toNat 0) := fun h => hj (decide_eq_true h)
    refine ⟨fun i j hi hj' he => (h.1 i j hi hj' he).mono (fun p hp => .inr (.inl hp)), fun i j hc => ?_⟩
    induction hc with
    | rel hp h1 h2 h3 h4 =>
      rcases hp with hp | rfl
      · exact h.2 _ _ (.rel hp h1 h2 h3 h4)
      · exact Classical.byContradiction fun hne => hd ⟨h1, h2, h3, h4, hne⟩
    | refl => rfl
    | symm _ ih => exact ih.symm
    | trans _ _ ih ih' => exact ih.trans ih'
theorem Tells.one {n : Nat} {G G' : List Nat} {S S' : Int × Int → Prop} (hG : Good n G) (hG' : Good n G') (h : Tells n G S) (h' : Tells n G' S') (hs : ∀ i j, Con n S i j ↔ Con n S' i j) : G = G' := by
  have le : ∀ {G G' : List Nat} {S S' : Int × Int → Prop}, Good n G → Good n G' → Tells n G S → Tells n G' S' → (∀ i j, Con n S i j → Con n S' i j) → ∀ i, i < n → G'.getD i 0 ≤ G.getD i 0 := by
    intro G G' S S' hG hG' h h' hs i hi
    obtain ⟨h1, h2⟩ := hG.rep hi
    have h3 := h'.2 _ _ (hs _ _ (h.1 (G.getD i 0) i (by omega) hi h2))
    have h4 := (hG'.rep (i := G.getD i 0) (by omega)).1
    omega
  have hl := hG.len
  have hl' := hG'.len
  apply List.ext_getElem (by omega)
  intro i h1 h2
  have a := le hG hG' h h' (fun i j => (hs i j).1) i (by omega)
  have b := le hG' hG h' h (fun i j => (hs i j).2) i (by omega)
  have e1 : G.getD i 0 = G[i] := by rw [List.getD_eq_getElem?_getD, List.getElem?_eq_getElem h1]; rfl
  have e2 : G'.getD i 0 = G'[i] := by rw [List.getD_eq_getElem?_getD, List.getElem?_eq_getElem h2]; rfl
  omega
end Go.Proofs.Ytkhjnmhingdmoaa
