/- Runs by numbers: values, slots and blocks that a kernel can reckon with; what they stand for. For whatever program. -/
import Derived.Test.YtafochlcnjeanaaGreatX11
namespace Go.Proofs.YtafochlcnjeanaaGreat.E
open Go Go.RowKit X

/-! ### Tables by number -/
inductive T (α : Type) where
  | leaf : T α
  | node : Option α → T α → T α → T α
namespace T
variable {α : Type}
def get : T α → Nat → Option α
  | leaf, _ => none
  | node v l r, n => match Nat.beq n 0 with
    | true => v
    | false => match Nat.beq (n % 2) 1 with
      | true => get l (n / 2)
      | false => get r (n / 2 - 1)
/-- So many levels are enough for numbers below 2 to that. -/
def set : Nat → T α → Nat → α → T α
  | 0, t, _, _ => t
  | f + 1, leaf, n, a => match Nat.beq n 0 with
    | true => node (some a) leaf leaf
    | false => match Nat.beq (n % 2) 1 with
      | true => node none (set f leaf (n / 2) a) leaf
      | false => node none leaf (set f leaf (n / 2 - 1) a)
  | f + 1, node v l r, n, a => match Nat.beq n 0 with
    | true => node (some a) l r
    | false => match Nat.beq (n % 2) 1 with
      | true => node v (set f l (n / 2) a) r
      | false => node v l (set f r (n / 2 - 1) a)
theorem get_set : ∀ (f : Nat) (t : T α) (n m : Nat) (a : α), n + 1 < 2 ^ f → (set f t n a).get m = if m = n then some a else t.get m := by
  intro f
  induction f with
  | zero =>
    intro t n m a h
    simp at h
  | succ f ih =>
    intro t n m a h
    have h2 : 2 ^ (f + 1) = 2 * 2 ^ f := by rw [Nat.pow_succ, Nat.mul_comm]
    have e0 : ∀ x : Nat, Nat.beq x 0 = decide (x = 0) := fun x => by rw [Bool.eq_iff_iff]; simp
    have e1 : ∀ x : Nat, Nat.beq (x % 2) 1 = decide (x % 2 = 1) := fun x => by rw [Bool.eq_iff_iff]; simp
    cases t with
    | leaf =>
      unfold set
      rw [e0, e1]
      by_cases hn : n = 0
      · subst hn
        simp only [decide_true]
        unfold get
        rw [e0]
        by_cases hm : m = 0
        · simp [hm]
        · simp only [hm, decide_false, if_false]
          split <;> simp [get]
      · by_cases hp : n % 2 = 1
        · simp only [hn, hp, decide_false, decide_true]
          unfold get
          rw [e0, e1]
          by_cases hm : m = 0
          · have : ¬ m = n := by omega
            simp [hm, this]
            omega
          · by_cases hq : m % 2 = 1
            · simp only [hm, hq, decide_false, decide_true]
              rw [ih _ _ _ _ (by omega)]
              by_cases e : m = n
              · subst e; simp
              · rw [if_neg (by omega), if_neg e]; simp [get]
            · simp only [hm, hq, decide_false]
              have : ¬ m = n := by omega
              rw [if_neg this]; simp [get]
        · simp only [hn, hp, decide_false]
          unfold get
          rw [e0, e1]
          by_cases hm : m = 0
          · have : ¬ m = n := by omega
            simp [hm]
            omega
          · by_cases hq : m % 2 = 1
            · simp only [hm, hq, decide_false, decide_true]
              have : ¬ m = n := by omega
              rw [if_neg this]; simp [get]
            · simp only [hm, hq, decide_false]
              rw [ih _ _ _ _ (by omega)]
              by_cases e : m = n
              · subst e; simp
              · rw [if_neg (by omega), if_neg e]; simp [get]
    | node v l r =>
      unfold set
      rw [e0, e1]
      by_cases hn : n = 0
      · subst hn
        simp only [decide_true]
        unfold get
        rw [e0]
        by_cases hm : m = 0
        · simp [hm]
        · simp [hm]
      · by_cases hp : n % 2 = 1
        · simp only [hn, hp, decide_false, decide_true]
          unfold get
          rw [e0, e1]
          by_cases hm : m = 0
          · simp [hm]
            omega
          · by_cases hq : m % 2 = 1
            · simp only [hm, hq, decide_false, decide_true]
              rw [ih _ _ _ _ (by omega)]
              by_cases e : m = n
              · subst e; simp
              · rw [if_neg (by omega), if_neg e]
            · simp only [hm, hq, decide_false]
              have : ¬ m = n := by omega
              rw [if_neg this]
        · simp only [hn, hp, decide_false]
          unfold get
          rw [e0, e1]
          by_cases hm : m = 0
          · simp [hm]
            omega
          · by_cases hq : m % 2 = 1
            · simp only [hm, hq, decide_false, decide_true]
              have : ¬ m = n := by omega
              rw [if_neg this]
            · simp only [hm, hq, decide_false]
              rw [ih _ _ _ _ (by omega)]
              by_cases e : m = n
              · subst e; simp
              · rw [if_neg (by omega), if_neg e]
end T

end Go.Proofs.YtafochlcnjeanaaGreat.E
