/- What the reader of tokens comes to. Plain Lean. -/
import Derived.Test.YtjnineeeffecaaaP0
import Derived.Lib.IndexMore
import Derived.Lib.IndexLaws
import Derived.Lib.IndexAny
import Derived.Lib.Strings
namespace Go.Proofs.Ytjnineeeffecaaa
open Go

def letterB (c : UInt8) : Bool := decide ((97 ≤ (c ||| 32).toNat ∧ (c ||| 32).toNat ≤ 122) ∨ c.toNat = 95)
def digitB (c : UInt8) : Bool := decide (48 ≤ c.toNat ∧ c.toNat ≤ 57)
def wordyB (c : UInt8) : Bool := letterB c || digitB c
def wordN : List UInt8 → Nat
  | [] => 0
  | c :: l => if wordyB c = true then wordN l + 1 else 0
@[reducible] def wordsL : List ByteArray := [tx [99, 104, 97, 114], tx [105, 110, 116], tx [108, 111, 110, 103], tx [118, 111, 105, 100], tx [115, 116, 114, 117, 99, 116], tx [117, 110, 105, 111, 110], tx [105, 102], tx [101, 108, 115, 101], tx [119, 104, 105, 108, 101], tx [114, 101, 116, 117, 114, 110], tx [98, 114, 101, 97, 107], tx [99, 111, 110, 116, 105, 110, 117, 101], tx [115, 105, 122, 101, 111, 102]]
def wordB (s : ByteArray) : Bool := wordsL.any fun t => decide (t = s)
@[reducible] def signL : List (List UInt8) := [[45, 62], [61, 61], [33, 61], [60, 61], [62, 61], [60, 60], [62, 62], [40], [41], [91], [93], [123], [125], [59], [44], [46], [43], [45], [42], [47], [37], [38], [124], [94], [33], [126], [60], [62], [61]]
def signOf (l : List UInt8) : List UInt8 := (signL.find? fun x => Lib.hasPrefix l x).getD []
def blankC (c : UInt8) : Bool := [32, 9, 10, 13].contains c
inductive Blk where
  | go (n : Nat)
  | all
  | opn
  | stop
/-- The first blank, or note, of a text. -/
def blankS (r : List UInt8) : Blk :=
  if blankC (r.getD 0 0) = true then .go 1 else
  if Lib.hasPrefix r [47, 47] = true then (if Lib.indexByte r 10 < 0 then .all else .go (Lib.indexByte r 10).toNat) else
  if Lib.hasPrefix r [47, 42] = true then (if Lib.index (r.drop 2) [42, 47] < 0 then .opn else .go ((Lib.index (r.drop 2) [42, 47]).toNat + 4)) else .stop
def blankF (l : List UInt8) : Nat → Nat → Int × Int
  | 0, a => (a, 0)
  | f + 1, a => if a < l.length then (match blankS (l.drop a) with
      | .go n => blankF l f (a + n)
      | .all => (l.length, 0)
      | .opn => (-1, a)
      | .stop => (a, 0)) else (a, 0)
def blankP (l : List UInt8) : Int × Int := blankF l (l.length + 1) 0
def worthN (c : UInt8) : Int := if digitB c = true then (c.toNat : Int) - 48 else if 97 ≤ (c ||| 32).toNat ∧ (c ||| 32).toNat ≤ 102 then ((c ||| 32).toNat : Int) - 97 + 10 else 16
def figL (base : Int) : List UInt8 → Int → Int → Option (Int × Int)
  | [], n, e => some (n, e)
  | c :: l, n, e => if worthN c ≥ base then none else
    if (if n > (9223372036854775807 - worthN c) / base then 5 else e) = 0 then figL base l (n * base + worthN c) (if n > (9223372036854775807 - worthN c) / base then 5 else e)
    else figL base l n (if n > (9223372036854775807 - worthN c) / base then 5 else e)
def figOf (l : List UInt8) (base : Int) (fr : Nat) : Int × Int × Int := match figL base ((l.take (wordN l)).drop fr) 0 0 with
  | none => (0, 0, 2)
  | some (n, e) => if wordN l = fr ∨ (base = 16 ∧ 18 < wordN l) ∨ (base = 10 ∧ 1 < wordN l ∧ (l.getD 0 0).toNat = 48) then (0, 0, 2) else if e ≠ 0 then (0, 0, e) else (n, wordN l, 0)
def figure (l : List UInt8) : Int × Int × Int := if Lib.hasPrefix l [48, 120] = true then figOf l 16 2 else figOf l 10 0
def badC (l : List UInt8) : Prop := (l.length : Int) < 3 ∨ ¬ ((l.getD 2 0).toNat : Int) = 39 ∨ ((l.getD 1 0).toNat : Int) < 32 ∨ 126 < ((l.getD 1 0).toNat : Int) ∨ ((l.getD 1 0).toNat : Int) = 39 ∨ ((l.getD 1 0).toNat : Int) = 92
instance (l : List UInt8) : Decidable (badC l) := by unfold badC; infer_instance
/-- A token: its kind, its text, its number; or an error. -/
def tokOf (l : List UInt8) : Int × List UInt8 × Int × Int :=
  if letterB (l.getD 0 0) = true then (if 24 < wordN l then (0, [], 0, 5) else (if wordB (tx (l.take (wordN l))) = true then 2 else 1, l.take (wordN l), 0, 0)) else
  if digitB (l.getD 0 0) = true then (3, l.take (figure l).2.1.toNat, (figure l).1, (figure l).2.2) else
  if ((l.getD 0 0).toNat : Int) = 39 then (if badC l then (0, [], 0, 2) else (3, l.take 3, ((l.getD 1 0).toNat : Int), 0)) else
  if signOf l = [] then (0, [], 0, 2) else (4, signOf l, 0, 0)
inductive LexO where
  | ok (T : List Tok)
  | bad (t k : Int)
def lexF (l : List UInt8) : Nat → Nat → List Tok → LexO
  | 0, a, _ => .bad a 2
  | f + 1, a, T => if (blankP (l.drop a)).1 < 0 then .bad (a + (blankP (l.drop a)).2) 2 else
    if a + (blankP (l.drop a)).1.toNat = l.length then .ok T else
    if (tokOf (l.drop (a + (blankP (l.drop a)).1.toNat))).2.2.2 ≠ 0 then .bad ((a + (blankP (l.drop a)).1.toNat : Nat) : Int) (tokOf (l.drop (a + (blankP (l.drop a)).1.toNat))).2.2.2 else
    lexF l f (a + (blankP (l.drop a)).1.toNat + (tokOf (l.drop (a + (blankP (l.drop a)).1.toNat))).2.1.length)
      (T ++ [⟨(tokOf (l.drop (a + (blankP (l.drop a)).1.toNat))).1, ((a + (blankP (l.drop a)).1.toNat : Nat) : Int), tx (tokOf (l.drop (a + (blankP (l.drop a)).1.toNat))).2.1, (tokOf (l.drop (a + (blankP (l.drop a)).1.toNat))).2.2.1⟩])
def lexS (l : List UInt8) : LexO := if 20000 < l.length then .bad 0 5 else lexF l (l.length + 1) 0 []

/-! ### Small facts -/
theorem wordN_le : ∀ l, wordN l ≤ l.length
  | [] => Nat.le_refl _
  | c :: l => by
    have := wordN_le l
    rw [wordN]
    split <;> simp <;> omega
theorem wordN_drop : ∀ (l : List UInt8) (n : Nat), n ≤ l.length → (∀ i, i < n → wordyB (l.getD i 0) = true) → wordN l = n + wordN (l.drop n)
  | l, 0, _, _ => by simp
  | [], n + 1, h, _ => by simp at h
  | c :: l, n + 1, h, hw => by
    have h0 : wordyB c = true := hw 0 (Nat.succ_pos _)
    rw [wordN, if_pos h0, wordN_drop l n (by simpa using h) (fun i hi => hw (i + 1) (by omega)), List.drop_succ_cons]
    omega
theorem wordN_pos {l : List UInt8} (h : 0 < l.length) (hw : wordyB (l.getD 0 0) = true) : 0 < wordN l := by
  cases l with
  | nil => simp at h
  | cons c l =>
    have hw : wordyB c = true := hw
    rw [wordN, if_pos hw]
    omega
theorem wordN_stop {l : List UInt8} (hw : wordyB (l.getD 0 0) = false) : wordN l = 0 := by
  cases l with
  | nil => rfl
  | cons c l =>
    have hw : wordyB c = false := hw
    rw [wordN, if_neg (by simp [hw])]
theorem getD_drop (l : List UInt8) (n i : Nat) : (l.drop n).getD i 0 = l.getD (n + i) 0 := by
  simp [List.getD_eq_getElem?_getD, List.getElem?_drop]
theorem hasPrefix_len {l p : List UInt8} (h : Lib.hasPrefix l p = true) : p.length ≤ l.length := by
  have : p <+: l := by simpa [Lib.hasPrefix] using h
  exact this.length_le
theorem hasPrefix_get {l p : List UInt8} (h : Lib.hasPrefix l p = true) {i : Nat} (hi : i < p.length) : l.getD i 0 = p.getD i 0 := by
  have : p <+: l := by simpa [Lib.hasPrefix] using h
  obtain ⟨t, rfl⟩ := this
  simp [List.getD_eq_getElem?_getD, List.getElem?_append_left hi]
theorem hex_word {l : List UInt8} (h : Lib.hasPrefix l [48, 120] = true) : 2 ≤ wordN l := by
  have h0 := hasPrefix_get h (i := 0) (by simp)
  have h1 := hasPrefix_get h (i := 1) (by simp)
  have hl := hasPrefix_len h
  rw [wordN_drop l 2 (by simpa using hl) (fun i hi => by
    rcases (show i = 0 ∨ i = 1 by omega) with rfl | rfl
    · rw [h0]; decide
    · rw [h1]; decide)]
  omega
theorem indexByte_lt {l : List UInt8} {c : UInt8} (h : 0 ≤ Lib.indexByte l c) : (Lib.indexByte l c).toNat < l.length ∧ l.getD (Lib.indexByte l c).toNat 0 = c := by
  have h1 := (Lib.indexByte_some (l := l) (c := c) (o := (Lib.indexByte l c).toNat) (by omega)).1
  exact ⟨(List.getElem?_eq_some_iff.1 h1).1, by simp [List.getD_eq_getElem?_getD, h1]⟩
theorem blankS_go {r : List UInt8} {n : Nat} (hr : 0 < r.length) (h : blankS r = .go n) : 1 ≤ n ∧ n ≤ r.length := by
  unfold blankS at h
  split at h
  · cases h; omega
  · split at h
    · rename_i hp
      split at h
      · cases h
      · rename_i hn
        cases h
        obtain ⟨h1, h2⟩ := indexByte_lt (l := r) (c := 10) (by omega)
        refine ⟨?_, by omega⟩
        rcases Nat.eq_zero_or_pos (Lib.indexByte r 10).toNat with h0 | h0
        · rw [h0, hasPrefix_get hp (i := 0) (by simp)] at h2
          cases h2
        · exact h0
    · split at h
      · rename_i hp
        split at h
        · cases h
        · cases h
          have h1 := Lib.index_room (r.drop 2) [42, 47] (by omega)
          have h2 := hasPrefix_len hp
          simp at h1 h2
          omega
      · cases h
theorem blankF_succ (l : List UInt8) (f a : Nat) : blankF l (f + 1) a = if a < l.length then (match blankS (l.drop a) with
      | .go n => blankF l f (a + n)
      | .all => ((l.length : Int), (0 : Int))
      | .opn => ((-1 : Int), (a : Int))
      | .stop => ((a : Int), (0 : Int))) else ((a : Int), (0 : Int)) := rfl
theorem blankF_bound (l : List UInt8) : ∀ (f a : Nat), a ≤ l.length → ((blankF l f a).1 = -1 ∨ ((a : Int) ≤ (blankF l f a).1 ∧ (blankF l f a).1 ≤ l.length)) ∧ 0 ≤ (blankF l f a).2 ∧ (blankF l f a).2 ≤ l.length
  | 0, a, h => by simp [blankF]; omega
  | f + 1, a, h => by
    rw [blankF_succ]
    split
    · rename_i hlt
      cases hs : blankS (l.drop a) with
      | go n =>
        have h1 := blankS_go (by simp; omega) hs
        simp at h1
        have := blankF_bound l f (a + n) (by omega)
        dsimp only
        omega
      | all => dsimp only; omega
      | opn => dsimp only; omega
      | stop => dsimp only; omega
    · dsimp only; omega
theorem blankP_bound (l : List UInt8) : ((blankP l).1 = -1 ∨ (0 ≤ (blankP l).1 ∧ (blankP l).1 ≤ l.length)) ∧ 0 ≤ (blankP l).2 ∧ (blankP l).2 ≤ l.length := by
  have := blankF_bound l (l.length + 1) 0 (Nat.zero_le _)
  simpa [blankP] using this
theorem worth_bound (c : UInt8) : 0 ≤ worthN c ∧ worthN c ≤ 16 := by
  unfold worthN digitB
  split
  · rename_i h
    have := of_decide_eq_true h
    omega
  · split <;> omega
theorem signOf_prefix {l : List UInt8} (h : signOf l ≠ []) : Lib.hasPrefix l (signOf l) = true := by
  unfold signOf at h ⊢
  cases hf : signL.find? (fun x => Lib.hasPrefix l x) with
  | none => simp [hf] at h
  | some x => simpa using List.find?_some hf
theorem figOf_fst {l : List UInt8} {base : Int} {fr : Nat} (h : (figOf l base fr).2.2 = 0) : (figOf l base fr).2.1 = wordN l := by
  unfold figOf at h ⊢
  split
  · rename_i hf; simp [hf] at h
  · rename_i n e hf
    simp only [hf] at h
    split at h
    · simp at h
    · split at h
      · rename_i hne; simp at h; exact absurd h hne
      · rename_i h1 h2; rw [if_neg h1, if_neg h2]
theorem figOf_le {l : List UInt8} {base : Int} {fr : Nat} : 0 ≤ (figOf l base fr).2.1 ∧ (figOf l base fr).2.1 ≤ l.length := by
  have := wordN_le l
  unfold figOf
  split
  · simp
  · split
    · simp
    · split <;> simp <;> omega
theorem figure_le (l : List UInt8) : 0 ≤ (figure l).2.1 ∧ (figure l).2.1 ≤ l.length := by
  unfold figure
  split <;> exact figOf_le
theorem figure_len {l : List UInt8} (h : (figure l).2.2 = 0) : (figure l).2.1 = wordN l := by
  unfold figure at h ⊢
  split at h
  · rename_i hp; rw [if_pos hp]; exact figOf_fst h
  · rename_i hp; rw [if_neg hp]; exact figOf_fst h
/-- A token takes something, and no more than there is. -/
theorem tokOf_len {l : List UInt8} (hl : 0 < l.length) (h : (tokOf l).2.2.2 = 0) : 1 ≤ (tokOf l).2.1.length ∧ (tokOf l).2.1.length ≤ l.length := by
  have hw := wordN_le l
  unfold tokOf at h ⊢
  split at h
  · rename_i hc
    rw [if_pos hc]
    have hp : 0 < wordN l := wordN_pos hl (by simp only [wordyB, hc]; rfl)
    split at h
    · simp at h
    · rename_i h24
      rw [if_neg h24]
      dsimp only
      rw [List.length_take]
      omega
  · rename_i hc
    rw [if_neg hc]
    split at h
    · rename_i hd
      rw [if_pos hd]
      have hp : 0 < wordN l := wordN_pos hl (by simp only [wordyB, hd]; simp)
      dsimp only at h ⊢
      rw [figure_len h, List.length_take]
      omega
    · rename_i hd
      rw [if_neg hd]
      split at h
      · rename_i hq
        rw [if_pos hq]
        split at h
        · simp at h
        · rename_i hb
          rw [if_neg hb]
          dsimp only
          rw [List.length_take]
          unfold badC at hb
          omega
      · rename_i hq
        rw [if_neg hq]
        split at h
        · simp at h
        · rename_i hs
          rw [if_neg hs]
          dsimp only
          exact ⟨by cases h0 : signOf l with | nil => exact absurd h0 hs | cons => simp, hasPrefix_len (signOf_prefix hs)⟩
end Go.Proofs.Ytjnineeeffecaaa
