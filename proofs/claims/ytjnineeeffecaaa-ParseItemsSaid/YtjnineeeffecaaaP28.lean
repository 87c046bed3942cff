/- What the reader of tokens comes to, as rules; texts side by side. Plain Lean. -/
import Derived.Test.YtjnineeeffecaaaP18
namespace Go.Proofs.Ytjnineeeffecaaa
open Go
/-- A token without its place. -/
abbrev TK := Int × ByteArray × Int
@[reducible] def Tok.er (t : Tok) : TK := (t.kind, t.text, t.n)
@[reducible] def tkA (r : List UInt8) : TK := ((tokOf r).1, tx (tokOf r).2.1, (tokOf r).2.2.1)
/-- A text's tokens. (The sign says whether it may end in a note that no line ends.) -/
inductive Lx : Bool → List UInt8 → List TK → Prop
  | nil {b : Bool} : Lx b [] []
  | blank {b : Bool} {r : List UInt8} {n : Nat} {T : List TK} (h : r ≠ []) (h1 : blankS r = .go n) (k : Lx b (r.drop n) T) : Lx b r T
  | all {r : List UInt8} (h : r ≠ []) (h1 : blankS r = .all) : Lx true r []
  | tok {b : Bool} {r : List UInt8} {T : List TK} (h : r ≠ []) (h1 : blankS r = .stop) (h2 : (tokOf r).2.2.2 = 0) (k : Lx b (r.drop (tokOf r).2.1.length) T) : Lx b r (tkA r :: T)
theorem Lx.inv_nil {b : Bool} {T : List TK} (h : Lx b [] T) : T = [] := by
  cases h with
  | nil => rfl
  | blank h => exact absurd rfl h
  | all h => exact absurd rfl h
  | tok h => exact absurd rfl h
theorem Lx.inv {b : Bool} {r : List UInt8} {T : List TK} (h : Lx b r T) (hr : r ≠ []) : match blankS r with
    | .go n => Lx b (r.drop n) T
    | .all => b = true ∧ T = []
    | .opn => False
    | .stop => (tokOf r).2.2.2 = 0 ∧ ∃ T', T = tkA r :: T' ∧ Lx b (r.drop (tokOf r).2.1.length) T' := by
  cases h with
  | nil => exact absurd rfl hr
  | blank _ h1 k => rw [h1]; exact k
  | all _ h1 => rw [h1]; exact ⟨rfl, rfl⟩
  | tok _ h1 h2 k => rw [h1]; exact ⟨h2, _, rfl, k⟩
theorem Lx.det {b : Bool} {r : List UInt8} {T : List TK} (h : Lx b r T) : ∀ {b' : Bool} {U : List TK}, Lx b' r U → T = U := by
  induction h with
  | nil => exact fun k => k.inv_nil.symm
  | blank hr h1 _ ih =>
    intro b' U k
    have := k.inv hr
    rw [h1] at this
    exact ih this
  | all hr h1 =>
    intro b' U k
    have := k.inv hr
    rw [h1] at this
    exact this.2.symm
  | tok hr h1 h2 _ ih =>
    intro b' U k
    have := k.inv hr
    rw [h1] at this
    obtain ⟨_, T', rfl, k'⟩ := this
    rw [ih k']
theorem Lx.up {b : Bool} {r : List UInt8} {T : List TK} (h : Lx b r T) : Lx true r T := by
  induction h with
  | nil => exact .nil
  | blank hr h1 _ ih => exact .blank hr h1 ih
  | all hr h1 => exact .all hr h1
  | tok hr h1 h2 _ ih => exact .tok hr h1 h2 ih
theorem drop_ne {l : List UInt8} {a : Nat} (h : a < l.length) : l.drop a ≠ [] := fun e => by
  have := congrArg List.length e
  simp at this
  omega
theorem blankF_lx (l : List UInt8) : ∀ (f a : Nat), a ≤ l.length → l.length < f + a →
    ((blankF l f a).1 < 0 → ∀ U, ¬ Lx true (l.drop a) U) ∧ (¬ (blankF l f a).1 < 0 → (blankF l f a).1.toNat ≤ l.length ∧ (∀ U, Lx true (l.drop (blankF l f a).1.toNat) U ↔ Lx true (l.drop a) U) ∧ ((blankF l f a).1.toNat < l.length → blankS (l.drop (blankF l f a).1.toNat) = .stop))
  | 0, a, h, h2 => by omega
  | f + 1, a, h, h2 => by
    rw [blankF_succ]
    by_cases hlt : a < l.length
    · rw [if_pos hlt]
      have hne := drop_ne hlt
      cases hs : blankS (l.drop a) with
      | go n =>
        have h1 := blankS_go (by simp; omega) hs
        simp at h1
        have ih := blankF_lx l f (a + n) (by omega) (by omega)
        dsimp only
        have hd : ∀ U, Lx true (l.drop (a + n)) U ↔ Lx true (l.drop a) U := fun U => ⟨fun k => .blank hne hs (by rw [List.drop_drop]; exact k), fun k => by
          have := k.inv hne
          rw [hs] at this
          simpa [List.drop_drop] using this⟩
        refine ⟨fun h0 U k => ih.1 h0 U ((hd U).2 k), fun h0 => ?_⟩
        obtain ⟨i1, i2, i3⟩ := ih.2 h0
        exact ⟨i1, fun U => (i2 U).trans (hd U), i3⟩
      | all =>
        dsimp only
        refine ⟨fun h0 => by omega, fun _ => ⟨by omega, fun U => ?_, fun h0 => by omega⟩⟩
        rw [show ((l.length : Int)).toNat = l.length by omega, List.drop_length]
        constructor
        · intro k
          rw [k.inv_nil]
          exact .all hne hs
        · intro k
          have := k.inv hne
          rw [hs] at this
          rw [this.2]
          exact .nil
      | opn =>
        dsimp only
        refine ⟨fun _ U k => ?_, fun h0 => by omega⟩
        have := k.inv hne
        rw [hs] at this
        exact this
      | stop =>
        dsimp only
        refine ⟨fun h0 => by omega, fun _ => ?_⟩
        rw [show ((a : Int)).toNat = a by omega]
        exact ⟨h, fun U => Iff.rfl, fun _ => hs⟩
    · rw [if_neg hlt]
      dsimp only
      refine ⟨fun h0 => by omega, fun _ => ?_⟩
      rw [show ((a : Int)).toNat = a by omega]
      exact ⟨h, fun U => Iff.rfl, fun h0 => absurd h0 hlt⟩
theorem lexF_lx (l : List UInt8) : ∀ (f a : Nat) (T0 : List Tok), a ≤ l.length → l.length < f + a → match lexF l f a T0 with
    | .ok T => ∃ U, T = T0 ++ U ∧ Lx true (l.drop a) (U.map Tok.er)
    | .bad _ _ => ∀ U, ¬ Lx true (l.drop a) U
  | 0, a, T0, h, h2 => by omega
  | f + 1, a, T0, h, h2 => by
    have hb := blankF_lx (l.drop a) ((l.drop a).length + 1) 0 (Nat.zero_le _) (by omega)
    rw [show blankF (l.drop a) ((l.drop a).length + 1) 0 = blankP (l.drop a) from rfl, List.drop_zero] at hb
    have hbd := blankP_bound (l.drop a)
    simp only [List.length_drop] at hbd hb
    unfold lexF
    by_cases h1 : (blankP (l.drop a)).1 < 0
    · rw [if_pos h1]
      exact hb.1 h1
    · rw [if_neg h1]
      obtain ⟨b1, b2, b3⟩ := hb.2 h1
      simp only [List.drop_drop] at b2 b3
      generalize hn : (blankP (l.drop a)).1.toNat = n at *
      by_cases h3 : a + n = l.length
      · rw [if_pos h3]
        refine ⟨[], by simp, ?_⟩
        rw [h3, List.drop_length] at b2
        exact (b2 _).1 .nil
      · rw [if_neg h3]
        have hlt : a + n < l.length := by omega
        have hst := b3 (by omega)
        have hne := drop_ne hlt
        by_cases h4 : (tokOf (l.drop (a + n))).2.2.2 ≠ 0
        · rw [if_pos h4]
          intro U k
          have := ((b2 U).2 k).inv hne
          rw [hst] at this
          exact h4 this.1
        · rw [if_neg h4]
          have h4 := Decidable.not_not.1 h4
          have h5 := tokOf_len (l := l.drop (a + n)) (by simp; omega) h4
          simp only [List.length_drop] at h5
          have ih := lexF_lx l f (a + n + (tokOf (l.drop (a + n))).2.1.length) (T0 ++ [⟨(tokOf (l.drop (a + n))).1, ((a + n : Nat) : Int), tx (tokOf (l.drop (a + n))).2.1, (tokOf (l.drop (a + n))).2.2.1⟩]) (by omega) (by omega)
          split
          · rename_i T hT
            rw [hT] at ih
            obtain ⟨U, e, k⟩ := ih
            refine ⟨_ :: U, by rw [e, List.append_assoc]; rfl, (b2 _).1 (.tok hne hst h4 ?_)⟩
            rw [List.drop_drop]
            exact k
          · rename_i t k hT
            rw [hT] at ih
            intro U k
            have := ((b2 U).2 k).inv hne
            rw [hst] at this
            obtain ⟨_, T', _, k'⟩ := this
            rw [List.drop_drop] at k'
            exact ih _ k'
theorem lexS_lx {l : List UInt8} {T : List Tok} (h : lexS l = .ok T) : l.length ≤ 20000 ∧ Lx true l (T.map Tok.er) := by
  unfold lexS at h
  split at h
  · cases h
  · have := lexF_lx l (l.length + 1) 0 [] (Nat.zero_le _) (by omega)
    rw [h] at this
    obtain ⟨U, e, k⟩ := this
    rw [List.nil_append] at e
    exact ⟨by omega, by rw [e]; exact k⟩
theorem lx_lexS {l : List UInt8} {U : List TK} (h : Lx true l U) (hl : l.length ≤ 20000) : ∃ T, lexS l = .ok T ∧ T.map Tok.er = U := by
  have := lexF_lx l (l.length + 1) 0 [] (Nat.zero_le _) (by omega)
  unfold lexS
  rw [if_neg (by omega)]
  cases hT : lexF l (l.length + 1) 0 [] with
  | ok T =>
    rw [hT] at this
    obtain ⟨V, e, k⟩ := this
    rw [List.nil_append] at e
    subst e
    exact ⟨T, rfl, k.det h⟩
  | bad t k =>
    rw [hT] at this
    exact absurd h (this U)
/-! ### Behind a text a blank, and another text -/
section
variable {c : UInt8} {t : List UInt8}
theorem hp_app : ∀ (x r : List UInt8), c ∉ x → Lib.hasPrefix (r ++ c :: t) x = Lib.hasPrefix r x
  | [], r, _ => by simp [Lib.hasPrefix]
  | a :: x, [], h => by
    have : a ≠ c := fun e => h (by rw [e]; exact List.mem_cons_self)
    simp [Lib.hasPrefix, List.isPrefixOf, this]
  | a :: x, b :: r, h => by
    have ih := hp_app x r (fun h' => h (List.mem_cons_of_mem _ h'))
    simp only [Lib.hasPrefix] at ih ⊢
    simp only [List.cons_append, List.isPrefixOf, ih]
theorem find_congr {α : Type} {p q : α → Bool} : ∀ (l : List α), (∀ x ∈ l, p x = q x) → l.find? p = l.find? q
  | [], _ => rfl
  | a :: l, h => by rw [List.find?_cons, List.find?_cons, h a List.mem_cons_self, find_congr l (fun x hx => h x (List.mem_cons_of_mem _ hx))]
theorem sep_sign (hc : c = 10 ∨ c = 32) : ∀ x ∈ signL, c ∉ x := by
  rcases hc with rfl | rfl <;> decide
theorem signOf_app (hc : c = 10 ∨ c = 32) (r : List UInt8) : signOf (r ++ c :: t) = signOf r := by
  unfold signOf
  rw [find_congr signL (fun x hx => hp_app (c := c) (t := t) x r (sep_sign hc x hx))]
theorem sep_wordy (hc : c = 10 ∨ c = 32) : wordyB c = false := by
  rcases hc with rfl | rfl <;> decide
theorem wordN_app (hc : c = 10 ∨ c = 32) : ∀ r : List UInt8, wordN (r ++ c :: t) = wordN r
  | [] => by simp [wordN, sep_wordy hc]
  | b :: r => by rw [List.cons_append, wordN, wordN, wordN_app hc r]
theorem take_app {r : List UInt8} {n : Nat} (h : n ≤ r.length) : (r ++ c :: t).take n = r.take n := List.take_append_of_le_length h
theorem drop_app {r : List UInt8} {n : Nat} (h : n ≤ r.length) : (r ++ c :: t).drop n = r.drop n ++ c :: t := List.drop_append_of_le_length h
theorem head_app {r : List UInt8} (h : r ≠ []) : (r ++ c :: t).getD 0 0 = r.getD 0 0 := by
  cases r with
  | nil => exact absurd rfl h
  | cons => rfl
theorem figOf_app (hc : c = 10 ∨ c = 32) {r : List UInt8} (h : r ≠ []) (base : Int) (fr : Nat) : figOf (r ++ c :: t) base fr = figOf r base fr := by
  unfold figOf
  rw [wordN_app hc, take_app (wordN_le r), head_app h]
theorem sep_hex (hc : c = 10 ∨ c = 32) : c ∉ ([48, 120] : List UInt8) := by
  rcases hc with rfl | rfl <;> decide
theorem figure_app (hc : c = 10 ∨ c = 32) {r : List UInt8} (h : r ≠ []) : figure (r ++ c :: t) = figure r := by
  unfold figure
  rw [hp_app _ _ (sep_hex hc), figOf_app hc h, figOf_app hc h]
theorem badC_app {r : List UInt8} (hc : c = 10 ∨ (c = 32 ∧ ¬ badC r)) (h : r ≠ []) : badC (r ++ c :: t) ↔ badC r := by
  match r, h with
  | [a], _ =>
    rcases hc with rfl | ⟨rfl, hb⟩
    · simp [badC]
    · simp [badC] at hb
  | [a, b], _ =>
    rcases hc with rfl | ⟨rfl, hb⟩
    · simp [badC]
    · simp [badC] at hb
  | a :: b :: d :: r, _ => simp [badC]; omega
theorem tokOf_app {r : List UInt8} (h : r ≠ []) (hc : c = 10 ∨ (c = 32 ∧ (tokOf r).2.2.2 = 0)) : tokOf (r ++ c :: t) = tokOf r := by
  have hc' : c = 10 ∨ c = 32 := hc.imp_right And.left
  have hw := wordN_le r
  have e1 := head_app (c := c) (t := t) h
  have hb : ((r.getD 0 0).toNat : Int) = 39 → letterB (r.getD 0 0) = false → digitB (r.getD 0 0) = false → (badC (r ++ c :: t) ↔ badC r) := fun h39 hl hd => badC_app (hc.imp_right fun ⟨h1, h2⟩ => ⟨h1, fun hb => by
    unfold tokOf at h2
    rw [if_neg (fun e => Bool.false_ne_true (hl.symm.trans e)), if_neg (fun e => Bool.false_ne_true (hd.symm.trans e)), if_pos h39, if_pos hb] at h2
    simp at h2⟩) h
  unfold tokOf
  rw [e1, wordN_app hc', figure_app hc' h, signOf_app hc', take_app hw]
  by_cases hl : letterB (r.getD 0 0) = true
  · rw [if_pos hl, if_pos hl]
  · rw [if_neg hl, if_neg hl]
    by_cases hd : digitB (r.getD 0 0) = true
    · rw [if_pos hd, if_pos hd, take_app (by have := figure_le r; omega)]
    · rw [if_neg hd, if_neg hd]
      by_cases h39 : ((r.getD 0 0).toNat : Int) = 39
      · rw [if_pos h39, if_pos h39]
        have hb := hb h39 (by simpa using hl) (by simpa using hd)
        by_cases hbad : badC r
        · rw [if_pos (hb.2 hbad), if_pos hbad]
        · rw [if_neg (fun h => hbad (hb.1 h)), if_neg hbad]
          have : ¬ (r.length : Int) < 3 := fun h => hbad (.inl h)
          rw [take_app (by omega)]
          match r, this with
          | a :: b :: r, _ => rfl
          | [a], h => simp at h
          | [], h => simp at h
      · rw [if_neg h39, if_neg h39]
theorem indexByte_app {r : List UInt8} {k : Nat} (h : Lib.indexByte r 10 = k) (v : List UInt8) : Lib.indexByte (r ++ v) 10 = k := by
  induction r generalizing k with
  | nil => simp [Lib.indexByte] at h
  | cons b r ih =>
    simp only [List.cons_append, Lib.indexByte] at h ⊢
    by_cases hb : (b == 10) = true
    · rw [if_pos hb] at h ⊢
      exact h
    · rw [if_neg hb] at h ⊢
      by_cases hn : (Lib.indexByte r 10 == -1) = true
      · rw [if_pos hn] at h
        omega
      · rw [if_neg hn] at h
        have hg := Lib.indexByte_ge r 10
        have hn : Lib.indexByte r 10 ≠ -1 := by simpa using hn
        have := ih (k := (Lib.indexByte r 10).toNat) (by omega)
        rw [this, if_neg (by simp; omega)]
        omega
theorem indexByte_all {r : List UInt8} (h : Lib.indexByte r 10 < 0) (v : List UInt8) : Lib.indexByte (r ++ 10 :: v) 10 = r.length := by
  induction r with
  | nil => simp [Lib.indexByte]
  | cons b r ih =>
    simp only [List.cons_append, Lib.indexByte] at h ⊢
    by_cases hb : (b == 10) = true
    · rw [if_pos hb] at h
      omega
    · rw [if_neg hb] at h ⊢
      have hg := Lib.indexByte_ge r 10
      have : Lib.indexByte r 10 < 0 := by
        split at h
        · rename_i hn
          have : Lib.indexByte r 10 = -1 := by simpa using hn
          omega
        · omega
      rw [ih this, if_neg (by simp)]
      simp
theorem sep_note (hc : c = 10 ∨ c = 32) : c ∉ ([42, 47] : List UInt8) ∧ c ∉ ([47, 47] : List UInt8) ∧ c ∉ ([47, 42] : List UInt8) := by
  rcases hc with rfl | rfl <;> decide
theorem index_app (hc : c = 10 ∨ c = 32) {r : List UInt8} {k : Nat} (h : Lib.index r [42, 47] = k) : Lib.index (r ++ c :: t) [42, 47] = k := by
  induction r generalizing k with
  | nil => simp [Lib.index] at h
  | cons b r ih =>
    have hp : ([42, 47] : List UInt8).isPrefixOf (b :: (r ++ c :: t)) = ([42, 47] : List UInt8).isPrefixOf (b :: r) := hp_app (c := c) (t := t) [42, 47] (b :: r) (sep_note hc).1
    simp only [List.cons_append, Lib.index] at h ⊢
    rw [hp]
    by_cases hb : ([42, 47] : List UInt8).isPrefixOf (b :: r) = true
    · rw [if_pos hb] at h ⊢
      exact h
    · rw [if_neg hb] at h ⊢
      by_cases hn : (Lib.index r [42, 47] == -1) = true
      · rw [if_pos hn] at h
        omega
      · rw [if_neg hn] at h
        have hg := Lib.index_ge r [42, 47]
        have hn : Lib.index r [42, 47] ≠ -1 := by simpa using hn
        have := ih (k := (Lib.index r [42, 47]).toNat) (by omega)
        rw [this, if_neg (by simp; omega)]
        omega
theorem index_app_none (hc : c = 10 ∨ c = 32) {r : List UInt8} (h : Lib.index r [42, 47] < 0) (ht : Lib.index t [42, 47] < 0) : Lib.index (r ++ c :: t) [42, 47] < 0 := by
  induction r with
  | nil =>
    have hp : ([42, 47] : List UInt8).isPrefixOf (c :: t) = ([42, 47] : List UInt8).isPrefixOf [] := hp_app (c := c) (t := t) [42, 47] [] (sep_note hc).1
    have hg := Lib.index_ge t [42, 47]
    rw [List.nil_append, Lib.index, hp, if_neg (by simp), if_pos (by simp; omega)]
    omega
  | cons b r ih =>
    have hp : ([42, 47] : List UInt8).isPrefixOf (b :: (r ++ c :: t)) = ([42, 47] : List UInt8).isPrefixOf (b :: r) := hp_app (c := c) (t := t) [42, 47] (b :: r) (sep_note hc).1
    simp only [List.cons_append, Lib.index] at h ⊢
    rw [hp]
    by_cases hb : ([42, 47] : List UInt8).isPrefixOf (b :: r) = true
    · rw [if_pos hb] at h
      omega
    · rw [if_neg hb] at h ⊢
      have hg := Lib.index_ge r [42, 47]
      have hg2 := Lib.index_ge (r ++ c :: t) [42, 47]
      have : Lib.index r [42, 47] < 0 := by
        split at h
        · rename_i hn
          have : Lib.index r [42, 47] = -1 := by simpa using hn
          omega
        · omega
      have := ih this
      rw [if_pos (by simp; omega)]
      omega
/-- The first blank, or note, ahead of a blank and another text. -/
theorem blankS_app (hc : c = 10 ∨ c = 32) {r : List UInt8} (h : r ≠ []) : match blankS r with
    | .go n => blankS (r ++ c :: t) = .go n
    | .all => c = 10 → blankS (r ++ c :: t) = .go r.length
    | .opn => Lib.index t [42, 47] < 0 → blankS (r ++ c :: t) = .opn
    | .stop => blankS (r ++ c :: t) = .stop := by
  obtain ⟨n1, n2, n3⟩ := sep_note hc
  have e1 := head_app (c := c) (t := t) h
  have e2 := hp_app (c := c) (t := t) _ r n2
  have e3 := hp_app (c := c) (t := t) _ r n3
  unfold blankS
  rw [e1, e2, e3]
  by_cases h1 : blankC (r.getD 0 0) = true
  · simp only [if_pos h1]
  · simp only [if_neg h1]
    by_cases h2 : Lib.hasPrefix r [47, 47] = true
    · simp only [if_pos h2]
      by_cases h3 : Lib.indexByte r 10 < 0
      · simp only [if_pos h3]
        intro hc
        subst hc
        rw [indexByte_all h3, if_neg (by omega)]
        simp
      · simp only [if_neg h3]
        rw [indexByte_app (k := (Lib.indexByte r 10).toNat) (by omega), if_neg (by omega)]
        rfl
    · simp only [if_neg h2]
      by_cases h3 : Lib.hasPrefix r [47, 42] = true
      · have hl := hasPrefix_len h3
        simp only [if_pos h3]
        rw [drop_app (by simpa using hl)]
        by_cases h4 : Lib.index (r.drop 2) [42, 47] < 0
        · simp only [if_pos h4]
          intro ht
          rw [if_pos (index_app_none hc h4 ht)]
        · simp only [if_neg h4]
          rw [index_app hc (k := (Lib.index (r.drop 2) [42, 47]).toNat) (by omega), if_neg (by omega)]
          rfl
      · simp only [if_neg h3]
end
theorem tok_take {r : List UInt8} (hr : r ≠ []) (h : (tokOf r).2.2.2 = 0) : (tokOf r).2.1.length ≤ r.length := (tokOf_len (List.length_pos_iff.2 hr) h).2
/-- Two texts with a blank between them. -/
theorem Lx.app {b : Bool} {r : List UInt8} {T : List TK} (h : Lx b r T) {c : UInt8} {t : List UInt8} {b' : Bool} {U : List TK} (hc : c = 10 ∨ (c = 32 ∧ b = false)) (k : Lx b' t U) : Lx b' (r ++ c :: t) (T ++ U) := by
  have hc' : c = 10 ∨ c = 32 := hc.imp_right And.left
  have one : Lx b' (c :: t) U := .blank (List.cons_ne_nil _ _) (n := 1) (by rcases hc' with rfl | rfl <;> rfl) k
  induction h with
  | nil => exact one
  | @blank b r n T hr h1 _ ih =>
    have e := blankS_app (t := t) hc' hr
    rw [h1] at e
    have hn := (blankS_go (List.length_pos_iff.2 hr) h1).2
    exact .blank (by simp) e (by rw [drop_app hn]; exact ih hc)
  | @all r hr h1 =>
    have e := blankS_app (t := t) hc' hr
    rw [h1] at e
    rcases hc with hc | ⟨_, hc⟩
    · exact .blank (by simp) (e hc) (by rw [drop_app (Nat.le_refl _), List.drop_length]; exact one)
    · cases hc
  | @tok b r T hr h1 h2 _ ih =>
    have e := blankS_app (t := t) hc' hr
    rw [h1] at e
    have e2 := tokOf_app (t := t) hr (hc.imp_right fun x => ⟨x.1, h2⟩)
    have k := Lx.tok (b := b') (r := r ++ c :: t) (T := T ++ U) (by simp) e (by rw [e2]; exact h2) (by rw [e2, drop_app (tok_take hr h2)]; exact ih hc)
    rw [tkA, e2] at k
    exact k
/-- A text that is read with a line's end and another text behind it is read alone. -/
theorem Lx.split {t : List UInt8} (ht : Lib.index t [42, 47] < 0) : ∀ (m : Nat) {r : List UInt8} {W : List TK}, r.length < m → Lx true (r ++ 10 :: t) W → ∃ T U, Lx true r T ∧ Lx true t U ∧ W = T ++ U
  | 0, r, W, hm, h => by omega
  | m + 1, r, W, hm, h => by
    by_cases hr : r = []
    · subst hr
      have := h.inv (List.cons_ne_nil _ _)
      exact ⟨[], W, .nil, this, rfl⟩
    · have hi := h.inv (by simp)
      have e := blankS_app (c := 10) (t := t) (.inl rfl) hr
      have hpos := List.length_pos_iff.2 hr
      split at e
      · rename_i n hn
        rw [e] at hi
        have hn2 := blankS_go hpos hn
        dsimp only at hi
        rw [drop_app hn2.2] at hi
        obtain ⟨T, U, h1, h2, h3⟩ := Lx.split ht m (by simp; omega) hi
        exact ⟨T, U, .blank hr hn h1, h2, h3⟩
      · rename_i hn
        rw [e rfl] at hi
        dsimp only at hi
        rw [drop_app (Nat.le_refl _), List.drop_length] at hi
        have := hi.inv (List.cons_ne_nil _ _)
        exact ⟨[], W, .all hr hn, this, rfl⟩
      · rw [e ht] at hi
        exact hi.elim
      · rename_i hn
        rw [e] at hi
        dsimp only at hi
        rw [tokOf_app hr (.inl rfl)] at hi
        obtain ⟨h2, T', rfl, k⟩ := hi
        have h5 := tokOf_len hpos h2
        rw [drop_app h5.2] at k
        obtain ⟨T, U, h1, h3, h4⟩ := Lx.split ht m (by simp; omega) k
        exact ⟨tkA r :: T, U, .tok hr hn h2 h1, h3, by rw [tkA, tokOf_app hr (.inl rfl), h4]; rfl⟩
end Go.Proofs.Ytjnineeeffecaaa
