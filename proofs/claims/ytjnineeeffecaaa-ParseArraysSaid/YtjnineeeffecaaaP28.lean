/- What the reader of tokens comes to, as rules; the parser at two sources whose tokens are alike. Plain Lean. -/
import Derived.Test.YtjnineeeffecaaaP18
namespace Go.Proofs.Ytjnineeeffecaaa
open Go
/-- A token without its place. -/
abbrev TK := Int × ByteArray × Int
@[reducible] def Tok.er (t : Tok) : TK := (t.kind, t.text, t.n)
@[reducible] def tkA (r : List UInt8) : TK := ((tokOf r).1, tx (tokOf r).2.1, (tokOf r).2.2.1)
/-- A text's tokens. (The sign says whether it may end in a note that no line ends.) -/
inductive Lx : Bool → List UInt8 → List TK → Prop
  | nil {b : Bool} : Lx b [] []
  | blank {b : Bool} {r : List UInt8} {n : Nat} {T : List TK} (h : r ≠ []) (h1 : blankS r = .go n) (k : Lx b (r.drop n) T) : Lx b r T
  | all {r : List UInt8} (h : r ≠ []) (h1 : blankS r = .all) : Lx true r []
  | tok {b : Bool} {r : List UInt8} {T : List TK} (h : r ≠ []) (h1 : blankS r = .stop) (h2 : (tokOf r).2.2.2 = 0) (k : Lx b (r.drop (tokOf r).2.1.length) T) : Lx b r (tkA r :: T)
theorem Lx.inv_nil {b : Bool} {T : List TK} (h : Lx b [] T) : T = [] := by
  cases h with
  | nil => rfl
  | blank h => exact absurd rfl h
  | all h => exact absurd rfl h
  | tok h => exact absurd rfl h
theorem Lx.inv {b : Bool} {r : List UInt8} {T : List TK} (h : Lx b r T) (hr : r ≠ []) : match blankS r with
    | .go n => Lx b (r.drop n) T
    | .all => b = true ∧ T = []
    | .opn => False
    | .stop => (tokOf r).2.2.2 = 0 ∧ ∃ T', T = tkA r :: T' ∧ Lx b (r.drop (tokOf r).2.1.length) T' := by
  cases h with
  | nil => exact absurd rfl hr
  | blank _ h1 k => rw [h1]; exact k
  | all _ h1 => rw [h1]; exact ⟨rfl, rfl⟩
  | tok _ h1 h2 k => rw [h1]; exact ⟨h2, _, rfl, k⟩
theorem Lx.det {b : Bool} {r : List UInt8} {T : List TK} (h : Lx b r T) : ∀ {b' : Bool} {U : List TK}, Lx b' r U → T = U := by
  induction h with
  | nil => exact fun k => k.inv_nil.symm
  | blank hr h1 _ ih =>
    intro b' U k
    have := k.inv hr
    rw [h1] at this
    exact ih this
  | all hr h1 =>
    intro b' U k
    have := k.inv hr
    rw [h1] at this
    exact this.2.symm
  | tok hr h1 h2 _ ih =>
    intro b' U k
    have := k.inv hr
    rw [h1] at this
    obtain ⟨_, T', rfl, k'⟩ := this
    rw [ih k']
theorem Lx.up {b : Bool} {r : List UInt8} {T : List TK} (h : Lx b r T) : Lx true r T := by
  induction h with
  | nil => exact .nil
  | blank hr h1 _ ih => exact .blank hr h1 ih
  | all hr h1 => exact .all hr h1
  | tok hr h1 h2 _ ih => exact .tok hr h1 h2 ih
theorem drop_ne {l : List UInt8} {a : Nat} (h : a < l.length) : l.drop a ≠ [] := fun e => by
  have := congrArg List.length e
  simp at this
  omega
theorem blankF_lx (l : List UInt8) : ∀ (f a : Nat), a ≤ l.length → l.length < f + a →
    ((blankF l f a).1 < 0 → ∀ U, ¬ Lx true (l.drop a) U) ∧ (¬ (blankF l f a).1 < 0 → (blankF l f a).1.toNat ≤ l.length ∧ (∀ U, Lx true (l.drop (blankF l f a).1.toNat) U ↔ Lx true (l.drop a) U) ∧ ((blankF l f a).1.toNat < l.length → blankS (l.drop (blankF l f a).1.toNat) = .stop))
  | 0, a, h, h2 => by omega
  | f + 1, a, h, h2 => by
    rw [blankF_succ]
    by_cases hlt : a < l.length
    · rw [if_pos hlt]
      have hne := drop_ne hlt
      cases hs : blankS (l.drop a) with
      | go n =>
        have h1 := blankS_go (by simp; omega) hs
        simp at h1
        have ih := blankF_lx l f (a + n) (by omega) (by omega)
        dsimp only
        have hd : ∀ U, Lx true (l.drop (a + n)) U ↔ Lx true (l.drop a) U := fun U => ⟨fun k => .blank hne hs (by rw [List.drop_drop]; exact k), fun k => by
          have := k.inv hne
          rw [hs] at this
          simpa [List.drop_drop] using this⟩
        refine ⟨fun h0 U k => ih.1 h0 U ((hd U).2 k), fun h0 => ?_⟩
        obtain ⟨i1, i2, i3⟩ := ih.2 h0
        exact ⟨i1, fun U => (i2 U).trans (hd U), i3⟩
      | all =>
        dsimp only
        refine ⟨fun h0 => by omega, fun _ => ⟨by omega, fun U => ?_, fun h0 => by omega⟩⟩
        rw [show ((l.length : Int)).toNat = l.length by omega, List.drop_length]
        constructor
        · intro k
          rw [k.inv_nil]
          exact .all hne hs
        · intro k
          have := k.inv hne
          rw [hs] at this
          rw [this.2]
          exact .nil
      | opn =>
        dsimp only
        refine ⟨fun _ U k => ?_, fun h0 => by omega⟩
        have := k.inv hne
        rw [hs] at this
        exact this
      | stop =>
        dsimp only
        refine ⟨fun h0 => by omega, fun _ => ?_⟩
        rw [show ((a : Int)).toNat = a by omega]
        exact ⟨h, fun U => Iff.rfl, fun _ => hs⟩
    · rw [if_neg hlt]
      dsimp only
      refine ⟨fun h0 => by omega, fun _ => ?_⟩
      rw [show ((a : Int)).toNat = a by omega]
      exact ⟨h, fun U => Iff.rfl, fun h0 => absurd h0 hlt⟩
theorem lexF_lx (l : List UInt8) : ∀ (f a : Nat) (T0 : List Tok), a ≤ l.length → l.length < f + a → match lexF l f a T0 with
    | .ok T => ∃ U, T = T0 ++ U ∧ Lx true (l.drop a) (U.map Tok.er)
    | .bad _ _ => ∀ U, ¬ Lx true (l.drop a) U
  | 0, a, T0, h, h2 => by omega
  | f + 1, a, T0, h, h2 => by
    have hb := blankF_lx (l.drop a) ((l.drop a).length + 1) 0 (Nat.zero_le _) (by omega)
    rw [show blankF (l.drop a) ((l.drop a).length + 1) 0 = blankP (l.drop a) from rfl, List.drop_zero] at hb
    have hbd := blankP_bound (l.drop a)
    simp only [List.length_drop] at hbd hb
    unfold lexF
    by_cases h1 : (blankP (l.drop a)).1 < 0
    · rw [if_pos h1]
      exact hb.1 h1
    · rw [if_neg h1]
      obtain ⟨b1, b2, b3⟩ := hb.2 h1
      simp only [List.drop_drop] at b2 b3
      generalize hn : (blankP (l.drop a)).1.toNat = n at *
      by_cases h3 : a + n = l.length
      · rw [if_pos h3]
        refine ⟨[], by simp, ?_⟩
        rw [h3, List.drop_length] at b2
        exact (b2 _).1 .nil
      · rw [if_neg h3]
        have hlt : a + n < l.length := by omega
        have hst := b3 (by omega)
        have hne := drop_ne hlt
        by_cases h4 : (tokOf (l.drop (a + n))).2.2.2 ≠ 0
        · rw [if_pos h4]
          intro U k
          have := ((b2 U).2 k).inv hne
          rw [hst] at this
          exact h4 this.1
        · rw [if_neg h4]
          have h4 := Decidable.not_not.1 h4
          have h5 := tokOf_len (l := l.drop (a + n)) (by simp; omega) h4
          simp only [List.length_drop] at h5
          have ih := lexF_lx l f (a + n + (tokOf (l.drop (a + n))).2.1.length) (T0 ++ [⟨(tokOf (l.drop (a + n))).1, ((a + n : Nat) : Int), tx (tokOf (l.drop (a + n))).2.1, (tokOf (l.drop (a + n))).2.2.1⟩]) (by omega) (by omega)
          split
          · rename_i T hT
            rw [hT] at ih
            obtain ⟨U, e, k⟩ := ih
            refine ⟨_ :: U, by rw [e, List.append_assoc]; rfl, (b2 _).1 (.tok hne hst h4 ?_)⟩
            rw [List.drop_drop]
            exact k
          · rename_i t k hT
            rw [hT] at ih
            intro U k
            have := ((b2 U).2 k).inv hne
            rw [hst] at this
            obtain ⟨_, T', _, k'⟩ := this
            rw [List.drop_drop] at k'
            exact ih _ k'
theorem lexS_lx {l : List UInt8} {T : List Tok} (h : lexS l = .ok T) : l.length ≤ 20000 ∧ Lx true l (T.map Tok.er) := by
  unfold lexS at h
  split at h
  · cases h
  · have := lexF_lx l (l.length + 1) 0 [] (Nat.zero_le _) (by omega)
    rw [h] at this
    obtain ⟨U, e, k⟩ := this
    rw [List.nil_append] at e
    exact ⟨by omega, by rw [e]; exact k⟩
theorem lx_lexS {l : List UInt8} {U : List TK} (h : Lx true l U) (hl : l.length ≤ 20000) : ∃ T, lexS l = .ok T ∧ T.map Tok.er = U := by
  have := lexF_lx l (l.length + 1) 0 [] (Nat.zero_le _) (by omega)
  unfold lexS
  rw [if_neg (by omega)]
  cases hT : lexF l (l.length + 1) 0 [] with
  | ok T =>
    rw [hT] at this
    obtain ⟨V, e, k⟩ := this
    rw [List.nil_append] at e
    subst e
    exact ⟨T, rfl, k.det h⟩
  | bad t k =>
    rw [hT] at this
    exact absurd h (this U)
/-! ### Behind a text a blank, and another text -/
section
variable {c : UInt8} {t : List UInt8}
theorem hp_app : ∀ (x r : List UInt8), c ∉ x → Lib.hasPrefix (r ++ c :: t) x = Lib.hasPrefix r x
  | [], r, _ => by simp [Lib.hasPrefix]
  | a :: x, [], h => by
    have : a ≠ c := fun e => h (by rw [e]; exact List.mem_cons_self)
    simp [Lib.hasPrefix, List.isPrefixOf, this]
  | a :: x, b :: r, h => by
    have ih := hp_app x r (fun h' => h (List.mem_cons_of_mem _ h'))
    simp only [Lib.hasPrefix] at ih ⊢
    simp only [List.cons_append, List.isPrefixOf, ih]
theorem find_congr {α : Type} {p q : α → Bool} : ∀ (l : List α), (∀ x ∈ l, p x = q x) → l.find? p = l.find? q
  | [], _ => rfl
  | a :: l, h => by rw [List.find?_cons, List.find?_cons, h a List.mem_cons_self, find_congr l (fun x hx => h x (List.mem_cons_of_mem _ hx))]
theorem sep_sign (hc : c = 10 ∨ c = 32) : ∀ x ∈ signL, c ∉ x := by
  rcases hc with rfl | rfl <;> decide
theorem signOf_app (hc : c = 10 ∨ c = 32) (r : List UInt8) : signOf (r ++ c :: t) = signOf r := by
  unfold signOf
  rw [find_congr signL (fun x hx => hp_app (c := c) (t := t) x r (sep_sign hc x hx))]
theorem sep_wordy (hc : c = 10 ∨ c = 32) : wordyB c = false := by
  rcases hc with rfl | rfl <;> decide
theorem wordN_app (hc : c = 10 ∨ c = 32) : ∀ r : List UInt8, wordN (r ++ c :: t) = wordN r
  | [] => by simp [wordN, sep_wordy hc]
  | b :: r => by rw [List.cons_append, wordN, wordN, wordN_app hc r]
theorem take_app {r : List UInt8} {n : Nat} (h : n ≤ r.length) : (r ++ c :: t).take n = r.take n := List.take_append_of_le_length h
theorem drop_app {r : List UInt8} {n : Nat} (h : n ≤ r.length) : (r ++ c :: t).drop n = r.drop n ++ c :: t := List.drop_append_of_le_length h
theorem head_app {r : List UInt8} (h : r ≠ []) : (r ++ c :: t).getD 0 0 = r.getD 0 0 := by
  cases r with
  | nil => exact absurd rfl h
  | cons => rfl
theorem figOf_app (hc : c = 10 ∨ c = 32) {r : List UInt8} (h : r ≠ []) (base : Int) (fr : Nat) : figOf (r ++ c :: t) base fr = figOf r base fr := by
  unfold figOf
  rw [wordN_app hc, take_app (wordN_le r), head_app h]
theorem sep_hex (hc : c = 10 ∨ c = 32) : c ∉ ([48, 120] : List UInt8) := by
  rcases hc with rfl | rfl <;> decide
theorem figure_app (hc : c = 10 ∨ c = 32) {r : List UInt8} (h : r ≠ []) : figure (r ++ c :: t) = figure r := by
  unfold figure
  rw [hp_app _ _ (sep_hex hc), figOf_app hc h, figOf_app hc h]
theorem badC_app {r : List UInt8} (hc : c = 10 ∨ (c = 32 ∧ ¬ badC r)) (h : r ≠ []) : badC (r ++ c :: t) ↔ badC r := by
  match r, h with
  | [a], _ =>
    rcases hc with rfl | ⟨rfl, hb⟩
    · simp [badC]
    · simp [badC] at hb
  | [a, b], _ =>
    rcases hc with rfl | ⟨rfl, hb⟩
    · simp [badC]
    · simp [badC] at hb
  | a :: b :: d :: r, _ => simp [badC]; omega
theorem tokOf_app {r : List UInt8} (h : r ≠ []) (hc : c = 10 ∨ (c = 32 ∧ (tokOf r).2.2.2 = 0)) : tokOf (r ++ c :: t) = tokOf r := by
  have hc' : c = 10 ∨ c = 32 := hc.imp_right And.left
  have hw := wordN_le r
  have e1 := head_app (c := c) (t := t) h
  have hb : ((r.getD 0 0).toNat : Int) = 39 → letterB (r.getD 0 0) = false → digitB (r.getD 0 0) = false → (badC (r ++ c :: t) ↔ badC r) := fun h39 hl hd => badC_app (hc.imp_right fun ⟨h1, h2⟩ => ⟨h1, fun hb => by
    unfold tokOf at h2
    rw [if_neg (fun e => Bool.false_ne_true (hl.symm.trans e)), if_neg (fun e => Bool.false_ne_true (hd.symm.trans e)), if_pos h39, if_pos hb] at h2
    simp at h2⟩) h
  unfold tokOf
  rw [e1, wordN_app hc', figure_app hc' h, signOf_app hc', take_app hw]
  by_cases hl : letterB (r.getD 0 0) = true
  · rw [if_pos hl, if_pos hl]
  · rw [if_neg hl, if_neg hl]
    by_cases hd : digitB (r.getD 0 0) = true
    · rw [if_pos hd, if_pos hd, take_app (by have := figure_le r; omega)]
    · rw [if_neg hd, if_neg hd]
      by_cases h39 : ((r.getD 0 0).toNat : Int) = 39
      · rw [if_pos h39, if_pos h39]
        have hb := hb h39 (by simpa using hl) (by simpa using hd)
        by_cases hbad : badC r
        · rw [if_pos (hb.2 hbad), if_pos hbad]
        · rw [if_neg (fun h => hbad (hb.1 h)), if_neg hbad]
          have : ¬ (r.length : Int) < 3 := fun h => hbad (.inl h)
          rw [take_app (by omega)]
          match r, this with
          | a :: b :: r, _ => rfl
          | [a], h => simp at h
          | [], h => simp at h
      · rw [if_neg h39, if_neg h39]
theorem indexByte_app {r : List UInt8} {k : Nat} (h : Lib.indexByte r 10 = k) (v : List UInt8) : Lib.indexByte (r ++ v) 10 = k := by
  induction r generalizing k with
  | nil => simp [Lib.indexByte] at h
  | cons b r ih =>
    simp only [List.cons_append, Lib.indexByte] at h ⊢
    by_cases hb : (b == 10) = true
    · rw [if_pos hb] at h ⊢
      exact h
    · rw [if_neg hb] at h ⊢
      by_cases hn : (Lib.indexByte r 10 == -1) = true
      · rw [if_pos hn] at h
        omega
      · rw [if_neg hn] at h
        have hg := Lib.indexByte_ge r 10
        have hn : Lib.indexByte r 10 ≠ -1 := by simpa using hn
        have := ih (k := (Lib.indexByte r 10).toNat) (by omega)
        rw [this, if_neg (by simp; omega)]
        omega
theorem indexByte_all {r : List UInt8} (h : Lib.indexByte r 10 < 0) (v : List UInt8) : Lib.indexByte (r ++ 10 :: v) 10 = r.length := by
  induction r with
  | nil => simp [Lib.indexByte]
  | cons b r ih =>
    simp only [List.cons_append, Lib.indexByte] at h ⊢
    by_cases hb : (b == 10) = true
    · rw [if_pos hb] at h
      omega
    · rw [if_neg hb] at h ⊢
      have hg := Lib.indexByte_ge r 10
      have : Lib.indexByte r 10 < 0 := by
        split at h
        · rename_i hn
          have : Lib.indexByte r 10 = -1 := by simpa using hn
          omega
        · omega
      rw [ih this, if_neg (by simp)]
      simp
theorem sep_note (hc : c = 10 ∨ c = 32) : c ∉ ([42, 47] : List UInt8) ∧ c ∉ ([47, 47] : List UInt8) ∧ c ∉ ([47, 42] : List UInt8) := by
  rcases hc with rfl | rfl <;> decide
theorem index_app (hc : c = 10 ∨ c = 32) {r : List UInt8} {k : Nat} (h : Lib.index r [42, 47] = k) : Lib.index (r ++ c :: t) [42, 47] = k := by
  induction r generalizing k with
  | nil => simp [Lib.index] at h
  | cons b r ih =>
    have hp : ([42, 47] : List UInt8).isPrefixOf (b :: (r ++ c :: t)) = ([42, 47] : List UInt8).isPrefixOf (b :: r) := hp_app (c := c) (t := t) [42, 47] (b :: r) (sep_note hc).1
    simp only [List.cons_append, Lib.index] at h ⊢
    rw [hp]
    by_cases hb : ([42, 47] : List UInt8).isPrefixOf (b :: r) = true
    · rw [if_pos hb] at h ⊢
      exact h
    · rw [if_neg hb] at h ⊢
      by_cases hn : (Lib.index r [42, 47] == -1) = true
      · rw [if_pos hn] at h
        omega
      · rw [if_neg hn] at h
        have hg := Lib.index_ge r [42, 47]
        have hn : Lib.index r [42, 47] ≠ -1 := by simpa using hn
        have := ih (k := (Lib.index r [42, 47]).toNat) (by omega)
        rw [this, if_neg (by simp; omega)]
        omega
theorem index_app_none (hc : c = 10 ∨ c = 32) {r : List UInt8} (h : Lib.index r [42, 47] < 0) (ht : Lib.index t [42, 47] < 0) : Lib.index (r ++ c :: t) [42, 47] < 0 := by
  induction r with
  | nil =>
    have hp : ([42, 47] : List UInt8).isPrefixOf (c :: t) = ([42, 47] : List UInt8).isPrefixOf [] := hp_app (c := c) (t := t) [42, 47] [] (sep_note hc).1
    have hg := Lib.index_ge t [42, 47]
    rw [List.nil_append, Lib.index, hp, if_neg (by simp), if_pos (by simp; omega)]
    omega
  | cons b r ih =>
    have hp : ([42, 47] : List UInt8).isPrefixOf (b :: (r ++ c :: t)) = ([42, 47] : List UInt8).isPrefixOf (b :: r) := hp_app (c := c) (t := t) [42, 47] (b :: r) (sep_note hc).1
    simp only [List.cons_append, Lib.index] at h ⊢
    rw [hp]
    by_cases hb : ([42, 47] : List UInt8).isPrefixOf (b :: r) = true
    · rw [if_pos hb] at h
      omega
    · rw [if_neg hb] at h ⊢
      have hg := Lib.index_ge r [42, 47]
      have hg2 := Lib.index_ge (r ++ c :: t) [42, 47]
      have : Lib.index r [42, 47] < 0 := by
        split at h
        · rename_i hn
          have : Lib.index r [42, 47] = -1 := by simpa using hn
          omega
        · omega
      have := ih this
      rw [if_pos (by simp; omega)]
      omega
/-- The first blank, or note, ahead of a blank and another text. -/
theorem blankS_app (hc : c = 10 ∨ c = 32) {r : List UInt8} (h : r ≠ []) : match blankS r with
    | .go n => blankS (r ++ c :: t) = .go n
    | .all => c = 10 → blankS (r ++ c :: t) = .go r.length
    | .opn => Lib.index t [42, 47] < 0 → blankS (r ++ c :: t) = .opn
    | .stop => blankS (r ++ c :: t) = .stop := by
  obtain ⟨n1, n2, n3⟩ := sep_note hc
  have e1 := head_app (c := c) (t := t) h
  have e2 := hp_app (c := c) (t := t) _ r n2
  have e3 := hp_app (c := c) (t := t) _ r n3
  unfold blankS
  rw [e1, e2, e3]
  by_cases h1 : blankC (r.getD 0 0) = true
  · simp only [if_pos h1]
  · simp only [if_neg h1]
    by_cases h2 : Lib.hasPrefix r [47, 47] = true
    · simp only [if_pos h2]
      by_cases h3 : Lib.indexByte r 10 < 0
      · simp only [if_pos h3]
        intro hc
        subst hc
        rw [indexByte_all h3, if_neg (by omega)]
        simp
      · simp only [if_neg h3]
        rw [indexByte_app (k := (Lib.indexByte r 10).toNat) (by omega), if_neg (by omega)]
        rfl
    · simp only [if_neg h2]
      by_cases h3 : Lib.hasPrefix r [47, 42] = true
      · have hl := hasPrefix_len h3
        simp only [if_pos h3]
        rw [drop_app (by simpa using hl)]
        by_cases h4 : Lib.index (r.drop 2) [42, 47] < 0
        · simp only [if_pos h4]
          intro ht
          rw [if_pos (index_app_none hc h4 ht)]
        · simp only [if_neg h4]
          rw [index_app hc (k := (Lib.index (r.drop 2) [42, 47]).toNat) (by omega), if_neg (by omega)]
          rfl
      · simp only [if_neg h3]
end
theorem tok_take {r : List UInt8} (hr : r ≠ []) (h : (tokOf r).2.2.2 = 0) : (tokOf r).2.1.length ≤ r.length := (tokOf_len (List.length_pos_iff.2 hr) h).2
/-- Two texts with a blank between them. -/
theorem Lx.app {b : Bool} {r : List UInt8} {T : List TK} (h : Lx b r T) {c : UInt8} {t : List UInt8} {b' : Bool} {U : List TK} (hc : c = 10 ∨ (c = 32 ∧ b = false)) (k : Lx b' t U) : Lx b' (r ++ c :: t) (T ++ U) := by
  have hc' : c = 10 ∨ c = 32 := hc.imp_right And.left
  have one : Lx b' (c :: t) U := .blank (List.cons_ne_nil _ _) (n := 1) (by rcases hc' with rfl | rfl <;> rfl) k
  induction h with
  | nil => exact one
  | @blank b r n T hr h1 _ ih =>
    have e := blankS_app (t := t) hc' hr
    rw [h1] at e
    have hn := (blankS_go (List.length_pos_iff.2 hr) h1).2
    exact .blank (by simp) e (by rw [drop_app hn]; exact ih hc)
  | @all r hr h1 =>
    have e := blankS_app (t := t) hc' hr
    rw [h1] at e
    rcases hc with hc | ⟨_, hc⟩
    · exact .blank (by simp) (e hc) (by rw [drop_app (Nat.le_refl _), List.drop_length]; exact one)
    · cases hc
  | @tok b r T hr h1 h2 _ ih =>
    have e := blankS_app (t := t) hc' hr
    rw [h1] at e
    have e2 := tokOf_app (t := t) hr (hc.imp_right fun x => ⟨x.1, h2⟩)
    have k := Lx.tok (b := b') (r := r ++ c :: t) (T := T ++ U) (by simp) e (by rw [e2]; exact h2) (by rw [e2, drop_app (tok_take hr h2)]; exact ih hc)
    rw [tkA, e2] at k
    exact k
/-- A text that is read with a line's end and another text behind it is read alone. -/
theorem Lx.split {t : List UInt8} (ht : Lib.index t [42, 47] < 0) : ∀ (m : Nat) {r : List UInt8} {W : List TK}, r.length < m → Lx true (r ++ 10 :: t) W → ∃ T U, Lx true r T ∧ Lx true t U ∧ W = T ++ U
  | 0, r, W, hm, h => by omega
  | m + 1, r, W, hm, h => by
    by_cases hr : r = []
    · subst hr
      have := h.inv (List.cons_ne_nil _ _)
      exact ⟨[], W, .nil, this, rfl⟩
    · have hi := h.inv (by simp)
      have e := blankS_app (c := 10) (t := t) (.inl rfl) hr
      have hpos := List.length_pos_iff.2 hr
      split at e
      · rename_i n hn
        rw [e] at hi
        have hn2 := blankS_go hpos hn
        dsimp only at hi
        rw [drop_app hn2.2] at hi
        obtain ⟨T, U, h1, h2, h3⟩ := Lx.split ht m (by simp; omega) hi
        exact ⟨T, U, .blank hr hn h1, h2, h3⟩
      · rename_i hn
        rw [e rfl] at hi
        dsimp only at hi
        rw [drop_app (Nat.le_refl _), List.drop_length] at hi
        have := hi.inv (List.cons_ne_nil _ _)
        exact ⟨[], W, .all hr hn, this, rfl⟩
      · rw [e ht] at hi
        exact hi.elim
      · rename_i hn
        rw [e] at hi
        dsimp only at hi
        rw [tokOf_app hr (.inl rfl)] at hi
        obtain ⟨h2, T', rfl, k⟩ := hi
        have h5 := tokOf_len hpos h2
        rw [drop_app h5.2] at k
        obtain ⟨T, U, h1, h3, h4⟩ := Lx.split ht m (by simp; omega) k
        exact ⟨tkA r :: T, U, .tok hr hn h2 h1, h3, by rw [tkA, tokOf_app hr (.inl rfl), h4]; rfl⟩
end Go.Proofs.Ytjnineeeffecaaa
namespace Go.Proofs.Ytjnineeeffecaaa
open Go
/-- Tokens alike from a place on, up to a place; or all of them (F). (E: the second source may be refused as too deep.) -/
structure Al (S S' : Src) (lo d M : Nat) (E F : Prop) : Prop where
  eq : ∀ n, lo ≤ n → n < M ∨ F → (due S n).er = (due S' (n + d)).er
  len : M + d ≤ S'.T.length
  lenF : F → S.T.length + d = S'.T.length
  ef : F → ¬ E
@[reducible] def stops : List ByteArray := signs.flatten ++ [tx [61], tx [42], tx [91], tx [46], tx [45, 62], tx [40]]
/-- Where the first source's part ends, the second one doesn't go on. -/
def Stp (S S' : Src) (lo d M : Nat) : Prop := lo ≤ M → ∀ t ∈ stops, isB S' [t] (M + d) = true → isB S [t] M = true
def RO (S : Src) (lo d M : Nat) (E F : Prop) {α : Type} (c i : Nat) (o o' : Out α) : Prop := lo ≤ i → match o with
  | .ok x j => i + c ≤ j ∧ j ≤ S.T.length ∧ (j ≤ M ∨ F → o' = .ok x (j + d) ∨ (E ∧ ∃ t, o' = .bad t 4))
  | .bad _ k => F → ∃ t, o' = .bad t k
def RR (S : Src) (lo d M : Nat) (E F : Prop) {α : Type} (c : Nat) (m m' : PM α) : Prop := ∀ i, i ≤ S.T.length → RO S lo d M E F c i (m i) (m' (i + d))
section
variable {S S' : Src} {lo d M : Nat} {E F : Prop} {α β : Type}
theorem due_end {n : Nat} (h : S.T.length ≤ n) : (due S n).kind = 0 := by
  unfold due
  rw [List.getElem?_eq_none h]
theorem isB_dl {ts : List ByteArray} {n : Nat} (h : isB S ts n = true) : n < S.T.length := by
  rcases Nat.lt_or_ge n S.T.length with h' | h'
  · exact h'
  · simp [isB, due_end h'] at h
theorem due_dl {n : Nat} {k : Int} (h : (due S n).kind = k) (hk : k ≠ 0) : n < S.T.length := by
  rcases Nat.lt_or_ge n S.T.length with h' | h'
  · exact h'
  · rw [due_end h'] at h
    exact absurd h.symm hk
theorem Al.kind (A : Al S S' lo d M E F) {n : Nat} (h : n < M ∨ F) (h0 : lo ≤ n := by omega) : (due S n).kind = (due S' (n + d)).kind := congrArg Prod.fst (A.eq n h0 h)
theorem Al.text (A : Al S S' lo d M E F) {n : Nat} (h : n < M ∨ F) (h0 : lo ≤ n := by omega) : (due S n).text = (due S' (n + d)).text := congrArg (fun x => x.2.1) (A.eq n h0 h)
theorem Al.num (A : Al S S' lo d M E F) {n : Nat} (h : n < M ∨ F) (h0 : lo ≤ n := by omega) : (due S n).n = (due S' (n + d)).n := congrArg (fun x => x.2.2) (A.eq n h0 h)
theorem Al.isB (A : Al S S' lo d M E F) {n : Nat} {ts : List ByteArray} (h : n < M ∨ F) (h0 : lo ≤ n := by omega) : isB S ts n = isB S' ts (n + d) := by
  unfold Go.Proofs.Ytjnineeeffecaaa.isB
  rw [A.kind h, A.text h]
theorem isB_any {ts : List ByteArray} {n : Nat} (h : isB S ts n = true) : ∃ t ∈ ts, isB S [t] n = true := by
  simp only [isB, Bool.and_eq_true, List.any_eq_true] at h ⊢
  obtain ⟨h1, t, h2, h3⟩ := h
  exact ⟨t, h2, h1, t, List.mem_cons_self, h3⟩
theorem isB_of {ts : List ByteArray} {n : Nat} {t : ByteArray} (ht : t ∈ ts) (h : isB S [t] n = true) : isB S ts n = true := by
  simp only [isB, Bool.and_eq_true, List.any_eq_true] at h ⊢
  obtain ⟨h1, t', h2, h3⟩ := h
  rw [List.mem_singleton.1 h2] at h3
  exact ⟨h1, t, ht, h3⟩
theorem mem1 {t : ByteArray} (h : t ∈ stops) : ∀ x ∈ [t], x ∈ stops := fun x hx => by rw [List.mem_singleton.1 hx]; exact h
/-- Where the first source stops, the second one does. -/
theorem Al.stop (A : Al S S' lo d M E F) (hs : Stp S S' lo d M) {n : Nat} {ts : List ByteArray} (ht : ∀ t ∈ ts, t ∈ stops) (hn : n ≤ M ∨ F) (h : ¬ Go.Proofs.Ytjnineeeffecaaa.isB S ts n = true) (h0 : lo ≤ n := by omega) : ¬ Go.Proofs.Ytjnineeeffecaaa.isB S' ts (n + d) = true := by
  by_cases hl : n < M ∨ F
  · rw [← A.isB hl]
    exact h
  · obtain rfl : n = M := by
      rcases hn with hn | hn
      · have : ¬ n < M := fun h => hl (.inl h)
        omega
      · exact absurd (.inr hn) hl
    intro h'
    obtain ⟨t, h1, h2⟩ := isB_any h'
    exact h (isB_of h1 (hs h0 t (ht t h1) h2))
theorem RO.mono {c c' i : Nat} {o o' : Out α} (h : RO S lo d M E F c i o o') (hc : c' ≤ c) : RO S lo d M E F c' i o o' := fun h0 => by
  have h := h h0
  cases o with
  | ok x j => exact ⟨by have := h.1; omega, h.2⟩
  | bad t k => exact h
theorem RO.from {c i k : Nat} {o o' : Out α} (h : RO S lo d M E F c (i + k) o o') : RO S lo d M E F (c + k) i o o' := fun h0 => by
  have h := h (by omega)
  cases o with
  | ok x j => exact ⟨by have := h.1; omega, h.2⟩
  | bad t k => exact h
/-- What takes a token looks at the same ones. -/
theorem RO.pick {c i k : Nat} {o o' X' : Out α} (h : RO S lo d M E F c i o o') (hc : k + 1 ≤ c) (e : lo ≤ i → i + k < M ∨ F → X' = o') : RO S lo d M E F c i o X' := fun h0 => by
  have h := h h0
  cases o with
  | ok x j =>
    refine ⟨h.1, h.2.1, fun hj => ?_⟩
    rw [e h0 (hj.imp_left fun _ => by have := h.1; omega)]
    exact h.2.2 hj
  | bad t k =>
    intro hF
    rw [e h0 (.inr hF)]
    exact h hF
theorem RO.pick0 {c i : Nat} {o o' X' : Out α} (h : RO S lo d M E F c i o o') (hc : 1 ≤ c) (e : lo ≤ i → i < M ∨ F → X' = o') : RO S lo d M E F c i o X' := RO.pick (k := 0) h hc e
theorem RO.ok {i j c : Nat} {x : α} {X' : Out α} (h1 : i + c ≤ j) (h2 : j ≤ S.T.length) (h : lo ≤ i → j ≤ M ∨ F → X' = .ok x (j + d)) : RO S lo d M E F c i (.ok x j) X' := fun h0 => ⟨h1, h2, fun hj => .inl (h h0 hj)⟩
theorem RO.bindE {c1 c2 i M1 : Nat} {m m' : PM α} {f f' : α → PM β} (ef : F → ¬ E) (h : RO S lo d M1 E F c1 i (m i) (m' (i + d))) (hM : M ≤ M1 + c2)
    (k : ∀ a j, m i = .ok a j → i + c1 ≤ j → j ≤ S.T.length → RO S lo d M E F c2 j (f a j) (f' a (j + d))) : RO S lo d M E F (c1 + c2) i (m.bind f i) (m'.bind f' (i + d)) := fun h0 => by
  have h := h h0
  unfold PM.bind
  cases hm : m i with
  | bad t e =>
    rw [hm] at h
    intro hF
    obtain ⟨t', h'⟩ := h hF
    exact ⟨t', by rw [h']⟩
  | ok a j =>
    rw [hm] at h
    obtain ⟨h1, h2, h3⟩ := h
    have k := k a j hm h1 h2 (by omega)
    dsimp only
    cases hf : f a j with
    | bad t e =>
      rw [hf] at k
      intro hF
      obtain ⟨t', h'⟩ := k hF
      rcases h3 (.inr hF) with h3 | ⟨hE, _⟩
      · exact ⟨t', by rw [h3]; exact h'⟩
      · exact absurd hE (ef hF)
    | ok b l =>
      rw [hf] at k
      obtain ⟨k1, k2, k3⟩ := k
      refine ⟨by omega, k2, fun hl => ?_⟩
      rcases h3 (by rcases hl with hl | hl; exact .inl (by omega); exact .inr hl) with h3 | ⟨hE, t, h3⟩
      · rw [h3]
        exact k3 hl
      · exact .inr ⟨hE, t, by rw [h3]⟩
theorem RO.bind {c1 c2 i M1 : Nat} {m m' : PM α} {f f' : α → PM β} (ef : F → ¬ E) (h : RO S lo d M1 E F c1 i (m i) (m' (i + d))) (hM : M ≤ M1 + c2)
    (k : ∀ a j, i + c1 ≤ j → j ≤ S.T.length → RO S lo d M E F c2 j (f a j) (f' a (j + d))) : RO S lo d M E F (c1 + c2) i (m.bind f i) (m'.bind f' (i + d)) :=
  RO.bindE ef h hM fun a j _ h1 h2 => k a j h1 h2
theorem RR.mono {c c' : Nat} {m m' : PM α} (h : RR S lo d M E F c m m') (hc : c' ≤ c) : RR S lo d M E F c' m m' := fun i hi => (h i hi).mono hc
theorem RR.bind {c1 c2 M1 : Nat} {m m' : PM α} {f f' : α → PM β} (ef : F → ¬ E) (h : RR S lo d M1 E F c1 m m') (hM : M ≤ M1 + c2) (k : ∀ a, RR S lo d M E F c2 (f a) (f' a)) : RR S lo d M E F (c1 + c2) (m.bind f) (m'.bind f') :=
  fun i hi => RO.bind ef (h i hi) hM fun a j _ hj => k a j hj
theorem RR.pure {a : α} : RR S lo d M E F 0 (PM.pure a) (PM.pure a) := fun i hi => RO.ok (Nat.le_refl _) hi fun _ _ => rfl
/-- From the next token on. -/
theorem RR.next {c : Nat} {m m' : PM α} (h : RR S lo d M E F c m m') {i : Nat} (hi : i < S.T.length) : RO S lo d M E F (c + 1) i (m (i + 1)) (m' (i + d + 1)) := by
  rw [Nat.add_right_comm]
  exact RO.from (h (i + 1) hi)
/-- A test at a place within reach. -/
theorem RO.iteP {P P' : Prop} [Decidable P] [Decidable P'] {c i k : Nat} {a b a' b' : Out α} (hc : k + 1 ≤ c) (e : lo ≤ i → i + k < M ∨ F → (P ↔ P')) (h1 : P → RO S lo d M E F c i a a') (h2 : ¬ P → RO S lo d M E F c i b b') :
    RO S lo d M E F c i (if P then a else b) (if P' then a' else b') := by
  by_cases h : P
  · rw [if_pos h]
    exact (h1 h).pick hc fun h0 hl => by rw [if_pos ((e h0 hl).1 h)]
  · rw [if_neg h]
    exact (h2 h).pick hc fun h0 hl => by rw [if_neg (fun h' => h ((e h0 hl).2 h'))]
theorem RO.ite (A : Al S S' lo d M E F) {ts : List ByteArray} {c i : Nat} {a b a' b' : Out α} (hc : 1 ≤ c) (h1 : isB S ts i = true → RO S lo d M E F c i a a') (h2 : ¬ isB S ts i = true → RO S lo d M E F c i b b') :
    RO S lo d M E F c i (if isB S ts i = true then a else b) (if isB S' ts (i + d) = true then a' else b') :=
  RO.iteP (k := 0) hc (fun _ hl => by rw [A.isB (n := i) hl]) h1 h2
theorem RO.ite0 (A : Al S S' lo d M E F) (hs : Stp S S' lo d M) {ts : List ByteArray} (ht : ∀ t ∈ ts, t ∈ stops) {i : Nat} {x : α} {a a' : Out α} (hi : i ≤ S.T.length) (h1 : isB S ts i = true → RO S lo d M E F 1 i a a') :
    RO S lo d M E F 0 i (if isB S ts i = true then a else .ok x i) (if isB S' ts (i + d) = true then a' else .ok x (i + d)) := by
  by_cases h : isB S ts i = true
  · rw [if_pos h]
    exact ((h1 h).pick0 (Nat.le_refl _) fun _ hl => by rw [if_pos ((A.isB hl).symm.trans h)]).mono (Nat.zero_le _)
  · rw [if_neg h]
    exact RO.ok (Nat.le_refl _) hi fun _ hl => by rw [if_neg (A.stop hs ht hl h)]
theorem RO.bad {c i : Nat} {t t' k : Int} : RO S lo d M E F (α := α) c i (.bad t k) (.bad t' k) := fun _ _ => ⟨_, rfl⟩
/-! ### The rules -/
variable (A : Al S S' lo d M E F)
include A
theorem must_R {t : ByteArray} : RR S lo d M E F 1 (must S t) (must S' t) := fun i hi => by
  unfold must
  by_cases h : isB S [t] i = true
  · rw [if_pos h]
    refine RO.pick0 (o' := .ok () (i + 1 + d)) (RO.ok (Nat.le_refl _) (isB_dl h) fun _ _ => rfl) (Nat.le_refl _) fun _ hi => ?_
    rw [if_pos ((A.isB hi).symm.trans h), Nat.add_right_comm]
  · rw [if_neg h]
    intro _ hF
    rw [if_neg (fun h' => h ((A.isB (.inr hF)).trans h'))]
    exact ⟨_, rfl⟩
theorem name_R : RR S lo d M E F 1 (name S) (name S') := fun i hi => by
  unfold name
  by_cases h : (due S i).kind = 1
  · rw [if_pos h]
    refine RO.pick0 (o' := .ok (due S i).text (i + 1 + d)) (RO.ok (Nat.le_refl _) (due_dl h (by decide)) fun _ _ => rfl) (Nat.le_refl _) fun _ hi => ?_
    rw [if_pos ((A.kind hi).symm.trans h), Nat.add_right_comm, A.text hi]
  · rw [if_neg h]
    intro _ hF
    rw [if_neg (fun h' => h ((A.kind (.inr hF)).trans h'))]
    exact ⟨_, rfl⟩
theorem base_R : RR S lo d M E F 1 (base S) (base S') := fun i hi => by
  unfold base typed
  by_cases h : isB S (words.map (·.1)) i = true
  · rw [if_pos h]
    have hl := isB_dl h
    dsimp only
    by_cases hk : wordOf (due S i).text words = 7 ∨ wordOf (due S i).text words = 8
    · rw [if_pos hk]
      refine RO.pick0 ((((name_R A).bind (c2 := 0) A.ef (Nat.le_refl _) fun s => RR.pure (a := Ty.mk (wordOf (due S i).text words) 0 s [])).next hl).mono (c' := 1) (by omega)) (Nat.le_refl _) fun _ hi => ?_
      rw [if_pos ((A.isB hi).symm.trans h), ← A.text hi, if_pos hk]
    · rw [if_neg hk]
      refine RO.pick0 (o' := .ok _ (i + 1 + d)) (RO.ok (Nat.le_refl _) hl fun _ _ => rfl) (Nat.le_refl _) fun _ hi => ?_
      rw [if_pos ((A.isB hi).symm.trans h), ← A.text hi, if_neg hk, Nat.add_right_comm]
  · rw [if_neg h]
    intro _ hF
    rw [if_neg (fun h' => h ((A.isB (.inr hF)).trans h'))]
    exact ⟨_, rfl⟩
omit A in
theorem base_kind {i j : Nat} {b : Ty} (h : base S i = .ok b j) (hk : b.kind = 7 ∨ b.kind = 8) : j = i + 2 := by
  unfold base at h
  split at h
  · dsimp only at h
    split at h
    · unfold PM.bind name at h
      split at h
      · rename_i h1
        split at h1
        · cases h1
          cases h
          rfl
        · cases h1
      · cases h
    · rename_i hn
      cases h
      exact absurd hk hn
  · cases h
/-- How far the second source goes. -/
theorem Al.far {i : Nat} (hi : i ≤ S.T.length) (h : i < M ∨ F) : i + d ≤ S'.T.length := by
  have := A.len
  rcases h with h | h
  · omega
  · have := A.lenF h
    omega
variable (hs : Stp S S' lo d M)
include hs
theorem starsF_R : ∀ (f f' : Nat) (t : Ty) (i : Nat), i ≤ S.T.length → S.T.length < f + i → S'.T.length < f' + (i + d) → RO S lo d M E F 0 i (starsF S f t i) (starsF S' f' t (i + d))
  | 0, f', t, i, hi, h, h' => by omega
  | f + 1, f', t, i, hi, h, h' => by
    rw [starsF]
    dsimp only
    by_cases hb : isB S [tx [42]] i = true
    · rw [if_pos hb]
      have ih := starsF_R f (f' - 1) (ptr t) (i + 1) (isB_dl hb) (by omega) (by omega)
      refine (RO.pick0 ih.from (by omega) fun _ hl => ?_).mono (Nat.zero_le _)
      have := A.far hi hl
      obtain ⟨g, rfl⟩ : ∃ g, f' = g + 1 := ⟨f' - 1, by omega⟩
      rw [starsF]
      dsimp only
      rw [if_pos ((A.isB hl).symm.trans hb), Nat.add_right_comm]
      rfl
    · rw [if_neg hb]
      refine RO.ok (Nat.le_refl _) hi fun _ hl => ?_
      cases f' with
      | zero => rfl
      | succ g =>
        rw [starsF]
        dsimp only
        rw [if_neg (A.stop hs (mem1 (by simp [stops, signs])) hl hb)]
theorem stars_R {t : Ty} : RR S lo d M E F 0 (stars S t) (stars S' t) := fun i hi => starsF_R A hs _ _ _ _ hi (by omega) (by omega)
theorem arraysF_R : ∀ (f f' : Nat) (l : List Int) (i : Nat), i ≤ S.T.length → S.T.length < f + i → S'.T.length < f' + (i + d) → RO S lo d M E F 0 i (arraysF S f l i) (arraysF S' f' l (i + d))
  | 0, f', l, i, hi, h, h' => by omega
  | f + 1, f', l, i, hi, h, h' => by
    rw [arraysF]
    dsimp only
    by_cases hb : isB S [tx [91]] i = true
    · have hb' : ∀ {g}, f' = g + 1 → lo ≤ i → i < M ∨ F → arraysF S' f' l (i + d) = if (due S' (i + d + 1)).kind ≠ 3 then .bad (due S' (i + d + 1)).pos 2 else if (due S' (i + d + 1)).n < 1 ∨ 4096 < (due S' (i + d + 1)).n then .bad (due S' (i + d + 1)).pos 5 else
          (must S' (tx [93])).bind (fun _ => arraysF S' g (l ++ [(due S' (i + d + 1)).n])) (i + d + 2) := fun e _ hl => by
        rw [e, arraysF]
        dsimp only
        rw [if_pos ((A.isB hl).symm.trans hb)]
      rw [if_pos hb]
      have hf : i < M ∨ F → ∃ g, f' = g + 1 := fun hl => by
        have := A.far hi hl
        exact ⟨f' - 1, by omega⟩
      by_cases h3 : (due S (i + 1)).kind ≠ 3
      · rw [if_pos h3]
        intro _ hF
        obtain ⟨g, e⟩ := hf (.inr hF)
        rw [hb' e (by assumption) (.inr hF), Nat.add_right_comm, if_pos (by rw [← A.kind (.inr hF)]; exact h3)]
        exact ⟨_, rfl⟩
      · rw [if_neg h3]
        have hl := due_dl (Decidable.not_not.1 h3) (by decide)
        by_cases h4 : (due S (i + 1)).n < 1 ∨ 4096 < (due S (i + 1)).n
        · rw [if_pos h4]
          intro _ hF
          obtain ⟨g, e⟩ := hf (.inr hF)
          rw [hb' e (by assumption) (.inr hF), Nat.add_right_comm, if_neg (by rw [← A.kind (.inr hF)]; exact h3), if_pos (by rw [← A.num (.inr hF)]; exact h4)]
          exact ⟨_, rfl⟩
        · rw [if_neg h4]
          have ih := RO.bind (c2 := 0) (f := fun _ => arraysF S f (l ++ [(due S (i + 1)).n])) (f' := fun _ => arraysF S' (f' - 1) (l ++ [(due S (i + 1)).n])) A.ef (must_R A (t := tx [93]) (i + 2) hl) (Nat.le_refl _) fun _ j hj hj2 => arraysF_R f (f' - 1) (l ++ [(due S (i + 1)).n]) j hj2 (by omega) (by omega)
          refine (RO.pick (k := 1) ih.from (by omega) fun _ hl => ?_).mono (Nat.zero_le _)
          obtain ⟨g, rfl⟩ := hf (hl.imp_left fun _ => by omega)
          rw [hb' rfl (by assumption) (hl.imp_left fun _ => by omega), show i + d + 1 = i + 1 + d by omega, ← A.kind hl, ← A.num hl, if_neg h3, if_neg h4, show i + d + 2 = i + 2 + d by omega]
          rfl
    · rw [if_neg hb]
      refine RO.ok (Nat.le_refl _) hi fun _ hl => ?_
      cases f' with
      | zero => rfl
      | succ g =>
        rw [arraysF]
        dsimp only
        rw [if_neg (A.stop hs (mem1 (by simp [stops, signs])) hl hb)]
theorem arrays_R : RR S lo d M E F 0 (arrays S) (arrays S') := fun i hi => arraysF_R A hs _ _ _ _ hi (by omega) (by omega)
end
end Go.Proofs.Ytjnineeeffecaaa
namespace Go.Proofs.Ytjnineeeffecaaa
open Go
section
variable {S S' : Src} {lo d M : Nat} {E F : Prop} {α β : Type} (A : Al S S' lo d M E F)
include A
theorem listF_R {one one' : PM α} (h : RR S lo d M E F 0 one one') : ∀ (f : Nat) (l : List α), RR S lo d M E F 1 (listF S one f l) (listF S' one' f l)
  | 0, l => fun i hi => by
    unfold listF
    exact RO.ite A (Nat.le_refl _) (fun hb => RR.next (m := PM.pure l) (m' := PM.pure l) RR.pure (isB_dl hb)) fun _ => RO.bad
  | f + 1, l => fun i hi => by
    unfold listF
    dsimp only
    refine RO.ite A (Nat.le_refl _) (fun hb => RR.next (m := PM.pure l) (m' := PM.pure l) RR.pure (isB_dl hb)) fun _ => ?_
    refine RO.bind (c1 := 0) (c2 := 1) (M1 := M) A.ef ?_ (by omega) fun _ j _ hj => ?_
    · split
      · exact RR.pure i hi
      · exact (must_R A i hi).mono (Nat.zero_le _)
    · refine RO.bind (c1 := 0) (c2 := 1) (M1 := M) A.ef (h j hj) (by omega) fun a j _ hj => ?_
      exact RO.ite A (Nat.le_refl _) (fun _ => listF_R h f (l ++ [a]) j hj) fun _ => RO.bad
theorem list_R {one one' : PM α} (h : RR S lo d M E F 0 one one') : RR S lo d M E F 2 (list S one) (list S' one') :=
  (must_R A).bind (c2 := 1) A.ef (by omega) fun _ => listF_R A h 6 []
theorem asksB_R {ask ask' : PM Ty} (h : RR S lo d M E F 0 ask ask') {t : Ty} : RR S lo d M E F 2 (asksB S ask t) (asksB S' ask' t) :=
  (list_R A h).bind (c2 := 0) A.ef (by omega) fun _ => RR.pure
theorem bracedB_R {ex ex' : PM Nd} (h : RR S lo d M E F 0 ex ex') : RR S lo d M E F 2 (bracedB S ex) (bracedB S' ex') :=
  (must_R A).bind (c2 := 1) A.ef (by omega) fun _ => h.bind (c1 := 0) (c2 := 1) A.ef (by omega) fun _ => (must_R A).bind (c2 := 0) A.ef (by omega) fun _ => RR.pure
theorem termB_R {ex ex' : PM Nd} (h : RR S lo d M E F 0 ex ex') : RR S lo d M E F 1 (termB S ex) (termB S' ex') := fun i hi => by
  unfold termB
  refine RO.iteP (k := 0) (Nat.le_refl _) (fun _ hl => by rw [A.kind (n := i) hl]) (fun h3 => ?_) fun _ => ?_
  · refine RO.pick0 (RR.next (m := PM.pure (Nd.mk 1 (tx []) (due S i).n .nil [])) (m' := PM.pure (Nd.mk 1 (tx []) (due S i).n .nil [])) RR.pure (due_dl h3 (by decide))) (Nat.le_refl _) fun _ hl => ?_
    rw [← A.num hl]
    rfl
  · exact RO.ite A (Nat.le_refl _) (fun _ => (bracedB_R A h i hi).mono (by omega)) fun _ => ((name_R A).bind (c2 := 0) A.ef (by omega) fun _ => RR.pure) i hi
/-- A term that begins with a bracket takes two. -/
theorem termB_two {ex ex' : PM Nd} (h : RR S lo d M E F 0 ex ex') {i : Nat} (hi : i ≤ S.T.length) (hb : isB S [tx [40]] i = true) : RO S lo d M E F 2 i (termB S ex i) (termB S' ex' (i + d)) := by
  have h3 : ¬ (due S i).kind = 3 := fun e => by
    unfold isB at hb
    rw [e] at hb
    simp at hb
  unfold termB
  rw [if_neg h3, if_pos hb]
  refine (bracedB_R A h i hi).pick0 (by omega) fun _ hl => ?_
  rw [if_neg (by rw [← A.kind hl]; exact h3), if_pos ((A.isB hl).symm.trans hb)]
variable (hs : Stp S S' lo d M)
include hs
theorem askB_R {ask ask' : PM Ty} (h : RR S lo d M E F 0 ask ask') : RR S lo d M E F 1 (askB S ask) (askB S' ask') :=
  (base_R A).bind (c2 := 0) A.ef (by omega) fun b => (stars_R A hs).bind (c2 := 0) A.ef (by omega) fun t => fun i hi =>
    RO.ite0 A hs (mem1 (by simp [stops, signs])) hi fun hb => (RR.next ((must_R A).bind (c2 := 0) A.ef (by omega) fun _ => ((must_R A).bind (c2 := 0) A.ef (by omega) fun _ => ((asksB_R A h).bind (c2 := 0) A.ef (by omega) fun _ => RR.pure).mono (Nat.zero_le _)).mono (Nat.zero_le _)) (isB_dl hb)).mono (by omega)
theorem askL_R : ∀ n, RR S lo d M E F 1 (askL S n) (askL S' n)
  | 0 => fun i hi => RO.bad
  | n + 1 => askB_R A hs ((askL_R n).mono (Nat.zero_le _))
theorem askL_RE (hE : E) : ∀ n n', n' ≤ n → RR S lo d M E F 1 (askL S n) (askL S' n')
  | n, 0, _ => fun i hi => by
    intro h0
    have h := askL_R A hs n i hi h0
    cases hm : askL S n i with
    | ok x j =>
      rw [hm] at h
      exact ⟨h.1, h.2.1, fun _ => .inr ⟨hE, _, rfl⟩⟩
    | bad t k => exact fun hF => absurd hE (A.ef hF)
  | 0, n' + 1, h => by omega
  | n + 1, n' + 1, h => askB_R A hs ((askL_RE hE n n' (by omega)).mono (Nat.zero_le _))
theorem declB_R {ask ask' : PM Ty} (h : RR S lo d M E F 0 ask ask') {b : Ty} : RR S lo d M E F 1 (declB S ask b) (declB S' ask' b) :=
  (stars_R A hs).bind (c1 := 0) (c2 := 1) A.ef (by omega) fun t => fun i hi =>
    RO.ite A (Nat.le_refl _) (fun hb => (RR.next ((must_R A).bind (c2 := 0) A.ef (by omega) fun _ => ((name_R A).bind (c2 := 0) A.ef (by omega) fun s => (arrays_R A hs).bind (c1 := 0) (c2 := 0) A.ef (by omega) fun l => ((must_R A).bind (c2 := 0) A.ef (by omega) fun _ => ((asksB_R A h).bind (c2 := 0) A.ef (by omega) fun _ => RR.pure).mono (Nat.zero_le _)).mono (Nat.zero_le _)).mono (Nat.zero_le _)) (isB_dl hb)).mono (by omega))
      fun _ => ((name_R A).bind (c2 := 0) A.ef (by omega) fun s => (arrays_R A hs).bind (c1 := 0) (c2 := 0) A.ef (by omega) fun l => RR.pure) i hi
theorem postF_R {ex ex' : PM Nd} (h : RR S lo d M E F 0 ex ex') : ∀ (f f' : Nat) (x : Nd) (i : Nat), i ≤ S.T.length → S.T.length < f + i → S'.T.length < f' + (i + d) → RO S lo d M E F 0 i (postF S ex f x i) (postF S' ex' f' x (i + d))
  | 0, f', x, i, hi, h1, h2 => by omega
  | f + 1, f', x, i, hi, h1, h2 => by
    have hf : i < M ∨ F → ∃ g, f' = g + 1 := fun hl => by
      have := A.far hi hl
      exact ⟨f' - 1, by omega⟩
    rw [postF]
    dsimp only
    by_cases b1 : isB S [tx [91]] i = true
    · rw [if_pos b1]
      have k : RO S lo d M E F 1 (i + 1) _ _ := RO.bind (c1 := 0) (c2 := 1) (f' := fun y => (must S' (tx [93])).bind fun _ => postF S' ex' (f' - 1) (.mk 6 (tx []) 0 .nil [x, y])) A.ef (h (i + 1) (isB_dl b1)) (by omega) fun y j hj hj2 => RO.bind (c1 := 1) (c2 := 0) (f' := fun _ => postF S' ex' (f' - 1) (.mk 6 (tx []) 0 .nil [x, y])) A.ef (must_R A j hj2) (by omega) fun _ l hl hl2 => postF_R h f (f' - 1) _ l hl2 (by omega) (by omega)
      refine (RO.pick0 k.from (by omega) fun _ hl => ?_).mono (Nat.zero_le _)
      obtain ⟨g, rfl⟩ := hf hl
      rw [postF]
      dsimp only
      rw [if_pos ((A.isB hl).symm.trans b1), Nat.add_right_comm]
      rfl
    rw [if_neg b1]
    by_cases b2 : isB S [tx [46]] i = true
    · rw [if_pos b2]
      have k : RO S lo d M E F 1 (i + 1) _ _ := RO.bind (c1 := 1) (c2 := 0) (f' := fun s => postF S' ex' (f' - 1) (.mk 7 s 0 .nil [x])) A.ef (name_R A (i + 1) (isB_dl b2)) (by omega) fun s l hl hl2 => postF_R h f (f' - 1) _ l hl2 (by omega) (by omega)
      refine (RO.pick0 k.from (by omega) fun _ hl => ?_).mono (Nat.zero_le _)
      obtain ⟨g, rfl⟩ := hf hl
      rw [postF]
      dsimp only
      rw [if_neg (by rw [← A.isB hl]; exact b1), if_pos ((A.isB hl).symm.trans b2), Nat.add_right_comm]
      rfl
    rw [if_neg b2]
    by_cases b3 : isB S [tx [45, 62]] i = true
    · rw [if_pos b3]
      have k : RO S lo d M E F 1 (i + 1) _ _ := RO.bind (c1 := 1) (c2 := 0) (f' := fun s => postF S' ex' (f' - 1) (.mk 8 s 0 .nil [x])) A.ef (name_R A (i + 1) (isB_dl b3)) (by omega) fun s l hl hl2 => postF_R h f (f' - 1) _ l hl2 (by omega) (by omega)
      refine (RO.pick0 k.from (by omega) fun _ hl => ?_).mono (Nat.zero_le _)
      obtain ⟨g, rfl⟩ := hf hl
      rw [postF]
      dsimp only
      rw [if_neg (by rw [← A.isB hl]; exact b1), if_neg (by rw [← A.isB hl]; exact b2), if_pos ((A.isB hl).symm.trans b3), Nat.add_right_comm]
      rfl
    rw [if_neg b3]
    by_cases b4 : isB S [tx [40]] i = true
    · rw [if_pos b4]
      have k : RO S lo d M E F 2 i _ _ := RO.bind (c1 := 2) (c2 := 0) (f' := fun l => postF S' ex' (f' - 1) (.mk 9 (tx []) 0 .nil (x :: l))) A.ef (list_R A h i hi) (by omega) fun s l hl hl2 => postF_R h f (f' - 1) _ l hl2 (by omega) (by omega)
      refine (RO.pick0 k (by omega) fun _ hl => ?_).mono (Nat.zero_le _)
      obtain ⟨g, rfl⟩ := hf hl
      rw [postF]
      dsimp only
      rw [if_neg (by rw [← A.isB hl]; exact b1), if_neg (by rw [← A.isB hl]; exact b2), if_neg (by rw [← A.isB hl]; exact b3), if_pos ((A.isB hl).symm.trans b4)]
      rfl
    rw [if_neg b4]
    refine RO.ok (Nat.le_refl _) hi fun _ hl => ?_
    cases f' with
    | zero => rfl
    | succ g =>
      rw [postF]
      dsimp only
      rw [if_neg (A.stop hs (mem1 (by simp [stops, signs])) hl b1), if_neg (A.stop hs (mem1 (by simp [stops, signs])) hl b2), if_neg (A.stop hs (mem1 (by simp [stops, signs])) hl b3), if_neg (A.stop hs (mem1 (by simp [stops, signs])) hl b4)]
theorem postB_R {ex ex' : PM Nd} (h : RR S lo d M E F 0 ex ex') : RR S lo d M E F 1 (postB S ex) (postB S' ex') := fun i hi =>
  RO.bind (c2 := 0) A.ef (termB_R A h i hi) (by omega) fun x j hj hj2 => postF_R A hs h _ _ _ _ hj2 (by omega) (by omega)
theorem postB_two {ex ex' : PM Nd} (h : RR S lo d M E F 0 ex ex') {i : Nat} (hi : i ≤ S.T.length) (hb : isB S [tx [40]] i = true) : RO S lo d M E F 2 i (postB S ex i) (postB S' ex' (i + d)) :=
  RO.bind (c2 := 0) A.ef (termB_two A h hi hb) (by omega) fun x j hj hj2 => postF_R A hs h _ _ _ _ hj2 (by omega) (by omega)
theorem unaryB_R {ex ex' un un' : PM Nd} {ask ask' : PM Ty} (h : RR S lo d M E F 0 ex ex') (hu : RR S lo d M E F 0 un un') (ha : RR S lo d M E F 1 ask ask') : RR S lo d M E F 1 (unaryB S ex un ask) (unaryB S' ex' un' ask') := fun i hi => by
  unfold unaryB
  refine RO.ite A (Nat.le_refl _) (fun hb => ?_) fun _ => ?_
  · refine RO.pick0 (RR.next (hu.bind (c2 := 0) (f := fun x => PM.pure (Nd.mk 3 (due S i).text 0 .nil [x])) (f' := fun x => PM.pure (Nd.mk 3 (due S i).text 0 .nil [x])) A.ef (by omega) fun _ => RR.pure) (isB_dl hb)) (by omega) fun _ hl => ?_
    rw [A.text hl]
  · have cast : ∀ {i}, i < S.T.length → RO S lo d M E F 3 i (((ask.bind fun t => (must S (tx [41])).bind fun _ => un.bind fun x => .pure (Nd.mk 10 (tx []) 0 t [x])) (i + 1)) : Out Nd) ((ask'.bind fun t => (must S' (tx [41])).bind fun _ => un'.bind fun x => .pure (Nd.mk 10 (tx []) 0 t [x])) (i + d + 1)) := fun hi =>
      RR.next (ha.bind (c2 := 1) A.ef (by omega) fun t => (must_R A).bind (c2 := 0) A.ef (by omega) fun _ => hu.bind (c1 := 0) (c2 := 0) A.ef (by omega) fun _ => RR.pure) hi
    have size : ∀ {i}, i < S.T.length → RO S lo d M E F 2 i (((must S (tx [40])).bind fun _ => ask.bind fun t => (must S (tx [41])).bind fun _ => PM.pure (Nd.mk 11 (tx []) 0 t [])) (i + 1)) (((must S' (tx [40])).bind fun _ => ask'.bind fun t => (must S' (tx [41])).bind fun _ => PM.pure (Nd.mk 11 (tx []) 0 t [])) (i + d + 1)) := fun hi =>
      RR.next ((must_R A).bind (c2 := 0) A.ef (by omega) fun _ => (ha.mono (Nat.zero_le _)).bind (c1 := 0) (c2 := 0) A.ef (by omega) fun t => ((must_R A).bind (c2 := 0) A.ef (by omega) fun _ => RR.pure).mono (Nat.zero_le _)) hi
    by_cases hb : isB S [tx [40]] i = true
    · have hz : ¬ isB S [tx [115, 105, 122, 101, 111, 102]] i = true := fun h' => by
        unfold isB at hb h'
        simp only [Bool.and_eq_true, List.any_cons, List.any_nil, Bool.or_false, decide_eq_true_eq] at hb h'
        have := hb.2.trans h'.2.symm
        simp [tx] at this
      rw [if_neg hz]
      refine (RO.pick (k := 1) (c := 2) (o' := if isB S' [tx [40]] (i + d) = true ∧ (due S' (i + d + 1)).kind = 2 ∧ (due S' (i + d + 1)).text ≠ tx [115, 105, 122, 101, 111, 102] then
        (ask'.bind fun t => (must S' (tx [41])).bind fun _ => un'.bind fun x => .pure (Nd.mk 10 (tx []) 0 t [x])) (i + d + 1) else postB S' ex' (i + d)) ?_ (by omega) fun _ hl => ?_).mono (by omega)
      · refine RO.iteP (k := 1) (by omega) (fun _ hl => ?_) (fun _ => (cast (isB_dl hb)).mono (by omega)) fun _ => postB_two A hs h hi hb
        rw [A.isB (n := i) (hl.imp_left fun _ => by omega), A.kind hl, A.text hl, Nat.add_right_comm]
      · have hl0 : i < M ∨ F := hl.imp_left fun _ => by omega
        rw [if_neg (c := isB S' [tx [115, 105, 122, 101, 111, 102]] (i + d) = true) (by rw [← A.isB hl0]; exact hz)]
    · rw [if_neg (fun h' => hb h'.1)]
      refine RO.pick0 (c := 1) (o' := if isB S' [tx [115, 105, 122, 101, 111, 102]] (i + d) = true then ((must S' (tx [40])).bind fun _ => ask'.bind fun t => (must S' (tx [41])).bind fun _ => .pure (Nd.mk 11 (tx []) 0 t [])) (i + d + 1) else postB S' ex' (i + d)) ?_ (by omega) fun _ hl => ?_
      · exact RO.ite A (Nat.le_refl _) (fun hb => (size (isB_dl hb)).mono (by omega)) fun _ => postB_R A hs h i hi
      · rw [if_neg (fun h' => hb ((A.isB hl).trans h'.1))]
theorem rowF_R {s : List ByteArray} (ht : ∀ t ∈ s, t ∈ stops) {sub sub' : PM Nd} (h : RR S lo d M E F 0 sub sub') : ∀ (f f' : Nat) (x : Nd) (i : Nat), i ≤ S.T.length → S.T.length < f + i → S'.T.length < f' + (i + d) → RO S lo d M E F 0 i (rowF S s sub f x i) (rowF S' s sub' f' x (i + d))
  | 0, f', x, i, hi, h1, h2 => by omega
  | f + 1, f', x, i, hi, h1, h2 => by
    rw [rowF]
    dsimp only
    by_cases b1 : isB S s i = true
    · rw [if_pos b1]
      have k : RO S lo d M E F 0 (i + 1) _ _ := RO.bind (c1 := 0) (c2 := 0) (f' := fun y => rowF S' s sub' (f' - 1) (.mk 4 (due S i).text 0 .nil [x, y])) A.ef (h (i + 1) (isB_dl b1)) (by omega) fun y j hj hj2 => rowF_R ht h f (f' - 1) _ j hj2 (by omega) (by omega)
      refine (RO.pick0 k.from (by omega) fun _ hl => ?_).mono (Nat.zero_le _)
      have := A.far hi hl
      obtain ⟨g, rfl⟩ : ∃ g, f' = g + 1 := ⟨f' - 1, by omega⟩
      rw [rowF]
      dsimp only
      rw [if_pos ((A.isB hl).symm.trans b1), Nat.add_right_comm, A.text hl]
      rfl
    · rw [if_neg b1]
      refine RO.ok (Nat.le_refl _) hi fun _ hl => ?_
      cases f' with
      | zero => rfl
      | succ g =>
        rw [rowF]
        dsimp only
        rw [if_neg (A.stop hs ht hl b1)]
theorem rowB_R {un un' : PM Nd} (h : RR S lo d M E F 1 un un') : ∀ (l : List (List ByteArray)), (∀ s ∈ l, s ∈ signs) → RR S lo d M E F 1 (rowB S un l) (rowB S' un' l)
  | [], _ => h
  | s :: l, hl => fun i hi => RO.bind (c2 := 0) A.ef (rowB_R h l (fun x hx => hl x (List.mem_cons_of_mem _ hx)) i hi) (by omega) fun x j hj hj2 =>
    rowF_R A hs (fun t ht => List.mem_append_left _ (List.mem_flatten.2 ⟨s, hl s List.mem_cons_self, ht⟩)) ((rowB_R h l (fun x hx => hl x (List.mem_cons_of_mem _ hx))).mono (Nat.zero_le _)) _ _ _ _ hj2 (by omega) (by omega)
theorem exprB_R {ex ex' un un' : PM Nd} (h : RR S lo d M E F 0 ex ex') (hu : RR S lo d M E F 1 un un') : RR S lo d M E F 1 (exprB S ex un) (exprB S' ex' un') :=
  (rowB_R A hs hu signs fun _ h => h).bind (c2 := 0) A.ef (by omega) fun x => fun i hi =>
    RO.ite0 A hs (mem1 (by simp [stops, signs])) hi fun hb => (RR.next (h.bind (c1 := 0) (c2 := 0) A.ef (by omega) fun _ => RR.pure) (isB_dl hb)).mono (by omega)
theorem euL_R : ∀ n, RR S lo d M E F 1 (euL S n).1 (euL S' n).1 ∧ RR S lo d M E F 1 (euL S n).2 (euL S' n).2
  | 0 => ⟨fun i hi => RO.bad, fun i hi => RO.bad⟩
  | n + 1 => ⟨exprB_R A hs ((euL_R n).1.mono (Nat.zero_le _)) (euL_R n).2, unaryB_R A hs ((euL_R n).1.mono (Nat.zero_le _)) ((euL_R n).2.mono (Nat.zero_le _)) (askL_R A hs n)⟩
theorem exprL_R (n : Nat) : RR S lo d M E F 1 (exprL S n) (exprL S' n) := (euL_R A hs n).1
omit hs in
theorem deep_R (hE : E) {m m' : PM Nd} (h : RR S lo d M E F 1 m m') : RR S lo d M E F 1 m (give S' 4) := fun i hi => by
  intro h0
  have h := h i hi h0
  cases hm : m i with
  | ok x j =>
    rw [hm] at h
    exact ⟨h.1, h.2.1, fun _ => .inr ⟨hE, _, rfl⟩⟩
  | bad t k => exact fun hF => absurd hE (A.ef hF)
/-- With fewer that may stand around: the same, or too deep. -/
theorem euL_RE (hE : E) : ∀ n n', n' ≤ n → RR S lo d M E F 1 (euL S n).1 (euL S' n').1 ∧ RR S lo d M E F 1 (euL S n).2 (euL S' n').2
  | n, 0, _ => ⟨deep_R A hE (euL_R A hs n).1, deep_R A hE (euL_R A hs n).2⟩
  | 0, n' + 1, h => by omega
  | n + 1, n' + 1, h => ⟨exprB_R A hs ((euL_RE hE n n' (by omega)).1.mono (Nat.zero_le _)) (euL_RE hE n n' (by omega)).2, unaryB_R A hs ((euL_RE hE n n' (by omega)).1.mono (Nat.zero_le _)) ((euL_RE hE n n' (by omega)).2.mono (Nat.zero_le _)) (askL_RE A hs hE n n' (by omega))⟩
end
end Go.Proofs.Ytjnineeeffecaaa
namespace Go.Proofs.Ytjnineeeffecaaa
open Go
section
variable {S S' : Src} {lo d M : Nat} {E F : Prop} {α β : Type}
/-- Alike up to a place and one more: a place that is alike. -/
theorem Al.less (A : Al S S' lo d (M + 1) E F) : Al S S' lo d M E F := ⟨fun n h0 h => A.eq n h0 (h.imp_left fun _ => by omega), by have := A.len; omega, A.lenF, A.ef⟩
theorem Al.st (A : Al S S' lo d (M + 1) E F) : Stp S S' lo d M := fun h0 t _ h => by rw [A.isB (.inl (Nat.lt_succ_self _))]; exact h
/-- From a wider reach. -/
theorem RO.less {c i M1 : Nat} {o o' : Out α} (h : RO S lo d M1 E F c i o o') (hM : M ≤ M1) : RO S lo d M E F c i o o' := fun h0 => by
  have h := h h0
  cases o with
  | ok x j => exact ⟨h.1, h.2.1, fun hj => h.2.2 (hj.imp_left fun _ => by omega)⟩
  | bad t k => exact h
variable (A : Al S S' lo d (M + 1) E F)
include A
/-- A test at a place where a rule may end. -/
theorem RO.iteN {ts : List ByteArray} {i : Nat} {x : α} {a a' : Out α} (hi : i ≤ S.T.length) (h1 : isB S ts i = true → RO S lo d M E F 1 i a a') :
    RO S lo d M E F 0 i (if isB S ts i = true then a else .ok x i) (if isB S' ts (i + d) = true then a' else .ok x (i + d)) := by
  by_cases h : isB S ts i = true
  · rw [if_pos h]
    exact ((h1 h).pick0 (Nat.le_refl _) fun _ hl => by rw [if_pos ((A.less.isB hl).symm.trans h)]).mono (Nat.zero_le _)
  · rw [if_neg h]
    exact RO.ok (Nat.le_refl _) hi fun _ hl => by rw [if_neg (by rw [← A.isB (hl.imp_left fun _ => by omega)]; exact h)]
theorem simpleB_R {ex ex' : PM Nd} {ask ask' : PM Ty} (h : RR S lo d M E F 1 ex ex') (ha : RR S lo d M E F 1 ask ask') : RR S lo d M E F 1 (simpleB S ex ask) (simpleB S' ex' ask') := fun i hi => by
  unfold simpleB
  refine RO.ite A.less (Nat.le_refl _) (fun hb => ?_) fun _ => ?_
  · have hl := isB_dl hb
    by_cases h2 : isB S [tx [59]] (i + 1) = true
    · rw [if_pos h2]
      refine RO.ok (Nat.le_refl _) hl fun _ hj => ?_
      rw [show i + d + 1 = i + 1 + d by omega, if_pos ((A.isB (hj.imp_left fun _ => by omega)).symm.trans h2)]
    · rw [if_neg h2]
      refine (RO.pick (k := 1) (RR.next (h.bind (c2 := 0) A.ef (by omega) fun x => RR.pure (a := Nd.mk 16 (tx []) 0 .nil [x])) hl) (by omega) fun _ hj => ?_).mono (by omega)
      rw [show i + d + 1 = i + 1 + d by omega, if_neg (by rw [← A.less.isB hj]; exact h2)]
  refine RO.ite A.less (Nat.le_refl _) (fun hb => RR.next (m := PM.pure (Nd.mk 18 (tx []) 0 .nil [])) (m' := PM.pure (Nd.mk 18 (tx []) 0 .nil [])) RR.pure (isB_dl hb)) fun _ => ?_
  refine RO.ite A.less (Nat.le_refl _) (fun hb => RR.next (m := PM.pure (Nd.mk 19 (tx []) 0 .nil [])) (m' := PM.pure (Nd.mk 19 (tx []) 0 .nil [])) RR.pure (isB_dl hb)) fun _ => ?_
  refine RO.ite A.less (Nat.le_refl _) (fun _ => ?_) fun _ => ?_
  · exact ((base_R A.less).bind (c2 := 0) A.ef (by omega) fun b => ((declB_R A.less A.st (ha.mono (Nat.zero_le _))).bind (c2 := 0) A.ef (by omega) fun x => fun j hj =>
      RO.iteN A hj fun hb => (RR.next (h.bind (c2 := 0) A.ef (by omega) fun y => RR.pure) (isB_dl hb)).mono (by omega)).mono (Nat.zero_le _)) i hi
  · exact (h.bind (c2 := 0) A.ef (by omega) fun x => RR.pure) i hi
theorem blockF_R {st st' : PM Nd} (h : RR S lo d M E F 1 st st') : ∀ (f f' : Nat) (l : List Nd) (i : Nat), i ≤ S.T.length → S.T.length < f + i → S'.T.length < f' + (i + d) → RO S lo d (M + 1) E F 1 i (blockF S st f l i) (blockF S' st' f' l (i + d))
  | 0, f', l, i, hi, h1, h2 => by omega
  | f + 1, f', l, i, hi, h1, h2 => by
    have hf : i < M + 1 ∨ F → ∃ g, f' = g + 1 := fun hl => by
      have := A.far hi hl
      exact ⟨f' - 1, by omega⟩
    rw [blockF]
    dsimp only
    by_cases b1 : isB S [tx [125]] i = true
    · rw [if_pos b1]
      refine RO.ok (Nat.le_refl _) (isB_dl b1) fun _ hl => ?_
      have hl : i < M + 1 ∨ F := hl.imp_left fun _ => by omega
      obtain ⟨g, rfl⟩ := hf hl
      rw [blockF]
      dsimp only
      rw [if_pos ((A.isB hl).symm.trans b1), Nat.add_right_comm]
    · rw [if_neg b1]
      have k : RO S lo d (M + 1) E F (1 + 1) i _ _ := RO.bind (c1 := 1) (c2 := 1) (M1 := M) (f' := fun x => blockF S' st' (f' - 1) (l ++ [x])) A.ef (h i hi) (by omega) fun y j hj hj2 => blockF_R h f (f' - 1) _ j hj2 (by omega) (by omega)
      refine (RO.pick0 k (by omega) fun _ hl => ?_).mono (by omega)
      obtain ⟨g, rfl⟩ := hf hl
      rw [blockF]
      dsimp only
      rw [if_neg (by rw [← A.isB hl]; exact b1)]
      rfl
theorem stmtB_R {st st' ex ex' : PM Nd} {ask ask' : PM Ty} (hs : RR S lo d M E F 1 st st') (h : RR S lo d M E F 1 ex ex') (ha : RR S lo d M E F 1 ask ask') : RR S lo d M E F 1 (stmtB S st ex ask) (stmtB S' st' ex' ask') := fun i hi => by
  unfold stmtB
  refine RO.ite A.less (Nat.le_refl _) (fun hb => ?_) fun _ => ?_
  · rw [Nat.add_right_comm]
    exact ((blockF_R A hs _ _ [] (i + 1) (isB_dl hb) (by omega) (by omega)).less (Nat.le_succ _)).from.mono (by omega)
  refine RO.ite A.less (Nat.le_refl _) (fun hb => RR.next (m := PM.pure (Nd.mk 17 (tx []) 0 .nil [])) (m' := PM.pure (Nd.mk 17 (tx []) 0 .nil [])) RR.pure (isB_dl hb)) fun _ => ?_
  refine RO.ite A.less (Nat.le_refl _) (fun hb => ?_) fun _ => ?_
  · exact (RR.next (((bracedB_R A.less (h.mono (Nat.zero_le _))).bind (c2 := 0) A.ef (by omega) fun c => (hs.bind (c2 := 0) A.ef (by omega) fun x => fun j hj =>
      RO.iteN A hj fun hb => (RR.next (hs.bind (c2 := 0) A.ef (by omega) fun y => RR.pure) (isB_dl hb)).mono (by omega)).mono (Nat.zero_le _))) (isB_dl hb)).mono (by omega)
  refine RO.ite A.less (Nat.le_refl _) (fun hb => ?_) fun _ => ?_
  · exact (RR.next ((bracedB_R A.less (h.mono (Nat.zero_le _))).bind (c2 := 0) A.ef (by omega) fun c => (hs.bind (c2 := 0) A.ef (by omega) fun x => RR.pure).mono (Nat.zero_le _)) (isB_dl hb)).mono (by omega)
  exact (((simpleB_R A h ha).bind (c2 := 0) A.ef (by omega) fun x => ((must_R A.less).bind (c2 := 0) A.ef (by omega) fun _ => RR.pure).mono (Nat.zero_le _)) i hi)
theorem stmtL_R : ∀ n, RR S lo d M E F 1 (stmtL S n) (stmtL S' n)
  | 0 => fun i hi => RO.bad
  | n + 1 => stmtB_R A (stmtL_R n) (exprL_R A.less A.st n) (askL_R A.less A.st n)
/-- A function's body. -/
theorem body_R (n : Nat) {i : Nat} (hi : i ≤ S.T.length) (hb : isB S [tx [123]] i = true) : RO S lo d (M + 1) E F 2 i (stmtL S (n + 1) i) (stmtL S' (n + 1) (i + d)) := by
  show RO S lo d (M + 1) E F 2 i (stmtB S (stmtL S n) (exprL S n) (askL S n) i) (stmtB S' (stmtL S' n) (exprL S' n) (askL S' n) (i + d))
  unfold stmtB
  rw [if_pos hb]
  refine RO.pick0 (c := 1 + 1) (o' := blockF S' (stmtL S' n) (S'.T.length + 1) [] (i + 1 + d)) ((blockF_R A (stmtL_R A n) _ _ [] (i + 1) (isB_dl hb) (by omega) (by omega)).from) (by omega) fun _ hl => ?_
  rw [if_pos ((A.isB hl).symm.trans hb), Nat.add_right_comm]
theorem recordF_R {ask ask' : PM Ty} (h : RR S lo d M E F 1 ask ask') {t : Ty} : ∀ (f f' : Nat) (l : List Nd) (i : Nat), i ≤ S.T.length → S.T.length < f + i → S'.T.length < f' + (i + d) → RO S lo d (M + 1) E F 1 i (recordF S ask t f l i) (recordF S' ask' t f' l (i + d))
  | 0, f', l, i, hi, h1, h2 => by omega
  | f + 1, f', l, i, hi, h1, h2 => by
    have hf : i < M + 1 ∨ F → ∃ g, f' = g + 1 := fun hl => by
      have := A.far hi hl
      exact ⟨f' - 1, by omega⟩
    rw [recordF]
    dsimp only
    by_cases b1 : isB S [tx [125]] i = true
    · rw [if_pos b1]
      refine (RO.pick0 (RR.next ((must_R A (t := tx [59])).bind (c2 := 0) A.ef (by omega) fun _ => RR.pure (a := Nd.mk 20 (tx []) 0 t l)) (isB_dl b1)) (by omega) fun _ hl => ?_).mono (by omega)
      obtain ⟨g, rfl⟩ := hf hl
      rw [recordF]
      dsimp only
      rw [if_pos ((A.isB hl).symm.trans b1)]
    · rw [if_neg b1]
      have k : RO S lo d (M + 1) E F (1 + 1) i _ _ := RO.bind (c1 := 1) (c2 := 1) (M1 := M) (f' := fun b => (declB S' ask' b).bind fun d => (must S' (tx [59])).bind fun _ => recordF S' ask' t (f' - 1) (l ++ [d])) A.ef (base_R A.less i hi) (by omega) fun b j hj hj2 =>
        (RO.bind (c1 := 1) (c2 := 1) (M1 := M) (f' := fun d => (must S' (tx [59])).bind fun _ => recordF S' ask' t (f' - 1) (l ++ [d])) A.ef (declB_R A.less A.st (h.mono (Nat.zero_le _)) j hj2) (by omega) fun y j2 hk hk2 =>
          (RO.bind (c1 := 1) (c2 := 1) (M1 := M) (f' := fun _ => recordF S' ask' t (f' - 1) (l ++ [y])) A.ef (must_R A.less j2 hk2) (by omega) fun _ j3 hm hm2 => recordF_R h f (f' - 1) _ j3 hm2 (by omega) (by omega)).mono (by omega)).mono (by omega)
      refine (RO.pick0 k (by omega) fun _ hl => ?_).mono (by omega)
      obtain ⟨g, rfl⟩ := hf hl
      rw [recordF]
      dsimp only
      rw [if_neg (by rw [← A.isB hl]; exact b1)]
      rfl
theorem recordB_R {ask ask' : PM Ty} (h : RR S lo d M E F 1 ask ask') {t : Ty} : RR S lo d (M + 1) E F 2 (recordB S ask t) (recordB S' ask' t) := fun i hi =>
  RO.bind (c1 := 1) (c2 := 1) A.ef (must_R A i hi) (by omega) fun _ j _ hj => recordF_R A h _ _ [] j hj (by omega) (by omega)
theorem fnB_R (n : Nat) {ask ask' : PM Ty} (h : RR S lo d M E F 1 ask ask') {t : Ty} : RR S lo d (M + 1) E F 5 (fnB S ask (stmtL S (n + 1)) t) (fnB S' ask' (stmtL S' (n + 1)) t) :=
  (name_R A.less).bind (c1 := 1) (c2 := 4) (M1 := M) A.ef (by omega) fun s => (list_R A.less (((base_R A.less).bind (c2 := 1) A.ef (by omega) fun b => declB_R A.less A.st (h.mono (Nat.zero_le _))).mono (Nat.zero_le _))).bind (c1 := 2) (c2 := 2) (M1 := M) A.ef (by omega) fun l => fun i hi =>
    RO.ite A (by omega) (fun hb => RO.bind (c1 := 2) (c2 := 0) A.ef (body_R A n hi hb) (by omega) fun x j _ hj => RR.pure j hj) fun _ => RO.bad
theorem item_R : RR S lo d (M + 1) E F 1 (item S) (item S') := fun i hi => by
  have ha := askL_R A.less A.st 60
  have hdecl : ∀ {t : Ty}, RR S lo d (M + 1) E F 2 ((declB S (askL S 60) t).bind fun d => (must S (tx [59])).bind fun _ => PM.pure d.toGlobal) ((declB S' (askL S' 60) t).bind fun d => (must S' (tx [59])).bind fun _ => PM.pure d.toGlobal) := fun {t} =>
    (declB_R A.less A.st (ha.mono (Nat.zero_le _))).bind (c1 := 1) (c2 := 1) (M1 := M) A.ef (by omega) fun x => (must_R A).bind (c2 := 0) A.ef (by omega) fun _ => RR.pure
  unfold item itemB
  refine (RO.bindE (c1 := 1) (c2 := 1) (M1 := M + 1) A.ef (base_R A i hi) (by omega) fun b j hm hj hj2 => ?_).mono (by omega)
  have rest : ∀ {b : Ty}, RR S lo d (M + 1) E F 1 ((stars S b).bind fun t j => if (due S j).kind = 1 ∧ (due S (j + 1)).kind = 4 ∧ (due S (j + 1)).text = tx [40] then fnB S (askL S 60) (stmtL S 60) t j
      else (declB S (askL S 60) t).bind (fun d => (must S (tx [59])).bind fun x => PM.pure d.toGlobal) j) ((stars S' b).bind fun t j => if (due S' j).kind = 1 ∧ (due S' (j + 1)).kind = 4 ∧ (due S' (j + 1)).text = tx [40] then fnB S' (askL S' 60) (stmtL S' 60) t j
      else (declB S' (askL S' 60) t).bind (fun d => (must S' (tx [59])).bind fun x => PM.pure d.toGlobal) j) := fun {b} => ((stars_R A.less A.st).bind (c1 := 0) (c2 := 2) (M1 := M) A.ef (by omega) fun t => fun j hj => by
    refine RO.iteP (k := 1) (by omega) (fun _ hl => ?_) (fun _ => (fnB_R A 59 ha j hj).mono (by omega)) fun _ => hdecl j hj
    rw [A.kind (n := j) (hl.imp_left fun _ => by omega), A.kind hl, A.text hl, Nat.add_right_comm]).mono (by omega)
  by_cases hk : b.kind = 7 ∨ b.kind = 8
  · have hj3 := base_kind hm hk
    have e : ∀ {i'}, i' = j + d → lo ≤ j → j < M + 1 ∨ F → (((b.kind = 7 ∨ b.kind = 8) ∧ (due S j).kind = 4 ∧ (due S j).text = tx [123]) ↔ ((b.kind = 7 ∨ b.kind = 8) ∧ (due S' i').kind = 4 ∧ (due S' i').text = tx [123])) := fun e h0 hl => by
      rw [e, A.kind (n := j) hl, A.text (n := j) hl]
    rw [show i + 2 = j from hj3.symm]
    by_cases hc : (b.kind = 7 ∨ b.kind = 8) ∧ (due S j).kind = 4 ∧ (due S j).text = tx [123]
    · rw [if_pos hc]
      exact RO.pick0 ((recordB_R A ha j hj2).mono (by omega)) (Nat.le_refl _) fun h0 hl => by rw [if_pos ((e (by omega) h0 hl).1 hc)]
    · rw [if_neg hc]
      exact RO.pick0 (rest j hj2) (Nat.le_refl _) fun h0 hl => by rw [if_neg (fun h => hc ((e (by omega) h0 hl).2 h))]
  · rw [if_neg (fun h => hk h.1), if_neg (fun h => hk h.1)]
    exact rest j hj2
end
end Go.Proofs.Ytjnineeeffecaaa
