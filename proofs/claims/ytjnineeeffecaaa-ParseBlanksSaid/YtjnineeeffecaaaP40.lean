/- A source and the text of its tokens: the same tokens, the same parse. Plain Lean. -/
import Derived.Test.YtjnineeeffecaaaP32
import Derived.Lib.Join
namespace Go.Proofs.Ytjnineeeffecaaa
open Go
theorem hp_pre {x r p : List UInt8} (h : x <+: r) (hp : Lib.hasPrefix x p = true) : Lib.hasPrefix r p = true := by
  have : p <+: x := by simpa [Lib.hasPrefix] using hp
  simpa [Lib.hasPrefix] using this.trans h
theorem head_pre {x r : List UInt8} (h : x <+: r) (hx : x ≠ []) : x.getD 0 0 = r.getD 0 0 := by
  obtain ⟨u, rfl⟩ := h
  cases x with
  | nil => exact absurd rfl hx
  | cons => rfl
theorem blankS_stop {r : List UInt8} : blankS r = .stop ↔ ¬ blankC (r.getD 0 0) = true ∧ ¬ Lib.hasPrefix r [47, 47] = true ∧ ¬ Lib.hasPrefix r [47, 42] = true := by
  unfold blankS
  constructor
  · intro h
    split at h
    · cases h
    · split at h
      · split at h <;> cases h
      · split at h
        · split at h <;> cases h
        · rename_i h1 h2 h3
          exact ⟨h1, h2, h3⟩
  · rintro ⟨h1, h2, h3⟩
    rw [if_neg h1, if_neg h2, if_neg h3]
theorem blankS_pre {x r : List UInt8} (h : x <+: r) (hx : x ≠ []) (hs : blankS r = .stop) : blankS x = .stop := by
  obtain ⟨h1, h2, h3⟩ := blankS_stop.1 hs
  exact blankS_stop.2 ⟨by rw [head_pre h hx]; exact h1, fun h' => h2 (hp_pre h h'), fun h' => h3 (hp_pre h h')⟩
theorem wordN_take : ∀ r : List UInt8, wordN (r.take (wordN r)) = wordN r
  | [] => rfl
  | c :: r => by
    rw [wordN]
    split
    · rename_i h
      rw [List.take_succ_cons, wordN, if_pos h, wordN_take r]
    · rfl
theorem signs_tok : ∀ x ∈ signL, tokOf x = (4, x, 0, 0) := by decide +kernel
theorem badC_take {r : List UInt8} (h : ¬ badC r) : ¬ badC (r.take 3) := by
  match r, h with
  | [], h => exact absurd (.inl (by simp)) h
  | [a], h => exact absurd (.inl (by simp)) h
  | [a, b], h => exact absurd (.inl (by simp)) h
  | a :: b :: c :: r, h =>
    simp [badC] at h ⊢
    exact h.2
/-- A token's text is that token's. -/
theorem tok_self {r : List UInt8} (hr : r ≠ []) (h : (tokOf r).2.2.2 = 0) : (tokOf r).2.1 <+: r ∧ tokOf (tokOf r).2.1 = tokOf r := by
  have hlen := tokOf_len (List.length_pos_iff.2 hr) h
  have hw := wordN_le r
  by_cases hl : letterB (r.getD 0 0) = true
  · have e : tokOf r = if 24 < wordN r then (0, [], 0, 5) else (if wordB (tx (r.take (wordN r))) = true then 2 else 1, r.take (wordN r), 0, 0) := by
      unfold tokOf
      rw [if_pos hl]
    rw [e] at h hlen ⊢
    split at h
    · simp at h
    · rename_i h24
      rw [if_neg h24] at hlen ⊢
      dsimp only at hlen ⊢
      have hp : r.take (wordN r) <+: r := List.take_prefix _ _
      refine ⟨hp, ?_⟩
      have hne : r.take (wordN r) ≠ [] := List.length_pos_iff.1 (by omega)
      have ht : (r.take (wordN r)).take (wordN r) = r.take (wordN r) := by rw [List.take_take, Nat.min_self]
      unfold tokOf
      rw [head_pre hp hne, if_pos hl, wordN_take, if_neg h24, ht]
  by_cases hd : digitB (r.getD 0 0) = true
  · have e : tokOf r = (3, r.take (figure r).2.1.toNat, (figure r).1, (figure r).2.2) := by
      unfold tokOf
      rw [if_neg hl, if_pos hd]
    rw [e] at h hlen ⊢
    dsimp only at h hlen ⊢
    have hf := figure_len h
    have hfn : (figure r).2.1.toNat = wordN r := by omega
    rw [hfn] at hlen ⊢
    have hp : r.take (wordN r) <+: r := List.take_prefix _ _
    refine ⟨hp, ?_⟩
    have hne : r.take (wordN r) ≠ [] := List.length_pos_iff.1 (by omega)
    have ht : (r.take (wordN r)).take (wordN r) = r.take (wordN r) := by rw [List.take_take, Nat.min_self]
    have hfo : ∀ base fr, figOf (r.take (wordN r)) base fr = figOf r base fr := fun base fr => by
      unfold figOf
      rw [wordN_take, ht, head_pre hp hne]
    have hhx : Lib.hasPrefix (r.take (wordN r)) [48, 120] = Lib.hasPrefix r [48, 120] := by
      cases hx : Lib.hasPrefix r [48, 120] with
      | false =>
        cases hy : Lib.hasPrefix (r.take (wordN r)) [48, 120] with
        | false => rfl
        | true => rw [hp_pre hp hy] at hx; cases hx
      | true =>
        have h2 := hex_word hx
        have : [48, 120] <+: r := by simpa [Lib.hasPrefix] using hx
        have : [48, 120] <+: r.take (wordN r) := (List.prefix_take_iff.2 ⟨this, by simpa using h2⟩)
        simpa [Lib.hasPrefix] using this
    have hfg : figure (r.take (wordN r)) = figure r := by
      unfold figure
      rw [hhx, hfo, hfo]
    unfold tokOf
    rw [head_pre hp hne, if_neg hl, if_pos hd, hfg, hfn, ht]
  by_cases h39 : ((r.getD 0 0).toNat : Int) = 39
  · have e : tokOf r = if badC r then (0, [], 0, 2) else (3, r.take 3, ((r.getD 1 0).toNat : Int), 0) := by
      unfold tokOf
      rw [if_neg hl, if_neg hd, if_pos h39]
    rw [e] at h hlen ⊢
    split at h
    · simp at h
    · rename_i hb
      rw [if_neg hb] at hlen ⊢
      dsimp only at hlen ⊢
      have hp : r.take 3 <+: r := List.take_prefix _ _
      refine ⟨hp, ?_⟩
      have hne : r.take 3 ≠ [] := List.length_pos_iff.1 (by omega)
      have h1 : (r.take 3).getD 1 0 = r.getD 1 0 := by
        match r with
        | [] => rfl
        | [_] => rfl
        | _ :: _ :: _ => rfl
      unfold tokOf
      rw [head_pre hp hne, if_neg hl, if_neg hd, if_pos h39, if_neg (badC_take hb), List.take_take, Nat.min_self, h1]
  · have e : tokOf r = if signOf r = [] then (0, [], 0, 2) else (4, signOf r, 0, 0) := by
      unfold tokOf
      rw [if_neg hl, if_neg hd, if_neg h39]
    rw [e] at h ⊢
    split at h
    · simp at h
    · rename_i hs
      rw [if_neg hs]
      dsimp only
      have hp : signOf r <+: r := by simpa [Lib.hasPrefix] using signOf_prefix hs
      refine ⟨hp, signs_tok _ ?_⟩
      unfold signOf at hs ⊢
      cases hf : signL.find? (fun x => Lib.hasPrefix r x) with
      | none => rw [hf] at hs; exact absurd rfl hs
      | some x => exact List.mem_of_find?_eq_some hf
theorem lx_one {r : List UInt8} (hr : r ≠ []) (h1 : blankS r = .stop) (h : (tokOf r).2.2.2 = 0) : Lx false (tokOf r).2.1 [tkA r] := by
  obtain ⟨hp, he⟩ := tok_self hr h
  have hl := tokOf_len (List.length_pos_iff.2 hr) h
  have hne : (tokOf r).2.1 ≠ [] := List.length_pos_iff.1 (by omega)
  have := Lx.tok (b := false) (T := []) hne (blankS_pre hp hne h1) (by rw [he]; exact h) (by rw [he, List.drop_length]; exact .nil)
  rw [tkA, he] at this
  exact this
theorem Lx.each {b : Bool} {r : List UInt8} {T : List TK} (h : Lx b r T) : ∀ e ∈ T, Lx false e.2.1.data.toList [e] := by
  induction h with
  | nil => intro e he; cases he
  | blank _ _ _ ih => exact ih
  | all => intro e he; cases he
  | @tok b r T hr h1 h2 _ ih =>
    intro e he
    rcases List.mem_cons.1 he with rfl | he
    · exact lx_one hr h1 h2
    · exact ih e he
theorem lx_join : ∀ (T : List TK), (∀ e ∈ T, Lx false e.2.1.data.toList [e]) → Lx false (Lib.join (T.map fun e => e.2.1.data.toList) [32]) T
  | [], _ => .nil
  | [e], h => by
    rw [List.map_singleton, Lib.join_one]
    exact h e List.mem_cons_self
  | e :: e2 :: T, h => by
    have ih := lx_join (e2 :: T) fun x hx => h x (List.mem_cons_of_mem _ hx)
    have := (h e List.mem_cons_self).app (c := 32) (.inr ⟨rfl, rfl⟩) ih
    have hj : Lib.join ((e :: e2 :: T).map fun e => e.2.1.data.toList) [32] = e.2.1.data.toList ++ 32 :: Lib.join ((e2 :: T).map fun e => e.2.1.data.toList) [32] := by
      rw [List.map_cons, List.map_cons, Lib.join_cons, Lib.joinTail, List.map_cons, List.flatten_cons, Lib.join_cons, Lib.joinTail]
      simp
    rw [hj]
    exact this
/-- The parse of a source whose tokens are the same. -/
theorem Al.unitF {S S' : Src} (A : Al S S' 0 0 1 False True) : ∀ (f : Nat) (l : List Nd) (i : Nat), i ≤ S.T.length → match Go.Proofs.Ytjnineeeffecaaa.unitF S f l i with
    | .ok l' j => Go.Proofs.Ytjnineeeffecaaa.unitF S' f l i = .ok l' j
    | .bad _ k => ∃ t', Go.Proofs.Ytjnineeeffecaaa.unitF S' f l i = .bad t' k
  | 0, l, i, hi => rfl
  | f + 1, l, i, hi => by
    have hlen := A.lenF trivial
    rw [unitF_succ, unitF_succ]
    by_cases hlt : i < S.T.length
    · rw [if_pos hlt, if_pos (show i < S'.T.length by omega)]
      have hR := item_R (M := 0) A i hi (Nat.zero_le _)
      unfold PM.bind
      cases hx : item S i with
      | bad t k =>
        rw [hx] at hR
        obtain ⟨t', h'⟩ := hR trivial
        rw [show item S' i = .bad t' k from h']
        exact ⟨t', rfl⟩
      | ok x j =>
        rw [hx] at hR
        obtain ⟨h1, h2, h3⟩ := hR
        rw [show item S' i = .ok x j from (h3 (.inr trivial)).resolve_right fun h => h.1]
        exact Al.unitF A f (l ++ [x]) j h2
    · rw [if_neg hlt, if_neg (show ¬ i < S'.T.length by omega)]
theorem parse_same {S S' : Src} (h : S'.T.map Tok.er = S.T.map Tok.er) : (parseT S').1 = (parseT S).1 ∧ (parseT S').2.2 = (parseT S).2.2 := by
  have hlen : S.T.length = S'.T.length := by
    have := congrArg List.length h
    simpa using this.symm
  have key : match unitF S (S.T.length + 1) [] 0 with
      | .ok l' j => unitF S' (S'.T.length + 1) [] 0 = .ok l' j
      | .bad _ k => ∃ t', unitF S' (S'.T.length + 1) [] 0 = .bad t' k := by
    rw [← hlen]
    rcases Nat.eq_zero_or_pos S.T.length with h0 | h0
    · rw [unitF_succ, unitF_succ, if_neg (by omega), if_neg (by omega)]
    · exact Al.unitF (S := S) (S' := S') ⟨fun n _ _ => by rw [due_er, due_er, h]; rfl, by omega, fun _ => by omega, fun _ h => h⟩ _ _ 0 (Nat.zero_le _)
  unfold parseT
  cases hu : unitF S (S.T.length + 1) [] 0 with
  | bad t k =>
    rw [hu] at key
    obtain ⟨t', h'⟩ := key
    rw [h']
    exact ⟨rfl, rfl⟩
  | ok l j =>
    rw [hu] at key
    dsimp only at key
    rw [key]
    dsimp only
    split <;> exact ⟨rfl, rfl⟩
theorem parse_blanks {s : List UInt8} {T : List Tok} (h : lexS s = .ok T) (hl : (Lib.join (T.map fun t => t.text.data.toList) [32]).length ≤ 20000) :
    (parseA (Lib.join (T.map fun t => t.text.data.toList) [32])).1 = (parseA s).1 ∧ (parseA (Lib.join (T.map fun t => t.text.data.toList) [32])).2.2 = (parseA s).2.2 := by
  obtain ⟨-, k⟩ := lexS_lx h
  have k2 := lx_join _ k.each
  rw [List.map_map] at k2
  obtain ⟨T', e', hT'⟩ := lx_lexS k2.up hl
  have e' : lexS (Lib.join (T.map fun t => t.text.data.toList) [32]) = .ok T' := e'
  unfold parseA
  rw [h, e']
  exact parse_same (S := ⟨T, s.length⟩) (S' := ⟨T', _⟩) hT'
/-- The tokens' texts are not longer than the source. -/
theorem lx_sum {b : Bool} {r : List UInt8} {T : List TK} (h : Lx b r T) : (T.map fun e => e.2.1.data.toList.length).sum ≤ r.length ∧ T.length ≤ r.length := by
  induction h with
  | nil => simp
  | @blank b r n T hr h1 _ ih =>
    rw [List.length_drop] at ih
    omega
  | all => simp
  | @tok b r T hr h1 h2 _ ih =>
    have := tokOf_len (List.length_pos_iff.2 hr) h2
    rw [List.length_drop] at ih
    rw [List.map_cons, List.sum_cons, List.length_cons]
    have e : (tkA r).2.1.data.toList.length = (tokOf r).2.1.length := by simp
    rw [e]
    omega
end Go.Proofs.Ytjnineeeffecaaa
