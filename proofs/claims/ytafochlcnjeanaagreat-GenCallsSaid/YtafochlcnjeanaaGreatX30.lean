/- Runs by numbers: regions that draw their order: who must be ahead of whom; frames. For whatever program. -/
import Derived.Test.YtafochlcnjeanaaGreatX29
namespace Go.Proofs.YtafochlcnjeanaaGreat.E
open Go Go.RowKit X

/-! ### Who must be ahead -/
def bitN (m j : Nat) : Bool := Nat.testBit m j
def maskAt (A : List Nat) (i : Nat) : Nat := match nthG A i with
  | some m => m
  | none => 0
def ancOf (acc : List Nat) : List Edge → Nat
  | [] => 0
  | e :: es => match Region.binds .any e with
    | true => Nat.lor (Nat.lor (Nat.shiftLeft 1 e.on) (maskAt acc e.on)) (ancOf acc es)
    | false => ancOf acc es
def ancs : List Oper → List Nat → List Nat
  | [], acc => acc
  | o :: l, acc => ancs l (acc ++ [ancOf acc o.after.toList])
def bit (A : List Nat) (i j : Nat) : Bool := bitN (maskAt A i) j
theorem maskAt_append {A B : List Nat} {i : Nat} (h : i < A.length) : maskAt (A ++ B) i = maskAt A i := by
  unfold maskAt
  rw [nthG_eq, nthG_eq, List.getElem?_append_left h]
theorem maskAt_none {A : List Nat} {i : Nat} (h : A.length ≤ i) : maskAt A i = 0 := by
  unfold maskAt
  rw [nthG_eq, List.getElem?_eq_none h]
theorem ancs_spec : ∀ (l : List Oper) (acc : List Nat), ∃ B, ancs l acc = acc ++ B ∧ B.length = l.length ∧ ∀ k o, l[k]? = some o → maskAt (acc ++ B) (acc.length + k) = ancOf ((acc ++ B).take (acc.length + k)) o.after.toList
  | [], acc => ⟨[], by simp [ancs], rfl, fun k o h => by simp at h⟩
  | o :: l, acc => by
    obtain ⟨B, h1, h2, h3⟩ := ancs_spec l (acc ++ [ancOf acc o.after.toList])
    refine ⟨ancOf acc o.after.toList :: B, by simp [ancs, h1], by simp [h2], fun k o' hk => ?_⟩
    have e : acc ++ ancOf acc o.after.toList :: B = acc ++ [ancOf acc o.after.toList] ++ B := by simp
    cases k with
    | zero =>
      simp at hk
      subst hk
      rw [Nat.add_zero, e, maskAt_append (by simp)]
      have : maskAt (acc ++ [ancOf acc o.after.toList]) acc.length = ancOf acc o.after.toList := by
        unfold maskAt
        rw [nthG_eq, List.getElem?_append_right (Nat.le_refl _)]
        simp
      rw [this, List.append_assoc, List.take_left]
    | succ k =>
      have := h3 k o' (by simpa using hk)
      rw [e]
      simp only [List.length_append, List.length_singleton] at this
      rw [show acc.length + (k + 1) = acc.length + 1 + k by omega]
      exact this
theorem ancOf_spec {acc : List Nat} {j : Nat} : ∀ {es : List Edge}, bitN (ancOf acc es) j = true → ∃ e ∈ es, Region.binds .any e = true ∧ (j = e.on ∨ bitN (maskAt acc e.on) j = true)
  | [], h => by simp [ancOf, bitN] at h
  | e :: es, h => by
    simp only [ancOf] at h
    split at h
    · rename_i hb
      unfold bitN at h
      rw [show Nat.lor (Nat.lor (Nat.shiftLeft 1 e.on) (maskAt acc e.on)) (ancOf acc es) = ((1 <<< e.on) ||| maskAt acc e.on) ||| ancOf acc es from rfl, Nat.testBit_or, Nat.testBit_or, Bool.or_eq_true, Bool.or_eq_true] at h
      rcases h with (h | h) | h
      · refine ⟨e, List.mem_cons_self, hb, .inl ?_⟩
        rw [Nat.testBit_shiftLeft] at h
        simp only [Bool.and_eq_true, decide_eq_true_eq] at h
        have h1 := h.2
        have : j - e.on = 0 := by
          rcases Nat.eq_zero_or_pos (j - e.on) with h2 | h2
          · exact h2
          · rw [show (1 : Nat) = 2 ^ 0 from rfl, Nat.testBit_two_pow] at h1
            have := of_decide_eq_true h1
            omega
        omega
      · exact ⟨e, List.mem_cons_self, hb, .inr h⟩
      · obtain ⟨e', h1, h2, h3⟩ := ancOf_spec (es := es) h
        exact ⟨e', List.mem_cons_of_mem _ h1, h2, h3⟩
    · obtain ⟨e', h1, h2, h3⟩ := ancOf_spec (es := es) h
      exact ⟨e', List.mem_cons_of_mem _ h1, h2, h3⟩
theorem ancOf_bit {acc : List Nat} {e : Edge} : ∀ {es : List Edge}, e ∈ es → Region.binds .any e = true → bitN (ancOf acc es) e.on = true
  | [], h, _ => by cases h
  | e' :: es, h, hb => by
    simp only [ancOf]
    rcases List.mem_cons.1 h with rfl | h1
    · rw [hb]
      simp only
      unfold bitN
      rw [show Nat.lor (Nat.lor (Nat.shiftLeft 1 e.on) (maskAt acc e.on)) (ancOf acc es) = ((1 <<< e.on) ||| maskAt acc e.on) ||| ancOf acc es from rfl, Nat.testBit_or, Nat.testBit_or, Nat.testBit_shiftLeft]
      simp
    · have ih := ancOf_bit (acc := acc) h1 hb
      split
      · unfold bitN at ih ⊢
        rw [show ∀ a b : Nat, Nat.lor a b = a ||| b from fun _ _ => rfl, Nat.testBit_or, ih, Bool.or_true]
      · exact ih
/-- What must be ahead of an operation. -/
def ancT (l : List Oper) : List Nat := ancs l []
theorem anc_down {l : List Oper} {i j : Nat} {o : Oper} (ho : l[i]? = some o) (h : bit (ancT l) i j = true) : ∃ e ∈ o.after.toList, Region.binds .any e = true ∧ (j = e.on ∨ bit (ancT l) e.on j = true) := by
  obtain ⟨B, h1, h2, h3⟩ := ancs_spec l []
  simp only [List.nil_append, List.length_nil, Nat.zero_add] at h1 h3
  unfold ancT bit at h ⊢
  rw [h1] at h ⊢
  rw [h3 i o ho] at h
  obtain ⟨e, he, hb, hj⟩ := ancOf_spec h
  refine ⟨e, he, hb, hj.imp id fun hj => ?_⟩
  by_cases hlt : e.on < i
  · have hi : i < B.length := by rw [h2]; exact (List.getElem?_eq_some_iff.1 ho).1
    have : maskAt (B.take i) e.on = maskAt B e.on := by
      unfold maskAt
      rw [nthG_eq, nthG_eq, List.getElem?_take, if_pos hlt]
    rwa [this] at hj
  · rw [maskAt_none (by simp; omega)] at hj
    simp [bitN] at hj
theorem anc_direct {l : List Oper} {i : Nat} {o : Oper} {e : Edge} (ho : l[i]? = some o) (he : e ∈ o.after.toList) (hb : Region.binds .any e = true) : bit (ancT l) i e.on = true := by
  obtain ⟨B, h1, h2, h3⟩ := ancs_spec l []
  simp only [List.nil_append, List.length_nil, Nat.zero_add] at h1 h3
  unfold ancT bit
  rw [h1, h3 i o ho]
  exact ancOf_bit he hb

/-! ### Two parts of a heap -/
def ov (h x : Heap) : Heap := fun k => match h k with
  | some B => some B
  | none => x k
theorem ov_some {h x : Heap} {k : Nat} {B : Blk} (e : h k = some B) : ov h x k = some B := by simp [ov, e]
theorem ov_none {h x : Heap} {k : Nat} (e : h k = none) : ov h x k = x k := by simp [ov, e]
theorem HR.left {R : Rel} {h x : Heap} {hp : Array Obj} (H : HR R (ov h x) hp) : HR R h hp where
  blk := fun k B e hl => H.blk k B (ov_some e) hl
  dom := fun k B e => H.dom k B (ov_some e)
  inj := fun k k' b c c' ⟨B, e, hl⟩ ⟨B', e', hl'⟩ h1 h2 => H.inj k k' b c c' ⟨B, ov_some e, hl⟩ ⟨B', ov_some e', hl'⟩ h1 h2
  fn := H.fn
  lt := H.lt
/-- What stands aside of a step. -/
theorem HR.frame {lo hi : Nat} {R R' : Rel} {h h' x : Heap} {hp hp' : Array Obj} (H : HR R (ov h x) hp) (H' : HR R' h' hp') (G : Go_ lo hi R h hp R' h' hp') (hx : ∀ k B, x k = some B → ¬ (lo ≤ k ∧ k < hi)) :
    HR R' (ov h' x) hp' ∧ Go_ lo hi R (ov h x) hp R' (ov h' x) hp' := by
  have hnone : ∀ k, h' k = none → h k = none := fun k e => by
    cases h1 : h k with
    | none => rfl
    | some B => obtain ⟨B', h2⟩ := G.stay k B h1; rw [e] at h2; cases h2
  have hold : ∀ k b c, R' k b c → ¬ (lo ≤ k ∧ k < hi) → R k b c := fun k b c r hn => (G.new k b c r).resolve_right hn
  have hnotown : ∀ k B b c, h k = none → x k = some B → B.live → R k b c → ¬ Own h R b := by
    rintro k B b c h1 h2 h3 h4 ⟨k2, c2, ⟨B2, h5, h6⟩, h7⟩
    have := H.inj k k2 b c c2 ⟨B, by rw [ov_none h1]; exact h2, h3⟩ ⟨B2, ov_some h5, h6⟩ h4 h7
    subst this
    rw [h1] at h5
    cases h5
  -- what lives behind the step is of the step, or was aside
  have hlive : ∀ k, live (ov h' x) k → live h' k ∨ (h k = none ∧ h' k = none ∧ ∃ B, x k = some B ∧ B.live) := by
    rintro k ⟨B, e, hl⟩
    cases h1 : h' k with
    | some B' => rw [ov_some h1] at e; cases e; exact .inl ⟨B, h1, hl⟩
    | none => rw [ov_none h1] at e; exact .inr ⟨hnone k h1, rfl, B, e, hl⟩
  have hmix : ∀ k k' b c c', live h' k → (h k' = none ∧ h' k' = none ∧ ∃ B, x k' = some B ∧ B.live) → R' k b c → R' k' b c' → False := by
    rintro k k' b c c' hl ⟨h1, h2, B, h3, h4⟩ r r'
    have r1 := hold k' b c' r' (hx k' B h3)
    rcases G.own b ⟨k, c, hl, r⟩ with h5 | h5
    · exact hnotown k' B b c' h1 h3 h4 r1 h5
    · have := H.lt _ _ _ r1; omega
  refine ⟨⟨?_, ?_, ?_, H'.fn, H'.lt⟩, ⟨G.size, G.sub, G.new, ?_, ?_, ?_, ?_⟩⟩
  · intro k B e hl
    cases h1 : h' k with
    | some B' => rw [ov_some h1] at e; cases e; exact H'.blk k B h1 hl
    | none =>
      rw [ov_none h1] at e
      have h2 := hnone k h1
      obtain ⟨b, c, h3, h4⟩ := H.blk k B (by rw [ov_none h2]; exact e) hl
      refine ⟨b, c, G.sub _ _ _ h3, ?_⟩
      rw [G.keep b (H.lt _ _ _ h3) (hnotown k B b c h2 e hl h3)]
      exact h4.mono G.sub
  · intro k B e
    cases h1 : h' k with
    | some B' => exact H'.dom k B' h1
    | none =>
      rw [ov_none h1] at e
      obtain ⟨b, c, h3⟩ := H.dom k B (by rw [ov_none (hnone k h1)]; exact e)
      exact ⟨b, c, G.sub _ _ _ h3⟩
  · intro k k' b c c' h1 h2 r r'
    rcases hlive k h1 with a | a <;> rcases hlive k' h2 with a' | a'
    · exact H'.inj k k' b c c' a a' r r'
    · exact (hmix k k' b c c' a a' r r').elim
    · exact (hmix k' k b c' c a' a r' r).elim
    · obtain ⟨a1, a2, B, a3, a4⟩ := a
      obtain ⟨b1, b2, B', b3, b4⟩ := a'
      exact H.inj k k' b c c' ⟨B, by rw [ov_none a1]; exact a3, a4⟩ ⟨B', by rw [ov_none b1]; exact b3, b4⟩ (hold _ _ _ r (hx _ _ a3)) (hold _ _ _ r' (hx _ _ b3))
  · intro b hb hn
    refine G.keep b hb fun ⟨k, c, ⟨B, e, hl⟩, r⟩ => hn ⟨k, c, ⟨B, ov_some e, hl⟩, r⟩
  · rintro b ⟨k, c, hl, r⟩
    rcases hlive k hl with a | ⟨a1, a2, B, a3, a4⟩
    · refine (G.own b ⟨k, c, a, r⟩).imp ?_ id
      rintro ⟨k2, c2, ⟨B2, e2, hl2⟩, r2⟩
      exact ⟨k2, c2, ⟨B2, ov_some e2, hl2⟩, r2⟩
    · exact .inl ⟨k, c, ⟨B, by rw [ov_none a1]; exact a3, a4⟩, hold _ _ _ r (hx _ _ a3)⟩
  · intro k B e
    cases h1 : h' k with
    | some B' =>
      refine (G.dom k B' h1).imp ?_ id
      rintro ⟨B2, e2⟩
      exact ⟨B2, ov_some e2⟩
    | none =>
      rw [ov_none h1] at e
      exact .inl ⟨B, by rw [ov_none (hnone k h1)]; exact e⟩
  · intro k B e
    cases h1 : h' k with
    | some B' => exact ⟨B', ov_some h1⟩
    | none =>
      rw [ov_none (hnone k h1)] at e
      exact ⟨B, by rw [ov_none h1]; exact e⟩
end Go.Proofs.YtafochlcnjeanaaGreat.E
