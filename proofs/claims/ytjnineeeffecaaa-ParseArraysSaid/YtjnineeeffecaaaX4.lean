/- Regions that draw their order: first operations that only read, in whatever order; then a tail in the one order that is left. For whatever program. -/
import Derived.Test.YtjnineeeffecaaaX3
import Derived.StillTail
namespace Go.Proofs.Ytjnineeeffecaaa.X
open Go Go.RowKit

section
variable {P : Program} {ops : Array Oper} {md : Region.Mode} {C : World → Prop}
/-- Whatever of the first n comes up, in worlds of a class. -/
def anyHead (P : Program) (md : Region.Mode) (ops : Array Oper) (C : World → Prop) (n : Nat) (L : Array Bool → Act → Prop) : Nat → Array Bool → Act → Prop
  | 0, listed, a => L listed a
  | f + 1, listed, a =>
    Region.ready md ops listed ≠ [] ∧ ∀ i ∈ Region.ready md ops listed, i < n ∧ qOp P ops C i (anyHead P md ops C n L f (listed.setIfInBounds i true)) a
theorem wpAny_of_anyHead {n g : Nat} {L : Array Bool → Act → Prop} {Q' : Exit → Act → World → Prop} (hL : ∀ listed a, L listed a → ∀ w, C w → wpAny P md ops Q' g listed a w) :
    ∀ (f : Nat) (listed : Array Bool) (a : Act), anyHead P md ops C n L f listed a → ∀ w, C w → wpAny P md ops Q' (f + g) listed a w
  | 0, listed, a, h, w, hw => by rw [Nat.zero_add]; exact hL _ _ h w hw
  | f + 1, listed, a, h, w, hw => by
    rw [show f + 1 + g = (f + g) + 1 by omega]
    exact ⟨fun h0 => absurd h0 h.1, fun i hi => wpOp_of_qOp hw (fun a' w' hw' h' => wpAny_of_anyHead hL f _ a' h' w' hw') (h.2 i hi).2⟩
theorem anyHead_first {n i : Nat} {oi : Oper} {v : Value} {L : Array Bool → Act → Prop} (hi : ops[i]? = some oi) (hsel : ∀ (j : Nat) (o : Oper) cs b, ops[j]? = some o → o.op ≠ .select cs b)
    (hs : Region.sinkB md ops n = true) (hc : Region.chainB md ops n = true) (hn : n < ops.size) (hin : i < n)
    (hdone : ∀ listed a, L listed a → ∀ j ∈ Region.ready md ops listed, n ≤ j) :
    ∀ (f : Nat) (listed : Array Bool) (a : Act), HeadInv md ops n listed →
      (∀ j oj, ops[j]? = some oj → j ≠ i → listed.getD j true = false → (∀ e ∈ oj.after, Region.binds md e = true → e.on ≠ i) → oi.apart ops oj = true) →
      i ∈ Region.ready md ops listed → YieldsIn P ops C oi v a →
      anyHead P md ops C n L f (listed.setIfInBounds i true) (a.put oi.dst v) → anyHead P md ops C n L (f + 1) listed a := by
  intro f
  induction f with
  | zero =>
    intro listed a inv _ hr hy H
    have hun := (mem_ready.1 hr).1
    refine ⟨fun h => (by rw [h] at hr; cases hr), fun j hj => ?_⟩
    have hjn : j < n := Nat.lt_of_not_le fun h => absurd hj (tail_waits hs hc hn inv _ i rfl hin hun j h)
    refine ⟨hjn, ?_⟩
    by_cases hji : j = i
    · subst hji; exact hy.qOp hi H
    · have := hdone _ _ H j (ready_mono hj hji)
      omega
  | succ f ih =>
    intro listed a inv hfree hr hy H
    have hun := (mem_ready.1 hr).1
    refine ⟨fun h => (by rw [h] at hr; cases hr), fun j hj => ?_⟩
    have hjn : j < n := Nat.lt_of_not_le fun h => absurd hj (tail_waits hs hc hn inv _ i rfl hin hun j h)
    refine ⟨hjn, ?_⟩
    by_cases hji : j = i
    · subst hji; exact hy.qOp hi H
    · have h1 := (H.2 j (ready_mono hj hji)).2
      obtain ⟨hjun, oj, hoj, hall⟩ := mem_ready.1 hj
      have hnot : ∀ e ∈ oj.after, Region.binds md e = true → e.on ≠ i := fun e he hb heq => by
        have h1 := hall e he hb
        rw [heq, getD_both hun] at h1
        cases h1
      have h2 := qOp_put hoj (hfree j oj hoj hji hjun hnot) (fun cs b => hsel i oi cs b hi) (fun cs b => hsel j oj cs b hoj) hy h1
      have hfree' : ∀ k ok, ops[k]? = some ok → k ≠ i → (listed.setIfInBounds j true).getD k true = false →
          (∀ e ∈ ok.after, Region.binds md e = true → e.on ≠ i) → oi.apart ops ok = true := fun k ok hk hki hun hno => by
        refine hfree k ok hk hki ?_ hno
        by_cases hjk : j = k
        · subst hjk; exact hjun
        · rw [getD_set_ne true hjk] at hun; exact hun
      refine qOp_mono (fun a' h3 => ih (listed.setIfInBounds j true) a' (inv.set hj hjn) hfree' (ready_mono hr (Ne.symm hji)) h3.1 ?_) h2
      rw [Array.setIfInBounds_comm _ _ hji]
      exact h3.2
theorem anyHead_lex {n g : Nat} {T : Act → Prop} (hs : Region.noSelect ops = true) (h1 : Region.sinkB md ops n = true) (h2 : Region.chainB md ops n = true) (hn : n < ops.size) :
    ∀ (l : List Oper) (k : Nat) (listed : Array Bool) (a : Act), (∀ j, j < l.length → l[j]? = ops[k + j]?) → k + l.length = n → HeadInv md ops n listed →
    Region.lexHead md ops g l.length k listed = true → wpQuiet P ops C T l a →
    anyHead P md ops C n (fun listed a => Region.seqB md ops g n listed = true ∧ T a) l.length listed a
  | [], k, listed, a, _, hk, _, hB, h => ⟨by simp only [List.length_nil, Nat.add_zero] at hk; subst hk; exact hB, h⟩
  | o :: l, k, listed, a, hl, hk, inv, hB, h => by
    have h0 : ops[k]? = some o := by simpa using (hl 0 (by simp)).symm
    simp only [List.length_cons, Region.lexHead, Bool.and_eq_true] at hB
    obtain ⟨⟨hr, hf⟩, hB'⟩ := hB
    have hr' : k ∈ Region.ready md ops listed := by simpa using hr
    have hst : qOp P ops C k (wpQuiet P ops C T l) a := by unfold qOp; simp only [h0]; exact h
    obtain ⟨v, hy, hK⟩ := yieldsIn_of_qOp h0 hst
    simp only [List.length_cons] at hk
    refine anyHead_first h0 (Region.noSelect_spec hs) h1 h2 hn (by omega) ?_ l.length listed a inv (Region.free_spec h0 hf) hr' hy
      (anyHead_lex hs h1 h2 hn l (k + 1) _ _ (fun j hj => by have := hl (j + 1) (by simpa using hj); simpa [Nat.add_assoc, Nat.add_comm 1 j] using this) (by omega) (inv.set hr' (by omega)) hB' hK)
    rintro listed a ⟨h3, _⟩ j hj
    exact seqB_ready h3 j hj
end

section
variable {P : Program} {n : Nat} {Q : Post} {ρ : Env} {ds : List Deferred} {A : World → Prop}
/-- A region that draws, of which all only read. -/
theorem XC.reads {id : Nat} {l : List Oper} (hm : P.follows .mixedOrders = true) (hB : Region.lexB .any l.toArray = true) (hA : ∀ w m, A w → A { w with drawn := m })
    (h : XL P n l.toArray Q l.length l ρ ds A) : XC P n (.region id l.toArray true) Q ρ ds A := by
  intro σ w hσ hw a h1 h2 h3
  refine wp_region_quiet (C := A) hm hB (hA _ _ hw) ?_
  have := h a (h1 ▸ hσ) h2 h3
  rw [List.take_length, List.drop_length] at this
  exact this
/-- .. the first q only read, and the others come in one order. -/
theorem XC.tail {id : Nat} {l : List Oper} (q : Nat) (hm : P.follows .mixedOrders = true) (hB : Region.lexTailB .any l.toArray q = true) (hA : ∀ w m, A w → A { w with drawn := m })
    (h : XL P n l.toArray Q q l ρ ds A) : XC P n (.region id l.toArray true) Q ρ ds A := by
  intro σ w hσ hw a h1 h2 h3
  simp only [Region.lexTailB, Bool.and_eq_true, decide_eq_true_eq] at hB
  obtain ⟨⟨⟨⟨hs, hq⟩, hk⟩, hc⟩, hl⟩ := hB
  have hq' : q < l.length := by simpa using hq
  refine wp_region_any hm ?_
  have hlen : (l.take q).length = q := by simp; omega
  have inv : HeadInv .any l.toArray q (Array.replicate l.toArray.size false) := by
    refine ⟨by simp, fun j oj _ h0 => ?_, fun t _ ht => ?_⟩
    · rw [getD_replicate_false] at h0
      cases h0
    · have : t < l.length := by simpa using ht
      simp [this]
  have key := anyHead_lex (P := P) (C := A) (md := .any) (ops := l.toArray) (n := q) (g := l.toArray.size - q) (T := fun a' => ∀ w, A w → wpList P l.toArray (QA n Q) (l.drop q) a' w) hs hk hc hq (l.take q) 0
    (Array.replicate l.toArray.size false) a (fun j hj => by rw [hlen] at hj; simp [List.getElem?_take, hj]) (by rw [hlen]; omega) inv (by rw [hlen]; exact hl) (h a (h1 ▸ hσ) h2 h3)
  rw [hlen] at key
  have := wpAny_of_anyHead (Q' := QA n Q) (g := l.toArray.size - q) (fun listed a ⟨h4, h5⟩ w hw => ?_) q _ a key _ (hA _ (w.drawn + 1) hw)
  · rw [show q + (l.toArray.size - q) = l.toArray.size by simp; omega] at this
    exact this
  · have h6 := wpAny_of_seq (P := P) (md := .any) (Q' := QA n Q) (l.drop q) q listed a w (fun j => by simp) (by rw [List.length_drop]; simpa using h4) (h5 w hw)
    rw [List.length_drop] at h6
    simpa using h6
end
end Go.Proofs.Ytjnineeeffecaaa.X
