/- Regions that draw their order, walked by a plan: what only reads is taken as soon as it may come, and what it has read is kept until all that asks for it has come up; the others as they come. For whatever program. -/
import Derived.Test.YtjnineeeffecaaaX12
namespace Go.Proofs.Ytjnineeeffecaaa.X
open Go Go.RowKit

def bit (m k : Nat) : Bool := Nat.beq (m / 2 ^ k % 2) 1
section
variable {P : Program} {ops : Array Oper} {Q : Exit → Act → World → Prop} {md : Region.Mode}
/-- What has been read early, and must stay. -/
abbrev Pend := List (Nat × (World → Prop))
def Held : Pend → World → Prop
  | [], _ => True
  | x :: l, w => x.2 w ∧ Held l w
theorem Held.mem : ∀ {l : Pend} {w : World}, Held l w → ∀ x ∈ l, x.2 w
  | [], _, _, _, h => nomatch h
  | _ :: _, _, h, x, hx => by
    rcases List.mem_cons.1 hx with rfl | hx
    · exact h.1
    · exact h.2.mem x hx
theorem Held.of : ∀ {l : Pend} {w : World}, (∀ x ∈ l, x.2 w) → Held l w
  | [], _, _ => trivial
  | _ :: _, _, h => ⟨h _ List.mem_cons_self, Held.of fun x hx => h x (List.mem_cons_of_mem _ hx)⟩
/-- .. what is left of it behind an operation that waits for those of a mask. -/
def left (m : Nat) : Pend → Pend
  | [] => []
  | x :: l => bif bit m x.1 then left m l else x :: left m l
theorem left_sub {m : Nat} : ∀ {l : Pend}, ∀ x ∈ left m l, x ∈ l
  | [], _, h => nomatch h
  | y :: l, x, h => by
    unfold left at h
    cases hb : bit m y.1 with
    | true => rw [hb] at h; exact List.mem_cons_of_mem _ (left_sub x h)
    | false =>
      rw [hb] at h
      rcases List.mem_cons.1 h with rfl | h
      · exact List.mem_cons_self
      · exact List.mem_cons_of_mem _ (left_sub x h)
theorem left_mem {m : Nat} {l : Pend} {x : Nat × (World → Prop)} : x ∈ left m l ↔ x ∈ l ∧ bit m x.1 = false := by
  induction l with
  | nil => simp [left]
  | cons y l ih =>
    unfold left
    cases hb : bit m y.1 with
    | true =>
      simp only [cond_true, ih, List.mem_cons]
      constructor
      · rintro ⟨h1, h2⟩; exact ⟨.inr h1, h2⟩
      · rintro ⟨rfl | h1, h2⟩
        · rw [hb] at h2; cases h2
        · exact ⟨h1, h2⟩
    | false =>
      simp only [cond_false, List.mem_cons, ih]
      constructor
      · rintro (rfl | ⟨h1, h2⟩)
        · exact ⟨.inl rfl, hb⟩
        · exact ⟨.inr h1, h2⟩
      · rintro ⟨rfl | h1, h2⟩
        · exact .inl rfl
        · exact .inr ⟨h1, h2⟩
/-- No more is asked than is there, but for what holds of itself. -/
def LessP (pend' pend : Pend) : Prop := ∀ x ∈ pend', x ∈ pend ∨ ∀ w, x.2 w
theorem LessP.left {m : Nat} {l l' : Pend} (h : LessP l' l) : LessP (left m l') (X.left m l) := by
  intro x hx
  rw [left_mem] at hx
  exact (h x hx.1).imp (fun h1 => left_mem.2 ⟨h1, hx.2⟩) id
theorem LessP.held {l l' : Pend} {w : World} (h : LessP l' l) (hl : Held l w) : Held l' w := Held.of fun x hx => (h x hx).elim (fun h1 => hl.mem x h1) (fun h1 => h1 w)
/-- Whatever order is picked from here on, what is kept holding behind each operation. -/
def wpAnyP (P : Program) (md : Region.Mode) (ops : Array Oper) (Q : Exit → Act → World → Prop) (anc : Nat → Nat) : Nat → Array Bool → Pend → Act → World → Prop
  | 0, listed, _, a, w => Region.ready md ops listed = [] ∧ Q .normal a w
  | fuel + 1, listed, pend, a, w =>
    (Region.ready md ops listed = [] → Q .normal a w) ∧
    ∀ i ∈ Region.ready md ops listed, wpOp P ops Q i (fun a' w' => Held (left (anc i) pend) w' ∧ wpAnyP P md ops Q anc fuel (listed.setIfInBounds i true) (left (anc i) pend) a' w') a w
variable {anc : Nat → Nat}
theorem wpAny_of_P : ∀ (fuel : Nat) (listed : Array Bool) (pend : Pend) (a : Act) (w : World), wpAnyP P md ops Q anc fuel listed pend a w → wpAny P md ops Q fuel listed a w
  | 0, _, _, _, _, h => h
  | fuel + 1, _, _, _, _, h => ⟨h.1, fun i hi => wpOp_mono (fun a' w' h' => wpAny_of_P fuel _ _ a' w' h'.2) (h.2 i hi)⟩
theorem wpAnyP_less : ∀ {fuel : Nat} {listed : Array Bool} {pend pend' : Pend} {a : Act} {w : World}, LessP pend' pend → wpAnyP P md ops Q anc fuel listed pend a w → wpAnyP P md ops Q anc fuel listed pend' a w
  | 0, _, _, _, _, _, _, h => h
  | fuel + 1, _, _, _, _, _, hs, h => ⟨h.1, fun i hi => wpOp_mono (fun a' w' h' => ⟨hs.left.held h'.1, wpAnyP_less hs.left h'.2⟩) (h.2 i hi)⟩
/-- The same, step by step. -/
inductive Lft (m : Nat) : Pend → Pend → Prop
  | nil : Lft m [] []
  | drop {k : Nat} {p : World → Prop} {l l' : Pend} : bit m k = true → Lft m l l' → Lft m ((k, p) :: l) l'
  | keep {k : Nat} {p : World → Prop} {l l' : Pend} : Lft m l l' → Lft m ((k, p) :: l) ((k, p) :: l')
theorem Lft.less {m : Nat} {l l' : Pend} (h : Lft m l l') : LessP (left m l) l' := by
  induction h with
  | nil => exact fun x hx => nomatch hx
  | drop hb _ ih =>
    intro x hx
    unfold left at hx
    rw [hb] at hx
    exact ih x hx
  | keep _ ih =>
    intro x hx
    unfold left at hx
    cases hb : bit m _ with
    | true =>
      rw [hb] at hx
      exact (ih x hx).imp (List.mem_cons_of_mem _) id
    | false =>
      rw [hb] at hx
      rcases List.mem_cons.1 hx with rfl | hx
      · exact .inl List.mem_cons_self
      · exact (ih x hx).imp (List.mem_cons_of_mem _) id
/-- What is listed waits for what is listed. -/
def Closed (md : Region.Mode) (ops : Array Oper) (listed : Array Bool) : Prop := ∀ j oj, ops[j]? = some oj → listed.getD j false = true → ∀ e ∈ oj.after, Region.binds md e = true → listed.getD e.on false = true
theorem Closed.set {i : Nat} {listed : Array Bool} (inv : Closed md ops listed) (hi : i ∈ Region.ready md ops listed) : Closed md ops (listed.setIfInBounds i true) := by
  obtain ⟨_, oi, hoi, hall⟩ := mem_ready.1 hi
  intro j oj hj hl e he hb
  by_cases hij : i = j
  · subst hij
    have : oj = oi := Option.some.inj (hj.symm.trans hoi)
    subst this
    exact getD_set_true (hall e he hb)
  · rw [getD_set_ne false hij] at hl
    exact getD_set_true (inv j oj hj hl e he hb)
/-- The masks name what is waited for, at whatever remove. -/
def AncOK (md : Region.Mode) (ops : Array Oper) (anc : Nat → Nat) : Prop := ∀ j k, bit (anc j) k = true → ∃ oj, ops[j]? = some oj ∧ ∃ e ∈ oj.after, Region.binds md e = true ∧ e.on < j ∧ (e.on = k ∨ bit (anc e.on) k = true)
theorem anc_listed {listed : Array Bool} (hA : AncOK md ops anc) (hc : Closed md ops listed) : ∀ (j k : Nat), (∀ oj, ops[j]? = some oj → ∀ e ∈ oj.after, Region.binds md e = true → listed.getD e.on false = true) → bit (anc j) k = true → listed.getD k false = true := by
  intro j
  induction j using Nat.strongRecOn with
  | _ j ih =>
    intro k hj hb
    obtain ⟨oj, hoj, e, he, hbi, hlt, h⟩ := hA j k hb
    have h1 := hj oj hoj e he hbi
    rcases h with h | h
    · subst h; exact h1
    · exact ih e.on hlt k (fun o ho e' he' hb' => hc _ o ho h1 e' he' hb') h
/-- What may come up now, and yields its value as long as p holds, may be taken first. -/
theorem wpAnyP_first {i : Nat} {oi : Oper} {v : Value} {p : World → Prop} (hA : AncOK md ops anc) (hi : ops[i]? = some oi) (hsel : ∀ (j : Nat) (o : Oper) cs b, ops[j]? = some o → o.op ≠ .select cs b)
    (hQ : ∀ c a w, Q (.panic c) (a.put oi.dst v) w → Q (.panic c) a w) :
    ∀ (fuel : Nat) (listed : Array Bool) (pend : Pend) (a : Act) (w : World), Closed md ops listed →
      (∀ j oj, ops[j]? = some oj → j ≠ i → listed.getD j true = false → (∀ e ∈ oj.after, Region.binds md e = true → e.on ≠ i) → oi.apart ops oj = true) →
      i ∈ Region.ready md ops listed → YieldsIf P ops p oi v a → p w → Held pend w →
      wpAnyP P md ops Q anc fuel (listed.setIfInBounds i true) ((i, p) :: pend) (a.put oi.dst v) w → wpAnyP P md ops Q anc (fuel + 1) listed pend a w := by
  intro fuel
  induction fuel with
  | zero =>
    intro listed pend a w hc _ hr hy hp hh H
    refine ⟨fun h => (by rw [h] at hr; cases hr), fun j hj => ?_⟩
    by_cases hji : j = i
    · subst hji; exact hy.wpOp hi hp ⟨Held.of fun x hx => hh.mem x (left_sub x hx), wpAnyP_less (fun x hx => .inl (List.mem_cons_of_mem _ (left_sub x hx))) H⟩
    · have := ready_mono hj hji
      rw [H.1] at this
      cases this
  | succ fuel ih =>
    intro listed pend a w hc hfree hr hy hp hh H
    refine ⟨fun h => (by rw [h] at hr; cases hr), fun j hj => ?_⟩
    by_cases hji : j = i
    · subst hji; exact hy.wpOp hi hp ⟨Held.of fun x hx => hh.mem x (left_sub x hx), wpAnyP_less (fun x hx => .inl (List.mem_cons_of_mem _ (left_sub x hx))) H⟩
    · have h1 := H.2 j (ready_mono hj hji)
      obtain ⟨hjun, oj, hoj, hall⟩ := mem_ready.1 hj
      have hiun := (mem_ready.1 hr).1
      have hnot : ∀ e ∈ oj.after, Region.binds md e = true → e.on ≠ i := fun e he hb heq => by
        have h1 := hall e he hb
        rw [heq, getD_both hiun] at h1
        cases h1
      have hnb : bit (anc j) i = false := by
        cases hb : bit (anc j) i with
        | false => rfl
        | true =>
          have := anc_listed hA hc j i (fun o ho => by rw [hoj] at ho; cases ho; exact hall) hb
          rw [getD_both hiun] at this
          cases this
      have hle : left (anc j) ((i, p) :: pend) = (i, p) :: left (anc j) pend := by
        show (bif bit (anc j) i then _ else _) = _
        rw [hnb]
        rfl
      rw [hle] at h1
      have h2 := wpOp_putIf hoj (hfree j oj hoj hji hjun hnot) (fun cs b => hsel i oi cs b hi) (fun cs b => hsel j oj cs b hoj) hQ hy h1
      have hfree' : ∀ k ok, ops[k]? = some ok → k ≠ i → (listed.setIfInBounds j true).getD k true = false →
          (∀ e ∈ ok.after, Region.binds md e = true → e.on ≠ i) → oi.apart ops ok = true := fun k ok hk hki hun hno => by
        refine hfree k ok hk hki ?_ hno
        by_cases hjk : j = k
        · subst hjk; exact hjun
        · rw [getD_set_ne true hjk] at hun; exact hun
      refine wpOp_mono (fun a' w' h3 => ⟨h3.2.1.2, ih (listed.setIfInBounds j true) _ a' w' (hc.set hj) hfree' (ready_mono hr (Ne.symm hji)) h3.1 h3.2.1.1 h3.2.1.2 ?_⟩) h2
      rw [Array.setIfInBounds_comm _ _ hji]
      exact h3.2.2
end
/-! ### Plans -/
inductive Plan where
  | done
  | q (i : Nat) (s : Plan)
  | a (i : Nat) (s : Plan)
  | b (i j : Nat) (s t : Plan)
  | c (i j k : Nat) (s t u : Plan)
/-- Is it one? -/
def Plan.chk (l : List Oper) (listed : Array Bool) : Plan → Bool
  | .done => (Region.ready .any l.toArray listed).isEmpty
  | .q i s => Region.free .any l.toArray listed i && (Region.ready .any l.toArray listed).contains i && (match nthO l i with | some o => noEnter o | none => false) && s.chk l (listed.setIfInBounds i true)
  | .a i s => decide (Region.ready .any l.toArray listed = [i]) && s.chk l (listed.setIfInBounds i true)
  | .b i j s t => decide (Region.ready .any l.toArray listed = [i, j]) && s.chk l (listed.setIfInBounds i true) && t.chk l (listed.setIfInBounds j true)
  | .c i j k s t u => decide (Region.ready .any l.toArray listed = [i, j, k]) && s.chk l (listed.setIfInBounds i true) && t.chk l (listed.setIfInBounds j true) && u.chk l (listed.setIfInBounds k true)
def Plan.size : Plan → Nat
  | .done => 0
  | .q _ s => s.size + 1
  | .a _ s => s.size + 1
  | .b _ _ s _ => s.size + 1
  | .c _ _ _ s _ _ => s.size + 1
def Plan.even : Plan → Bool
  | .done => true
  | .q _ s => s.even
  | .a _ s => s.even
  | .b _ _ s t => Nat.beq s.size t.size && s.even && t.even
  | .c _ _ _ s t u => Nat.beq s.size t.size && Nat.beq s.size u.size && s.even && t.even && u.even
def nthN : List Nat → Nat → Nat
  | [], _ => 0
  | m :: _, 0 => m
  | _ :: l, k + 1 => nthN l k
def ancB (l : List Oper) (ms : List Nat) : Bool :=
  (List.range l.length).all fun j => match nthO l j with
    | some o => (List.range l.length).all fun k => !bit (nthN ms j) k || o.after.any fun e => Region.binds .any e && Nat.blt e.on j && (Nat.beq e.on k || bit (nthN ms e.on) k)
    | none => false
def boundB (n : Nat) (ms : List Nat) : Bool := Nat.ble ms.length n && ms.all fun m => Nat.blt m (2 ^ n)
theorem bit_small {m n k : Nat} (h : m < 2 ^ n) (hb : bit m k = true) : k < n := by
  refine Nat.lt_of_not_le fun hk => ?_
  have h1 : m < 2 ^ k := Nat.lt_of_lt_of_le h (Nat.pow_le_pow_right (by decide) hk)
  unfold bit at hb
  rw [Nat.div_eq_of_lt h1] at hb
  cases hb
theorem nthN_big : ∀ {l : List Nat} {j : Nat}, l.length ≤ j → nthN l j = 0
  | [], _, _ => rfl
  | _ :: l, 0, h => by simp at h
  | _ :: l, j + 1, h => nthN_big (l := l) (by simpa using h)
theorem nthN_mem : ∀ {l : List Nat} {j : Nat}, j < l.length → nthN l j ∈ l
  | [], _, h => by simp at h
  | m :: l, 0, _ => List.mem_cons_self
  | m :: l, j + 1, h => List.mem_cons_of_mem _ (nthN_mem (l := l) (by simpa using h))
theorem ancB_spec {l : List Oper} {ms : List Nat} (h : ancB l ms = true) (hb : boundB l.length ms = true) : AncOK .any l.toArray (nthN ms) := by
  simp only [boundB, Bool.and_eq_true, List.all_eq_true] at hb
  obtain ⟨hl, hb⟩ := hb
  have hl := Nat.le_of_ble_eq_true hl
  intro j k hjk
  have hj : j < ms.length := by
    refine Nat.lt_of_not_le fun hle => ?_
    rw [nthN_big hle] at hjk
    simp [bit] at hjk
  have hk : k < l.length := bit_small (Nat.le_of_ble_eq_true (hb _ (nthN_mem hj))) hjk
  have h1 := List.all_eq_true.1 h j (List.mem_range.2 (by omega))
  split at h1
  · rename_i o ho
    have h2 := List.all_eq_true.1 h1 k (List.mem_range.2 hk)
    simp only [hjk, Bool.not_true, Bool.false_or] at h2
    obtain ⟨e, he, h3⟩ := Array.any_eq_true'.1 h2
    simp only [Bool.and_eq_true, Bool.or_eq_true] at h3
    obtain ⟨⟨h3, h4⟩, h5⟩ := h3
    exact ⟨o, (nthO_eq l j).trans ho, e, he, h3, Nat.le_of_ble_eq_true h4, h5.imp (fun h => Nat.eq_of_beq_eq_true h) id⟩
  · cases h1
/-- A plan's making: from the masks of what each waits for. -/
def depsOf (o : Oper) : Nat := o.after.toList.foldl (fun m e => bif Region.binds .any e then m ||| 2 ^ e.on else m) 0
def ancOf (ds acc : List Nat) (m : Nat) : Nat → Nat → Nat
  | 0, _ => m
  | f + 1, k => ancOf ds acc (bif bit m k then m ||| nthN acc k else m) f (k + 1)
def ancsOf (n : Nat) : List Nat → List Nat → List Nat
  | [], acc => acc
  | d :: ds, acc => ancsOf n ds (acc ++ [ancOf ds acc d n 0])
/-- (mask, quiet) of each. -/
def firstQ (listed : Nat) : Nat → List (Nat × Bool) → Option Nat
  | _, [] => none
  | i, (m, q) :: l => bif q && !bit listed i && Nat.beq (m &&& listed) m then some i else firstQ listed (i + 1) l
def readyOf (listed : Nat) : Nat → List (Nat × Bool) → List Nat
  | _, [] => []
  | i, (m, _) :: l => bif !bit listed i && Nat.beq (m &&& listed) m then i :: readyOf listed (i + 1) l else readyOf listed (i + 1) l
def mkPlan (l : List (Nat × Bool)) : Nat → Nat → Plan
  | 0, _ => .done
  | f + 1, listed => match firstQ listed 0 l with
    | some i => .q i (mkPlan l f (listed ||| 2 ^ i))
    | none => match readyOf listed 0 l with
      | [] => .done
      | [i] => .a i (mkPlan l f (listed ||| 2 ^ i))
      | [i, j] => .b i j (mkPlan l f (listed ||| 2 ^ i)) (mkPlan l f (listed ||| 2 ^ j))
      | i :: j :: k :: _ => .c i j k (mkPlan l f (listed ||| 2 ^ i)) (mkPlan l f (listed ||| 2 ^ j)) (mkPlan l f (listed ||| 2 ^ k))

section
variable {P : Program} {n : Nat} {Q : Post} {ρ : Env} {ds : List Deferred} {A p : World → Prop} {l : List Oper} {ms : List Nat} {pend : Pend} {s t u : Plan} {i : Nat} {o : Oper}
def XS1 (P : Program) (n : Nat) (l : List Oper) (Q : Post) (ms : List Nat) (s : Plan) (pend : Pend) (σ : Slots) (ds : List Deferred) (w : World) : Prop :=
  ∀ listed, Region.noSelect l.toArray = true → AncOK .any l.toArray (nthN ms) → Closed .any l.toArray listed → s.chk l listed = true → s.even = true →
    ∀ a : Act, envOf a = σ → n ≤ a.tmps.size → a.defers = ds → wpAnyP P .any l.toArray (QA n Q) (nthN ms) s.size listed pend a w
/-- From here on, by the plan. -/
def XS (P : Program) (n : Nat) (l : List Oper) (Q : Post) (ms : List Nat) (s : Plan) (pend : Pend) (ρ : Env) (ds : List Deferred) (A : World → Prop) : Prop :=
  ∀ σ w, Agree ρ σ → A w → Held pend w → XS1 P n l Q ms s pend σ ds w
/-- Behind an operation that was taken first. -/
def TkS (P : Program) (n : Nat) (l : List Oper) (Q : Post) (ms : List Nat) (s : Plan) (pend : Pend) (A : World → Prop) : Post :=
  thenX (fun σ ds w => A w → Held pend w → XS1 P n l Q ms s pend σ ds w) Q
/-- Behind an operation that came up. -/
def AnS (P : Program) (n : Nat) (l : List Oper) (Q : Post) (ms : List Nat) (s : Plan) (pend : Pend) : Post :=
  thenX (fun σ ds w => Held pend w ∧ XS1 P n l Q ms s pend σ ds w) Q
theorem PF.anS (h : PF Q) : PF (AnS P n l Q ms s pend) := h
theorem XQ.tkS (h : XS P n l Q ms s pend ρ ds A) : XQ (TkS P n l Q ms s pend A) .normal ρ ds p := fun σ w hσ _ hA hH => h σ w hσ hA hH
theorem XQ.anS (hp : ∀ w, A w → Held pend w) (h : XS P n l Q ms s pend ρ ds A) : XQ (AnS P n l Q ms s pend) .normal ρ ds A := fun σ w hσ hA => ⟨hp w hA, h σ w hσ hA (hp w hA)⟩
theorem XQ.anSP {c : List PanicEntry} (h : XQ Q (.panic c) ρ ds A) : XQ (AnS P n l Q ms s pend) (.panic c) ρ ds A := h
theorem XS.done (h : XQ Q .normal ρ ds A) : XS P n l Q ms .done pend ρ ds A := fun σ w hσ hA _ listed _ _ _ hk _ a h1 h2 h3 =>
  ⟨by simpa [Plan.chk] using hk, h2, by rw [h1, h3]; exact h σ w hσ hA⟩
theorem XS.q (p : World → Prop) (hA : ∀ w, A w → p w) (ho : nthO l i = some o) (hQ : PF Q) (h : XL P n l.toArray (TkS P n l Q ms s ((i, p) :: pend) A) 1 [o] ρ ds p) : XS P n l Q ms (.q i s) pend ρ ds A := by
  intro σ w hσ hw hH listed h1 h2 h3 h4 h5 a e1 e2 e3
  subst e1
  simp only [Plan.chk, ho, Bool.and_eq_true] at h4
  obtain ⟨⟨⟨hf, hrd⟩, hne⟩, hk⟩ := h4
  have hi := (nthO_eq l i).trans ho
  have hri : i ∈ Region.ready .any l.toArray listed := by simpa using hrd
  obtain ⟨v, hy, hK⟩ := yieldsIf_of_quiet hne (h a hσ e2 e3)
  have hK2 := hK w (hA w hw)
  change wpList P l.toArray (QA n (TkS P n l Q ms s ((i, p) :: pend) A)) [] (a.put o.dst v) w at hK2
  unfold wpList at hK2
  obtain ⟨h6, h7⟩ := hK2
  exact wpAnyP_first h2 hi (Region.noSelect_spec h1) (fun c a' w' ⟨h6, h7⟩ => ⟨by rw [size_put] at h6; exact h6, by rw [defers_put] at h7; exact hQ c _ _ _ _ h7⟩) s.size listed pend a w h3 (Region.free_spec hi hf) hri hy (hA w hw) hH
    (h7 hw ⟨hA w hw, hH⟩ _ h1 h2 (h3.set hri) hk h5 _ rfl h6 rfl)
/-- .. that reads nothing of the world. -/
theorem XS.qT (ho : nthO l i = some o) (hQ : PF Q) (h : XL P n l.toArray (TkS P n l Q ms s pend A) 1 [o] ρ ds fun _ => True) : XS P n l Q ms (.q i s) pend ρ ds A := by
  intro σ w hσ hw hH listed h1 h2 h3 h4 h5 a e1 e2 e3
  subst e1
  simp only [Plan.chk, ho, Bool.and_eq_true] at h4
  obtain ⟨⟨⟨hf, hrd⟩, hne⟩, hk⟩ := h4
  have hi := (nthO_eq l i).trans ho
  have hri : i ∈ Region.ready .any l.toArray listed := by simpa using hrd
  obtain ⟨v, hy, hK⟩ := yieldsIf_of_quiet hne (h a hσ e2 e3)
  have hK2 := hK w trivial
  change wpList P l.toArray (QA n (TkS P n l Q ms s pend A)) [] (a.put o.dst v) w at hK2
  unfold wpList at hK2
  obtain ⟨h6, h7⟩ := hK2
  exact wpAnyP_first h2 hi (Region.noSelect_spec h1) (fun c a' w' ⟨h6, h7⟩ => ⟨by rw [size_put] at h6; exact h6, by rw [defers_put] at h7; exact hQ c _ _ _ _ h7⟩) s.size listed pend a w h3 (Region.free_spec hi hf) hri hy trivial hH
    (wpAnyP_less (fun x hx => by
      rcases List.mem_cons.1 hx with rfl | hx
      · exact .inr fun _ => trivial
      · exact .inl hx) (h7 hw hH _ h1 h2 (h3.set hri) hk h5 _ rfl h6 rfl))
theorem wp_anS {a : Act} {w : World} {pend' : Pend} (hi : l.toArray[i]? = some o) (h4 : wpList P l.toArray (QA n (AnS P n l Q ms s pend')) [o] a w) {K : Act → World → Prop}
    (hK : ∀ a' w', QA n (AnS P n l Q ms s pend') .normal a' w' → K a' w') : wpOp P l.toArray (QA n Q) i K a w := by
  unfold wpOp
  simp only [hi]
  unfold wpList at h4
  split at h4
  · rename_i hw
    simp only [hw, if_true]
    rcases h4 with h4 | ⟨h4, h5⟩
    · refine .inl (wp_post (fun c a w h => h) (fun ⟨a, w, h7, h8⟩ => ⟨a, w, h7, h8⟩) (Oper.wp_mono (fun a' w' h6 => ?_) h4))
      unfold wpList at h6
      exact hK _ _ h6
    · exact .inr ⟨h4, let ⟨a, w, h7, h8⟩ := h5; ⟨a, w, h7, h8⟩⟩
  · rename_i hw
    simp only [hw]
    unfold wpList at h4
    exact hK _ _ h4
theorem XS.a {pend' : Pend} (ho : nthO l i = some o) (hp : Lft (nthN ms i) pend pend') (h : XL P n l.toArray (AnS P n l Q ms s pend') 0 [o] ρ ds A) : XS P n l Q ms (.a i s) pend ρ ds A := by
  intro σ w hσ hw hH listed h1 h2 h3 h4 h5 a e1 e2 e3
  subst e1
  simp only [Plan.chk, Bool.and_eq_true, decide_eq_true_eq] at h4
  obtain ⟨hrd, hk⟩ := h4
  have hri : i ∈ Region.ready .any l.toArray listed := by rw [hrd]; exact List.mem_singleton.2 rfl
  show wpAnyP P .any l.toArray (QA n Q) (nthN ms) (s.size + 1) listed pend a w
  refine ⟨fun h0 => (by rw [hrd] at h0; cases h0), fun j hj => ?_⟩
  rw [hrd, List.mem_singleton] at hj
  subst hj
  exact wp_anS ((nthO_eq l j).trans ho) (h.zero hσ e2 e3 hw) fun a' w' ⟨h6, h7, h8⟩ => ⟨hp.less.held h7, wpAnyP_less hp.less (h8 _ h1 h2 (h3.set hri) hk h5 _ rfl h6 rfl)⟩
theorem XS.b {j : Nat} {o2 : Oper} {pend1 pend2 : Pend} (ho : nthO l i = some o) (ho2 : nthO l j = some o2) (hp : Lft (nthN ms i) pend pend1) (hp2 : Lft (nthN ms j) pend pend2)
    (h : XL P n l.toArray (AnS P n l Q ms s pend1) 0 [o] ρ ds A) (h' : XL P n l.toArray (AnS P n l Q ms t pend2) 0 [o2] ρ ds A) : XS P n l Q ms (.b i j s t) pend ρ ds A := by
  intro σ w hσ hw hH listed h1 h2 h3 h4 h5 a e1 e2 e3
  subst e1
  simp only [Plan.chk, Bool.and_eq_true, decide_eq_true_eq] at h4
  simp only [Plan.even, Bool.and_eq_true] at h5
  obtain ⟨⟨hrd, hk1⟩, hk2⟩ := h4
  obtain ⟨⟨hsz, h51⟩, h52⟩ := h5
  have hsz := Nat.eq_of_beq_eq_true hsz
  show wpAnyP P .any l.toArray (QA n Q) (nthN ms) (s.size + 1) listed pend a w
  refine ⟨fun h0 => (by rw [hrd] at h0; cases h0), fun k hk => ?_⟩
  have hri := hk
  rw [hrd] at hk
  rcases List.mem_cons.1 hk with rfl | hk
  · exact wp_anS ((nthO_eq l k).trans ho) (h.zero hσ e2 e3 hw) fun a' w' ⟨h6, h7, h8⟩ => ⟨hp.less.held h7, wpAnyP_less hp.less (h8 _ h1 h2 (h3.set hri) hk1 h51 _ rfl h6 rfl)⟩
  · rw [List.mem_singleton] at hk
    subst hk
    exact wp_anS ((nthO_eq l k).trans ho2) (h'.zero hσ e2 e3 hw) fun a' w' ⟨h6, h7, h8⟩ => ⟨hp2.less.held h7, wpAnyP_less hp2.less (by
      have := h8 _ h1 h2 (h3.set hri) hk2 h52 _ rfl h6 rfl
      rw [← hsz] at this
      exact this)⟩
theorem XS.c {j k : Nat} {o2 o3 : Oper} {pend1 pend2 pend3 : Pend} (ho : nthO l i = some o) (ho2 : nthO l j = some o2) (ho3 : nthO l k = some o3) (hp : Lft (nthN ms i) pend pend1) (hp2 : Lft (nthN ms j) pend pend2)
    (hp3 : Lft (nthN ms k) pend pend3) (h : XL P n l.toArray (AnS P n l Q ms s pend1) 0 [o] ρ ds A) (h' : XL P n l.toArray (AnS P n l Q ms t pend2) 0 [o2] ρ ds A) (h'' : XL P n l.toArray (AnS P n l Q ms u pend3) 0 [o3] ρ ds A) :
    XS P n l Q ms (.c i j k s t u) pend ρ ds A := by
  intro σ w hσ hw hH listed h1 h2 h3 h4 h5 a e1 e2 e3
  subst e1
  simp only [Plan.chk, Bool.and_eq_true, decide_eq_true_eq] at h4
  simp only [Plan.even, Bool.and_eq_true] at h5
  obtain ⟨⟨⟨hrd, hk1⟩, hk2⟩, hk3⟩ := h4
  obtain ⟨⟨⟨⟨hsz, hsz2⟩, h51⟩, h52⟩, h53⟩ := h5
  have hsz := Nat.eq_of_beq_eq_true hsz
  have hsz2 := Nat.eq_of_beq_eq_true hsz2
  show wpAnyP P .any l.toArray (QA n Q) (nthN ms) (s.size + 1) listed pend a w
  refine ⟨fun h0 => (by rw [hrd] at h0; cases h0), fun m hm => ?_⟩
  have hri := hm
  rw [hrd] at hm
  rcases List.mem_cons.1 hm with rfl | hm
  · exact wp_anS ((nthO_eq l m).trans ho) (h.zero hσ e2 e3 hw) fun a' w' ⟨h6, h7, h8⟩ => ⟨hp.less.held h7, wpAnyP_less hp.less (h8 _ h1 h2 (h3.set hri) hk1 h51 _ rfl h6 rfl)⟩
  rcases List.mem_cons.1 hm with rfl | hm
  · exact wp_anS ((nthO_eq l m).trans ho2) (h'.zero hσ e2 e3 hw) fun a' w' ⟨h6, h7, h8⟩ => ⟨hp2.less.held h7, wpAnyP_less hp2.less (by
      have := h8 _ h1 h2 (h3.set hri) hk2 h52 _ rfl h6 rfl
      rw [← hsz] at this
      exact this)⟩
  · rw [List.mem_singleton] at hm
    subst hm
    exact wp_anS ((nthO_eq l m).trans ho3) (h''.zero hσ e2 e3 hw) fun a' w' ⟨h6, h7, h8⟩ => ⟨hp3.less.held h7, wpAnyP_less hp3.less (by
      have := h8 _ h1 h2 (h3.set hri) hk3 h53 _ rfl h6 rfl
      rw [← hsz2] at this
      exact this)⟩
/-- The beginning. -/
theorem XC.plan {id : Nat} (hm : P.follows .mixedOrders = true) (ms : List Nat) (s : Plan) (hA : ∀ w m, A w → A { w with drawn := m })
    (hB : (boundB l.length ms && ancB l ms && Region.noSelect l.toArray && s.chk l (Array.replicate l.length false) && s.even && Nat.beq s.size l.length) = true)
    (h : XS P n l Q ms s [] ρ ds A) : XC P n (.region id l.toArray true) Q ρ ds A := by
  intro σ w hσ hw a h1 h2 h3
  simp only [Bool.and_eq_true] at hB
  obtain ⟨⟨⟨⟨⟨hb1, hb2⟩, hb3⟩, hb4⟩, hb5⟩, hb6⟩ := hB
  have hb6 := Nat.eq_of_beq_eq_true hb6
  refine wp_region_any hm (wpAny_of_P (anc := nthN ms) _ _ [] _ _ ?_)
  have := h σ _ hσ (hA w (w.drawn + 1) hw) trivial (Array.replicate l.length false) hb3 (ancB_spec hb2 hb1) (fun j oj _ h0 => by rw [getD_replicate_false] at h0; cases h0) hb4 hb5 a h1 h2 h3
  rw [hb6] at this
  simpa using this
/-- A plan and its masks, as they are reckoned: to be written out. -/
def XG (P : Program) (n : Nat) (l : List Oper) (Q : Post) (ms : List Nat) (s : Plan) (ρ : Env) (ds : List Deferred) (A : World → Prop) : Prop :=
  (boundB l.length ms && ancB l ms && Region.noSelect l.toArray && s.chk l (Array.replicate l.length false) && s.even && Nat.beq s.size l.length) = true ∧ XS P n l Q ms s [] ρ ds A
def XG0 (P : Program) (n : Nat) (l : List Oper) (Q : Post) (dl : List (Nat × Bool)) (ρ : Env) (ds : List Deferred) (A : World → Prop) : Prop :=
  XG P n l Q (ancsOf l.length (dl.map (·.1)) []) (mkPlan dl l.length 0) ρ ds A
theorem XC.planG {id : Nat} (hm : P.follows .mixedOrders = true) (hA : ∀ w m, A w → A { w with drawn := m }) (h : XG0 P n l Q (l.map fun o => (depsOf o, noEnter o)) ρ ds A) : XC P n (.region id l.toArray true) Q ρ ds A :=
  XC.plan hm _ _ hA h.1 h.2
theorem XG.go (hB : (boundB l.length ms && ancB l ms && Region.noSelect l.toArray && s.chk l (Array.replicate l.length false) && s.even && Nat.beq s.size l.length) = true) (h : XS P n l Q ms s [] ρ ds A) : XG P n l Q ms s ρ ds A := ⟨hB, h⟩
theorem XG0.of {dl : List (Nat × Bool)} (h : XG P n l Q (ancsOf l.length (dl.map (·.1)) []) (mkPlan dl l.length 0) ρ ds A) : XG0 P n l Q dl ρ ds A := h
/-! ### Single operations, taken first -/
theorem XS.pure {v : Value} {d : Nat} (ho : nthO l i = some o) (hQ : PF Q) (hd : o.dst = some d) (hn : Nat.blt d n = true) (hw : wantB l.toArray ρ o = some true) (hv : pureOp ρ o.op = some v)
    (k : XS P n l Q ms s pend ((d, v) :: ρ) ds A) : XS P n l Q ms (.q i s) pend ρ ds A :=
  XS.qT ho hQ (XL.run (d := some d) hd hn hw (fun σ w hσ _ => pureOp_run hσ hv w) (XL.nil (XQ.tkS k)))
theorem XS.off {d : Nat} (ho : nthO l i = some o) (hQ : PF Q) (hd : o.dst = some d) (hn : Nat.blt d n = true) (hw : wantB l.toArray ρ o = some false)
    (k : XS P n l Q ms s pend ((d, undef) :: ρ) ds A) : XS P n l Q ms (.q i s) pend ρ ds A :=
  XS.qT ho hQ (XL.off (d := some d) hd hn hw (XL.nil (XQ.tkS k)))
/-- As many as go. -/
def pureS (n : Nat) (l : List Oper) : Plan → Env → Plan × Env
  | .q i s, ρ => match nthO l i with
    | some o => match o.guard with
      | some _ => (.q i s, ρ)
      | none => match o.dst with
        | none => (.q i s, ρ)
        | some d => match Nat.blt d n with
          | false => (.q i s, ρ)
          | true => match pureOpM ρ o.op with
            | some v => pureS n l s ((d, v) :: ρ)
            | none => (.q i s, ρ)
    | none => (.q i s, ρ)
  | s, ρ => (s, ρ)
theorem XS.pureS' (hQ : PF Q) : ∀ {s : Plan} {ρ : Env}, XS P n l Q ms (pureS n l s ρ).1 pend (pureS n l s ρ).2 ds A → XS P n l Q ms s pend ρ ds A
  | .q i s, ρ, h => by
    unfold pureS at h
    split at h
    · rename_i o ho
      split at h
      · exact h
      · rename_i hg
        split at h
        · exact h
        · rename_i d hd
          split at h
          · exact h
          · rename_i hlt
            split at h
            · rename_i v hv
              exact XS.pure ho hQ hd hlt (by simp [wantB, hg]) (pureOpM_eq hv) (XS.pureS' hQ h)
            · exact h
    · exact h
  | .done, _, h => h
  | .a _ _, _, h => h
  | .b _ _ _ _, _, h => h
  | .c _ _ _ _ _ _, _, h => h
theorem XS.pures {s' : Plan} {v : Value} {d : Nat} {ρ' : Env} (ho : nthO l i = some o) (hQ : PF Q) (hg : o.guard = none) (hd : o.dst = some d) (hn : Nat.blt d n = true) (hv : pureOpM ρ o.op = some v) (h : pureS n l s ((d, v) :: ρ) = (s', ρ'))
    (k : XS P n l Q ms s' pend ρ' ds A) : XS P n l Q ms (.q i s) pend ρ ds A :=
  XS.pure ho hQ hd hn (by simp [wantB, hg]) (pureOpM_eq hv) (XS.pureS' hQ (by simp only [h]; exact k))
theorem XS.cases_d (d : Nat) {p : Prop} [Decidable p] (h : find ρ d = some (.bool (decide p))) (ht : p → XS P n l Q ms s pend ((d, .bool true) :: ρ) ds A) (hf : ¬ p → XS P n l Q ms s pend ((d, .bool false) :: ρ) ds A) :
    XS P n l Q ms s pend ρ ds A := fun σ w hσ => by
  by_cases hp : p
  · exact ht hp σ w (hσ.know (by rw [hσ d _ h]; simp [hp]))
  · exact hf hp σ w (hσ.know (by rw [hσ d _ h]; simp [hp]))
theorem XS.guard_d {g : Nat} {p : Prop} [Decidable p] (ho : nthO l i = some o) (_hg : guardSlot l.toArray o = some g) (h : find ρ g = some (.bool (decide p))) (ht : p → XS P n l Q ms (.q i s) pend ((g, .bool true) :: ρ) ds A)
    (hf : ¬ p → XS P n l Q ms (.q i s) pend ((g, .bool false) :: ρ) ds A) : XS P n l Q ms (.q i s) pend ρ ds A := XS.cases_d g h ht hf
section
variable {c : Cx} {L L' : List SP} {Φ : List FP} {d : Nat}
theorem XS.ld {t b k T : Nat} {cs : Array Value} {x : Operand} {v : Value} (ho : nthO l i = some o) (hQ : PF Q) (hop : o.op = .load t x) (hd : o.dst = some d) (hn : Nat.blt d n = true) (hw : wantB l.toArray ρ o = some true)
    (hx : evE ρ x = some (.pointer (some ⟨b, k, none⟩))) (ht : aggB P t = some false) (sl : Sel L (cel b cs T) L') (hv : nth cs.toList k = some v)
    (h : XS P n l Q ms s ((i, fun w => w.cell? ⟨b, k, none⟩ = some v) :: pend) ((d, v) :: ρ) ds (St c L Φ)) : XS P n l Q ms (.q i s) pend ρ ds (St c L Φ) :=
  XS.q (fun w => w.cell? ⟨b, k, none⟩ = some v) (fun _ h => h.cell sl (by rw [nth_eq] at hv; simpa using hv)) ho hQ (XL.ldv hop hd hn hw hx ht (fun _ h => h) (XL.nil (XQ.tkS h)))
theorem XS.lds {t b k sz T : Nat} {cs : Array Value} {x : Operand} {vs : List Value} (ho : nthO l i = some o) (hQ : PF Q) (hop : o.op = .load t x) (hd : o.dst = some d) (hn : Nat.blt d n = true) (hw : wantB l.toArray ρ o = some true)
    (hx : evE ρ x = some (.pointer (some ⟨b, k, none⟩))) (ht : aggB P t = some true) (hs : sizeB P t = some sz) (sl : Sel L (cel b cs T) L') (hv : sub cs.toList k sz = some vs)
    (h : XS P n l Q ms s ((i, fun w => ∀ j v, vs[j]? = some v → w.cell? ⟨b, k + j, none⟩ = some v) :: pend) ((d, .agg vs.toArray) :: ρ) ds (St c L Φ)) : XS P n l Q ms (.q i s) pend ρ ds (St c L Φ) :=
  XS.q (fun w => ∀ j v, vs[j]? = some v → w.cell? ⟨b, k + j, none⟩ = some v) (fun _ h j v hj => h.cell sl (by have := (sub_eq hv).2 j v hj; simpa using this)) ho hQ (XL.ldsv hop hd hn hw hx ht hs (sub_eq hv).1 (fun _ h => h) (XL.nil (XQ.tkS h)))
theorem St.cells {w : World} {b k T : Nat} {cs : Array Value} {vs : List Value} (sl : Sel L (cel b cs T) L') (hv : sub cs.toList k vs.length = some vs) (h : St c L Φ w) : ∀ j v, vs[j]? = some v → w.cell? ⟨b, k + j, none⟩ = some v :=
  fun j v hj => h.cell sl (by have := (sub_eq hv).2 j v hj; simpa using this)
theorem heldNil : ∀ w, A w → Held [] w := fun _ _ => trivial
theorem heldCons {k : Nat} {pend : Pend} (h : ∀ w, A w → p w) (t : ∀ w, A w → Held pend w) : ∀ w, A w → Held ((k, p) :: pend) w := fun w hw => ⟨h w hw, t w hw⟩
end
/-! ### .. rows -/
section
variable {d : Nat}
theorem XS.lenR {cl : Call} {size m : Nat} {v : Value} {xs : List Value} (ho : nthO l i = some o) (hQ : PF Q) (hop : o.op = .call cl) (hd : o.dst = some d) (hn : Nat.blt d n = true) (hw : wantB l.toArray ρ o = some true) (hb : cl.callee = .builtin .len)
    (ha : evs ρ cl.args.toList = some [v]) (ht : lenKind P cl.argTypes = 1) (hr : ∀ w, A w → Row size v m xs w) (k : XS P n l Q ms s ((i, Row size v m xs) :: pend) ((d, .int .i64 (m : Int)) :: ρ) ds A) : XS P n l Q ms (.q i s) pend ρ ds A :=
  XS.q (Row size v m xs) hr ho hQ (XL.lenR hop hd hn hw hb ha ht (fun _ h => h) (XL.nil (XQ.tkS k)))
theorem XS.iaR {t size m j : Nat} {kd : IntKind} {x y : Operand} {v : Value} {xs : List Value} (ho : nthO l i = some o) (hQ : PF Q) (hop : o.op = .indexAddr t x y) (hd : o.dst = some d) (hn : Nat.blt d n = true) (hw : wantB l.toArray ρ o = some true)
    (hx : evE ρ x = some v) (hy : evE ρ y = some (.int kd (j : Int))) (hr : ∀ w, A w → Row size v m xs w) (he : elemSize P t = some size) (h : j < m)
    (k : XS P n l Q ms s ((i, Row size v m xs) :: pend) ((d, cellP v (j * size)) :: ρ) ds A) : XS P n l Q ms (.q i s) pend ρ ds A :=
  XS.q (Row size v m xs) hr ho hQ (XL.iaR hop hd hn hw hx hy he (fun _ h => h) h (XL.nil (XQ.tkS k)))
theorem XS.iaR1 {t m j : Nat} {kd : IntKind} {x y : Operand} {v : Value} {xs : List Value} (ho : nthO l i = some o) (hQ : PF Q) (hop : o.op = .indexAddr t x y) (hd : o.dst = some d) (hn : Nat.blt d n = true) (hw : wantB l.toArray ρ o = some true)
    (hx : evE ρ x = some v) (hy : evE ρ y = some (.int kd (j : Int))) (he : elemSize P t = some (0 + 1)) (hr : ∀ w, A w → Row 1 v m xs w) (h : j < m)
    (k : XS P n l Q ms s ((i, Row 1 v m xs) :: pend) ((d, cellP v j) :: ρ) ds A) : XS P n l Q ms (.q i s) pend ρ ds A :=
  XS.q (Row 1 v m xs) hr ho hQ (XL.iaR1 hop hd hn hw hx hy he (fun _ h => h) h (XL.nil (XQ.tkS k)))
theorem XS.iaI1 {t m : Nat} {j : Int} {kd : IntKind} {x y : Operand} {v : Value} {xs : List Value} (ho : nthO l i = some o) (hQ : PF Q) (hop : o.op = .indexAddr t x y) (hd : o.dst = some d) (hn : Nat.blt d n = true) (hw : wantB l.toArray ρ o = some true)
    (hx : evE ρ x = some v) (hy : evE ρ y = some (.int kd j)) (he : elemSize P t = some (0 + 1)) (hr : ∀ w, A w → Row 1 v m xs w) (h0 : 0 ≤ j) (h : j < m)
    (k : XS P n l Q ms s ((i, Row 1 v m xs) :: pend) ((d, cellP v j.toNat) :: ρ) ds A) : XS P n l Q ms (.q i s) pend ρ ds A :=
  XS.q (Row 1 v m xs) hr ho hQ (XL.iaI1 hop hd hn hw hx hy he (fun _ h => h) h0 h (XL.nil (XQ.tkS k)))
theorem XS.iaI {t size m : Nat} {j : Int} {kd : IntKind} {x y : Operand} {v : Value} {xs : List Value} (ho : nthO l i = some o) (hQ : PF Q) (hop : o.op = .indexAddr t x y) (hd : o.dst = some d) (hn : Nat.blt d n = true) (hw : wantB l.toArray ρ o = some true)
    (hx : evE ρ x = some v) (hy : evE ρ y = some (.int kd j)) (he : elemSize P t = some size) (hr : ∀ w, A w → Row size v m xs w) (h0 : 0 ≤ j) (h : j < m)
    (k : XS P n l Q ms s ((i, Row size v m xs) :: pend) ((d, cellP v (j.toNat * size)) :: ρ) ds A) : XS P n l Q ms (.q i s) pend ρ ds A :=
  XS.q (Row size v m xs) hr ho hQ (XL.iaI hop hd hn hw hx hy he (fun _ h => h) h0 h (XL.nil (XQ.tkS k)))
theorem XS.faR {st f off size m j : Nat} {x : Operand} {v u : Value} {xs : List Value} (ho : nthO l i = some o) (hQ : PF Q) (hop : o.op = .fieldAddr st x f) (hd : o.dst = some d) (hn : Nat.blt d n = true) (hw : wantB l.toArray ρ o = some true)
    (hx : evE ρ x = some (cellP v j)) (hf : fieldOff P st f = some off) (hr : ∀ w, A w → Row size v m xs w) (hv : xs[j]? = some u)
    (k : XS P n l Q ms s ((i, Row size v m xs) :: pend) ((d, cellP v (j + off)) :: ρ) ds A) : XS P n l Q ms (.q i s) pend ρ ds A :=
  XS.q (Row size v m xs) hr ho hQ (XL.faR hop hd hn hw hx hf (fun _ h => h) hv (XL.nil (XQ.tkS k)))
theorem XS.faA {st f off size m j : Nat} {x : Operand} {v u : Value} {xs vs : List Value} (ho : nthO l i = some o) (hQ : PF Q) (hop : o.op = .fieldAddr st x f) (hd : o.dst = some d) (hn : Nat.blt d n = true) (hw : wantB l.toArray ρ o = some true)
    (hx : evE ρ x = some (cellP v j)) (hf : fieldOff P st f = some off) (hr : ∀ w, A w → Row size v m xs w) (hv : At xs j (u :: vs))
    (k : XS P n l Q ms s ((i, Row size v m xs) :: pend) ((d, cellP v (j + off)) :: ρ) ds A) : XS P n l Q ms (.q i s) pend ρ ds A :=
  XS.q (Row size v m xs) hr ho hQ (XL.faA hop hd hn hw hx hf (fun _ h => h) hv (XL.nil (XQ.tkS k)))
theorem XS.ldR {t size m j : Nat} {x : Operand} {v u : Value} {xs : List Value} (ho : nthO l i = some o) (hQ : PF Q) (hop : o.op = .load t x) (hd : o.dst = some d) (hn : Nat.blt d n = true) (hw : wantB l.toArray ρ o = some true)
    (hx : evE ρ x = some (cellP v j)) (ht : aggB P t = some false) (hr : ∀ w, A w → Row size v m xs w) (hv : xs[j]? = some u)
    (k : XS P n l Q ms s ((i, Row size v m xs) :: pend) ((d, u) :: ρ) ds A) : XS P n l Q ms (.q i s) pend ρ ds A :=
  XS.q (Row size v m xs) hr ho hQ (XL.ldR hop hd hn hw hx ht (fun _ h => h) hv (XL.nil (XQ.tkS k)))
theorem XS.ldA {t size m j off : Nat} {x : Operand} {v u : Value} {xs vs : List Value} (ho : nthO l i = some o) (hQ : PF Q) (hop : o.op = .load t x) (hd : o.dst = some d) (hn : Nat.blt d n = true) (hw : wantB l.toArray ρ o = some true)
    (hx : evE ρ x = some (cellP v (j + off))) (ht : aggB P t = some false) (hr : ∀ w, A w → Row size v m xs w) (hv : At xs j vs) (hu : nth vs off = some u)
    (k : XS P n l Q ms s ((i, Row size v m xs) :: pend) ((d, u) :: ρ) ds A) : XS P n l Q ms (.q i s) pend ρ ds A :=
  XS.q (Row size v m xs) hr ho hQ (XL.ldA hop hd hn hw hx ht (fun _ h => h) hv hu (XL.nil (XQ.tkS k)))
theorem XS.ldsR {t size m j sz : Nat} {x : Operand} {v : Value} {xs vs : List Value} (ho : nthO l i = some o) (hQ : PF Q) (hop : o.op = .load t x) (hd : o.dst = some d) (hn : Nat.blt d n = true) (hw : wantB l.toArray ρ o = some true)
    (hx : evE ρ x = some (cellP v j)) (ht : aggB P t = some true) (hs : sizeB P t = some sz) (hr : ∀ w, A w → Row size v m xs w) (hv : At xs j vs) (hl : vs.length = sz) (hpos : 0 < sz)
    (k : XS P n l Q ms s ((i, Row size v m xs) :: pend) ((d, .agg vs.toArray) :: ρ) ds A) : XS P n l Q ms (.q i s) pend ρ ds A :=
  XS.q (Row size v m xs) hr ho hQ (XL.ldsR hop hd hn hw hx ht hs (fun _ h => h) hv hl hpos (XL.nil (XQ.tkS k)))
end
end
end Go.Proofs.Ytjnineeeffecaaa.X
