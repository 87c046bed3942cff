/- The walk's judgements over environments (what is known of the slots), and their rules: sequences, tests, blocks, loops, lists of operations. For whatever program. -/
import Derived.WalkKit
import Derived.KernelRfl
import Derived.Below
import Derived.OrdersHeld
import Derived.Deep.LoopGhost
import Derived.Deep.Quiet
namespace Go.Proofs.Ytjnineeeffecaaa.X
open Go Go.RowKit

/-! ### Slots, and what is known of them -/
abbrev Slots := Nat → Value
def Slots.put (σ : Slots) (d : Nat) (v : Value) : Slots := fun t => bif Nat.beq t d then v else σ t
def Slots.putO (σ : Slots) : Option Nat → Value → Slots
  | some d, v => σ.put d v
  | none, _ => σ
def envOf (a : Act) : Slots := fun t => a.tmps.getD t undef
def ev (σ : Slots) : Operand → Value
  | .tmp t => σ t
  | .const v => v
  | .global g => .pointer (some ⟨g, 0, none⟩)
  | .func f => .func (.func f) #[] #[]
theorem eval_env (a : Act) : a.eval = ev (envOf a) := by
  funext x
  cases x <;> rfl
theorem Slots.put_same (σ : Slots) (d : Nat) (v : Value) : σ.put d v d = v := by simp [Slots.put]
theorem Slots.put_ne (σ : Slots) {d t : Nat} (v : Value) (h : t ≠ d) : σ.put d v t = σ t := by
  have : Nat.beq t d = false := by rw [Bool.eq_false_iff]; exact fun hb => h (Nat.eq_of_beq_eq_true hb)
  simp [Slots.put, this]
theorem env_put {a : Act} {d : Nat} {v : Value} (h : d < a.tmps.size) : envOf (a.put (some d) v) = (envOf a).put d v := by
  funext t
  by_cases e : t = d
  · subst e
    simp [envOf, Act.put, Slots.put_same, Array.getD_eq_getD_getElem?, Array.getElem?_setIfInBounds, h]
  · rw [Slots.put_ne _ _ e]
    simp [envOf, Act.put, Array.getD_eq_getD_getElem?, Array.getElem?_setIfInBounds, Ne.symm e]
theorem size_put (a : Act) (d : Option Nat) (v : Value) : (a.put d v).tmps.size = a.tmps.size := by cases d <;> simp [Act.put]
theorem defers_put (a : Act) (d : Option Nat) (v : Value) : (a.put d v).defers = a.defers := by cases d <;> rfl
theorem env_putO {a : Act} {d : Option Nat} {v : Value} (h : ∀ t, d = some t → t < a.tmps.size) : envOf (a.put d v) = (envOf a).putO d v := by
  cases d with
  | none => rfl
  | some t => exact env_put (h t rfl)

/-- What is known: the newest first. -/
abbrev Env := List (Nat × Value)
def find : Env → Nat → Option Value
  | [], _ => none
  | (d, v) :: l, t => bif Nat.beq t d then some v else find l t
def evE (ρ : Env) : Operand → Option Value
  | .tmp t => find ρ t
  | .const v => some v
  | .global g => some (.pointer (some ⟨g, 0, none⟩))
  | .func f => some (.func (.func f) #[] #[])
def evs (ρ : Env) : List Operand → Option (List Value)
  | [] => some []
  | x :: l => match evE ρ x, evs ρ l with
    | some v, some vs => some (v :: vs)
    | _, _ => none
def Agree (ρ : Env) (σ : Slots) : Prop := ∀ t v, find ρ t = some v → σ t = v
theorem Agree.val {ρ : Env} {σ : Slots} (h : Agree ρ σ) {x : Operand} {v : Value} (he : evE ρ x = some v) : ev σ x = v := by
  cases x with
  | tmp t => exact h t v he
  | _ => simpa [evE, X.ev] using he
theorem Agree.vals {ρ : Env} {σ : Slots} (h : Agree ρ σ) : ∀ {l : List Operand} {vs : List Value}, evs ρ l = some vs → l.map (ev σ) = vs
  | [], vs, he => by simp [X.evs] at he; simp [he]
  | x :: l, vs, he => by
    simp only [X.evs] at he
    split at he
    · rename_i v vs' h1 h2
      cases he
      simp [h.val h1, h.vals h2]
    · cases he
theorem Agree.put {ρ : Env} {σ : Slots} (h : Agree ρ σ) (d : Nat) (v : Value) : Agree ((d, v) :: ρ) (σ.put d v) := by
  intro t u hf
  simp only [find] at hf
  by_cases e : t = d
  · subst e
    simp at hf
    rw [Slots.put_same, hf]
  · rw [Slots.put_ne _ _ e]
    have : Nat.beq t d = false := by rw [Bool.eq_false_iff]; exact fun hb => e (Nat.eq_of_beq_eq_true hb)
    rw [this] at hf
    exact h t u hf
theorem Agree.know {ρ : Env} {σ : Slots} (h : Agree ρ σ) {d : Nat} {v : Value} (hd : σ d = v) : Agree ((d, v) :: ρ) σ := by
  intro t u hf
  simp only [find] at hf
  by_cases e : t = d
  · subst e
    simp at hf
    rw [hd, hf]
  · have : Nat.beq t d = false := by rw [Bool.eq_false_iff]; exact fun hb => e (Nat.eq_of_beq_eq_true hb)
    rw [this] at hf
    exact h t u hf
theorem Agree.less {ρ ρ' : Env} {σ : Slots} (h : Agree ρ σ) : (∀ p ∈ ρ', find ρ p.1 = some p.2) → Agree ρ' σ := by
  induction ρ' with
  | nil => intro _ t v hf; cases hf
  | cons p l ih =>
    intro hp
    have h1 := ih (fun q hq => hp q (List.mem_cons_of_mem _ hq))
    exact h1.know (h p.1 p.2 (hp p List.mem_cons_self))
def envArgs : Nat → List Value → Env
  | _, [] => []
  | k, v :: l => (k, v) :: envArgs (k + 1) l
theorem agree_args (args : Array Value) (n : Nat) : Agree (envArgs 0 args.toList) (envOf { tmps := args ++ Array.replicate (n - args.size) undef, defers := [] }) := by
  have key : ∀ (l : List Value) (k t : Nat) (v : Value), find (envArgs k l) t = some v → k ≤ t ∧ l[t - k]? = some v := by
    intro l
    induction l with
    | nil => intro k t v h; cases h
    | cons x l ih =>
      intro k t v h
      simp only [envArgs, find] at h
      by_cases e : t = k
      · subst e
        simp at h
        simp [h]
      · have : Nat.beq t k = false := by rw [Bool.eq_false_iff]; exact fun hb => e (Nat.eq_of_beq_eq_true hb)
        rw [this] at h
        obtain ⟨h1, h2⟩ := ih (k + 1) t v h
        refine ⟨by omega, ?_⟩
        rw [show t - k = (t - (k + 1)) + 1 by omega]
        simpa using h2
  intro t v h
  obtain ⟨_, h2⟩ := key _ 0 t v h
  simp only [Nat.sub_zero, Array.getElem?_toList] at h2
  have hlt : t < args.size := (Array.getElem?_eq_some_iff.1 h2).1
  simp only [envOf, Array.getD_eq_getD_getElem?, Array.getElem?_append, hlt, if_true, h2, Option.getD_some]

theorem fits_nil {ρ : Env} : ∀ p ∈ ([] : Env), find ρ p.1 = some p.2 := fun _ h => nomatch h
theorem fits_cons {ρ l : Env} {d : Nat} {v : Value} (h : find ρ d = some v) (k : ∀ p ∈ l, find ρ p.1 = some p.2) : ∀ p ∈ (d, v) :: l, find ρ p.1 = some p.2 := fun p hp => by
  rcases List.mem_cons.1 hp with rfl | h1
  · exact h
  · exact k p h1

/-! ### The judgements -/
abbrev Post := Exit → Slots → List Deferred → World → Prop
def QA (n : Nat) (Q : Post) : Exit → Act → World → Prop := fun e a w => n ≤ a.tmps.size ∧ Q e (envOf a) a.defers w
def thenX (N : Slots → List Deferred → World → Prop) (Q : Post) : Post
  | .normal, ρ, ds, w => N ρ ds w
  | e, ρ, ds, w => Q e ρ ds w
def inBlockX (id : Nat) (Q : Post) : Post
  | .exit id', ρ, ds, w => if id' = id then Q .normal ρ ds w else Q (.exit id') ρ ds w
  | e, ρ, ds, w => Q e ρ ds w
/-- Code, from slots and a world. -/
def XC1 (P : Program) (n : Nat) (c : Code) (Q : Post) (σ : Slots) (ds : List Deferred) (w : World) : Prop :=
  ∀ a : Act, envOf a = σ → n ≤ a.tmps.size → a.defers = ds → c.wp P (QA n Q) a w
/-- .. from whatever slots of which ρ tells, and from whatever world of which A holds. -/
def XC (P : Program) (n : Nat) (c : Code) (Q : Post) (ρ : Env) (ds : List Deferred) (A : World → Prop) : Prop := ∀ σ w, Agree ρ σ → A w → XC1 P n c Q σ ds w
/-- A list of operations, of which the first q only read. -/
def XL (P : Program) (n : Nat) (ops : Array Oper) (Q : Post) (q : Nat) (l : List Oper) (ρ : Env) (ds : List Deferred) (A : World → Prop) : Prop :=
  ∀ a : Act, Agree ρ (envOf a) → n ≤ a.tmps.size → a.defers = ds → wpQuiet P ops A (fun a' => ∀ w, A w → wpList P ops (QA n Q) (l.drop q) a' w) (l.take q) a
/-- The post, from whatever is known. -/
def XQ (Q : Post) (e : Exit) (ρ : Env) (ds : List Deferred) (A : World → Prop) : Prop := ∀ σ w, Agree ρ σ → A w → Q e σ ds w

section
variable {P : Program} {n : Nat} {Q : Post} {ρ : Env} {ds : List Deferred} {A : World → Prop}

/-- What is asked behind the first part of a sequence. -/
def Sq (P : Program) (n : Nat) (y : Code) (Q : Post) : Post := thenX (XC1 P n y Q) Q
theorem XC.seq {x y : Code} (h : XC P n x (Sq P n y Q) ρ ds A) : XC P n (.seq x y) Q ρ ds A := fun σ w hσ hA a h1 h2 h3 =>
  wp_seq (wp_mono (h σ w hσ hA a h1 h2 h3) fun e a' w' ⟨hn, hq⟩ => by
    cases e <;> first | exact hq a' rfl hn rfl | exact ⟨hn, hq⟩)
/-- Behind the first part of a sequence. -/
theorem XQ.next {y : Code} (h : XC P n y Q ρ ds A) : XQ (Sq P n y Q) .normal ρ ds A := h
theorem XQ.sqR {y : Code} (h : XQ Q .ret ρ ds A) : XQ (Sq P n y Q) .ret ρ ds A := h
theorem XQ.sqE {y : Code} {id : Nat} (h : XQ Q (.exit id) ρ ds A) : XQ (Sq P n y Q) (.exit id) ρ ds A := h
theorem XQ.sqP {y : Code} {c : List PanicEntry} (h : XQ Q (.panic c) ρ ds A) : XQ (Sq P n y Q) (.panic c) ρ ds A := h
theorem XC.skip (h : XQ Q .normal ρ ds A) : XC P n .skip Q ρ ds A := fun σ w hσ hA a h1 h2 h3 => wp_skip ⟨h2, by rw [h1, h3]; exact h σ w hσ hA⟩
theorem XC.label {l : Nat} (h : XQ Q .normal ρ ds A) : XC P n (.label l) Q ρ ds A := fun σ w hσ hA a h1 h2 h3 => wp_label ⟨h2, by rw [h1, h3]; exact h σ w hσ hA⟩
theorem XC.ret (h : XQ Q .ret ρ ds A) : XC P n .ret Q ρ ds A := fun σ w hσ hA a h1 h2 h3 => wp_ret ⟨h2, by rw [h1, h3]; exact h σ w hσ hA⟩
theorem XC.exit {id : Nat} (h : XQ Q (.exit id) ρ ds A) : XC P n (.exit id) Q ρ ds A := fun σ w hσ hA a h1 h2 h3 => wp_exit ⟨h2, by rw [h1, h3]; exact h σ w hσ hA⟩
theorem XC.block {id : Nat} {c : Code} (h : XC P n c (inBlockX id Q) ρ ds A) : XC P n (.block id c) Q ρ ds A := fun σ w hσ hA a h1 h2 h3 =>
  wp_block (wp_mono (h σ w hσ hA a h1 h2 h3) fun e a' w' ⟨hn, hq⟩ => by
    cases e <;> first
      | exact ⟨hn, hq⟩
      | (rename_i id'
         simp only [inBlockX] at hq
         simp only [Exit.inBlock]
         split at hq
         · rename_i he; rw [if_pos he]; exact ⟨hn, hq⟩
         · rename_i he; rw [if_neg he]; exact ⟨hn, hq⟩))
theorem XC.cond {c : Operand} {x y : Code} {b : Bool} (h : evE ρ c = some (.bool b)) (ht : b = true → XC P n x Q ρ ds A) (hf : b = false → XC P n y Q ρ ds A) : XC P n (.cond c x y) Q ρ ds A :=
  fun σ w hσ hA a h1 h2 h3 => wp_cond (t := b) (by rw [eval_env, h1, hσ.val h]) (by
    cases b
    · exact hf rfl σ w hσ hA a h1 h2 h3
    · exact ht rfl σ w hσ hA a h1 h2 h3)
theorem XC.cond_t {c : Operand} {x y : Code} (h : evE ρ c = some (.bool true)) (ht : XC P n x Q ρ ds A) : XC P n (.cond c x y) Q ρ ds A := XC.cond h (fun _ => ht) (fun h => by cases h)
theorem XC.cond_f {c : Operand} {x y : Code} (h : evE ρ c = some (.bool false)) (hf : XC P n y Q ρ ds A) : XC P n (.cond c x y) Q ρ ds A := XC.cond h (fun h => by cases h) (fun _ => hf)
theorem XC.cond_d {c : Operand} {x y : Code} {p : Prop} [Decidable p] (h : evE ρ c = some (.bool (decide p))) (ht : p → XC P n x Q ρ ds A) (hf : ¬ p → XC P n y Q ρ ds A) : XC P n (.cond c x y) Q ρ ds A :=
  XC.cond h (fun h => ht (of_decide_eq_true h)) (fun h => hf (of_decide_eq_false h))

/-- What a round must hand on. -/
def Rd {α : Type} (sl : α → Env) (I : α → World → Prop) (μ : α → Nat) (m : Nat) (ds : List Deferred) (Q : Post) : Post := thenX (fun σ ds' w => ds' = ds ∧ ∃ y, Agree (sl y) σ ∧ I y w ∧ μ y < m) Q
/-- A loop: what its slots hold, and what holds of the world, hang on a ghost x; each round lowers a measure of it. -/
theorem XC.loop {α : Type} {c : Code} (sl : α → Env) (I : α → World → Prop) (μ : α → Nat) (x0 : α) (h0 : ∀ p ∈ sl x0, find ρ p.1 = some p.2) (hA : ∀ w, A w → I x0 w)
    (round : ∀ x : α, XC P n c (Rd sl I μ (μ x) ds Q) (sl x) ds (I x)) : XC P n (.loop c) Q ρ ds A := by
  intro σ w hσ hAw a h1 h2 h3
  refine wp_loop_ghost (fun m a w => ∃ x, μ x = m ∧ Agree (sl x) (envOf a) ∧ I x w ∧ n ≤ a.tmps.size ∧ a.defers = ds) (μ x0)
    ⟨x0, rfl, by rw [h1]; exact hσ.less h0, hA w hAw, h2, h3⟩ ?_
  rintro m a w ⟨x, rfl, hs, hI, hn, hd⟩
  refine wp_mono (round x (envOf a) w hs hI a rfl hn hd) fun e a' w' ⟨hn', hq⟩ => ?_
  cases e <;> first
    | exact ⟨hn', hq⟩
    | (obtain ⟨hd', y, hs', hI', hm⟩ := hq
       exact ⟨μ y, hm, y, rfl, hs', hI', hn', hd'⟩)
/-- The end of a round. -/
theorem XQ.round {α : Type} {sl : α → Env} {I : α → World → Prop} {μ : α → Nat} {m : Nat} (y : α) (h : ∀ p ∈ sl y, find ρ p.1 = some p.2) (hA : ∀ w, A w → I y w) (hm : μ y < m) :
    XQ (Rd sl I μ m ds Q) .normal ρ ds A := fun σ w hσ hw => ⟨rfl, y, hσ.less h, hA w hw, hm⟩
theorem XQ.rdR {α : Type} {sl : α → Env} {I : α → World → Prop} {μ : α → Nat} {m : Nat} {ds' : List Deferred} (h : XQ Q .ret ρ ds A) : XQ (Rd sl I μ m ds' Q) .ret ρ ds A := h
theorem XQ.rdE {α : Type} {sl : α → Env} {I : α → World → Prop} {μ : α → Nat} {m : Nat} {ds' : List Deferred} {id : Nat} (h : XQ Q (.exit id) ρ ds A) : XQ (Rd sl I μ m ds' Q) (.exit id) ρ ds A := h
theorem XQ.rdP {α : Type} {sl : α → Env} {I : α → World → Prop} {μ : α → Nat} {m : Nat} {ds' : List Deferred} {c : List PanicEntry} (h : XQ Q (.panic c) ρ ds A) : XQ (Rd sl I μ m ds' Q) (.panic c) ρ ds A := h
theorem XQ.blockN {id : Nat} (h : XQ Q .normal ρ ds A) : XQ (inBlockX id Q) .normal ρ ds A := h
theorem XQ.blockR {id : Nat} (h : XQ Q .ret ρ ds A) : XQ (inBlockX id Q) .ret ρ ds A := h
theorem XQ.blockE {id : Nat} (h : XQ Q .normal ρ ds A) : XQ (inBlockX id Q) (.exit id) ρ ds A := fun σ w hσ hA => by
  simp only [inBlockX, if_true]
  exact h σ w hσ hA
theorem XQ.blockE' {id id' : Nat} (hne : Nat.beq id' id = false) (h : XQ Q (.exit id') ρ ds A) : XQ (inBlockX id Q) (.exit id') ρ ds A := fun σ w hσ hA => by
  have : ¬ id' = id := fun e => by subst e; simp at hne
  simp only [inBlockX, if_neg this]
  exact h σ w hσ hA
theorem XQ.blockP {id : Nat} {c : List PanicEntry} (h : XQ Q (.panic c) ρ ds A) : XQ (inBlockX id Q) (.panic c) ρ ds A := h
/-- What is known may be told with less. -/
theorem XC.conv {c : Code} {B : World → Prop} (h : ∀ w, A w → B w) (k : XC P n c Q ρ ds B) : XC P n c Q ρ ds A := fun σ w hσ hA => k σ w hσ (h w hA)
theorem XQ.conv {e : Exit} {B : World → Prop} (h : ∀ w, A w → B w) (k : XQ Q e ρ ds B) : XQ Q e ρ ds A := fun σ w hσ hA => k σ w hσ (h w hA)
/-- The slots that matter from here on. -/
theorem XC.keep {c : Code} (ρ' : Env) (h : ∀ p ∈ ρ', find ρ p.1 = some p.2) (k : XC P n c Q ρ' ds A) : XC P n c Q ρ ds A := fun σ w hσ hA => k σ w (hσ.less h) hA
theorem XC.mono {c : Code} {Q' : Post} (h : XC P n c Q' ρ ds A) (hq : ∀ e σ ds w, Q' e σ ds w → Q e σ ds w) : XC P n c Q ρ ds A := fun σ w hσ hA a h1 h2 h3 =>
  wp_mono (h σ w hσ hA a h1 h2 h3) fun _ _ _ ⟨hn, q⟩ => ⟨hn, hq _ _ _ _ q⟩
theorem XC.ex {α : Type} {c : Code} {B : α → World → Prop} (h : ∀ w, A w → ∃ x, B x w) (k : ∀ x, XC P n c Q ρ ds (B x)) : XC P n c Q ρ ds A := fun σ w hσ hA =>
  let ⟨x, hx⟩ := h w hA; k x σ w hσ hx
/-- What holds whatever the world. -/
theorem XC.pure {c : Code} {p : Prop} {B : World → Prop} (k : p → XC P n c Q ρ ds B) : XC P n c Q ρ ds (fun w => p ∧ B w) := fun σ w hσ hA => k hA.1 σ w hσ hA.2
/-- Ways that meet again: what holds behind them all. -/
def Mt {α : Type} (ρ' : α → Env) (B : α → World → Prop) (ds : List Deferred) (Q : Post) : Post := thenX (fun σ ds' w => ds' = ds ∧ ∃ z, Agree (ρ' z) σ ∧ B z w) Q
theorem XC.cut {α : Type} {x y : Code} (ρ' : α → Env) (B : α → World → Prop) (h : XC P n x (Mt ρ' B ds Q) ρ ds A) (k : ∀ z, XC P n y Q (ρ' z) ds (B z)) :
    XC P n (.seq x y) Q ρ ds A := XC.seq (h.mono fun e σ ds' w hq => by
  cases e <;> first
    | exact hq
    | (obtain ⟨rfl, z, hz, hB⟩ := hq
       exact k z σ w hz hB))
theorem XQ.meet {α : Type} {ρ' : α → Env} {B : α → World → Prop} (z : α) (h : ∀ p ∈ ρ' z, find ρ p.1 = some p.2) (hA : ∀ w, A w → B z w) :
    XQ (Mt ρ' B ds Q) .normal ρ ds A := fun σ w hσ hw => ⟨rfl, z, hσ.less h, hA w hw⟩
theorem XQ.mtR {α : Type} {ρ' : α → Env} {B : α → World → Prop} {ds' : List Deferred} (h : XQ Q .ret ρ ds A) : XQ (Mt ρ' B ds' Q) .ret ρ ds A := h
theorem XQ.mtE {α : Type} {ρ' : α → Env} {B : α → World → Prop} {ds' : List Deferred} {id : Nat} (h : XQ Q (.exit id) ρ ds A) : XQ (Mt ρ' B ds' Q) (.exit id) ρ ds A := h
theorem XQ.mtP {α : Type} {ρ' : α → Env} {B : α → World → Prop} {ds' : List Deferred} {c : List PanicEntry} (h : XQ Q (.panic c) ρ ds A) : XQ (Mt ρ' B ds' Q) (.panic c) ρ ds A := h

/-! ### Lists of operations -/
/-- Is an operation carried out? none: not known. -/
def wantB (ops : Array Oper) (ρ : Env) (o : Oper) : Option Bool :=
  match o.guard with
  | none => some true
  | some (j, b) => match (ops[j]?).bind (·.dst) with
    | none => none
    | some d => match find ρ d with
      | some (.bool b') => match b, b' with
        | true, true => some true
        | false, false => some true
        | true, false => some false
        | false, true => some false
      | some (.tuple _) => some false
      | _ => none
theorem want_env {ops : Array Oper} {ρ : Env} {o : Oper} {b : Bool} {a : Act} (h : Agree ρ (envOf a)) (hw : wantB ops ρ o = some b) : Region.wanted o (yielded ops a.tmps) = b := by
  unfold wantB at hw
  unfold Region.wanted
  split at hw
  · rename_i hg; simp only [hg]; simpa using hw
  · rename_i j b1 hg
    simp only [hg]
    split at hw
    · cases hw
    · rename_i d hd
      unfold yielded
      simp only [hd, Option.bind_some]
      have hv : ∀ v, find ρ d = some v → a.tmps[d]? = some v ∨ (a.tmps[d]? = none ∧ v = undef) := fun v hf => by
        have := h d v hf
        simp only [envOf, Array.getD_eq_getD_getElem?] at this
        cases hx : a.tmps[d]? with
        | none => rw [hx] at this; exact .inr ⟨rfl, this.symm⟩
        | some u => rw [hx] at this; exact .inl (by simpa using this)
      split at hw
      · rename_i b2 hf
        rcases hv _ hf with h1 | ⟨_, h1⟩
        · rw [h1]
          cases b1 <;> cases b2 <;> simp at hw <;> subst hw <;> rfl
        · cases h1
      · rename_i vs hf
        cases hw
        rcases hv _ hf with h1 | ⟨h1, _⟩
        · rw [h1]; rfl
        · rw [h1]; rfl
      · cases hw
variable {ops : Array Oper} {l rest : List Oper} {o : Oper} {q : Nat}
theorem XL.zero {a : Act} (h : XL P n ops Q 0 l ρ ds A) (h1 : Agree ρ (envOf a)) (h2 : n ≤ a.tmps.size) (h3 : a.defers = ds) {w : World} (hA : A w) : wpList P ops (QA n Q) l a w := h a h1 h2 h3 w hA
theorem XL.of_zero (h : ∀ a : Act, Agree ρ (envOf a) → n ≤ a.tmps.size → a.defers = ds → ∀ w, A w → wpList P ops (QA n Q) l a w) : XL P n ops Q 0 l ρ ds A := h
theorem XC.region {id : Nat} {l : List Oper} (h : XL P n l.toArray Q 0 l ρ ds A) : XC P n (.region id l.toArray false) Q ρ ds A := fun σ w hσ hA a h1 h2 h3 => wp_region_lit (h.zero (h1 ▸ hσ) h2 h3 hA)
theorem XL.nil (h : XQ Q .normal ρ ds A) : XL P n ops Q q [] ρ ds A := by
  intro a h1 h2 h3
  cases q <;> exact fun w hA => wpList_nil ⟨h2, by rw [h3]; exact h _ w h1 hA⟩
theorem XL.conv {B : World → Prop} (h : ∀ w, A w → B w) (k : XL P n ops Q 0 l ρ ds B) : XL P n ops Q 0 l ρ ds A := fun a h1 h2 h3 w hA => k.zero h1 h2 h3 (h w hA)
theorem XL.keep (ρ' : Env) (h : ∀ p ∈ ρ', find ρ p.1 = some p.2) (k : XL P n ops Q q l ρ' ds A) : XL P n ops Q q l ρ ds A := fun a h1 => k a (h1.less h)
theorem XL.ex {α : Type} {B : α → World → Prop} (h : ∀ w, A w → ∃ x, B x w) (k : ∀ x, XL P n ops Q 0 l ρ ds (B x)) : XL P n ops Q 0 l ρ ds A := fun a h1 h2 h3 w hA =>
  let ⟨x, hx⟩ := h w hA; (k x).zero h1 h2 h3 hx
/-- A truth value in a slot: both ways. -/
theorem XL.cases (d : Nat) {b : Bool} (h : find ρ d = some (.bool b)) (ht : b = true → XL P n ops Q q l ((d, .bool true) :: ρ) ds A) (hf : b = false → XL P n ops Q q l ((d, .bool false) :: ρ) ds A) : XL P n ops Q q l ρ ds A := fun a h1 => by
  cases b
  · exact hf rfl a (h1.know (h1 d _ h))
  · exact ht rfl a (h1.know (h1 d _ h))
theorem XL.cases_d (d : Nat) {p : Prop} [Decidable p] (h : find ρ d = some (.bool (decide p))) (ht : p → XL P n ops Q q l ((d, .bool true) :: ρ) ds A) (hf : ¬ p → XL P n ops Q q l ((d, .bool false) :: ρ) ds A) : XL P n ops Q q l ρ ds A :=
  XL.cases d h (fun h => ht (of_decide_eq_true h)) (fun h => hf (of_decide_eq_false h))
def putE (ρ : Env) : Option Nat → Value → Env
  | some d, v => (d, v) :: ρ
  | none, _ => ρ
theorem Agree.putO {ρ : Env} {σ : Slots} (h : Agree ρ σ) (d : Option Nat) (v : Value) : Agree (putE ρ d v) (σ.putO d v) := by
  cases d with
  | none => exact h
  | some d => exact h.put d v
def fitsB (n : Nat) : Option Nat → Bool
  | some d => Nat.blt d n
  | none => true
theorem fitsB_spec {n m : Nat} {d : Option Nat} (h : fitsB n d = true) (hm : n ≤ m) : ∀ t, d = some t → t < m := by
  rintro t rfl
  have : t < n := by simpa [fitsB] using h
  omega
theorem Agree.act {ρ : Env} {a : Act} {d : Option Nat} (h : Agree ρ (envOf a)) (hs : fitsB n d = true) (h2 : n ≤ a.tmps.size) (v : Value) : Agree (putE ρ d v) (envOf (a.put d v)) := by
  rw [env_putO (fitsB_spec hs h2)]
  exact h.putO d v

theorem XL.off {d : Option Nat} (hd : o.dst = d) (hs : fitsB n d = true) (hw : wantB ops ρ o = some false) (k : XL P n ops Q (q - 1) rest (putE ρ d undef) ds A) : XL P n ops Q q (o :: rest) ρ ds A := by
  intro a h1 h2 h3
  have k1 := k (a.put d undef) (h1.act hs h2 undef) (by rw [size_put]; exact h2) (by rw [defers_put]; exact h3)
  cases q with
  | zero =>
    intro w hA
    show wpList P ops (QA n Q) (o :: rest) a w
    unfold wpList
    rw [if_neg (by rw [want_env h1 hw]; exact Bool.false_ne_true), hd]
    exact k1 w hA
  | succ q =>
    show wpQuiet P ops A _ (o :: rest.take q) a
    unfold wpQuiet
    rw [if_neg (by rw [want_env h1 hw]; exact Bool.false_ne_true), hd]
    exact k1
/-- An operation that hands a value over, and leaves the world alone. -/
theorem XL.run {d : Option Nat} {v : Value} (hd : o.dst = d) (hs : fitsB n d = true) (hw : wantB ops ρ o = some true)
    (hr : ∀ σ w, Agree ρ σ → A w → (execOp (ev σ) o).run P w = .ok (.value v) w) (k : XL P n ops Q (q - 1) rest (putE ρ d v) ds A) : XL P n ops Q q (o :: rest) ρ ds A := by
  intro a h1 h2 h3
  have k1 := k (a.put d v) (h1.act hs h2 v) (by rw [size_put]; exact h2) (by rw [defers_put]; exact h3)
  cases q with
  | zero =>
    intro w hA
    show wpList P ops (QA n Q) (o :: rest) a w
    unfold wpList
    rw [if_pos (want_env h1 hw)]
    refine .inl ?_
    unfold Oper.wp
    rw [eval_env, hr _ w h1 hA]
    simp only [Oper.upon, hd]
    exact k1 w hA
  | succ q =>
    show wpQuiet P ops A _ (o :: rest.take q) a
    unfold wpQuiet
    rw [if_pos (want_env h1 hw)]
    refine ⟨v, fun w hA => ?_, by rw [hd]; exact k1⟩
    unfold Oper.quietAt
    rw [eval_env, hr _ w h1 hA]
    exact ⟨rfl, rfl⟩
/-- An operation that hands a value over, and leaves the world as it says. -/
theorem XL.eff {α : Type} {d : Option Nat} {v : α → Value} {B : α → World → Prop} (hd : o.dst = d) (hs : fitsB n d = true) (hw : wantB ops ρ o = some true)
    (hr : ∀ σ w, Agree ρ σ → A w → ∃ x w', (execOp (ev σ) o).run P w = .ok (.value (v x)) w' ∧ B x w')
    (k : ∀ x, XL P n ops Q 0 rest (putE ρ d (v x)) ds (B x)) : XL P n ops Q 0 (o :: rest) ρ ds A := XL.of_zero fun a h1 h2 h3 w hA => by
  unfold wpList
  rw [if_pos (want_env h1 hw)]
  obtain ⟨x, w', hrun, hB⟩ := hr _ w h1 hA
  refine .inl ?_
  unfold Oper.wp
  rw [eval_env, hrun]
  simp only [Oper.upon, hd]
  exact (k x).zero (h1.act hs h2 _) (by rw [size_put]; exact h2) (by rw [defers_put]; exact h3) hB
/-- .. that hands nothing over (a store). -/
theorem XL.act {B : World → Prop} (hd : o.dst = none) (hw : wantB ops ρ o = some true)
    (hr : ∀ σ w, Agree ρ σ → A w → ∃ w', (execOp (ev σ) o).run P w = .ok .skip w' ∧ B w') (k : XL P n ops Q 0 rest ρ ds B) : XL P n ops Q 0 (o :: rest) ρ ds A := XL.of_zero fun a h1 h2 h3 w hA => by
  unfold wpList
  rw [if_pos (want_env h1 hw)]
  obtain ⟨w', hrun, hB⟩ := hr _ w h1 hA
  refine .inl ?_
  unfold Oper.wp
  rw [eval_env, hrun]
  simp only [Oper.upon, hd]
  exact k.zero h1 h2 h3 hB
/-- .. that panics. -/
theorem XL.dies {v : World → Value} (hw : wantB ops ρ o = some true) (hr : ∀ σ w, Agree ρ σ → A w → ∃ w', (execOp (ev σ) o).run P w = .halt (.panic (v w)) w' ∧ XQ Q (.panic [{ v := v w, recovered := false }]) ρ ds (· = w')) :
    XL P n ops Q 0 (o :: rest) ρ ds A := XL.of_zero fun a h1 h2 h3 w hA => by
  unfold wpList
  rw [if_pos (want_env h1 hw)]
  obtain ⟨w', hrun, hB⟩ := hr _ w h1 hA
  refine .inl ?_
  unfold Oper.wp
  rw [eval_env, hrun]
  simp only [Oper.upon]
  exact ⟨h2, by rw [h3]; exact hB _ _ h1 rfl⟩
/-- A deferred call is laid down. -/
theorem XL.defer {d : Deferred} (hd : o.dst = none) (hw : wantB ops ρ o = some true) (hr : ∀ σ w, Agree ρ σ → A w → (execOp (ev σ) o).run P w = .ok (.defer d) w)
    (k : XL P n ops Q 0 rest ρ (d :: ds) A) : XL P n ops Q 0 (o :: rest) ρ ds A := XL.of_zero fun a h1 h2 h3 w hA => by
  unfold wpList
  rw [if_pos (want_env h1 hw)]
  refine .inl ?_
  unfold Oper.wp
  rw [eval_env, hr _ w h1 hA]
  simp only [Oper.upon, hd]
  exact k.zero (a := { a with defers := d :: a.defers }) h1 h2 (by simp [h3]) hA
/-- A call of a function that has a body. What it comes to is told by R. -/
theorem XL.call {d : Option Nat} {f : FuncId} {args : Array Value} {R : Ending → World → Prop} (hd : o.dst = d) (hs : fitsB n d = true) (hw : wantB ops ρ o = some true)
    (he : ∀ σ w, Agree ρ σ → A w → (execOp (ev σ) o).run P w = .ok (.enter f args) w) (hc : ∀ w, A w → Calls P f args w R) (hR : ∀ w, ¬ R .outgrown w)
    (k : ∀ v, XL P n ops Q 0 rest (putE ρ d v) ds (R (.returned v)))
    (kp : ∀ c, XQ Q (.panic c) ρ ds (R (.panicked c))) : XL P n ops Q 0 (o :: rest) ρ ds A := XL.of_zero fun a h1 h2 h3 w hA => by
  unfold wpList
  rw [if_pos (want_env h1 hw)]
  refine .inl ?_
  unfold Oper.wp
  rw [eval_env, he _ w h1 hA]
  simp only [Oper.upon]
  refine (hc w hA).mono fun e w' hr => ?_
  cases e with
  | outgrown => exact absurd hr (hR w')
  | panicked c => exact ⟨h2, by rw [h3]; exact kp c _ w' h1 hr⟩
  | returned v =>
    rw [hd]
    exact (k v).zero (h1.act hs h2 v) (by rw [size_put]; exact h2) (by rw [defers_put]; exact h3) hr
/-- A call that hands over one value whatever the world, and leaves what is known. -/
theorem XL.qcall {d : Option Nat} {f : FuncId} {args : Array Value} {v : Value} (hd : o.dst = d) (hs : fitsB n d = true) (hw : wantB ops ρ o = some true)
    (he : ∀ σ w, Agree ρ σ → A w → (execOp (ev σ) o).run P w = .ok (.enter f args) w) (hc : ∀ w, A w → Calls P f args w fun e w' => e = .returned v ∧ A w')
    (k : XL P n ops Q (q - 1) rest (putE ρ d v) ds A) : XL P n ops Q q (o :: rest) ρ ds A := by
  intro a h1 h2 h3
  have k1 := k (a.put d v) (h1.act hs h2 v) (by rw [size_put]; exact h2) (by rw [defers_put]; exact h3)
  cases q with
  | zero =>
    intro w hA
    show wpList P ops (QA n Q) (o :: rest) a w
    unfold wpList
    rw [if_pos (want_env h1 hw)]
    refine .inl ?_
    unfold Oper.wp
    rw [eval_env, he _ w h1 hA]
    simp only [Oper.upon]
    refine (hc w hA).mono fun e w' ⟨h4, h5⟩ => ?_
    subst h4
    rw [hd]
    exact k1 w' h5
  | succ q =>
    show wpQuiet P ops A _ (o :: rest.take q) a
    unfold wpQuiet
    rw [if_pos (want_env h1 hw)]
    refine ⟨v, fun w hA => ?_, by rw [hd]; exact k1⟩
    unfold Oper.quietAt
    rw [eval_env, he _ w h1 hA]
    exact ⟨rfl, hc w hA⟩

/-! ### A function's body -/
def bodyX (P : Program) (fn : Func) (R : Ending → World → Prop) : Post
  | .normal, σ, ds, w | .ret, σ, ds, w => ds = [] ∧ ∃ v, (∀ tmps : Array Value, (fun t => tmps.getD t undef) = σ → (results fn tmps).run P w = .ok v w) ∧ R (.returned v) w
  | .panic c, _, ds, w => ds = [] ∧ R (.panicked c) w
  | _, _, _, _ => False
theorem calls_of_X {f : FuncId} {fn : Func} {c : Code} {args : Array Value} {w : World} {R : Ending → World → Prop} (hf : P.funcs[f]? = some fn) (hb : fn.body = some c)
    (h : XC P fn.ntmps c (bodyX P fn R) (envArgs 0 args.toList) [] (· = w)) : Calls P f args w R := by
  refine calls_of_wp hf hb ?_
  refine wp_mono (h _ w (agree_args args fn.ntmps) rfl _ rfl (by simp; try omega) rfl) fun e a' w' ⟨hn', hq⟩ => ?_
  cases e <;> first
    | exact hq
    | exact (hq : False).elim
    | (obtain ⟨hd, v, hr, hR⟩ := hq; exact ⟨hd, v, hr a'.tmps rfl, hR⟩)
end
end Go.Proofs.Ytjnineeeffecaaa.X
