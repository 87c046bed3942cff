/- Regions whose operations may come in several orders: what only reads is taken first, the others as they come. For whatever program. -/
import Derived.Test.YtjnineeeffecaaaX5
namespace Go.Proofs.Ytjnineeeffecaaa.X
open Go Go.RowKit

/-- From here on, whatever comes up; S: what holds behind each operation. -/
def XA1 (P : Program) (n : Nat) (ops : Array Oper) (Q : Post) (S : World → Prop) (fuel : Nat) (listed : Array Bool) (σ : Slots) (ds : List Deferred) (w : World) : Prop :=
  ∀ a : Act, envOf a = σ → n ≤ a.tmps.size → a.defers = ds → wpAnyH P .any ops (QA n Q) S fuel listed a w
def XA (P : Program) (n : Nat) (ops : Array Oper) (Q : Post) (S : World → Prop) (fuel : Nat) (listed : Array Bool) (ρ : Env) (ds : List Deferred) (A : World → Prop) : Prop :=
  ∀ σ w, Agree ρ σ → A w → S w → XA1 P n ops Q S fuel listed σ ds w
/-- A panic's post does not ask for the slots. -/
def PF (Q : Post) : Prop := ∀ c σ σ' ds w, Q (.panic c) σ ds w → Q (.panic c) σ' ds w
theorem PF.body {P : Program} {fn : Func} {R : Ending → World → Prop} : PF (bodyX P fn R) := fun _ _ _ _ _ h => h
theorem PF.sq {P : Program} {n : Nat} {y : Code} {Q : Post} (h : PF Q) : PF (Sq P n y Q) := h
theorem PF.rd {α : Type} {sl : α → Env} {I : α → World → Prop} {μ : α → Nat} {m : Nat} {ds : List Deferred} {Q : Post} (h : PF Q) : PF (Rd sl I μ m ds Q) := h
theorem PF.mt {α : Type} {ρ' : α → Env} {B : α → World → Prop} {ds : List Deferred} {Q : Post} (h : PF Q) : PF (Mt ρ' B ds Q) := h
theorem PF.block {id : Nat} {Q : Post} (h : PF Q) : PF (inBlockX id Q) := h

section
variable {P : Program} {n : Nat} {Q : Post} {ρ : Env} {ds : List Deferred} {A S : World → Prop} {ops : Array Oper} {fuel : Nat} {listed : Array Bool}
/-- Behind an operation that was taken first: the world is as it was. -/
def Tk (P : Program) (n : Nat) (ops : Array Oper) (Q : Post) (S : World → Prop) (fuel : Nat) (listed : Array Bool) (A : World → Prop) : Post :=
  thenX (fun σ ds w => A w → XA1 P n ops Q S fuel listed σ ds w) Q
/-- Behind an operation that came up. -/
def An (P : Program) (n : Nat) (ops : Array Oper) (Q : Post) (S : World → Prop) (fuel : Nat) (listed : Array Bool) : Post :=
  thenX (fun σ ds w => S w ∧ XA1 P n ops Q S fuel listed σ ds w) Q
theorem XQ.tk (h : XA P n ops Q S fuel listed ρ ds A) : XQ (Tk P n ops Q S fuel listed A) .normal ρ ds S := fun σ w hσ hS hA => h σ w hσ hA hS
theorem XQ.an (hS : ∀ w, A w → S w) (h : XA P n ops Q S fuel listed ρ ds A) : XQ (An P n ops Q S fuel listed) .normal ρ ds A := fun σ w hσ hA => ⟨hS w hA, h σ w hσ hA (hS w hA)⟩
theorem XQ.anP {c : List PanicEntry} (h : XQ Q (.panic c) ρ ds A) : XQ (An P n ops Q S fuel listed) (.panic c) ρ ds A := h

/-- An operation that enters no function. -/
def noEnter (o : Oper) : Bool := match o.op with
  | .move _ | .assign _ | .pick _ _ _ | .load _ _ | .fieldAddr _ _ _ | .field _ _ _ | .indexAddr _ _ _ | .index _ _ _ | .binOp _ _ _ _ _ | .unOp _ _ _ | .convert _ _ _ | .extract _ _ | .makeFunc _ _ _ | .makeInterface _ _
  | .build _ _ | .slice _ _ _ _ _ | .lookup _ _ _ _ | .typeAssert _ _ _ _ => true
  | .nilCheck _ => true
  | .call cl => match cl.callee with
    | .builtin .len | .builtin .cap | .builtin .min | .builtin .max => true
    | _ => false
  | _ => false
/-- Whatever it ends well with is a value. -/
def Vals (P : Program) (s : Sem Next) : Prop := ∀ {w w' : World} {x : Next}, s.run P w = .ok x w' → ∃ v, x = .value v
theorem run_v_ne {P : Program} {α : Type} {s : Sem α} {g : α → Value} : Vals P (do pure (Next.value (g (← s))) : Sem Next) := by
  intro w w' x h
  simp only [Sem.run_bind] at h
  cases hs : s.run P w with
  | ok v w1 => rw [hs] at h; cases h; exact ⟨_, rfl⟩
  | halt x w1 => rw [hs] at h; cases h
theorem then_ok {α β : Type} {r : Result α} {g : α → World → Result β} {y : β} {w' : World} (h : r.andThen g = .ok y w') : ∃ a w1, r = .ok a w1 ∧ g a w1 = .ok y w' := by
  cases r with
  | ok a w1 => exact ⟨a, w1, rfl, h⟩
  | halt x w1 => cases h
theorem noEnter_spec {P : Program} {o : Oper} (h : noEnter o = true) (σ : Operand → Value) : Vals P (execOp σ o) := by
  obtain ⟨dst, op, ty, pos, aft, gd⟩ := o
  unfold noEnter at h
  cases op <;> simp only at h <;> first
    | (cases h; done)
    | exact run_v_ne
    | exact run_v_ne (g := id)
    | (intro w w' x h1; cases h1; exact ⟨_, rfl⟩)
    | skip
  case nilCheck x =>
    intro w w' y h1
    simp only [execOp] at h1
    split at h1
    · cases h1
    · cases h1
    · cases h1
    · split at h1
      · cases h1
      · simp only [Sem.run_bind] at h1
        obtain ⟨p, w1, _, h1⟩ := then_ok h1
        obtain ⟨b, w2, _, h1⟩ := then_ok h1
        split at h1
        · simp only [Sem.run_bind] at h1
          obtain ⟨u, w3, _, h1⟩ := then_ok h1
          cases h1; exact ⟨_, rfl⟩
        · cases h1; exact ⟨_, rfl⟩
      · cases h1; exact ⟨_, rfl⟩
    · cases h1; exact ⟨_, rfl⟩
  case call cl =>
    split at h
    all_goals first
      | (cases h; done)
      | (rename_i hb
         intro w w' x h1
         simp only [execOp, resolve, hb, Sem.run_bind, Sem.run_pure, invoke, builtin] at h1
         exact run_v_ne (g := id) h1)
/-- What may be taken first is of one value in all worlds that are held. -/
theorem yieldsIf_of_quiet {P : Program} {ops : Array Oper} {S : World → Prop} {K : Act → Prop} {o : Oper} {a : Act} (hne : noEnter o = true) (h : wpQuiet P ops S K [o] a) :
    ∃ v, YieldsIf P ops S o v a ∧ K (a.put o.dst v) := by
  unfold wpQuiet at h
  split at h
  · rename_i hw
    obtain ⟨v, h1, h2⟩ := h
    refine ⟨v, .inl ⟨hw, fun w hS => ?_⟩, h2⟩
    have h3 := h1 w hS
    unfold Oper.quietAt at h3
    cases hr : (execOp a.eval o).run P w with
    | halt x w' => rw [hr] at h3; exact h3.elim
    | ok nx w' =>
      obtain ⟨u, rfl⟩ := noEnter_spec hne a.eval hr
      rw [hr] at h3
      obtain ⟨rfl, rfl⟩ := h3
      rfl
  · rename_i hw
    exact ⟨undef, .inr ⟨by simpa using hw, rfl⟩, h⟩
theorem XA.take (i : Nat) {o : Oper} (hi : ops[i]? = some o) (hst : (Region.noSelect ops && Region.free .any ops listed i && (Region.ready .any ops listed).contains i && noEnter o) = true) (hQ : PF Q)
    (h : XL P n ops (Tk P n ops Q S fuel (listed.setIfInBounds i true) A) 1 [o] ρ ds S) : XA P n ops Q S (fuel + 1) listed ρ ds A := by
  intro σ w hσ hA hS a h1 h2 h3
  simp only [Bool.and_eq_true] at hst
  obtain ⟨⟨⟨hs, hf⟩, hr⟩, hne⟩ := hst
  obtain ⟨v, hy, hK⟩ := yieldsIf_of_quiet hne (h a (h1 ▸ hσ) h2 h3)
  have hK2 := hK w hS
  change wpList P ops (QA n (Tk P n ops Q S fuel (listed.setIfInBounds i true) A)) [] (a.put o.dst v) w at hK2
  unfold wpList at hK2
  obtain ⟨h4, h5⟩ := hK2
  exact wpAnyH_take hi hs hf hr (fun c a' w' ⟨h6, h7⟩ => ⟨by rw [size_put] at h6; exact h6, by rw [defers_put] at h7; exact hQ c _ _ _ _ h7⟩) hy hS (h5 hA _ rfl h4 rfl)
/-- An operation's post, told otherwise. -/
theorem wp_post {P : Program} {o : Oper} {a : Act} {w : World} {K : Act → World → Prop} {Q Q' : Exit → Act → World → Prop} (hp : ∀ c a w, Q (.panic c) a w → Q' (.panic c) a w) (hl : LetsOut Q → LetsOut Q')
    (h : o.wp P a w K Q) : o.wp P a w K Q' := by
  unfold Oper.wp at *
  generalize (execOp a.eval o).run P w = r at h ⊢
  cases r with
  | halt x w' =>
    cases x <;> first
      | exact hp _ _ _ h
      | exact h
  | ok nx w' =>
    cases nx <;> first
      | exact h
      | (refine Calls.mono h fun e w'' he => ?_
         cases e <;> first
           | exact he
           | exact hp _ _ _ he
           | exact hl he)
/-- Whichever may come up comes up. -/
theorem XA.all (rs : List Nat) (hr : Region.ready .any ops listed = rs) (hne : rs ≠ []) (h : ∀ i ∈ rs, ∃ o, ops[i]? = some o ∧ XL P n ops (An P n ops Q S fuel (listed.setIfInBounds i true)) 0 [o] ρ ds A) :
    XA P n ops Q S (fuel + 1) listed ρ ds A := by
  intro σ w hσ hA hS a h1 h2 h3
  refine wpAnyH_all hr hne fun i hi => ?_
  obtain ⟨o, ho, hx⟩ := h i hi
  have h4 := hx.zero (h1 ▸ hσ) h2 h3 hA
  unfold wpOp
  simp only [ho]
  unfold wpList at h4
  split at h4
  · rename_i hw
    simp only [hw, if_true]
    rcases h4 with h4 | ⟨h4, h5⟩
    · refine .inl (wp_post (fun c a w h => h) (fun ⟨a, w, h7, h8⟩ => ⟨a, w, h7, h8⟩) (Oper.wp_mono (fun a' w' h6 => ?_) h4))
      unfold wpList at h6
      obtain ⟨h6, h7, h8⟩ := h6
      exact ⟨h7, h8 _ rfl h6 rfl⟩
    · exact .inr ⟨h4, let ⟨a, w, h7, h8⟩ := h5; ⟨a, w, h7, h8⟩⟩
  · rename_i hw
    simp only [hw]
    unfold wpList at h4
    obtain ⟨h6, h7, h8⟩ := h4
    exact ⟨h7, h8 _ rfl h6 rfl⟩
theorem XA.done (hr : Region.ready .any ops listed = []) (h : XQ Q .normal ρ ds A) : XA P n ops Q S fuel listed ρ ds A := by
  intro σ w hσ hA hS a h1 h2 h3
  exact wpAnyH_done hr ⟨h2, by rw [h1, h3]; exact h σ w hσ hA⟩ fuel
theorem XA.all1 (i : Nat) {o : Oper} (hr : Region.ready .any ops listed = [i]) (ho : ops[i]? = some o) (h : XL P n ops (An P n ops Q S fuel (listed.setIfInBounds i true)) 0 [o] ρ ds A) : XA P n ops Q S (fuel + 1) listed ρ ds A :=
  XA.all [i] hr (by simp) fun j hj => by rw [List.mem_singleton] at hj; subst hj; exact ⟨o, ho, h⟩
theorem XA.all2 (i j : Nat) {o o2 : Oper} (hr : Region.ready .any ops listed = [i, j]) (ho : ops[i]? = some o) (ho2 : ops[j]? = some o2) (h : XL P n ops (An P n ops Q S fuel (listed.setIfInBounds i true)) 0 [o] ρ ds A)
    (h2 : XL P n ops (An P n ops Q S fuel (listed.setIfInBounds j true)) 0 [o2] ρ ds A) : XA P n ops Q S (fuel + 1) listed ρ ds A :=
  XA.all [i, j] hr (by simp) fun k hk => by
    rcases List.mem_cons.1 hk with rfl | hk
    · exact ⟨o, ho, h⟩
    · rw [List.mem_singleton] at hk; subst hk; exact ⟨o2, ho2, h2⟩
theorem XA.all3 (i j k : Nat) {o o2 o3 : Oper} (hr : Region.ready .any ops listed = [i, j, k]) (ho : ops[i]? = some o) (ho2 : ops[j]? = some o2) (ho3 : ops[k]? = some o3) (h : XL P n ops (An P n ops Q S fuel (listed.setIfInBounds i true)) 0 [o] ρ ds A)
    (h2 : XL P n ops (An P n ops Q S fuel (listed.setIfInBounds j true)) 0 [o2] ρ ds A) (h3 : XL P n ops (An P n ops Q S fuel (listed.setIfInBounds k true)) 0 [o3] ρ ds A) : XA P n ops Q S (fuel + 1) listed ρ ds A :=
  XA.all [i, j, k] hr (by simp) fun l hl => by
    rcases List.mem_cons.1 hl with rfl | hl
    · exact ⟨o, ho, h⟩
    · rcases List.mem_cons.1 hl with rfl | hl
      · exact ⟨o2, ho2, h2⟩
      · rw [List.mem_singleton] at hl; subst hl; exact ⟨o3, ho3, h3⟩
def nthO : List Oper → Nat → Option Oper
  | [], _ => none
  | o :: _, 0 => some o
  | _ :: l, k + 1 => nthO l k
theorem nthO_eq : ∀ (l : List Oper) (i : Nat), l.toArray[i]? = nthO l i
  | [], _ => by simp [nthO]
  | _ :: _, 0 => by simp [nthO]
  | o :: l, k + 1 => by
    have := nthO_eq l k
    simp [nthO] at this ⊢
    exact this
section
variable {l : List Oper}
theorem XA.tk (i : Nat) {o : Oper} (hi : nthO l i = some o) (hst : (Region.noSelect l.toArray && Region.free .any l.toArray listed i && (Region.ready .any l.toArray listed).contains i && noEnter o) = true) (hQ : PF Q)
    (h : XL P n l.toArray (Tk P n l.toArray Q S fuel (listed.setIfInBounds i true) A) 1 [o] ρ ds S) : XA P n l.toArray Q S (fuel + 1) listed ρ ds A := XA.take i ((nthO_eq l i).trans hi) hst hQ h
theorem XA.an1 (i : Nat) {o : Oper} (hr : Region.ready .any l.toArray listed = [i]) (ho : nthO l i = some o) (h : XL P n l.toArray (An P n l.toArray Q S fuel (listed.setIfInBounds i true)) 0 [o] ρ ds A) :
    XA P n l.toArray Q S (fuel + 1) listed ρ ds A := XA.all1 i hr ((nthO_eq l i).trans ho) h
theorem XA.an2 (i j : Nat) {o o2 : Oper} (hr : Region.ready .any l.toArray listed = [i, j]) (ho : nthO l i = some o) (ho2 : nthO l j = some o2) (h : XL P n l.toArray (An P n l.toArray Q S fuel (listed.setIfInBounds i true)) 0 [o] ρ ds A)
    (h2 : XL P n l.toArray (An P n l.toArray Q S fuel (listed.setIfInBounds j true)) 0 [o2] ρ ds A) : XA P n l.toArray Q S (fuel + 1) listed ρ ds A := XA.all2 i j hr ((nthO_eq l i).trans ho) ((nthO_eq l j).trans ho2) h h2
theorem XA.an3 (i j k : Nat) {o o2 o3 : Oper} (hr : Region.ready .any l.toArray listed = [i, j, k]) (ho : nthO l i = some o) (ho2 : nthO l j = some o2) (ho3 : nthO l k = some o3)
    (h : XL P n l.toArray (An P n l.toArray Q S fuel (listed.setIfInBounds i true)) 0 [o] ρ ds A) (h2 : XL P n l.toArray (An P n l.toArray Q S fuel (listed.setIfInBounds j true)) 0 [o2] ρ ds A)
    (h3 : XL P n l.toArray (An P n l.toArray Q S fuel (listed.setIfInBounds k true)) 0 [o3] ρ ds A) : XA P n l.toArray Q S (fuel + 1) listed ρ ds A :=
  XA.all3 i j k hr ((nthO_eq l i).trans ho) ((nthO_eq l j).trans ho2) ((nthO_eq l k).trans ho3) h h2 h3
end
/-- Ways that meet, where the sequence is taken apart already. -/
theorem XC.cutS {α : Type} {x y : Code} (ρ' : α → Env) (B : α → World → Prop) (h : XC P n x (Mt ρ' B ds Q) ρ ds A) (k : ∀ z, XC P n y Q (ρ' z) ds (B z)) :
    XC P n x (Sq P n y Q) ρ ds A := h.mono fun e σ ds' w hq => by
  cases e <;> first
    | exact hq
    | (obtain ⟨rfl, z, hz, hB⟩ := hq
       exact k z σ w hz hB)
/-- What is held: that these are owned, besides others. -/
def Hd (c : Cx) (K : List SP) (Φ : List FP) : World → Prop := fun w => ∃ F, St c (K ++ F) Φ w
theorem St.hd {c : Cx} {L K F : List SP} {Φ : List FP} {w : World} (s : Sels L K F) (h : St c L Φ w) : Hd c K Φ w := ⟨F, h.turn s fun _ h => h⟩
theorem Hd.cell {c : Cx} {K K' : List SP} {Φ : List FP} {w : World} (h : Hd c K Φ w) {b i : Nat} {cs : Array Value} {T : TypeId} {v : Value} (s : Sel K (cel b cs T) K') (hv : cs[i]? = some v) : w.cell? ⟨b, i, none⟩ = some v := by
  obtain ⟨F, h⟩ := h
  have : ∀ {K K' : List SP}, Sel K (cel b cs T) K' → Sel (K ++ F) (cel b cs T) (K' ++ F) := fun s => by
    generalize cel b cs T = r at s
    induction s with
    | here => exact .here
    | there _ ih => exact .there ih
  exact h.cell (this s) hv
theorem XL.ldh {c : Cx} {K K' : List SP} {Φ : List FP} {rest : List Oper} {o : Oper} {d q t b i T : Nat} {cs : Array Value} {x : Operand} {v : Value} (hop : o.op = .load t x) (hd : o.dst = some d) (hn : Nat.blt d n = true) (hw : wantB ops ρ o = some true)
    (hx : evE ρ x = some (.pointer (some ⟨b, i, none⟩))) (ht : aggB P t = some false) (s : Sel K (cel b cs T) K') (hv : nth cs.toList i = some v) (k : XL P n ops Q (q - 1) rest ((d, v) :: ρ) ds (Hd c K Φ)) :
    XL P n ops Q q (o :: rest) ρ ds (Hd c K Φ) := XL.ldv hop hd hn hw hx ht (fun _ h => h.cell s (by rw [nth_eq] at hv; simpa using hv)) k
/-- The beginning. -/
theorem XC.any {id : Nat} {l : List Oper} (S : World → Prop) (hm : P.follows .mixedOrders = true) (hS : ∀ w, A w → S w) (hA : ∀ w m, A w → A { w with drawn := m })
    (h : XA P n l.toArray Q S l.toArray.size (Array.replicate l.toArray.size false) ρ ds A) : XC P n (.region id l.toArray true) Q ρ ds A := by
  intro σ w hσ hw a h1 h2 h3
  exact wp_region_held hm (h σ _ hσ (hA w _ hw) (hS _ (hA w _ hw)) a h1 h2 h3)
end
end Go.Proofs.Ytjnineeeffecaaa.X
