/- Ranges over functions: the statement, the call of yield, a round; how a function that holds one is left. For whatever program. -/
import Derived.Test.YtjnineeeffecaaaX17
import Derived.RangeFuncIn
import Derived.RangeFuncRecord
import Derived.RangeFuncCalls
import Derived.TacticsIn
namespace Go.Proofs.Ytjnineeeffecaaa.X
open Go Go.RowKit

/-! ### From a plain walk into a fence that lets all by -/
/-- The fence that lets all by, within a round or not. -/
structure Wd (F : Fence) : Prop where
  fn : ∀ f, F.fn f
  depth : F.depth = none
  st : ∀ P : Program, Machine.fenced P F = Machine.fenced P Fence.wide
theorem wd_wide : Wd Fence.wide := ⟨fun _ => trivial, rfl, fun _ => rfl⟩
theorem wd_round (l : Nat) : Wd (Fence.wide.inRound l) := ⟨fun _ => trivial, rfl, fun _ => rfl⟩
section
variable {P : Program} {F : Fence} {k : Nat} {ops : Array Oper}
theorem uponIn_of (hW : Wd F) (hc : ∀ f args w R, Calls P f args w R → CallsIn F (k - 1) P f args w R) {o : Oper} {a : Act} {next : Act → World → Prop} {Q : Exit → Act → World → Prop} {r : Result Next} (h : o.upon P a next Q r) : o.uponIn F k P a next Q r := by
  cases r with
  | halt x w' => cases x <;> first | exact h | exact h.elim
  | ok nx w' =>
    have hdp : ¬ F.depth.isSome = true := by rw [hW.depth]; intro h1; cases h1
    cases nx with
    | value v => exact h
    | skip => exact h
    | defer d => exact h
    | enter f args => exact And.intro (fun h1 => absurd h1 hdp) (hc _ _ _ _ h)
    | row row args =>
      refine And.intro (fun h1 => absurd h1 hdp) (fun c cs _ => ?_)
      obtain ⟨v, w2, hr, hs⟩ := h c cs
      exact ⟨v, w2, hr, by rw [hW.st]; exact stepsIn_wide.2 hs⟩
    | _ => exact h.elim
theorem callsIn_round {l n : Nat} {f : FuncId} {args : Array Value} {w : World} {R : Ending → World → Prop} (h : Calls P f args w R) : CallsIn (Fence.wide.inRound l) n P f args w R := CallsIn.inRound l (callsIn_wide.2 h)
def noDefer : List Oper → Bool
  | [] => true
  | o :: l => (match o.op with | .defer _ => false | _ => true) && noDefer l
theorem listIn_of (hW : Wd F) (hc : ∀ f args w R, Calls P f args w R → CallsIn F (k - 1) P f args w R) {Q Q' : Exit → Act → World → Prop} (hout : ∀ a w, ¬ Q' .outgrown a w) {rest : List Oper}
    (hN : ∀ a w, Q' .normal a w → wpListIn F k P ops Q rest a w) (hE : ∀ e a w, Q' e a w → (∃ c, e = .panic c) → Q e a w) : ∀ {l : List Oper}, noDefer l = true → ∀ {a : Act} {w : World}, wpList P ops Q' l a w → wpListIn F k P ops Q (l ++ rest) a w
  | [], _, a, w, h => by
    unfold wpList at h
    exact hN a w h
  | o :: l, hd, a, w, h => by
    simp only [noDefer, Bool.and_eq_true] at hd
    obtain ⟨hd1, hd2⟩ := hd
    have hod : ∀ c, o.op ≠ .defer c := fun c hc => by rw [hc] at hd1; cases hd1
    unfold wpList at h
    show wpListIn F k P ops Q (o :: (l ++ rest)) a w
    unfold wpListIn
    split at h
    · rename_i hw
      rw [if_pos hw]
      refine ⟨fun f _ => hW.fn f, ?_⟩
      rcases h with h | ⟨_, a0, w0, h⟩
      · unfold Oper.wp at h
        rw [Oper.semAt_eq _ _ _ hod]
        generalize (execOp a.eval o).run P w = r at h ⊢
        have h2 := uponIn_of (F := F) (k := k) hW hc h
        cases r with
        | halt x w' =>
          cases x <;> first
            | exact hE _ _ _ h2 ⟨_, rfl⟩
            | exact h2
        | ok nx w' =>
          cases nx <;> first
            | exact listIn_of hW hc hout hN hE hd2 h2
            | (refine ⟨h2.1, h2.2.mono fun e w'' he => ?_⟩
               cases e <;> first
                 | exact listIn_of hW hc hout hN hE hd2 he
                 | exact hE _ _ _ he ⟨_, rfl⟩
                 | (obtain ⟨a0, w0, h⟩ := he; exact absurd h (hout _ _)))
            | exact ⟨h2.1, h2.2.mono fun v w'' he => listIn_of hW hc hout hN hE hd2 he⟩
            | exact h2
      · exact absurd h (hout _ _)
    · rename_i hw
      rw [if_neg hw]
      exact ⟨fun f _ => hW.fn f, listIn_of hW hc hout hN hE hd2 h⟩
end
/-! ### Lists of operations of which one calls yield -/
section
variable {P : Program} {n : Nat} {Q : Post} {ρ : Env} {ds : List Deferred} {A : World → Prop} {ops : Array Oper} {l rest : List Oper} {o : Oper} {d : Nat} {c : Cx} {L L' : List SP} {Φ : List FP}
def XLI (P : Program) (n : Nat) (ops : Array Oper) (Q : Post) (l : List Oper) (ρ : Env) (ds : List Deferred) (A : World → Prop) : Prop :=
  ∀ a : Act, Agree ρ (envOf a) → n ≤ a.tmps.size → a.defers = ds → ∀ w, A w → wpListIn Fence.wide 1 P ops (QA n Q) l a w
def ThI (P : Program) (n : Nat) (ops : Array Oper) (rest : List Oper) (Q : Post) : Post :=
  thenX (fun σ ds w => ∀ a : Act, envOf a = σ → n ≤ a.tmps.size → a.defers = ds → wpListIn Fence.wide 1 P ops (QA n Q) rest a w) Q
theorem XQ.thI (h : XLI P n ops Q rest ρ ds A) : XQ (ThI P n ops rest Q) .normal ρ ds A := fun σ w hσ hA a h1 h2 h3 => h a (h1 ▸ hσ) h2 h3 w hA
theorem XQ.thIP {ch : List PanicEntry} (h : XQ Q (.panic ch) ρ ds A) : XQ (ThI P n ops rest Q) (.panic ch) ρ ds A := h
theorem XLI.pre (hnd : noDefer l = true) (hout : ∀ σ ds w, ¬ Q .outgrown σ ds w) (h : XL P n ops (ThI P n ops rest Q) 0 l ρ ds A) : XLI P n ops Q (l ++ rest) ρ ds A := fun a h1 h2 h3 w hA =>
  listIn_of wd_wide (fun _ _ _ _ h => callsIn_wide.2 h) (Q' := QA n (ThI P n ops rest Q)) (fun a w h => hout _ _ _ h.2) (fun a w hq => hq.2 a rfl hq.1 rfl) (fun e a w hq he => by obtain ⟨c, rfl⟩ := he; exact hq) hnd (h.zero h1 h2 h3 hA)
theorem XLI.preN (k : Nat) (hnd : noDefer (l.take k) = true) (hout : ∀ σ ds w, ¬ Q .outgrown σ ds w) (h : XL P n ops (ThI P n ops (l.drop k) Q) 0 (l.take k) ρ ds A) : XLI P n ops Q l ρ ds A := by
  have := XLI.pre hnd hout h
  rw [List.take_append_drop] at this
  exact this
theorem XLI.nil (h : XQ Q .normal ρ ds A) : XLI P n ops Q [] ρ ds A := fun a h1 h2 h3 w hA => by
  unfold wpListIn
  exact ⟨h2, by rw [h3]; exact h _ w h1 hA⟩
theorem XC.regionI {id : Nat} (h : XLI P n l.toArray Q l ρ ds A) : XC P n (.region id l.toArray false) Q ρ ds A := fun σ w hσ hA a h1 h2 h3 => wpIn_wide.1 (wpIn_region_lit (h a (h1 ▸ hσ) h2 h3 w hA))
/-- Code of a round. -/
def XCI (P : Program) (lp n : Nat) (cd : Code) (Q : Post) (ρ : Env) (A : World → Prop) : Prop :=
  ∀ a : Act, Agree ρ (envOf a) → n ≤ a.tmps.size → a.defers = [] → ∀ w, A w → cd.wpIn (Fence.wide.inRound lp) 0 P (QA n Q) a w
theorem XCI.region {lp id : Nat} (hnd : noDefer l = true) (hout : ∀ σ ds w, ¬ Q .outgrown σ ds w) (h : XL P n l.toArray Q 0 l ρ [] A) : XCI P lp n (.region id l.toArray false) Q ρ A := fun a h1 h2 h3 w hA => by
  have := listIn_of (rest := []) (F := Fence.wide.inRound lp) (k := 0) (Q := QA n Q) (Q' := QA n Q) (wd_round lp) (fun _ _ _ _ h => callsIn_round h) (fun a w h => hout _ _ _ h.2) (fun a w hq => by unfold wpListIn; exact hq) (fun _ _ _ hq _ => hq) hnd (h.zero h1 h2 h3 hA)
  rw [List.append_nil] at this
  exact wpIn_region_lit this
theorem XCI.less {lp : Nat} {cd : Code} {ρ' : Env} (h : XCI P lp n cd Q ρ' A) (hρ : ∀ p ∈ ρ', find ρ p.1 = some p.2) : XCI P lp n cd Q ρ A := fun a h1 => h a (h1.less hρ)
theorem XCI.block {lp id : Nat} {cd : Code} (h : XCI P lp n cd (inBlockX id Q) ρ A) : XCI P lp n (.block id cd) Q ρ A := fun a h1 h2 h3 w hA =>
  wpIn_block (wpIn_mono (h a h1 h2 h3 w hA) fun e a' w' ⟨hn, hq⟩ => by
    cases e <;> first
      | exact ⟨hn, hq⟩
      | (rename_i id'
         simp only [inBlockX] at hq
         simp only [Exit.inBlock]
         split at hq
         · rename_i he; rw [if_pos he]; exact ⟨hn, hq⟩
         · rename_i he; rw [if_neg he]; exact ⟨hn, hq⟩))
/-- How a round's body is left. -/
def EndP {α : Type} (p : α → Prop) (B : α → World → Prop) : Post
  | .normal, _, _, w => ∃ z, p z ∧ B z w
  | _, _, _, _ => False
theorem XQ.endP {α : Type} {p : α → Prop} {B : α → World → Prop} (z : α) (hz : p z) (h : ∀ w, A w → B z w) : XQ (EndP p B) .normal ρ ds A := fun σ w _ hA => ⟨z, hz, h w hA⟩
/-- How the assignments ahead of it are left. -/
def AsgP (P : Program) (lp n : Nat) (body : Code) (Q : Post) (A B : World → Prop) : Post
  | .normal, σ, ds, w => ds = [] ∧ A w ∧ ∃ ρ2, Agree ρ2 σ ∧ XCI P lp n body Q ρ2 B
  | _, _, _, _ => False
theorem XQ.asgP {lp : Nat} {body : Code} {B : World → Prop} (h : XCI P lp n body Q ρ B) : XQ (AsgP P lp n body Q A B) .normal ρ [] A := fun σ w hσ hA => ⟨rfl, hA, ρ, hσ, h⟩
theorem St.putObj {w : World} {b : Nat} {o o' : Obj} (h : St c L Φ w) (s : Sel L (X.blk b o) L') : St c (X.blk b o' :: L') Φ (w.putObj b o') := h.setObj s
def yTmps (r : Loop) (args : List Value) : Array Value := (r.params.zip args.toArray).foldl (fun tmps (t, a) => tmps.setIfInBounds t a) r.tmps
theorem loop_same {r : Loop} (h1 : r.state = .ready) (h2 : r.pending = none) : { r with state := .ready, pending := none } = r := by
  cases r
  simp only at h1 h2
  subst h1 h2
  rfl
theorem find_mem {t : Nat} {y : Value} : ∀ {l : Env}, find l t = some y → ∃ x ∈ l, x.1 = t
  | [], h => by cases h
  | x :: l, h => by
    simp only [find] at h
    by_cases e2 : t = x.1
    · exact ⟨x, .head _, e2.symm⟩
    · have hb2 : Nat.beq t x.1 = false := by rw [Bool.eq_false_iff]; exact fun hb => e2 (Nat.eq_of_beq_eq_true hb)
      rw [hb2] at h
      obtain ⟨z, hz, ez⟩ := find_mem (l := l) h
      exact ⟨z, .tail _ hz, ez⟩
theorem yTmps2 {r : Loop} {p q : Nat} {u v : Value} {ρ0 : Env} (hp : r.params = #[p, q]) (hpq : p ≠ q) (hs : p < r.tmps.size ∧ q < r.tmps.size) (hA : Agree ρ0 (fun t => r.tmps.getD t undef)) (hρ : ∀ x ∈ ρ0, x.1 ≠ p ∧ x.1 ≠ q) :
    Agree ((q, v) :: ρ0) (fun t => (yTmps r [u, v]).getD t undef) ∧ (yTmps r [u, v]).size = r.tmps.size := by
  have e : yTmps r [u, v] = (r.tmps.setIfInBounds p u).setIfInBounds q v := by
    unfold yTmps
    rw [hp]
    simp
  rw [e]
  refine ⟨fun t y hf => ?_, by simp⟩
  simp only [find] at hf
  by_cases ht : t = q
  · subst ht
    simp at hf
    subst hf
    simp [Array.getElem?_setIfInBounds, hs.2]
  · have hb : Nat.beq t q = false := by rw [Bool.eq_false_iff]; exact fun hb => ht (Nat.eq_of_beq_eq_true hb)
    rw [hb] at hf
    have hf : find ρ0 t = some y := hf
    have hm : ∃ x ∈ ρ0, x.1 = t := by
      exact find_mem hf
    obtain ⟨x, hx, rfl⟩ := hm
    have h1 := (hρ x hx).1
    have h0 := hA _ _ hf
    simp only at h0
    have h2 : (((r.tmps.setIfInBounds p u).setIfInBounds q v).getD x.1 undef) = r.tmps.getD x.1 undef := by
      simp only [Array.getD_eq_getD_getElem?]
      rw [Array.getElem?_setIfInBounds_ne (Ne.symm ht), Array.getElem?_setIfInBounds_ne (Ne.symm h1)]
    show ((r.tmps.setIfInBounds p u).setIfInBounds q v).getD x.1 undef = y
    rw [h2]
    exact h0
theorem XLI.yield {α : Type} {lp rn : Nat} {r : Loop} {cl : Call} {x : Operand} {args : List Value} {ρr : Env} {p : α → Prop} {L1 : α → List SP} {Φ1 : α → List FP}
    (hop : o.op = .call cl) (hd : o.dst = some d) (hn : Nat.blt d n = true) (hw : wantB ops ρ o = some true) (hf : cl.callee = .value x) (hx : evE ρ x = some (.func (.yield lp) #[] #[])) (ha : evs ρ cl.args.toList = some args)
    (s : Sel L (blk lp (.loop r)) L') (hst : r.state = .ready) (hsz : args.length = r.params.size) (hρ : Agree ρr (fun t => (yTmps r args).getD t undef)) (hrn : rn ≤ (yTmps r args).size)
    (hround : XCI P lp rn r.assign (AsgP P lp rn r.body (EndP p fun z => St c (blk lp (.loop { r with state := .busy }) :: L1 z) (Φ1 z)) (St c L Φ) (St c (blk lp (.loop { r with state := .busy }) :: L') Φ)) ρr (St c L Φ))
    (k : ∀ z, p z → XLI P n ops Q rest ((d, .bool true) :: ρ) ds (St c (blk lp (.loop { r with state := .ready, pending := none }) :: L1 z) (Φ1 z))) : XLI P n ops Q (o :: rest) ρ ds (St c L Φ) := by
  intro a h1 h2 h3 w hA
  unfold wpListIn
  rw [if_pos (want_env h1 hw)]
  refine ⟨fun f _ => trivial, ?_⟩
  have hb := hA.blk s
  have hy := run_yield (P := P) (args := args.toArray) hb (by simpa using hsz)
  have hrun : (o.semAt Fence.wide.round a.eval).run P w = .ok (.round lp r.fn (yTmps r args) r.assign r.body) w := by
    rw [show Fence.wide.round = none from rfl, Oper.semAt_none, eval_env]
    unfold execOp
    rw [hop]
    have h4 : cl.args.map (ev (envOf a)) = args.toArray := Array.toList_inj.1 (by simpa using h1.vals ha)
    have h5 : #[] ++ args.toArray ++ #[] = args.toArray := by simp
    simp only [resolve, hf, h1.val hx, Deferred.ofValue, h4, invoke, Sem.run_bind, Sem.run_pure, Result.andThen_ok]
    simpa [yTmps] using hy
  rw [hrun]
  rw [Oper.uponIn_round]
  refine And.intro (fun h => by cases h) (roundIn_of_wpIn (F := Fence.wide) trivial ?_)
  refine wpIn_mono (hround { tmps := yTmps r args, defers := [] } hρ hrn rfl w hA) ?_
  rintro e a1 w1 ⟨hn1, hq⟩
  cases e with
  | normal =>
    obtain ⟨hds, hA1, ρ2, hσ2, hbody⟩ := hq
    refine ⟨_, run_beginRound (hA1.blk s) hst, ?_⟩
    refine wpIn_mono (hbody a1 hσ2 hn1 hds _ (hA1.putObj s)) ?_
    rintro e a2 w2 ⟨hn2, hq2⟩
    cases e with
    | normal =>
      obtain ⟨z, hz, hS⟩ := hq2
      refine ⟨_, _, run_endRound (P := P) none (hS.blk .here), ?_⟩
      show wpListIn Fence.wide 1 P ops (QA n Q) rest (a.put o.dst _) _
      rw [hd]
      exact k z hz (a.put (some d) (.bool true)) (h1.act (d := some d) hn h2 _) (by rw [size_put]; exact h2) (by rw [defers_put]; exact h3) _ (hS.putObj .here)
    | _ => exact (hq2 : False).elim
  | _ => exact (hq : False).elim
/-! ### The statement -/
theorem XC.rangeFunc {α : Type} {g : Operand} {ps : Array Tmp} {assign body : Code} {gf : FuncId} {cap : List Value} {Lc F : List SP} {Φc : List FP} {R1 : α → List SP} {Ψ : α → List FP} {p : α → Prop}
    (hg : evE ρ g = some (.func (.func gf) #[] cap.toArray)) (he : entersB P gf = true) (s : Sels L Lc F) (hΦ : ∀ φ ∈ Φc, φ ∈ Φ)
    (hT : ∀ (D lp : Nat) (r : Loop), r.state = .ready → r.pending = none → r.params = ps → r.assign = assign → r.body = body → Agree ρ (fun t => r.tmps.getD t undef) → n ≤ r.tmps.size →
      Tri P gf ([.func (.yield lp) #[] #[]] ++ cap) (blk lp (.loop r) :: blk D (.deferred (some [])) :: Lc) Φc (Ret (fun _ : α × Loop => .tuple #[]) (fun x => blk lp (.loop x.2) :: blk D (.deferred (some [])) :: R1 x.1) (fun x => Ψ x.1) fun x => p x.1 ∧ x.2.state = .ready ∧ x.2.pending = none))
    (k : ∀ (D lp : Nat) (r : Loop) (x : α), p x → XQ Q .normal ρ ({ target := .collected D, args := #[] } :: ds) (St c (blk lp (.loop r) :: blk D (.deferred (some [])) :: (R1 x ++ F)) (Ψ x ++ Φ))) :
    XC P n (.rangeFunc g ps assign body) Q ρ ds (St c L Φ) := by
  intro σ w hσ hA a h1 h2 h3
  subst h1
  refine (wpIn_wide (n := 1)).1 (wpIn_rangeFunc fun fn _ => ?_)
  obtain ⟨rec0, hrec⟩ : ∃ r : Loop, r = { state := .ready, pending := none, fn, tmps := a.tmps, params := ps, assign, body, defers := w.heap.size } := ⟨_, rfl⟩
  have r1 : rec0.state = .ready := by rw [hrec]
  have r2 : rec0.pending = none := by rw [hrec]
  have r3 : rec0.params = ps := by rw [hrec]
  have r4 : rec0.assign = assign := by rw [hrec]
  have r5 : rec0.body = body := by rw [hrec]
  have r6 : rec0.tmps = a.tmps := by rw [hrec]
  have hrun := run_enterLoop_outer (P := P) (w := w) fn a.tmps ps assign body
  rw [← hrec] at hrun
  have hS1 := (hA.alloc (.deferred (some []))).alloc (.loop rec0)
  rw [World.size_alloc] at hS1
  obtain ⟨W1, hW1⟩ : ∃ W, W = (w.alloc (.deferred (some []))).alloc (.loop rec0) := ⟨_, rfl⟩
  rw [← hW1] at hrun hS1
  obtain ⟨D, hD⟩ : ∃ D, D = w.heap.size := ⟨_, rfl⟩
  rw [← hD] at hrun hS1
  have hres : (resolve a.eval (rangeCall g (D + 1)) 0).run P W1 = .ok { target := .fn (.func gf) cap.toArray, args := #[.func (.yield (D + 1)) #[] #[]] } W1 := by
    have h4 : a.eval g = .func (.func gf) #[] cap.toArray := by rw [eval_env]; exact hσ.val hg
    simp only [resolve, h4]
    simp [go_sem]
  have hinv := run_invoke (P := P) (g := gf) (cap := cap) (dargs := [Value.func (.yield (D + 1)) #[] #[]]) he W1
  have hcall := St.call (hT D (D + 1) rec0 r1 r2 r3 r4 r5 (by rw [r6]; exact hσ) (by rw [r6]; exact h2)) (.cons .here (.cons .here s)) hΦ hS1
  refine ⟨D + 1, [{ target := .collected D, args := #[] }], W1, _, W1, gf, _, W1, hrun, hres, fun f _ => trivial, hinv, fun _ => Nat.le_refl _, callsIn_wide.2 (hcall.mono ?_)⟩
  rintro e w2 ⟨L1, Φ1, ⟨⟨x, r2⟩, ⟨hp, hst, hpe⟩, rfl, rfl, rfl⟩, hS2⟩
  have hend := run_endLoop (P := P) (hS2.blk .here) (by rw [hst]; intro h; cases h)
  rw [hpe] at hend
  have hS3 := hS2.putObj (o' := .loop { r2 with state := .exhausted, pending := none }) .here
  have hq := k D (D + 1) { r2 with state := .exhausted, pending := none } x hp (envOf a) _ hσ hS3
  refine ⟨none, _, hend, h2, ?_⟩
  show Q .normal (envOf a) ([{ target := .collected D, args := #[] }] ++ a.defers) _
  rw [h3]
  exact hq
end
/-! ### A function that holds one -/
section
variable {P : Program} {n : Nat} {ρ : Env} {ds : List Deferred} {Φ : List FP} {L L' : List SP} {f : FuncId} {fn : Func} {cd : Code} {args : List Value} {R : Ending → List SP → List FP → Prop} {c : Cx}
def bodyM (P : Program) (fn : Func) (R : Ending → World → Prop) : Post
  | .normal, σ, ds, w | .ret, σ, ds, w => ∀ tmps : Array Value, (fun t => tmps.getD t undef) = σ → LeavesInM Fence.wide 0 P fn tmps R ds .returning w
  | .panic ch, _, ds, w => ∀ tmps : Array Value, LeavesInM Fence.wide 0 P fn tmps R ds (.panicking ch) w
  | _, _, _, _ => False
theorem PF.bodyM {R : Ending → World → Prop} : PF (bodyM P fn R) := fun _ _ _ _ _ h => h
theorem Tri.ofM (hf : P.funcs[f]? = some fn) (hb : fn.body = some cd)
    (h : ∀ c : Cx, XC P fn.ntmps cd (bodyM P fn (Shows R c)) (envArgs 0 args) [] (St c L Φ)) : Tri P f args L Φ R := fun c hc => by
  refine (callsIn_wide (n := 0)).1 (callsIn_of_wp_marks hf hb trivial (wpIn_wide.2 ?_))
  refine wp_mono (h c _ c.w0 (by simpa using agree_args args.toArray fn.ntmps) hc _ rfl (by simp; try omega) rfl) fun e a' w' ⟨hn', hq⟩ => ?_
  cases e <;> first
    | exact (hq : False).elim
    | exact hq a'.tmps rfl
    | exact hq a'.tmps
theorem XQ.leaveM {D : Nat} {K : Ending → World → Prop} (s : Sel L (blk D (.deferred (some []))) L') (k : XQ (bodyM P fn K) .ret ρ ds (St c (blk D (.deferred none) :: L') Φ)) :
    XQ (bodyM P fn K) .ret ρ ({ target := .collected D, args := #[] } :: ds) (St c L Φ) := fun σ w hσ hA tmps ht => by
  unfold LeavesInM
  exact And.intro (fun h => by cases h) (.inl ⟨D, _, rfl, run_takeDeferred (hA.blk s), k σ _ hσ (hA.putObj s) tmps ht⟩)
theorem XQ.retMC {L' L1 F : List SP} {Φ' : List FP} {t T U b sz : Nat} {vs : List Value} (h : fn.results = #[.cell t T]) (hv : find ρ t = some (.pointer (some ⟨b, 0, none⟩)))
    (ht : aggB P T = some true) (hs : sizeB P T = some sz) (s1 : Sel L (cel b vs.toArray U) L1) (hl : vs.length = sz) (hR : R (.returned (.agg vs.toArray)) L' Φ') (s : Sels L L' F) (hΦ : ∀ φ ∈ Φ', φ ∈ Φ) : XQ (bodyM P fn (Shows R c)) .ret ρ [] (St c L Φ) := fun σ w hσ hA tmps hh =>
  ⟨_, by
    have e1 : tmps.getD t undef = σ t := congrFun hh t
    rw [hσ t _ hv] at e1
    obtain ⟨inf, hi, hsz⟩ := sizeB_spec hs
    have := run_loadCells_list (P := P) (w := w) ⟨b, 0, none⟩ vs (fun j v hj => by rw [Addr.add_lit]; exact hA.cell s1 (by simpa using hj))
    simp only [results, h]
    simp [-Array.getD_eq_getD_getElem?, e1, asAddr, loadVar, run_isAgg ht, sizeOf, typeInfo, hi, hsz, ← hl, this], L', Φ', hR, hA.less s hΦ⟩
end
/-- Nothing is outgrown. -/
def NO (Q : Post) : Prop := ∀ σ ds w, ¬ Q .outgrown σ ds w
theorem NO.body {P : Program} {fn : Func} {R : Ending → World → Prop} : NO (bodyX P fn R) := fun _ _ _ h => h
theorem NO.bodyM {P : Program} {fn : Func} {R : Ending → World → Prop} : NO (bodyM P fn R) := fun _ _ _ h => h
theorem NO.sq {P : Program} {n : Nat} {y : Code} {Q : Post} (h : NO Q) : NO (Sq P n y Q) := h
theorem NO.rd {α : Type} {sl : α → Env} {I : α → World → Prop} {μ : α → Nat} {m : Nat} {ds : List Deferred} {Q : Post} (h : NO Q) : NO (Rd sl I μ m ds Q) := h
theorem NO.block {id : Nat} {Q : Post} (h : NO Q) : NO (inBlockX id Q) := h
theorem NO.endP {α : Type} {p : α → Prop} {B : α → World → Prop} : NO (EndP p B) := fun _ _ _ h => h
theorem NO.asgP {P : Program} {lp n : Nat} {body : Code} {Q : Post} {A B : World → Prop} : NO (AsgP P lp n body Q A B) := fun _ _ _ h => h
end Go.Proofs.Ytjnineeeffecaaa.X
