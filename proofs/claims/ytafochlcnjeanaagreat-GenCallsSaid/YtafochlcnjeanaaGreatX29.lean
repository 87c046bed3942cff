/- Runs by numbers: functions. For whatever program. -/
import Derived.Test.YtafochlcnjeanaaGreatX28
import Derived.Recover
import Derived.RangeFuncLeaves
namespace Go.Proofs.YtafochlcnjeanaaGreat.E
open Go Go.RowKit X

section
variable {P : Program} {R : Rel}
def resV (P : Program) (s : S) : ResultVar → Option EV
  | .tmp t => s.sl.get t
  | .cell a t => match s.sl.get a with
    | some v => loadE P s.hp t v
    | none => none
def resL (P : Program) (s : S) : List ResultVar → Option (List EV)
  | [] => some []
  | r :: l => match resV P s r, resL P s l with
    | some v, some vs => some (v :: vs)
    | _, _ => none
def resE (P : Program) (fn : Func) (s : S) : Option EV := match resL P s fn.results.toList with
  | some [v] => some v
  | some l => some (.tup l)
  | none => none
def IsRes (g : ResultVar → Sem Value) (tmps : Array Value) : Prop := (∀ t, g (.tmp t) = pure (tmps.getD t undef)) ∧ ∀ a t, g (.cell a t) = (do loadVar t (← asAddr (tmps.getD a undef)))
theorem resV_run {g : ResultVar → Sem Value} {s : S} {r : ResultVar} {v : EV} {tmps : Array Value} {w : World} (hg : IsRes g tmps) (h : resV P s r = some v) (hs : SlR R s.sl (fun t => tmps.getD t undef)) (HH : HR R s.hp.get w.heap) :
    ∃ v', (g r).run P w = .ok v' w ∧ VR R v v' := by
  unfold resV at h
  split at h
  · rw [hg.1]; exact ⟨_, rfl, hs _ _ h⟩
  · rename_i a t
    split at h
    · rename_i u hu
      have h1 := hs _ _ hu
      obtain ⟨v', h2, h3⟩ := loadE_run h h1 HH
      refine ⟨v', ?_, h3⟩
      rw [hg.2]
      unfold loadE at h
      split at h
      · obtain ⟨b, c, _, he⟩ := h1
        have he : tmps.getD a undef = _ := he
        simp only [he] at h2 ⊢
        simpa [Instr.loadAt, Instr.sureAddr, asAddr] using h2
      · cases h
    · cases h
theorem resL_run {g : ResultVar → Sem Value} {s : S} {tmps : Array Value} {w : World} (hg : IsRes g tmps) (hs : SlR R s.sl (fun t => tmps.getD t undef)) (HH : HR R s.hp.get w.heap) : ∀ {l : List ResultVar} {vs : List EV}, resL P s l = some vs →
    ∃ vs', (l.mapM g).run P w = .ok vs' w ∧ VRs R vs vs'
  | [], vs, h => by simp only [resL] at h; cases h; exact ⟨[], by simp, rfl⟩
  | r :: l, vs, h => by
    simp only [resL] at h
    split at h
    · rename_i v vs2 h1 h2
      cases h
      obtain ⟨v', h3, h4⟩ := resV_run hg h1 hs HH
      obtain ⟨vs', h5, h6⟩ := resL_run hg hs HH h2
      refine ⟨v' :: vs', ?_, v', vs', rfl, h4, h6⟩
      simp only [List.mapM_cons, Sem.run_bind]
      rw [h3]
      simp only [Result.andThen_ok]
      rw [h5]
      simp
    · cases h
theorem resE_run {fn : Func} {s : S} {v : EV} {tmps : Array Value} {w : World} (h : resE P fn s = some v) (hs : SlR R s.sl (fun t => tmps.getD t undef)) (HH : HR R s.hp.get w.heap) : ∃ v', (results fn tmps).run P w = .ok v' w ∧ VR R v v' := by
  unfold resE at h
  have key : ∀ {l : List EV}, resL P s fn.results.toList = some l → ∃ vs', (results fn tmps).run P w = .ok (if h : vs'.length = 1 then vs'[0] else .tuple vs'.toArray) w ∧ VRs R l vs' := fun {l} hl => by
    obtain ⟨vs', h1, h2⟩ := resL_run (g := fun | .tmp t => pure (tmps.getD t undef) | .cell a t => do loadVar t (← asAddr (tmps.getD a undef))) ⟨fun _ => rfl, fun _ _ => rfl⟩ hs HH hl
    refine ⟨vs', ?_, h2⟩
    unfold results
    have h3 : fn.results = fn.results.toList.toArray := by simp
    rw [h3, List.mapM_toArray]
    simp only [Sem.run_bind, Sem.run_map]
    refine Eq.trans (congrArg (fun r => (Result.andThen r _).andThen _) h1) ?_
    simp
  split at h
  · rename_i u hl
    cases h
    obtain ⟨vs', h1, u', us, e, hu, he⟩ := key hl
    have he : us = [] := he
    subst e he
    exact ⟨u', by simpa using h1, hu⟩
  · rename_i l hne hl
    cases h
    obtain ⟨vs', h1, h2⟩ := key hl
    have h3 : ¬ vs'.length = 1 := fun e => by
      rw [h2.length] at e
      cases l with
      | nil => cases e
      | cons x l => cases l with
        | nil => exact hne _ rfl
        | cons y l => simp at e
    rw [dif_neg h3] at h1
    exact ⟨_, h1, vs', rfl, h2⟩
  · cases h


/-! ### Deferred calls: how the one who leaves stands -/
inductive Md where
  | ret
  | pan (v : EV)
  | got (v : EV)
def MdR (R : Rel) : Md → FrameMode → Prop
  | .ret, u => u = .returning
  | .pan v, u => ∃ v', u = .panicking [{ v := v', recovered := false }] ∧ VR R v v'
  | .got v, u => ∃ v', u = .panicking [{ v := v', recovered := true }] ∧ VR R v v'
theorem MdR.mono {R R' : Rel} (h : Rel.le R R') : ∀ {m : Md} {u : FrameMode}, MdR R m u → MdR R' m u
  | .ret, _, e => e
  | .pan _, _, ⟨v', e, k⟩ => ⟨v', e, k.mono h⟩
  | .got _, _, ⟨v', e, k⟩ => ⟨v', e, k.mono h⟩
def recE : Md → EV × Md
  | .ret => (.flat .nilIface, .ret)
  | .pan v => (v, .got v)
  | .got v => (.flat .nilIface, .got v)
def settleE : Md → Md
  | .got _ => .ret
  | m => m
theorem settleE_R {m : Md} {u : FrameMode} (h : MdR R m u) : MdR R (settleE m) (settle u) := by
  cases m with
  | ret => rw [show u = _ from h]; exact rfl
  | pan v => obtain ⟨v', rfl, k⟩ := h; exact ⟨v', rfl, k⟩
  | got v => obtain ⟨v', rfl, k⟩ := h; exact rfl
theorem MdR.ne {m : Md} {u : FrameMode} (h : MdR R m u) : u ≠ .run := by
  cases m with
  | ret => rw [show u = _ from h]; exact fun h => by cases h
  | pan v => obtain ⟨v', rfl, _⟩ := h; exact fun h => by cases h
  | got v => obtain ⟨v', rfl, _⟩ := h; exact fun h => by cases h
def isRec : Op → Bool
  | .call cl => match cl.callee with
    | .builtin .recover => true
    | _ => false
  | _ => false
def evLS (P : Program) (call : CallE) (nt : Nat) (ops : Array Oper) : List Oper → S → Md → Option (Xt × S × Md)
  | [], s, m => some (.norm, s, m)
  | o :: l, s, m => match wantE (rdE s.sl) ops o, fitsB nt o.dst with
    | some false, true => evLS P call nt ops l { s with sl := putT s.sl o.dst undefE } m
    | some true, true => match isRec o.op with
      | true => evLS P call nt ops l { s with sl := putT s.sl o.dst (recE m).1 } (recE m).2
      | false => match opE P (rdE s.sl) call s.hp s.nx o.op with
        | some (.val (some v), H', n') => evLS P call nt ops l { sl := putT s.sl o.dst v, hp := H', nx := n', df := s.df } m
        | some (.val none, H', n') => evLS P call nt ops l { sl := putT s.sl o.dst undefE, hp := H', nx := n', df := s.df } m
        | _ => none
    | _, _ => none
/-- A deferred function's code. -/
def evS (P : Program) (call : CallE) (any : AnyE) (nt f : Nat) : Code → S → Md → Option (Xt × S × Md)
  | .region _ ops false => fun s m => evLS P call nt ops ops.toList s m
  | .seq x y => fun s m => match evS P call any nt f x s m with
    | some (.norm, s', m') => evS P call any nt f y s' m'
    | r => r
  | .cond c x y => fun s m => match rdE s.sl c with
    | some (.bool true) => evS P call any nt f x s m
    | some (.bool false) => evS P call any nt f y s m
    | _ => none
  | c => fun s m => match evC P call any nt f c s with
    | some (x, s') => some (x, s', m)
    | none => none
/-- What holds behind it: of the frames above, the next one's way of leaving. -/
def PostS (nt base : Nat) (R : Rel) (H : Heap) (n : Nat) (w : World) (c₀ : Frame) (cs : List Frame) (x : Xt) (s' : S) (m' : Md) : Exit → Act → List Frame → World → Prop := fun e a' cs' w' =>
  ∃ u', cs' = { c₀ with mode := u' } :: cs ∧ (nt ≤ a'.tmps.size ∧ ∃ R', After n s'.nx R H w R' s'.hp.get w' ∧ DfR base R' s'.hp.get w' s'.df a'.defers ∧ SlR R' s'.sl (envOf a') ∧ XtR R' x e ∧ MdR R' m' u')
theorem PostS.trans {nt base : Nat} {R R1 : Rel} {H H1 : Heap} {n n1 : Nat} {w w1 : World} {c₀ : Frame} {cs cs' : List Frame} {x : Xt} {s' : S} {m' : Md} {e : Exit} {a' : Act} {w' : World} (hA : After n n1 R H w R1 H1 w1) (hn : n ≤ n1) (hn1 : n1 ≤ s'.nx)
    (h : PostS nt base R1 H1 n1 w1 c₀ cs x s' m' e a' cs' w') : PostS nt base R H n w c₀ cs x s' m' e a' cs' w' := by
  obtain ⟨u', h0, h1, R', h3, h4⟩ := h
  exact ⟨u', h0, h1, R', hA.trans h3 hn hn1, h4⟩
def OKS (nt : Nat) (s : S) (m : Md) (x : Xt) (s' : S) (m' : Md) (W : (Exit → Act → List Frame → World → Prop) → Act → List Frame → World → Prop) : Prop :=
  s.nx ≤ s'.nx ∧ ∀ (R : Rel) (w : World) (a : Act) (c₀ : Frame) (cs : List Frame) (u : FrameMode) (base : Nat), nt ≤ a.tmps.size → DfR base R s.hp.get w s.df a.defers → SlR R s.sl (envOf a) → HR R s.hp.get w.heap → Fresh R s.nx → MdR R m u →
    W (PostS nt base R s.hp.get s.nx w c₀ cs x s' m') a ({ c₀ with mode := u } :: cs) w
theorem upon_of_wp {o : Oper} {a : Act} {w : World} {K : Act → World → Prop} {Q : Exit → Act → World → Prop} {X : World → Prop} (h : o.wp P a w K Q) : match (execOp a.eval o).run P w with
    | .ok .recover w' => X w'
    | r => o.upon P a K Q r := by
  unfold Oper.wp at h
  split
  · rename_i w' hr
    rw [hr] at h
    exact h.elim
  · exact h
theorem recE_R {m : Md} {u : FrameMode} {c₀ : Frame} {cs : List Frame} (h : MdR R m u) : ∃ v u', VR R (recE m).1 v ∧ MdR R (recE m).2 u' ∧
    ((recoverD ({ c₀ with mode := u } :: cs) = some (v, { c₀ with mode := u' } :: cs)) ∨ (recoverD ({ c₀ with mode := u } :: cs) = none ∧ v = .nilIface ∧ u' = u)) := by
  cases m with
  | ret => rw [show u = _ from h]; exact ⟨_, _, rfl, rfl, .inr ⟨rfl, rfl, rfl⟩⟩
  | pan v => obtain ⟨v', rfl, k⟩ := h; exact ⟨v', _, k, ⟨v', rfl, k⟩, .inl rfl⟩
  | got v => obtain ⟨v', rfl, k⟩ := h; exact ⟨_, _, rfl, ⟨v', rfl, k⟩, .inr ⟨rfl, rfl, rfl⟩⟩
theorem isRec_run {o : Oper} (h : isRec o.op = true) (ρ : Operand → Value) (w : World) : (execOp ρ o).run P w = .ok .recover w := by
  obtain ⟨dst, op, ty, pos, aft, gd⟩ := o
  simp only at h
  unfold isRec at h
  split at h
  · rename_i cl
    split at h
    · rename_i hc
      simp [execOp, resolve, hc, invoke, builtin]
    · cases h
  · cases h
theorem wpOpsS_mono {ops : Array Oper} {Q Q' : Exit → Act → List Frame → World → Prop} (hq : ∀ e a cs w, Q e a cs w → Q' e a cs w) : ∀ (l : List Nat) (a : Act) (cs : List Frame) (w : World), wpOpsS P ops Q l a cs w → wpOpsS P ops Q' l a cs w
  | [], a, cs, w, h => hq _ _ _ _ h
  | i :: l, a, cs, w, h => by
    unfold wpOpsS at h ⊢
    cases ho : ops[i]? with
    | none => rw [ho] at h; exact wpOpsS_mono hq l a cs w h
    | some o =>
      rw [ho] at h
      simp only at h ⊢
      split at h
      · rename_i hw
        rw [if_pos hw]
        generalize (execOp a.eval o).run P w = r at h ⊢
        have up : ∀ r, o.upon P a (fun a' w' => wpOpsS P ops Q l a' cs w') (fun e a' w' => Q e a' cs w') r → o.upon P a (fun a' w' => wpOpsS P ops Q' l a' cs w') (fun e a' w' => Q' e a' cs w') r := fun r h => by
          cases r with
          | halt x w' =>
            cases x <;> first
              | exact hq _ _ _ _ h
              | exact h
          | ok nx w' =>
            cases nx <;> first
              | exact h
              | exact wpOpsS_mono hq l _ cs _ h
              | (refine Calls.mono h fun e w'' he => ?_
                 cases e <;> first
                   | exact wpOpsS_mono hq l _ cs _ he
                   | exact hq _ _ _ _ he
                   | (obtain ⟨a, w, h⟩ := he; exact ⟨a, w, hq _ _ _ _ h⟩))
              | exact Rows.mono h fun v w'' he => wpOpsS_mono hq l _ cs _ he
        cases r with
        | halt x w' => exact up _ h
        | ok nx w' =>
          cases nx <;> first
            | exact up _ h
            | (cases hr : recoverD cs with
               | none => rw [hr] at h; simp only [hr] at h ⊢; exact wpOpsS_mono hq l _ cs _ h
               | some p => simp only [hr] at h ⊢; exact wpOpsS_mono hq l _ _ _ h)
      · rename_i hw
        rw [if_neg hw]
        exact wpOpsS_mono hq l _ cs _ h
theorem evLS_OK {call : CallE} (hC : CallOK P call) {nt : Nat} {ops : Array Oper} : ∀ {l : List Oper} {k : Nat} {s : S} {m : Md} {x : Xt} {s' : S} {m' : Md}, (∀ j, l[j]? = ops[k + j]?) → evLS P call nt ops l s m = some (x, s', m') →
    OKS nt s m x s' m' (fun Q a cs w => wpOpsS P ops Q (List.range' k l.length) a cs w)
  | [], k, s, m, x, s', m', _, h => by
    simp only [evLS] at h
    cases h
    exact ⟨Nat.le_refl _, fun R w a c₀ cs u base hn hd hs HH _ hm => by
      show wpOpsS P ops _ [] a _ w
      unfold wpOpsS
      exact ⟨u, rfl, hn, R, .refl HH, hd, hs, rfl, hm⟩⟩
  | o :: l, k, s, m, x, s', m', hl, h => by
    have h0 : ops[k]? = some o := by simpa using (hl 0).symm
    have hl' : ∀ j, l[j]? = ops[k + 1 + j]? := fun j => by
      have := hl (j + 1)
      rw [show k + 1 + j = k + (j + 1) by omega]
      simpa using this
    simp only [evLS] at h
    split at h
    · rename_i hw hf
      have ih := evLS_OK hC hl' h
      refine ⟨ih.1, fun R w a c₀ cs u base hn hd hs HH hF hm => ?_⟩
      have hr := RdR_of_SlR hs
      show wpOpsS P ops _ (k :: List.range' (k + 1) l.length) a _ w
      unfold wpOpsS
      simp only [h0]
      rw [if_neg (by rw [wantE_spec hr hw]; exact Bool.false_ne_true)]
      refine ih.2 R w (a.put o.dst undef) c₀ cs u base (by rw [size_put]; exact hn) (by rw [defers_put]; exact hd) ?_ HH hF hm
      show SlR R (putT s.sl o.dst undefE) _
      rw [env_putO (fitsB_spec hf hn)]
      exact hs.put _ rfl
    · rename_i hw hf
      split at h
      · rename_i hrec
        have ih := evLS_OK hC hl' h
        refine ⟨ih.1, fun R w a c₀ cs u base hn hd hs HH hF hm => ?_⟩
        have hr := RdR_of_SlR hs
        show wpOpsS P ops _ (k :: List.range' (k + 1) l.length) a _ w
        unfold wpOpsS
        simp only [h0]
        rw [if_pos (wantE_spec hr hw), isRec_run hrec]
        simp only
        obtain ⟨v, u', hv, hm', hrd⟩ := recE_R (c₀ := c₀) (cs := cs) hm
        have hs' : SlR R (putT s.sl o.dst (recE m).1) (envOf (a.put o.dst v)) := by
          rw [env_putO (fitsB_spec hf hn)]
          exact hs.put _ hv
        have := ih.2 R w (a.put o.dst v) c₀ cs u' base (by rw [size_put]; exact hn) (by rw [defers_put]; exact hd) hs' HH hF hm'
        rcases hrd with hrd | ⟨hrd, rfl, rfl⟩
        · rw [hrd]; exact this
        · rw [hrd]; exact this
      · have step : ∀ {v : Option EV} {H' : T Blk} {n' : Nat}, opE P (rdE s.sl) call s.hp s.nx o.op = some (.val v, H', n') → evLS P call nt ops l { sl := putT s.sl o.dst (match v with | some v => v | none => undefE), hp := H', nx := n', df := s.df } m = some (x, s', m') →
            OKS nt s m x s' m' (fun Q a cs w => wpOpsS P ops Q (List.range' k (o :: l).length) a cs w) := by
          intro v H' n' ho hl2
          have ih := evLS_OK hC hl' hl2
          have hmono := opE_le hC ho
          refine ⟨Nat.le_trans hmono ih.1, fun R w a c₀ cs u base hn hd hs HH hF hm => ?_⟩
          have hr := RdR_of_SlR hs
          show wpOpsS P ops _ (k :: List.range' (k + 1) l.length) a _ w
          unfold wpOpsS
          simp only [h0]
          rw [if_pos (wantE_spec hr hw)]
          refine upon_of_wp ((opE_run hC ho hr HH hF).2 fun R1 w1 v1 hA hv => ?_)
          refine wpOpsS_mono (fun e a2 cs2 w2 h => PostS.trans hA hmono ih.1 h) _ _ _ _ (ih.2 R1 w1 (a.put o.dst v1) c₀ cs u base (by rw [size_put]; exact hn) (by rw [defers_put]; exact hd.after hA) ?_ hA.1 (hF.go hA.2.1 hmono) (hm.mono hA.2.1.sub))
          show SlR R1 (putT s.sl o.dst _) _
          rw [env_putO (fitsB_spec hf hn)]
          exact (hs.mono hA.2.1.sub).put _ hv
        split at h
        · rename_i v H' n' ho
          exact step (v := some v) ho h
        · rename_i H' n' ho
          exact step (v := none) ho h
        · cases h
    · cases h
theorem wpS_mono {c : Code} {Q Q' : Exit → Act → List Frame → World → Prop} {a : Act} {cs : List Frame} {w : World} (h : c.wpS P Q a cs w) (hq : ∀ e a cs w, Q e a cs w → Q' e a cs w) : c.wpS P Q' a cs w := fun b k hb hr =>
  let ⟨e, a', cs', w', q, r⟩ := h b k hb hr
  ⟨e, a', cs', w', hq _ _ _ _ q, r⟩
theorem evS_plain {call : CallE} {any : AnyE} {nt : Nat} (hC : CallOK P call) (hA : AnyOK P nt any) (f : Nat) {c : Code} {s : S} {m : Md} {x : Xt} {s' : S} {m' : Md} (h : (match evC P call any nt f c s with | some (x, s') => some (x, s', m) | none => none) = some (x, s', m')) :
    OKS nt s m x s' m' (fun Q a cs w => c.wpS P Q a cs w) := by
  split at h
  · rename_i x1 s1 h1
    cases h
    have k1 := evC_OK hC hA f c h1
    refine ⟨k1.1, fun R w a c₀ cs u base hn hd hs HH hF hm => wpS_of_wp (wp_mono (k1.2 R w a base hn hd hs HH hF) fun e a' w' ⟨g1, R', g2, g3, g4, g5⟩ => ⟨u, rfl, g1, R', g2, g3, g4, g5, hm.mono g2.2.1.sub⟩)⟩
  · cases h
theorem evS_OK {call : CallE} {any : AnyE} {nt : Nat} (hC : CallOK P call) (hA : AnyOK P nt any) (f : Nat) : ∀ (c : Code) {s : S} {m : Md} {x : Xt} {s' : S} {m' : Md}, evS P call any nt f c s m = some (x, s', m') → OKS nt s m x s' m' (fun Q a cs w => c.wpS P Q a cs w)
  | .region id ops false, s, m, x, s', m', h => by
    simp only [evS] at h
    have := evLS_OK hC (k := 0) (fun j => by simp) h
    refine ⟨this.1, fun R w a c₀ cs u base hn hd hs HH hF hm => wpS_region ?_⟩
    have h2 := this.2 R w a c₀ cs u base hn hd hs HH hF hm
    rw [List.range_eq_range']
    simpa using h2
  | .seq c1 c2, s, m, x, s', m', h => by
    simp only [evS] at h
    split at h
    · rename_i s1 m1 h1
      have k1 := evS_OK hC hA f c1 h1
      have k2 := evS_OK hC hA f c2 h
      refine ⟨Nat.le_trans k1.1 k2.1, fun R w a c₀ cs u base hn hd hs HH hF hm => wpS_seq (wpS_mono (k1.2 R w a c₀ cs u base hn hd hs HH hF hm) fun e a1 cs1 w1 ⟨u1, hcs, hn1, R1, hA1, hd1, hs1, he, hm1⟩ => ?_)⟩
      have he : e = .normal := he
      subst he hcs
      exact wpS_mono (k2.2 R1 w1 a1 c₀ cs u1 base hn1 hd1 hs1 hA1.1 (hF.go hA1.2.1 k1.1) hm1) fun e a2 cs2 w2 hp => PostS.trans hA1 k1.1 k2.1 hp
    · rename_i r h2
      have k1 := evS_OK hC hA f c1 h
      refine ⟨k1.1, fun R w a c₀ cs u base hn hd hs HH hF hm => wpS_seq (wpS_mono (k1.2 R w a c₀ cs u base hn hd hs HH hF hm) fun e a1 cs1 w1 hp => ?_)⟩
      cases e <;> first
        | exact hp
        | (exfalso
           obtain ⟨_, _, _, _, _, _, _, he, _⟩ := hp
           cases x <;> first
             | exact h2 _ _ h
             | (cases he; done)
             | (obtain ⟨_, he, _⟩ := he; cases he))
  | .cond c x1 y1, s, m, x, s', m', h => by
    simp only [evS] at h
    split at h
    · rename_i hc
      have k1 := evS_OK hC hA f x1 h
      refine ⟨k1.1, fun R w a c₀ cs u base hn hd hs HH hF hm => ?_⟩
      have hr : ev (envOf a) c = .bool true := RdR_of_SlR hs _ _ hc
      exact wpS_cond (t := true) (by rw [eval_env]; exact hr) (k1.2 R w a c₀ cs u base hn hd hs HH hF hm)
    · rename_i hc
      have k1 := evS_OK hC hA f y1 h
      refine ⟨k1.1, fun R w a c₀ cs u base hn hd hs HH hF hm => ?_⟩
      have hr : ev (envOf a) c = .bool false := RdR_of_SlR hs _ _ hc
      exact wpS_cond (t := false) (by rw [eval_env]; exact hr) (k1.2 R w a c₀ cs u base hn hd hs HH hF hm)
    · cases h
  | .region id ops true, s, m, x, s', m', h => evS_plain hC hA f (by simpa only [evS] using h)
  | .skip, s, m, x, s', m', h => evS_plain hC hA f (by simpa only [evS] using h)
  | .block id c1, s, m, x, s', m', h => evS_plain hC hA f (by simpa only [evS] using h)
  | .loop c1, s, m, x, s', m', h => evS_plain hC hA f (by simpa only [evS] using h)
  | .exit id, s, m, x, s', m', h => evS_plain hC hA f (by simpa only [evS] using h)
  | .label l, s, m, x, s', m', h => evS_plain hC hA f (by simpa only [evS] using h)
  | .ret, s, m, x, s', m', h => evS_plain hC hA f (by simpa only [evS] using h)
  | .rangeFunc _ _ _ _, s, m, x, s', m', h => evS_plain hC hA f (by simpa only [evS] using h)
  | .scope _, s, m, x, s', m', h => evS_plain hC hA f (by simpa only [evS] using h)
  | .goto _, s, m, x, s', m', h => evS_plain hC hA f (by simpa only [evS] using h)
  | .refuse _, s, m, x, s', m', h => evS_plain hC hA f (by simpa only [evS] using h)

/-! ### Functions -/
theorem args_SlR {args : List EV} {vargs : List Value} (h : VRs R args vargs) (n : Nat) : SlR R (T.leaf.puts 0 args) (envOf { tmps := vargs.toArray ++ Array.replicate (n - vargs.toArray.size) undef, defers := [] }) := fun t v e => by
  rw [T.get_puts] at e
  split at e
  · rename_i hi
    obtain ⟨u, h1, h2⟩ := h.get e
    have hl := h.length
    have hlt : t < vargs.length := by omega
    have : envOf { tmps := vargs.toArray ++ Array.replicate (n - vargs.toArray.size) undef, defers := [] } t = u := by
      simp only [envOf, Array.getD_eq_getD_getElem?]
      rw [Array.getElem?_append_left (by simpa using hlt)]
      simp at h1
      simp [h1]
    rw [this]
    exact h2
  · simp [T.get] at e
abbrev DeferE := FuncId → List EV → T Blk → Nat → Md → Option (Md × T Blk × Nat)
/-- A deferred call. -/
def runD (P : Program) (call : CallE) (any : Nat → AnyE) (f : Nat) : DeferE := fun g args H n m => match P.funcs[g]?, entersB P g with
  | some fn, true => match fn.body with
    | some c => match evS P call (any fn.ntmps) fn.ntmps f c { sl := T.leaf.puts 0 args, hp := H, nx := n, df := [] } m with
      | some (.ret, s', m') => match s'.df, resE P fn s' with
        | [], some _ => some (m', s'.hp, s'.nx)
        | _, _ => none
      | some (.norm, s', m') => match s'.df, resE P fn s' with
        | [], some _ => some (m', s'.hp, s'.nx)
        | _, _ => none
      | _ => none
    | none => none
  | _, _ => none
def DeferOK (P : Program) (D : DeferE) : Prop := ∀ g args H n m m' H' n', D g args H n m = some (m', H', n') → entersB P g = true ∧ n ≤ n' ∧
  ∀ R w vargs u, VRs R args vargs → HR R H.get w.heap → Fresh R n → MdR R m u → CallsD P g vargs.toArray u w fun e u' w' => ∃ R' v, e = .returned v ∧ After n n' R H.get w R' H'.get w' ∧ MdR R' m' u'
theorem runD_OK {call : CallE} {any : Nat → AnyE} (hC : CallOK P call) (hA : ∀ nt, AnyOK P nt (any nt)) (f : Nat) : DeferOK P (runD P call any f) := by
  intro g args H n m m' H' n' h
  unfold runD at h
  split at h
  · rename_i fn hf hB
    split at h
    · rename_i c hb
      have key : ∀ {x : Xt} {s' : S} {m2 : Md}, evS P call (any fn.ntmps) fn.ntmps f c { sl := T.leaf.puts 0 args, hp := H, nx := n, df := [] } m = some (x, s', m2) → (x = .ret ∨ x = .norm) → s'.df = [] → (∃ v, resE P fn s' = some v) → m2 = m' → s'.hp = H' → s'.nx = n' →
          entersB P g = true ∧ n ≤ n' ∧ ∀ R w vargs u, VRs R args vargs → HR R H.get w.heap → Fresh R n → MdR R m u → CallsD P g vargs.toArray u w fun e u' w' => ∃ R' v, e = .returned v ∧ After n n' R H.get w R' H'.get w' ∧ MdR R' m' u' := by
        rintro x s' m2 hev hx hdf ⟨v, hv⟩ rfl rfl rfl
        have k1 := evS_OK hC (hA fn.ntmps) f c hev
        refine ⟨hB, k1.1, fun R w vargs u hva HH hF hm => callsD_of_wpS hf hb fun c₀ cs hu => ?_⟩
        have h1 := k1.2 R w { tmps := vargs.toArray ++ Array.replicate (fn.ntmps - vargs.toArray.size) undef, defers := [] } c₀ cs u w.heap.size (by simp; omega) ⟨rfl, Nat.le_refl _⟩ (args_SlR hva _) HH hF hm
        have hc0 : ({ c₀ with mode := u } : Frame) = c₀ := by rw [← hu]
        rw [hc0] at h1
        refine wpS_mono h1 fun e a' cs' w' ⟨u', hcs, hn1, R1, hA1, hd1, hs1, he, hm1⟩ => ?_
        rw [hdf] at hd1
        obtain ⟨v', h3, _⟩ := resE_run (tmps := a'.tmps) hv hs1 hA1.1
        rcases hx with rfl | rfl
        · have he : e = .ret := he
          subst he
          exact ⟨hd1.1, u', hcs, v', h3, R1, v', rfl, hA1, hm1⟩
        · have he : e = .normal := he
          subst he
          exact ⟨hd1.1, u', hcs, v', h3, R1, v', rfl, hA1, hm1⟩
      split at h
      · rename_i s' m2 hev
        split at h
        · rename_i v hdf hv
          cases h
          exact key hev (.inl rfl) hdf ⟨v, hv⟩ rfl rfl rfl
        · cases h
      · rename_i s' m2 hev
        split at h
        · rename_i v hdf hv
          cases h
          exact key hev (.inr rfl) hdf ⟨v, hv⟩ rfl rfl rfl
        · cases h
      · cases h
    · cases h
  · cases h
/-- All deferred calls, in turn. -/
def leavesE (D : DeferE) : List DE → T Blk → Nat → Md → Option (Md × T Blk × Nat)
  | [], H, n, m => some (m, H, n)
  | .call g args :: l, H, n, m => match D g args H n m with
    | some (m', H', n') => leavesE D l H' n' (settleE m')
    | none => none
  | .mark :: _, _, _, _ => none
theorem leavesE_OK {D : DeferE} (hD : DeferOK P D) : ∀ {l : List DE} {H : T Blk} {n : Nat} {m m' : Md} {H' : T Blk} {n' : Nat}, leavesE D l H n m = some (m', H', n') → n ≤ n' ∧
    ∀ (R : Rel) (w : World) (base : Nat) (ds : List Deferred) (u : FrameMode), DfR base R H.get w l ds → HR R H.get w.heap → Fresh R n → MdR R m u → ∀ (fn : Func) (tmps : Array Value) (K : Ending → World → Prop),
      (∀ R' w' u', After n n' R H.get w R' H'.get w' → MdR R' m' u' → Leaves P fn tmps K [] u' w') → Leaves P fn tmps K ds u w
  | [], H, n, m, m', H', n', h => by
    simp only [leavesE] at h
    cases h
    refine ⟨Nat.le_refl _, fun R w base ds u hd HH hF hm fn tmps K hK => ?_⟩
    obtain ⟨rfl, _⟩ := hd
    exact hK R w u (.refl HH) hm
  | .call g args :: l, H, n, m, m', H', n', h => by
    simp only [leavesE] at h
    split at h
    · rename_i m1 H1 n1 h1
      obtain ⟨hB, hn1, h2⟩ := hD _ _ _ _ _ _ _ _ h1
      have ih := leavesE_OK hD h
      refine ⟨Nat.le_trans hn1 ih.1, fun R w base ds u hd HH hF hm fn tmps K hK => ?_⟩
      obtain ⟨d, ds', rfl, ⟨cap, full, ht, hfull, hv⟩, hd'⟩ := hd
      refine ⟨hm.ne, .func g, cap, g, full.toArray, ht, ?_, (h2 R w full u hv HH hF hm).mono ?_⟩
      · rw [ht]
        simp only [invoke, hfull]
        exact run_enter hB _ w
      · rintro e u' w' ⟨R', v, rfl, hA, hm'⟩
        exact ih.2 R' w' base ds' (settle u') (hd'.after hA) hA.1 (hF.go hA.2.1 hn1) (settleE_R hm') fn tmps K fun R2 w2 u2 hA2 hm2 => hK R2 w2 u2 (hA.trans hA2 hn1 ih.1) hm2
    · cases h
  | .mark :: _, _, _, _, _, _, _, h => by cases h
/-- Nothing but a mark: its block is shut. -/
theorem mark_OK {fn : Func} {tmps : Array Value} {K : Ending → World → Prop} {lo hi : Nat} {R R' : Rel} {H H' : Heap} {w0 : World} {ds : List Deferred} {w : World} (hd : DfR w0.heap.size R' H' w [.mark] ds) (hA : After lo hi R H w0 R' H' w)
    (hK : ∀ w', After lo hi R H w0 R' H' w' → ∃ v, (results fn tmps).run P w' = .ok v w' ∧ K (.returned v) w') : LeavesInM Fence.wide 0 P fn tmps K ds .returning w := by
  obtain ⟨d, ds', r, rfl, ht, hr, hno, hb, hd'⟩ := hd
  have hlt : r < w.heap.size := (Array.getElem?_eq_some_iff.1 hr).1
  let w' : World := { w with heap := w.heap.setIfInBounds r (.deferred none) }
  have hne : ∀ b, b ≠ r → w'.heap[b]? = w.heap[b]? := fun b hb => by
    show (w.heap.setIfInBounds _ _)[b]? = _
    rw [Array.getElem?_setIfInBounds_ne (Ne.symm hb)]
  have hsz : w'.heap.size = w.heap.size := by show (w.heap.setIfInBounds _ _).size = _; simp
  have hA' : After lo hi R H w0 R' H' w' :=
    ⟨hA.1.other (by omega) (fun b hb ho => hne b (fun e => hno (e ▸ ho))), ⟨by rw [hsz]; exact hA.2.1.size, hA.2.1.sub, hA.2.1.new, fun b hb hn => by rw [hne b (by omega)]; exact hA.2.1.keep b hb hn, hA.2.1.own, hA.2.1.dom, hA.2.1.stay⟩, ⟨hA.2.2.os, hA.2.2.tape, hA.2.2.output⟩⟩
  obtain ⟨rfl, _⟩ := hd'
  refine ⟨fun h => (by cases h), .inl ⟨r, w', ht, ?_, ?_⟩⟩
  · simp [Instr.takeDeferred, getObj, setObj, Sem.run, hr, w']
  · exact hK w' hA'
def endF (P : Program) (D : DeferE) (fn : Func) (s : S) (m : Md) : Option (Res × T Blk × Nat) := match s.df, m with
  | [], .ret => match resE P fn s with
    | some v => some (.ret v, s.hp, s.nx)
    | none => none
  | [], .pan v => some (.pan v, s.hp, s.nx)
  | [.mark], .ret => match resE P fn s with
    | some v => some (.ret v, s.hp, s.nx)
    | none => none
  | df, m => match leavesE D df s.hp s.nx m with
    | some (.ret, H', n') => match resE P fn { s with hp := H' } with
      | some v => some (.ret v, H', n')
      | none => none
    | some (.pan v, H', n') => some (.pan v, H', n')
    | _ => none
/-- Functions, so many calls deep; f: how many rounds a loop may take. -/
def stepF (P : Program) (any : CallE → Nat → AnyE) (f : Nat) (call : CallE) : CallE := fun g args H n => match P.funcs[g]?, entersB P g with
  | some fn, true => match fn.body with
    | some c => match evC P call (any call fn.ntmps) fn.ntmps f c { sl := T.leaf.puts 0 args, hp := H, nx := n, df := [] } with
      | some (.ret, s') => endF P (runD P call (any call) f) fn s' .ret
      | some (.norm, s') => endF P (runD P call (any call) f) fn s' .ret
      | some (.pan v, s') => endF P (runD P call (any call) f) fn s' (.pan v)
      | _ => none
    | none => none
  | _, _ => none
def runF (P : Program) (any : CallE → Nat → AnyE) (f : Nat) : Nat → CallE
  | 0 => fun _ _ _ _ => none
  | d + 1 => stepF P any f (runF P any f d)
theorem endF_leaves {D : DeferE} (hD : DeferOK P D) {fn : Func} {s : S} {m : Md} {r : Res} {H' : T Blk} {n' : Nat} (h : endF P D fn s m = some (r, H', n')) (hne : s.df ≠ [.mark]) : s.nx ≤ n' ∧
    ∀ (R : Rel) (w : World) (base : Nat) (ds : List Deferred) (u : FrameMode) (tmps : Array Value) (K : Ending → World → Prop), DfR base R s.hp.get w s.df ds → HR R s.hp.get w.heap → Fresh R s.nx → SlR R s.sl (fun t => tmps.getD t undef) → MdR R m u →
      (∀ R2 w2 e, After s.nx n' R s.hp.get w R2 H'.get w2 → ResR R2 r e → K e w2) → Leaves P fn tmps K ds u w := by
  have last : ∀ {m2 : Md}, (match some (m2, H', n') with
      | some (.ret, H', n') => match resE P fn { s with hp := H' } with
        | some v => some (Res.ret v, H', n')
        | none => none
      | some (.pan v, H', n') => some (Res.pan v, H', n')
      | _ => none) = some (r, H', n') → ∀ (R2 : Rel) (w2 : World) (u2 : FrameMode) (tmps : Array Value) (K : Ending → World → Prop), MdR R2 m2 u2 → SlR R2 s.sl (fun t => tmps.getD t undef) → HR R2 H'.get w2.heap → (∀ e, ResR R2 r e → K e w2) → Leaves P fn tmps K [] u2 w2 := by
    intro m2 h R2 w2 u2 tmps K hm hs HH hK
    cases m2 with
    | ret =>
      have hm : u2 = .returning := hm
      subst hm
      simp only at h
      split at h
      · rename_i v hv
        cases h
        obtain ⟨v', h1, h2⟩ := resE_run (s := { s with hp := H' }) hv hs HH
        exact ⟨v', h1, hK _ ⟨v', rfl, h2⟩⟩
      · cases h
    | pan v =>
      obtain ⟨v', rfl, hv⟩ := hm
      simp only at h
      cases h
      exact hK _ ⟨v', rfl, hv⟩
    | got v => cases h
  have gen : ∀ {m2 : Md} {H2 : T Blk} {n2 : Nat}, leavesE D s.df s.hp s.nx m = some (m2, H2, n2) → (match leavesE D s.df s.hp s.nx m with
      | some (.ret, H', n') => match resE P fn { s with hp := H' } with
        | some v => some (Res.ret v, H', n')
        | none => none
      | some (.pan v, H', n') => some (Res.pan v, H', n')
      | _ => none) = some (r, H', n') → s.nx ≤ n' ∧
    ∀ (R : Rel) (w : World) (base : Nat) (ds : List Deferred) (u : FrameMode) (tmps : Array Value) (K : Ending → World → Prop), DfR base R s.hp.get w s.df ds → HR R s.hp.get w.heap → Fresh R s.nx → SlR R s.sl (fun t => tmps.getD t undef) → MdR R m u →
      (∀ R2 w2 e, After s.nx n' R s.hp.get w R2 H'.get w2 → ResR R2 r e → K e w2) → Leaves P fn tmps K ds u w := by
    intro m2 H2 n2 h1 h
    rw [h1] at h
    have hHn : H2 = H' ∧ n2 = n' := by
      cases m2 with
      | ret => simp only at h; split at h <;> cases h; exact ⟨rfl, rfl⟩
      | pan v => simp only at h; cases h; exact ⟨rfl, rfl⟩
      | got v => cases h
    obtain ⟨rfl, rfl⟩ := hHn
    obtain ⟨h2, h3⟩ := leavesE_OK hD h1
    refine ⟨h2, fun R w base ds u tmps K hd HH hF hs hm hK => h3 R w base ds u hd HH hF hm fn tmps K fun R2 w2 u2 hA hm2 => ?_⟩
    exact last h R2 w2 u2 tmps K hm2 (hs.mono hA.2.1.sub) hA.1 fun e he => hK R2 w2 e hA he
  cases hdf : s.df with
  | nil =>
    have h0 : leavesE D s.df s.hp s.nx m = some (m, s.hp, s.nx) := by rw [hdf]; rfl
    rw [← hdf]
    refine gen h0 ?_
    rw [h0]
    unfold endF at h
    rw [hdf] at h
    cases m with
    | ret => exact h
    | pan v => exact h
    | got v => simp [leavesE] at h
  | cons d l =>
    rw [← hdf]
    have h1 : endF P D fn s m = (match leavesE D s.df s.hp s.nx m with
      | some (.ret, H', n') => match resE P fn { s with hp := H' } with
        | some v => some (Res.ret v, H', n')
        | none => none
      | some (.pan v, H', n') => some (Res.pan v, H', n')
      | _ => none) := by
      unfold endF
      cases d with
      | mark =>
        cases l with
        | nil => exact absurd hdf hne
        | cons => rw [hdf]
      | call => rw [hdf]
    rw [h1] at h
    cases h2 : leavesE D s.df s.hp s.nx m with
    | none => rw [h2] at h; cases h
    | some p => obtain ⟨m2, H2, n2⟩ := p; exact gen h2 h
theorem endF_mark {D : DeferE} {fn : Func} {s : S} {m : Md} {r : Res} {H' : T Blk} {n' : Nat} (h : endF P D fn s m = some (r, H', n')) (hdf : s.df = [.mark]) : m = .ret ∧ H' = s.hp ∧ n' = s.nx ∧ ∃ v, r = .ret v ∧ resE P fn s = some v := by
  unfold endF at h
  rw [hdf] at h
  cases m with
  | ret =>
    simp only at h
    split at h
    · rename_i v hv
      cases h
      exact ⟨rfl, rfl, rfl, v, rfl, hv⟩
    · cases h
  | pan v => simp [leavesE] at h
  | got v => simp [leavesE] at h
theorem stepF_OK {any : CallE → Nat → AnyE} (hA : ∀ call nt, CallOK P call → AnyOK P nt (any call nt)) (f : Nat) {call : CallE} (ih : CallOK P call) : CallOK P (stepF P any f call) :=
  fun g args H n r H' n' h => by
    have hD : DeferOK P (runD P call (any call) f) := runD_OK ih (fun nt => hA _ nt ih) f
    simp only [stepF] at h
    split at h
    · rename_i fn hf hB
      split at h
      · rename_i c hb
        have hin : ∀ {x : Xt} {s' : S} {m : Md}, evC P call (any call fn.ntmps) fn.ntmps f c { sl := T.leaf.puts 0 args, hp := H, nx := n, df := [] } = some (x, s') →
            endF P (runD P call (any call) f) fn s' m = some (r, H', n') → (∀ (R1 : Rel) (e : Exit), XtR R1 x e → (m = .ret ∧ (e = .ret ∨ e = .normal)) ∨ ∃ v v', m = .pan v ∧ e = .panic [{ v := v', recovered := false }] ∧ VR R1 v v') →
            entersB P g = true ∧ n ≤ n' ∧ ∀ R w vargs, VRs R args vargs → HR R H.get w.heap → Fresh R n → Calls P g vargs.toArray w fun e w' => ∃ R', After n n' R H.get w R' H'.get w' ∧ ResR R' r e := by
          intro x s' m hev hend hx
          have hk := evC_OK ih (hA _ fn.ntmps ih) f c hev
          by_cases hdf : s'.df = [.mark]
          · obtain ⟨rfl, rfl, rfl, v, rfl, hv⟩ := endF_mark hend hdf
            refine ⟨hB, hk.1, fun R w vargs hva HH hF => (callsIn_wide (n := 0)).1 (callsIn_of_wp_marks hf hb trivial (wpIn_wide.2 ?_))⟩
            refine wp_mono (hk.2 R w _ w.heap.size (by simp; omega) ⟨rfl, Nat.le_refl _⟩ (args_SlR hva _) HH hF) fun e a' w' ⟨hn1, R1, hA1, hd1, hs1, he⟩ => ?_
            rw [hdf] at hd1
            have hl : LeavesInM Fence.wide 0 P fn a'.tmps (fun e w' => ∃ R', After n s'.nx R H.get w R' s'.hp.get w' ∧ ResR R' (.ret v) e) a'.defers .returning w' := mark_OK hd1 hA1 fun w2 hA2 => by
              obtain ⟨v', h3, h4⟩ := resE_run (tmps := a'.tmps) hv hs1 hA2.1
              exact ⟨v', h3, R1, hA2, v', rfl, h4⟩
            rcases hx R1 e he with ⟨_, rfl | rfl⟩ | ⟨v, v', hm, _⟩
            · exact hl
            · exact hl
            · cases hm
          · obtain ⟨h1, h2⟩ := endF_leaves hD hend hdf
            refine ⟨hB, Nat.le_trans hk.1 h1, fun R w vargs hva HH hF => calls_of_wp_defers hf hb ?_⟩
            refine wp_mono (hk.2 R w _ w.heap.size (by simp; omega) ⟨rfl, Nat.le_refl _⟩ (args_SlR hva _) HH hF) fun e a' w' ⟨hn1, R1, hA1, hd1, hs1, he⟩ => ?_
            have hF1 := hF.go hA1.2.1 hk.1
            rcases hx R1 e he with ⟨rfl, rfl | rfl⟩ | ⟨v, v', rfl, rfl, hv⟩
            · exact h2 R1 w' _ _ .returning a'.tmps _ hd1 hA1.1 hF1 hs1 rfl fun R2 w2 e hA2 hr => ⟨R2, hA1.trans hA2 hk.1 h1, hr⟩
            · exact h2 R1 w' _ _ .returning a'.tmps _ hd1 hA1.1 hF1 hs1 rfl fun R2 w2 e hA2 hr => ⟨R2, hA1.trans hA2 hk.1 h1, hr⟩
            · exact h2 R1 w' _ _ (.panicking _) a'.tmps _ hd1 hA1.1 hF1 hs1 ⟨v', rfl, hv⟩ fun R2 w2 e hA2 hr => ⟨R2, hA1.trans hA2 hk.1 h1, hr⟩
        split at h
        · rename_i s' hev
          exact hin hev h fun R1 e he => .inl ⟨rfl, .inl he⟩
        · rename_i s' hev
          exact hin hev h fun R1 e he => .inl ⟨rfl, .inr he⟩
        · rename_i v s' hev
          exact hin hev h fun R1 e he => .inr (let ⟨v', h1, h2⟩ := he; ⟨v, v', rfl, h1, h2⟩)
        · cases h
      · cases h
    · cases h
theorem runF_OK {any : CallE → Nat → AnyE} (hA : ∀ call nt, CallOK P call → AnyOK P nt (any call nt)) (f : Nat) : ∀ d, CallOK P (runF P any f d)
  | 0 => fun g args H n r H' n' h => by cases h
  | d + 1 => stepF_OK hA f (runF_OK hA f d)

end
end Go.Proofs.YtafochlcnjeanaaGreat.E
