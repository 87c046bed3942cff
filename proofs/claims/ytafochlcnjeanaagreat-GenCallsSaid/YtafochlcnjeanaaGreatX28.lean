/- Runs by numbers: code, functions. For whatever program. -/
import Derived.Test.YtafochlcnjeanaaGreatX27
import Derived.RangeFuncIn
import Derived.Scope
namespace Go.Proofs.YtafochlcnjeanaaGreat.E
open Go Go.RowKit X

section
variable {P : Program}
theorem callsE_le {call : CallE} (hC : CallOK P call) {rd : Rd} {op : Op} {H H' : T Blk} {nx n' : Nat} {v : Vo} (h : callsE P rd call H nx op = some (v, H', n')) : nx ≤ n' := by
  unfold callsE at h
  split at h
  · split at h
    · split at h
      · split at h
        · cases h; exact Nat.le_refl _
        split at h
        · rename_i hcall
          cases h
          exact (hC _ _ _ _ _ _ _ hcall).2.1
        · rename_i hcall
          cases h
          exact (hC _ _ _ _ _ _ _ hcall).2.1
        · cases h
      · cases h
    · cases h
  · split at h
    · cases h; exact Nat.le_refl _
    · cases h
  · cases h
theorem opE_le {call : CallE} (hC : CallOK P call) {rd : Rd} {op : Op} {H H' : T Blk} {nx n' : Nat} {v : Vo} (h : opE P rd call H nx op = some (v, H', n')) : nx ≤ n' := by
  have rdcase : ∀ op, (match readE P rd H op with | some v => some (Vo.val (some v), H, nx) | none => none) = some (v, H', n') → nx ≤ n' := fun op h => by
    split at h
    · cases h; exact Nat.le_refl _
    · cases h
  unfold opE at h
  split at h
  · split at h <;> cases h
    exact Nat.le_refl _
  · split at h <;> cases h
    exact Nat.le_succ _
  · split at h <;> cases h
    exact Nat.le_succ _
  · split at h <;> cases h
    exact Nat.le_succ _
  · split at h <;> cases h
    exact Nat.le_succ _
  · split at h <;> cases h
    exact Nat.le_succ _
  · split at h <;> cases h
    exact Nat.le_succ _
  · split at h <;> cases h
    exact Nat.le_succ _
  · split at h <;> cases h
    exact Nat.le_succ _
  · split at h <;> cases h
    exact Nat.le_succ _
  · split at h
    · cases h; exact Nat.le_succ _
    · exact rdcase _ h
  · exact callsE_le hC h
  · split at h
    · exact callsE_le hC h
    · split at h <;> cases h
      exact Nat.le_succ _
    · split at h <;> cases h
      exact Nat.le_succ _
    · exact rdcase _ h
  · exact rdcase _ h
theorem deferE_run {R : Rel} {rd : Rd} {ρ : Operand → Value} {o : Oper} {d : DE} (h : deferE rd o.op = some d) (hr : RdR R rd ρ) (w : World) :
    ∃ dd, (execOp ρ o).run P w = .ok (.defer dd) w ∧ ∀ base H l ds, DfR base R H w l ds → DfR base R H w (d :: l) (dd :: ds) := by
  generalize hop : o.op = op at h
  unfold deferE at h
  split at h
  · rename_i cl
    split at h
    · rename_i f hc
      split at h
      · rename_i g first cap args hf ha
        cases h
        obtain ⟨a', c', he, h1, h2⟩ := hr _ _ hf
        have h3 := rds_R hr ha
        refine ⟨{ target := .fn (.func g) (List.toArray c'), args := List.toArray a' ++ cl.args.map ρ }, ?_, fun base H l ds hd => ⟨_, ds, rfl, ⟨List.toArray c', a' ++ cl.args.toList.map ρ ++ c', rfl, ?_, (h1.append h3).append h2⟩, hd⟩⟩
        · unfold execOp
          rw [hop]
          simp only [resolve, hc, he, Deferred.ofValue, Sem.run_bind, Sem.run_pure, Result.andThen_ok]
        · apply Array.toList_inj.1
          simp
      · cases h
    · cases h
  · cases h
theorem evL_OK {call : CallE} (hC : CallOK P call) {nt : Nat} {ops : Array Oper} : ∀ {l : List Oper} {s : S} {x : Xt} {s' : S}, evL P call nt ops l s = some (x, s') → OK nt s x s' (fun Q a w => wpList P ops Q l a w)
  | [], s, x, s', h => by
    simp only [evL] at h
    cases h
    exact ⟨Nat.le_refl _, fun R w a base hn hd hs HH _ => by
      show wpList P ops _ [] a w
      unfold wpList
      exact ⟨hn, R, .refl HH, hd, hs, rfl⟩⟩
  | o :: l, s, x, s', h => by
    simp only [evL] at h
    split at h
    · rename_i hw hf
      have ih := evL_OK hC h
      refine ⟨ih.1, fun R w a base hn hd hs HH hF => ?_⟩
      have hr := RdR_of_SlR hs
      show wpList P ops _ (o :: l) a w
      unfold wpList
      rw [if_neg (by rw [wantE_spec hr hw]; exact Bool.false_ne_true)]
      refine ih.2 R w (a.put o.dst undef) base (by rw [size_put]; exact hn) (by rw [defers_put]; exact hd) ?_ HH hF
      show SlR R (putT s.sl o.dst undefE) _
      rw [env_putO (fitsB_spec hf hn)]
      exact hs.put _ rfl
    · rename_i hw hf
      have step : ∀ {v : Option EV} {H' : T Blk} {n' : Nat}, opE P (rdE s.sl) call s.hp s.nx o.op = some (.val v, H', n') → evL P call nt ops l { sl := putT s.sl o.dst (match v with | some v => v | none => undefE), hp := H', nx := n', df := s.df } = some (x, s') →
          OK nt s x s' (fun Q a w => wpList P ops Q (o :: l) a w) := by
        intro v H' n' ho hl
        have ih := evL_OK hC hl
        have hmono := opE_le hC ho
        refine ⟨Nat.le_trans hmono ih.1, fun R w a base hn hd hs HH hF => ?_⟩
        have hr := RdR_of_SlR hs
        show wpList P ops _ (o :: l) a w
        unfold wpList
        rw [if_pos (wantE_spec hr hw)]
        refine .inl ((opE_run hC ho hr HH hF).2 fun R1 w1 v1 hA hv => ?_)
        refine wpList_mono (fun e a2 w2 h => PostE.trans hA hmono ih.1 h) l _ _ (ih.2 R1 w1 (a.put o.dst v1) base (by rw [size_put]; exact hn) (by rw [defers_put]; exact hd.after hA) ?_ hA.1 (hF.go hA.2.1 hmono))
        show SlR R1 (putT s.sl o.dst _) _
        rw [env_putO (fitsB_spec hf hn)]
        exact (hs.mono hA.2.1.sub).put _ hv
      split at h
      · split at h
        · rename_i d hde
          have ih := evL_OK hC h
          refine ⟨ih.1, fun R w a base hn hd hs HH hF => ?_⟩
          have hr := RdR_of_SlR hs
          show wpList P ops _ (o :: l) a w
          unfold wpList
          rw [if_pos (wantE_spec hr hw)]
          refine .inl ?_
          obtain ⟨dd, h1, h2⟩ := deferE_run hde hr w
          unfold Oper.wp
          rw [eval_env, h1]
          refine ih.2 R w ({ a with defers := dd :: a.defers }.put o.dst undef) base (by rw [size_put]; exact hn) (by rw [defers_put]; exact h2 _ _ _ _ hd) ?_ HH hF
          have he := env_putO (a := ({ a with defers := dd :: a.defers } : Act)) (v := undef) (fitsB_spec hf hn)
          show SlR R (putT s.sl o.dst undefE) (envOf (({ a with defers := dd :: a.defers } : Act).put o.dst undef))
          rw [he]
          exact SlR.put (σ := envOf a) hs _ rfl
        · cases h
      · split at h
        · rename_i v H' n' ho
          exact step (v := some v) ho h
        · rename_i H' n' ho
          exact step (v := none) ho h
        · rename_i v H' n' ho
          cases h
          refine ⟨opE_le hC ho, fun R w a base hn hd hs HH hF => ?_⟩
          have hr := RdR_of_SlR hs
          show wpList P ops _ (o :: l) a w
          unfold wpList
          rw [if_pos (wantE_spec hr hw)]
          refine .inl ((opE_run hC ho hr HH hF).2 fun R1 w1 v1 hA hv => ?_)
          exact ⟨hn, R1, hA, hd.after hA, hs.mono hA.2.1.sub, v1, rfl, hv⟩
        · cases h
    · cases h

/-! ### Code -/
abbrev AnyE := Array Oper → S → Option (Xt × S)
def loopN (body : S → Option (Xt × S)) : Nat → S → Option (Xt × S)
  | 0, _ => none
  | f + 1, s => match body s with
    | some (.norm, s') => loopN body f s'
    | r => r
/-- nt: the function's slots; any: regions that draw their order; f: how many rounds a loop may take. -/
def evC (P : Program) (call : CallE) (any : AnyE) (nt f : Nat) : Code → S → Option (Xt × S)
  | .skip => fun s => some (.norm, s)
  | .region _ ops false => fun s => evL P call nt ops ops.toList s
  | .region _ ops true => fun s => any ops s
  | .seq x y => fun s => match evC P call any nt f x s with
    | some (.norm, s') => evC P call any nt f y s'
    | r => r
  | .cond c x y => fun s => match rdE s.sl c with
    | some (.bool true) => evC P call any nt f x s
    | some (.bool false) => evC P call any nt f y s
    | _ => none
  | .block id x => fun s => match evC P call any nt f x s with
    | some (.exit i, s') => match Nat.beq i id with
      | true => some (.norm, s')
      | false => some (.exit i, s')
    | r => r
  | .loop x => fun s => loopN (evC P call any nt f x) f s
  | .rangeFunc g _ _ _ => fun s => match rdE s.sl g with
    | some (.fn (.func h) first cap) => match call h (first ++ [.any] ++ cap) s.hp s.nx with
      | some (.ret _, H', n') => some (.norm, { sl := s.sl, hp := H', nx := n', df := .mark :: s.df })
      | _ => none
    | _ => none
  | .exit id => fun s => some (.exit id, s)
  | .label _ => fun s => some (.norm, s)
  | .scope x => fun s => evC P call any nt f x s
  | .ret => fun s => some (.ret, s)
  | _ => fun _ => none
def AnyOK (P : Program) (nt : Nat) (any : AnyE) : Prop := ∀ id ops s x s', any ops s = some (x, s') → OK nt s x s' (fun Q a w => (Code.region id ops true).wp P Q a w)
theorem OK.now {nt : Nat} {s : S} {x : Xt} {W : (Exit → Act → World → Prop) → Act → World → Prop} (h : ∀ Q a w e, (∀ R', XtR R' x e) → Q e a w → W Q a w) (e : Exit) (he : ∀ R', XtR R' x e) : OK nt s x s W :=
  ⟨Nat.le_refl _, fun R w a base hn hd hs HH _ => h _ _ _ e he ⟨hn, R, .refl HH, hd, hs, he R⟩⟩
theorem Code_mono {c : Code} {Q Q' : Exit → Act → World → Prop} {a : Act} {w : World} (h : c.wp P Q a w) (hq : ∀ e a w, Q e a w → Q' e a w) : c.wp P Q' a w := wp_mono h fun e a w q => hq e a w q
theorem loopN_OK {c : Code} {nt : Nat} {body : S → Option (Xt × S)} (hb : ∀ s x s', body s = some (x, s') → OK nt s x s' (fun Q a w => c.wp P Q a w)) : ∀ (f : Nat) {s : S} {x : Xt} {s' : S}, loopN body f s = some (x, s') →
    s.nx ≤ s'.nx ∧ ∀ (R : Rel) (w : World) (a : Act) (base : Nat), nt ≤ a.tmps.size → DfR base R s.hp.get w s.df a.defers → SlR R s.sl (envOf a) → HR R s.hp.get w.heap → Fresh R s.nx → (Code.loop c).wp P (PostE nt base R s.hp.get s.nx w x s') a w := by
  intro f s x s' h
  have hle : ∀ (f : Nat) {s : S}, loopN body f s = some (x, s') → s.nx ≤ s'.nx := by
    intro f
    induction f with
    | zero => intro s h; cases h
    | succ f ih =>
      intro s h
      simp only [loopN] at h
      split at h
      · rename_i s1 h1
        exact Nat.le_trans (hb _ _ _ h1).1 (ih h)
      · rename_i r h1
        exact (hb _ _ _ h).1
  refine ⟨hle f h, fun R w a base hn hd hs HH hF => ?_⟩
  refine wp_loop_ghost (fun m a1 w1 => ∃ s1 R1, loopN body m s1 = some (x, s') ∧ nt ≤ a1.tmps.size ∧ DfR base R1 s1.hp.get w1 s1.df a1.defers ∧ SlR R1 s1.sl (envOf a1) ∧ After s.nx s1.nx R s.hp.get w R1 s1.hp.get w1 ∧ Fresh R1 s1.nx ∧ s.nx ≤ s1.nx) f
    ⟨s, R, h, hn, hd, hs, .refl HH, hF, Nat.le_refl _⟩ ?_
  rintro m a1 w1 ⟨s1, R1, h1, hn1, hd1, hs1, hA1, hF1, hle1⟩
  cases m with
  | zero => cases h1
  | succ m =>
    simp only [loopN] at h1
    split at h1
    · rename_i s2 h2
      have hk := hb _ _ _ h2
      refine wp_mono (hk.2 R1 w1 a1 base hn1 hd1 hs1 hA1.1 hF1) fun e a2 w2 ⟨hn2, R2, hA2, hd2, hs2, he⟩ => ?_
      have he : e = .normal := he
      subst he
      exact ⟨m, Nat.lt_succ_self m, s2, R2, h1, hn2, hd2, hs2, hA1.trans hA2 hle1 hk.1, hF1.go hA2.2.1 hk.1, Nat.le_trans hle1 hk.1⟩
    · rename_i r h2
      have hk := hb _ _ _ h1
      refine wp_mono (hk.2 R1 w1 a1 base hn1 hd1 hs1 hA1.1 hF1) fun e a2 w2 hp => ?_
      have hp2 := PostE.trans hA1 hle1 hk.1 hp
      cases e <;> first
        | exact hp2
        | (exfalso
           obtain ⟨_, _, _, _, _, he⟩ := hp
           cases x <;> first
             | exact h2 _ h1
             | (cases he; done)
             | (obtain ⟨_, he, _⟩ := he; cases he))
/-- A block of nobody's. -/
theorem HR.other {R : Rel} {h : Heap} {hp hp' : Array Obj} (H : HR R h hp) (hs : hp.size ≤ hp'.size) (hk : ∀ b, b < hp.size → Own h R b → hp'[b]? = hp[b]?) : HR R h hp' where
  blk := fun k B e hl => by
    obtain ⟨b, c, h1, h2⟩ := H.blk k B e hl
    exact ⟨b, c, h1, by rw [hk b (H.lt _ _ _ h1) ⟨k, c, ⟨B, e, hl⟩, h1⟩]; exact h2⟩
  dom := H.dom
  inj := H.inj
  fn := H.fn
  lt := fun k b c h => Nat.lt_of_lt_of_le (H.lt k b c h) hs
theorem rangeFunc_OK {call : CallE} {nt : Nat} (hC : CallOK P call) {g : Operand} {ps : Array Tmp} {assign body : Code} {s : S} {x : Xt} {s' : S}
    (h : (match rdE s.sl g with
      | some (.fn (.func h) first cap) => match call h (first ++ [.any] ++ cap) s.hp s.nx with
        | some (.ret _, H', n') => some (Xt.norm, ({ sl := s.sl, hp := H', nx := n', df := .mark :: s.df } : S))
        | _ => none
      | _ => none) = some (x, s')) : OK nt s x s' (fun Q a w => (Code.rangeFunc g ps assign body).wp P Q a w) := by
  split at h
  · rename_i f first cap hg
    split at h
    · rename_i u H' n' hcall
      cases h
      obtain ⟨hB, hn', hR⟩ := hC _ _ _ _ _ _ _ hcall
      refine ⟨hn', fun R w a base hn hd hs HH hF => ?_⟩
      obtain ⟨a', c', he, h1, h2⟩ := RdR_of_SlR hs _ _ hg
      refine (wpIn_wide (n := 0)).1 (wpIn_rangeFunc fun fn _ => ?_)
      let lp : Loop := { state := .ready, pending := none, fn := fn, tmps := a.tmps, params := ps, assign := assign, body := body, defers := w.heap.size }
      let w1 : World := (w.alloc (.deferred (some []))).alloc (.loop lp)
      have hw1 : w1.heap = (w.heap.push (.deferred (some []))).push (.loop lp) := rfl
      have hsz : w1.heap.size = w.heap.size + 2 := by rw [hw1]; simp
      have hl1 : w1.heap[w.heap.size + 1]? = some (.loop lp) := by
        rw [hw1, show w.heap.size + 1 = (w.heap.push (.deferred (some []))).size by simp]
        simp only [Array.getElem?_push_size]
      have hr1 : w1.heap[w.heap.size]? = some (.deferred (some [])) := by
        rw [hw1, Array.getElem?_push_lt (by simp)]
        simp
      have hold : ∀ b, b < w.heap.size → w1.heap[b]? = w.heap[b]? := fun b hb => by
        rw [hw1, Array.getElem?_push_lt (by simp; omega), ← Array.getElem?_eq_getElem, Array.getElem?_push_lt hb]
        simp [hb]
      have HH1 : HR R s.hp.get w1.heap := HH.other (by omega) (fun b hb _ => hold b hb)
      have hA1 : After s.nx s.nx R s.hp.get w R s.hp.get w1 := ⟨HH1, ⟨by omega, fun _ _ _ h => h, fun _ _ _ h => .inl h, fun b hb _ => hold b hb, fun _ h => .inl h, fun _ B h => .inl ⟨B, h⟩, fun _ B h => ⟨B, h⟩⟩, ⟨rfl, rfl, rfl⟩⟩
      refine ⟨w.heap.size + 1, [{ target := .collected w.heap.size, args := #[] }], w1, { target := .fn (.func f) (List.toArray c'), args := List.toArray a' ++ #[.func (.yield (w.heap.size + 1)) #[] #[]] }, w1, f,
        (a' ++ [Value.func (.yield (w.heap.size + 1)) #[] #[]] ++ c').toArray, w1, ?_, ?_, fun _ _ => trivial, ?_, (fun h => by cases h), ?_⟩
      · show (Instr.enterLoop fn a.tmps ps assign body none).run P w = _
        simp [Instr.enterLoop, w1, lp]
      · rw [eval_env]
        simp only [resolve, rangeCall, he, Deferred.ofValue]
        simp [ev]
      · simp only [invoke]
        have : (List.toArray a' ++ #[Value.func (.yield (w.heap.size + 1)) #[] #[]] ++ List.toArray c') = (a' ++ [Value.func (.yield (w.heap.size + 1)) #[] #[]] ++ c').toArray := by simp
        rw [this]
        exact run_enter hB _ _
      · refine callsIn_wide.2 ((hR R w1 _ ((h1.append (VRs.one (R := R) (x := .any) trivial)).append h2) HH1 hF).mono ?_)
        rintro e w2 ⟨R', hA2, v', rfl, _⟩
        have hA := hA1.trans hA2 (Nat.le_refl _) hn'
        have hnown : ∀ b, w.heap.size ≤ b → b < w1.heap.size → ¬ Own s.hp.get R b := fun b hb _ ⟨k, c, _, hr⟩ => by
          have := HH.lt _ _ _ hr
          omega
        have hnown2 : ∀ b, w.heap.size ≤ b → b < w1.heap.size → ¬ Own H'.get R' b := fun b hb hb2 ho => by
          rcases hA2.2.1.own b ho with h5 | h5
          · exact hnown b hb hb2 h5
          · omega
        have hl2 : w2.heap[w.heap.size + 1]? = some (.loop lp) := by rw [hA2.2.1.keep _ (by omega) (hnown _ (by omega) (by omega))]; exact hl1
        have hr2 : w2.heap[w.heap.size]? = some (.deferred (some [])) := by rw [hA2.2.1.keep _ (by omega) (hnown _ (by omega) (by omega))]; exact hr1
        have hl3 : w.heap.size + 1 < w2.heap.size := (Array.getElem?_eq_some_iff.1 hl2).1
        let w3 : World := { w2 with heap := w2.heap.setIfInBounds (w.heap.size + 1) (.loop { lp with state := .exhausted }) }
        have hw3 : ∀ b, b ≠ w.heap.size + 1 → w3.heap[b]? = w2.heap[b]? := fun b hb => by
          show (w2.heap.setIfInBounds _ _)[b]? = _
          rw [Array.getElem?_setIfInBounds_ne (Ne.symm hb)]
        have HH3 : HR R' H'.get w3.heap := hA2.1.other (by show _ ≤ (w2.heap.setIfInBounds _ _).size; simp) (fun b hb ho => hw3 b (fun e => hnown2 b (by omega) (by omega) ho))
        have hA3 : After s.nx n' R s.hp.get w R' H'.get w3 :=
          ⟨HH3, ⟨Nat.le_trans hA.2.1.size (by show _ ≤ (w2.heap.setIfInBounds _ _).size; simp), hA.2.1.sub, hA.2.1.new, fun b hb hno => by rw [hw3 b (by omega)]; exact hA.2.1.keep b hb hno, hA.2.1.own, hA.2.1.dom, hA.2.1.stay⟩, ⟨hA.2.2.os, hA.2.2.tape, hA.2.2.output⟩⟩
        refine ⟨none, w3, ?_, ?_⟩
        · simp [Instr.endLoop, Instr.getLoop, getObj, setObj, Sem.run, hl2, lp, w3]
        · exact ⟨hn, R', hA3, ⟨_, _, w.heap.size, rfl, rfl, by rw [hw3 _ (by omega)]; exact hr2, hnown2 _ (Nat.le_refl _) (by omega), hd.base, hd.after hA3⟩, hs.mono hA.2.1.sub, rfl⟩
    · cases h
  · cases h
theorem evC_OK {call : CallE} {any : AnyE} {nt : Nat} (hC : CallOK P call) (hA : AnyOK P nt any) (f : Nat) : ∀ (c : Code) {s : S} {x : Xt} {s' : S}, evC P call any nt f c s = some (x, s') → OK nt s x s' (fun Q a w => c.wp P Q a w)
  | .skip, s, x, s', h => by
    simp only [evC] at h
    cases h
    exact OK.now (fun Q a w e he hq => wp_skip (by have := he (fun _ _ _ => False); subst this; exact hq)) .normal fun _ => rfl
  | .region id ops false, s, x, s', h => by
    simp only [evC] at h
    have := evL_OK hC h
    refine ⟨this.1, fun R w a base hn hd hs HH hF => ?_⟩
    have h2 := this.2 R w a base hn hd hs HH hF
    show (Code.region id ops false).wp P _ a w
    have := wp_region_lit (P := P) (id := id) (l := ops.toList) (a := a) (w := w) h2
    exact this
  | .region id ops true, s, x, s', h => by
    simp only [evC] at h
    exact hA id ops s x s' h
  | .seq c1 c2, s, x, s', h => by
    simp only [evC] at h
    split at h
    · rename_i s1 h1
      have k1 := evC_OK hC hA f c1 h1
      have k2 := evC_OK hC hA f c2 h
      refine ⟨Nat.le_trans k1.1 k2.1, fun R w a base hn hd hs HH hF => ?_⟩
      refine wp_seq (wp_mono (k1.2 R w a base hn hd hs HH hF) fun e a1 w1 ⟨hn1, R1, hA1, hd1, hs1, he⟩ => ?_)
      have he : e = .normal := he
      subst he
      exact wp_mono (k2.2 R1 w1 a1 base hn1 hd1 hs1 hA1.1 (hF.go hA1.2.1 k1.1)) fun e a2 w2 hp => PostE.trans hA1 k1.1 k2.1 hp
    · rename_i r h2
      have k1 := evC_OK hC hA f c1 h
      refine ⟨k1.1, fun R w a base hn hd hs HH hF => ?_⟩
      refine wp_seq (wp_mono (k1.2 R w a base hn hd hs HH hF) fun e a1 w1 hp => ?_)
      cases e <;> first
        | exact hp
        | (exfalso
           obtain ⟨_, _, _, _, _, he⟩ := hp
           cases x <;> first
             | exact h2 _ h
             | (cases he; done)
             | (obtain ⟨_, he, _⟩ := he; cases he))
  | .cond c x1 y1, s, x, s', h => by
    simp only [evC] at h
    split at h
    · rename_i hc
      have k1 := evC_OK hC hA f x1 h
      refine ⟨k1.1, fun R w a base hn hd hs HH hF => ?_⟩
      have hr : ev (envOf a) c = .bool true := RdR_of_SlR hs _ _ hc
      exact wp_cond (t := true) (by rw [eval_env]; exact hr) (k1.2 R w a base hn hd hs HH hF)
    · rename_i hc
      have k1 := evC_OK hC hA f y1 h
      refine ⟨k1.1, fun R w a base hn hd hs HH hF => ?_⟩
      have hr : ev (envOf a) c = .bool false := RdR_of_SlR hs _ _ hc
      exact wp_cond (t := false) (by rw [eval_env]; exact hr) (k1.2 R w a base hn hd hs HH hF)
    · cases h
  | .block id c1, s, x, s', h => by
    simp only [evC] at h
    split at h
    · rename_i i s1 h1
      have k1 := evC_OK hC hA f c1 h1
      split at h
      · rename_i hi
        have hi := Nat.eq_of_beq_eq_true hi
        subst hi
        cases h
        refine ⟨k1.1, fun R w a base hn hd hs HH hF => ?_⟩
        refine wp_block (wp_mono (k1.2 R w a base hn hd hs HH hF) fun e a1 w1 ⟨hn1, R1, hA1, hd1, hs1, he⟩ => ?_)
        have he : e = .exit i := he
        subst he
        simp only [Exit.inBlock, if_true]
        exact ⟨hn1, R1, hA1, hd1, hs1, rfl⟩
      · rename_i hi
        cases h
        have hne : ¬ i = id := fun e => by subst e; simp at hi
        refine ⟨k1.1, fun R w a base hn hd hs HH hF => ?_⟩
        refine wp_block (wp_mono (k1.2 R w a base hn hd hs HH hF) fun e a1 w1 ⟨hn1, R1, hA1, hd1, hs1, he⟩ => ?_)
        have he : e = .exit i := he
        subst he
        simp only [Exit.inBlock, if_neg hne]
        exact ⟨hn1, R1, hA1, hd1, hs1, rfl⟩
    · rename_i r h2
      have k1 := evC_OK hC hA f c1 h
      refine ⟨k1.1, fun R w a base hn hd hs HH hF => ?_⟩
      refine wp_block (wp_mono (k1.2 R w a base hn hd hs HH hF) fun e a1 w1 hp => ?_)
      cases e <;> first
        | exact hp
        | (exfalso
           obtain ⟨_, _, _, _, _, he⟩ := hp
           cases x <;> first
             | exact h2 _ _ h
             | (cases he; done)
             | (obtain ⟨_, he, _⟩ := he; cases he))
  | .loop c1, s, x, s', h => by
    simp only [evC] at h
    exact loopN_OK (fun s x s' h => evC_OK hC hA f c1 h) f h
  | .exit id, s, x, s', h => by
    simp only [evC] at h
    cases h
    exact OK.now (fun Q a w e he hq => wp_exit (by have := he (fun _ _ _ => False); subst this; exact hq)) (.exit id) fun _ => rfl
  | .label l, s, x, s', h => by
    simp only [evC] at h
    cases h
    exact OK.now (fun Q a w e he hq => wp_label (by have := he (fun _ _ _ => False); subst this; exact hq)) .normal fun _ => rfl
  | .ret, s, x, s', h => by
    simp only [evC] at h
    cases h
    exact OK.now (fun Q a w e he hq => wp_ret (by have := he (fun _ _ _ => False); subst this; exact hq)) .ret fun _ => rfl
  | .rangeFunc g ps assign body, s, x, s', h => by
    simp only [evC] at h
    exact rangeFunc_OK hC h
  | .scope c1, s, x, s', h => by
    simp only [evC] at h
    have k1 := evC_OK hC hA f c1 h
    refine ⟨k1.1, fun R w a base hn hd hs HH hF => wp_scope_straight (wp_mono (k1.2 R w a base hn hd hs HH hF) fun e a1 w1 hp => ?_)⟩
    cases e <;> first
      | exact hp
      | (exfalso
         obtain ⟨_, _, _, _, _, he⟩ := hp
         cases x <;> first
           | (cases he; done)
           | (obtain ⟨_, he, _⟩ := he; cases he))
  | .goto _, s, x, s', h => by cases h
  | .refuse _, s, x, s', h => by cases h
end
end Go.Proofs.YtafochlcnjeanaaGreat.E
