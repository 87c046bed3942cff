/- Calls that may panic, and functions that have deferred calls. For whatever program. -/
import Derived.Test.YtjnineeeffecaaaX14
import Derived.Test.YtjnineeeffecaaaX15
import Derived.Recover
namespace Go.Proofs.Ytjnineeeffecaaa.X
open Go Go.RowKit

/-! ### A call's frame, apart from how it is called -/
section
variable {c : Cx} {L L' : List SP} {Φ Φ' : List FP} {w : World}
theorem St.framed {Lc F : List SP} {Φc : List FP} (s : Sels L Lc F) (hΦ : ∀ φ ∈ Φc, φ ∈ Φ) (h : St c L Φ w) :
    ∃ c1 : Cx, c1.w0 = w ∧ St c1 Lc Φc w ∧ ∀ L1 Φ1 w', St c1 L1 Φ1 w' → St c (L1 ++ F) (Φ1 ++ Φ) w' := by
  obtain ⟨O, hL, hf, hE, hO⟩ := h.ex
  obtain ⟨Oc, Of, hc, hF, hd, hU⟩ := s.holds hL
  have hZ : ∀ b, (Of b ∨ c.Z b) → b < w.heap.size ∧ ¬ Oc b := by
    rintro b (hb | hb)
    · exact ⟨hF.lt hb, fun h => hd b h hb⟩
    · exact ⟨Nat.lt_of_lt_of_le (c.hZ b hb).1 hE.size, fun h => c.apart (hO b ((hU b).2 (.inl h))) hb⟩
  let c1 : Cx := { w0 := w, O0 := Oc, Z := fun b => Of b ∨ c.Z b, hZ := hZ }
  have h1 : St c1 Lc Φc w := St.begin (c := c1) hc (fun φ hφ => φ.mono (hf φ (hΦ φ hφ)) (Nat.le_refl _) (fun _ _ _ => rfl) (by
    rintro b _ (hb | hb | hb)
    · exact .inl ((hU b).2 (.inl hb))
    · exact .inl ((hU b).2 (.inr hb))
    · exact .inr hb))
  refine ⟨c1, rfl, h1, ?_⟩
  intro L1 Φ1 w' hS
  obtain ⟨O1, h1, hf1, hE1, hn⟩ := hS.ex
  have hF' : Holds F Of w' := hF.loc (fun b hb => hE1.keep b (hF.lt hb) (fun hcb => hd b hcb hb))
  refine ⟨fun b => O1 b ∨ Of b, Holds.append h1 hF' ?_, ?_, ?_, ?_⟩
  · intro b hb hfb
    rcases hn b hb with h2 | h2
    · exact hd b h2 hfb
    · have h3 := hF.lt hfb
      have : w.heap.size ≤ b := h2
      omega
  · intro φ hφ
    rcases List.mem_append.1 hφ with h2 | h2
    · refine φ.mono (hf1 φ h2) (Nat.le_refl _) (fun _ _ _ => rfl) ?_
      rintro b _ ((h3 | h3) | h3)
      · exact .inl h3
      · exact .inr (.inl h3)
      · exact .inr (.inr h3)
    · refine φ.mono (hf φ h2) hE1.size (fun b hb hnb => hE1.keep b hb (fun h => hnb (.inl ((hU b).2 (.inl h))))) ?_
      rintro b hb ((h3 | h3) | h3)
      · rcases hn b h3 with h4 | h4
        · exact .inl ((hU b).2 (.inl h4))
        · have : w.heap.size ≤ b := h4
          omega
      · exact .inl ((hU b).2 (.inr h3))
      · exact .inr h3
  · exact hE.trans hE1 (fun b hb h2 => (hO b ((hU b).2 (.inl h2))).elim id (fun h3 => by omega))
  · rintro b (h2 | h2)
    · rcases hn b h2 with h3 | h3
      · exact hO b ((hU b).2 (.inl h3))
      · exact .inr (Nat.le_trans hE.size h3)
    · exact hO b ((hU b).2 (.inr h2))
end

theorem XL.pureW {P : Program} {n : Nat} {Q : Post} {ρ : Env} {ds : List Deferred} {ops : Array Oper} {l : List Oper} {p : Prop} {B : World → Prop} (k : p → XL P n ops Q 0 l ρ ds B) : XL P n ops Q 0 l ρ ds (fun w => p ∧ B w) :=
  fun a h1 h2 h3 w hA => (k hA.1).zero h1 h2 h3 hA.2
theorem XS.ex {P : Program} {n : Nat} {Q : Post} {ρ : Env} {ds : List Deferred} {A : World → Prop} {l : List Oper} {ms : List Nat} {s : Plan} {pend : Pend} {α : Type} {B : α → World → Prop} (h : ∀ w, A w → ∃ x, B x w) (k : ∀ x, XS P n l Q ms s pend ρ ds (B x)) : XS P n l Q ms s pend ρ ds A :=
  fun σ w hσ hA hH => let ⟨x, hx⟩ := h w hA; k x σ w hσ hx hH
theorem XQ.ex {Q : Post} {e : Exit} {ρ : Env} {ds : List Deferred} {A : World → Prop} {α : Type} {B : α → World → Prop} (h : ∀ w, A w → ∃ x, B x w) (k : ∀ x, XQ Q e ρ ds (B x)) : XQ Q e ρ ds A :=
  fun σ w hσ hA => let ⟨x, hx⟩ := h w hA; k x σ w hσ hx
theorem XQ.pureW {Q : Post} {e : Exit} {ρ : Env} {ds : List Deferred} {p : Prop} {B : World → Prop} (k : p → XQ Q e ρ ds B) : XQ Q e ρ ds (fun w => p ∧ B w) := fun σ w hσ hA => k hA.1 σ w hσ hA.2
/-! ### Calls that may panic -/
@[reducible] def pn (v : Value) : List PanicEntry := [{ v := v, recovered := false }]
/-- .. that returns v x, for some x, with L1 x and Φ1 x; or panics with pv y, for some y, and L2 y. -/
def RetP {α β : Type} (v : α → Value) (L1 : α → List SP) (Φ1 : α → List FP) (p : α → Prop) (pv : β → Value) (L2 : β → List SP) (q : β → Prop) (e : Ending) (L : List SP) (Φ : List FP) : Prop :=
  (∃ x, p x ∧ e = .returned (v x) ∧ L = L1 x ∧ Φ = Φ1 x) ∨ ∃ y, q y ∧ e = .panicked (pn (pv y)) ∧ L = L2 y ∧ Φ = []
section
variable {P : Program} {n : Nat} {Q : Post} {ρ : Env} {ds : List Deferred} {ops : Array Oper} {rest : List Oper} {o : Oper} {d q : Nat} {Φ : List FP}
theorem XL.trip {α β : Type} {c : Cx} {L Lc F : List SP} {Φc : List FP} {v : α → Value} {L1 : α → List SP} {Φ1 : α → List FP} {p : α → Prop} {pv : β → Value} {L2 : β → List SP} {q' : β → Prop} {cl : Call} {f : FuncId} {args : List Value}
    (hT : Tri P f args Lc Φc (RetP v L1 Φ1 p pv L2 q'))
    (hop : o.op = .call cl) (hd : o.dst = some d) (hn : Nat.blt d n = true) (hw : wantB ops ρ o = some true) (hf : cl.callee = .value (.func f)) (ha : evs ρ cl.args.toList = some args) (he : entersB P f = true)
    (s : Sels L Lc F) (hΦ : ∀ φ ∈ Φc, φ ∈ Φ) (k : ∀ x, p x → XL P n ops Q 0 rest ((d, v x) :: ρ) ds (St c (L1 x ++ F) (Φ1 x ++ Φ)))
    (kp : ∀ y, q' y → XQ Q (.panic (pn (pv y))) ρ ds (St c (L2 y ++ F) Φ)) : XL P n ops Q 0 (o :: rest) ρ ds (St c L Φ) :=
  XL.tri hT hop hd hn hw hf ha he s hΦ (fun _ _ h => by rcases h with ⟨_, _, h, _⟩ | ⟨_, _, h, _⟩ <;> cases h) (by
    rintro _ _ _ (⟨x, hx, hv, rfl, rfl⟩ | ⟨_, _, h, _⟩)
    · cases hv
      exact k x hx
    · cases h) (by
    rintro _ _ _ (⟨_, _, h, _⟩ | ⟨y, hy, hv, rfl, rfl⟩)
    · cases h
    · cases hv
      exact kp y hy)
/-- A call that panics. -/
theorem XL.trig {c : Cx} {L Lc F : List SP} {Φc : List FP} {pv : Value} {cl : Call} {f : FuncId} {args : List Value} (hT : Tri P f args Lc Φc fun e L Φ => e = .panicked (pn pv) ∧ L = Lc ∧ Φ = [])
    (hop : o.op = .call cl) (hd : o.dst = some d) (hn : Nat.blt d n = true) (hw : wantB ops ρ o = some true) (hf : cl.callee = .value (.func f)) (ha : evs ρ cl.args.toList = some args) (he : entersB P f = true)
    (s : Sels L Lc F) (hΦ : ∀ φ ∈ Φc, φ ∈ Φ) (kp : XQ Q (.panic (pn pv)) ρ ds (St c (Lc ++ F) Φ)) : XL P n ops Q 0 (o :: rest) ρ ds (St c L Φ) :=
  XL.tri hT hop hd hn hw hf ha he s hΦ (fun _ _ h => by cases h.1) (by
    rintro _ _ _ ⟨h, _⟩
    cases h) (by
    rintro _ _ _ ⟨h, rfl, rfl⟩
    cases h
    exact kp)
/-- The end of a function that panics. -/
theorem XQ.pan {fn : Func} {R : Ending → List SP → List FP → Prop} {c : Cx} {L : List SP} {ch : List PanicEntry} (hR : R (.panicked ch) L Φ) : XQ (bodyX P fn (Shows R c)) (.panic ch) ρ [] (St c L Φ) :=
  fun σ w hσ hA => ⟨rfl, L, Φ, hR, hA⟩
end

/-- A deferred call of a function value is laid down. -/
theorem XL.deferF {P : Program} {n : Nat} {Q : Post} {ρ : Env} {ds : List Deferred} {A : World → Prop} {ops : Array Oper} {rest : List Oper} {o : Oper} {cl : Call} {x : Operand} {f : FuncId} {fs cap args : List Value}
    (hop : o.op = .defer cl) (hd : o.dst = none) (hw : wantB ops ρ o = some true) (hf : cl.callee = .value x) (hx : evE ρ x = some (.func (.func f) fs.toArray cap.toArray)) (ha : evs ρ cl.args.toList = some args)
    (k : XL P n ops Q 0 rest ρ ({ target := .fn (.func f) cap.toArray, args := (fs ++ args).toArray } :: ds) A) : XL P n ops Q 0 (o :: rest) ρ ds A :=
  XL.defer hd hw (fun σ w hσ _ => by
    unfold execOp
    rw [hop]
    have h1 : cl.args.map (ev σ) = args.toArray := Array.toList_inj.1 (by simpa using hσ.vals ha)
    have h2 : fs.toArray ++ args.toArray = (fs ++ args).toArray := by simp
    simp only [resolve, hf, hσ.val hx, Deferred.ofValue, h1, Sem.run_bind, Sem.run_pure, Result.andThen_ok, h2]) k
theorem run_invoke {P : Program} {g : FuncId} {cap dargs : List Value} (he : entersB P g = true) (w : World) : (invoke (.fn (.func g) cap.toArray) dargs.toArray).run P w = .ok (.enter g (dargs ++ cap).toArray) w := by
  have h2 : dargs.toArray ++ cap.toArray = (dargs ++ cap).toArray := by simp
  simp only [invoke, h2]
  exact run_enter he _ w
/-- The end of a part of a function. -/
def EndR (p : World → Prop) : Post
  | .normal, _, ds, w => ds = [] ∧ p w
  | _, _, _, _ => False
theorem XQ.endR {ρ : Env} {A p : World → Prop} (h : ∀ w, A w → p w) : XQ (EndR p) .normal ρ [] A := fun _ w _ hA => ⟨rfl, h w hA⟩
/-- .. that does not panic. -/
def Np (Q : Post) : Post
  | .panic _, _, _, _ => False
  | e, σ, ds, w => Q e σ ds w
theorem PF.np {Q : Post} : PF (Np Q) := fun _ _ _ _ _ h => h
theorem XC.np {P : Program} {n : Nat} {c : Code} {Q : Post} {ρ : Env} {ds : List Deferred} {A : World → Prop} (h : XC P n c (Np Q) ρ ds A) : XC P n c Q ρ ds A := h.mono fun e σ ds w hq => by
  cases e <;> first | exact hq | exact (hq : False).elim
theorem XQ.np {Q : Post} {ρ : Env} {ds : List Deferred} {A : World → Prop} (h : XQ Q .normal ρ ds A) : XQ (Np Q) .normal ρ ds A := h
theorem PF.endR {p : World → Prop} : PF (EndR p) := fun _ _ _ _ _ h => h
/-! ### Deferred calls -/
/-- A deferred call of a function that does not ask for the panic. -/
def TriD (P : Program) (f : FuncId) (args : List Value) (L : List SP) (Φ : List FP) (R : Ending → List SP → List FP → Prop) : Prop :=
  ∀ (c : Cx) (u : FrameMode), St c L Φ c.w0 → CallsD P f args.toArray u c.w0 fun e u' w' => u' = u ∧ ∃ L' Φ', R e L' Φ' ∧ St c L' Φ' w'
section
variable {P : Program} {n : Nat} {Q : Post} {ρ : Env} {ds : List Deferred} {Φ : List FP} {L : List SP} {f : FuncId} {fn : Func} {cd : Code} {args : List Value} {R : Ending → List SP → List FP → Prop}
theorem wp_of_X {R : Ending → World → Prop} {args : Array Value} {w : World} (h : XC P fn.ntmps cd (bodyX P fn R) (envArgs 0 args.toList) [] (· = w)) :
    cd.wp P (bodyPost P fn R) { tmps := args ++ Array.replicate (fn.ntmps - args.size) undef, defers := [] } w := by
  refine wp_mono (h _ w (agree_args args fn.ntmps) rfl _ rfl (by simp; try omega) rfl) fun e a' w' ⟨hn', hq⟩ => ?_
  cases e <;> first
    | exact hq
    | exact (hq : False).elim
    | (obtain ⟨hd, v, hr, hR⟩ := hq; exact ⟨hd, v, hr a'.tmps rfl, hR⟩)
theorem TriD.of (hf : P.funcs[f]? = some fn) (hb : fn.body = some cd)
    (h : ∀ c : Cx, XC P fn.ntmps cd (bodyX P fn (Shows R c)) (envArgs 0 args) [] (St c L Φ)) : TriD P f args L Φ R := fun c u hc =>
  callsD_of_wp hf hb (wp_of_X (R := Shows R c) fun σ w hσ hw => by subst hw; exact h c σ _ (by simpa using hσ) hc)
/-- How a function that has deferred calls is left. -/
def bodyD (P : Program) (fn : Func) (R : Ending → World → Prop) : Post
  | .normal, σ, ds, w | .ret, σ, ds, w => ∀ tmps : Array Value, (fun t => tmps.getD t undef) = σ → Leaves P fn tmps R ds .returning w
  | .panic ch, _, ds, w => ∀ tmps : Array Value, Leaves P fn tmps R ds (.panicking ch) w
  | _, _, _, _ => False
theorem PF.bodyD {R : Ending → World → Prop} : PF (bodyD P fn R) := fun _ _ _ _ _ h => h
theorem Tri.ofD (hf : P.funcs[f]? = some fn) (hb : fn.body = some cd)
    (h : ∀ c : Cx, XC P fn.ntmps cd (bodyD P fn (Shows R c)) (envArgs 0 args) [] (St c L Φ)) : Tri P f args L Φ R := fun c hc => by
  refine calls_of_wp_defers hf hb ?_
  refine wp_mono (h c _ c.w0 (by simpa using agree_args args.toArray fn.ntmps) hc _ rfl (by simp; try omega) rfl) fun e a' w' ⟨hn', hq⟩ => ?_
  cases e <;> first
    | exact (hq : False).elim
    | exact hq a'.tmps rfl
    | exact hq a'.tmps
section
variable {c : Cx} {Lc F L1 : List SP} {Φc : List FP} {g : FuncId} {cap dargs : Array Value} {gargs : List Value}
theorem St.leaves {tmps : Array Value} {K : Ending → World → Prop} {u : FrameMode} {w : World} (hT : TriD P g gargs Lc Φc fun e L Φ => (∃ v, e = .returned v) ∧ L = L1 ∧ Φ = []) (s : Sels L Lc F) (hΦ : ∀ φ ∈ Φc, φ ∈ Φ)
    (hu : u ≠ .run) (hi : ∀ w, (invoke (.fn (.func g) cap) dargs).run P w = .ok (.enter g gargs.toArray) w) (hw : St c L Φ w) (k : ∀ w', St c (L1 ++ F) Φ w' → Leaves P fn tmps K ds (settle u) w') :
    Leaves P fn tmps K ({ target := .fn (.func g) cap, args := dargs } :: ds) u w := by
  obtain ⟨c1, rfl, h1, h2⟩ := hw.framed s hΦ
  refine leaves_cons hu (hi _) ((hT c1 u h1).mono ?_)
  rintro e u' w' ⟨rfl, L2, Φ2, ⟨⟨v, rfl⟩, rfl, rfl⟩, h3⟩
  exact k w' (by simpa using h2 _ _ _ h3)
/-- A deferred call is made: on a return. -/
theorem XQ.leave (hT : TriD P g gargs Lc Φc fun e L Φ => (∃ v, e = .returned v) ∧ L = L1 ∧ Φ = []) (s : Sels L Lc F) (hΦ : ∀ φ ∈ Φc, φ ∈ Φ) (hi : ∀ w, (invoke (.fn (.func g) cap) dargs).run P w = .ok (.enter g gargs.toArray) w) {K : Ending → World → Prop}
    (k : XQ (bodyD P fn K) .ret ρ ds (St c (L1 ++ F) Φ)) : XQ (bodyD P fn K) .ret ρ ({ target := .fn (.func g) cap, args := dargs } :: ds) (St c L Φ) := fun σ w hσ hA tmps ht =>
  St.leaves hT s hΦ (by intro h; cases h) hi hA fun w' h' => k σ w' hσ h' tmps ht
theorem XQ.leaveN (hT : TriD P g gargs Lc Φc fun e L Φ => (∃ v, e = .returned v) ∧ L = L1 ∧ Φ = []) (s : Sels L Lc F) (hΦ : ∀ φ ∈ Φc, φ ∈ Φ) (hi : ∀ w, (invoke (.fn (.func g) cap) dargs).run P w = .ok (.enter g gargs.toArray) w) {K : Ending → World → Prop}
    (k : XQ (bodyD P fn K) .ret ρ ds (St c (L1 ++ F) Φ)) : XQ (bodyD P fn K) .normal ρ ({ target := .fn (.func g) cap, args := dargs } :: ds) (St c L Φ) := fun σ w hσ hA tmps ht =>
  St.leaves hT s hΦ (by intro h; cases h) hi hA fun w' h' => k σ w' hσ h' tmps ht
/-- .. on a panic. -/
theorem XQ.leaveP {pv : Value} (hT : TriD P g gargs Lc Φc fun e L Φ => (∃ v, e = .returned v) ∧ L = L1 ∧ Φ = []) (s : Sels L Lc F) (hΦ : ∀ φ ∈ Φc, φ ∈ Φ) (hi : ∀ w, (invoke (.fn (.func g) cap) dargs).run P w = .ok (.enter g gargs.toArray) w) {K : Ending → World → Prop}
    (k : XQ (bodyD P fn K) (.panic (pn pv)) ρ ds (St c (L1 ++ F) Φ)) : XQ (bodyD P fn K) (.panic (pn pv)) ρ ({ target := .fn (.func g) cap, args := dargs } :: ds) (St c L Φ) := fun σ w hσ hA tmps =>
  St.leaves hT s hΦ (by intro h; cases h) hi hA fun w' h' => k σ w' hσ h' tmps
/-- Nothing is deferred any more. -/
theorem XQ.retD1 {t : Nat} {v : Value} (h : fn.results = #[.tmp t]) (hv : find ρ t = some v) (hR : R (.returned v) L Φ) : XQ (bodyD P fn (Shows R c)) .ret ρ [] (St c L Φ) := fun σ w hσ hA tmps ht =>
  ⟨v, by rw [results_tmp h, show tmps.getD t undef = σ t from congrFun ht t, hσ t v hv], L, Φ, hR, hA⟩
theorem XQ.retD0 (h : fn.results = #[]) (hR : R (.returned (.tuple #[])) L Φ) : XQ (bodyD P fn (Shows R c)) .ret ρ [] (St c L Φ) := fun σ w _ hA tmps _ =>
  ⟨.tuple #[], results_none h tmps P w, L, Φ, hR, hA⟩
theorem XQ.retDC {L' L1 F : List SP} {Φ' : List FP} {t T U b sz : Nat} {vs : List Value} (h : fn.results = #[.cell t T]) (hv : find ρ t = some (.pointer (some ⟨b, 0, none⟩)))
    (ht : aggB P T = some true) (hs : sizeB P T = some sz) (s1 : Sel L (cel b vs.toArray U) L1) (hl : vs.length = sz) (hR : R (.returned (.agg vs.toArray)) L' Φ') (s : Sels L L' F) (hΦ : ∀ φ ∈ Φ', φ ∈ Φ) : XQ (bodyD P fn (Shows R c)) .ret ρ [] (St c L Φ) := fun σ w hσ hA tmps hh =>
  ⟨_, by
    have e1 : tmps.getD t undef = σ t := congrFun hh t
    rw [hσ t _ hv] at e1
    obtain ⟨inf, hi, hsz⟩ := sizeB_spec hs
    have := run_loadCells_list (P := P) (w := w) ⟨b, 0, none⟩ vs (fun j v hj => by rw [Addr.add_lit]; exact hA.cell s1 (by simpa using hj))
    simp only [results, h]
    simp [-Array.getD_eq_getD_getElem?, e1, asAddr, loadVar, run_isAgg ht, sizeOf, typeInfo, hi, hsz, ← hl, this], L', Φ', hR, hA.less s hΦ⟩
theorem XQ.panD {pv : Value} (hR : R (.panicked (pn pv)) L Φ) : XQ (bodyD P fn (Shows R c)) (.panic (pn pv)) ρ [] (St c L Φ) := fun σ w _ hA tmps => ⟨L, Φ, hR, hA⟩
end
end
end Go.Proofs.Ytjnineeeffecaaa.X
