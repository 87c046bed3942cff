/- Functions that catch a panic. For whatever program. -/
import Derived.Test.YtjnineeeffecaaaX18
namespace Go.Proofs.Ytjnineeeffecaaa.X
open Go Go.RowKit

theorem equal_okX {P : Program} {op : BinOp} {t : TypeId} {va vb : Value} {r : Bool} {w : World} (h4 : ∀ k x, va ≠ .int k x) (h5 : ∀ k x, va ≠ .float k x) (h6 : ∀ k x y, va ≠ .complex k x y) (h7 : ∀ x, va ≠ .string x) (hop : op = .eql ∨ op = .neq)
    (h1 : (Op.equal t va vb).run P w = .ok r w) : (binOp op t va vb).run P w = .ok (.bool (match op with | .eql => r | _ => !r)) w := by
  have key : binOp .eql t va vb = (do pure (.bool (← Op.equal t va vb)) : Sem Value) ∧ binOp .neq t va vb = (do pure (.bool (!(← Op.equal t va vb))) : Sem Value) := by
    cases va <;> first
      | exact absurd rfl (h4 _ _)
      | exact absurd rfl (h5 _ _)
      | exact absurd rfl (h6 _ _ _)
      | exact absurd rfl (h7 _)
      | exact ⟨rfl, rfl⟩
  rcases hop with rfl | rfl
  · rw [key.1]; simp [h1]
  · rw [key.2]; simp [h1]
section
variable {P : Program} {n : Nat} {Q : Post} {ρ : Env} {ds : List Deferred} {A : World → Prop} {ops : Array Oper} {rest : List Oper} {o : Oper} {d q : Nat}
/-! ### Interfaces compared with nil, asserted -/
def ifaceB (P : Program) (t : TypeId) : Bool := match P.underlying t with
  | some (.interface _) => true
  | _ => false
theorem run_neNil {t : TypeId} {v : Value} {b : Bool} (ht : ifaceB P t = true) (hv : (v = .nilIface ∧ b = false) ∨ ∃ t0 u, v = .iface t0 u ∧ b = true) (x : Operand) (w : World) :
    (do eqGuard .neq t x (.const .nilIface) v .nilIface; binOp .neq t v .nilIface : Sem Value).run P w = .ok (.bool b) w := by
  unfold ifaceB at ht
  split at ht
  · rename_i ms hu
    rcases hv with ⟨rfl, rfl⟩ | ⟨t0, u, rfl, rfl⟩
    · have h1 : (Op.equal t .nilIface .nilIface).run P w = .ok true w := by
        unfold Op.equal Op.maxDepth Op.equalIn
        simp [run_underlying hu]
      have hg : (eqGuard .neq t x (.const .nilIface) .nilIface .nilIface).run P w = .ok () w := by
        unfold eqGuard
        simp
      have hb := equal_okX (P := P) (op := .neq) (t := t) (va := .nilIface) (vb := .nilIface) (r := true) (w := w) (by simp) (by simp) (by simp) (by simp) (.inr rfl) h1
      simp only [Sem.run_bind, hg, Result.andThen_ok, hb]
      rfl
    · have h1 : (Op.equal t (.iface t0 u) .nilIface).run P w = .ok false w := by
        unfold Op.equal Op.maxDepth Op.equalIn
        simp [run_underlying hu]
      have hg : (eqGuard .neq t x (.const .nilIface) (.iface t0 u) .nilIface).run P w = .ok () w := by
        unfold eqGuard
        simp
      have hb := equal_okX (P := P) (op := .neq) (t := t) (va := .iface t0 u) (vb := .nilIface) (r := false) (w := w) (by simp) (by simp) (by simp) (by simp) (.inr rfl) h1
      simp only [Sem.run_bind, hg, Result.andThen_ok, hb]
      rfl
  · cases ht
theorem XL.neNil {t t' : TypeId} {x : Operand} {v : Value} {b : Bool} (hop : o.op = .binOp .neq t x (.const .nilIface) t') (hd : o.dst = some d) (hn : Nat.blt d n = true) (hw : wantB ops ρ o = some true) (hx : evE ρ x = some v)
    (ht : ifaceB P t = true) (hv : (v = .nilIface ∧ b = false) ∨ ∃ t0 u, v = .iface t0 u ∧ b = true) (k : XL P n ops Q (q - 1) rest ((d, .bool b) :: ρ) ds A) : XL P n ops Q q (o :: rest) ρ ds A :=
  XL.run (d := some d) hd hn hw (fun σ w hσ _ => by
    unfold execOp
    rw [hop]
    simp only [hσ.val hx, show ev σ (.const .nilIface) = .nilIface from rfl]
    exact run_v (run_neNil ht hv x w)) k
theorem XL.assert {t xt : TypeId} {x : Operand} {v : Value} (hop : o.op = .typeAssert x xt t true) (hd : o.dst = some d) (hn : Nat.blt d n = true) (hw : wantB ops ρ o = some true) (hx : evE ρ x = some (.iface t v))
    (ht : concB P t = true) (k : XL P n ops Q (q - 1) rest ((d, .tuple #[v, .bool true]) :: ρ) ds A) : XL P n ops Q q (o :: rest) ρ ds A :=
  XL.run (d := some d) hd hn hw (fun σ w hσ _ => by
    unfold execOp
    rw [hop]
    simp only [hσ.val hx]
    refine run_v ?_
    unfold concB at ht
    cases hu : P.underlying t with
    | none => simp [hu] at ht
    | some d => cases d <;> first | (simp [hu] at ht; done) | simp [Instr.typeAssert, Sem.run_bind, run_underlying hu, Result.andThen_ok]) k
end
/-! ### Regions that draw their order in functions that catch -/
def PFd (d : Nat) (Q : Post) : Prop := ∀ c σ v ds w, Q (.panic c) (σ.put d v) ds w → Q (.panic c) σ ds w
theorem PFd.sq {d : Nat} {P : Program} {n : Nat} {y : Code} {Q : Post} (h : PFd d Q) : PFd d (Sq P n y Q) := h
theorem PFd.rd {d : Nat} {α : Type} {sl : α → Env} {I : α → World → Prop} {μ : α → Nat} {m : Nat} {ds : List Deferred} {Q : Post} (h : PFd d Q) : PFd d (Rd sl I μ m ds Q) := h
theorem PFd.block {d : Nat} {id : Nat} {Q : Post} (h : PFd d Q) : PFd d (inBlockX id Q) := h
section
variable {P : Program} {n : Nat} {Q : Post} {ρ : Env} {ds : List Deferred} {A : World → Prop} {l : List Oper} {ms : List Nat} {pend : Pend} {s : Plan} {i d : Nat} {o : Oper}
theorem XS.qK (p : World → Prop) (hA : ∀ w, A w → p w) (ho : nthO l i = some o) (hd : o.dst = some d) (hn : Nat.blt d n = true) (hQ : PFd d Q) (h : XL P n l.toArray (TkS P n l Q ms s ((i, p) :: pend) A) 1 [o] ρ ds p) : XS P n l Q ms (.q i s) pend ρ ds A := by
  intro σ w hσ hw hH listed h1 h2 h3 h4 h5 a e1 e2 e3
  subst e1
  simp only [Plan.chk, ho, Bool.and_eq_true] at h4
  obtain ⟨⟨⟨hf, hrd⟩, hne⟩, hk⟩ := h4
  have hi := (nthO_eq l i).trans ho
  have hri : i ∈ Region.ready .any l.toArray listed := by simpa using hrd
  obtain ⟨v, hy, hK⟩ := yieldsIf_of_quiet hne (h a hσ e2 e3)
  have hK2 := hK w (hA w hw)
  change wpList P l.toArray (QA n (TkS P n l Q ms s ((i, p) :: pend) A)) [] (a.put o.dst v) w at hK2
  unfold wpList at hK2
  obtain ⟨h6, h7⟩ := hK2
  have hdn : d < n := by
    have h9 := hn
    rw [Nat.blt_eq] at h9
    exact h9
  exact wpAnyP_first h2 hi (Region.noSelect_spec h1) (fun c a' w' ⟨h6, h7⟩ => by
    rw [size_put] at h6
    rw [defers_put, hd, env_put (by omega)] at h7
    exact ⟨h6, hQ c _ _ _ _ h7⟩) s.size listed pend a w h3 (Region.free_spec hi hf) hri hy (hA w hw) hH
    (h7 hw ⟨hA w hw, hH⟩ _ h1 h2 (h3.set hri) hk h5 _ rfl h6 rfl)
theorem XS.qTK (ho : nthO l i = some o) (hd : o.dst = some d) (hn : Nat.blt d n = true) (hQ : PFd d Q) (h : XL P n l.toArray (TkS P n l Q ms s pend A) 1 [o] ρ ds fun _ => True) : XS P n l Q ms (.q i s) pend ρ ds A := by
  intro σ w hσ hw hH listed h1 h2 h3 h4 h5 a e1 e2 e3
  subst e1
  simp only [Plan.chk, ho, Bool.and_eq_true] at h4
  obtain ⟨⟨⟨hf, hrd⟩, hne⟩, hk⟩ := h4
  have hi := (nthO_eq l i).trans ho
  have hri : i ∈ Region.ready .any l.toArray listed := by simpa using hrd
  obtain ⟨v, hy, hK⟩ := yieldsIf_of_quiet hne (h a hσ e2 e3)
  have hK2 := hK w trivial
  change wpList P l.toArray (QA n (TkS P n l Q ms s pend A)) [] (a.put o.dst v) w at hK2
  unfold wpList at hK2
  obtain ⟨h6, h7⟩ := hK2
  have hdn : d < n := by
    have h9 := hn
    rw [Nat.blt_eq] at h9
    exact h9
  exact wpAnyP_first h2 hi (Region.noSelect_spec h1) (fun c a' w' ⟨h6, h7⟩ => by
    rw [size_put] at h6
    rw [defers_put, hd, env_put (by omega)] at h7
    exact ⟨h6, hQ c _ _ _ _ h7⟩) s.size listed pend a w h3 (Region.free_spec hi hf) hri hy trivial hH
    (wpAnyP_less (fun x hx => by
      rcases List.mem_cons.1 hx with rfl | hx
      · exact .inr fun _ => trivial
      · exact .inl hx) (h7 hw hH _ h1 h2 (h3.set hri) hk h5 _ rfl h6 rfl))
theorem XS.pureK {v : Value} (ho : nthO l i = some o) (hd : o.dst = some d) (hn : Nat.blt d n = true) (hQ : PFd d Q) (hw : wantB l.toArray ρ o = some true) (hv : pureOp ρ o.op = some v)
    (k : XS P n l Q ms s pend ((d, v) :: ρ) ds A) : XS P n l Q ms (.q i s) pend ρ ds A :=
  XS.qTK ho hd hn hQ (XL.run (d := some d) hd hn hw (fun σ w hσ _ => pureOp_run hσ hv w) (XL.nil (XQ.tkS k)))
theorem XS.faK {st f off b : Nat} {x : Operand} (ho : nthO l i = some o) (hd : o.dst = some d) (hn : Nat.blt d n = true) (hQ : PFd d Q) (hop : o.op = .fieldAddr st x f) (hw : wantB l.toArray ρ o = some true) (hx : evE ρ x = some (.pointer (some ⟨b, 0, none⟩)))
    (hf : fieldOff P st f = some off) (k : XS P n l Q ms s pend ((d, .pointer (some ⟨b, off, none⟩)) :: ρ) ds A) : XS P n l Q ms (.q i s) pend ρ ds A :=
  XS.qTK ho hd hn hQ (XL.fa0 hop hd hn hw hx hf (XL.nil (XQ.tkS k)))
theorem XS.ldK {c : Cx} {L L' : List SP} {Φ : List FP} {t b k T : Nat} {cs : Array Value} {x : Operand} {v : Value} (ho : nthO l i = some o) (hd : o.dst = some d) (hn : Nat.blt d n = true) (hQ : PFd d Q) (hop : o.op = .load t x) (hw : wantB l.toArray ρ o = some true)
    (hx : evE ρ x = some (.pointer (some ⟨b, k, none⟩))) (ht : aggB P t = some false) (sl : Sel L (cel b cs T) L') (hv : nth cs.toList k = some v)
    (h : XS P n l Q ms s ((i, fun w => w.cell? ⟨b, k, none⟩ = some v) :: pend) ((d, v) :: ρ) ds (St c L Φ)) : XS P n l Q ms (.q i s) pend ρ ds (St c L Φ) :=
  XS.qK (fun w => w.cell? ⟨b, k, none⟩ = some v) (fun _ h => h.cell sl (by rw [nth_eq] at hv; simpa using hv)) ho hd hn hQ (XL.ldv hop hd hn hw hx ht (fun _ h => h) (XL.nil (XQ.tkS h)))
end
/-! ### How a function that catches is left -/
section
variable {P : Program} {n : Nat} {ρ : Env} {ds : List Deferred} {Φ : List FP} {L L' : List SP} {f : FuncId} {fn : Func} {cd : Code} {args : List Value} {R : Ending → List SP → List FP → Prop} {c : Cx} {K : List Nat}
def bodyP (K : List Nat) (P : Program) (fn : Func) (R : Ending → World → Prop) : Post
  | .normal, σ, ds, w | .ret, σ, ds, w => ∀ tmps : Array Value, (fun t => tmps.getD t undef) = σ → Leaves P fn tmps R ds .returning w
  | .panic ch, σ, ds, w => ∀ tmps : Array Value, (∀ t ∈ K, tmps.getD t undef = σ t) → Leaves P fn tmps R ds (.panicking ch) w
  | _, _, _, _ => False
theorem PFd.bodyP {d : Nat} {R : Ending → World → Prop} (h : d ∉ K) : PFd d (bodyP K P fn R) := fun c σ v ds w hq tmps ht => hq tmps fun t htK => by
  have hne : t ≠ d := fun e => h (by rw [← e]; exact htK)
  rw [Slots.put_ne _ _ hne]
  exact ht t htK
theorem Tri.ofP (hf : P.funcs[f]? = some fn) (hb : fn.body = some cd)
    (h : ∀ c : Cx, XC P fn.ntmps cd (bodyP K P fn (Shows R c)) (envArgs 0 args) [] (St c L Φ)) : Tri P f args L Φ R := fun c hc => by
  refine calls_of_wp_defers hf hb ?_
  refine wp_mono (h c _ c.w0 (by simpa using agree_args args.toArray fn.ntmps) hc _ rfl (by simp; try omega) rfl) fun e a' w' ⟨hn', hq⟩ => ?_
  cases e <;> first
    | exact (hq : False).elim
    | exact hq a'.tmps rfl
    | exact hq a'.tmps (fun _ _ => rfl)
/-- A deferred call of a function that catches the panic. -/
def TriR (P : Program) (f : FuncId) (args : List Value) (pv : Value) (L : List SP) (Φ : List FP) (L1 : List SP) (Φ1 : List FP) : Prop :=
  ∀ (c : Cx), St c L Φ c.w0 → CallsD P f args.toArray (.panicking (pn pv)) c.w0 fun e u' w' => u' = .panicking [{ v := pv, recovered := true }] ∧ (∃ v, e = .returned v) ∧ St c L1 Φ1 w'
theorem XQ.leaveR {pv : Value} {Lc F L1 : List SP} {Φc Φ1 : List FP} {g : FuncId} {cap dargs : Array Value} {gargs : List Value} (hT : TriR P g gargs pv Lc Φc L1 Φ1) (s : Sels L Lc F) (hΦ : ∀ φ ∈ Φc, φ ∈ Φ)
    (hi : ∀ w, (invoke (.fn (.func g) cap) dargs).run P w = .ok (.enter g gargs.toArray) w) {K' : Ending → World → Prop}
    (k : ∀ (tmps : Array Value) w', (∀ t ∈ K, ∀ v, find ρ t = some v → tmps.getD t undef = v) → St c (L1 ++ F) (Φ1 ++ Φ) w' → Leaves P fn tmps K' ds .returning w') :
    XQ (bodyP K P fn K') (.panic (pn pv)) ρ ({ target := .fn (.func g) cap, args := dargs } :: ds) (St c L Φ) := fun σ w hσ hA tmps ht => by
  obtain ⟨c1, rfl, h1, h2⟩ := hA.framed s hΦ
  refine leaves_cons (by intro h; cases h) (hi _) ((hT c1 h1).mono ?_)
  rintro e u' w' ⟨rfl, ⟨v, rfl⟩, h3⟩
  exact k tmps w' (fun t htK v hf => by rw [ht t htK]; exact hσ t v hf) (h2 _ _ _ h3)
theorem XQ.leaveRet {Lc F L1 : List SP} {Φc : List FP} {g : FuncId} {cap dargs : Array Value} {gargs : List Value} (hT : ∀ c : Cx, St c Lc Φc c.w0 → CallsD P g gargs.toArray .returning c.w0 fun e u' w' => u' = .returning ∧ (∃ v, e = .returned v) ∧ St c L1 [] w') (s : Sels L Lc F) (hΦ : ∀ φ ∈ Φc, φ ∈ Φ)
    (hi : ∀ w, (invoke (.fn (.func g) cap) dargs).run P w = .ok (.enter g gargs.toArray) w) {K' : Ending → World → Prop}
    (k : ∀ (tmps : Array Value) w', (∀ t v, find ρ t = some v → tmps.getD t undef = v) → St c (L1 ++ F) Φ w' → Leaves P fn tmps K' ds .returning w') :
    XQ (bodyP K P fn K') .ret ρ ({ target := .fn (.func g) cap, args := dargs } :: ds) (St c L Φ) := fun σ w hσ hA tmps ht => by
  obtain ⟨c1, rfl, h1, h2⟩ := hA.framed s hΦ
  refine leaves_cons (by intro h; cases h) (hi _) ((hT c1 h1).mono ?_)
  rintro e u' w' ⟨rfl, ⟨v, rfl⟩, h3⟩
  exact k tmps w' (fun t v hf => by rw [congrFun ht t]; exact hσ t v hf) (by simpa using h2 _ _ _ h3)
theorem XQ.retPl {K' : Ending → World → Prop} {A : World → Prop} (k : ∀ (tmps : Array Value) w', (∀ t v, find ρ t = some v → tmps.getD t undef = v) → A w' → Leaves P fn tmps K' [] .returning w') : XQ (bodyP K P fn K') .ret ρ [] A := fun σ w hσ hA tmps ht =>
  k tmps w (fun t v hf => by rw [congrFun ht t]; exact hσ t v hf) hA
/-- The end: a struct and two scalars, in variables. -/
theorem leaves3 {w : World} {tmps : Array Value} {L1 L2 L3 Lr F : List SP} {Φr : List FP} {t1 t2 t3 T1 T2 T3 U1 U2 U3 b1 b2 b3 sz : Nat} {vs : List Value} {x y : Value} (h : fn.results = #[.cell t1 T1, .cell t2 T2, .cell t3 T3])
    (e1 : tmps.getD t1 undef = .pointer (some ⟨b1, 0, none⟩)) (e2 : tmps.getD t2 undef = .pointer (some ⟨b2, 0, none⟩)) (e3 : tmps.getD t3 undef = .pointer (some ⟨b3, 0, none⟩))
    (h1 : aggB P T1 = some true) (hs : sizeB P T1 = some sz) (h2 : aggB P T2 = some false) (h3 : aggB P T3 = some false) (hA : St c L Φ w)
    (s1 : Sel L (cel b1 vs.toArray U1) L1) (s2 : Sel L (cel b2 #[x] U2) L2) (s3 : Sel L (cel b3 #[y] U3) L3) (hl : vs.length = sz) (hR : R (.returned (.tuple #[.agg vs.toArray, x, y])) Lr Φr) (s : Sels L Lr F) (hΦ : ∀ φ ∈ Φr, φ ∈ Φ) :
    Leaves P fn tmps (Shows R c) [] .returning w := by
  refine ⟨.tuple #[.agg vs.toArray, x, y], ?_, Lr, Φr, hR, hA.less s hΦ⟩
  obtain ⟨inf, hi, hsz⟩ := sizeB_spec hs
  have c1 := run_loadCells_list (P := P) (w := w) ⟨b1, 0, none⟩ vs (fun j v hj => by rw [Addr.add_lit]; exact hA.cell s1 (by simpa using hj))
  have c2 := hA.cell (i := 0) s2 rfl
  have c3 := hA.cell (i := 0) s3 rfl
  simp only [results, h]
  simp [-Array.getD_eq_getD_getElem?, e1, e2, e3, asAddr, loadVar, run_isAgg h1, run_isAgg h2, run_isAgg h3, sizeOf, typeInfo, hi, hsz, ← hl, c1, load, Sem.run, c2, c3]
end
/-! ### The deferred function that catches -/
section
variable {P : Program} {f : FuncId} {fn : Func} {args : List Value} {L L1 : List SP} {Φ Φ1 : List FP}
def isRec : Op → Bool
  | .call cl => match cl.callee with
    | .builtin .recover => true
    | _ => false
  | _ => false
theorem isRec_run {o : Oper} (h : isRec o.op = true) (ρ : Operand → Value) (w : World) : (execOp ρ o).run P w = .ok .recover w := by
  obtain ⟨dst, op, ty, pos, aft, gd⟩ := o
  simp only at h
  unfold isRec at h
  split at h
  · rename_i cl
    split at h
    · rename_i hc
      simp [execOp, resolve, hc, invoke, builtin]
    · cases h
  · cases h
theorem catchD {id d1 d2 : Nat} {o1 o2 : Oper} {rest : Code} {u u' : FrameMode} {v : Value} {w : World} {p : World → Prop} (hf : P.funcs[f]? = some fn) (hb : fn.body = some (.seq (.region id #[o1, o2] false) rest)) (hr : fn.results = #[])
    (h1 : isRec o1.op = true) (g1 : o1.guard = none) (e1 : o1.dst = some d1) (h2 : o2.op = .assign (.tmp d1)) (g2 : o2.guard = none) (e2 : o2.dst = some d2) (hn1 : Nat.blt d1 fn.ntmps = true) (hn2 : Nat.blt d2 fn.ntmps = true)
    (hrec : ∀ (c₀ : Frame) (cs : List Frame), c₀.mode = u → (recoverD (c₀ :: cs) = some (v, { c₀ with mode := u' } :: cs)) ∨ (recoverD (c₀ :: cs) = none ∧ v = .nilIface ∧ u' = u))
    (h : XC1 P fn.ntmps rest (EndR p) (((envOf { tmps := args.toArray ++ Array.replicate (fn.ntmps - args.toArray.size) undef, defers := [] }).put d1 v).put d2 v) [] w) :
    CallsD P f args.toArray u w fun e u2 w' => u2 = u' ∧ (∃ v, e = .returned v) ∧ p w' := by
  refine callsD_of_wpS hf hb fun c₀ cs hu => wpS_seq (wpS_region ?_)
  generalize ha : ({ tmps := args.toArray ++ Array.replicate (fn.ntmps - args.toArray.size) undef, defers := [] } : Act) = a at h ⊢
  have hsz : fn.ntmps ≤ a.tmps.size := by rw [← ha]; simp; omega
  have hds : a.defers = [] := by rw [← ha]
  have hd1 : d1 < fn.ntmps := by
    have h9 := hn1
    rw [Nat.blt_eq] at h9
    exact h9
  have hd2 : d2 < fn.ntmps := by
    have h9 := hn2
    rw [Nat.blt_eq] at h9
    exact h9
  have hcs : ({ c₀ with mode := u } : Frame) = c₀ := by subst hu; rfl
  have hlast : ∀ cs', cs' = { c₀ with mode := u' } :: cs → wpOpsS P #[o1, o2] (Exit.thenS (rest.wpS P (bodyPostS P fn c₀ cs fun e u2 w' => u2 = u' ∧ (∃ v, e = .returned v) ∧ p w')) (bodyPostS P fn c₀ cs fun e u2 w' => u2 = u' ∧ (∃ v, e = .returned v) ∧ p w')) [1] (a.put (some d1) v) cs' w := by
    rintro _ rfl
    unfold wpOpsS
    have hw2 : Region.wanted o2 (yielded #[o1, o2] (a.put (some d1) v).tmps) = true := by simp [Region.wanted, g2]
    have hrun : (execOp (a.put (some d1) v).eval o2).run P w = .ok (.value v) w := by
      unfold execOp
      rw [h2]
      have : (a.put (some d1) v).eval (.tmp d1) = v := by
        rw [eval_env, env_put (by omega)]
        exact Slots.put_same _ _ _
      simp [this]
    simp only [List.getElem?_toArray, List.getElem?_cons_succ, List.getElem?_cons_zero, hw2, if_true, hrun]
    show rest.wpS P _ ((a.put (some d1) v).put o2.dst v) _ w
    rw [e2]
    have hx := h ((a.put (some d1) v).put (some d2) v) (by rw [env_put (by simp [Act.put]; omega), env_put (by omega)]) (by rw [size_put, size_put]; exact hsz) (by rw [defers_put, defers_put, hds])
    refine wpS_of_wp (wp_mono hx ?_)
    rintro e a' w' ⟨hn', hq⟩
    cases e with
    | normal => exact ⟨hq.1, u', rfl, .tuple #[], results_none hr a'.tmps P w', rfl, ⟨_, rfl⟩, hq.2⟩
    | _ => exact (hq : False).elim
  show wpOpsS P #[o1, o2] _ [0, 1] a (c₀ :: cs) w
  unfold wpOpsS
  have hw1 : Region.wanted o1 (yielded #[o1, o2] a.tmps) = true := by simp [Region.wanted, g1]
  simp only [List.getElem?_toArray, List.getElem?_cons_zero, hw1, if_true, isRec_run h1, e1]
  rcases hrec c₀ cs hu with h3 | ⟨h3, rfl, rfl⟩
  · simp only [h3]
    exact hlast _ rfl
  · simp only [h3]
    exact hlast _ (by rw [hcs])
theorem TriR.of {id d1 d2 : Nat} {o1 o2 : Oper} {rest : Code} {pv : Value} (hf : P.funcs[f]? = some fn) (hb : fn.body = some (.seq (.region id #[o1, o2] false) rest)) (hr : fn.results = #[])
    (h1 : isRec o1.op = true) (g1 : o1.guard = none) (e1 : o1.dst = some d1) (h2 : o2.op = .assign (.tmp d1)) (g2 : o2.guard = none) (e2 : o2.dst = some d2) (hn1 : Nat.blt d1 fn.ntmps = true) (hn2 : Nat.blt d2 fn.ntmps = true)
    (h : ∀ c : Cx, XC P fn.ntmps rest (EndR (St c L1 Φ1)) ((d2, pv) :: (d1, pv) :: envArgs 0 args) [] (St c L Φ)) : TriR P f args pv L Φ L1 Φ1 := fun c hc =>
  catchD hf hb hr h1 g1 e1 h2 g2 e2 hn1 hn2 (v := pv) (fun c₀ cs hu => .inl (by simp [recoverD, hu])) (h c _ _ (((agree_args args.toArray fn.ntmps).put d1 pv).put d2 pv) hc)
theorem TriR.none {id d1 d2 : Nat} {o1 o2 : Oper} {rest : Code} (hf : P.funcs[f]? = some fn) (hb : fn.body = some (.seq (.region id #[o1, o2] false) rest)) (hr : fn.results = #[])
    (h1 : isRec o1.op = true) (g1 : o1.guard = none) (e1 : o1.dst = some d1) (h2 : o2.op = .assign (.tmp d1)) (g2 : o2.guard = none) (e2 : o2.dst = some d2) (hn1 : Nat.blt d1 fn.ntmps = true) (hn2 : Nat.blt d2 fn.ntmps = true)
    (h : ∀ c : Cx, XC P fn.ntmps rest (EndR (St c L1 Φ1)) ((d2, .nilIface) :: (d1, .nilIface) :: envArgs 0 args) [] (St c L Φ)) (c : Cx) (hc : St c L Φ c.w0) :
    CallsD P f args.toArray .returning c.w0 fun e u' w' => u' = .returning ∧ (∃ v, e = .returned v) ∧ St c L1 Φ1 w' :=
  catchD hf hb hr h1 g1 e1 h2 g2 e2 hn1 hn2 (v := .nilIface) (u' := .returning) (fun c₀ cs hu => .inr ⟨by simp [recoverD, hu], rfl, rfl⟩) (h c _ _ (((agree_args args.toArray fn.ntmps).put d1 .nilIface).put d2 .nilIface) hc)
end
end Go.Proofs.Ytjnineeeffecaaa.X
