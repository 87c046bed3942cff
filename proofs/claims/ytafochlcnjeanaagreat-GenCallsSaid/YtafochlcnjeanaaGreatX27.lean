/- Runs by numbers: code, calls. For whatever program. -/
import Derived.Test.YtafochlcnjeanaaGreatX26
import Derived.Defers
namespace Go.Proofs.YtafochlcnjeanaaGreat.E
open Go Go.RowKit X

inductive Res where
  | ret (v : EV)
  | pan (v : EV)
inductive Xt where
  | norm
  | exit (id : Nat)
  | ret
  | pan (v : EV)
/-- A deferred call: its function and all that it is given; or a mark of a range over a function. -/
inductive DE where
  | call (f : FuncId) (args : List EV)
  | mark
structure S where
  sl : T EV
  hp : T Blk
  nx : Nat
  df : List DE
abbrev CallE := FuncId → List EV → T Blk → Nat → Option (Res × T Blk × Nat)
def ResR (R : Rel) : Res → Ending → Prop
  | .ret v, e => ∃ v', e = .returned v' ∧ VR R v v'
  | .pan v, e => ∃ v', e = .panicked [{ v := v', recovered := false }] ∧ VR R v v'
/-- What a callee's numbers must mean. -/
def CallOK (P : Program) (call : CallE) : Prop := ∀ g args H n r H' n', call g args H n = some (r, H', n') → entersB P g = true ∧ n ≤ n' ∧
  ∀ R w vargs, VRs R args vargs → HR R H.get w.heap → Fresh R n → Calls P g vargs.toArray w fun e w' => ∃ R', After n n' R H.get w R' H'.get w' ∧ ResR R' r e
theorem After.trans {lo mid hi : Nat} {R R1 R2 : Rel} {h h1 h2 : Heap} {w w1 w2 : World} (a : After lo mid R h w R1 h1 w1) (b : After mid hi R1 h1 w1 R2 h2 w2) (hm : lo ≤ mid) (hh : mid ≤ hi) : After lo hi R h w R2 h2 w2 :=
  ⟨b.1, a.2.1.trans b.2.1 hm hh, a.2.2.trans b.2.2⟩
theorem After.wide {lo lo' hi hi' : Nat} {R R1 : Rel} {h h1 : Heap} {w w1 : World} (a : After lo hi R h w R1 h1 w1) (hl : lo' ≤ lo) (hh : hi ≤ hi') : After lo' hi' R h w R1 h1 w1 := ⟨a.1, a.2.1.wide hl hh, a.2.2⟩

/-- What is deferred; base: where the function's own blocks begin. -/
def DfR (base : Nat) (R : Rel) (H : Heap) (w : World) : List DE → List Deferred → Prop
  | [], ds => ds = [] ∧ base ≤ w.heap.size
  | .call f args :: l, ds => ∃ d ds', ds = d :: ds' ∧ (∃ cap full, d.target = .fn (.func f) cap ∧ d.args ++ cap = List.toArray full ∧ VRs R args full) ∧ DfR base R H w l ds'
  | .mark :: l, ds => ∃ d ds' r, ds = d :: ds' ∧ d.target = .collected r ∧ w.heap[r]? = some (.deferred (some [])) ∧ ¬ Own H R r ∧ base ≤ r ∧ DfR base R H w l ds'
theorem DfR.base {base : Nat} {R : Rel} {H : Heap} {w : World} : ∀ {l : List DE} {ds : List Deferred}, DfR base R H w l ds → base ≤ w.heap.size
  | [], _, h => h.2
  | .call _ _ :: _, _, ⟨_, _, _, _, h⟩ => DfR.base h
  | .mark :: _, _, ⟨_, _, _, _, _, _, _, _, h⟩ => DfR.base h
theorem DfR.after {base lo hi : Nat} {R R' : Rel} {H H' : Heap} {w w' : World} (a : After lo hi R H w R' H' w') : ∀ {l : List DE} {ds : List Deferred}, DfR base R H w l ds → DfR base R' H' w' l ds
  | [], _, ⟨h, h2⟩ => ⟨h, Nat.le_trans h2 a.2.1.size⟩
  | .call f args :: l, _, ⟨d, ds', e, ⟨cap, full, h1, h2, h3⟩, h4⟩ => ⟨d, ds', e, ⟨cap, full, h1, h2, h3.mono a.2.1.sub⟩, DfR.after a h4⟩
  | .mark :: l, _, ⟨d, ds', r, e, h1, h2, h3, hb, h4⟩ => by
    have hlt : r < w.heap.size := (Array.getElem?_eq_some_iff.1 h2).1
    refine ⟨d, ds', r, e, h1, by rw [a.2.1.keep r hlt h3]; exact h2, fun ho => ?_, hb, DfR.after a h4⟩
    rcases a.2.1.own r ho with h5 | h5
    · exact h3 h5
    · omega

/-! ### Slots -/
def undefE : EV := .flat undef
def SlR (R : Rel) (sl : T EV) (σ : Slots) : Prop := ∀ t v, sl.get t = some v → VR R v (σ t)
theorem SlR.mono {R R' : Rel} {sl : T EV} {σ : Slots} (h : SlR R sl σ) (hs : Rel.le R R') : SlR R' sl σ := fun t v e => (h t v e).mono hs
def putT (sl : T EV) : Option Nat → EV → T EV
  | some d, v => sl.put d v
  | none, _ => sl
theorem SlR.put {R : Rel} {sl : T EV} {σ : Slots} (h : SlR R sl σ) (d : Option Nat) {v : EV} {v' : Value} (hv : VR R v v') : SlR R (putT sl d v) (σ.putO d v') := by
  cases d with
  | none => exact h
  | some d =>
    intro t u hu
    simp only [putT] at hu
    rw [T.get_put] at hu
    by_cases e : t = d
    · subst e
      rw [if_pos rfl] at hu
      cases hu
      simp only [Slots.putO, Slots.put_same]
      exact hv
    · rw [if_neg e] at hu
      simp only [Slots.putO, Slots.put_ne _ _ e]
      exact h t u hu
theorem RdR_of_SlR {R : Rel} {sl : T EV} {σ : Slots} (h : SlR R sl σ) : RdR R (rdE sl) (ev σ) := fun x v e => by
  cases x with
  | tmp t => exact h t v e
  | const u => exact ofConst_VR e
  | func f =>
    simp only [rdE] at e
    cases e
    exact ⟨[], [], rfl, rfl, rfl⟩
  | global g => cases e
/-- Is an operation carried out? -/
def wantE (rd : Rd) (ops : Array Oper) (o : Oper) : Option Bool := match o.guard with
  | none => some true
  | some (j, b) => match (ops[j]?).bind (·.dst) with
    | none => none
    | some d => match rd (.tmp d) with
      | some (.bool b') => match b, b' with
        | true, true => some true
        | false, false => some true
        | true, false => some false
        | false, true => some false
      | some (.flat (.tuple _)) => some false
      | _ => none
theorem wantE_spec {R : Rel} {rd : Rd} {ops : Array Oper} {o : Oper} {b : Bool} {a : Act} (hr : RdR R rd (ev (envOf a))) (hw : wantE rd ops o = some b) : Region.wanted o (yielded ops a.tmps) = b := by
  unfold wantE at hw
  unfold Region.wanted
  split at hw
  · rename_i hg; simp only [hg]; simpa using hw
  · rename_i j b1 hg
    simp only [hg]
    split at hw
    · cases hw
    · rename_i d hd
      unfold yielded
      simp only [hd, Option.bind_some]
      have hv : ∀ x, rd (.tmp d) = some x → ∃ v, VR R x v ∧ (a.tmps[d]? = some v ∨ (a.tmps[d]? = none ∧ v = undef)) := fun x hx => by
        have h1 : VR R x (a.tmps.getD d undef) := hr _ _ hx
        refine ⟨_, h1, ?_⟩
        simp only [Array.getD_eq_getD_getElem?]
        cases a.tmps[d]? with
        | none => exact .inr ⟨rfl, rfl⟩
        | some u => exact .inl rfl
      split at hw
      · rename_i b2 hf
        obtain ⟨v, h1, h2⟩ := hv _ hf
        have h1 : v = .bool b2 := h1
        subst h1
        rcases h2 with h2 | ⟨_, h2⟩
        · rw [h2]
          cases b1 <;> cases b2 <;> simp at hw <;> subst hw <;> rfl
        · cases h2
      · rename_i vs hf
        cases hw
        obtain ⟨v, h1, h2⟩ := hv _ hf
        have h1 : v = .tuple vs := h1
        subst h1
        rcases h2 with h2 | ⟨h2, _⟩
        · rw [h2]; rfl
        · rw [h2]; rfl
      · cases hw

/-! ### Operations that may enter functions -/
inductive Vo where
  | val (v : Option EV)
  | pan (v : EV)
/-! ### Functions of the model's own -/
def isExt (P : Program) (g : FuncId) (name : String) : Bool := match P.funcs[g]? with
  | some fn => match fn.body with
    | none => fn.name == name && fn.origin == ""
    | some _ => false
  | none => false
def idxE (c : Nat) : List Nat → Nat → Option Nat
  | [], _ => none
  | a :: l, i => match Nat.beq (a % 256) (c % 256) with
    | true => some i
    | false => idxE c l (i + 1)
def extE (P : Program) (g : FuncId) : List EV → Option EV
  | [.str l, .int .u8 (.ofNat c)] => match isExt P g "internal/bytealg.IndexByteString" with
    | true => match idxE c l 0 with
      | some i => some (.int .i64 (.ofNat i))
      | none => some (.int .i64 (-1))
    | false => none
  | _ => none
theorem ext_run {P : Program} {g : FuncId} {name : String} {e : Array Value → Sem Value} (h : isExt P g name = true) (h1 : ∀ fn : Func, fn.name = name → fn.origin = "" → Extern.findNext fn = none) (h2 : ∀ fn : Func, fn.name = name → Extern.find fn = some e) (hne : ¬ name = "runtime.NumGoroutine") (args : Array Value) (w : World) :
    (callFunc g args).run P w = (do pure (Next.value (← e args)) : Sem Next).run P w := by
  unfold isExt at h
  split at h
  · rename_i fn hf
    split at h
    · rename_i hb
      simp only [Bool.and_eq_true, beq_iff_eq] at h
      obtain ⟨hn, ho⟩ := h
      have hne2 : ¬ fn.name = "runtime.NumGoroutine" := by rw [hn]; exact hne
      simp [callFunc, hf, hne2, hb, h1 fn hn ho, h2 fn hn]
    · cases h
  · cases h
theorem find_congr {α : Type} {p q : α → Bool} : ∀ {l : List α}, (∀ x ∈ l, p x = q x) → l.find? p = l.find? q
  | [], _ => rfl
  | x :: l, h => by
    simp only [List.find?_cons, h x List.mem_cons_self]
    rw [find_congr fun y hy => h y (List.mem_cons_of_mem _ hy)]
theorem idx_find {c : Nat} : ∀ {l : List Nat} {i : Nat}, (List.range' i l.length).find? (fun k => match l[k - i]? with | some a => Nat.beq (a % 256) (c % 256) | none => false) = idxE c l i
  | [], i => rfl
  | a :: l, i => by
    simp only [idxE, List.length_cons, List.range'_succ, List.find?_cons, Nat.sub_self, List.getElem?_cons_zero]
    cases h : Nat.beq (a % 256) (c % 256) with
    | true => rfl
    | false =>
      simp only
      rw [← idx_find (l := l) (i := i + 1)]
      refine find_congr fun k hk => ?_
      have := (List.mem_range'_1.1 hk).1
      rw [show k - i = (k - (i + 1)) + 1 by omega, List.getElem?_cons_succ]
theorem extE_run {P : Program} {R : Rel} {g : FuncId} {args : List EV} {v : EV} {va : List Value} (h : extE P g args = some v) (ha : VRs R args va) (w : World) : ∃ v', (callFunc g va.toArray).run P w = .ok (.value v') w ∧ VR R v v' := by
  unfold extE at h
  split at h
  · rename_i l c
    obtain ⟨u, us, rfl, hu, u2, us2, rfl, hu2, he⟩ := ha
    have he : us2 = [] := he
    have hu : u = .string (bs l) := hu
    have hu2 : u2 = .int .u8 (c : Int) := hu2
    subst he hu hu2
    split at h
    · rename_i hx
      rw [ext_run hx (e := Extern.BytealgIndexByte.indexByte) (fun fn h1 h2 => by unfold Extern.findNext; rw [h1, h2]; rfl) (fun fn h1 => by unfold Extern.find; rw [h1]; rfl) (by decide)]
      have key : ((List.range (bs l).size).find? fun i => (bs l)[i]! == UInt8.ofNat c) = idxE c l 0 := by
        rw [← idx_find, bs_size, List.range_eq_range']
        refine find_congr fun k hk => ?_
        have hlt : k < l.length := by simpa using hk
        rw [Nat.sub_zero, List.getElem?_eq_getElem hlt]
        have hlt' : k < (bs l).size := by rw [bs_size]; exact hlt
        have h3 : (bs l)[k]! = UInt8.ofNat l[k] := by
          rw [getElem!_pos (bs l) k hlt']
          show (l.map UInt8.ofNat).toArray[k]'(by simpa using hlt) = _
          simp
        rw [h3, Bool.eq_iff_iff]
        simp only [beq_iff_eq, Nat.beq_eq]
        constructor
        · intro h
          have := congrArg UInt8.toNat h
          simpa using this
        · intro h
          apply UInt8.toNat_inj.1
          simpa using h
      have h4 : Sem.run P (do pure (Next.value (← Extern.BytealgIndexByte.indexByte #[.string (bs l), .int .u8 (c : Int)]))) w = .ok (.value (.int .i64 (match idxE c l 0 with | some i => (i : Int) | none => -1))) w := by
        have : (Extern.BytealgIndexByte.indexByte #[.string (bs l), .int .u8 (c : Int)]).run P w = .ok (.int .i64 (match idxE c l 0 with | some i => (i : Int) | none => -1)) w := by
          have e : Extern.BytealgIndexByte.indexByte #[.string (bs l), .int .u8 (c : Int)] = (do
              let b ← Extern.Bytes.bytesOf (.string (bs l))
              let c ← Extern.Bytes.asByte (.int .u8 (c : Int))
              match (List.range b.size).find? fun i => b[i]! == c with
              | some i => pure (goInt i)
              | none => pure (goInt (-1))) := rfl
          rw [e]
          simp only [Extern.Bytes.bytesOf, Extern.Bytes.asByte, Sem.run_bind, Sem.run_pure, Result.andThen_ok]
          have hc : UInt8.ofNat ((c : Int).toNat) = UInt8.ofNat c := by simp
          simp only [hc, key]
          cases idxE c l 0 <;> simp [goInt]
        exact run_v this
      split at h
      · rename_i i hi
        cases h
        rw [hi] at h4
        exact ⟨_, h4, VR.intI⟩
      · rename_i hi
        cases h
        rw [hi] at h4
        exact ⟨_, h4, VR.intI⟩
    · cases h
  · cases h

def isCall : Op → Bool
  | .call cl => match cl.callee with
    | .value _ => true
    | _ => false
  | .panic _ => true
  | _ => false
def callsE (P : Program) (rd : Rd) (call : CallE) (H : T Blk) (nx : Nat) : Op → Option (Vo × T Blk × Nat)
  | .call cl => match cl.callee with
    | .value f => match rd f, rds rd cl.args.toList with
      | some (.fn (.func g) first cap), some args => match extE P g (first ++ args ++ cap) with
        | some v => some (.val (some v), H, nx)
        | none => match call g (first ++ args ++ cap) H nx with
          | some (.ret v, H', n') => some (.val (some v), H', n')
          | some (.pan v, H', n') => some (.pan v, H', n')
          | none => none
      | _, _ => none
    | _ => none
  | .panic x => match rd x with
    | some (.iface t v) => some (.pan (.iface t v), H, nx)
    | _ => none
  | _ => none
/-- How an operation ends. -/
def VoR (P : Program) (o : Oper) (a : Act) (w : World) (lo hi : Nat) (R : Rel) (H : Heap) (H' : Heap) (v : Vo) (K : Act → World → Prop) (Q : Exit → Act → World → Prop) : Prop := match v with
  | .val v => (∀ R' w' v', After lo hi R H w R' H' w' → VR R' (match v with | some v => v | none => undefE) v' → K (a.put o.dst v') w') → o.wp P a w K Q
  | .pan v => (∀ R' w' v', After lo hi R H w R' H' w' → VR R' v v' → Q (.panic [{ v := v', recovered := false }]) a w') → o.wp P a w K Q
section
variable {P : Program} {R : Rel}
theorem callsE_run {call : CallE} (hC : CallOK P call) {rd : Rd} {o : Oper} {a : Act} {H H' : T Blk} {nx n' : Nat} {v : Vo} {w : World} {K : Act → World → Prop} {Q : Exit → Act → World → Prop} (h : callsE P rd call H nx o.op = some (v, H', n'))
    (hr : RdR R rd (ev (envOf a))) (HH : HR R H.get w.heap) (hF : Fresh R nx) : nx ≤ n' ∧ VoR P o a w nx n' R H.get H'.get v K Q := by
  unfold callsE at h
  split at h
  · rename_i cl hop
    split at h
    · rename_i f hc
      split at h
      · rename_i g first cap args hf ha
        obtain ⟨a', c', he, h1, h2⟩ := hr _ _ hf
        have h3 := rds_R hr ha
        have hcf : ∀ w, (execOp a.eval o).run P w = (callFunc g (a' ++ cl.args.toList.map (ev (envOf a)) ++ c').toArray).run P w := fun w => by
          rw [eval_env]
          unfold execOp
          rw [hop]
          have h4 : cl.args.map (ev (envOf a)) = (cl.args.toList.map (ev (envOf a))).toArray := by apply Array.toList_inj.1; simp
          simp only [resolve, hc, he, Deferred.ofValue, Sem.run_bind, Sem.run_pure, Result.andThen_ok, invoke, h4]
          have h5 : ((List.toArray a') ++ (cl.args.toList.map (ev (envOf a))).toArray ++ List.toArray c') = (a' ++ cl.args.toList.map (ev (envOf a)) ++ c').toArray := by simp
          rw [h5]
        have hent : ∀ w, entersB P g = true → (execOp a.eval o).run P w = .ok (.enter g (a' ++ cl.args.toList.map (ev (envOf a)) ++ c').toArray) w := fun w hB => by
          rw [hcf]
          exact run_enter hB _ w
        split at h
        · rename_i u hext
          cases h
          refine ⟨Nat.le_refl _, fun hK => ?_⟩
          obtain ⟨v', h5, h6⟩ := extE_run hext ((h1.append h3).append h2) w
          unfold Oper.wp
          rw [hcf, h5]
          exact hK R w v' ⟨HH, Go_.refl _ _ _ _ _, .refl _⟩ h6
        split at h
        · rename_i u H2 n2 hcall
          cases h
          obtain ⟨hB, hn, hR⟩ := hC _ _ _ _ _ _ _ hcall
          refine ⟨hn, fun hK => ?_⟩
          unfold Oper.wp
          rw [hent w hB]
          simp only [Oper.upon]
          refine (hR R w _ ((h1.append h3).append h2) HH hF).mono ?_
          rintro e w' ⟨R', hA, u', rfl, hu⟩
          exact hK R' w' u' hA hu
        · rename_i u H2 n2 hcall
          cases h
          obtain ⟨hB, hn, hR⟩ := hC _ _ _ _ _ _ _ hcall
          refine ⟨hn, fun hK => ?_⟩
          unfold Oper.wp
          rw [hent w hB]
          simp only [Oper.upon]
          refine (hR R w _ ((h1.append h3).append h2) HH hF).mono ?_
          rintro e w' ⟨R', hA, u', rfl, hu⟩
          exact hK R' w' u' hA hu
        · cases h
      · cases h
    · cases h
  · rename_i x hop
    split at h
    · rename_i t u hx
      cases h
      refine ⟨Nat.le_refl _, fun hK => ?_⟩
      obtain ⟨u', he, hu⟩ := hr _ _ hx
      unfold Oper.wp
      rw [eval_env]
      unfold execOp
      rw [hop]
      simp only [he]
      have : (do pure (Next.value (← Instr.panic (.iface t u'))) : Sem Next).run P w = .halt (.panic (.iface t u')) w := by simp [Instr.panic, goPanic, Sem.run]
      rw [this]
      exact hK R w _ ⟨HH, Go_.refl _ _ _ _ _, .refl _⟩ ⟨u', rfl, hu⟩
    · cases h
  · cases h
/-- Any operation, in turn. -/
def opE (P : Program) (rd : Rd) (call : CallE) (H : T Blk) (nx : Nat) (op : Op) : Option (Vo × T Blk × Nat) := match op with
  | .store _ _ _ => match turnE P rd nx H op with
    | some (v, H') => some (.val v, H', nx)
    | none => none
  | .mapUpdate _ _ _ _ | .insert _ _ _ _ | .next _ _ => match turnE P rd nx H op with
    | some (v, H') => some (.val v, H', nx + 1)
    | none => none
  | .alloc _ | .box _ _ | .buildSlice _ _ _ | .makeSlice _ _ _ | .makeMap _ _ | .range _ _ => match newE P rd nx op with
    | some (v, B) => some (.val (some v), H.put nx B, nx + 1)
    | none => none
  | .convert _ _ _ => match newE P rd nx op with
    | some (v, B) => some (.val (some v), H.put nx B, nx + 1)
    | none => match readE P rd H op with
      | some v => some (.val (some v), H, nx)
      | none => none
  | .panic _ => callsE P rd call H nx op
  | .call cl => match cl.callee with
    | .value _ => callsE P rd call H nx op
    | .builtin .append => match turnE P rd nx H op with
      | some (v, H') => some (.val v, H', nx + 1)
      | none => none
    | .builtin .copy => match turnE P rd nx H op with
      | some (v, H') => some (.val v, H', nx + 1)
      | none => none
    | _ => match readE P rd H op with
      | some v => some (.val (some v), H, nx)
      | none => none
  | _ => match readE P rd H op with
    | some v => some (.val (some v), H, nx)
    | none => none
theorem After.refl {lo hi : Nat} {H : Heap} {w : World} (HH : HR R H w.heap) : After lo hi R H w R H w := ⟨HH, Go_.refl _ _ _ _ _, .refl _⟩
theorem read_Vo {rd : Rd} {o : Oper} {a : Act} {H : T Blk} {nx : Nat} {v : EV} {w : World} {K : Act → World → Prop} {Q : Exit → Act → World → Prop} (h : readE P rd H o.op = some v) (hr : RdR R rd (ev (envOf a))) (HH : HR R H.get w.heap) :
    VoR P o a w nx nx R H.get H.get (.val (some v)) K Q := fun hK => by
  obtain ⟨v', h1, h2⟩ := readE_run h hr HH
  unfold Oper.wp
  rw [eval_env, h1]
  exact hK R w v' (.refl HH) h2
theorem turn_Vo {rd : Rd} {o : Oper} {a : Act} {H H' : T Blk} {id : Nat} {v : Option EV} {w : World} {K : Act → World → Prop} {Q : Exit → Act → World → Prop} (h : turnE P rd id H o.op = some (v, H')) (hr : RdR R rd (ev (envOf a))) (HH : HR R H.get w.heap)
    (hid : ∀ b c, ¬ R id b c) : VoR P o a w id (id + 1) R H.get H'.get (.val v) K Q := fun hK => by
  obtain ⟨R', nx, w', h1, h2, h3⟩ := turnE_run h hr HH hid
  unfold Oper.wp
  rw [eval_env, h1]
  cases v with
  | none =>
    have h2 : nx = .skip := h2
    subst h2
    exact hK R' w' undef h3 rfl
  | some v =>
    obtain ⟨v', rfl, h4⟩ := h2
    exact hK R' w' v' h3 h4
theorem new_Vo {rd : Rd} {o : Oper} {a : Act} {H : T Blk} {id : Nat} {v : EV} {B : Blk} {w : World} {K : Act → World → Prop} {Q : Exit → Act → World → Prop} (h : newE P rd id o.op = some (v, B)) (hr : RdR R rd (ev (envOf a))) (HH : HR R H.get w.heap)
    (hid : ∀ b c, ¬ R id b c) : VoR P o a w id (id + 1) R H.get (H.put id B).get (.val (some v)) K Q := fun hK => by
  obtain ⟨c, v', w', h1, h2, h3⟩ := newE_run h hr HH hid
  unfold Oper.wp
  rw [eval_env, h1]
  exact hK _ w' v' h3 h2
/-- A store takes no number. -/
theorem store_Vo {rd : Rd} {o : Oper} {a : Act} {H H' : T Blk} {id : Nat} {v : Option EV} {w : World} {K : Act → World → Prop} {Q : Exit → Act → World → Prop} {t : TypeId} {x y : Operand} (hop : o.op = .store t x y) (h : turnE P rd id H o.op = some (v, H')) (hr : RdR R rd (ev (envOf a)))
    (HH : HR R H.get w.heap) : VoR P o a w id id R H.get H'.get (.val v) K Q := fun hK => by
  rw [hop] at h
  unfold turnE at h
  simp only at h
  split at h
  · rename_i u1 u2 h1 h2
    split at h
    · rename_i H2 hs
      cases h
      obtain ⟨w', h3, h4⟩ := storeE_run (id := id) (hi := id) hs (hr _ _ h1) (hr _ _ h2) HH
      unfold Oper.wp
      rw [eval_env]
      unfold execOp
      rw [hop]
      have : (do Instr.storeAt t (ev (envOf a) x) (ev (envOf a) y); pure Next.skip : Sem Next).run P w = .ok .skip w' := by simp [h3]
      rw [this]
      exact hK R w' undef h4 rfl
    · cases h
  · cases h
theorem opE_run {call : CallE} (hC : CallOK P call) {rd : Rd} {o : Oper} {a : Act} {H H' : T Blk} {nx n' : Nat} {v : Vo} {w : World} {K : Act → World → Prop} {Q : Exit → Act → World → Prop} (h : opE P rd call H nx o.op = some (v, H', n'))
    (hr : RdR R rd (ev (envOf a))) (HH : HR R H.get w.heap) (hF : Fresh R nx) : nx ≤ n' ∧ VoR P o a w nx n' R H.get H'.get v K Q := by
  have hid : ∀ b c, ¬ R nx b c := fun b c h => Nat.lt_irrefl _ (hF _ _ _ h)
  have rdcase : ∀ op, o.op = op → (match readE P rd H op with | some v => some (Vo.val (some v), H, nx) | none => none) = some (v, H', n') → nx ≤ n' ∧ VoR P o a w nx n' R H.get H'.get v K Q := fun op hop h => by
    split at h
    · rename_i u hu
      cases h
      exact ⟨Nat.le_refl _, read_Vo (hop ▸ hu) hr HH⟩
    · cases h
  generalize hop : o.op = op at h
  unfold opE at h
  split at h
  · rename_i t x y
    split at h
    · rename_i u H2 hu
      cases h
      exact ⟨Nat.le_refl _, store_Vo hop (hop ▸ hu) hr HH⟩
    · cases h
  · split at h
    · rename_i u H2 hu
      cases h
      exact ⟨Nat.le_succ _, turn_Vo (hop ▸ hu) hr HH hid⟩
    · cases h
  · split at h
    · rename_i u H2 hu
      cases h
      exact ⟨Nat.le_succ _, turn_Vo (hop ▸ hu) hr HH hid⟩
    · cases h
  · split at h
    · rename_i u H2 hu
      cases h
      exact ⟨Nat.le_succ _, turn_Vo (hop ▸ hu) hr HH hid⟩
    · cases h
  · split at h
    · rename_i u B hu
      cases h
      exact ⟨Nat.le_succ _, new_Vo (hop ▸ hu) hr HH hid⟩
    · cases h
  · split at h
    · rename_i u B hu
      cases h
      exact ⟨Nat.le_succ _, new_Vo (hop ▸ hu) hr HH hid⟩
    · cases h
  · split at h
    · rename_i u B hu
      cases h
      exact ⟨Nat.le_succ _, new_Vo (hop ▸ hu) hr HH hid⟩
    · cases h
  · split at h
    · rename_i u B hu
      cases h
      exact ⟨Nat.le_succ _, new_Vo (hop ▸ hu) hr HH hid⟩
    · cases h
  · split at h
    · rename_i u B hu
      cases h
      exact ⟨Nat.le_succ _, new_Vo (hop ▸ hu) hr HH hid⟩
    · cases h
  · split at h
    · rename_i u B hu
      cases h
      exact ⟨Nat.le_succ _, new_Vo (hop ▸ hu) hr HH hid⟩
    · cases h
  · split at h
    · rename_i u B hu
      cases h
      exact ⟨Nat.le_succ _, new_Vo (hop ▸ hu) hr HH hid⟩
    · exact rdcase _ hop h
  · exact callsE_run hC (hop ▸ h) hr HH hF
  · rename_i cl
    split at h
    · exact callsE_run hC (hop ▸ h) hr HH hF
    · split at h
      · rename_i u H2 hu
        cases h
        exact ⟨Nat.le_succ _, turn_Vo (hop ▸ hu) hr HH hid⟩
      · cases h
    · split at h
      · rename_i u H2 hu
        cases h
        exact ⟨Nat.le_succ _, turn_Vo (hop ▸ hu) hr HH hid⟩
      · cases h
    · exact rdcase _ hop h
  · exact rdcase _ hop h

/-! ### Lists, code -/
def XtR (R : Rel) : Xt → Exit → Prop
  | .norm, e => e = .normal
  | .exit id, e => e = .exit id
  | .ret, e => e = .ret
  | .pan v, e => ∃ v', e = .panic [{ v := v', recovered := false }] ∧ VR R v v'
/-- What holds behind a piece of code. -/
def PostE (nt base : Nat) (R : Rel) (H : Heap) (n : Nat) (w : World) (x : Xt) (s' : S) : Exit → Act → World → Prop := fun e a' w' =>
  nt ≤ a'.tmps.size ∧ ∃ R', After n s'.nx R H w R' s'.hp.get w' ∧ DfR base R' s'.hp.get w' s'.df a'.defers ∧ SlR R' s'.sl (envOf a') ∧ XtR R' x e
def OK (nt : Nat) (s : S) (x : Xt) (s' : S) (W : (Exit → Act → World → Prop) → Act → World → Prop) : Prop :=
  s.nx ≤ s'.nx ∧ ∀ (R : Rel) (w : World) (a : Act) (base : Nat), nt ≤ a.tmps.size → DfR base R s.hp.get w s.df a.defers → SlR R s.sl (envOf a) → HR R s.hp.get w.heap → Fresh R s.nx → W (PostE nt base R s.hp.get s.nx w x s') a w
/-- A call that is deferred. -/
def deferE (rd : Rd) : Op → Option DE
  | .defer cl => match cl.callee with
    | .value f => match rd f, rds rd cl.args.toList with
      | some (.fn (.func g) first cap), some args => some (.call g (first ++ args ++ cap))
      | _, _ => none
    | _ => none
  | _ => none
def isDefer : Op → Bool
  | .defer _ => true
  | _ => false
def evL (P : Program) (call : CallE) (nt : Nat) (ops : Array Oper) : List Oper → S → Option (Xt × S)
  | [], s => some (.norm, s)
  | o :: l, s => match wantE (rdE s.sl) ops o, fitsB nt o.dst with
    | some false, true => evL P call nt ops l { s with sl := putT s.sl o.dst undefE }
    | some true, true => match isDefer o.op with
      | true => match deferE (rdE s.sl) o.op with
        | some d => evL P call nt ops l { s with sl := putT s.sl o.dst undefE, df := d :: s.df }
        | none => none
      | false => match opE P (rdE s.sl) call s.hp s.nx o.op with
        | some (.val (some v), H', n') => evL P call nt ops l { sl := putT s.sl o.dst v, hp := H', nx := n', df := s.df }
        | some (.val none, H', n') => evL P call nt ops l { sl := putT s.sl o.dst undefE, hp := H', nx := n', df := s.df }
        | some (.pan v, H', n') => some (.pan v, { sl := s.sl, hp := H', nx := n', df := s.df })
        | none => none
    | _, _ => none
theorem PostE.trans {nt base : Nat} {R R1 : Rel} {H H1 : Heap} {n n1 : Nat} {w w1 : World} {x : Xt} {s' : S} {e : Exit} {a' : Act} {w' : World} (hA : After n n1 R H w R1 H1 w1) (hn : n ≤ n1) (hn1 : n1 ≤ s'.nx) (h : PostE nt base R1 H1 n1 w1 x s' e a' w') : PostE nt base R H n w x s' e a' w' := by
  obtain ⟨h1, R', h3, h2, h4, h5⟩ := h
  exact ⟨h1, R', hA.trans h3 hn hn1, h2, h4, h5⟩
theorem wpList_mono {ops : Array Oper} {Q Q' : Exit → Act → World → Prop} (hq : ∀ e a w, Q e a w → Q' e a w) : ∀ (l : List Oper) (a : Act) (w : World), wpList P ops Q l a w → wpList P ops Q' l a w
  | [], a, w, h => hq _ _ _ h
  | o :: l, a, w, h => by
    unfold wpList at h ⊢
    split at h
    · rename_i hw
      rw [if_pos hw]
      have hl : LetsOut Q → LetsOut Q' := fun ⟨a, w, h⟩ => ⟨a, w, hq _ _ _ h⟩
      rcases h with h | ⟨h, h2⟩
      · exact .inl (wp_post (fun c a w h => hq _ _ _ h) hl (Oper.wp_mono (fun a' w' h' => wpList_mono hq l a' w' h') h))
      · exact .inr ⟨h, hl h2⟩
    · rename_i hw
      rw [if_neg hw]
      exact wpList_mono hq l _ _ h
end
end Go.Proofs.YtafochlcnjeanaaGreat.E
