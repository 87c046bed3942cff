/- Runs by numbers: one step. For whatever program. -/
import Derived.Test.YtafochlcnjeanaaGreatX25
import Derived.Laws.StructEq
namespace Go.Proofs.YtafochlcnjeanaaGreat.E
open Go Go.RowKit X

def rdO (rd : Rd) : Option Operand → Option (Option EV)
  | none => some none
  | some x => match rd x with
    | some v => some (some v)
    | none => none
def convE (P : Program) (s d : TypeId) : EV → Option EV
  | .int _ n => match P.underlying s, P.underlying d with
    | some (.int _), some (.int k) => some (.int k (wrapE k n))
    | _, _ => none
  | .str l => match P.underlying s, P.underlying d with
    | some .string, some .string => some (.str l)
    | _, _ => none
  | _ => none
def assertE (P : Program) (t : TypeId) (ok : Bool) : EV → Option EV
  | .iface t' x => match P.underlying t with
    | some (.interface _) => none
    | some _ => match Nat.beq t' t with
      | true => some (match ok with | true => .tup [x, .bool true] | false => x)
      | false => match ok, P.info? t with
        | true, some i => match i.zero with
          | some z => match ofVal z with
            | some zx => some (.tup [zx, .bool false])
            | none => match z with
              | .agg cs => match ofVals cs.toList with
                | some zl => some (.tup [.agg zl, .bool false])
                | none => none
              | _ => none
          | none => none
        | _, _ => none
    | none => none
  | _ => none
def lenE (P : Program) (ts : Array TypeId) : List EV → Option EV
  | [.str l] => match lenKind P ts with
    | 2 => some (.int .i64 (.ofNat l.length))
    | _ => none
  | [.slc _ _ n _ _] => match lenKind P ts with
    | 1 => some (.int .i64 (.ofNat n))
    | _ => none
  | [.flat (.slice none 0 0)] => match lenKind P ts with
    | 1 => some (.int .i64 (.ofNat 0))
    | _ => none
  | _ => none
def builtinE (P : Program) (b : Builtin) (ts : Array TypeId) (args : List EV) : Option EV := match b with
  | .len => lenE P ts args
  | .min => match args with
    | [.int k a, .int k' b] => match ltI b a with
      | true => some (.int k b)
      | false => some (.int k a)
    | _ => none
  | .max => match args with
    | [.int k a, .int k' b] => match ltI a b with
      | true => some (.int k b)
      | false => some (.int k a)
    | _ => none
  | _ => none
/-! ### Structs compared -/
def eqCell (P : Program) (t : TypeId) (a b : EV) : Option Bool := match P.underlying t, a, b with
  | some (.int _), .int k x, .int k' y => match decide (k = k') with
    | true => some (eqI x y)
    | false => none
  | some .bool, .bool x, .bool y => some (x == y)
  | some .string, .str x, .str y => some (strEq x y)
  | _, _, _ => none
def eqFieldsE (P : Program) (xs ys : List EV) : List Field → Option Bool
  | [] => some true
  | f :: fs => match decide (f.name = "_"), aggB P f.type, nthG xs f.offset, nthG ys f.offset with
    | false, some false, some a, some b => match eqCell P f.type a b with
      | some true => eqFieldsE P xs ys fs
      | some false => some false
      | none => none
    | _, _, _, _ => none
def aggEqE (P : Program) (op : BinOp) (t : TypeId) (xs ys : List EV) : Option EV := match P.underlying t, P.stoodInHeld t || P.eqGuardType P.depth t with
  | some (.struct fs), false => match op, eqFieldsE P xs ys fs.toList with
    | .eql, some b => some (.bool b)
    | .neq, some b => some (.bool (!b))
    | _, _ => none
  | _, _ => none
section
variable {P : Program} {R : Rel}
theorem eqCell_run {t : TypeId} {a b : EV} {va vb : Value} {r : Bool} (h : eqCell P t a b = some r) (ha : VR R a va) (hb : VR R b vb) (d : Nat) (w : World) : (Op.equalIn (d + 1) t va vb).run P w = .ok r w := by
  unfold eqCell at h
  split at h
  · rename_i k0 k x k' y hu
    have ha : va = .int k x := ha
    have hb : vb = .int k' y := hb
    subst ha hb
    split at h
    · rename_i hk
      have hk := of_decide_eq_true hk
      subst hk
      cases h
      rw [run_equalIn_int w d t k k0 x y hu, eqI_eq]
      rfl
    · cases h
  · rename_i x y hu
    have ha : va = .bool x := ha
    have hb : vb = .bool y := hb
    subst ha hb
    cases h
    exact run_equalIn_bool w d t x y hu
  · rename_i x y hu
    have ha : va = .string (bs x) := ha
    have hb : vb = .string (bs y) := hb
    subst ha hb
    cases h
    rw [run_equalIn_string w d t _ _ hu, toList_beq, strEq_spec]
  · cases h
theorem eqFieldsE_run {xs ys : List EV} {vx vy : List Value} (hx : VRs R xs vx) (hy : VRs R ys vy) (d : Nat) (w : World) : ∀ {fs : List Field} {r : Bool}, eqFieldsE P xs ys fs = some r → (Op.eqFields (d + 1) vx.toArray vy.toArray fs).run P w = .ok r w
  | [], r, h => by simp only [eqFieldsE] at h; cases h; rfl
  | f :: fs, r, h => by
    simp only [eqFieldsE] at h
    split at h
    · rename_i a b hn hagg h1 h2
      have hn := of_decide_eq_false hn
      rw [nthG_eq] at h1 h2
      obtain ⟨u, h3, h4⟩ := hx.get h1
      obtain ⟨v, h5, h6⟩ := hy.get h2
      have p1 : (part f.type vx.toArray f.offset).run P w = .ok u w := by simp [part, run_isAgg hagg, h3]
      have p2 : (part f.type vy.toArray f.offset).run P w = .ok v w := by simp [part, run_isAgg hagg, h5]
      unfold Op.eqFields
      rw [if_pos hn]
      simp only [Sem.run_bind, p1, p2, Result.andThen_ok]
      split at h
      · rename_i hc
        rw [eqCell_run hc h4 h6 d w]
        simp only [Result.andThen_ok, Bool.not_true, Bool.false_eq_true, if_false]
        exact eqFieldsE_run hx hy d w h
      · rename_i hc
        cases h
        rw [eqCell_run hc h4 h6 d w]
        simp
      · cases h
    · cases h
theorem aggEqE_run {op : BinOp} {t : TypeId} {xs ys : List EV} {v : EV} {vx vy : Value} {x y : Operand} (h : aggEqE P op t xs ys = some v) (hx : VR R (.agg xs) vx) (hy : VR R (.agg ys) vy) (w : World) :
    ∃ v', (do eqGuard op t x y vx vy; binOp op t vx vy : Sem Value).run P w = .ok v' w ∧ VR R v v' := by
  obtain ⟨lx, rfl, hx⟩ := hx
  obtain ⟨ly, rfl, hy⟩ := hy
  unfold aggEqE at h
  split at h
  · rename_i fs hu hg
    simp only [Bool.or_eq_false_iff] at hg
    have hf : P.fieldsOf t = fs := by unfold Program.fieldsOf; rw [hu]
    have ht : P.underlying t = some (.struct (P.fieldsOf t)) := by rw [hf]; exact hu
    have hgd := run_eqGuard_agg (P := P) w op t x y lx.toArray ly.toArray hg.2
    have hrun : ∀ {r : Bool}, eqFieldsE P xs ys fs.toList = some r → (Op.equalIn 10000 t (.agg lx.toArray) (.agg ly.toArray)).run P w = .ok r w := fun hr => by
      rw [run_equalIn_struct w 9999 t _ _ ht hg.1, hf]
      exact eqFieldsE_run hx hy 9998 w hr
    split at h
    · rename_i r hr
      cases h
      refine ⟨.bool r, ?_, VR.boolI⟩
      simp only [Sem.run_bind, hgd, Result.andThen_ok]
      rw [run_eql_struct, hrun hr]
      rfl
    · rename_i r hr
      cases h
      refine ⟨.bool (!r), ?_, VR.boolI⟩
      simp only [Sem.run_bind, hgd, Result.andThen_ok]
      rw [run_neq_struct, hrun hr]
      rfl
    · cases h
  · cases h
end
def pureE (P : Program) (rd : Rd) : Op → Option EV
  | .move x => rd x
  | .assign x => rd x
  | .pick c a b => match rd c with
    | some (.bool true) => rd a
    | some (.bool false) => rd b
    | _ => none
  | .nilCheck x => match rd x with
    | some (.ptr k o) => some (.ptr k o)
    | some (.fn (.func f) a c) => some (.fn (.func f) a c)
    | some (.iface t v) => some (.iface t v)
    | _ => none
  | .binOp op t x y _ => match rd x, rd y with
    | some (.agg a), some (.agg b) => aggEqE P op t a b
    | some a, some b => binEE P op t a b
    | _, _ => none
  | .unOp op _ x => match op, rd x with
    | .not, some (.bool b) => some (.bool (!b))
    | .neg, some (.int k n) => some (.int k (wrapE k (0 - n)))
    | _, _ => none
  | .extract t i => match rd t with
    | some (.tup l) => nthG l i
    | _ => none
  | .makeFunc fn first cap => match rds rd first.toList, rds rd cap.toList with
    | some a, some c => some (.fn fn a c)
    | _, _ => none
  | .makeInterface t x => match P.underlying t, rd x with
    | some (.interface _), _ => none
    | some _, some v => some (.iface t v)
    | _, _ => none
  | .fieldAddr s x f => match rd x, fieldOff P s f with
    | some (.ptr k o), some off => some (.ptr k (o + off))
    | _, _ => none
  | .field t x f => match rd x with
    | some v => fieldE P t f v
    | none => none
  | .indexAddr t x y => match rd x, rd y with
    | some a, some b => indexAddrE P t a b
    | _, _ => none
  | .index t x y => match rd x, rd y with
    | some a, some b => indexE P t a b
    | _, _ => none
  | .slice t x lo hi none => match rd x, rdO rd lo, rdO rd hi with
    | some v, some a, some b => sliceE P t v a b
    | _, _, _ => none
  | .slice t x lo (some hi) (some mx) => match rd x, rdO rd lo, rd hi, rd mx with
    | some v, some a, some b, some c => slice3E P t v a b c
    | _, _, _, _ => none
  | .build t ps => match rdParts rd ps.toList with
    | some parts => match builtE P t parts with
      | some l => some (.agg l)
      | none => none
    | none => none
  | .convert s d x => match rd x with
    | some v => convE P s d v
    | none => none
  | .typeAssert x _ t ok => match rd x with
    | some v => assertE P t ok v
    | none => none
  | .call cl => match cl.callee with
    | .builtin b => match rds rd cl.args.toList with
      | some args => builtinE P b cl.argTypes args
      | none => none
    | _ => none
  | _ => none
section
variable {P : Program} {R : Rel}
theorem rdO_spec {rd : Rd} {ρ : Operand → Value} (hr : RdR R rd ρ) {x : Option Operand} {v : Option EV} (h : rdO rd x = some v) : (∀ e, v = some e → ∃ u, x.map ρ = some u ∧ VR R e u) ∧ (v = none → x.map ρ = none) := by
  unfold rdO at h
  split at h
  · cases h; exact ⟨fun e he => (by cases he), fun _ => rfl⟩
  · rename_i x
    split at h
    · rename_i u hu
      cases h
      exact ⟨fun e he => (by cases he; exact ⟨_, rfl, hr _ _ hu⟩), fun h => (by cases h)⟩
    · cases h
theorem convE_run {s d : TypeId} {x v : EV} {vx : Value} (h : convE P s d x = some v) (hx : VR R x vx) (w : World) : ∃ v', (convert s d vx).run P w = .ok v' w ∧ VR R v v' := by
  unfold convE at h
  split at h
  · rename_i k n
    have hx : vx = .int k n := hx
    subst hx
    split at h
    · rename_i k1 k2 h1 h2
      cases h
      refine ⟨_, ?_, VR.intI⟩
      simp [convert, run_underlying h1, run_underlying h2, Conv.intToInt, wrapE_eq]
    · cases h
  · rename_i l
    have hx : vx = .string (bs l) := hx
    subst hx
    split at h
    · rename_i h1 h2
      cases h
      exact ⟨_, by simp [convert, run_underlying h1, run_underlying h2], VR.strI⟩
    · cases h
  · cases h
theorem assertE_run {t xt : TypeId} {ok : Bool} {x v : EV} {vx : Value} (h : assertE P t ok x = some v) (hx : VR R x vx) (w : World) : ∃ v', (Instr.typeAssert vx xt t ok).run P w = .ok v' w ∧ VR R v v' := by
  unfold assertE at h
  split at h
  · rename_i t' x
    obtain ⟨x', rfl, hx⟩ := hx
    split at h
    · cases h
    · rename_i d hni hu
      split at h
      · rename_i he
        have he := Nat.eq_of_beq_eq_true he
        subst he
        cases h
        cases ok with
        | true => 
          refine ⟨.tuple #[x', .bool true], ?_, [x', .bool true], rfl, x', _, rfl, hx, .bool true, _, rfl, rfl, rfl⟩
          simp only [Instr.typeAssert, Sem.run_bind, run_underlying hu, Result.andThen_ok]
          cases d <;> first | exact (hni _ rfl).elim | simp
        | false =>
          refine ⟨x', ?_, hx⟩
          simp only [Instr.typeAssert, Sem.run_bind, run_underlying hu, Result.andThen_ok]
          cases d <;> first | exact (hni _ rfl).elim | simp
      · rename_i he
        have he : ¬ t' = t := fun e => by subst e; simp at he
        split at h
        · rename_i i hi
          split at h
          · rename_i z hz
            have key : ∃ v', v = .tup [v', .bool false] ∧ VR R v' z := by
              split at h
              · rename_i zx hzx
                cases h
                exact ⟨_, rfl, ofVal_VR hzx⟩
              · split at h
                · split at h
                  · rename_i zl hzl
                    cases h
                    exact ⟨_, rfl, _, (by simp), ofVals_VR hzl⟩
                  · cases h
                · cases h
            obtain ⟨v', rfl, hv'⟩ := key
            refine ⟨.tuple #[z, .bool false], ?_, [z, .bool false], rfl, z, _, rfl, hv', .bool false, _, rfl, rfl, rfl⟩
            simp only [Instr.typeAssert, Sem.run_bind, run_underlying hu, Result.andThen_ok]
            cases d <;> first
              | exact (hni _ rfl).elim
              | simp [he, zeroValue, typeInfo, hi, hz]
          · cases h
        · cases h
    · cases h
  · cases h
theorem lenE_run {ts : Array TypeId} {args : List EV} {v : EV} {va : List Value} {ty : TypeId} (h : lenE P ts args = some v) (ha : VRs R args va) (w : World) : ∃ v', (Builtin.len_ ts ty va.toArray).run P w = .ok v' w ∧ VR R v v' := by
  have key : (lenKind P ts = 1 → ∃ t e, ts[0]? = some t ∧ P.underlying t = some (.slice e)) ∧ (lenKind P ts = 2 → ∃ t, ts[0]? = some t ∧ P.underlying t = some .string) := by
    unfold lenKind firstType
    cases h0 : ts[0]? with
    | none => simp
    | some t =>
      simp only
      constructor
      · intro hk
        split at hk <;> first | (cases hk; done) | skip
        rename_i e he
        exact ⟨t, e, rfl, he⟩
      · intro hk
        split at hk <;> first | (cases hk; done) | skip
        rename_i he
        exact ⟨t, rfl, he⟩
  unfold lenE at h
  split at h
  · rename_i l
    obtain ⟨u, us, rfl, hu, he⟩ := ha
    have he : us = [] := he
    have hu : u = .string (bs l) := hu
    subst he hu
    split at h
    · rename_i hk
      cases h
      obtain ⟨t, h0, ht⟩ := key.2 hk
      refine ⟨_, ?_, VR.intI⟩
      simp [Builtin.len_, h0, run_underlying ht, goInt, bs_size]
    · cases h
  · rename_i k o n s c
    obtain ⟨u, us, rfl, hu, he⟩ := ha
    have he : us = [] := he
    obtain ⟨b, c', cap, _, rfl, _⟩ := hu
    subst he
    split at h
    · rename_i hk
      cases h
      obtain ⟨t, e, h0, ht⟩ := key.1 hk
      refine ⟨_, ?_, VR.intI⟩
      simp [Builtin.len_, h0, run_underlying ht, goInt]
    · cases h
  · obtain ⟨u, us, rfl, hu, he⟩ := ha
    have he : us = [] := he
    have hu : u = .slice none 0 0 := hu
    subst he hu
    split at h
    · rename_i hk
      cases h
      obtain ⟨t, e, h0, ht⟩ := key.1 hk
      refine ⟨_, ?_, VR.intI⟩
      simp [Builtin.len_, h0, run_underlying ht, goInt]
    · cases h
  · cases h
theorem builtinE_run {b : Builtin} {ts : Array TypeId} {args : List EV} {v : EV} {va : List Value} {ty : TypeId} {cs : Array Bool} (h : builtinE P b ts args = some v) (ha : VRs R args va) (w : World) :
    ∃ v', (builtin b ts ty cs va.toArray).run P w = .ok (.value v') w ∧ VR R v v' := by
  unfold builtinE at h
  split at h
  · obtain ⟨v', h1, h2⟩ := lenE_run (ty := ty) h ha w
    exact ⟨v', by simp [builtin, h1], h2⟩
  · split at h
    · rename_i k a k' b
      obtain ⟨u, us, rfl, hu, u2, us2, rfl, hu2, he⟩ := ha
      have he : us2 = [] := he
      have hu : u = .int k a := hu
      have hu2 : u2 = .int k' b := hu2
      subst he hu hu2
      rw [ltI_eq] at h
      by_cases hlt : b < a
      · simp only [hlt, decide_true] at h
        cases h
        exact ⟨_, by simp [builtin, Builtin.min_, Builtin.min2, hlt], VR.intI⟩
      · simp only [hlt, decide_false] at h
        cases h
        exact ⟨_, by simp [builtin, Builtin.min_, Builtin.min2, hlt], VR.intI⟩
    · cases h
  · split at h
    · rename_i k a k' b
      obtain ⟨u, us, rfl, hu, u2, us2, rfl, hu2, he⟩ := ha
      have he : us2 = [] := he
      have hu : u = .int k a := hu
      have hu2 : u2 = .int k' b := hu2
      subst he hu hu2
      rw [ltI_eq] at h
      by_cases hlt : a < b
      · simp only [hlt, decide_true] at h
        cases h
        exact ⟨_, by simp [builtin, Builtin.max_, Builtin.max2, hlt], VR.intI⟩
      · simp only [hlt, decide_false] at h
        cases h
        exact ⟨_, by simp [builtin, Builtin.max_, Builtin.max2, hlt], VR.intI⟩
    · cases h
  · cases h
theorem val_run {s : Sem Value} {v : EV} {w : World} (h : ∃ v', s.run P w = .ok v' w ∧ VR R v v') : ∃ v', (do pure (Next.value (← s)) : Sem Next).run P w = .ok (.value v') w ∧ VR R v v' := by
  obtain ⟨v', h1, h2⟩ := h
  exact ⟨v', run_v h1, h2⟩
theorem pureE_run {rd : Rd} {ρ : Operand → Value} {o : Oper} {v : EV} (h : pureE P rd o.op = some v) (hr : RdR R rd ρ) (w : World) : ∃ v', (execOp ρ o).run P w = .ok (.value v') w ∧ VR R v v' := by
  obtain ⟨dst, op, ty, pos, aft, gd⟩ := o
  simp only at h
  unfold pureE at h
  split at h
  · exact ⟨_, rfl, hr _ _ h⟩
  · exact ⟨_, rfl, hr _ _ h⟩
  · split at h
    · rename_i hc
      have hc : ρ _ = .bool true := hr _ _ hc
      exact ⟨_, by simp [execOp, hc, asBool], hr _ _ h⟩
    · rename_i hc
      have hc : ρ _ = .bool false := hr _ _ hc
      exact ⟨_, by simp [execOp, hc, asBool], hr _ _ h⟩
    · cases h
  · split at h
    · rename_i k o hc
      cases h
      have h1 := hr _ _ hc
      obtain ⟨b, c, hR, he⟩ := h1
      exact ⟨_, by simp [execOp, he], b, c, hR, rfl⟩
    · rename_i f a c hc
      cases h
      have h1 := hr _ _ hc
      obtain ⟨a', c', he, h2⟩ := h1
      exact ⟨_, by simp [execOp, he], a', c', rfl, h2⟩
    · rename_i t u hc
      cases h
      have h1 := hr _ _ hc
      obtain ⟨x', he, h2⟩ := h1
      exact ⟨_, by simp [execOp, he], x', rfl, h2⟩
    · cases h
  · split at h
    · rename_i a b h1 h2
      exact val_run (aggEqE_run h (hr _ _ h1) (hr _ _ h2) w)
    · rename_i a b _ h1 h2
      exact val_run (binEE_run h (hr _ _ h1) (hr _ _ h2) w)
    · cases h
  · split at h
    · rename_i b hc
      cases h
      have hc : ρ _ = .bool b := hr _ _ hc
      exact ⟨_, by simp [execOp, hc, Op.unary], VR.boolI⟩
    · rename_i k n hc
      cases h
      have hc : ρ _ = .int k n := hr _ _ hc
      exact ⟨_, by simp [execOp, hc, Op.unary, Op.intArith, wrapE_eq], VR.intI⟩
    · cases h
  · split at h
    · rename_i l hc
      obtain ⟨l', he, h2⟩ := hr _ _ hc
      rw [nthG_eq] at h
      obtain ⟨u, h3, h4⟩ := h2.get h
      exact ⟨u, by simp [execOp, he, Instr.extract, h3], h4⟩
    · cases h
  · rename_i fn first cap
    split at h
    · rename_i a c h1 h2
      cases h
      refine ⟨.func fn (first.map ρ) (cap.map ρ), by simp [execOp, Instr.makeFunc], first.toList.map ρ, cap.toList.map ρ, ?_, rds_R hr h1, rds_R hr h2⟩
      congr 1 <;> (apply Array.toList_inj.1; simp)
    · cases h
  · rename_i t x
    split at h
    · cases h
    · rename_i d v' hni hu hx
      cases h
      refine ⟨.iface t (ρ x), ?_, _, rfl, hr _ _ hx⟩
      simp only [execOp, Instr.makeInterface, Sem.run_bind, run_underlying hu, Result.andThen_ok]
      cases d <;> first | exact (hni _ rfl).elim | rfl
    · cases h
  · split at h
    · rename_i k o off hc hf
      cases h
      obtain ⟨b, c, hR, he⟩ := hr _ _ hc
      have := run_fieldAt (P := P) (b := b) (i := o) hf w
      exact ⟨_, by simp only [execOp, he]; exact run_v this, b, c, hR, rfl⟩
    · cases h
  · split at h
    · rename_i u hc
      exact val_run (fieldE_run h (hr _ _ hc) w)
    · cases h
  · split at h
    · rename_i a b h1 h2
      exact val_run (indexAddrE_run h (hr _ _ h1) (hr _ _ h2) w)
    · cases h
  · split at h
    · rename_i a b h1 h2
      exact val_run (indexE_run h (hr _ _ h1) (hr _ _ h2) w)
    · cases h
  · split at h
    · rename_i u a b h1 h2 h3
      have h4 := rdO_spec hr h2
      have h5 := rdO_spec hr h3
      exact val_run (sliceE_run h (hr _ _ h1) h4.1 h4.2 h5.1 h5.2 w)
    · cases h
  · split at h
    · rename_i u a b c h1 h2 h3 h4
      have h5 := rdO_spec hr h2
      exact val_run (slice3E_run h (hr _ _ h1) h5.1 h5.2 (hr _ _ h3) (hr _ _ h4) w)
    · cases h
  · rename_i t ps
    split at h
    · rename_i parts hp
      split at h
      · rename_i l hl
        cases h
        obtain ⟨vl, h1, h2⟩ := builtE_R hl (rdParts_R hr hp)
        refine val_run ⟨.agg vl.toArray, ?_, vl, rfl, h2⟩
        refine run_build w t _ _ ?_
        have h4 : (ps.map fun (i, x) => (i, ρ x)).toList = ps.toList.map fun (i, x) => (i, ρ x) := by simp
        rw [h4]
        exact builtL_eq h1
      · cases h
    · cases h
  · split at h
    · rename_i u hc
      exact val_run (convE_run h (hr _ _ hc) w)
    · cases h
  · split at h
    · rename_i u hc
      exact val_run (assertE_run h (hr _ _ hc) w)
    · cases h
  · rename_i cl
    split at h
    · rename_i b hb
      split at h
      · rename_i args ha
        have h1 := rds_R hr ha
        obtain ⟨v', h2, h3⟩ := builtinE_run (ty := ty) (cs := cl.args.map fun | .const _ => true | _ => false) h h1 w
        refine ⟨v', ?_, h3⟩
        have h4 : cl.args.map ρ = (cl.args.toList.map ρ).toArray := by apply Array.toList_inj.1; simp
        simp only [execOp, resolve, hb, Sem.run_bind, Sem.run_pure, Result.andThen_ok, invoke, h4]
        exact h2
      · cases h
    · cases h
  · cases h

/-! ### Maps -/
def keyEq : EV → EV → Option Bool
  | .int k a, .int k' b => match decide (k = k') with
    | true => some (eqI a b)
    | false => none
  | .str a, .str b => some (strEq a b)
  | _, _ => none
def keyOK (P : Program) (t : TypeId) : EV → Bool
  | .int _ _ => match P.underlying t with
    | some (.int _) => true
    | _ => false
  | .str _ => match P.underlying t with
    | some .string => true
    | _ => false
  | _ => false
/-- The place of a key, and what stands there. -/
def findE (key : EV) : List (EV × EV × Nat) → Nat → Option (Option (Nat × EV))
  | [], _ => some none
  | e :: es, i => match keyEq key e.1 with
    | some true => some (some (i, e.2.1))
    | some false => findE key es (i + 1)
    | none => none
theorem bs_beq (a b : List Nat) : (bs a == bs b) = strEq a b := by
  rw [beq_toListBytes, toList_beq, strEq_spec]
theorem keyEq_R {kind : TypeDesc} {k e : EV} {vk ve : Value} {r : Bool} (h : keyEq k e = some r) (hk : (∃ i, kind = .int i ∧ ∃ a b, k = .int a b) ∨ (kind = .string ∧ ∃ a, k = .str a)) (h1 : VR R k vk) (h2 : VR R e ve) : Instr.sameNow kind vk ve = some r := by
  unfold keyEq at h
  split at h
  · rename_i a x b y
    have h1 : vk = .int a x := h1
    have h2 : ve = .int b y := h2
    subst h1 h2
    split at h
    · rename_i hab
      have hab := of_decide_eq_true hab
      subst hab
      cases h
      rcases hk with ⟨i, rfl, _⟩ | ⟨_, _, hk⟩
      · simp only [Instr.sameNow, if_true, eqI_eq]
        congr 1
      · cases hk
    · cases h
  · rename_i a b
    have h1 : vk = .string (bs a) := h1
    have h2 : ve = .string (bs b) := h2
    subst h1 h2
    cases h
    rcases hk with ⟨i, rfl, _, _, hk⟩ | ⟨rfl, _⟩
    · cases hk
    · simp only [Instr.sameNow, bs_beq]
  · cases h
theorem keyOK_spec {t : TypeId} {k : EV} (h : keyOK P t k = true) : ∃ d, P.underlying t = some d ∧ ((∃ i, d = .int i ∧ ∃ a b, k = .int a b) ∨ (d = .string ∧ ∃ a, k = .str a)) := by
  unfold keyOK at h
  split at h
  · split at h
    · rename_i i hu; exact ⟨_, hu, .inl ⟨_, rfl, _, _, rfl⟩⟩
    · cases h
  · split at h
    · rename_i hu; exact ⟨_, hu, .inr ⟨rfl, _, rfl⟩⟩
    · cases h
  · cases h
theorem findE_R {kind : TypeDesc} {k : EV} {vk : Value} (hk : (∃ i, kind = .int i ∧ ∃ a b, k = .int a b) ∨ (kind = .string ∧ ∃ a, k = .str a)) (h1 : VR R k vk) : ∀ {es : List (EV × EV × Nat)} {es' : List MapEntry} {i : Nat} {r : Option (Nat × EV)}, findE k es i = some r →
    VRs R (es.map fun e => e.1) (es'.map fun e => e.key) → VRs R (es.map fun e => e.2.1) (es'.map fun e => e.val) →
    (r = none ∧ Instr.findNow kind vk es' i = some none) ∨ ∃ j v v' e', r = some (i + j, v) ∧ Instr.findNow kind vk es' i = some (some (i + j, v')) ∧ VR R v v' ∧ es'[j]? = some e' ∧ Instr.sameNow kind vk e'.key = some true ∧ j < es.length
  | [], es', i, r, h, ha, _ => by
    have : es' = [] := by cases es' with | nil => rfl | cons x l => exact absurd ha (by simp [VRs])
    subst this
    simp only [findE] at h
    cases h
    exact .inl ⟨rfl, rfl⟩
  | e :: es, es', i, r, h, ha, hb => by
    cases es' with
    | nil => exact absurd ha (by simp [VRs])
    | cons e' es' =>
      obtain ⟨v1, l1, q1, ha1, ha2⟩ := ha
      obtain ⟨v2, l2, q2, hb1, hb2⟩ := hb
      simp only [List.map_cons, List.cons.injEq] at q1 q2
      obtain ⟨rfl, rfl⟩ := q1
      obtain ⟨rfl, rfl⟩ := q2
      simp only [findE] at h
      split at h
      · rename_i hr
        cases h
        have h2 := keyEq_R hr hk h1 ha1
        exact .inr ⟨0, e.2.1, e'.val, e', rfl, by simp only [Instr.findNow, h2, Nat.add_zero], hb1, by simp, h2, by simp⟩
      · rename_i hr
        have h2 := keyEq_R hr hk h1 ha1
        rcases findE_R hk h1 h ha2 hb2 with ⟨h3, h4⟩ | ⟨j, v, v', e2, h3, h4, h5, h6, h7, h8⟩
        · exact .inl ⟨h3, by simp only [Instr.findNow, h2]; exact h4⟩
        · refine .inr ⟨j + 1, v, v', e2, by rw [h3]; congr 2; omega, ?_, h5, by simpa using h6, h7, by simp; omega⟩
          simp only [Instr.findNow, h2]
          rw [h4]
          congr 3
          omega
      · cases h
theorem check_run {t : TypeId} {k : EV} {vk : Value} {d : TypeDesc} (hu : P.underlying t = some d) (hk : (∃ i, d = .int i ∧ ∃ a b, k = .int a b) ∨ (d = .string ∧ ∃ a, k = .str a)) (h1 : VR R k vk) (e : Bool) (n : Nat) (w : World) : (Instr.checkKey e (n + 1) t vk).run P w = .ok () w := by
  rcases hk with ⟨i, rfl, a, b, rfl⟩ | ⟨rfl, a, rfl⟩
  · have h1 : vk = .int a b := h1
    subst h1
    simp [Instr.checkKey, run_underlying hu]
  · have h1 : vk = .string (bs a) := h1
    subst h1
    simp [Instr.checkKey, run_underlying hu]
theorem HR.map {h : Heap} {hp : Array Obj} {k b c : Nat} {es : List (EV × EV × Nat)} {cl : Nat} (H : HR R h hp) (hk : h k = some (.map es cl)) (hR : R k b c) :
    ∃ es' : List MapEntry, hp[b]? = some (.map es'.toArray cl) ∧ VRs R (es.map fun e => e.1) (es'.map fun e => e.key) ∧ VRs R (es.map fun e => e.2.1) (es'.map fun e => e.val) ∧ es.map (fun e => e.2.2) = es'.map (fun e => e.born) := by
  obtain ⟨b', c', h1, h2⟩ := H.blk k _ hk trivial
  obtain ⟨rfl, rfl⟩ := H.fn _ _ _ _ _ hR h1
  exact h2
theorem run_getMap {w : World} {b : Nat} {es : Array MapEntry} {cl : Nat} (h : w.heap[b]? = some (.map es cl)) : (getObj b).run P w = .ok (.map es cl) w := by simp [getObj, Sem.run, h]
def okE (ok : Bool) (x : EV) (b : Bool) : EV := match ok with
  | true => .tup [x, .bool b]
  | false => x
def okV (ok : Bool) (x : Value) (b : Bool) : Value := match ok with
  | true => .tuple #[x, .bool b]
  | false => x
theorem okE_R {ok : Bool} {x : EV} {v : Value} {b : Bool} (h : VR R x v) : VR R (okE ok x b) (okV ok v b) := by
  cases ok with
  | true => exact ⟨[v, .bool b], rfl, _, _, rfl, h, .bool b, _, rfl, rfl, rfl⟩
  | false => exact h
def lookupE (P : Program) (H : T Blk) (t : TypeId) (ok : Bool) (x key : EV) : Option EV := match P.underlying t with
  | some (.map kt et) => match keyOK P kt key, zeroV P et with
    | true, some z => match (match x with
        | .map k => match H.get k with
          | some (.map es _) => findE key es 0
          | _ => none
        | .flat (.map none) => some none
        | _ => none) with
      | some (some (_, v)) => some (okE ok v true)
      | some none => some (okE ok z false)
      | none => none
    | _, _ => none
  | _ => none
def lookRes (ok : Bool) (zv : Value) : Option (Nat × Value) → Value
  | some (_, v) => okV ok v true
  | none => okV ok zv false
theorem lookup_run {t kt et : TypeId} {ok : Bool} {vx vk zv : Value} {es : Array MapEntry} {w : World} {res : Option (Nat × Value)} (hsrc : (vx = .map none ∧ es = #[]) ∨ ∃ b cl, vx = .map (some b) ∧ w.heap[b]? = some (.map es cl)) (hu : P.underlying t = some (.map kt et))
    (hc : (Instr.checkKey es.isEmpty 10000 kt vk).run P w = .ok () w) (hf : (Instr.findKey kt vk es.toList).run P w = .ok res w) (hz : (zeroValue et).run P w = .ok zv w) :
    (Instr.lookup t vx vk ok).run P w = .ok (lookRes ok zv res) w := by
  rcases hsrc with ⟨rfl, rfl⟩ | ⟨b, cl, rfl, hb⟩
  · have hc : (Instr.checkKey true 10000 kt vk).run P w = .ok () w := hc
    have hf : (Instr.findKey kt vk []).run P w = .ok res w := hf
    cases res <;> cases ok <;> simp [Instr.lookup, run_underlying hu, hc, hf, hz, lookRes, okV]
  · cases res <;> cases ok <;> simp [Instr.lookup, run_underlying hu, run_getMap hb, hc, hf, hz, lookRes, okV]
theorem lookupE_run {H : T Blk} {t : TypeId} {ok : Bool} {x key v : EV} {vx vk : Value} {w : World} (h : lookupE P H t ok x key = some v) (hx : VR R x vx) (hk : VR R key vk) (HH : HR R H.get w.heap) :
    ∃ v', (Instr.lookup t vx vk ok).run P w = .ok v' w ∧ VR R v v' := by
  unfold lookupE at h
  split at h
  · rename_i kt et hu
    split at h
    · rename_i z hko hz
      obtain ⟨d, hd, hkind⟩ := keyOK_spec hko
      obtain ⟨i, zv, hi, hzv, hzr⟩ := zeroV_R (R := R) hz
      have hzrun : (zeroValue et).run P w = .ok zv w := by simp [zeroValue, typeInfo, hi, hzv]
      have fin : ∀ (es : List MapEntry), ((vx = .map none ∧ es = []) ∨ ∃ b cl, vx = .map (some b) ∧ w.heap[b]? = some (.map es.toArray cl)) → ∀ {res : Option (Nat × Value)}, Instr.findNow d vk es 0 = some res →
          (Instr.lookup t vx vk ok).run P w = .ok (lookRes ok zv res) w := by
        intro es hsrc res hf
        refine lookup_run (es := es.toArray) (hsrc.imp (fun h => ⟨h.1, by rw [h.2]⟩) id) hu (check_run hd hkind hk _ 9999 w) ?_ hzrun
        simp [Instr.findKey, run_underlying hd, hf]
      split at h
      · rename_i j u hf
        cases h
        split at hf
        · rename_i k
          split at hf
          · rename_i es cl hes
            obtain ⟨b, c, hR, rfl⟩ := hx
            obtain ⟨es', h1, h2, h3, _⟩ := HH.map hes hR
            rcases findE_R hkind hk hf h2 h3 with ⟨h4, _⟩ | ⟨j', u', v', _, h4, h5, h6, _⟩
            · cases h4
            · cases h4
              exact ⟨_, fin es' (.inr ⟨b, cl, rfl, h1⟩) h5, okE_R h6⟩
          · cases hf
        · cases hf
        · cases hf
      · rename_i hf
        cases h
        split at hf
        · rename_i k
          split at hf
          · rename_i es cl hes
            obtain ⟨b, c, hR, rfl⟩ := hx
            obtain ⟨es', h1, h2, h3, _⟩ := HH.map hes hR
            rcases findE_R hkind hk hf h2 h3 with ⟨_, h4⟩ | ⟨j', u', v', _, h4, _⟩
            · exact ⟨_, fin es' (.inr ⟨b, cl, rfl, h1⟩) h4, okE_R hzr⟩
            · cases h4
          · cases hf
        · have hx : vx = .map none := hx
          exact ⟨_, fin [] (.inl ⟨hx, rfl⟩) rfl, okE_R hzr⟩
        · cases hf
      · cases h
    · cases h
  · cases h
/-- A map with one entry more, or another value. -/
def setNth {α : Type} : List α → Nat → α → List α
  | [], _, _ => []
  | _ :: l, 0, a => a :: l
  | x :: l, i + 1, a => x :: setNth l i a
def bornAt (es : List (EV × EV × Nat)) (i : Nat) : Nat := match nthG es i with
  | some e => e.2.2
  | none => 0
def mapSetE (P : Program) (H : T Blk) (t : TypeId) (x key v : EV) : Option (T Blk) := match P.underlying t with
  | some (.map kt _) => match keyOK P kt key, x with
    | true, .map k => match H.get k with
      | some (.map es cl) => match findE key es 0 with
        | some (some (i, _)) => some (H.put k (.map (setNth es i (key, v, bornAt es i)) cl))
        | some none => some (H.put k (.map (es ++ [(key, v, cl)]) (cl + 1)))
        | none => none
      | _ => none
    | _, _ => none
  | _ => none
theorem VRs.setNth {xs : List EV} {vs : List Value} (h : VRs R xs vs) (i : Nat) {x : EV} {v : Value} (hx : VR R x v) : VRs R (E.setNth xs i x) (vs.set i v) := by
  induction xs generalizing vs i with
  | nil => rw [show vs = [] from h]; exact rfl
  | cons y ys ih =>
    obtain ⟨u, us, rfl, k1, k2⟩ := h
    cases i with
    | zero => exact ⟨v, us, rfl, hx, k2⟩
    | succ i => exact ⟨u, us.set i v, rfl, k1, ih k2 i⟩
theorem map_setNth {α β : Type} (f : α → β) : ∀ (l : List α) (i : Nat) (a : α), (setNth l i a).map f = setNth (l.map f) i (f a)
  | [], _, _ => rfl
  | _ :: _, 0, _ => rfl
  | x :: l, i + 1, a => by simp [setNth, map_setNth f l i a]
theorem setNth_eq {α : Type} : ∀ (l : List α) (i : Nat) (a : α), setNth l i a = l.set i a
  | [], _, _ => rfl
  | _ :: _, 0, _ => rfl
  | x :: l, i + 1, a => by simp [setNth, setNth_eq l i a]
theorem same_bits {d : TypeDesc} {k : EV} {vk old : Value} (hkind : (∃ i, d = .int i ∧ ∃ a b, k = .int a b) ∨ (d = .string ∧ ∃ a, k = .str a)) (hk : VR R k vk) (h : Instr.sameNow d vk old = some true) (n : Nat) : Instr.sameBits (n + 1) old vk = true := by
  rcases hkind with ⟨i, rfl, a, b, rfl⟩ | ⟨rfl, a, rfl⟩
  · have hk : vk = .int a b := hk
    subst hk
    cases old <;> simp only [Instr.sameNow] at h <;> first | (cases h; done) | skip
    split at h
    · rename_i e
      subst e
      simp only [Option.some.injEq, beq_iff_eq] at h
      subst h
      simp [Instr.sameBits]
    · cases h
  · have hk : vk = .string (bs a) := hk
    subst hk
    cases old <;> simp only [Instr.sameNow] at h <;> first | (cases h; done) | skip
    rename_i s
    simp only [Option.some.injEq] at h
    have h : bs a = s := by rw [beq_toListBytes, toList_beq] at h; exact of_decide_eq_true h
    subst h
    simp only [Instr.sameBits]
    rw [beq_toListBytes, toList_beq]
    simp
theorem mapSetE_run {H H' : T Blk} {t : TypeId} {x key v : EV} {vx vk vv : Value} {w : World} {id hi : Nat} (h : mapSetE P H t x key v = some H') (hx : VR R x vx) (hk : VR R key vk) (hv : VR R v vv) (HH : HR R H.get w.heap) :
    ∃ w', (Instr.mapUpdate t vx vk vv).run P w = .ok () w' ∧ After id hi R H.get w R H'.get w' := by
  unfold mapSetE at h
  split at h
  · rename_i kt et hu
    split at h
    · rename_i k hko
      obtain ⟨d, hd, hkind⟩ := keyOK_spec hko
      split at h
      · rename_i es cl hes
        obtain ⟨b, c, hR, rfl⟩ := hx
        obtain ⟨es', h1, h2, h3, h4⟩ := HH.map hes hR
        have hb : b < w.heap.size := (Array.getElem?_eq_some_iff.1 h1).1
        have hc := check_run (P := P) (R := R) hd hkind hk false 9999 w
        have hset : ∀ o : Obj, (setObj b o).run P w = .ok () { w with heap := w.heap.setIfInBounds b o } := fun o => by simp [setObj, Sem.run, h1]
        have after : ∀ (es2 : List (EV × EV × Nat)) (es2' : List MapEntry) (cl2 : Nat), VRs R (es2.map fun e => e.1) (es2'.map fun e => e.key) → VRs R (es2.map fun e => e.2.1) (es2'.map fun e => e.val) → es2.map (fun e => e.2.2) = es2'.map (fun e => e.born) →
            After id hi R H.get w R (H.put k (.map es2 cl2)).get { w with heap := w.heap.setIfInBounds b (.map es2'.toArray cl2) } := fun es2 es2' cl2 g1 g2 g3 => by
          have := HH.write (lo := id) (hi := hi) (hp' := w.heap.setIfInBounds b (.map es2'.toArray cl2)) hes trivial (B' := .map es2 cl2) trivial hR (by simp) (fun b' hb' => by rw [Array.getElem?_setIfInBounds_ne (Ne.symm hb')])
            ⟨es2', by rw [Array.getElem?_setIfInBounds]; simp [hb], g1, g2, g3⟩
          rw [get_put_upd]
          exact ⟨this.1, this.2, ⟨rfl, rfl, rfl⟩⟩
        split at h
        · rename_i i u hf
          cases h
          rcases findE_R hkind hk hf h2 h3 with ⟨h5, _⟩ | ⟨j, u', v', e', h5, h6, _, h7, h8, h9⟩
          · cases h5
          · simp only [Nat.zero_add, Option.some.injEq, Prod.mk.injEq] at h5 h6
            obtain ⟨rfl, rfl⟩ := h5
            have hj : i < es'.length := (List.getElem?_eq_some_iff.1 h7).1
            refine ⟨_, ?_, after (setNth es i (key, v, bornAt es i)) (es'.set i { e' with key := vk, val := vv }) cl ?_ ?_ ?_⟩
            · have hfk : (Instr.findKey kt vk es').run P w = .ok (some (i, v')) w := by simp [Instr.findKey, run_underlying hd, h6]
              have hmod : (es'.toArray.modify i fun e => { e with key := vk, val := vv }) = (es'.set i { e' with key := vk, val := vv }).toArray := by
                apply Array.toList_inj.1
                apply List.ext_getElem?
                intro j
                rw [Array.getElem?_toList, Array.getElem?_modify]
                simp only [List.getElem?_toArray, List.getElem?_set]
                by_cases e : i = j
                · subst e
                  have h10 : es'[i] = e' := (List.getElem?_eq_some_iff.1 h7).2
                  simp [hj, h10]
                · simp [e]
              have hstay : (Instr.keyThatStays e'.key vk).run P w = .ok vk w := by
                simp [Instr.keyThatStays, same_bits hkind hk h8 9999]
              have hget : ((es'.toArray[i]?).map (·.key)).getD vk = e'.key := by simp [h7]
              unfold Instr.mapUpdate
              simp only [Sem.run_bind, run_underlying hu, Result.andThen_ok, run_getMap h1, hc, hfk, hget, hstay, hmod]
              exact hset _
            · rw [map_setNth]
              have := h2.setNth i hk
              simpa [List.map_set] using this
            · rw [map_setNth]
              have := h3.setNth i hv
              simpa [List.map_set] using this
            · rw [map_setNth, setNth_eq, h4, List.map_set]
              have hb2 : bornAt es i = e'.born := by
                have h10 : (es.map fun e => e.2.2)[i]? = some e'.born := by rw [h4]; simp [h7]
                unfold bornAt
                rw [nthG_eq]
                rw [List.getElem?_map] at h10
                cases he : es[i]? with
                | none => rw [he] at h10; cases h10
                | some y => rw [he] at h10; simpa using h10
              simp only [hb2]
        · rename_i hf
          cases h
          rcases findE_R hkind hk hf h2 h3 with ⟨_, h6⟩ | ⟨j, u', v', e', h5, _⟩
          · refine ⟨_, ?_, after (es ++ [(key, v, cl)]) (es' ++ [{ key := vk, val := vv, born := cl }]) (cl + 1) ?_ ?_ ?_⟩
            · have hfk : (Instr.findKey kt vk es').run P w = .ok none w := by simp [Instr.findKey, run_underlying hd, h6]
              unfold Instr.mapUpdate
              simp only [Sem.run_bind, run_underlying hu, Result.andThen_ok, run_getMap h1, hc, hfk]
              have : es'.toArray.push ({ key := vk, val := vv, born := cl } : MapEntry) = (es' ++ [({ key := vk, val := vv, born := cl } : MapEntry)]).toArray := by simp
              rw [this]
              exact hset _
            · simpa using h2.append (VRs.one hk)
            · simpa using h3.append (VRs.one hv)
            · simp [h4]
          · cases h5
        · cases h
      · cases h
    · cases h
  · cases h
/-! ### Copying -/
def copyE (P : Program) (H : T Blk) (t : TypeId) (d x : EV) : Option (EV × T Blk) := match P.underlying t with
  | some (.slice e) => match sizeB P e, d with
    | some sz, .slc k off dl _ _ => match x with
      | .flat (.slice none 0 0) => some (.int .i64 (.ofNat 0), H)
      | .slc k2 off2 m _ _ => match H.get k, H.get k2 with
        | some (.row ty n cs), some (.row _ _ cs2) => match getN cs2 off2 (Nat.min m dl * sz) with
          | some nl => match onesE nl && Nat.ble (off + Nat.min m dl * sz) n with
            | true => some (.int .i64 (.ofNat (Nat.min m dl)), H.put k (.row ty n (cs.puts off nl)))
            | false => none
          | none => none
        | _, _ => none
      | _ => none
    | _, _ => none
  | _ => none
theorem copyE_run {H H' : T Blk} {t t' ty0 : TypeId} {d x v : EV} {vd vx : Value} {w : World} {id hi : Nat} (h : copyE P H t d x = some (v, H')) (hd : VR R d vd) (hx : VR R x vx) (HH : HR R H.get w.heap) :
    ∃ v' w', (Builtin.copy_ #[t, t'] ty0 #[vd, vx]).run P w = .ok v' w' ∧ VR R v v' ∧ After id hi R H.get w R H'.get w' := by
  unfold copyE at h
  split at h
  · rename_i e hu
    split at h
    · rename_i sz k off dl s c hsz
      obtain ⟨b, cc, cap, hR, rfl, _⟩ := hd
      obtain ⟨i, hi', hsz⟩ := sizeB_spec hsz
      split at h
      · cases h
        have hx : vx = .slice none 0 0 := hx
        subst hx
        refine ⟨.int .i64 0, w, ?_, rfl, ⟨HH, Go_.refl _ _ _ _ _, .refl _⟩⟩
        simp [Builtin.copy_, run_underlying hu, Builtin.lenOf, Builtin.firstCells, sizeOf, typeInfo, hi', storeCells, goInt]
      · rename_i k2 off2 m s2 c2
        obtain ⟨b2, cc2, cap2, hR2, rfl, _⟩ := hx
        split at h
        · rename_i ty n cs ty2 n2 cs2 hk hk2
          split at h
          · rename_i nl hnl
            split at h
            · rename_i hb
              simp only [Bool.and_eq_true, Nat.ble_eq] at hb
              cases h
              obtain ⟨cur, hcur, hc, hn, hcs⟩ := HH.row hk hR
              obtain ⟨cur2, hcur2, hc2, hn2, hcs2⟩ := HH.row hk2 hR2
              obtain ⟨us, h1, h2⟩ := getN_R (fun i x hx => (hcs2 i x hx).2) hnl
              have hlen : us.length = Nat.min m dl * sz := by rw [h1.length, getN_length hnl]
              have hnll : nl.length = Nat.min m dl * sz := getN_length hnl
              refine ⟨.int .i64 ((Nat.min m dl : Nat) : Int), _, ?_, rfl, write_after HH hk hR hcur h1 (by omega) (Nat.le_refl _) hn⟩
              have h3 := run_firstCells_some (P := P) w i.size (Nat.min m dl) ⟨b2, off2, none⟩ m cap2 us (by rw [hsz]; exact hlen) (fun j u hj => by rw [Addr.add_lit]; exact cell_of hcur2 (h2 j u hj))
              have h4 := run_storeCells_at P b off ty us 0 cur w hcur (by omega) (onesE_spec h1 hb.1)
              simp only [Nat.add_zero] at h4
              simp [Builtin.copy_, run_underlying hu, Builtin.lenOf, sizeOf, typeInfo, hi', goInt]
              rw [h3]
              simp
              rw [h4]
              simp
            · cases h
          · cases h
        · cases h
      · cases h
    · cases h
  · cases h
/-! ### Strings, rune by rune (of one byte each) -/
def nextE (H : T Blk) : EV → Option (EV × T Blk)
  | .ptr k 0 => match H.get k with
    | some (.iter l pos) => match nthG l pos with
      | some b => match Nat.blt (b % 256) 128 with
        | true => some (.tup [.bool true, .int .i64 (.ofNat pos), .int .i32 (.ofNat (b % 256))], H.put k (.iter l (pos + 1)))
        | false => none
      | none => some (.tup [.bool false], H)
    | _ => none
  | _ => none
theorem nextE_run {H H' : T Blk} {x v : EV} {vx : Value} {ty : TypeId} {w : World} {id hi : Nat} (h : nextE H x = some (v, H')) (hx : VR R x vx) (HH : HR R H.get w.heap) :
    ∃ v' w', (Instr.next vx true ty).run P w = .ok v' w' ∧ VR R v v' ∧ After id hi R H.get w R H'.get w' := by
  unfold nextE at h
  split at h
  · rename_i k
    obtain ⟨b, c, hR, rfl⟩ := hx
    split at h
    · rename_i l pos hk
      obtain ⟨b', c', h1, h2⟩ := HH.blk k _ hk trivial
      obtain ⟨rfl, rfl⟩ := HH.fn _ _ _ _ _ hR h1
      have h2 : w.heap[b]? = some (.stringIter (bs l) pos) := h2
      have hb : b < w.heap.size := (Array.getElem?_eq_some_iff.1 h2).1
      split at h
      · rename_i byte hbyte
        split at h
        · rename_i hlt
          have hlt : byte % 256 < 128 := by simpa using hlt
          cases h
          rw [nthG_eq] at hbyte
          have hpl : pos < l.length := (List.getElem?_eq_some_iff.1 hbyte).1
          have hps : pos < (bs l).size := by rw [bs_size]; exact hpl
          have hget : (bs l)[pos]'hps = UInt8.ofNat byte := by
            have h3 : l[pos] = byte := (List.getElem?_eq_some_iff.1 hbyte).2
            show (l.map UInt8.ofNat).toArray[pos]'(by simpa using hpl) = _
            simp [h3]
          have hnat : ((bs l)[pos]'hps).toNat = byte % 256 := by rw [hget]; simp
          have hdec := decode_ascii (bs l) pos hps (by rw [hnat]; exact hlt)
          refine ⟨.tuple #[.bool true, .int .i64 (pos : Int), .int .i32 ((byte % 256 : Nat) : Int)], { w with heap := w.heap.setIfInBounds b (.stringIter (bs l) (pos + 1)) }, ?_, ⟨[_, _, _], rfl, _, _, rfl, rfl, _, _, rfl, rfl, _, _, rfl, rfl, rfl⟩, ?_⟩
          · simp [Instr.next, getObj, setObj, Sem.run, h2, hps, hdec, hnat, goInt]
          · have := HH.write (lo := id) (hi := hi) (hp' := w.heap.setIfInBounds b (.stringIter (bs l) (pos + 1))) hk trivial (B' := .iter l (pos + 1)) trivial hR (by simp) (fun b' hb' => by rw [Array.getElem?_setIfInBounds_ne (Ne.symm hb')])
              (by show _ = _; rw [Array.getElem?_setIfInBounds]; simp [hb])
            rw [get_put_upd]
            exact ⟨this.1, this.2, ⟨rfl, rfl, rfl⟩⟩
        · cases h
      · rename_i hbyte
        cases h
        rw [nthG_eq] at hbyte
        have hpl : ¬ pos < (bs l).size := by
          rw [bs_size]
          intro hlt
          rw [List.getElem?_eq_getElem hlt] at hbyte
          cases hbyte
        exact ⟨.tuple #[.bool false], w, by simp [Instr.next, getObj, Sem.run, h2, hpl], ⟨[_], rfl, _, _, rfl, rfl, rfl⟩, HH, Go_.refl _ _ _ _ _, .refl _⟩
    · cases h
  · cases h
/-! ### One step -/
/-- What only reads. -/
def readE (P : Program) (rd : Rd) (H : T Blk) : Op → Option EV
  | .load t x => match rd x with
    | some v => loadE P H t v
    | none => none
  | .lookup t x y ok => match rd x, rd y with
    | some a, some b => lookupE P H t ok a b
    | _, _ => none
  | op => pureE P rd op
theorem readE_run {rd : Rd} {ρ : Operand → Value} {o : Oper} {H : T Blk} {v : EV} {w : World} (h : readE P rd H o.op = some v) (hr : RdR R rd ρ) (HH : HR R H.get w.heap) : ∃ v', (execOp ρ o).run P w = .ok (.value v') w ∧ VR R v v' := by
  unfold readE at h
  split at h
  · rename_i t x hop
    split at h
    · rename_i u hc
      obtain ⟨v', h1, h2⟩ := loadE_run h (hr _ _ hc) HH
      exact ⟨v', by unfold execOp; rw [hop]; exact run_v h1, h2⟩
    · cases h
  · rename_i t x y ok hop
    split at h
    · rename_i a b h1 h2
      obtain ⟨v', h3, h4⟩ := lookupE_run h (hr _ _ h1) (hr _ _ h2) HH
      exact ⟨v', by unfold execOp; rw [hop]; exact run_v h3, h4⟩
    · cases h
  · exact pureE_run h hr w
/-- What turns the heap. -/
def turnE (P : Program) (rd : Rd) (id : Nat) (H : T Blk) : Op → Option (Option EV × T Blk)
  | .store t x y => match rd x, rd y with
    | some a, some b => match storeE P H t a b with
      | some H' => some (none, H')
      | none => none
    | _, _ => none
  | .mapUpdate t m k x => match rd m, rd k, rd x with
    | some a, some b, some c => match mapSetE P H t a b c with
      | some H' => some (none, H')
      | none => none
    | _, _, _ => none
  | .insert t m k x => match rd m, rd k, rd x with
    | some a, some b, some c => match mapSetE P H t a b c with
      | some H' => some (none, H')
      | none => none
    | _, _, _ => none
  | .next x true => match rd x with
    | some a => match nextE H a with
      | some (v, H') => some (some v, H')
      | none => none
    | none => none
  | .call cl => match cl.callee, cl.args.toList, cl.argTypes.toList with
    | .builtin .append, [x, y], [t, t'] => match Nat.beq t t', rd x, rd y with
      | true, some a, some b => match appendE P H id t a b with
        | some (v, H') => some (some v, H')
        | none => none
      | _, _, _ => none
    | .builtin .copy, [x, y], [t, _] => match rd x, rd y with
      | some a, some b => match copyE P H t a b with
        | some (v, H') => some (some v, H')
        | none => none
      | _, _ => none
    | _, _, _ => none
  | _ => none
def StepR (R' : Rel) (v : Option EV) (nx : Next) : Prop := match v with
  | some v => ∃ v', nx = .value v' ∧ VR R' v v'
  | none => nx = .skip
theorem turnE_run {rd : Rd} {ρ : Operand → Value} {o : Oper} {id : Nat} {H H' : T Blk} {v : Option EV} {w : World} (h : turnE P rd id H o.op = some (v, H')) (hr : RdR R rd ρ) (HH : HR R H.get w.heap) (hid : ∀ b c, ¬ R id b c) :
    ∃ R' nx w', (execOp ρ o).run P w = .ok nx w' ∧ StepR R' v nx ∧ After id (id + 1) R H.get w R' H'.get w' := by
  obtain ⟨dst, op, ty, pos, aft, gd⟩ := o
  simp only at h
  unfold turnE at h
  split at h
  · split at h
    · rename_i a b h1 h2
      split at h
      · rename_i H2 hs
        cases h
        obtain ⟨w', h3, h4⟩ := storeE_run (id := id) (hi := id + 1) hs (hr _ _ h1) (hr _ _ h2) HH
        exact ⟨R, .skip, w', by simp [execOp, h3], rfl, h4⟩
      · cases h
    · cases h
  · split at h
    · rename_i a b c h1 h2 h3
      split at h
      · rename_i H2 hs
        cases h
        obtain ⟨w', h5, h6⟩ := mapSetE_run (id := id) (hi := id + 1) hs (hr _ _ h1) (hr _ _ h2) (hr _ _ h3) HH
        exact ⟨R, .skip, w', by simp [execOp, h5], rfl, h6⟩
      · cases h
    · cases h
  · split at h
    · rename_i a b c h1 h2 h3
      split at h
      · rename_i H2 hs
        cases h
        obtain ⟨w', h5, h6⟩ := mapSetE_run (id := id) (hi := id + 1) hs (hr _ _ h1) (hr _ _ h2) (hr _ _ h3) HH
        exact ⟨R, .skip, w', by simp [execOp, h5], rfl, h6⟩
      · cases h
    · cases h
  · split at h
    · rename_i a h1
      split at h
      · rename_i v2 H2 hs
        cases h
        obtain ⟨v', w', h5, h6, h7⟩ := nextE_run (P := P) (ty := ty) (id := id) (hi := id + 1) hs (hr _ _ h1) HH
        exact ⟨R, .value v', w', by simp [execOp, h5], ⟨v', rfl, h6⟩, h7⟩
      · cases h
    · cases h
  · rename_i cl
    split at h
    · rename_i x y t t' hc ha ht
      split at h
      · rename_i a b htt h1 h2
        have htt := Nat.eq_of_beq_eq_true htt
        subst htt
        split at h
        · rename_i v2 H2 hs
          cases h
          obtain ⟨R', v', w', h3, h4, h5⟩ := appendE_run (ty0 := ty) hs (hr _ _ h1) (hr _ _ h2) HH hid
          refine ⟨R', .value v', w', ?_, ⟨v', rfl, h4⟩, h5⟩
          have h6 : cl.args.map ρ = #[ρ x, ρ y] := by apply Array.toList_inj.1; simp [ha]
          have h7 : cl.argTypes = #[t, t] := by apply Array.toList_inj.1; simp [ht]
          simp only [execOp, resolve, hc, Sem.run_bind, Sem.run_pure, Result.andThen_ok, invoke, h6, h7, builtin]
          simp [h3]
        · cases h
      · cases h
    · rename_i x y t t' hc ha ht
      split at h
      · rename_i a b h1 h2
        split at h
        · rename_i v2 H2 hs
          cases h
          obtain ⟨v', w', h3, h4, h5⟩ := copyE_run (t' := t') (ty0 := ty) (id := id) (hi := id + 1) hs (hr _ _ h1) (hr _ _ h2) HH
          refine ⟨R, .value v', w', ?_, ⟨v', rfl, h4⟩, h5⟩
          have h6 : cl.args.map ρ = #[ρ x, ρ y] := by apply Array.toList_inj.1; simp [ha]
          have h7 : cl.argTypes = #[t, t'] := by apply Array.toList_inj.1; simp [ht]
          simp only [execOp, resolve, hc, Sem.run_bind, Sem.run_pure, Result.andThen_ok, invoke, h6, h7, builtin]
          simp [h3]
        · cases h
      · cases h
    · cases h
  · cases h
end
end Go.Proofs.YtafochlcnjeanaaGreat.E
