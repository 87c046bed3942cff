/- Facts that hold many facts; structs that lie in rows, in variables; calls of closures; sums that wrap. For whatever program. -/
import Derived.Test.YtjnineeeffecaaaX11
namespace Go.Proofs.Ytjnineeeffecaaa.X
open Go Go.RowKit

/-! ### Many facts as one -/
def FP.all (l : List FP) : FP where
  h O w := ∀ φ ∈ l, φ.h O w
  mono := fun h hs hk hO φ hφ => φ.mono (h φ hφ) hs hk hO
def FP.nil : FP := FP.all []
theorem sub0 {Φ : List FP} : ∀ φ ∈ ([] : List FP), φ ∈ Φ := fun _ h => nomatch h
theorem subC {a : FP} {l Φ : List FP} (h : a ∈ Φ) (k : ∀ φ ∈ l, φ ∈ Φ) : ∀ φ ∈ a :: l, φ ∈ Φ := fun φ hφ => (List.mem_cons.1 hφ).elim (fun e => e ▸ h) (k φ)
/-- The elements that begin there. -/
def At (xs : List Value) (j : Nat) (vs : List Value) : Prop := ∀ (k : Nat) u, vs[k]? = some u → xs[j + k]? = some u
theorem At.one {xs vs : List Value} {j : Nat} {u : Value} (h : At xs j (u :: vs)) : xs[j]? = some u := h 0 u rfl
theorem flat_at {α : Type} (f : α → List Value) (sz : Nat) : ∀ (l : List α) (_ : ∀ a ∈ l, (f a).length = sz) (i : Nat) (a : α), l[i]? = some a → At ((l.map f).flatten) (i * sz) (f a)
  | [], _, i, a, h => by simp at h
  | b :: l, hl, 0, a, h => by
    cases h
    intro k u hk
    have hk' := (List.getElem?_eq_some_iff.1 hk).1
    rw [Nat.zero_mul, Nat.zero_add, List.map_cons, List.flatten_cons, List.getElem?_append_left hk']
    exact hk
  | b :: l, hl, i + 1, a, h => by
    intro k u hk
    have := flat_at f sz l (fun a ha => hl a (List.mem_cons_of_mem _ ha)) i a (by simpa using h) k u hk
    have hb := hl b List.mem_cons_self
    rw [List.map_cons, List.flatten_cons, List.getElem?_append_right (by rw [hb, Nat.add_mul]; omega), hb, show (i + 1) * sz + k - sz = i * sz + k by rw [Nat.add_mul]; omega]
    exact this
theorem flat_len {α : Type} (f : α → List Value) (sz : Nat) : ∀ (l : List α) (_ : ∀ a ∈ l, (f a).length = sz), ((l.map f).flatten).length = l.length * sz
  | [], _ => by simp
  | b :: l, hl => by
    rw [List.map_cons, List.flatten_cons, List.length_append, flat_len f sz l (fun a ha => hl a (List.mem_cons_of_mem _ ha)), hl b List.mem_cons_self, List.length_cons, Nat.add_mul]
    omega

section
variable {P : Program} {n : Nat} {Q : Post} {ρ : Env} {ds : List Deferred} {A : World → Prop} {ops : Array Oper} {rest : List Oper} {o : Oper} {d q : Nat} {c : Cx} {L L' : List SP} {Φ : List FP} {w : World}
theorem St.all {l : List FP} {φ : FP} (s : FP.all l ∈ Φ) (hφ : φ ∈ l) (h : St c L Φ w) : ∃ O, φ.h O w := by
  obtain ⟨O, h1⟩ := h.has s
  exact ⟨O, h1 φ hφ⟩
theorem St.rowAll {l : List FP} {size m : Nat} {v : Value} {xs : List Value} (s : FP.all l ∈ Φ) (hφ : Row.fp size v m xs ∈ l) (h : St c L Φ w) : Row size v m xs w := by
  obtain ⟨O, h1, _⟩ := h.all s hφ
  exact h1
/-- A fact out of many. -/
theorem St.pick {l : List FP} {φ : FP} (s : FP.all l ∈ Φ) (hφ : φ ∈ l) (h : St c L Φ w) : St c L (φ :: Φ) w := h.fact fun _ hΦ => hΦ _ s φ hφ
/-- Facts, as one. -/
theorem St.many {l : List FP} (h : St c L Φ w) (k : ∀ O, (∀ φ ∈ Φ, φ.h O w) → ∀ φ ∈ l, φ.h O w) : St c L (FP.all l :: Φ) w := h.fact fun O hΦ => k O hΦ
theorem Hd.to {K : List SP} {p : World → Prop} {w : World} (f : ∀ {L : List SP}, St c L Φ w → p w) (h : Hd c K Φ w) : p w := let ⟨_, h⟩ := h; f h
theorem row_fp_of_own {e size m : Nat} {v : Value} {xs : List Value} {O1 O : Nat → Prop} (h : (rowO e size v m xs).h O1 w) (hd : ∀ b, O1 b → ¬ O b) : (Row.fp size v m xs).h O w := by
  obtain ⟨h1, h2⟩ := h
  refine ⟨row_of_owns h2, fun b off m' cap hv hl => ?_⟩
  subst hv
  have hb : O1 b := (h1 b).2 (by
    rcases h2.2 with ⟨h3, _⟩ | ⟨g, cap', cur, h3, _⟩
    · cases h3
    · cases h3; rfl)
  exact ⟨(rowO e size (.slice (some ⟨b, off, none⟩) m' cap) m xs).lt (O := O1) ⟨h1, h2⟩ hb, hd b hb⟩
/-- A row that is written no more. -/
theorem St.rowFreeze {e size m : Nat} {v : Value} {xs : List Value} (s : Sel L (rowO e size v m xs) L') (h : St c L Φ w) : St c L' (Row.fp size v m xs :: Φ) w :=
  h.freeze s fun _ _ h1 hd _ => row_fp_of_own h1 hd
theorem St.celFreeze {b T m cap size : Nat} {cs : List Value} (s : Sel L (cel b cs.toArray T) L') (hl : cs.length = m * size) (hmc : m ≤ cap) (h : St c L Φ w) : St c L' (Row.fp size (.slice (some ⟨b, 0, none⟩) m cap) m cs :: Φ) w :=
  h.freeze s fun O1 O h1 hd _ => by
    refine ⟨⟨hl, .inr ⟨b, 0, cap, rfl, hmc, fun j u hj => ?_⟩⟩, fun b' off m' cap' hv _ => ?_⟩
    · obtain ⟨_, h2⟩ := h1
      simp [World.cell?, h2]
      simpa using hj
    · cases hv
      exact ⟨(cel b cs.toArray T).lt h1 ((h1.1 b).2 rfl), hd b ((h1.1 b).2 rfl)⟩
theorem St.fpNil (size : Nat) (h : St c L Φ w) : St c L (Row.fp size (.slice none 0 0) 0 [] :: Φ) w := h.fact fun O _ => ⟨row_nil size w, fun _ _ _ _ hv _ => by cases hv⟩
/-- What a row's value is. -/
theorem St.sliced {e size m : Nat} {v : Value} {xs : List Value} (s : Sel L (rowO e size v m xs) L') (h : St c L Φ w) : ∃ x : Option Addr × Nat, v = .slice x.1 m x.2 ∧ St c L Φ w := by
  rcases (h.row s).2 with ⟨rfl | ⟨b, off, s, rfl⟩, rfl⟩ | ⟨b, off, cap, rfl, _⟩
  · exact ⟨(none, 0), rfl, h⟩
  · exact ⟨(_, 0), rfl, h⟩
  · exact ⟨(_, cap), rfl, h⟩
/-- A literal's block, as a row of the call's own. -/
theorem St.celRow {b e m size : Nat} {cs : List Value} (s : Sel L (cel b cs.toArray e) L') (hl : cs.length = m * size) (hmx : Nat.ble m 65536 = true) (h : St c L Φ w) : St c (rowO e size (.slice (some ⟨b, 0, none⟩) m m) m cs :: L') Φ w :=
  h.turn (Lc := [cel b cs.toArray e]) (Lc' := [rowO e size (.slice (some ⟨b, 0, none⟩) m m) m cs]) (.cons s .nil) fun O ⟨O1, O2, ⟨h1, h2⟩, h3, hd, hU⟩ =>
    ⟨O1, O2, ⟨fun x => by rw [h1]; simp [Value.ownBlock, eq_comm], ⟨hl, .inr ⟨b, m, cs.toArray, rfl, Nat.zero_le _, h2, Nat.le_refl _, Nat.le_trans (Nat.le_of_ble_eq_true hmx) (by decide), by simpa using hl, by rw [← hl]; simp⟩⟩⟩, h3, hd, hU⟩

/-! ### Regions that read alone -/
def mayRead (o : Oper) : Bool := match o.op with
  | .store _ _ _ => false
  | .alloc _ => false
  | .box _ _ => false
  | .buildSlice _ _ _ => false
  | .makeSlice _ _ _ => false
  | .call cl => match cl.callee with
    | .builtin .append => false
    | _ => true
  | _ => true
def allRead : List Oper → Bool
  | [] => true
  | o :: l => mayRead o && allRead l
theorem XC.readsQ {id : Nat} {l : List Oper} (_ : allRead l = true) (hm : P.follows .mixedOrders = true) (hB : Region.lexB .any l.toArray = true) (hA : ∀ w m, A w → A { w with drawn := m })
    (h : XL P n l.toArray Q l.length l ρ ds A) : XC P n (.region id l.toArray true) Q ρ ds A := XC.reads hm hB hA h
/-! ### Structs -/
/-- A struct in a row, loaded. -/
theorem XL.ldsR {t size m j sz : Nat} {x : Operand} {v : Value} {xs vs : List Value} (hop : o.op = .load t x) (hd : o.dst = some d) (hn : Nat.blt d n = true) (hw : wantB ops ρ o = some true) (hx : evE ρ x = some (cellP v j))
    (ht : aggB P t = some true) (hs : sizeB P t = some sz) (hr : ∀ w, A w → Row size v m xs w) (hv : At xs j vs) (hl : vs.length = sz) (hpos : 0 < sz) (k : XL P n ops Q (q - 1) rest ((d, .agg vs.toArray) :: ρ) ds A) :
    XL P n ops Q q (o :: rest) ρ ds A :=
  XL.run (d := some d) hd hn hw (fun σ w hσ hA => by
    unfold execOp
    rw [hop]
    simp only [hσ.val hx]
    refine run_v ?_
    obtain ⟨inf, hi, hsz⟩ := sizeB_spec hs
    rcases (hr w hA).2 with ⟨_, rfl⟩ | ⟨b, off, cap, rfl, _, hc⟩
    · have h1 := (hr w hA).1
      have h2 : vs[0]? = some vs[0] := List.getElem?_eq_getElem (by omega)
      have := (List.getElem?_eq_some_iff.1 (hv 0 _ h2)).1
      omega
    · have := run_loadCells_list (P := P) (w := w) ⟨b, off + j, none⟩ vs (fun k v hk => by rw [Addr.add_lit, Nat.add_assoc]; exact hc _ _ (hv k v hk))
      simp [cellP, Instr.loadAt, Instr.sureAddr, loadVar, run_isAgg ht, sizeOf, typeInfo, hi, hsz, ← hl, this]) k
/-- An element by a number that isn't told as one that is natural. -/
theorem XL.iaI {t size m : Nat} {i : Int} {kd : IntKind} {x y : Operand} {v : Value} {xs : List Value} (hop : o.op = .indexAddr t x y) (hd : o.dst = some d) (hn : Nat.blt d n = true) (hw : wantB ops ρ o = some true)
    (hx : evE ρ x = some v) (hy : evE ρ y = some (.int kd i)) (he : elemSize P t = some size) (hr : ∀ w, A w → Row size v m xs w) (h0 : 0 ≤ i) (h : i < m)
    (k : XL P n ops Q (q - 1) rest ((d, cellP v (i.toNat * size)) :: ρ) ds A) : XL P n ops Q q (o :: rest) ρ ds A :=
  XL.iaR hop hd hn hw hx (by rw [hy]; congr 2; omega) he hr (j := i.toNat) (by omega) k
theorem XL.iaI1 {t m : Nat} {i : Int} {kd : IntKind} {x y : Operand} {v : Value} {xs : List Value} (hop : o.op = .indexAddr t x y) (hd : o.dst = some d) (hn : Nat.blt d n = true) (hw : wantB ops ρ o = some true)
    (hx : evE ρ x = some v) (hy : evE ρ y = some (.int kd i)) (he : elemSize P t = some (0 + 1)) (hr : ∀ w, A w → Row 1 v m xs w) (h0 : 0 ≤ i) (h : i < m)
    (k : XL P n ops Q (q - 1) rest ((d, cellP v i.toNat) :: ρ) ds A) : XL P n ops Q q (o :: rest) ρ ds A :=
  XL.iaI hop hd hn hw hx hy he hr h0 h (by rw [Nat.mul_one]; exact k)
/-- A field of a struct in a row. -/
theorem XL.faA {s f off size m j : Nat} {x : Operand} {v u : Value} {xs vs : List Value} (hop : o.op = .fieldAddr s x f) (hd : o.dst = some d) (hn : Nat.blt d n = true) (hw : wantB ops ρ o = some true) (hx : evE ρ x = some (cellP v j))
    (hf : fieldOff P s f = some off) (hr : ∀ w, A w → Row size v m xs w) (hv : At xs j (u :: vs)) (k : XL P n ops Q (q - 1) rest ((d, cellP v (j + off)) :: ρ) ds A) : XL P n ops Q q (o :: rest) ρ ds A :=
  XL.faR hop hd hn hw hx hf hr hv.one k
theorem XL.ldA {t size m j off : Nat} {x : Operand} {v u : Value} {xs vs : List Value} (hop : o.op = .load t x) (hd : o.dst = some d) (hn : Nat.blt d n = true) (hw : wantB ops ρ o = some true) (hx : evE ρ x = some (cellP v (j + off)))
    (ht : aggB P t = some false) (hr : ∀ w, A w → Row size v m xs w) (hv : At xs j vs) (hu : nth vs off = some u) (k : XL P n ops Q (q - 1) rest ((d, u) :: ρ) ds A) : XL P n ops Q q (o :: rest) ρ ds A :=
  XL.ldR hop hd hn hw hx ht hr (hv off u (by rw [← nth_eq]; exact hu)) k
def onesL : List Value → Bool
  | [] => true
  | v :: l => v.oneCell' && onesL l
theorem onesL_spec : ∀ {l : List Value}, onesL l = true → ∀ v ∈ l, v.oneCell' = true
  | [], _, _, h => nomatch h
  | v :: l, h, u, hu => by
    simp only [onesL, Bool.and_eq_true] at h
    rcases List.mem_cons.1 hu with rfl | hu
    · exact h.1
    · exact onesL_spec h.2 u hu
theorem St.setRow {b T : Nat} {cs : Array Value} (h : St c L Φ w) (s : Sel L (cel b cs T) L') (cs' : Array Value) : St c (cel b cs' T :: L') Φ (w.setRow b cs') := by
  refine h.step (Lc := [cel b cs T]) (Lc' := [cel b cs' T]) (.cons s .nil) (fun _ h => h) fun Oc hc _ => ?_
  obtain ⟨O1, O2, ⟨h1, h2⟩, h3, hd, hU⟩ := hc
  refine ⟨Oc, ⟨O1, O2, ⟨h1, setRow_heap w b cs cs' T _ h2⟩, h3, hd, hU⟩, ⟨rfl, rfl, rfl, by simp [World.setRow], fun b' _ hn => ?_⟩, fun _ h => .inl h⟩
  have hne : b' ≠ b := fun e => hn ((hU b').2 (.inl ((h1 b').2 e)))
  simp [World.setRow, Array.getElem?_modify, Ne.symm hne]
/-- A struct, stored into a variable that is written out. -/
theorem XL.sts {t b i sz T : Nat} {cs : Array Value} {x y : Operand} {vs l' : List Value} (hop : o.op = .store t x y) (hd : o.dst = none) (hw : wantB ops ρ o = some true)
    (hx : evE ρ x = some (.pointer (some ⟨b, i, none⟩))) (hy : evE ρ y = some (.agg vs.toArray)) (hs : sizeB P t = some sz) (hl : vs.length = sz) (h1 : onesL vs = true) (s : Sel L (cel b cs T) L') (hlay : layL cs.toList i vs = some l')
    (k : XL P n ops Q 0 rest ρ ds (St c (cel b l'.toArray T :: L') Φ)) : XL P n ops Q 0 (o :: rest) ρ ds (St c L Φ) :=
  XL.act hd hw (fun σ w hσ hA => ⟨_, by
    obtain ⟨h2, h3⟩ := layL_eq hlay
    obtain ⟨inf, hi, hsz⟩ := sizeB_spec hs
    unfold execOp
    rw [hop]
    simp only [hσ.val hx, hσ.val hy]
    have h4 := run_storeCells_at P b i T vs 0 cs w (hA.blk s) (by simpa using h2) (onesL_spec h1)
    simp only [Nat.add_zero, ← h3] at h4
    have h5 : (Value.agg vs.toArray).cells = vs.toArray := rfl
    simp [Instr.storeAt, Instr.sureAddr, storeVar, sizeOf, typeInfo, hi, hsz, h5, hl, h4], hA.setRow s l'.toArray⟩) k
/-! ### Sums that wrap -/
theorem XL.addw {t t' : TypeId} {x y : Operand} {a b : Int} (hop : o.op = .binOp .add t x y t') (hd : o.dst = some d) (hn : Nat.blt d n = true) (hw : wantB ops ρ o = some true) (hx : evE ρ x = some (.int .i64 a)) (hy : evE ρ y = some (.int .i64 b))
    (k : XL P n ops Q (q - 1) rest ((d, .int .i64 (IntKind.i64.wrap (a + b))) :: ρ) ds A) : XL P n ops Q q (o :: rest) ρ ds A :=
  XL.bin hop hd hn hw hx hy (fun w => by simp [binOp, eqGuard, Op.intArith]) k
theorem XL.subw {t t' : TypeId} {x y : Operand} {a b : Int} (hop : o.op = .binOp .sub t x y t') (hd : o.dst = some d) (hn : Nat.blt d n = true) (hw : wantB ops ρ o = some true) (hx : evE ρ x = some (.int .i64 a)) (hy : evE ρ y = some (.int .i64 b))
    (k : XL P n ops Q (q - 1) rest ((d, .int .i64 (IntKind.i64.wrap (a - b))) :: ρ) ds A) : XL P n ops Q q (o :: rest) ρ ds A :=
  XL.bin hop hd hn hw hx hy (fun w => by simp [binOp, eqGuard, Op.intArith]) k

/-! ### Closures -/
theorem XL.triF {Lc F : List SP} {Φc : List FP} {R : Ending → List SP → List FP → Prop} {cl : Call} {x : Operand} {f : FuncId} {fs cap args : List Value} (hT : Tri P f (fs ++ args ++ cap) Lc Φc R)
    (hop : o.op = .call cl) (hd : o.dst = some d) (hn : Nat.blt d n = true) (hw : wantB ops ρ o = some true) (hf : cl.callee = .value x) (hx : evE ρ x = some (.func (.func f) fs.toArray cap.toArray)) (ha : evs ρ cl.args.toList = some args) (he : entersB P f = true)
    (s : Sels L Lc F) (hΦ : ∀ φ ∈ Φc, φ ∈ Φ) (hR : ∀ L Φ, ¬ R .outgrown L Φ)
    (k : ∀ v L1 Φ1, R (.returned v) L1 Φ1 → XL P n ops Q 0 rest ((d, v) :: ρ) ds (St c (L1 ++ F) (Φ1 ++ Φ)))
    (kp : ∀ ch L1 Φ1, R (.panicked ch) L1 Φ1 → XQ Q (.panic ch) ρ ds (St c (L1 ++ F) (Φ1 ++ Φ))) : XL P n ops Q 0 (o :: rest) ρ ds (St c L Φ) := by
  refine XL.call (args := (fs ++ args ++ cap).toArray) (f := f) (d := some d) hd hn hw (fun σ w hσ _ => ?_) (fun w hA => St.call hT s hΦ hA) (fun w ⟨_, _, h, _⟩ => hR _ _ h) (fun v => ?_) (fun ch => ?_)
  · unfold execOp
    rw [hop]
    have h1 : cl.args.map (ev σ) = args.toArray := Array.toList_inj.1 (by simpa using hσ.vals ha)
    have h2 : fs.toArray ++ args.toArray ++ cap.toArray = (fs ++ args ++ cap).toArray := by simp
    simp only [resolve, hf, hσ.val hx, Deferred.ofValue, h1, invoke, Sem.run_bind, Sem.run_pure, Result.andThen_ok, h2]
    exact run_enter he _ w
  · rintro a h1 h2 h3 w ⟨L1, Φ1, hr, hS⟩
    exact (k v L1 Φ1 hr).zero h1 h2 h3 hS
  · rintro σ w hσ ⟨L1, Φ1, hr, hS⟩
    exact kp ch L1 Φ1 hr σ w hσ hS
/-- .. that hands over what is known. -/
theorem XL.triqF {Lc F : List SP} {Φc : List FP} {v : Value} {cl : Call} {x : Operand} {f : FuncId} {fs cap args : List Value} (hT : Tri P f (fs ++ args ++ cap) Lc Φc fun e L Φ => e = .returned v ∧ L = Lc ∧ Φ = [])
    (hop : o.op = .call cl) (hd : o.dst = some d) (hn : Nat.blt d n = true) (hw : wantB ops ρ o = some true) (hf : cl.callee = .value x) (hx : evE ρ x = some (.func (.func f) fs.toArray cap.toArray)) (ha : evs ρ cl.args.toList = some args) (he : entersB P f = true)
    (s : Sels L Lc F) (s' : Sels (Lc ++ F) L []) (hΦ : ∀ φ ∈ Φc, φ ∈ Φ) (k : XL P n ops Q (q - 1) rest ((d, v) :: ρ) ds (St c L Φ)) : XL P n ops Q q (o :: rest) ρ ds (St c L Φ) := by
  refine XL.qcall (args := (fs ++ args ++ cap).toArray) (f := f) (d := some d) (v := v) hd hn hw (fun σ w hσ _ => ?_) (fun w hA => (St.call hT s hΦ hA).mono ?_) k
  · unfold execOp
    rw [hop]
    have h1 : cl.args.map (ev σ) = args.toArray := Array.toList_inj.1 (by simpa using hσ.vals ha)
    have h2 : fs.toArray ++ args.toArray ++ cap.toArray = (fs ++ args ++ cap).toArray := by simp
    simp only [resolve, hf, hσ.val hx, Deferred.ofValue, h1, invoke, Sem.run_bind, Sem.run_pure, Result.andThen_ok, h2]
    exact run_enter he _ w
  · rintro e w' ⟨L1, Φ1, ⟨rfl, rfl, rfl⟩, hS⟩
    refine ⟨rfl, ?_⟩
    have := hS.turn s' (fun O h => h)
    simpa using this
/-- The end of a function of three results. -/
theorem XQ.ret3 {fn : Func} {R : Ending → List SP → List FP → Prop} {t u s : Nat} {v x y : Value} (h : fn.results = #[.tmp t, .tmp u, .tmp s]) (hv : find ρ t = some v) (hx : find ρ u = some x) (hy : find ρ s = some y)
    (hR : R (.returned (.tuple #[v, x, y])) L Φ) : XQ (bodyX P fn (Shows R c)) .ret ρ [] (St c L Φ) := fun σ w hσ hA =>
  ⟨rfl, _, fun tmps ht => by
    have e1 : tmps.getD t undef = σ t := congrFun ht t
    have e2 : tmps.getD u undef = σ u := congrFun ht u
    have e3 : tmps.getD s undef = σ s := congrFun ht s
    rw [hσ t v hv] at e1
    rw [hσ u x hx] at e2
    rw [hσ s y hy] at e3
    have e4 := And.intro e1 (And.intro e2 e3)
    simpa [results, h] using e4, L, Φ, hR, hA⟩
end
/-- One element of several cells more. -/
theorem XL.appendS {P : Program} {n : Nat} {Q : Post} {ρ : Env} {ds : List Deferred} {ops : Array Oper} {rest : List Oper} {o : Oper} {d : Nat} {c : Cx} {L : List SP} {Φ : List FP} {cl : Call} {t e size bytes m m' b cp T : Nat} {v : Value} {xs us xs' : List Value} {L1 L2 : List SP}
    (hop : o.op = .call cl) (hd : o.dst = some d) (hn : Nat.blt d n = true) (hw : wantB ops ρ o = some true) (hcb : cl.callee = .builtin .append)
    (hct : cl.argTypes = #[t, t]) (ha : evs ρ cl.args.toList = some [v, .slice (some ⟨b, 0, none⟩) 1 cp]) (s : Sel L (rowO e size v m xs) L1) (s2 : Sel L1 (cel b us.toArray T) L2) (s3 : ∃ L3, Sel L (cel b us.toArray T) L3) (hb : elemB P t = some (e, size, bytes))
    (hcp : 1 ≤ cp) (hl : us.length = 1 * size) (h1 : onesL us = true) (hbl : Nat.ble bytes 1024 = true) (hm : m < 137438953472) (hm' : m + 1 = m') (hxs : xs ++ us = xs')
    (k : ∀ v', XL P n ops Q 0 rest ((d, v') :: ρ) ds (St c (rowO e size v' m' xs' :: L2) Φ)) : XL P n ops Q 0 (o :: rest) ρ ds (St c L Φ) := by
  subst hm' hxs
  obtain ⟨L3, s3⟩ := s3
  exact XL.append (news := us) hop hd hn hw hcb hct ha s hb (fun w h => St.rowC (cs := us) s3 hl hcp h) (onesL_spec h1) hbl hm
    (fun v' => XL.conv (fun w h => h.drop (.there s2)) (k v'))
/-- The end, with what is told alone. -/
theorem XQ.done1 {P : Program} {ρ : Env} {c : Cx} {L L' F : List SP} {Φ Φ' : List FP} {fn : Func} {R : Ending → List SP → List FP → Prop} {t : Nat} {v : Value} (h : fn.results = #[.tmp t]) (hv : find ρ t = some v) (hR : R (.returned v) L' Φ') (s : Sels L L' F)
    (hΦ : ∀ φ ∈ Φ', φ ∈ Φ) : XQ (bodyX P fn (Shows R c)) .ret ρ [] (St c L Φ) := XQ.conv (fun _ hw => hw.less s hΦ) (XQ.ret1 h hv hR)
theorem XQ.done2 {P : Program} {ρ : Env} {c : Cx} {L L' F : List SP} {Φ Φ' : List FP} {fn : Func} {R : Ending → List SP → List FP → Prop} {t u : Nat} {v x : Value} (h : fn.results = #[.tmp t, .tmp u]) (hv : find ρ t = some v) (hx : find ρ u = some x)
    (hR : R (.returned (.tuple #[v, x])) L' Φ') (s : Sels L L' F) (hΦ : ∀ φ ∈ Φ', φ ∈ Φ) : XQ (bodyX P fn (Shows R c)) .ret ρ [] (St c L Φ) := XQ.conv (fun _ hw => hw.less s hΦ) (XQ.ret2 h hv hx hR)
theorem XQ.done3 {P : Program} {ρ : Env} {c : Cx} {L L' F : List SP} {Φ Φ' : List FP} {fn : Func} {R : Ending → List SP → List FP → Prop} {t u q : Nat} {v x y : Value} (h : fn.results = #[.tmp t, .tmp u, .tmp q]) (hv : find ρ t = some v) (hx : find ρ u = some x) (hy : find ρ q = some y)
    (hR : R (.returned (.tuple #[v, x, y])) L' Φ') (s : Sels L L' F) (hΦ : ∀ φ ∈ Φ', φ ∈ Φ) : XQ (bodyX P fn (Shows R c)) .ret ρ [] (St c L Φ) := XQ.conv (fun _ hw => hw.less s hΦ) (XQ.ret3 h hv hx hy hR)
/-- The end of a function whose one result is a struct in a variable. -/
theorem XQ.doneC {P : Program} {ρ : Env} {c : Cx} {L L' L1 F : List SP} {Φ Φ' : List FP} {fn : Func} {R : Ending → List SP → List FP → Prop} {t T U b sz : Nat} {vs : List Value} (h : fn.results = #[.cell t T]) (hv : find ρ t = some (.pointer (some ⟨b, 0, none⟩)))
    (ht : aggB P T = some true) (hs : sizeB P T = some sz) (s1 : Sel L (cel b vs.toArray U) L1) (hl : vs.length = sz) (hR : R (.returned (.agg vs.toArray)) L' Φ') (s : Sels L L' F) (hΦ : ∀ φ ∈ Φ', φ ∈ Φ) : XQ (bodyX P fn (Shows R c)) .ret ρ [] (St c L Φ) := fun σ w hσ hA =>
  ⟨rfl, _, fun tmps hh => by
    have e1 : tmps.getD t undef = σ t := congrFun hh t
    rw [hσ t _ hv] at e1
    obtain ⟨inf, hi, hsz⟩ := sizeB_spec hs
    have := run_loadCells_list (P := P) (w := w) ⟨b, 0, none⟩ vs (fun j v hj => by rw [Addr.add_lit]; exact hA.cell s1 (by simpa using hj))
    simp only [results, h]
    simp [-Array.getD_eq_getD_getElem?, e1, asAddr, loadVar, run_isAgg ht, sizeOf, typeInfo, hi, hsz, ← hl, this], L', Φ', hR, hA.less s hΦ⟩
/-- A slice's elements, appended: as large as there is room for. -/
theorem XL.appendB {P : Program} {n : Nat} {Q : Post} {ρ : Env} {ds : List Deferred} {ops : Array Oper} {rest : List Oper} {o : Oper} {d : Nat} {c : Cx} {L L' : List SP} {Φ : List FP} {cl : Call} {t e size bytes m k0 : Nat} {v x : Value} {xs news : List Value}
    (hop : o.op = .call cl) (hd : o.dst = some d) (hn : Nat.blt d n = true) (hw : wantB ops ρ o = some true) (hcb : cl.callee = .builtin .append)
    (hct : cl.argTypes = #[t, t]) (ha : evs ρ cl.args.toList = some [v, x]) (s : Sel L (rowO e size v m xs) L') (hb : elemB P t = some (e, size, bytes)) (hx : ∀ w, St c L Φ w → Row size x k0 news w)
    (h1 : ∀ u ∈ news, u.oneCell' = true) (hm : m + k0 ≤ maxLen) (hby : (m + k0) * bytes ≤ 140737488355328)
    (k : ∀ v', XL P n ops Q 0 rest ((d, v') :: ρ) ds (St c (rowO e size v' (m + k0) (xs ++ news) :: L') Φ)) : XL P n ops Q 0 (o :: rest) ρ ds (St c L Φ) := by
  refine XL.eff (α := Value) (v := fun v' => v') (B := fun v' w => St c (rowO e size v' (m + k0) (xs ++ news) :: L') Φ w) (d := some d) hd hn hw (fun σ w hσ hA => ?_) k
  obtain ⟨O1, _, ho⟩ := hA.own s
  obtain ⟨v', w', hr, h2, h3, h4⟩ := run_appendR (P := P) (ty := o.type) hb ho (hx w hA) h1 hm hby
  refine ⟨v', w', ?_, St.appended s hA h2 h3 h4⟩
  unfold execOp
  rw [hop]
  have h5 : cl.args.map (ev σ) = #[v, x] := Array.toList_inj.1 (by simpa using hσ.vals ha)
  simp [resolve, hcb, h5, hct, invoke, Go.builtin, hr]
end Go.Proofs.Ytjnineeeffecaaa.X
