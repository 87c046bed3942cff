/- Runs by numbers: regions that draw their order, whole; what a run by numbers shows of a function. For whatever program. -/
import Derived.Test.YtafochlcnjeanaaGreatX34
namespace Go.Proofs.YtafochlcnjeanaaGreat.E
open Go Go.RowKit X

/-- How many are not listed. -/
def unl : List Bool → Nat
  | [] => 0
  | true :: l => unl l
  | false :: l => unl l + 1
theorem unl_set : ∀ {l : List Bool} {i : Nat}, l[i]? = some false → unl (l.set i true) + 1 = unl l
  | [], i, h => by simp at h
  | x :: l, 0, h => by
    simp at h
    subst h
    rfl
  | x :: l, i + 1, h => by
    have := unl_set (l := l) (i := i) (by simpa using h)
    cases x <;> simp [unl] <;> omega
theorem unl_zero : ∀ {l : List Bool} {i : Nat}, unl l = 0 → l[i]? ≠ some false
  | [], i, _ => by simp
  | true :: l, 0, _ => by simp
  | true :: l, i + 1, h => by simpa using unl_zero (l := l) (i := i) h
  | false :: l, i, h => by simp [unl] at h
theorem unl_replicate (n : Nat) : unl (List.replicate n false) = n := by
  induction n with
  | zero => rfl
  | succ n ih => rw [List.replicate_succ]; simp [unl, ih]
theorem getD_false {b : Array Bool} {i : Nat} (h : b.getD i true = false) : b.toList[i]? = some false := by
  rw [Array.getD_eq_getD_getElem?] at h
  rw [Array.getElem?_toList]
  cases hb : b[i]? with
  | none => rw [hb] at h; cases h
  | some x => rw [hb] at h; simp at h; rw [h]

section
variable {P : Program} {call : CallE} {nt : Nat} {ops : Array Oper} {S0 : T EV} {n0 : Nat} {r : AS} {H0 : T Blk} {R0 : Rel} {w0 : World} {ds : List Deferred}
theorem finS_get {V : T EV} : ∀ {l : List Oper} {i : Nat} {s s' : T EV}, finS l i V s = some s' → ∀ t v, s'.get t = some v → (∃ k o, l[k]? = some o ∧ o.dst = some t ∧ V.get (i + k) = some v) ∨ (s.get t = some v ∧ ∀ (k : Nat) o, l[k]? = some o → o.dst ≠ some t)
  | [], i, s, s', h, t, v, hv => by
    simp only [finS] at h
    cases h
    exact .inr ⟨hv, fun k o hk => by simp at hk⟩
  | o :: l, i, s, s', h, t, v, hv => by
    simp only [finS] at h
    have lift : ∀ {s1 : T EV}, finS l (i + 1) V s1 = some s' → (s1.get t = some v → o.dst ≠ some t → s.get t = some v) → (s1.get t = some v → o.dst = some t → V.get i = some v) →
        (∃ k o', (o :: l)[k]? = some o' ∧ o'.dst = some t ∧ V.get (i + k) = some v) ∨ (s.get t = some v ∧ ∀ (k : Nat) o', (o :: l)[k]? = some o' → o'.dst ≠ some t) := by
      intro s1 h1 h2 h3
      rcases finS_get h1 t v hv with ⟨k, o', k1, k2, k3⟩ | ⟨k1, k2⟩
      · exact .inl ⟨k + 1, o', by simpa using k1, k2, by rw [show i + (k + 1) = i + 1 + k by omega]; exact k3⟩
      · by_cases hd : o.dst = some t
        · exact .inl ⟨0, o, by simp, hd, h3 k1 hd⟩
        · refine .inr ⟨h2 k1 hd, fun k o' hk => ?_⟩
          cases k with
          | zero => simp at hk; subst hk; exact hd
          | succ k => exact k2 k o' (by simpa using hk)
    split at h
    · rename_i hd
      exact lift h (fun h _ => h) (fun _ h2 => by rw [hd] at h2; cases h2)
    · rename_i d hd
      split at h
      · rename_i u hu
        refine lift h (fun h1 h2 => ?_) (fun h1 h2 => ?_)
        · rw [T.get_put, if_neg (fun e => h2 (by rw [hd, e]))] at h1
          exact h1
        · rw [hd] at h2
          cases h2
          rw [T.get_put, if_pos rfl] at h1
          rw [hu]
          exact h1
      · cases h
/-- Whatever comes up. -/
theorem any_go (hC : CallOK P call) (hL : loadsOK P ops.toList ops (ancT ops.toList) r.V S0 r.rc.reverse r.hp ops.toList 0 = true) (hrU : ∀ x y, x ∈ r.al → y ∈ r.al → x.1 = y.1 → x = y)
    (hF : ∀ k o, ops.toList[k]? = some o → ∃ s s1 v, FactR P call nt ops S0 n0 r k o s s1 v) {Q : Exit → Act → World → Prop}
    (hdone : ∀ b a w m R, Inv nt ops S0 n0 r H0 R0 w0 ds b a w m R → (∀ i, b.getD i true = true) → Q .normal a w) :
    ∀ (f : Nat) (b : Array Bool) (a : Act) (w : World) (m : Nat) (R : Rel), Inv nt ops S0 n0 r H0 R0 w0 ds b a w m R → unl b.toList = f → wpAny P .any ops Q f b a w := by
  intro f
  have hready : ∀ (b : Array Bool) (a : Act) (w : World) (m : Nat) (R : Rel), Inv nt ops S0 n0 r H0 R0 w0 ds b a w m R → Region.ready .any ops b = [] → ∀ i, b.getD i true = true := by
    intro b a w m R I hr i
    induction i using Nat.strongRecOn with
    | ind i ih =>
      cases hb : b.getD i true with
      | true => rfl
      | false =>
        have hlt : i < ops.toList.length := by
          rcases Nat.lt_or_ge i ops.toList.length with h | h
          · exact h
          · have hs := I.size
            rw [Array.getD_eq_getD_getElem?, Array.getElem?_eq_none (by omega)] at hb
            cases hb
        have ho := List.getElem?_eq_getElem hlt
        obtain ⟨s, s1, v, F⟩ := hF i _ ho
        have : i ∈ Region.ready .any ops b := mem_ready.2 ⟨hb, ops.toList[i], by simp, fun e he hbd => by
          have h1 := anc_direct ho (by simpa using he) hbd
          have h2 := bit_lt F.back h1
          have h3 := ih e.on h2
          have hs := I.size
          have h4 : e.on < b.size := by omega
          simp only [Array.getD_eq_getD_getElem?, Array.getElem?_eq_getElem h4] at h3 ⊢
          exact h3⟩
        rw [hr] at this
        cases this
  induction f with
  | zero =>
    intro b a w m R I hu
    have hall : ∀ i, b.getD i true = true := fun i => by
      cases hb : b.getD i true with
      | true => rfl
      | false => exact absurd (getD_false hb) (unl_zero hu)
    refine ⟨?_, hdone b a w m R I hall⟩
    cases hr : Region.ready .any ops b with
    | nil => rfl
    | cons i l =>
      have : i ∈ Region.ready .any ops b := by rw [hr]; exact List.mem_cons_self
      have := (mem_ready.1 this).1
      rw [hall i] at this
      cases this
  | succ f ih =>
    intro b a w m R I hu
    refine ⟨fun hr => hdone b a w m R I (hready b a w m R I hr), fun i hi => ?_⟩
    obtain ⟨hb, o, ho, hpre⟩ := mem_ready.1 hi
    have ho' : ops.toList[i]? = some o := by simpa using ho
    obtain ⟨s, s1, v, F⟩ := hF i o ho'
    have hlt : i < ops.toList.length := (List.getElem?_eq_some_iff.1 ho').1
    have hpre' : ∀ j, bit (ancT ops.toList) i j = true → b.getD j true = true := fun j hj => by
      obtain ⟨e, he, hbd, h1⟩ := anc_down ho' hj
      have h2 := hpre e (by simpa using he) hbd
      have h3 : b.getD e.on true = true := by
        cases h4 : b.getD e.on true with
        | true => rfl
        | false => rw [getD_both h4] at h2; cases h2
      rcases h1 with rfl | h1
      · exact h3
      · have h5 := bit_lt F.back (anc_direct ho' he hbd)
        exact I.down e.on (by omega) h3 j h1
    refine Inv.step hC hL hrU I F ho' hb hpre' fun a' w' m' R' I' => ih _ a' w' m' R' I' ?_
    have := unl_set (getD_false hb)
    rw [Array.toList_setIfInBounds]
    omega
theorem anyE_OK (hm : P.follows .mixedOrders = true) (call : CallE) (nt : Nat) (hC : CallOK P call) : AnyOK P nt (anyE P call nt) := by
  intro id ops s x s' h
  unfold anyE at h
  split at h
  · rename_i r hp
    split at h
    · rename_i hL
      split at h
      · rename_i sl hfin
        cases h
        have hk := passE_keep hC hp
        have hlow : Low 0 ({ V := .leaf, hp := s.hp, nx := s.nx + ops.toList.length, al := [], rc := [] } : AS) := ⟨fun k v h => (by simp [T.get] at h), (fun _ h => nomatch h), (fun _ h => nomatch h), (fun _ _ h => nomatch h)⟩
        have hF := passE_facts hC hp hlow
        have hF' : ∀ k o, ops.toList[k]? = some o → ∃ s2 s1 v, FactR P call nt ops s.sl s.nx r k o s2 s1 v := fun k o ho => by
          have := hF k o ho
          rw [Nat.zero_add] at this
          exact this
        have hrU : ∀ x y, x ∈ r.al → y ∈ r.al → x.1 = y.1 → x = y := by
          have : ∀ {l : List Oper} {i : Nat} {s1 r : AS}, passE P call nt ops.toList ops (ancT ops.toList) s.sl s.nx l i s1 = some r → Low i s1 → ∀ x y, x ∈ r.al → y ∈ r.al → x.1 = y.1 → x = y := by
            intro l
            induction l with
            | nil => intro i s1 r h hl; simp only [passE] at h; cases h; exact hl.alU
            | cons o l ih =>
              intro i s1 r h hl
              simp only [passE] at h
              split at h
              · rename_i s2 h1
                obtain ⟨_, _, _, v, hV, hkd⟩ := stepA_spec h1
                exact ih h (hl.step hV hkd)
              · cases h
          exact this hp hlow
        obtain ⟨rc', f1, f2, f3⟩ := hk.rc
        have hrc : rc' = r.rc := by rw [f1]; simp
        subst hrc
        have hHm0 : Hm r 0 = (s.hp, s.nx + ops.toList.length) := by
          have f3 : nextOf r.rc r.hp r.nx = (s.hp, s.nx + ops.toList.length) := f3
          rw [← f3]
          unfold Hm nextOf
          rw [← List.head?_eq_getElem?, List.head?_reverse]
          cases r.rc.getLast? <;> rfl
        have hnx : s.nx + ops.toList.length ≤ r.nx := hk.nx
        refine ⟨by show s.nx ≤ r.nx; omega, fun R w a base hn hd hs HH hFr => ?_⟩
        have hempty : ∀ i, i < ops.toList.length → (Array.replicate ops.size false).getD i true = false := fun i hi => by
          simp at hi
          simp [Array.getD_eq_getD_getElem?, hi]
        have hrcn : ∀ (k : Nat) x, r.rc.reverse[k]? = some x → x.1 < ops.toList.length := fun k x hx => by
          have : ∀ {l : List Oper} {i : Nat} {s1 r : AS}, passE P call nt ops.toList ops (ancT ops.toList) s.sl s.nx l i s1 = some r → Low i s1 → ∀ x ∈ r.rc, x.1 < i + l.length := by
            intro l
            induction l with
            | nil => intro i s1 r h hl; simp only [passE] at h; cases h; exact hl.rc
            | cons o l ih =>
              intro i s1 r h hl x hx
              simp only [passE] at h
              split at h
              · rename_i s2 h1
                obtain ⟨_, _, _, v, hV, hkd⟩ := stepA_spec h1
                have := ih h (hl.step hV hkd) x hx
                simp
                omega
              · cases h
          have := this hp hlow x (by simpa using List.mem_of_getElem? hx)
          omega
        show (Code.region id ops true).wp P _ a w
        refine wp_region_any hm ?_
        have hlag0 : lag ops s.nx r (Array.replicate ops.size false) = fun _ => none := by
          funext k
          unfold lag
          rw [if_neg]
          rintro ⟨h1, h2, h3⟩
          rw [hempty (k - s.nx) (by omega)] at h3
          cases h3
        have I0 : Inv nt ops s.sl s.nx r s.hp R { w with drawn := w.drawn + 1 } a.defers (Array.replicate ops.size false) a { w with drawn := w.drawn + 1 } 0 R := by
          refine ⟨by simp, fun i hi hb => ?_, fun k x hx => ?_, Nat.zero_le _, fun t v hv => ?_, ?_, fun k x c hR => .inl (hFr k x c hR), by rw [hHm0]; exact Nat.le_refl _, hn, rfl⟩
          · rw [hempty i hi] at hb; cases hb
          · rw [hempty x.1 (hrcn k x hx)]
            simp
          · refine hs t v ?_
            unfold slotNow at hv
            cases hw : wrOf t ops.toList 0 with
            | none => rw [hw] at hv; exact hv
            | some i =>
              rw [hw] at hv
              obtain ⟨_, o, h1, _⟩ := wrOf_spec hw
              have hi := (List.getElem?_eq_some_iff.1 h1).1
              simp only [hempty i (by omega)] at hv
              exact hv
          · rw [hHm0, hlag0]
            have : ov s.hp.get (fun _ => none) = s.hp.get := by
              funext k
              unfold ov
              cases s.hp.get k <;> rfl
            simp only
            rw [this]
            exact .refl HH
        have := any_go (Q := PostE nt base R s.hp.get s.nx w .norm { sl := sl, hp := addIf (fun _ => true) s.nx r.al r.hp, nx := r.nx, df := s.df }) hC hL hrU hF' (fun b a' w' m R' I hall => ?_) ops.size (Array.replicate ops.size false) a { w with drawn := w.drawn + 1 } 0 R I0
          (by rw [Array.toList_replicate, unl_replicate])
        · exact this
        · have hmM : Hm r m = (r.hp, r.nx) := by
            unfold Hm
            cases hx : r.rc.reverse[m]? with
            | none => rfl
            | some x => have := (I.anch m x hx).2 (hall _); omega
          have haft := I.aft
          rw [hmM] at haft
          simp only at haft
          have hov : ov r.hp.get (lag ops s.nx r b) = (addIf (fun _ => true) s.nx r.al r.hp).get := by
            funext k
            rw [addIf_get _ _ _ _ _ hrU]
            unfold ov
            cases r.hp.get k with
            | some B => rfl
            | none =>
              simp only [lag, hall, and_true]
              by_cases h1 : s.nx ≤ k
              · by_cases h2 : k < s.nx + ops.toList.length
                · rw [if_pos ⟨h1, h2⟩, if_pos h1]
                · rw [if_neg (fun h => h2 h.2), if_pos h1]
                  symm
                  refine lkup_none fun y hy => ?_
                  have : ∀ {l : List Oper} {i : Nat} {s1 r : AS}, passE P call nt ops.toList ops (ancT ops.toList) s.sl s.nx l i s1 = some r → Low i s1 → ∀ x ∈ r.al, x.1 < i + l.length := by
                    intro l
                    induction l with
                    | nil => intro i s1 r h hl; simp only [passE] at h; cases h; exact hl.al
                    | cons o l ih =>
                      intro i s1 r h hl x hx
                      simp only [passE] at h
                      split at h
                      · rename_i s2 h1
                        obtain ⟨_, _, _, v, hV, hkd⟩ := stepA_spec h1
                        have := ih h (hl.step hV hkd) x hx
                        simp
                        omega
                      · cases h
                  have := this hp hlow y hy
                  omega
              · rw [if_neg (fun h => h1 h.1), if_neg h1]
          rw [hov] at haft
          have haft2 : After s.nx r.nx R s.hp.get w R' (addIf (fun _ => true) s.nx r.al r.hp).get w' := ⟨haft.1, haft.2.1, ⟨haft.2.2.os, haft.2.2.tape, haft.2.2.output⟩⟩
          refine ⟨I.tm, R', haft2, ?_, fun t v hv => ?_, rfl⟩
          · rw [I.df]
            exact hd.after haft2
          · refine I.sl t v ?_
            unfold slotNow
            rcases finS_get hfin t v hv with ⟨k, o, h1, h2, h3⟩ | ⟨h1, h2⟩
            · obtain ⟨s2, s1, v', F⟩ := hF' k o h1
              rw [dupOK_spec (h2 ▸ F.dup)]
              simp only [hall]
              rw [Nat.zero_add] at h3
              exact h3
            · cases hw : wrOf t ops.toList 0 with
              | none => exact h1
              | some k =>
                obtain ⟨_, o, h3, h4⟩ := wrOf_spec hw
                exact absurd h4 (h2 _ o h3)
      · cases h
    · cases h
  · cases h

/-! ### What a run shows -/
/-- The run of a function, so many calls deep at most, so many rounds of a loop at most. -/
def run (P : Program) (f d : Nat) (g : FuncId) (args : List EV) : Option (Res × T Blk × Nat) := runF P (anyE P) f d g args .leaf 0
def isBool (b : Bool) : Option (Res × T Blk × Nat) → Bool
  | some (.ret (.bool c), _, _) => b == c
  | _ => false
theorem HR.empty (w : World) : HR (fun _ _ _ => False) (T.leaf : T Blk).get w.heap := ⟨fun _ _ h => (by simp [T.get] at h), fun _ _ h => (by simp [T.get] at h), fun _ _ _ _ _ _ _ h => h.elim, fun _ _ _ _ _ h => h.elim, fun _ _ _ h => h.elim⟩
theorem Tri.run {f d : Nat} {g : FuncId} {args : List EV} {vargs : List Value} {b : Bool} (hm : P.follows .mixedOrders = true) (ha : VRs (fun _ _ _ => False) args vargs) (h : isBool b (run P f d g args) = true) :
    Tri P g vargs [] [] fun e L Φ => e = .returned (.bool b) ∧ L = [] ∧ Φ = [] := by
  unfold isBool at h
  split at h
  · rename_i c H' n' hr
    have hbc : b = c := by simpa using h
    subst hbc
    obtain ⟨_, _, h3⟩ := runF_OK (anyE_OK hm) f d _ _ _ _ _ _ _ hr
    intro c hc
    refine (h3 (fun _ _ _ => False) c.w0 vargs ha (HR.empty _) (fun _ _ _ h => h.elim)).mono ?_
    rintro e w' ⟨R', hA, v', rfl, hv⟩
    have hv : v' = .bool b := hv
    subst hv
    refine ⟨[], [], ⟨rfl, rfl, rfl⟩, ?_⟩
    obtain ⟨O, h1, h2, h4, h5⟩ := hc.ex
    have hno : ∀ x, ¬ O x := h1
    refine ⟨O, hno, fun φ hφ => (nomatch hφ), ⟨?_, ?_, ?_, ?_, ?_⟩, fun x hx => (hno x hx).elim⟩
    · exact hA.2.2.os
    · exact hA.2.2.tape
    · exact hA.2.2.output
    · exact hA.2.1.size
    · intro x hx _
      exact hA.2.1.keep x hx (fun ⟨k, _, ⟨B, hB, _⟩, _⟩ => by simp [T.get] at hB)
  · cases h
end
end Go.Proofs.YtafochlcnjeanaaGreat.E
