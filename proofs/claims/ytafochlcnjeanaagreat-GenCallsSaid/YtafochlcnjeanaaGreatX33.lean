/- Runs by numbers: regions that draw their order: whatever comes up. For whatever program. -/
import Derived.Test.YtafochlcnjeanaaGreatX32
namespace Go.Proofs.YtafochlcnjeanaaGreat.E
open Go Go.RowKit X

section
variable {P : Program} {R : Rel}
theorem anchE_run {call : CallE} (hC : CallOK P call) {rd : Rd} {o : Oper} {a : Act} {H H' : T Blk} {id nx n' : Nat} {v : EV} {w : World} {K : Act → World → Prop} {Q : Exit → Act → World → Prop} (h : anchE P rd call id H nx o.op = some (v, H', n'))
    (hr : RdR R rd (ev (envOf a))) (HH : HR R H.get w.heap) (hid : ∀ b c, ¬ R id b c) (hF : Fresh R nx) :
    ∃ lo hi, ((lo = id ∧ hi = id + 1 ∧ n' = nx) ∨ (lo = nx ∧ hi = n')) ∧ VoR P o a w lo hi R H.get H'.get (.val (some v)) K Q := by
  generalize hop : o.op = op at h
  unfold anchE at h
  split at h
  · split at h
    · rename_i H2 hu
      cases h
      exact ⟨id, id + 1, .inl ⟨rfl, rfl, rfl⟩, turn_Vo (v := none) (hop ▸ hu) hr HH hid⟩
    · cases h
  · split at h
    · rename_i H2 hu
      cases h
      exact ⟨id, id + 1, .inl ⟨rfl, rfl, rfl⟩, turn_Vo (v := none) (hop ▸ hu) hr HH hid⟩
    · cases h
  · split at h
    · rename_i H2 hu
      cases h
      exact ⟨id, id + 1, .inl ⟨rfl, rfl, rfl⟩, turn_Vo (v := none) (hop ▸ hu) hr HH hid⟩
    · cases h
  · split at h
    · split at h
      · rename_i u H2 n2 hu
        cases h
        exact ⟨nx, _, .inr ⟨rfl, rfl⟩, (callsE_run hC (hop ▸ hu) hr HH hF).2⟩
      · cases h
    · split at h
      · rename_i u H2 hu
        cases h
        exact ⟨id, id + 1, .inl ⟨rfl, rfl, rfl⟩, turn_Vo (v := some _) (hop ▸ hu) hr HH hid⟩
      · cases h
  · cases h
end
theorem getD_put (b : Array Bool) (i k : Nat) : (b.setIfInBounds i true).getD k true = if k = i then true else b.getD k true := by
  by_cases e : k = i
  · subst e
    rw [if_pos rfl]
    simp only [Array.getD_eq_getD_getElem?, Array.getElem?_setIfInBounds]
    by_cases h : k < b.size
    · simp [h]
    · simp [h]
  · rw [if_neg e]
    exact getD_set_ne true (Ne.symm e)

section
variable (P : Program) (call : CallE) (nt : Nat) (ops : Array Oper) (S0 : T EV) (n0 : Nat) (r : AS) (H0 : T Blk) (R0 : Rel) (w0 : World) (ds : List Deferred)
def slotNow (b : Array Bool) (t : Nat) : Option EV := match wrOf t ops.toList 0 with
  | none => S0.get t
  | some i => match b.getD i true with
    | true => r.V.get i
    | false => S0.get t
def lag (b : Array Bool) : Heap := fun k => if n0 ≤ k ∧ k < n0 + ops.toList.length ∧ b.getD (k - n0) true = true then lkup r.al (k - n0) else none
def Hm (m : Nat) : T Blk × Nat := match r.rc.reverse[m]? with
  | some x => (x.2.1, x.2.2)
  | none => (r.hp, r.nx)
structure Inv (b : Array Bool) (a : Act) (w : World) (m : Nat) (R : Rel) : Prop where
  size : b.size = ops.toList.length
  down : ∀ i, i < ops.toList.length → b.getD i true = true → ∀ j, bit (ancT ops.toList) i j = true → b.getD j true = true
  anch : ∀ k x, r.rc.reverse[k]? = some x → (k < m ↔ b.getD x.1 true = true)
  mle : m ≤ r.rc.length
  sl : ∀ t v, slotNow ops S0 r b t = some v → VR R v (envOf a t)
  aft : After n0 (Hm r m).2 R0 H0.get w0 R (ov (Hm r m).1.get (lag ops n0 r b)) w
  fresh : ∀ k x c, R k x c → k < n0 ∨ (n0 ≤ k ∧ k < n0 + ops.toList.length ∧ b.getD (k - n0) true = true) ∨ (n0 + ops.toList.length ≤ k ∧ k < (Hm r m).2)
  nx : n0 + ops.toList.length ≤ (Hm r m).2
  tm : nt ≤ a.tmps.size
  df : a.defers = ds
end
section
variable {P : Program} {call : CallE} {nt : Nat} {ops : Array Oper} {S0 : T EV} {n0 : Nat} {r : AS} {H0 : T Blk} {R0 : Rel} {w0 : World} {ds : List Deferred}
abbrev FactR (P : Program) (call : CallE) (nt : Nat) (ops : Array Oper) (S0 : T EV) (n0 : Nat) (r : AS) := Fact P call nt ops.toList ops (ancT ops.toList) S0 n0 r
theorem Fact.val {j : Nat} {o : Oper} {s s1 : AS} {v : EV} (F : FactR P call nt ops S0 n0 r j o s s1 v) : r.V.get j = some v := by
  rw [F.keep.V j (Nat.lt_succ_self j), F.V, T.get_put, if_pos rfl]
theorem Fact.le {j : Nat} {o : Oper} {s s1 : AS} {v : EV} (F : FactR P call nt ops S0 n0 r j o s s1 v) : ∀ k u, s.V.get k = some u → r.V.get k = some u := fun k u hu => by
  have := F.low.V k u hu
  rw [F.keep.V k (by omega), F.V, T.get_put, if_neg (by omega)]
  exact hu
/-- No block hangs on it. -/
theorem Fact.noBlk {j : Nat} {o : Oper} {s s1 : AS} {v : EV} (F : FactR P call nt ops S0 n0 r j o s s1 v) (e : s1.al = s.al) : lkup r.al j = none := by
  obtain ⟨al', h1, h2⟩ := F.keep.al
  refine lkup_none fun x hx => ?_
  rw [h1, e] at hx
  rcases List.mem_append.1 hx with h3 | h3
  · have := h2 x h3; omega
  · have := F.low.al x h3; omega
theorem Fact.noAnch {j : Nat} {o : Oper} {s s1 : AS} {v : EV} (F : FactR P call nt ops S0 n0 r j o s s1 v) (e : s1.rc = s.rc) : ∀ (k : Nat) (x : Nat × T Blk × Nat), r.rc.reverse[k]? = some x → x.1 ≠ j := by
  obtain ⟨rc', h1, h2, _⟩ := F.keep.rc
  intro k x hx
  have hx : x ∈ r.rc := by
    have := List.mem_of_getElem? hx
    simpa using this
  rw [h1, e] at hx
  rcases List.mem_append.1 hx with h3 | h3
  · have := h2 x h3; omega
  · have := F.low.rc x h3; omega
theorem lag_set {b : Array Bool} {i : Nat} (hi : i < ops.toList.length) : lag ops n0 r (b.setIfInBounds i true) = fun k => if k = n0 + i then lkup r.al i else lag ops n0 r b k := by
  funext k
  unfold lag
  by_cases e : k = n0 + i
  · subst e
    have e2 : n0 + i - n0 = i := by omega
    rw [if_pos rfl, e2, if_pos ⟨by omega, by omega, by rw [getD_put, if_pos rfl]⟩]
  · rw [if_neg e]
    by_cases h : n0 ≤ k
    · have e3 : (b.setIfInBounds i true).getD (k - n0) true = b.getD (k - n0) true := by rw [getD_put, if_neg (by omega)]
      rw [e3]
    · rw [if_neg (fun hh => h hh.1), if_neg (fun hh => h hh.1)]
theorem lag_same {b : Array Bool} {i : Nat} (hi : i < ops.toList.length) (hb : b.getD i true = false) (hn : lkup r.al i = none) : lag ops n0 r (b.setIfInBounds i true) = lag ops n0 r b := by
  rw [lag_set hi]
  funext k
  by_cases e : k = n0 + i
  · subst e
    rw [if_pos rfl, hn]
    unfold lag
    rw [if_neg]
    rintro ⟨_, _, h⟩
    have e2 : n0 + i - n0 = i := by omega
    rw [e2, hb] at h
    cases h
  · rw [if_neg e]
/-- What an operation reads, when it comes up. -/
theorem Inv.reads {b : Array Bool} {a : Act} {w : World} {m : Nat} {R : Rel} (I : Inv nt ops S0 n0 r H0 R0 w0 ds b a w m R) {i : Nat} {o : Oper} (ho : ops.toList[i]? = some o) (hb : b.getD i true = false)
    (hpre : ∀ j, bit (ancT ops.toList) i j = true → b.getD j true = true) {V : T EV} (hV : ∀ k u, V.get k = some u → r.V.get k = some u) : RdR R (rdA ops.toList (ancT ops.toList) V S0 i) (ev (envOf a)) := by
  intro x v hx
  have hi : i < ops.toList.length := (List.getElem?_eq_some_iff.1 ho).1
  cases x with
  | const u => exact ofConst_VR hx
  | func f =>
    have hx : some (EV.fn (.func f) [] []) = some v := hx
    cases hx
    exact ⟨[], [], rfl, rfl, rfl⟩
  | global g => cases hx
  | tmp t =>
    refine I.sl t v ?_
    simp only [rdA] at hx
    unfold slotNow
    split at hx
    · rename_i hw
      rw [hw]
      exact hx
    · rename_i j hw
      rw [hw]
      simp only
      split at hx
      · rename_i hbit
        rw [hpre j hbit]
        exact hV j v hx
      · split at hx
        · rename_i hbit
          have hj : b.getD j true = false := by
            simp only [Bool.or_eq_true, Nat.beq_eq] at hbit
            rcases hbit with h | rfl
            · cases hbj : b.getD j true with
              | false => rfl
              | true =>
                have hjl : j < ops.toList.length := by
                  obtain ⟨_, o', h1, _⟩ := wrOf_spec hw
                  have := (List.getElem?_eq_some_iff.1 h1).1
                  omega
                have := I.down j hjl hbj i h
                rw [hb] at this
                cases this
            · exact hb
          rw [hj]
          exact hx
        · cases hx
/-- Behind an operation. -/
theorem Inv.next {b : Array Bool} {a : Act} {w w' : World} {m m' : Nat} {R R' : Rel} (I : Inv nt ops S0 n0 r H0 R0 w0 ds b a w m R) {i : Nat} {o : Oper} {s s1 : AS} {v : EV} {v' : Value} (F : FactR P call nt ops S0 n0 r i o s s1 v)
    (ho : ops.toList[i]? = some o) (hpre : ∀ j, bit (ancT ops.toList) i j = true → b.getD j true = true) (hs : Rel.le R R') (hv : VR R' v v')
    (haft : After n0 (Hm r m').2 R0 H0.get w0 R' (ov (Hm r m').1.get (lag ops n0 r (b.setIfInBounds i true))) w')
    (hfresh : ∀ k x c, R' k x c → k < n0 ∨ (n0 ≤ k ∧ k < n0 + ops.toList.length ∧ (b.setIfInBounds i true).getD (k - n0) true = true) ∨ (n0 + ops.toList.length ≤ k ∧ k < (Hm r m').2))
    (hnx : n0 + ops.toList.length ≤ (Hm r m').2) (hmle : m' ≤ r.rc.length) (hanch : ∀ k x, r.rc.reverse[k]? = some x → (k < m' ↔ (b.setIfInBounds i true).getD x.1 true = true)) :
    Inv nt ops S0 n0 r H0 R0 w0 ds (b.setIfInBounds i true) (a.put o.dst v') w' m' R' where
  size := by rw [Array.size_setIfInBounds]; exact I.size
  down := fun k hk hb j hj => by
    rw [getD_put] at hb ⊢
    by_cases e : j = i
    · rw [if_pos e]
    · rw [if_neg e]
      by_cases e2 : k = i
      · subst e2; exact hpre j hj
      · rw [if_neg e2] at hb; exact I.down k hk hb j hj
  anch := hanch
  mle := hmle
  sl := fun t u hu => by
    rw [env_putO (fitsB_spec F.fits I.tm)]
    have hi : i < ops.toList.length := (List.getElem?_eq_some_iff.1 ho).1
    have other : o.dst ≠ some t → slotNow ops S0 r b t = some u := fun hd => by
      unfold slotNow at hu ⊢
      cases hw : wrOf t ops.toList 0 with
      | none => rw [hw] at hu; exact hu
      | some k =>
        rw [hw] at hu
        simp only at hu ⊢
        have hk : k ≠ i := by
          rintro rfl
          obtain ⟨_, o', h1, h2⟩ := wrOf_spec hw
          rw [Nat.sub_zero, ho] at h1
          cases h1
          exact hd h2
        rw [getD_put, if_neg hk] at hu
        exact hu
    cases hd : o.dst with
    | none => exact (I.sl t u (other (by rw [hd]; exact fun h => by cases h))).mono hs
    | some d =>
      by_cases e : t = d
      · subst e
        have hw := dupOK_spec (hd ▸ F.dup)
        unfold slotNow at hu
        rw [hw] at hu
        simp only [getD_put, if_true] at hu
        rw [F.val] at hu
        cases hu
        simp only [Slots.putO, Slots.put_same]
        exact hv
      · simp only [Slots.putO, Slots.put_ne _ _ e]
        exact (I.sl t u (other (by rw [hd]; exact fun h => e (by cases h; rfl)))).mono hs
  aft := haft
  fresh := hfresh
  nx := hnx
  tm := by rw [size_put]; exact I.tm
  df := by rw [defers_put]; exact I.df
/-- .. that leaves the heap alone. -/
theorem Inv.quiet {b : Array Bool} {a : Act} {w : World} {m : Nat} {R : Rel} (I : Inv nt ops S0 n0 r H0 R0 w0 ds b a w m R) {i : Nat} {o : Oper} {s s1 : AS} {v : EV} {v' : Value} (F : FactR P call nt ops S0 n0 r i o s s1 v)
    (ho : ops.toList[i]? = some o) (hb : b.getD i true = false) (hpre : ∀ j, bit (ancT ops.toList) i j = true → b.getD j true = true) (hv : VR R v v') (e1 : s1.al = s.al) (e2 : s1.rc = s.rc) :
    Inv nt ops S0 n0 r H0 R0 w0 ds (b.setIfInBounds i true) (a.put o.dst v') w m R := by
  have hi : i < ops.toList.length := (List.getElem?_eq_some_iff.1 ho).1
  refine I.next F ho hpre (fun _ _ _ h => h) hv ?_ ?_ I.nx I.mle ?_
  · rw [lag_same hi hb (F.noBlk e1)]; exact I.aft
  · intro k x c hR
    rcases I.fresh k x c hR with h | h | h
    · exact .inl h
    · refine .inr (.inl ⟨h.1, h.2.1, ?_⟩)
      rw [getD_put, h.2.2]
      simp
    · exact .inr (.inr h)
  · intro k x hx
    rw [getD_put, if_neg (F.noAnch e2 k x hx)]
    exact I.anch k x hx
end
end Go.Proofs.YtafochlcnjeanaaGreat.E
