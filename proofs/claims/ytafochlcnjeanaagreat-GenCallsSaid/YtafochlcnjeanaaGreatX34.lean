/- Runs by numbers: regions that draw their order: the theorem. For whatever program. -/
import Derived.Test.YtafochlcnjeanaaGreatX33
namespace Go.Proofs.YtafochlcnjeanaaGreat.E
open Go Go.RowKit X

theorem After.same {lo hi : Nat} {R R1 R2 : Rel} {h h1 h2 : Heap} {w w1 w2 : World} (a : After lo hi R h w R1 h1 w1) (b : After lo hi R1 h1 w1 R2 h2 w2) : After lo hi R h w R2 h2 w2 := by
  obtain ⟨_, g, s⟩ := a
  obtain ⟨H, g', s'⟩ := b
  refine ⟨H, ⟨Nat.le_trans g.size g'.size, fun k b c x => g'.sub _ _ _ (g.sub _ _ _ x), fun k b c x => ?_, fun b hb hn => ?_, fun b ho => ?_, fun k B x => ?_, fun k B x => ?_⟩, s.trans s'⟩
  · rcases g'.new k b c x with y | y
    · exact g.new k b c y
    · exact .inr y
  · rw [g'.keep b (Nat.lt_of_lt_of_le hb g.size) (fun ho => (g.own b ho).elim hn (fun h => by omega)), g.keep b hb hn]
  · exact (g'.own b ho).elim (fun ho => g.own b ho) (fun h => .inr (Nat.le_trans g.size h))
  · rcases g'.dom k B x with ⟨B', y⟩ | y
    · exact g.dom k B' y
    · exact .inr y
  · obtain ⟨B', y⟩ := g.stay k B x
    exact g'.stay k B' y
theorem After.frame {lo hi : Nat} {R R' : Rel} {h h' x : Heap} {w w' : World} (H : HR R (ov h x) w.heap) (A : After lo hi R h w R' h' w') (hx : ∀ k B, x k = some B → ¬ (lo ≤ k ∧ k < hi)) : After lo hi R (ov h x) w R' (ov h' x) w' :=
  let ⟨a, b⟩ := H.frame A.1 A.2.1 hx
  ⟨a, b, A.2.2⟩
theorem rdA_le {l : List Oper} {A : List Nat} {V V' S0 : T EV} {j : Nat} (h : ∀ k v, V.get k = some v → V'.get k = some v) : ∀ x v, rdA l A V S0 j x = some v → rdA l A V' S0 j x = some v := by
  intro x v hx
  cases x with
  | tmp t =>
    simp only [rdA] at hx ⊢
    split at hx
    · exact hx
    · split at hx
      · exact h _ _ hx
      · exact hx
  | _ => exact hx
theorem wantE_le {rd rd' : Rd} {ops : Array Oper} {o : Oper} {b : Bool} (h : ∀ x v, rd x = some v → rd' x = some v) (hw : wantE rd ops o = some b) : wantE rd' ops o = some b := by
  unfold wantE at hw ⊢
  cases hg : o.guard with
  | none => rw [hg] at hw; exact hw
  | some x =>
    obtain ⟨j, b1⟩ := x
    rw [hg] at hw
    simp only at hw ⊢
    cases hd : (ops[j]?).bind (·.dst) with
    | none => rw [hd] at hw; cases hw
    | some d =>
      rw [hd] at hw
      simp only at hw ⊢
      cases hr : rd (.tmp d) with
      | none => rw [hr] at hw; cases hw
      | some u => rw [h _ _ hr]; rw [hr] at hw; exact hw
theorem anyAnc_false {A : List Nat} {j : Nat} : ∀ {l : List (Nat × T Blk × Nat)}, (∀ x ∈ l, bit A j x.1 = false) → anyAnc A j l = false
  | [], _ => rfl
  | x :: l, h => by
    simp only [anyAnc, h x List.mem_cons_self, Bool.false_or]
    exact anyAnc_false fun y hy => h y (List.mem_cons_of_mem _ hy)
theorem lk_spec {P : Program} {rd : Rd} {op : Op} {v : EV} {A : List Nat} {j : Nat} {He : T Blk} : ∀ {l : List (Nat × T Blk × Nat)} (k : Nat), lk P rd op v A j He l = true →
    (∀ k' x, l[k']? = some x → k' < k → bit A x.1 j = false) → (∀ k' x, l[k']? = some x → k ≤ k' → bit A j x.1 = false) → k ≤ l.length → okAt P rd op v (match l[k]? with | some x => x.2.1 | none => He) = true
  | [], k, h, _, _, _ => by simpa [lk] using h
  | x :: l, 0, h, _, h2, _ => by
    simp only [lk, Bool.and_eq_true] at h
    have : anyAnc A j (x :: l) = false := anyAnc_false fun y hy => by
      obtain ⟨i, hi⟩ := List.mem_iff_getElem?.1 hy
      exact h2 i y hi (Nat.zero_le _)
    rw [this, Bool.false_or] at h
    simpa using h.1
  | x :: l, k + 1, h, h1, h2, hk => by
    simp only [lk, Bool.and_eq_true] at h
    have h3 := h1 0 x (by simp) (Nat.succ_pos _)
    rw [h3, Bool.false_or] at h
    have := lk_spec k h.2 (fun k' y hy hlt => h1 (k' + 1) y (by simpa using hy) (by omega)) (fun k' y hy hle => h2 (k' + 1) y (by simpa using hy) (by omega)) (by simpa using hk)
    simpa using this
theorem loadsOK_spec {P : Program} {l0 : List Oper} {ops : Array Oper} {A : List Nat} {V S0 : T EV} {rcs : List (Nat × T Blk × Nat)} {He : T Blk} : ∀ {l : List Oper} {i : Nat}, loadsOK P l0 ops A V S0 rcs He l i = true → ∀ k o, l[k]? = some o → opKind o.op = 4 →
    wantE (rdA l0 A V S0 (i + k)) ops o = some true → ∀ v, V.get (i + k) = some v → lk P (rdA l0 A V S0 (i + k)) o.op v A (i + k) He rcs = true
  | [], i, _, k, o, hk, _, _, _, _ => by simp at hk
  | o :: l, i, h, k, o', hk, h4, hw, v, hv => by
    simp only [loadsOK, Bool.and_eq_true] at h
    cases k with
    | zero =>
      simp at hk
      subst hk
      have h1 := h.1
      rw [Nat.add_zero] at hw hv ⊢
      simp only [h4, Nat.beq_refl, hw, hv] at h1
      exact h1
    | succ k =>
      rw [show i + (k + 1) = i + 1 + k by omega] at hw hv ⊢
      exact loadsOK_spec h.2 k o' (by simpa using hk) h4 hw v hv

section
variable {P : Program} {call : CallE} {nt : Nat} {ops : Array Oper} {S0 : T EV} {n0 : Nat} {r : AS} {H0 : T Blk} {R0 : Rel} {w0 : World} {ds : List Deferred}
theorem Inv.noId {b : Array Bool} {a : Act} {w : World} {m : Nat} {R : Rel} (I : Inv nt ops S0 n0 r H0 R0 w0 ds b a w m R) {i : Nat} (hi : i < ops.toList.length) (hb : b.getD i true = false) : ∀ x c, ¬ R (n0 + i) x c := fun x c h => by
  have e : n0 + i - n0 = i := by omega
  rcases I.fresh _ _ _ h with h1 | h1 | h1
  · omega
  · rw [e, hb] at h1; exact absurd h1.2.2 Bool.false_ne_true
  · omega
theorem lag_un {b : Array Bool} {i : Nat} (hb : b.getD i true = false) : lag ops n0 r b (n0 + i) = none := by
  unfold lag
  rw [if_neg]
  rintro ⟨_, _, h⟩
  have e : n0 + i - n0 = i := by omega
  rw [e, hb] at h
  cases h
theorem bit_lt {A : List Nat} {i j : Nat} (h : Nat.shiftRight (maskAt A i) i = 0) (hb : bit A i j = true) : j < i := by
  rcases Nat.lt_or_ge j i with h1 | h1
  · exact h1
  · exfalso
    unfold bit bitN at hb
    have h2 : Nat.testBit (maskAt A i >>> i) (j - i) = Nat.testBit (maskAt A i) (i + (j - i)) := Nat.testBit_shiftRight _
    rw [show i + (j - i) = j by omega, hb] at h2
    have h3 : maskAt A i >>> i = 0 := h
    rw [h3] at h2
    simp at h2
/-- One operation that comes up. -/
theorem Inv.step (hC : CallOK P call) (hL : loadsOK P ops.toList ops (ancT ops.toList) r.V S0 r.rc.reverse r.hp ops.toList 0 = true) (hrU : ∀ x y, x ∈ r.al → y ∈ r.al → x.1 = y.1 → x = y)
    {b : Array Bool} {a : Act} {w : World} {m : Nat} {R : Rel} (I : Inv nt ops S0 n0 r H0 R0 w0 ds b a w m R) {i : Nat} {o : Oper} {s s1 : AS} {v : EV} (F : FactR P call nt ops S0 n0 r i o s s1 v)
    (ho : ops.toList[i]? = some o) (hb : b.getD i true = false) (hpre : ∀ j, bit (ancT ops.toList) i j = true → b.getD j true = true) {K : Act → World → Prop} {Q : Exit → Act → World → Prop}
    (hK : ∀ a' w' m' R', Inv nt ops S0 n0 r H0 R0 w0 ds (b.setIfInBounds i true) a' w' m' R' → K a' w') : wpOp P ops Q i K a w := by
  have hi : i < ops.toList.length := (List.getElem?_eq_some_iff.1 ho).1
  have hoi : ops[i]? = some o := by simpa using ho
  have hrd := I.reads ho hb hpre F.le
  have hrdr := I.reads ho hb hpre (V := r.V) (fun _ _ h => h)
  have hHR := I.aft.1
  have hid := I.noId hi hb
  unfold wpOp
  simp only [hoi]
  have go : Region.wanted o (yielded ops a.tmps) = true → o.wp P a w K Q → (if Region.wanted o (yielded ops a.tmps) = true then o.wp P a w K Q ∨ (o.asks P a w ∧ LetsOut Q) else K (a.put o.dst undef) w) := fun h1 h2 => by rw [if_pos h1]; exact .inl h2
  have value : ∀ {v' : Value}, wantE (rdA ops.toList (ancT ops.toList) s.V S0 i) ops o = some true → (execOp (ev (envOf a)) o).run P w = .ok (.value v') w → VR R v v' → s1.al = s.al → s1.rc = s.rc →
      (if Region.wanted o (yielded ops a.tmps) = true then o.wp P a w K Q ∨ (o.asks P a w ∧ LetsOut Q) else K (a.put o.dst undef) w) := fun hw h1 h2 e1 e2 => by
    refine go (wantE_spec hrd hw) ?_
    unfold Oper.wp
    rw [eval_env, h1]
    exact hK _ _ _ _ (I.quiet F ho hb hpre h2 e1 e2)
  cases F.kind with
  | off hw hv e1 e2 _ _ =>
    rw [if_neg (by rw [wantE_spec hrd hw]; exact Bool.false_ne_true)]
    refine hK _ _ _ _ (I.quiet F ho hb hpre ?_ e1 e2)
    rw [hv]
    exact rfl
  | plain hw hv e1 e2 _ _ =>
    obtain ⟨v', h1, h2⟩ := pureE_run hv hrd w
    exact value hw h1 h2 e1 e2
  | load hw hk e1 e2 _ _ =>
    have hw2 := wantE_le (rdA_le F.le) hw
    have h1 := loadsOK_spec hL i o ho hk (by rw [Nat.zero_add]; exact hw2) v (by rw [Nat.zero_add]; exact F.val)
    rw [Nat.zero_add] at h1
    have h2 := lk_spec m h1 (fun k x hx hlt => by
        cases hbit : bit (ancT ops.toList) x.1 i with
        | false => rfl
        | true =>
          have h3 := (I.anch k x hx).1 hlt
          by_cases hx1 : x.1 < ops.toList.length
          · have := I.down x.1 hx1 h3 i hbit
            rw [hb] at this
            cases this
          · exfalso
            unfold bit bitN at hbit
            obtain ⟨B, e1, e2, _⟩ := ancs_spec ops.toList []
            have e3 : maskAt (ancT ops.toList) x.1 = 0 := maskAt_none (by unfold ancT; rw [e1]; simp only [List.nil_append]; omega)
            rw [e3] at hbit
            simp at hbit)
      (fun k x hx hle => by
        cases hbit : bit (ancT ops.toList) i x.1 with
        | false => rfl
        | true =>
          have := (I.anch k x hx).2 (hpre _ hbit)
          omega) (by rw [List.length_reverse]; exact I.mle)
    have e3 : (match r.rc.reverse[m]? with | some x => x.2.1 | none => r.hp) = (Hm r m).1 := by
      unfold Hm
      cases r.rc.reverse[m]? <;> rfl
    rw [e3] at h2
    unfold okAt at h2
    split at h2
    · rename_i v2 hv2
      have := eqV_spec h2
      subst this
      obtain ⟨v', h4, h5⟩ := readE_run hv2 hrdr hHR.left
      exact value hw h4 h5 e1 e2
    · cases h2
  | new B hw hv e1 e2 _ _ =>
    refine go (wantE_spec hrd hw) ?_
    obtain ⟨c, v', w', h1, h2, h3⟩ := newE_run hv hrd hHR.left hid
    unfold Oper.wp
    rw [eval_env, h1]
    have hnone : (Hm r m).1.get (n0 + i) = none := by
      cases hg : (Hm r m).1.get (n0 + i) with
      | none => rfl
      | some B' =>
        obtain ⟨x, c', h⟩ := hHR.dom (n0 + i) B' (ov_some hg)
        exact absurd h (hid _ _)
    have h4 := After.frame hHR h3 (fun k B hk hr => by
      have : k = n0 + i := by omega
      subst this
      rw [lag_un hb] at hk
      cases hk)
    have hal : lkup r.al i = some B := by
      obtain ⟨al', g1, g2⟩ := F.keep.al
      rw [g1, e1]
      rw [lkup_append (fun x hx => by have := g2 x hx; omega)]
      simp [lkup]
    have hov : ov ((Hm r m).1.put (n0 + i) B).get (lag ops n0 r b) = ov (Hm r m).1.get (lag ops n0 r (b.setIfInBounds i true)) := by
      funext k
      unfold ov
      rw [lag_set hi, T.get_put]
      by_cases e : k = n0 + i
      · subst e
        simp [hnone, hal]
      · simp [e]
    rw [hov] at h4
    refine hK _ _ m _ (I.next F ho hpre h3.2.1.sub h2 (I.aft.same (h4.wide (by omega) (by have := I.nx; omega))) ?_ I.nx I.mle ?_)
    · intro k x c' hR
      rcases hR with hR | ⟨hk, _, _⟩
      · rcases I.fresh k x c' hR with h | h | h
        · exact .inl h
        · refine .inr (.inl ⟨h.1, h.2.1, ?_⟩)
          rw [getD_put, h.2.2]
          simp
        · exact .inr (.inr h)
      · subst hk
        refine .inr (.inl ⟨by omega, by omega, ?_⟩)
        rw [getD_put, if_pos (by omega)]
    · intro k x hx
      rw [getD_put, if_neg (F.noAnch e2 k x hx)]
      exact I.anch k x hx
  | anch hw ha hv e1 e2 =>
    obtain ⟨rc', f1, f2, f3⟩ := F.keep.rc
    rw [e2] at f1
    have frev : r.rc.reverse = s.rc.reverse ++ (i, s.hp, s.nx) :: rc'.reverse := by rw [f1]; simp
    have hat : ∀ k, s.rc.length < k → r.rc.reverse[k]? = rc'.reverse[k - (s.rc.length + 1)]? := fun k hk => by
      rw [frev, List.getElem?_append_right (by simp; omega)]
      simp only [List.length_reverse]
      rw [show k - s.rc.length = (k - (s.rc.length + 1)) + 1 by omega]
      simp
    have hself : r.rc.reverse[s.rc.length]? = some (i, s.hp, s.nx) := by
      rw [frev, List.getElem?_append_right (by simp)]
      simp
    have hlow : ∀ k, k < s.rc.length → ∃ x, r.rc.reverse[k]? = some x ∧ x ∈ s.rc := fun k hk => by
      rw [frev, List.getElem?_append_left (by simpa using hk)]
      have : k < s.rc.reverse.length := by simpa using hk
      exact ⟨s.rc.reverse[k], List.getElem?_eq_getElem this, by simp⟩
    have hanc : ∀ x ∈ s.rc, bit (ancT ops.toList) i x.1 = true := by
      have : ∀ (l : List (Nat × T Blk × Nat)), allAnc (ancT ops.toList) i l = true → ∀ x ∈ l, bit (ancT ops.toList) i x.1 = true := by
        intro l
        induction l with
        | nil => intro _ x hx; cases hx
        | cons y l ih =>
          intro h x hx
          simp only [allAnc, Bool.and_eq_true] at h
          rcases List.mem_cons.1 hx with rfl | h1
          · exact h.1
          · exact ih h.2 x h1
      exact this _ ha
    have hm : m = s.rc.length := by
      rcases Nat.lt_trichotomy m s.rc.length with h1 | h1 | h1
      · obtain ⟨x, h2, h3⟩ := hlow m h1
        have := (I.anch m x h2).2 (hpre _ (hanc x h3))
        omega
      · exact h1
      · have := (I.anch _ _ hself).1 h1
        rw [hb] at this
        cases this
    subst hm
    have hHm : Hm r s.rc.length = (s.hp, s.nx) := by unfold Hm; rw [hself]
    have hHm1 : Hm r (s.rc.length + 1) = (s1.hp, s1.nx) := by
      unfold Hm
      rw [hat _ (Nat.lt_succ_self _), Nat.sub_self, ← f3]
      unfold nextOf
      rw [← List.head?_eq_getElem?, List.head?_reverse]
      cases rc'.getLast? <;> rfl
    have haft := I.aft
    have hnx := I.nx
    have hfr := I.fresh
    rw [hHm] at haft hnx hfr
    simp only at haft hnx hfr
    have hle := anchE_le hC hv
    have hov : ov (addIf (bit (ancT ops.toList) i) n0 s.al s.hp).get (lag ops n0 r b) = ov s.hp.get (lag ops n0 r b) := by
      funext k
      unfold ov
      rw [addIf_get _ _ _ _ _ F.low.alU]
      cases s.hp.get k with
      | some B => rfl
      | none =>
        simp only
        by_cases hc : n0 ≤ k ∧ bit (ancT ops.toList) i (k - n0) = true
        · rw [if_pos hc]
          have h1 := bit_lt F.back hc.2
          have h2 : lag ops n0 r b k = lkup s.al (k - n0) := by
            unfold lag
            rw [if_pos ⟨hc.1, by omega, hpre _ hc.2⟩]
            obtain ⟨al', g1, g2⟩ := F.keep.al
            rw [g1, e1]
            exact lkup_append fun x hx => by have := g2 x hx; omega
          rw [h2]
          cases lkup s.al (k - n0) <;> rfl
        · rw [if_neg hc]
    have hHR1 : HR R (ov (addIf (bit (ancT ops.toList) i) n0 s.al s.hp).get (lag ops n0 r b)) w.heap := by rw [hov]; exact haft.1
    have hFr : Fresh R s.nx := fun k x c hR => by
      rcases hfr k x c hR with h | h | h <;> omega
    obtain ⟨lo, hi', hrange, hvo⟩ := anchE_run hC hv hrd hHR1.left hid hFr (K := K) (Q := Q)
    refine go (wantE_spec hrd hw) (hvo fun R' w' v' hA hvr => ?_)
    have h4 := After.frame hHR1 hA (fun k B hk hr => by
      rcases hrange with ⟨rfl, rfl, _⟩ | ⟨rfl, rfl⟩
      · have : k = n0 + i := by omega
        subst this
        rw [lag_un hb] at hk
        cases hk
      · unfold lag at hk
        split at hk
        · rename_i h; omega
        · cases hk)
    rw [hov, ← lag_same hi hb (F.noBlk e1)] at h4
    rw [lag_same hi hb (F.noBlk e1)] at h4
    refine hK _ _ (s.rc.length + 1) _ (I.next F ho hpre hA.2.1.sub hvr ?_ ?_ ?_ ?_ ?_)
    · rw [hHm1, lag_same hi hb (F.noBlk e1)]
      simp only
      refine (haft.wide (Nat.le_refl _) hle).same (h4.wide ?_ ?_)
      · rcases hrange with ⟨rfl, rfl, _⟩ | ⟨rfl, rfl⟩ <;> omega
      · rcases hrange with ⟨rfl, rfl, h⟩ | ⟨rfl, rfl⟩ <;> omega
    · intro k x c hR
      rw [hHm1]
      simp only
      rcases hA.2.1.new k x c hR with h | h
      · rcases hfr k x c h with h | h | h
        · exact .inl h
        · refine .inr (.inl ⟨h.1, h.2.1, ?_⟩)
          rw [getD_put, h.2.2]
          simp
        · exact .inr (.inr ⟨h.1, by omega⟩)
      · rcases hrange with ⟨rfl, rfl, h6⟩ | ⟨rfl, rfl⟩
        · refine .inr (.inl ⟨by omega, by omega, ?_⟩)
          rw [getD_put, if_pos (by omega)]
        · exact .inr (.inr (by omega))
    · rw [hHm1]; simp only; omega
    · rw [f1]; simp
    · intro k x hx
      rw [getD_put]
      by_cases e : k = s.rc.length
      · subst e
        rw [hself] at hx
        cases hx
        simp
      · have hne : x.1 ≠ i := by
          rcases Nat.lt_or_ge k s.rc.length with h1 | h1
          · obtain ⟨x', h2, h3⟩ := hlow k h1
            rw [hx] at h2
            cases h2
            have := F.low.rc x h3
            omega
          · rw [hat k (by omega)] at hx
            have := f2 x (by simpa using List.mem_of_getElem? hx)
            omega
        rw [if_neg hne, ← I.anch k x hx]
        omega
end
end Go.Proofs.YtafochlcnjeanaaGreat.E
