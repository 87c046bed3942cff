/- Runs by numbers: regions that draw their order: what the run tells. For whatever program. -/
import Derived.Test.YtafochlcnjeanaaGreatX31
namespace Go.Proofs.YtafochlcnjeanaaGreat.E
open Go Go.RowKit X

/-- Blocks by place. -/
def lkup : List (Nat × Blk) → Nat → Option Blk
  | [], _ => none
  | (j, B) :: l, i => if i = j then some B else lkup l i
theorem lkup_none {l : List (Nat × Blk)} {i : Nat} (h : ∀ x ∈ l, x.1 ≠ i) : lkup l i = none := by
  induction l with
  | nil => rfl
  | cons x l ih =>
    simp only [lkup]
    rw [if_neg (fun e => h x List.mem_cons_self e.symm)]
    exact ih fun y hy => h y (List.mem_cons_of_mem _ hy)
theorem lkup_append {l k : List (Nat × Blk)} {i : Nat} (h : ∀ x ∈ l, x.1 ≠ i) : lkup (l ++ k) i = lkup k i := by
  induction l with
  | nil => rfl
  | cons x l ih =>
    show (if i = x.1 then some x.2 else lkup (l ++ k) i) = _
    rw [if_neg (fun e => h x List.mem_cons_self e.symm)]
    exact ih fun y hy => h y (List.mem_cons_of_mem _ hy)
theorem addIf_get (p : Nat → Bool) (n0 : Nat) : ∀ (l : List (Nat × Blk)) (H : T Blk) (k : Nat), (∀ x y, x ∈ l → y ∈ l → x.1 = y.1 → x = y) → (addIf p n0 l H).get k = match H.get k with
    | some B => some B
    | none => if n0 ≤ k ∧ p (k - n0) = true then lkup l (k - n0) else none
  | [], H, k, _ => by
    simp only [addIf, lkup]
    cases H.get k <;> simp
  | (j, B) :: l, H, k, hu => by
    have ih := fun k => addIf_get p n0 l H k (fun x y hx hy => hu x y (List.mem_cons_of_mem _ hx) (List.mem_cons_of_mem _ hy))
    have key : (addIf p n0 ((j, B) :: l) H).get k = if p j = true ∧ (addIf p n0 l H).get (n0 + j) = none ∧ k = n0 + j then some B else (addIf p n0 l H).get k := by
      simp only [addIf]
      split
      · rename_i h1 h2
        rw [T.get_put]
        by_cases e : k = n0 + j
        · rw [if_pos e, if_pos ⟨h1, h2, e⟩]
        · rw [if_neg e, if_neg (fun h => e h.2.2)]
      · rename_i hn
        rw [if_neg]
        rintro ⟨h1, h2, _⟩
        exact hn h1 h2
    rw [key]
    by_cases e : k = n0 + j
    · subst e
      rw [ih]
      have e2 : n0 + j - n0 = j := by omega
      simp only [lkup, e2]
      cases hH : H.get (n0 + j) with
      | some B' => simp
      | none =>
        by_cases hb : p j = true
        · have hl : lkup l j = none ∨ ∃ B', lkup l j = some B' := by cases lkup l j <;> simp
          rcases hl with hl | ⟨B', hl⟩
          · simp [hb, hl]
          · have hmem : ∀ (l : List (Nat × Blk)), lkup l j = some B' → (j, B') ∈ l := by
              intro l
              induction l with
              | nil => intro h; cases h
              | cons y l ih =>
                intro h
                simp only [lkup] at h
                split at h
                · rename_i e; cases h; rw [e]; exact List.mem_cons_self
                · exact List.mem_cons_of_mem _ (ih h)
            have := hu (j, B) (j, B') List.mem_cons_self (List.mem_cons_of_mem _ (hmem l hl)) rfl
            cases this
            simp [hb, hl]
        · simp [hb]
    · rw [if_neg (fun h => e h.2.2), ih]
      cases H.get k with
      | some B' => rfl
      | none =>
        simp only
        by_cases h1 : n0 ≤ k
        · have : k - n0 ≠ j := by omega
          simp [lkup, this]
        · simp [h1]
section
variable {P : Program} {call : CallE} {nt : Nat} {l0 : List Oper} {ops : Array Oper} {A : List Nat} {S0 : T EV} {n0 : Nat}
/-- The heap and the counter ahead of the oldest of some anchors. -/
def nextOf (l : List (Nat × T Blk × Nat)) (H : T Blk) (n : Nat) : T Blk × Nat := match l.getLast? with
  | some x => (x.2.1, x.2.2)
  | none => (H, n)
theorem anchE_le (hC : CallOK P call) {rd : Rd} {id nx n' : Nat} {H H' : T Blk} {op : Op} {v : EV} (h : anchE P rd call id H nx op = some (v, H', n')) : nx ≤ n' := by
  unfold anchE at h
  split at h
  · split at h <;> cases h
    exact Nat.le_refl _
  · split at h <;> cases h
    exact Nat.le_refl _
  · split at h <;> cases h
    exact Nat.le_refl _
  · split at h
    · split at h
      · rename_i hc
        cases h
        exact callsE_le hC hc
      · cases h
    · split at h <;> cases h
      exact Nat.le_refl _
  · cases h
/-- What the run keeps. -/
structure Keep (i : Nat) (s r : AS) : Prop where
  V : ∀ k, k < i → r.V.get k = s.V.get k
  al : ∃ al', r.al = al' ++ s.al ∧ ∀ x ∈ al', i ≤ x.1
  rc : ∃ rc', r.rc = rc' ++ s.rc ∧ (∀ x ∈ rc', i ≤ x.1) ∧ nextOf rc' r.hp r.nx = (s.hp, s.nx)
  nx : s.nx ≤ r.nx
theorem Keep.refl (i : Nat) (s : AS) : Keep i s s := ⟨fun _ _ => rfl, ⟨[], rfl, fun _ h => nomatch h⟩, ⟨[], rfl, (fun _ h => nomatch h), rfl⟩, Nat.le_refl _⟩
theorem Keep.step (hC : CallOK P call) {i : Nat} {o : Oper} {s s1 r : AS} {v : EV} (hV : s1.V = s.V.put i v) (hk : Kind P call l0 ops A S0 n0 i o s s1 v) (h : Keep (i + 1) s1 r) : Keep i s r := by
  have hV2 : ∀ k, k < i → r.V.get k = s.V.get k := fun k hk => by
    rw [h.V k (by omega), hV, T.get_put, if_neg (by omega)]
  obtain ⟨al', e1, e2⟩ := h.al
  obtain ⟨rc', f1, f2, f3⟩ := h.rc
  have same : s1.al = s.al → s1.rc = s.rc → s1.hp = s.hp → s1.nx = s.nx → Keep i s r := fun g1 g2 g3 g4 =>
    ⟨hV2, ⟨al', by rw [e1, g1], fun x hx => by have := e2 x hx; omega⟩, ⟨rc', by rw [f1, g2], fun x hx => by have := f2 x hx; omega, by rw [f3, g3, g4]⟩, g4 ▸ h.nx⟩
  cases hk with
  | off _ _ g1 g2 g3 g4 => exact same g1 g2 g3 g4
  | plain _ _ g1 g2 g3 g4 => exact same g1 g2 g3 g4
  | load _ _ g1 g2 g3 g4 => exact same g1 g2 g3 g4
  | new B _ _ g1 g2 g3 g4 =>
    refine ⟨hV2, ⟨al' ++ [(i, B)], by rw [e1, g1]; simp, fun x hx => ?_⟩, ⟨rc', by rw [f1, g2], fun x hx => by have := f2 x hx; omega, by rw [f3, g3, g4]⟩, g4 ▸ h.nx⟩
    rcases List.mem_append.1 hx with h1 | h1
    · have := e2 x h1; omega
    · rw [List.mem_singleton] at h1; subst h1; exact Nat.le_refl _
  | anch _ _ hv g1 g2 =>
    refine ⟨hV2, ⟨al', by rw [e1, g1], fun x hx => by have := e2 x hx; omega⟩, ⟨rc' ++ [(i, s.hp, s.nx)], by rw [f1, g2]; simp, fun x hx => ?_, by simp [nextOf]⟩, Nat.le_trans (anchE_le hC hv) h.nx⟩
    rcases List.mem_append.1 hx with h1 | h1
    · have := f2 x h1; omega
    · rw [List.mem_singleton] at h1; subst h1; exact Nat.le_refl _
theorem passE_keep (hC : CallOK P call) : ∀ {l : List Oper} {i : Nat} {s r : AS}, passE P call nt l0 ops A S0 n0 l i s = some r → Keep i s r
  | [], i, s, r, h => by simp only [passE] at h; cases h; exact .refl _ _
  | o :: l, i, s, r, h => by
    simp only [passE] at h
    split at h
    · rename_i s1 h1
      obtain ⟨_, _, _, v, hV, hk⟩ := stepA_spec h1
      exact Keep.step hC hV hk (passE_keep hC h)
    · cases h
/-- What stands of one operation, behind the run. -/
structure Low (i : Nat) (s : AS) : Prop where
  V : ∀ k v, s.V.get k = some v → k < i
  al : ∀ x ∈ s.al, x.1 < i
  rc : ∀ x ∈ s.rc, x.1 < i
  alU : ∀ x y, x ∈ s.al → y ∈ s.al → x.1 = y.1 → x = y
theorem Low.step {i : Nat} {o : Oper} {s s1 : AS} {v : EV} (hl : Low i s) (hV : s1.V = s.V.put i v) (hk : Kind P call l0 ops A S0 n0 i o s s1 v) : Low (i + 1) s1 := by
  have h1 : ∀ k u, s1.V.get k = some u → k < i + 1 := fun k u hu => by
    rw [hV, T.get_put] at hu
    by_cases e : k = i
    · omega
    · rw [if_neg e] at hu; have := hl.V k u hu; omega
  have same : s1.al = s.al → s1.rc = s.rc → Low (i + 1) s1 := fun g1 g2 => ⟨h1, fun x hx => by rw [g1] at hx; have := hl.al x hx; omega, fun x hx => by rw [g2] at hx; have := hl.rc x hx; omega, g1 ▸ hl.alU⟩
  cases hk with
  | off _ _ g1 g2 _ _ => exact same g1 g2
  | plain _ _ g1 g2 _ _ => exact same g1 g2
  | load _ _ g1 g2 _ _ => exact same g1 g2
  | new B _ _ g1 g2 _ _ =>
    refine ⟨h1, fun x hx => ?_, fun x hx => by rw [g2] at hx; have := hl.rc x hx; omega, fun x y hx hy e => ?_⟩
    · rw [g1] at hx
      rcases List.mem_cons.1 hx with rfl | h2
      · exact Nat.lt_succ_self _
      · have := hl.al x h2; omega
    · rw [g1] at hx hy
      rcases List.mem_cons.1 hx with rfl | h2 <;> rcases List.mem_cons.1 hy with rfl | h3
      · rfl
      · have h4 := hl.al y h3
        simp only at e
        omega
      · have h4 := hl.al x h2
        simp only at e
        omega
      · exact hl.alU x y h2 h3 e
  | anch _ _ _ g1 g2 =>
    refine ⟨h1, fun x hx => by rw [g1] at hx; have := hl.al x hx; omega, fun x hx => ?_, g1 ▸ hl.alU⟩
    rw [g2] at hx
    rcases List.mem_cons.1 hx with rfl | h2
    · exact Nat.lt_succ_self _
    · have := hl.rc x h2; omega
/-- The facts of operation j: from the state s ahead of it to the run's end r. -/
structure Fact (P : Program) (call : CallE) (nt : Nat) (l0 : List Oper) (ops : Array Oper) (A : List Nat) (S0 : T EV) (n0 : Nat) (r : AS) (j : Nat) (o : Oper) (s s1 : AS) (v : EV) : Prop where
  low : Low j s
  keep : Keep (j + 1) s1 r
  back : Nat.shiftRight (maskAt A j) j = 0
  fits : fitsB nt o.dst = true
  dup : dupOK l0 o.dst j = true
  V : s1.V = s.V.put j v
  kind : Kind P call l0 ops A S0 n0 j o s s1 v
theorem passE_facts (hC : CallOK P call) : ∀ {l : List Oper} {i : Nat} {s r : AS}, passE P call nt l0 ops A S0 n0 l i s = some r → Low i s → ∀ k o, l[k]? = some o → ∃ s1 s2 v, Fact P call nt l0 ops A S0 n0 r (i + k) o s1 s2 v
  | [], i, s, r, h, _, k, o, hk => by simp at hk
  | o :: l, i, s, r, h, hl, k, o', hk => by
    simp only [passE] at h
    split at h
    · rename_i s1 h1
      obtain ⟨g1, g2, g3, v, hV, hkd⟩ := stepA_spec h1
      cases k with
      | zero =>
        simp at hk
        subst hk
        exact ⟨s, s1, v, hl, passE_keep hC h, g1, g2, g3, hV, hkd⟩
      | succ k =>
        obtain ⟨s2, s3, v', hf⟩ := passE_facts hC h (hl.step hV hkd) k o' (by simpa using hk)
        rw [show i + (k + 1) = i + 1 + k by omega]
        exact ⟨s2, s3, v', hf⟩
    · cases h
end
end Go.Proofs.YtafochlcnjeanaaGreat.E
