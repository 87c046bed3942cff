/- The parser at two sources whose tokens are alike. Plain Lean. -/
import Derived.Test.YtjnineeeffecaaaP28
namespace Go.Proofs.Ytjnineeeffecaaa
open Go
/-- Tokens alike from some place on, up to a place; or all of them (F). (E: the second source may be refused as too deep.) -/
structure Al (S S' : Src) (d M : Nat) (E F : Prop) : Prop where
  eq : ∀ n, n < M ∨ F → (due S n).er = (due S' (n + d)).er
  len : M + d ≤ S'.T.length
  lenF : F → S.T.length + d = S'.T.length
  ef : F → ¬ E
@[reducible] def stops : List ByteArray := signs.flatten ++ [tx [61], tx [42], tx [91], tx [46], tx [45, 62], tx [40]]
/-- Where the first source's part ends, the second one doesn't go on. -/
def Stp (S S' : Src) (d M : Nat) : Prop := ∀ t ∈ stops, isB S' [t] (M + d) = true → isB S [t] M = true
def RO (S : Src) (d M : Nat) (E F : Prop) {α : Type} (c i : Nat) : Out α → Out α → Prop
  | .ok x j, o' => i + c ≤ j ∧ j ≤ S.T.length ∧ (j ≤ M ∨ F → o' = .ok x (j + d) ∨ (E ∧ ∃ t, o' = .bad t 4))
  | .bad _ k, o' => F → ∃ t, o' = .bad t k
def RR (S : Src) (d M : Nat) (E F : Prop) {α : Type} (c : Nat) (m m' : PM α) : Prop := ∀ i, i ≤ S.T.length → RO S d M E F c i (m i) (m' (i + d))
section
variable {S S' : Src} {d M : Nat} {E F : Prop} {α β : Type}
theorem due_end {n : Nat} (h : S.T.length ≤ n) : (due S n).kind = 0 := by
  unfold due
  rw [List.getElem?_eq_none h]
theorem isB_dl {ts : List ByteArray} {n : Nat} (h : isB S ts n = true) : n < S.T.length := by
  rcases Nat.lt_or_ge n S.T.length with h' | h'
  · exact h'
  · simp [isB, due_end h'] at h
theorem due_dl {n : Nat} {k : Int} (h : (due S n).kind = k) (hk : k ≠ 0) : n < S.T.length := by
  rcases Nat.lt_or_ge n S.T.length with h' | h'
  · exact h'
  · rw [due_end h'] at h
    exact absurd h.symm hk
theorem Al.kind (A : Al S S' d M E F) {n : Nat} (h : n < M ∨ F) : (due S n).kind = (due S' (n + d)).kind := congrArg Prod.fst (A.eq n h)
theorem Al.text (A : Al S S' d M E F) {n : Nat} (h : n < M ∨ F) : (due S n).text = (due S' (n + d)).text := congrArg (fun x => x.2.1) (A.eq n h)
theorem Al.num (A : Al S S' d M E F) {n : Nat} (h : n < M ∨ F) : (due S n).n = (due S' (n + d)).n := congrArg (fun x => x.2.2) (A.eq n h)
theorem Al.isB (A : Al S S' d M E F) {n : Nat} {ts : List ByteArray} (h : n < M ∨ F) : isB S ts n = isB S' ts (n + d) := by
  unfold Go.Proofs.Ytjnineeeffecaaa.isB
  rw [A.kind h, A.text h]
theorem isB_any {ts : List ByteArray} {n : Nat} (h : isB S ts n = true) : ∃ t ∈ ts, isB S [t] n = true := by
  simp only [isB, Bool.and_eq_true, List.any_eq_true] at h ⊢
  obtain ⟨h1, t, h2, h3⟩ := h
  exact ⟨t, h2, h1, t, List.mem_cons_self, h3⟩
theorem isB_of {ts : List ByteArray} {n : Nat} {t : ByteArray} (ht : t ∈ ts) (h : isB S [t] n = true) : isB S ts n = true := by
  simp only [isB, Bool.and_eq_true, List.any_eq_true] at h ⊢
  obtain ⟨h1, t', h2, h3⟩ := h
  rw [List.mem_singleton.1 h2] at h3
  exact ⟨h1, t, ht, h3⟩
theorem mem1 {t : ByteArray} (h : t ∈ stops) : ∀ x ∈ [t], x ∈ stops := fun x hx => by rw [List.mem_singleton.1 hx]; exact h
/-- Where the first source stops, the second one does. -/
theorem Al.stop (A : Al S S' d M E F) (hs : Stp S S' d M) {n : Nat} {ts : List ByteArray} (ht : ∀ t ∈ ts, t ∈ stops) (hn : n ≤ M ∨ F) (h : ¬ Go.Proofs.Ytjnineeeffecaaa.isB S ts n = true) : ¬ Go.Proofs.Ytjnineeeffecaaa.isB S' ts (n + d) = true := by
  by_cases hl : n < M ∨ F
  · rw [← A.isB hl]
    exact h
  · obtain rfl : n = M := by
      rcases hn with hn | hn
      · have : ¬ n < M := fun h => hl (.inl h)
        omega
      · exact absurd (.inr hn) hl
    intro h'
    obtain ⟨t, h1, h2⟩ := isB_any h'
    exact h (isB_of h1 (hs t (ht t h1) h2))
theorem RO.mono {c c' i : Nat} {o o' : Out α} (h : RO S d M E F c i o o') (hc : c' ≤ c) : RO S d M E F c' i o o' := by
  cases o with
  | ok x j => exact ⟨by have := h.1; omega, h.2⟩
  | bad t k => exact h
theorem RO.from {c i k : Nat} {o o' : Out α} (h : RO S d M E F c (i + k) o o') : RO S d M E F (c + k) i o o' := by
  cases o with
  | ok x j => exact ⟨by have := h.1; omega, h.2⟩
  | bad t k => exact h
/-- What takes a token looks at the same ones. -/
theorem RO.pick {c i k : Nat} {o o' X' : Out α} (h : RO S d M E F c i o o') (hc : k + 1 ≤ c) (e : i + k < M ∨ F → X' = o') : RO S d M E F c i o X' := by
  cases o with
  | ok x j =>
    refine ⟨h.1, h.2.1, fun hj => ?_⟩
    rw [e (hj.imp_left fun _ => by have := h.1; omega)]
    exact h.2.2 hj
  | bad t k =>
    intro hF
    rw [e (.inr hF)]
    exact h hF
theorem RO.pick0 {c i : Nat} {o o' X' : Out α} (h : RO S d M E F c i o o') (hc : 1 ≤ c) (e : i < M ∨ F → X' = o') : RO S d M E F c i o X' := RO.pick (k := 0) h hc e
theorem RO.ok {i j c : Nat} {x : α} {X' : Out α} (h1 : i + c ≤ j) (h2 : j ≤ S.T.length) (h : j ≤ M ∨ F → X' = .ok x (j + d)) : RO S d M E F c i (.ok x j) X' := ⟨h1, h2, fun hj => .inl (h hj)⟩
theorem RO.bindE {c1 c2 i M1 : Nat} {m m' : PM α} {f f' : α → PM β} (ef : F → ¬ E) (h : RO S d M1 E F c1 i (m i) (m' (i + d))) (hM : M ≤ M1 + c2)
    (k : ∀ a j, m i = .ok a j → i + c1 ≤ j → j ≤ S.T.length → RO S d M E F c2 j (f a j) (f' a (j + d))) : RO S d M E F (c1 + c2) i (m.bind f i) (m'.bind f' (i + d)) := by
  unfold PM.bind
  cases hm : m i with
  | bad t e =>
    rw [hm] at h
    intro hF
    obtain ⟨t', h'⟩ := h hF
    exact ⟨t', by rw [h']⟩
  | ok a j =>
    rw [hm] at h
    obtain ⟨h1, h2, h3⟩ := h
    have k := k a j hm h1 h2
    dsimp only
    cases hf : f a j with
    | bad t e =>
      rw [hf] at k
      intro hF
      obtain ⟨t', h'⟩ := k hF
      rcases h3 (.inr hF) with h3 | ⟨hE, _⟩
      · exact ⟨t', by rw [h3]; exact h'⟩
      · exact absurd hE (ef hF)
    | ok b l =>
      rw [hf] at k
      obtain ⟨k1, k2, k3⟩ := k
      refine ⟨by omega, k2, fun hl => ?_⟩
      rcases h3 (hl.imp_left fun _ => by omega) with h3 | ⟨hE, t, h3⟩
      · rw [h3]
        exact k3 hl
      · exact .inr ⟨hE, t, by rw [h3]⟩
theorem RO.bind {c1 c2 i M1 : Nat} {m m' : PM α} {f f' : α → PM β} (ef : F → ¬ E) (h : RO S d M1 E F c1 i (m i) (m' (i + d))) (hM : M ≤ M1 + c2)
    (k : ∀ a j, i + c1 ≤ j → j ≤ S.T.length → RO S d M E F c2 j (f a j) (f' a (j + d))) : RO S d M E F (c1 + c2) i (m.bind f i) (m'.bind f' (i + d)) :=
  RO.bindE ef h hM fun a j _ h1 h2 => k a j h1 h2
theorem RR.mono {c c' : Nat} {m m' : PM α} (h : RR S d M E F c m m') (hc : c' ≤ c) : RR S d M E F c' m m' := fun i hi => (h i hi).mono hc
theorem RR.bind {c1 c2 M1 : Nat} {m m' : PM α} {f f' : α → PM β} (ef : F → ¬ E) (h : RR S d M1 E F c1 m m') (hM : M ≤ M1 + c2) (k : ∀ a, RR S d M E F c2 (f a) (f' a)) : RR S d M E F (c1 + c2) (m.bind f) (m'.bind f') :=
  fun i hi => RO.bind ef (h i hi) hM fun a j _ hj => k a j hj
theorem RR.pure {a : α} : RR S d M E F 0 (PM.pure a) (PM.pure a) := fun i hi => RO.ok (Nat.le_refl _) hi fun _ => rfl
/-- From the next token on. -/
theorem RR.next {c : Nat} {m m' : PM α} (h : RR S d M E F c m m') {i : Nat} (hi : i < S.T.length) : RO S d M E F (c + 1) i (m (i + 1)) (m' (i + d + 1)) := by
  rw [Nat.add_right_comm]
  exact RO.from (h (i + 1) hi)
/-- A test at a place within reach. -/
theorem RO.iteP {P P' : Prop} [Decidable P] [Decidable P'] {c i k : Nat} {a b a' b' : Out α} (hc : k + 1 ≤ c) (e : i + k < M ∨ F → (P ↔ P')) (h1 : P → RO S d M E F c i a a') (h2 : ¬ P → RO S d M E F c i b b') :
    RO S d M E F c i (if P then a else b) (if P' then a' else b') := by
  by_cases h : P
  · rw [if_pos h]
    exact (h1 h).pick hc fun hl => by rw [if_pos ((e hl).1 h)]
  · rw [if_neg h]
    exact (h2 h).pick hc fun hl => by rw [if_neg (fun h' => h ((e hl).2 h'))]
theorem RO.ite (A : Al S S' d M E F) {ts : List ByteArray} {c i : Nat} {a b a' b' : Out α} (hc : 1 ≤ c) (h1 : isB S ts i = true → RO S d M E F c i a a') (h2 : ¬ isB S ts i = true → RO S d M E F c i b b') :
    RO S d M E F c i (if isB S ts i = true then a else b) (if isB S' ts (i + d) = true then a' else b') :=
  RO.iteP (k := 0) hc (fun hl => by rw [A.isB (n := i) hl]) h1 h2
theorem RO.ite0 (A : Al S S' d M E F) (hs : Stp S S' d M) {ts : List ByteArray} (ht : ∀ t ∈ ts, t ∈ stops) {i : Nat} {x : α} {a a' : Out α} (hi : i ≤ S.T.length) (h1 : isB S ts i = true → RO S d M E F 1 i a a') :
    RO S d M E F 0 i (if isB S ts i = true then a else .ok x i) (if isB S' ts (i + d) = true then a' else .ok x (i + d)) := by
  by_cases h : isB S ts i = true
  · rw [if_pos h]
    exact ((h1 h).pick0 (Nat.le_refl _) fun hl => by rw [if_pos ((A.isB hl).symm.trans h)]).mono (Nat.zero_le _)
  · rw [if_neg h]
    exact RO.ok (Nat.le_refl _) hi fun hl => by rw [if_neg (A.stop hs ht hl h)]
theorem RO.bad {c i : Nat} {t t' k : Int} : RO S d M E F (α := α) c i (.bad t k) (.bad t' k) := fun _ => ⟨_, rfl⟩
/-! ### The rules -/
variable (A : Al S S' d M E F)
include A
theorem must_R {t : ByteArray} : RR S d M E F 1 (must S t) (must S' t) := fun i hi => by
  unfold must
  by_cases h : isB S [t] i = true
  · rw [if_pos h]
    refine RO.pick0 (o' := .ok () (i + 1 + d)) (RO.ok (Nat.le_refl _) (isB_dl h) fun _ => rfl) (Nat.le_refl _) fun hi => ?_
    rw [if_pos ((A.isB hi).symm.trans h), Nat.add_right_comm]
  · rw [if_neg h]
    intro hF
    rw [if_neg (fun h' => h ((A.isB (.inr hF)).trans h'))]
    exact ⟨_, rfl⟩
theorem name_R : RR S d M E F 1 (name S) (name S') := fun i hi => by
  unfold name
  by_cases h : (due S i).kind = 1
  · rw [if_pos h]
    refine RO.pick0 (o' := .ok (due S i).text (i + 1 + d)) (RO.ok (Nat.le_refl _) (due_dl h (by decide)) fun _ => rfl) (Nat.le_refl _) fun hi => ?_
    rw [if_pos ((A.kind hi).symm.trans h), Nat.add_right_comm, A.text hi]
  · rw [if_neg h]
    intro hF
    rw [if_neg (fun h' => h ((A.kind (.inr hF)).trans h'))]
    exact ⟨_, rfl⟩
theorem base_R : RR S d M E F 1 (base S) (base S') := fun i hi => by
  unfold base typed
  by_cases h : isB S (words.map (·.1)) i = true
  · rw [if_pos h]
    have hl := isB_dl h
    dsimp only
    by_cases hk : wordOf (due S i).text words = 7 ∨ wordOf (due S i).text words = 8
    · rw [if_pos hk]
      refine RO.pick0 ((((name_R A).bind (c2 := 0) A.ef (Nat.le_refl _) fun s => RR.pure (a := Ty.mk (wordOf (due S i).text words) 0 s [])).next hl).mono (c' := 1) (by omega)) (Nat.le_refl _) fun hi => ?_
      rw [if_pos ((A.isB hi).symm.trans h), ← A.text hi, if_pos hk]
    · rw [if_neg hk]
      refine RO.pick0 (o' := .ok _ (i + 1 + d)) (RO.ok (Nat.le_refl _) hl fun _ => rfl) (Nat.le_refl _) fun hi => ?_
      rw [if_pos ((A.isB hi).symm.trans h), ← A.text hi, if_neg hk, Nat.add_right_comm]
  · rw [if_neg h]
    intro hF
    rw [if_neg (fun h' => h ((A.isB (.inr hF)).trans h'))]
    exact ⟨_, rfl⟩
omit A in
theorem base_kind {i j : Nat} {b : Ty} (h : base S i = .ok b j) (hk : b.kind = 7 ∨ b.kind = 8) : j = i + 2 := by
  unfold base at h
  split at h
  · dsimp only at h
    split at h
    · unfold PM.bind name at h
      split at h
      · rename_i h1
        split at h1
        · cases h1
          cases h
          rfl
        · cases h1
      · cases h
    · rename_i hn
      cases h
      exact absurd hk hn
  · cases h
/-- How far the second source goes. -/
theorem Al.far {i : Nat} (hi : i ≤ S.T.length) (h : i < M ∨ F) : i + d ≤ S'.T.length := by
  have := A.len
  rcases h with h | h
  · omega
  · have := A.lenF h
    omega
variable (hs : Stp S S' d M)
include hs
theorem starsF_R : ∀ (f f' : Nat) (t : Ty) (i : Nat), i ≤ S.T.length → S.T.length < f + i → S'.T.length < f' + (i + d) → RO S d M E F 0 i (starsF S f t i) (starsF S' f' t (i + d))
  | 0, f', t, i, hi, h, h' => by omega
  | f + 1, f', t, i, hi, h, h' => by
    rw [starsF]
    dsimp only
    by_cases hb : isB S [tx [42]] i = true
    · rw [if_pos hb]
      have ih := starsF_R f (f' - 1) (ptr t) (i + 1) (isB_dl hb) (by omega) (by omega)
      refine (RO.pick0 ih.from (by omega) fun hl => ?_).mono (Nat.zero_le _)
      have := A.far hi hl
      obtain ⟨g, rfl⟩ : ∃ g, f' = g + 1 := ⟨f' - 1, by omega⟩
      rw [starsF]
      dsimp only
      rw [if_pos ((A.isB hl).symm.trans hb), Nat.add_right_comm]
      rfl
    · rw [if_neg hb]
      refine RO.ok (Nat.le_refl _) hi fun hl => ?_
      cases f' with
      | zero => rfl
      | succ g =>
        rw [starsF]
        dsimp only
        rw [if_neg (A.stop hs (mem1 (by simp [stops, signs])) hl hb)]
theorem stars_R {t : Ty} : RR S d M E F 0 (stars S t) (stars S' t) := fun i hi => starsF_R A hs _ _ _ _ hi (by omega) (by omega)
theorem arraysF_R : ∀ (f f' : Nat) (l : List Int) (i : Nat), i ≤ S.T.length → S.T.length < f + i → S'.T.length < f' + (i + d) → RO S d M E F 0 i (arraysF S f l i) (arraysF S' f' l (i + d))
  | 0, f', l, i, hi, h, h' => by omega
  | f + 1, f', l, i, hi, h, h' => by
    rw [arraysF]
    dsimp only
    by_cases hb : isB S [tx [91]] i = true
    · have hb' : ∀ {g}, f' = g + 1 → i < M ∨ F → arraysF S' f' l (i + d) = if (due S' (i + d + 1)).kind ≠ 3 then .bad (due S' (i + d + 1)).pos 2 else if (due S' (i + d + 1)).n < 1 ∨ 4096 < (due S' (i + d + 1)).n then .bad (due S' (i + d + 1)).pos 5 else
          (must S' (tx [93])).bind (fun _ => arraysF S' g (l ++ [(due S' (i + d + 1)).n])) (i + d + 2) := fun e hl => by
        rw [e, arraysF]
        dsimp only
        rw [if_pos ((A.isB hl).symm.trans hb)]
      rw [if_pos hb]
      have hf : i < M ∨ F → ∃ g, f' = g + 1 := fun hl => by
        have := A.far hi hl
        exact ⟨f' - 1, by omega⟩
      by_cases h3 : (due S (i + 1)).kind ≠ 3
      · rw [if_pos h3]
        intro hF
        obtain ⟨g, e⟩ := hf (.inr hF)
        rw [hb' e (.inr hF), Nat.add_right_comm, if_pos (by rw [← A.kind (.inr hF)]; exact h3)]
        exact ⟨_, rfl⟩
      · rw [if_neg h3]
        have hl := due_dl (Decidable.not_not.1 h3) (by decide)
        by_cases h4 : (due S (i + 1)).n < 1 ∨ 4096 < (due S (i + 1)).n
        · rw [if_pos h4]
          intro hF
          obtain ⟨g, e⟩ := hf (.inr hF)
          rw [hb' e (.inr hF), Nat.add_right_comm, if_neg (by rw [← A.kind (.inr hF)]; exact h3), if_pos (by rw [← A.num (.inr hF)]; exact h4)]
          exact ⟨_, rfl⟩
        · rw [if_neg h4]
          have ih := RO.bind (c2 := 0) (f := fun _ => arraysF S f (l ++ [(due S (i + 1)).n])) (f' := fun _ => arraysF S' (f' - 1) (l ++ [(due S (i + 1)).n])) A.ef (must_R A (t := tx [93]) (i + 2) hl) (Nat.le_refl _) fun _ j hj hj2 => arraysF_R f (f' - 1) (l ++ [(due S (i + 1)).n]) j hj2 (by omega) (by omega)
          refine (RO.pick (k := 1) ih.from (by omega) fun hl => ?_).mono (Nat.zero_le _)
          obtain ⟨g, rfl⟩ := hf (hl.imp_left fun _ => by omega)
          rw [hb' rfl (hl.imp_left fun _ => by omega), show i + d + 1 = i + 1 + d by omega, ← A.kind hl, ← A.num hl, if_neg h3, if_neg h4, show i + d + 2 = i + 2 + d by omega]
          rfl
    · rw [if_neg hb]
      refine RO.ok (Nat.le_refl _) hi fun hl => ?_
      cases f' with
      | zero => rfl
      | succ g =>
        rw [arraysF]
        dsimp only
        rw [if_neg (A.stop hs (mem1 (by simp [stops, signs])) hl hb)]
theorem arrays_R : RR S d M E F 0 (arrays S) (arrays S') := fun i hi => arraysF_R A hs _ _ _ _ hi (by omega) (by omega)
end
end Go.Proofs.Ytjnineeeffecaaa
