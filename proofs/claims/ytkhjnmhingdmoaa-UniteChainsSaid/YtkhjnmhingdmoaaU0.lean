/- Numbers in groups, in plain lists: the trees that the program keeps, and the list of least numbers that they stand for. -/
namespace Go.Proofs.Ytkhjnmhingdmoaa.U
theorem gs (l : List Nat) (i v j : Nat) : (l.set i v).getD j 0 = if j = i ∧ i < l.length then v else l.getD j 0 := by
  simp only [List.getD_eq_getElem?_getD, List.getElem?_set]
  by_cases h : i = j
  · subst h
    by_cases h2 : i < l.length <;> simp [h2]
  · have : ¬ j = i := fun e => h e.symm
    simp [h, this]

structure Forest (up : List Nat) (dep : Nat → Nat) : Prop where
  lt : ∀ i, i < up.length → up.getD i 0 < up.length
  down : ∀ i, i < up.length → up.getD i 0 ≠ i → dep (up.getD i 0) < dep i
inductive Root (up : List Nat) : Nat → Nat → Prop
  | here {r : Nat} : up.getD r 0 = r → Root up r r
  | step {i r : Nat} : up.getD i 0 ≠ i → Root up (up.getD i 0) r → Root up i r
theorem Root.root {up : List Nat} {i r : Nat} (h : Root up i r) : up.getD r 0 = r := by
  induction h with
  | here h => exact h
  | step _ _ ih => exact ih
theorem Root.det {up : List Nat} {i r s : Nat} (h : Root up i r) (h' : Root up i s) : r = s := by
  induction h with
  | here h =>
    cases h' with
    | here => rfl
    | step h2 => exact absurd h h2
  | step h1 _ ih =>
    cases h' with
    | here h2 => exact absurd h2 h1
    | step _ h2 => exact ih h2
theorem Root.lt {up : List Nat} {dep : Nat → Nat} (f : Forest up dep) {i r : Nat} (h : Root up i r) : i < up.length → r < up.length := by
  induction h with
  | here _ => exact id
  | step _ _ ih => exact fun hi => ih (f.lt _ hi)
theorem Root.dep {up : List Nat} {dep : Nat → Nat} (f : Forest up dep) {i r : Nat} (h : Root up i r) : i < up.length → dep r ≤ dep i := by
  induction h with
  | here _ => exact fun _ => Nat.le_refl _
  | step h1 _ ih => exact fun hi => Nat.le_of_lt (Nat.lt_of_le_of_lt (ih (f.lt _ hi)) (f.down _ hi h1))
theorem Forest.ex {up : List Nat} {dep : Nat → Nat} (f : Forest up dep) (i : Nat) (hi : i < up.length) : ∃ r, Root up i r := by
  generalize hd : dep i = d
  induction d using Nat.strongRecOn generalizing i with
  | _ d ih =>
    by_cases h : up.getD i 0 = i
    · exact ⟨i, .here h⟩
    · obtain ⟨r, hr⟩ := ih _ (hd ▸ f.down i hi h) (up.getD i 0) (f.lt i hi) rfl
      exact ⟨r, .step h hr⟩
/-- Halving a way. -/
theorem Forest.halve {up : List Nat} {dep : Nat → Nat} (f : Forest up dep) {i : Nat} (hi : i < up.length) (hne : up.getD i 0 ≠ i) : Forest (up.set i (up.getD (up.getD i 0) 0)) dep := by
  have hp := f.lt i hi
  have hg := f.lt _ hp
  have hd := f.down i hi hne
  have hle : dep (up.getD (up.getD i 0) 0) ≤ dep (up.getD i 0) := by
    by_cases h : up.getD (up.getD i 0) 0 = up.getD i 0
    · rw [h]; exact Nat.le_refl _
    · exact Nat.le_of_lt (f.down _ hp h)
  constructor
  · intro j hj
    simp only [List.length_set] at *
    rw [gs]
    split
    · exact hg
    · exact f.lt j hj
  · intro j hj
    simp only [List.length_set] at *
    rw [gs]
    split
    · rename_i h
      rw [h.1]
      intro _
      omega
    · intro h; exact f.down j hj h
theorem Root.halve {up : List Nat} {dep : Nat → Nat} (f : Forest up dep) {i : Nat} (hi : i < up.length) (hne : up.getD i 0 ≠ i) {j r : Nat} (h : Root up j r) : j < up.length → Root (up.set i (up.getD (up.getD i 0) 0)) j r := by
  have hp := f.lt i hi
  have hd := f.down i hi hne
  induction h with
  | @here r h =>
    intro hr
    refine .here ?_
    rw [gs, if_neg (by rintro ⟨h1, _⟩; subst h1; exact hne h)]
    exact h
  | @step j r h1 _ ih =>
    intro hj
    have ih := ih (f.lt j hj)
    by_cases hji : j = i
    · subst hji
      by_cases h2 : up.getD (up.getD j 0) 0 = up.getD j 0
      · refine .step ?_ ?_
        · rw [gs, if_pos ⟨rfl, hi⟩, h2]; exact hne
        · rw [gs, if_pos ⟨rfl, hi⟩, h2]
          rw [h2] at ih
          exact ih
      · have hpi : ¬ (up.getD j 0 = j) := hne
        have hup : (up.set j (up.getD (up.getD j 0) 0)).getD (up.getD j 0) 0 = up.getD (up.getD j 0) 0 := by rw [gs, if_neg (by rintro ⟨h3, _⟩; exact hpi h3)]
        have h4 : Root (up.set j (up.getD (up.getD j 0) 0)) (up.getD (up.getD j 0) 0) r := by
          cases ih with
          | here h5 => rw [hup] at h5; exact absurd h5 h2
          | step _ h5 => rw [hup] at h5; exact h5
        have hd2 := f.down _ hp h2
        refine .step ?_ ?_
        · rw [gs, if_pos ⟨rfl, hi⟩]; intro e; rw [e] at hd2; omega
        · rw [gs, if_pos ⟨rfl, hi⟩]; exact h4
    · refine .step ?_ ?_
      · rw [gs, if_neg (by rintro ⟨h3, _⟩; exact hji h3)]; exact h1
      · rw [gs, if_neg (by rintro ⟨h3, _⟩; exact hji h3)]; exact ih

theorem Root.up_ {up : List Nat} {i r : Nat} (h : Root up i r) : Root up (up.getD i 0) r := by
  cases h with
  | here h => rw [h]; exact .here h
  | step _ h => exact h
/-- What the program keeps, and what it stands for: of each number the least of its group. -/
structure UF (n : Nat) (up sz ls : List Nat) (cnt : Nat) (L : List Nat) : Prop where
  lu : up.length = n
  lz : sz.length = n
  ll : ls.length = n
  lL : L.length = n
  forest : ∃ dep, Forest up dep
  root : ∀ i r, i < n → Root up i r → ls.getD r 0 = L.getD i 0 ∧ sz.getD r 0 = L.count (L.getD i 0)
  same : ∀ i j r s, i < n → j < n → Root up i r → Root up j s → (L.getD i 0 = L.getD j 0 ↔ r = s)
  rep : ∀ i, i < n → L.getD i 0 ≤ i ∧ L.getD (L.getD i 0) 0 = L.getD i 0
  many : cnt = (List.range n).countP (fun i => L.getD i 0 == i)
theorem UF.halve {n cnt : Nat} {up sz ls L : List Nat} (h : UF n up sz ls cnt L) {i : Nat} (hi : i < n) (hne : up.getD i 0 ≠ i) : UF n (up.set i (up.getD (up.getD i 0) 0)) sz ls cnt L := by
  obtain ⟨dep, f⟩ := h.forest
  have hu := h.lu
  have hback : ∀ j r, j < n → Root (up.set i (up.getD (up.getD i 0) 0)) j r → Root up j r := fun j r hj hr => by
    obtain ⟨s, hs⟩ := f.ex j (by omega)
    have := (hs.halve f (by omega) hne (by omega)).det hr
    exact this ▸ hs
  exact ⟨by simp [hu], h.lz, h.ll, h.lL, ⟨dep, f.halve (by omega) hne⟩, fun j r hj hr => h.root j r hj (hback j r hj hr),
    fun j k r s hj hk hr hs => h.same j k r s hj hk (hback j r hj hr) (hback k s hk hs), h.rep, h.many⟩
/-- Each number alone. -/
theorem UF.new (n : Nat) : UF n (List.range n) (List.replicate n 1) (List.range n) n (List.range n) := by
  have hg : ∀ i, i < n → (List.range n).getD i 0 = i := fun i hi => by simp [List.getD_eq_getElem?_getD, hi]
  have hr : ∀ i r, i < n → Root (List.range n) i r → r = i := fun i r hi h => by
    cases h with
    | here _ => rfl
    | step h1 _ => exact absurd (hg i hi) h1
  refine ⟨by simp, by simp, by simp, by simp, ⟨fun _ => 0, ⟨fun i hi => ?_, fun i hi h => ?_⟩⟩, fun i r hi h => ?_, fun i j r s hi hj h1 h2 => ?_, fun i hi => ?_, ?_⟩
  · simp only [List.length_range] at *; rw [hg i hi]; exact hi
  · simp only [List.length_range] at *; exact absurd (hg i hi) h
  · have := hr i r hi h
    subst this
    refine ⟨rfl, ?_⟩
    rw [hg r hi]
    have : (List.range n).count r = 1 := by rw [List.nodup_range.count, if_pos (by simpa using hi)]
    rw [this]
    simp [List.getD_eq_getElem?_getD, hi]
  · rw [hr i r hi h1, hr j s hj h2, hg i hi, hg j hj]
  · rw [hg i hi, hg i hi]
    exact ⟨Nat.le_refl _, rfl⟩
  · have : (List.range n).countP (fun i => (List.range n).getD i 0 == i) = (List.range n).length := by
      rw [List.countP_eq_length]
      intro i hi
      have := hg i (by simpa using hi)
      rw [this]
      simp
    rw [this]; simp
/-- Two groups become one. -/
def join (L : List Nat) (x y : Nat) : List Nat := L.map fun v => if v = max x y then min x y else v
theorem join_get {L : List Nat} {x y i : Nat} (hi : i < L.length) : (join L x y).getD i 0 = if L.getD i 0 = max x y then min x y else L.getD i 0 := by
  simp [join, List.getD_eq_getElem?_getD, hi]
theorem join_comm (L : List Nat) (x y : Nat) : join L x y = join L y x := by unfold join; rw [Nat.max_comm, Nat.min_comm]
theorem count_join (L : List Nat) (m M v : Nat) (hm : m ≠ M) : (L.map fun u => if u = M then m else u).count v = if v = m then L.count m + L.count M else if v = M then 0 else L.count v := by
  induction L with
  | nil => simp
  | cons u L ih =>
    simp only [List.map_cons, List.count_cons, ih]
    by_cases h1 : u = M
    · subst h1
      by_cases h2 : v = m
      · subst h2; simp [hm, Ne.symm hm]; omega
      · by_cases h3 : v = u
        · subst h3; simp [Ne.symm hm, hm, h2]
        · simp [h2, h3, Ne.symm h2, Ne.symm h3]
    · by_cases h2 : v = m
      · subst h2
        by_cases h3 : u = v
        · subst h3; simp [h1, Ne.symm h1]; omega
        · simp [h1, h3]
      · by_cases h3 : v = M
        · subst h3; simp [h1, h2]
        · by_cases h4 : u = v
          · subst h4; simp [h1, h2]
          · simp [h1, h2, h3, h4]
theorem UF.join {n cnt : Nat} {up sz ls L : List Nat} (h : UF n up sz ls cnt L) {a b r s : Nat} (ha : a < n) (hb : b < n) (hr : Root up a r) (hs : Root up b s) (hne : r ≠ s) :
    UF n (up.set s r) (sz.set r (sz.getD r 0 + sz.getD s 0)) (ls.set r (min (ls.getD r 0) (ls.getD s 0))) (cnt - 1) (U.join L (L.getD a 0) (L.getD b 0)) := by
  obtain ⟨dep, f⟩ := h.forest
  have hu := h.lu
  have hrn : r < n := hu ▸ hr.lt f (by omega)
  have hsn : s < n := hu ▸ hs.lt f (by omega)
  have hrr := hr.root
  have hss := hs.root
  have hxy : L.getD a 0 ≠ L.getD b 0 := fun e => hne ((h.same a b r s ha hb hr hs).1 e)
  have hR : ∀ j t, j < n → Root up j t → Root (up.set s r) j (if t = s then r else t) := by
    intro j t hj ht
    induction ht with
    | @here t h1 =>
      by_cases hts : t = s
      · subst hts
        rw [if_pos rfl]
        refine .step ?_ ?_
        · rw [gs, if_pos ⟨rfl, by omega⟩]; exact hne
        · rw [gs, if_pos ⟨rfl, by omega⟩]
          refine .here ?_
          rw [gs, if_neg (by rintro ⟨h2, _⟩; exact hne h2)]
          exact hrr
      · rw [if_neg hts]
        refine .here ?_
        rw [gs, if_neg (by rintro ⟨h2, _⟩; exact hts h2)]
        exact h1
    | @step j t h1 _ ih =>
      have hjs : j ≠ s := fun e => h1 (by rw [e]; exact hss)
      refine .step ?_ ?_
      · rw [gs, if_neg (by rintro ⟨h2, _⟩; exact hjs h2)]; exact h1
      · rw [gs, if_neg (by rintro ⟨h2, _⟩; exact hjs h2)]
        exact ih (hu ▸ f.lt j (by omega))
  have hback : ∀ j t', j < n → Root (up.set s r) j t' → ∃ t, Root up j t ∧ t' = if t = s then r else t := fun j t' hj ht => by
    obtain ⟨t, h1⟩ := f.ex j (by omega)
    exact ⟨t, h1, ht.det (hR j t hj h1)⟩
  -- which number stands in the one group, the other, or neither
  have hin : ∀ j t, j < n → Root up j t → (t = r ↔ L.getD j 0 = L.getD a 0) ∧ (t = s ↔ L.getD j 0 = L.getD b 0) := fun j t hj ht =>
    ⟨(h.same j a t r hj ha ht hr).symm, (h.same j b t s hj hb ht hs).symm⟩
  have hj : ∀ j, j < n → (U.join L (L.getD a 0) (L.getD b 0)).getD j 0 = if L.getD j 0 = L.getD a 0 ∨ L.getD j 0 = L.getD b 0 then min (L.getD a 0) (L.getD b 0) else L.getD j 0 := fun j hjn => by
    rw [join_get (by rw [h.lL]; exact hjn)]
    by_cases h1 : L.getD j 0 = L.getD a 0
    · rw [if_pos (show L.getD j 0 = L.getD a 0 ∨ L.getD j 0 = L.getD b 0 from .inl h1), h1]; split <;> omega
    · by_cases h2 : L.getD j 0 = L.getD b 0
      · rw [if_pos (show L.getD j 0 = L.getD a 0 ∨ L.getD j 0 = L.getD b 0 from .inr h2), h2]; split <;> omega
      · rw [if_neg (by omega), if_neg (by rintro (h3 | h3) <;> contradiction)]
  have ra := h.rep a ha
  have rb := h.rep b hb
  refine ⟨by simp [hu], by simp [h.lz], by simp [h.ll], by simp [U.join, h.lL], ?_, ?_, ?_, ?_, ?_⟩
  · classical
    refine ⟨fun j => if Root up j s then dep j + dep r + 1 else dep j, ⟨fun j hjn => ?_, fun j hjn hnj => ?_⟩⟩
    · simp only [List.length_set] at *
      rw [gs]
      split
      · omega
      · exact f.lt j hjn
    · simp only [List.length_set] at *
      by_cases hjs : j = s
      · subst hjs
        have e : (up.set j r).getD j 0 = r := by rw [gs, if_pos ⟨rfl, by omega⟩]
        rw [e, if_neg (fun h1 => hne ((Root.here hrr).det h1)), if_pos (.here hss)]
        omega
      · have e : (up.set s r).getD j 0 = up.getD j 0 := by rw [gs, if_neg (by rintro ⟨h2, _⟩; exact hjs h2)]
        rw [e] at hnj ⊢
        have hd := f.down j hjn hnj
        by_cases h1 : Root up j s
        · have h2 : Root up (up.getD j 0) s := by
            cases h1 with
            | here h3 => exact absurd h3 hnj
            | step _ h3 => exact h3
          rw [if_pos h1, if_pos h2]; omega
        · have h2 : ¬ Root up (up.getD j 0) s := fun h3 => h1 (.step hnj h3)
          rw [if_neg h1, if_neg h2]; exact hd
  · intro j t' hjn ht'
    obtain ⟨t, ht, rfl⟩ := hback j t' hjn ht'
    obtain ⟨i1, i2⟩ := hin j t hjn ht
    obtain ⟨q1, q2⟩ := h.root j t hjn ht
    obtain ⟨a1, a2⟩ := h.root a r ha hr
    obtain ⟨b1, b2⟩ := h.root b s hb hs
    have hcnt : ∀ v, (U.join L (L.getD a 0) (L.getD b 0)).count v = if v = min (L.getD a 0) (L.getD b 0) then L.count (L.getD a 0) + L.count (L.getD b 0) else if v = max (L.getD a 0) (L.getD b 0) then 0 else L.count v := fun v => by
      rw [U.join, count_join _ _ _ _ (by omega)]
      rcases Nat.le_total (L.getD a 0) (L.getD b 0) with h1 | h1
      · rw [Nat.min_eq_left h1, Nat.max_eq_right h1]
      · rw [Nat.min_eq_right h1, Nat.max_eq_left h1, Nat.add_comm]
    have eJ := hj j hjn
    by_cases hts : t = s
    · rw [if_pos (.inr (i2.1 hts))] at eJ
      rw [if_pos hts, eJ, hcnt, if_pos rfl, gs, if_pos ⟨rfl, by rw [h.ll]; exact hrn⟩, gs, if_pos ⟨rfl, by rw [h.lz]; exact hrn⟩, a1, a2, b1, b2]
      exact ⟨rfl, rfl⟩
    · rw [if_neg hts]
      by_cases htr : t = r
      · rw [if_pos (.inl (i1.1 htr))] at eJ
        rw [eJ, hcnt, if_pos rfl, gs, if_pos ⟨htr, by rw [h.ll]; exact hrn⟩, gs, if_pos ⟨htr, by rw [h.lz]; exact hrn⟩, a1, a2, b1, b2]
        exact ⟨rfl, rfl⟩
      · have n1 : ¬ L.getD j 0 = L.getD a 0 := fun e => htr (i1.2 e)
        have n2 : ¬ L.getD j 0 = L.getD b 0 := fun e => hts (i2.2 e)
        rw [if_neg (fun e => e.elim n1 n2)] at eJ
        rw [eJ, hcnt, if_neg (by omega), if_neg (by omega), gs, if_neg (fun e => htr e.1), gs, if_neg (fun e => htr e.1)]
        exact ⟨q1, q2⟩
  · intro j k t' u' hjn hkn ht' hu'
    obtain ⟨t, ht, rfl⟩ := hback j t' hjn ht'
    obtain ⟨u, hu2, rfl⟩ := hback k u' hkn hu'
    obtain ⟨i1, i2⟩ := hin j t hjn ht
    obtain ⟨k1, k2⟩ := hin k u hkn hu2
    have hs2 := h.same j k t u hjn hkn ht hu2
    -- a number whose least is that of the one group stands in it
    have hmin : ∀ k u, k < n → Root up k u → L.getD k 0 = min (L.getD a 0) (L.getD b 0) → u = r ∨ u = s := fun k u hk hku e => by
      obtain ⟨k1, k2⟩ := hin k u hk hku
      rcases Nat.le_total (L.getD a 0) (L.getD b 0) with h1 | h1
      · rw [Nat.min_eq_left h1] at e; exact .inl (k1.2 e)
      · rw [Nat.min_eq_right h1] at e; exact .inr (k2.2 e)
    rw [hj j hjn, hj k hkn]
    by_cases c1 : L.getD j 0 = L.getD a 0 ∨ L.getD j 0 = L.getD b 0
    · have d1 : (if t = s then r else t) = r := by
        rcases c1 with c1 | c1
        · rw [i1.2 c1]; split <;> rfl
        · rw [if_pos (i2.2 c1)]
      rw [if_pos c1, d1]
      by_cases c2 : L.getD k 0 = L.getD a 0 ∨ L.getD k 0 = L.getD b 0
      · have d2 : (if u = s then r else u) = r := by
          rcases c2 with c2 | c2
          · rw [k1.2 c2]; split <;> rfl
          · rw [if_pos (k2.2 c2)]
        rw [if_pos c2, d2]
        exact ⟨fun _ => rfl, fun _ => rfl⟩
      · rw [if_neg c2, if_neg (fun e => c2 (.inr (k2.1 e)))]
        refine ⟨fun e => ?_, fun e => absurd (.inl (k1.1 e.symm)) c2⟩
        rcases hmin k u hkn hu2 e.symm with h1 | h1
        · exact absurd (.inl (k1.1 h1)) c2
        · exact absurd (.inr (k2.1 h1)) c2
    · rw [if_neg c1, if_neg (fun e => c1 (.inr (i2.1 e)))]
      by_cases c2 : L.getD k 0 = L.getD a 0 ∨ L.getD k 0 = L.getD b 0
      · have d2 : (if u = s then r else u) = r := by
          rcases c2 with c2 | c2
          · rw [k1.2 c2]; split <;> rfl
          · rw [if_pos (k2.2 c2)]
        rw [if_pos c2, d2]
        refine ⟨fun e => ?_, fun e => absurd (.inl (i1.1 e)) c1⟩
        rcases hmin j t hjn ht e with h1 | h1
        · exact absurd (.inl (i1.1 h1)) c1
        · exact absurd (.inr (i2.1 h1)) c1
      · rw [if_neg c2, if_neg (fun e => c2 (.inr (k2.1 e)))]
        exact hs2
  · intro j hjn
    have rj := h.rep j hjn
    have hm : min (L.getD a 0) (L.getD b 0) < n := by omega
    rw [hj j hjn]
    by_cases c1 : L.getD j 0 = L.getD a 0 ∨ L.getD j 0 = L.getD b 0
    · rw [if_pos c1, hj _ hm]
      refine ⟨by omega, ?_⟩
      rw [if_pos]
      rcases Nat.le_total (L.getD a 0) (L.getD b 0) with h1 | h1
      · rw [Nat.min_eq_left h1]; exact .inl ra.2
      · rw [Nat.min_eq_right h1]; exact .inr rb.2
    · rw [if_neg c1, hj _ (by omega), rj.2, if_neg c1]
      exact ⟨rj.1, rfl⟩
  · rw [h.many]
    -- just one number, the greater of the two least ones, is no least one any more
    have hM : max (L.getD a 0) (L.getD b 0) < n := by omega
    have key : ∀ i, i < n → ((U.join L (L.getD a 0) (L.getD b 0)).getD i 0 == i) = ((L.getD i 0 == i) && !(i == max (L.getD a 0) (L.getD b 0))) := fun i hi => by
      rw [join_get (by rw [h.lL]; exact hi), Bool.eq_iff_iff]
      simp only [beq_iff_eq, Bool.and_eq_true, Bool.not_eq_true', beq_eq_false_iff_ne]
      have ri := h.rep i hi
      constructor
      · intro e
        by_cases h1 : L.getD i 0 = max (L.getD a 0) (L.getD b 0)
        · rw [if_pos h1] at e
          omega
        · rw [if_neg h1] at e
          exact ⟨e, fun e2 => h1 (by rw [e, e2])⟩
      · rintro ⟨e1, e2⟩
        rw [if_neg (by rw [e1]; exact e2)]
        exact e1
    have hLM : L.getD (max (L.getD a 0) (L.getD b 0)) 0 = max (L.getD a 0) (L.getD b 0) := by
      rcases Nat.le_total (L.getD a 0) (L.getD b 0) with h1 | h1
      · rw [Nat.max_eq_right h1]; exact rb.2
      · rw [Nat.max_eq_left h1]; exact ra.2
    generalize hMM : max (L.getD a 0) (L.getD b 0) = M at *
    have e1 : (List.range n).countP (fun i => (U.join L (L.getD a 0) (L.getD b 0)).getD i 0 == i) = (List.range n).countP (fun i => (L.getD i 0 == i) && !(i == M)) :=
      List.countP_congr fun i hi => by rw [key i (by simpa using hi)]
    rw [e1]
    have e2 : ∀ m, (List.range m).countP (fun i => L.getD i 0 == i) = (List.range m).countP (fun i => (L.getD i 0 == i) && !(i == M)) + if M < m then 1 else 0 := by
      intro m
      induction m with
      | zero => simp
      | succ m ih =>
        rw [List.range_succ, List.countP_append, List.countP_append, ih]
        simp only [List.countP_cons, List.countP_nil, Nat.zero_add]
        by_cases h1 : m = M
        · subst h1
          rw [show (L.getD m 0 == m) = true by rw [hLM]; exact beq_self_eq_true m]
          simp
        · by_cases h2 : M < m
          · have : M < m + 1 := by omega
            simp [h1, h2, this]; omega
          · have : ¬ M < m + 1 := by omega
            simp [h1, h2, this]
    rw [e2 n, if_pos hM]
    omega
end Go.Proofs.Ytkhjnmhingdmoaa.U
