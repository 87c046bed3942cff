/- The rules of expressions, at two sources whose tokens are alike. Plain Lean. -/
import Derived.Test.YtjnineeeffecaaaP29
namespace Go.Proofs.Ytjnineeeffecaaa
open Go
section
variable {S S' : Src} {d M : Nat} {E F : Prop} {α β : Type} (A : Al S S' d M E F)
include A
theorem listF_R {one one' : PM α} (h : RR S d M E F 0 one one') : ∀ (f : Nat) (l : List α), RR S d M E F 1 (listF S one f l) (listF S' one' f l)
  | 0, l => fun i hi => by
    unfold listF
    exact RO.ite A (Nat.le_refl _) (fun hb => RR.next (m := PM.pure l) (m' := PM.pure l) RR.pure (isB_dl hb)) fun _ => RO.bad
  | f + 1, l => fun i hi => by
    unfold listF
    dsimp only
    refine RO.ite A (Nat.le_refl _) (fun hb => RR.next (m := PM.pure l) (m' := PM.pure l) RR.pure (isB_dl hb)) fun _ => ?_
    refine RO.bind (c1 := 0) (c2 := 1) (M1 := M) A.ef ?_ (by omega) fun _ j _ hj => ?_
    · split
      · exact RR.pure i hi
      · exact (must_R A i hi).mono (Nat.zero_le _)
    · refine RO.bind (c1 := 0) (c2 := 1) (M1 := M) A.ef (h j hj) (by omega) fun a j _ hj => ?_
      exact RO.ite A (Nat.le_refl _) (fun _ => listF_R h f (l ++ [a]) j hj) fun _ => RO.bad
theorem list_R {one one' : PM α} (h : RR S d M E F 0 one one') : RR S d M E F 2 (list S one) (list S' one') :=
  (must_R A).bind (c2 := 1) A.ef (by omega) fun _ => listF_R A h 6 []
theorem asksB_R {ask ask' : PM Ty} (h : RR S d M E F 0 ask ask') {t : Ty} : RR S d M E F 2 (asksB S ask t) (asksB S' ask' t) :=
  (list_R A h).bind (c2 := 0) A.ef (by omega) fun _ => RR.pure
theorem bracedB_R {ex ex' : PM Nd} (h : RR S d M E F 0 ex ex') : RR S d M E F 2 (bracedB S ex) (bracedB S' ex') :=
  (must_R A).bind (c2 := 1) A.ef (by omega) fun _ => h.bind (c1 := 0) (c2 := 1) A.ef (by omega) fun _ => (must_R A).bind (c2 := 0) A.ef (by omega) fun _ => RR.pure
theorem termB_R {ex ex' : PM Nd} (h : RR S d M E F 0 ex ex') : RR S d M E F 1 (termB S ex) (termB S' ex') := fun i hi => by
  unfold termB
  refine RO.iteP (k := 0) (Nat.le_refl _) (fun hl => by rw [A.kind (n := i) hl]) (fun h3 => ?_) fun _ => ?_
  · refine RO.pick0 (RR.next (m := PM.pure (Nd.mk 1 (tx []) (due S i).n .nil [])) (m' := PM.pure (Nd.mk 1 (tx []) (due S i).n .nil [])) RR.pure (due_dl h3 (by decide))) (Nat.le_refl _) fun hl => ?_
    rw [← A.num hl]
    rfl
  · exact RO.ite A (Nat.le_refl _) (fun _ => (bracedB_R A h i hi).mono (by omega)) fun _ => ((name_R A).bind (c2 := 0) A.ef (by omega) fun _ => RR.pure) i hi
/-- A term that begins with a bracket takes two. -/
theorem termB_two {ex ex' : PM Nd} (h : RR S d M E F 0 ex ex') {i : Nat} (hi : i ≤ S.T.length) (hb : isB S [tx [40]] i = true) : RO S d M E F 2 i (termB S ex i) (termB S' ex' (i + d)) := by
  have h3 : ¬ (due S i).kind = 3 := fun e => by
    unfold isB at hb
    rw [e] at hb
    simp at hb
  unfold termB
  rw [if_neg h3, if_pos hb]
  refine (bracedB_R A h i hi).pick0 (by omega) fun hl => ?_
  rw [if_neg (by rw [← A.kind hl]; exact h3), if_pos ((A.isB hl).symm.trans hb)]
variable (hs : Stp S S' d M)
include hs
theorem askB_R {ask ask' : PM Ty} (h : RR S d M E F 0 ask ask') : RR S d M E F 1 (askB S ask) (askB S' ask') :=
  (base_R A).bind (c2 := 0) A.ef (by omega) fun b => (stars_R A hs).bind (c2 := 0) A.ef (by omega) fun t => fun i hi =>
    RO.ite0 A hs (mem1 (by simp [stops, signs])) hi fun hb => (RR.next ((must_R A).bind (c2 := 0) A.ef (by omega) fun _ => ((must_R A).bind (c2 := 0) A.ef (by omega) fun _ => ((asksB_R A h).bind (c2 := 0) A.ef (by omega) fun _ => RR.pure).mono (Nat.zero_le _)).mono (Nat.zero_le _)) (isB_dl hb)).mono (by omega)
theorem askL_R : ∀ n, RR S d M E F 1 (askL S n) (askL S' n)
  | 0 => fun i hi => RO.bad
  | n + 1 => askB_R A hs ((askL_R n).mono (Nat.zero_le _))
theorem askL_RE (hE : E) : ∀ n n', n' ≤ n → RR S d M E F 1 (askL S n) (askL S' n')
  | n, 0, _ => fun i hi => by
    have h := askL_R A hs n i hi
    cases hm : askL S n i with
    | ok x j =>
      rw [hm] at h
      exact ⟨h.1, h.2.1, fun _ => .inr ⟨hE, _, rfl⟩⟩
    | bad t k => exact fun hF => absurd hE (A.ef hF)
  | 0, n' + 1, h => by omega
  | n + 1, n' + 1, h => askB_R A hs ((askL_RE hE n n' (by omega)).mono (Nat.zero_le _))
theorem declB_R {ask ask' : PM Ty} (h : RR S d M E F 0 ask ask') {b : Ty} : RR S d M E F 1 (declB S ask b) (declB S' ask' b) :=
  (stars_R A hs).bind (c1 := 0) (c2 := 1) A.ef (by omega) fun t => fun i hi =>
    RO.ite A (Nat.le_refl _) (fun hb => (RR.next ((must_R A).bind (c2 := 0) A.ef (by omega) fun _ => ((name_R A).bind (c2 := 0) A.ef (by omega) fun s => (arrays_R A hs).bind (c1 := 0) (c2 := 0) A.ef (by omega) fun l => ((must_R A).bind (c2 := 0) A.ef (by omega) fun _ => ((asksB_R A h).bind (c2 := 0) A.ef (by omega) fun _ => RR.pure).mono (Nat.zero_le _)).mono (Nat.zero_le _)).mono (Nat.zero_le _)) (isB_dl hb)).mono (by omega))
      fun _ => ((name_R A).bind (c2 := 0) A.ef (by omega) fun s => (arrays_R A hs).bind (c1 := 0) (c2 := 0) A.ef (by omega) fun l => RR.pure) i hi
theorem postF_R {ex ex' : PM Nd} (h : RR S d M E F 0 ex ex') : ∀ (f f' : Nat) (x : Nd) (i : Nat), i ≤ S.T.length → S.T.length < f + i → S'.T.length < f' + (i + d) → RO S d M E F 0 i (postF S ex f x i) (postF S' ex' f' x (i + d))
  | 0, f', x, i, hi, h1, h2 => by omega
  | f + 1, f', x, i, hi, h1, h2 => by
    have hf : i < M ∨ F → ∃ g, f' = g + 1 := fun hl => by
      have := A.far hi hl
      exact ⟨f' - 1, by omega⟩
    rw [postF]
    dsimp only
    by_cases b1 : isB S [tx [91]] i = true
    · rw [if_pos b1]
      have k : RO S d M E F 1 (i + 1) _ _ := RO.bind (c1 := 0) (c2 := 1) (f' := fun y => (must S' (tx [93])).bind fun _ => postF S' ex' (f' - 1) (.mk 6 (tx []) 0 .nil [x, y])) A.ef (h (i + 1) (isB_dl b1)) (by omega) fun y j hj hj2 => RO.bind (c1 := 1) (c2 := 0) (f' := fun _ => postF S' ex' (f' - 1) (.mk 6 (tx []) 0 .nil [x, y])) A.ef (must_R A j hj2) (by omega) fun _ l hl hl2 => postF_R h f (f' - 1) _ l hl2 (by omega) (by omega)
      refine (RO.pick0 k.from (by omega) fun hl => ?_).mono (Nat.zero_le _)
      obtain ⟨g, rfl⟩ := hf hl
      rw [postF]
      dsimp only
      rw [if_pos ((A.isB hl).symm.trans b1), Nat.add_right_comm]
      rfl
    rw [if_neg b1]
    by_cases b2 : isB S [tx [46]] i = true
    · rw [if_pos b2]
      have k : RO S d M E F 1 (i + 1) _ _ := RO.bind (c1 := 1) (c2 := 0) (f' := fun s => postF S' ex' (f' - 1) (.mk 7 s 0 .nil [x])) A.ef (name_R A (i + 1) (isB_dl b2)) (by omega) fun s l hl hl2 => postF_R h f (f' - 1) _ l hl2 (by omega) (by omega)
      refine (RO.pick0 k.from (by omega) fun hl => ?_).mono (Nat.zero_le _)
      obtain ⟨g, rfl⟩ := hf hl
      rw [postF]
      dsimp only
      rw [if_neg (by rw [← A.isB hl]; exact b1), if_pos ((A.isB hl).symm.trans b2), Nat.add_right_comm]
      rfl
    rw [if_neg b2]
    by_cases b3 : isB S [tx [45, 62]] i = true
    · rw [if_pos b3]
      have k : RO S d M E F 1 (i + 1) _ _ := RO.bind (c1 := 1) (c2 := 0) (f' := fun s => postF S' ex' (f' - 1) (.mk 8 s 0 .nil [x])) A.ef (name_R A (i + 1) (isB_dl b3)) (by omega) fun s l hl hl2 => postF_R h f (f' - 1) _ l hl2 (by omega) (by omega)
      refine (RO.pick0 k.from (by omega) fun hl => ?_).mono (Nat.zero_le _)
      obtain ⟨g, rfl⟩ := hf hl
      rw [postF]
      dsimp only
      rw [if_neg (by rw [← A.isB hl]; exact b1), if_neg (by rw [← A.isB hl]; exact b2), if_pos ((A.isB hl).symm.trans b3), Nat.add_right_comm]
      rfl
    rw [if_neg b3]
    by_cases b4 : isB S [tx [40]] i = true
    · rw [if_pos b4]
      have k : RO S d M E F 2 i _ _ := RO.bind (c1 := 2) (c2 := 0) (f' := fun l => postF S' ex' (f' - 1) (.mk 9 (tx []) 0 .nil (x :: l))) A.ef (list_R A h i hi) (by omega) fun s l hl hl2 => postF_R h f (f' - 1) _ l hl2 (by omega) (by omega)
      refine (RO.pick0 k (by omega) fun hl => ?_).mono (Nat.zero_le _)
      obtain ⟨g, rfl⟩ := hf hl
      rw [postF]
      dsimp only
      rw [if_neg (by rw [← A.isB hl]; exact b1), if_neg (by rw [← A.isB hl]; exact b2), if_neg (by rw [← A.isB hl]; exact b3), if_pos ((A.isB hl).symm.trans b4)]
      rfl
    rw [if_neg b4]
    refine RO.ok (Nat.le_refl _) hi fun hl => ?_
    cases f' with
    | zero => rfl
    | succ g =>
      rw [postF]
      dsimp only
      rw [if_neg (A.stop hs (mem1 (by simp [stops, signs])) hl b1), if_neg (A.stop hs (mem1 (by simp [stops, signs])) hl b2), if_neg (A.stop hs (mem1 (by simp [stops, signs])) hl b3), if_neg (A.stop hs (mem1 (by simp [stops, signs])) hl b4)]
theorem postB_R {ex ex' : PM Nd} (h : RR S d M E F 0 ex ex') : RR S d M E F 1 (postB S ex) (postB S' ex') := fun i hi =>
  RO.bind (c2 := 0) A.ef (termB_R A h i hi) (by omega) fun x j hj hj2 => postF_R A hs h _ _ _ _ hj2 (by omega) (by omega)
theorem postB_two {ex ex' : PM Nd} (h : RR S d M E F 0 ex ex') {i : Nat} (hi : i ≤ S.T.length) (hb : isB S [tx [40]] i = true) : RO S d M E F 2 i (postB S ex i) (postB S' ex' (i + d)) :=
  RO.bind (c2 := 0) A.ef (termB_two A h hi hb) (by omega) fun x j hj hj2 => postF_R A hs h _ _ _ _ hj2 (by omega) (by omega)
theorem unaryB_R {ex ex' un un' : PM Nd} {ask ask' : PM Ty} (h : RR S d M E F 0 ex ex') (hu : RR S d M E F 0 un un') (ha : RR S d M E F 1 ask ask') : RR S d M E F 1 (unaryB S ex un ask) (unaryB S' ex' un' ask') := fun i hi => by
  unfold unaryB
  refine RO.ite A (Nat.le_refl _) (fun hb => ?_) fun _ => ?_
  · refine RO.pick0 (RR.next (hu.bind (c2 := 0) (f := fun x => PM.pure (Nd.mk 3 (due S i).text 0 .nil [x])) (f' := fun x => PM.pure (Nd.mk 3 (due S i).text 0 .nil [x])) A.ef (by omega) fun _ => RR.pure) (isB_dl hb)) (by omega) fun hl => ?_
    rw [A.text hl]
  · have cast : ∀ {i}, i < S.T.length → RO S d M E F 3 i (((ask.bind fun t => (must S (tx [41])).bind fun _ => un.bind fun x => .pure (Nd.mk 10 (tx []) 0 t [x])) (i + 1)) : Out Nd) ((ask'.bind fun t => (must S' (tx [41])).bind fun _ => un'.bind fun x => .pure (Nd.mk 10 (tx []) 0 t [x])) (i + d + 1)) := fun hi =>
      RR.next (ha.bind (c2 := 1) A.ef (by omega) fun t => (must_R A).bind (c2 := 0) A.ef (by omega) fun _ => hu.bind (c1 := 0) (c2 := 0) A.ef (by omega) fun _ => RR.pure) hi
    have size : ∀ {i}, i < S.T.length → RO S d M E F 2 i (((must S (tx [40])).bind fun _ => ask.bind fun t => (must S (tx [41])).bind fun _ => PM.pure (Nd.mk 11 (tx []) 0 t [])) (i + 1)) (((must S' (tx [40])).bind fun _ => ask'.bind fun t => (must S' (tx [41])).bind fun _ => PM.pure (Nd.mk 11 (tx []) 0 t [])) (i + d + 1)) := fun hi =>
      RR.next ((must_R A).bind (c2 := 0) A.ef (by omega) fun _ => (ha.mono (Nat.zero_le _)).bind (c1 := 0) (c2 := 0) A.ef (by omega) fun t => ((must_R A).bind (c2 := 0) A.ef (by omega) fun _ => RR.pure).mono (Nat.zero_le _)) hi
    by_cases hb : isB S [tx [40]] i = true
    · have hz : ¬ isB S [tx [115, 105, 122, 101, 111, 102]] i = true := fun h' => by
        unfold isB at hb h'
        simp only [Bool.and_eq_true, List.any_cons, List.any_nil, Bool.or_false, decide_eq_true_eq] at hb h'
        have := hb.2.trans h'.2.symm
        simp [tx] at this
      rw [if_neg hz]
      refine (RO.pick (k := 1) (c := 2) (o' := if isB S' [tx [40]] (i + d) = true ∧ (due S' (i + d + 1)).kind = 2 ∧ (due S' (i + d + 1)).text ≠ tx [115, 105, 122, 101, 111, 102] then
        (ask'.bind fun t => (must S' (tx [41])).bind fun _ => un'.bind fun x => .pure (Nd.mk 10 (tx []) 0 t [x])) (i + d + 1) else postB S' ex' (i + d)) ?_ (by omega) fun hl => ?_).mono (by omega)
      · refine RO.iteP (k := 1) (by omega) (fun hl => ?_) (fun _ => (cast (isB_dl hb)).mono (by omega)) fun _ => postB_two A hs h hi hb
        rw [A.isB (n := i) (hl.imp_left fun _ => by omega), A.kind hl, A.text hl, Nat.add_right_comm]
      · have hl0 : i < M ∨ F := hl.imp_left fun _ => by omega
        rw [if_neg (c := isB S' [tx [115, 105, 122, 101, 111, 102]] (i + d) = true) (by rw [← A.isB hl0]; exact hz)]
    · rw [if_neg (fun h' => hb h'.1)]
      refine RO.pick0 (c := 1) (o' := if isB S' [tx [115, 105, 122, 101, 111, 102]] (i + d) = true then ((must S' (tx [40])).bind fun _ => ask'.bind fun t => (must S' (tx [41])).bind fun _ => .pure (Nd.mk 11 (tx []) 0 t [])) (i + d + 1) else postB S' ex' (i + d)) ?_ (by omega) fun hl => ?_
      · exact RO.ite A (Nat.le_refl _) (fun hb => (size (isB_dl hb)).mono (by omega)) fun _ => postB_R A hs h i hi
      · rw [if_neg (fun h' => hb ((A.isB hl).trans h'.1))]
theorem rowF_R {s : List ByteArray} (ht : ∀ t ∈ s, t ∈ stops) {sub sub' : PM Nd} (h : RR S d M E F 0 sub sub') : ∀ (f f' : Nat) (x : Nd) (i : Nat), i ≤ S.T.length → S.T.length < f + i → S'.T.length < f' + (i + d) → RO S d M E F 0 i (rowF S s sub f x i) (rowF S' s sub' f' x (i + d))
  | 0, f', x, i, hi, h1, h2 => by omega
  | f + 1, f', x, i, hi, h1, h2 => by
    rw [rowF]
    dsimp only
    by_cases b1 : isB S s i = true
    · rw [if_pos b1]
      have k : RO S d M E F 0 (i + 1) _ _ := RO.bind (c1 := 0) (c2 := 0) (f' := fun y => rowF S' s sub' (f' - 1) (.mk 4 (due S i).text 0 .nil [x, y])) A.ef (h (i + 1) (isB_dl b1)) (by omega) fun y j hj hj2 => rowF_R ht h f (f' - 1) _ j hj2 (by omega) (by omega)
      refine (RO.pick0 k.from (by omega) fun hl => ?_).mono (Nat.zero_le _)
      have := A.far hi hl
      obtain ⟨g, rfl⟩ : ∃ g, f' = g + 1 := ⟨f' - 1, by omega⟩
      rw [rowF]
      dsimp only
      rw [if_pos ((A.isB hl).symm.trans b1), Nat.add_right_comm, A.text hl]
      rfl
    · rw [if_neg b1]
      refine RO.ok (Nat.le_refl _) hi fun hl => ?_
      cases f' with
      | zero => rfl
      | succ g =>
        rw [rowF]
        dsimp only
        rw [if_neg (A.stop hs ht hl b1)]
theorem rowB_R {un un' : PM Nd} (h : RR S d M E F 1 un un') : ∀ (l : List (List ByteArray)), (∀ s ∈ l, s ∈ signs) → RR S d M E F 1 (rowB S un l) (rowB S' un' l)
  | [], _ => h
  | s :: l, hl => fun i hi => RO.bind (c2 := 0) A.ef (rowB_R h l (fun x hx => hl x (List.mem_cons_of_mem _ hx)) i hi) (by omega) fun x j hj hj2 =>
    rowF_R A hs (fun t ht => List.mem_append_left _ (List.mem_flatten.2 ⟨s, hl s List.mem_cons_self, ht⟩)) ((rowB_R h l (fun x hx => hl x (List.mem_cons_of_mem _ hx))).mono (Nat.zero_le _)) _ _ _ _ hj2 (by omega) (by omega)
theorem exprB_R {ex ex' un un' : PM Nd} (h : RR S d M E F 0 ex ex') (hu : RR S d M E F 1 un un') : RR S d M E F 1 (exprB S ex un) (exprB S' ex' un') :=
  (rowB_R A hs hu signs fun _ h => h).bind (c2 := 0) A.ef (by omega) fun x => fun i hi =>
    RO.ite0 A hs (mem1 (by simp [stops, signs])) hi fun hb => (RR.next (h.bind (c1 := 0) (c2 := 0) A.ef (by omega) fun _ => RR.pure) (isB_dl hb)).mono (by omega)
theorem euL_R : ∀ n, RR S d M E F 1 (euL S n).1 (euL S' n).1 ∧ RR S d M E F 1 (euL S n).2 (euL S' n).2
  | 0 => ⟨fun i hi => RO.bad, fun i hi => RO.bad⟩
  | n + 1 => ⟨exprB_R A hs ((euL_R n).1.mono (Nat.zero_le _)) (euL_R n).2, unaryB_R A hs ((euL_R n).1.mono (Nat.zero_le _)) ((euL_R n).2.mono (Nat.zero_le _)) (askL_R A hs n)⟩
theorem exprL_R (n : Nat) : RR S d M E F 1 (exprL S n) (exprL S' n) := (euL_R A hs n).1
omit hs in
theorem deep_R (hE : E) {m m' : PM Nd} (h : RR S d M E F 1 m m') : RR S d M E F 1 m (give S' 4) := fun i hi => by
  have h := h i hi
  cases hm : m i with
  | ok x j =>
    rw [hm] at h
    exact ⟨h.1, h.2.1, fun _ => .inr ⟨hE, _, rfl⟩⟩
  | bad t k => exact fun hF => absurd hE (A.ef hF)
/-- With fewer that may stand around: the same, or too deep. -/
theorem euL_RE (hE : E) : ∀ n n', n' ≤ n → RR S d M E F 1 (euL S n).1 (euL S' n').1 ∧ RR S d M E F 1 (euL S n).2 (euL S' n').2
  | n, 0, _ => ⟨deep_R A hE (euL_R A hs n).1, deep_R A hE (euL_R A hs n).2⟩
  | 0, n' + 1, h => by omega
  | n + 1, n' + 1, h => ⟨exprB_R A hs ((euL_RE hE n n' (by omega)).1.mono (Nat.zero_le _)) (euL_RE hE n n' (by omega)).2, unaryB_R A hs ((euL_RE hE n n' (by omega)).1.mono (Nat.zero_le _)) ((euL_RE hE n n' (by omega)).2.mono (Nat.zero_le _)) (askL_RE A hs hE n n' (by omega))⟩
end
end Go.Proofs.Ytjnineeeffecaaa
