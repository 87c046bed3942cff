/- The rules of statements and items, at two sources whose tokens are alike. Plain Lean. -/
import Derived.Test.YtjnineeeffecaaaP30
namespace Go.Proofs.Ytjnineeeffecaaa
open Go
section
variable {S S' : Src} {d M : Nat} {E F : Prop} {α β : Type}
/-- Alike up to a place and one more: a place that is alike. -/
theorem Al.less (A : Al S S' d (M + 1) E F) : Al S S' d M E F := ⟨fun n h => A.eq n (h.imp_left fun _ => by omega), by have := A.len; omega, A.lenF, A.ef⟩
theorem Al.st (A : Al S S' d (M + 1) E F) : Stp S S' d M := fun t _ h => by rw [A.isB (.inl (Nat.lt_succ_self _))]; exact h
/-- From a wider reach. -/
theorem RO.less {c i M1 : Nat} {o o' : Out α} (h : RO S d M1 E F c i o o') (hM : M ≤ M1) : RO S d M E F c i o o' := by
  cases o with
  | ok x j => exact ⟨h.1, h.2.1, fun hj => h.2.2 (hj.imp_left fun _ => by omega)⟩
  | bad t k => exact h
variable (A : Al S S' d (M + 1) E F)
include A
/-- A test at a place where a rule may end. -/
theorem RO.iteN {ts : List ByteArray} {i : Nat} {x : α} {a a' : Out α} (hi : i ≤ S.T.length) (h1 : isB S ts i = true → RO S d M E F 1 i a a') :
    RO S d M E F 0 i (if isB S ts i = true then a else .ok x i) (if isB S' ts (i + d) = true then a' else .ok x (i + d)) := by
  by_cases h : isB S ts i = true
  · rw [if_pos h]
    exact ((h1 h).pick0 (Nat.le_refl _) fun hl => by rw [if_pos ((A.less.isB hl).symm.trans h)]).mono (Nat.zero_le _)
  · rw [if_neg h]
    exact RO.ok (Nat.le_refl _) hi fun hl => by rw [if_neg (by rw [← A.isB (hl.imp_left fun _ => by omega)]; exact h)]
theorem simpleB_R {ex ex' : PM Nd} {ask ask' : PM Ty} (h : RR S d M E F 1 ex ex') (ha : RR S d M E F 1 ask ask') : RR S d M E F 1 (simpleB S ex ask) (simpleB S' ex' ask') := fun i hi => by
  unfold simpleB
  refine RO.ite A.less (Nat.le_refl _) (fun hb => ?_) fun _ => ?_
  · have hl := isB_dl hb
    by_cases h2 : isB S [tx [59]] (i + 1) = true
    · rw [if_pos h2]
      refine RO.ok (Nat.le_refl _) hl fun hj => ?_
      rw [show i + d + 1 = i + 1 + d by omega, if_pos ((A.isB (hj.imp_left fun _ => by omega)).symm.trans h2)]
    · rw [if_neg h2]
      refine (RO.pick (k := 1) (RR.next (h.bind (c2 := 0) A.ef (by omega) fun x => RR.pure (a := Nd.mk 16 (tx []) 0 .nil [x])) hl) (by omega) fun hj => ?_).mono (by omega)
      rw [show i + d + 1 = i + 1 + d by omega, if_neg (by rw [← A.less.isB hj]; exact h2)]
  refine RO.ite A.less (Nat.le_refl _) (fun hb => RR.next (m := PM.pure (Nd.mk 18 (tx []) 0 .nil [])) (m' := PM.pure (Nd.mk 18 (tx []) 0 .nil [])) RR.pure (isB_dl hb)) fun _ => ?_
  refine RO.ite A.less (Nat.le_refl _) (fun hb => RR.next (m := PM.pure (Nd.mk 19 (tx []) 0 .nil [])) (m' := PM.pure (Nd.mk 19 (tx []) 0 .nil [])) RR.pure (isB_dl hb)) fun _ => ?_
  refine RO.ite A.less (Nat.le_refl _) (fun _ => ?_) fun _ => ?_
  · exact ((base_R A.less).bind (c2 := 0) A.ef (by omega) fun b => ((declB_R A.less A.st (ha.mono (Nat.zero_le _))).bind (c2 := 0) A.ef (by omega) fun x => fun j hj =>
      RO.iteN A hj fun hb => (RR.next (h.bind (c2 := 0) A.ef (by omega) fun y => RR.pure) (isB_dl hb)).mono (by omega)).mono (Nat.zero_le _)) i hi
  · exact (h.bind (c2 := 0) A.ef (by omega) fun x => RR.pure) i hi
theorem blockF_R {st st' : PM Nd} (h : RR S d M E F 1 st st') : ∀ (f f' : Nat) (l : List Nd) (i : Nat), i ≤ S.T.length → S.T.length < f + i → S'.T.length < f' + (i + d) → RO S d (M + 1) E F 1 i (blockF S st f l i) (blockF S' st' f' l (i + d))
  | 0, f', l, i, hi, h1, h2 => by omega
  | f + 1, f', l, i, hi, h1, h2 => by
    have hf : i < M + 1 ∨ F → ∃ g, f' = g + 1 := fun hl => by
      have := A.far hi hl
      exact ⟨f' - 1, by omega⟩
    rw [blockF]
    dsimp only
    by_cases b1 : isB S [tx [125]] i = true
    · rw [if_pos b1]
      refine RO.ok (Nat.le_refl _) (isB_dl b1) fun hl => ?_
      have hl : i < M + 1 ∨ F := hl.imp_left fun _ => by omega
      obtain ⟨g, rfl⟩ := hf hl
      rw [blockF]
      dsimp only
      rw [if_pos ((A.isB hl).symm.trans b1), Nat.add_right_comm]
    · rw [if_neg b1]
      have k : RO S d (M + 1) E F (1 + 1) i _ _ := RO.bind (c1 := 1) (c2 := 1) (M1 := M) (f' := fun x => blockF S' st' (f' - 1) (l ++ [x])) A.ef (h i hi) (by omega) fun y j hj hj2 => blockF_R h f (f' - 1) _ j hj2 (by omega) (by omega)
      refine (RO.pick0 k (by omega) fun hl => ?_).mono (by omega)
      obtain ⟨g, rfl⟩ := hf hl
      rw [blockF]
      dsimp only
      rw [if_neg (by rw [← A.isB hl]; exact b1)]
      rfl
theorem stmtB_R {st st' ex ex' : PM Nd} {ask ask' : PM Ty} (hs : RR S d M E F 1 st st') (h : RR S d M E F 1 ex ex') (ha : RR S d M E F 1 ask ask') : RR S d M E F 1 (stmtB S st ex ask) (stmtB S' st' ex' ask') := fun i hi => by
  unfold stmtB
  refine RO.ite A.less (Nat.le_refl _) (fun hb => ?_) fun _ => ?_
  · rw [Nat.add_right_comm]
    exact ((blockF_R A hs _ _ [] (i + 1) (isB_dl hb) (by omega) (by omega)).less (Nat.le_succ _)).from.mono (by omega)
  refine RO.ite A.less (Nat.le_refl _) (fun hb => RR.next (m := PM.pure (Nd.mk 17 (tx []) 0 .nil [])) (m' := PM.pure (Nd.mk 17 (tx []) 0 .nil [])) RR.pure (isB_dl hb)) fun _ => ?_
  refine RO.ite A.less (Nat.le_refl _) (fun hb => ?_) fun _ => ?_
  · exact (RR.next (((bracedB_R A.less (h.mono (Nat.zero_le _))).bind (c2 := 0) A.ef (by omega) fun c => (hs.bind (c2 := 0) A.ef (by omega) fun x => fun j hj =>
      RO.iteN A hj fun hb => (RR.next (hs.bind (c2 := 0) A.ef (by omega) fun y => RR.pure) (isB_dl hb)).mono (by omega)).mono (Nat.zero_le _))) (isB_dl hb)).mono (by omega)
  refine RO.ite A.less (Nat.le_refl _) (fun hb => ?_) fun _ => ?_
  · exact (RR.next ((bracedB_R A.less (h.mono (Nat.zero_le _))).bind (c2 := 0) A.ef (by omega) fun c => (hs.bind (c2 := 0) A.ef (by omega) fun x => RR.pure).mono (Nat.zero_le _)) (isB_dl hb)).mono (by omega)
  exact (((simpleB_R A h ha).bind (c2 := 0) A.ef (by omega) fun x => ((must_R A.less).bind (c2 := 0) A.ef (by omega) fun _ => RR.pure).mono (Nat.zero_le _)) i hi)
theorem stmtL_R : ∀ n, RR S d M E F 1 (stmtL S n) (stmtL S' n)
  | 0 => fun i hi => RO.bad
  | n + 1 => stmtB_R A (stmtL_R n) (exprL_R A.less A.st n) (askL_R A.less A.st n)
/-- A function's body. -/
theorem body_R (n : Nat) {i : Nat} (hi : i ≤ S.T.length) (hb : isB S [tx [123]] i = true) : RO S d (M + 1) E F 2 i (stmtL S (n + 1) i) (stmtL S' (n + 1) (i + d)) := by
  show RO S d (M + 1) E F 2 i (stmtB S (stmtL S n) (exprL S n) (askL S n) i) (stmtB S' (stmtL S' n) (exprL S' n) (askL S' n) (i + d))
  unfold stmtB
  rw [if_pos hb]
  refine RO.pick0 (c := 1 + 1) (o' := blockF S' (stmtL S' n) (S'.T.length + 1) [] (i + 1 + d)) ((blockF_R A (stmtL_R A n) _ _ [] (i + 1) (isB_dl hb) (by omega) (by omega)).from) (by omega) fun hl => ?_
  rw [if_pos ((A.isB hl).symm.trans hb), Nat.add_right_comm]
theorem recordF_R {ask ask' : PM Ty} (h : RR S d M E F 1 ask ask') {t : Ty} : ∀ (f f' : Nat) (l : List Nd) (i : Nat), i ≤ S.T.length → S.T.length < f + i → S'.T.length < f' + (i + d) → RO S d (M + 1) E F 1 i (recordF S ask t f l i) (recordF S' ask' t f' l (i + d))
  | 0, f', l, i, hi, h1, h2 => by omega
  | f + 1, f', l, i, hi, h1, h2 => by
    have hf : i < M + 1 ∨ F → ∃ g, f' = g + 1 := fun hl => by
      have := A.far hi hl
      exact ⟨f' - 1, by omega⟩
    rw [recordF]
    dsimp only
    by_cases b1 : isB S [tx [125]] i = true
    · rw [if_pos b1]
      refine (RO.pick0 (RR.next ((must_R A (t := tx [59])).bind (c2 := 0) A.ef (by omega) fun _ => RR.pure (a := Nd.mk 20 (tx []) 0 t l)) (isB_dl b1)) (by omega) fun hl => ?_).mono (by omega)
      obtain ⟨g, rfl⟩ := hf hl
      rw [recordF]
      dsimp only
      rw [if_pos ((A.isB hl).symm.trans b1)]
    · rw [if_neg b1]
      have k : RO S d (M + 1) E F (1 + 1) i _ _ := RO.bind (c1 := 1) (c2 := 1) (M1 := M) (f' := fun b => (declB S' ask' b).bind fun d => (must S' (tx [59])).bind fun _ => recordF S' ask' t (f' - 1) (l ++ [d])) A.ef (base_R A.less i hi) (by omega) fun b j hj hj2 =>
        (RO.bind (c1 := 1) (c2 := 1) (M1 := M) (f' := fun d => (must S' (tx [59])).bind fun _ => recordF S' ask' t (f' - 1) (l ++ [d])) A.ef (declB_R A.less A.st (h.mono (Nat.zero_le _)) j hj2) (by omega) fun y j2 hk hk2 =>
          (RO.bind (c1 := 1) (c2 := 1) (M1 := M) (f' := fun _ => recordF S' ask' t (f' - 1) (l ++ [y])) A.ef (must_R A.less j2 hk2) (by omega) fun _ j3 hm hm2 => recordF_R h f (f' - 1) _ j3 hm2 (by omega) (by omega)).mono (by omega)).mono (by omega)
      refine (RO.pick0 k (by omega) fun hl => ?_).mono (by omega)
      obtain ⟨g, rfl⟩ := hf hl
      rw [recordF]
      dsimp only
      rw [if_neg (by rw [← A.isB hl]; exact b1)]
      rfl
theorem recordB_R {ask ask' : PM Ty} (h : RR S d M E F 1 ask ask') {t : Ty} : RR S d (M + 1) E F 2 (recordB S ask t) (recordB S' ask' t) := fun i hi =>
  RO.bind (c1 := 1) (c2 := 1) A.ef (must_R A i hi) (by omega) fun _ j _ hj => recordF_R A h _ _ [] j hj (by omega) (by omega)
theorem fnB_R (n : Nat) {ask ask' : PM Ty} (h : RR S d M E F 1 ask ask') {t : Ty} : RR S d (M + 1) E F 5 (fnB S ask (stmtL S (n + 1)) t) (fnB S' ask' (stmtL S' (n + 1)) t) :=
  (name_R A.less).bind (c1 := 1) (c2 := 4) (M1 := M) A.ef (by omega) fun s => (list_R A.less (((base_R A.less).bind (c2 := 1) A.ef (by omega) fun b => declB_R A.less A.st (h.mono (Nat.zero_le _))).mono (Nat.zero_le _))).bind (c1 := 2) (c2 := 2) (M1 := M) A.ef (by omega) fun l => fun i hi =>
    RO.ite A (by omega) (fun hb => RO.bind (c1 := 2) (c2 := 0) A.ef (body_R A n hi hb) (by omega) fun x j _ hj => RR.pure j hj) fun _ => RO.bad
theorem item_R : RR S d (M + 1) E F 1 (item S) (item S') := fun i hi => by
  have ha := askL_R A.less A.st 60
  have hdecl : ∀ {t : Ty}, RR S d (M + 1) E F 2 ((declB S (askL S 60) t).bind fun d => (must S (tx [59])).bind fun _ => PM.pure d.toGlobal) ((declB S' (askL S' 60) t).bind fun d => (must S' (tx [59])).bind fun _ => PM.pure d.toGlobal) := fun {t} =>
    (declB_R A.less A.st (ha.mono (Nat.zero_le _))).bind (c1 := 1) (c2 := 1) (M1 := M) A.ef (by omega) fun x => (must_R A).bind (c2 := 0) A.ef (by omega) fun _ => RR.pure
  unfold item itemB
  refine (RO.bindE (c1 := 1) (c2 := 1) (M1 := M + 1) A.ef (base_R A i hi) (by omega) fun b j hm hj hj2 => ?_).mono (by omega)
  have rest : ∀ {b : Ty}, RR S d (M + 1) E F 1 ((stars S b).bind fun t j => if (due S j).kind = 1 ∧ (due S (j + 1)).kind = 4 ∧ (due S (j + 1)).text = tx [40] then fnB S (askL S 60) (stmtL S 60) t j
      else (declB S (askL S 60) t).bind (fun d => (must S (tx [59])).bind fun x => PM.pure d.toGlobal) j) ((stars S' b).bind fun t j => if (due S' j).kind = 1 ∧ (due S' (j + 1)).kind = 4 ∧ (due S' (j + 1)).text = tx [40] then fnB S' (askL S' 60) (stmtL S' 60) t j
      else (declB S' (askL S' 60) t).bind (fun d => (must S' (tx [59])).bind fun x => PM.pure d.toGlobal) j) := fun {b} => ((stars_R A.less A.st).bind (c1 := 0) (c2 := 2) (M1 := M) A.ef (by omega) fun t => fun j hj => by
    refine RO.iteP (k := 1) (by omega) (fun hl => ?_) (fun _ => (fnB_R A 59 ha j hj).mono (by omega)) fun _ => hdecl j hj
    rw [A.kind (n := j) (hl.imp_left fun _ => by omega), A.kind hl, A.text hl, Nat.add_right_comm]).mono (by omega)
  by_cases hk : b.kind = 7 ∨ b.kind = 8
  · have hj3 := base_kind hm hk
    have e : ∀ {i'}, i' = j + d → j < M + 1 ∨ F → (((b.kind = 7 ∨ b.kind = 8) ∧ (due S j).kind = 4 ∧ (due S j).text = tx [123]) ↔ ((b.kind = 7 ∨ b.kind = 8) ∧ (due S' i').kind = 4 ∧ (due S' i').text = tx [123])) := fun e hl => by
      rw [e, A.kind (n := j) hl, A.text (n := j) hl]
    rw [show i + 2 = j from hj3.symm]
    by_cases hc : (b.kind = 7 ∨ b.kind = 8) ∧ (due S j).kind = 4 ∧ (due S j).text = tx [123]
    · rw [if_pos hc]
      exact RO.pick0 ((recordB_R A ha j hj2).mono (by omega)) (Nat.le_refl _) fun hl => by rw [if_pos ((e (by omega) hl).1 hc)]
    · rw [if_neg hc]
      exact RO.pick0 (rest j hj2) (Nat.le_refl _) fun hl => by rw [if_neg (fun h => hc ((e (by omega) hl).2 h))]
  · rw [if_neg (fun h => hk h.1), if_neg (fun h => hk h.1)]
    exact rest j hj2
end
end Go.Proofs.Ytjnineeeffecaaa
