/- Of all constraints: how many, and whose. -/
import Derived.Test.YtafochlcnjeanaaGreatG11
namespace Go.Proofs.YtafochlcnjeanaaGreat
open Go X
theorem genS_len {p : ProgM} (hp : p.OK) : (genS p).length ≤ 10000000000 := by
  have h := parts_len hp (Nat.le_refl _)
  rw [parts_all] at h
  have := hp.few
  unfold genS
  omega
theorem insnS_args {p : ProgM} (hp : p.OK) {fn : Nat} {I : InsnM} (hI : okI p I) : ∀ P ∈ insnS p fn I, P.args.length ≤ 4000 := by
  have hargs := hp.args hI
  have key : ∀ {c : Prop} [Decidable c] {a b : List ConP}, (c → ∀ P ∈ a, P.args.length ≤ 4000) → (¬ c → ∀ P ∈ b, P.args.length ≤ 4000) → ∀ P ∈ (if c then a else b), P.args.length ≤ 4000 := by
    intro c _ a b h1 h2
    split
    · exact h1 ‹_›
    · exact h2 ‹_›
  unfold insnS
  dsimp only
  repeat' (refine key (fun h => ?_) (fun _ => ?_))
  all_goals first
    | (intro P hP; simp at hP; done)
    | (intro P hP; rw [List.mem_singleton] at hP; subst hP; exact Nat.zero_le _)
    | (intro P hP; simp only [List.mem_cons, List.not_mem_nil, or_false] at hP; rcases hP with rfl | rfl <;> exact Nat.zero_le _)
    | (intro P hP; rw [List.mem_singleton] at hP; subst hP; rw [List.length_map]; exact hargs (.inr (by assumption)))
    | (intro P hP
       rcases List.mem_append.1 hP with hP | hP
       · obtain ⟨i, hi, rfl⟩ := List.mem_mapIdx.1 hP
         exact Nat.zero_le _
       · rw [List.mem_singleton] at hP; subst hP; exact Nat.zero_le _)
theorem mem_parts {α β : Type} {f : Nat → α → List β} {l : List α} {b : β} (h : b ∈ (l.mapIdx f).flatten) : ∃ i x, l[i]? = some x ∧ b ∈ f i x := by
  obtain ⟨L, hL, hb⟩ := List.mem_flatten.1 h
  obtain ⟨i, hi, rfl⟩ := List.mem_mapIdx.1 hL
  exact ⟨i, l[i], List.getElem?_eq_getElem hi, hb⟩
/-- Each constraint is an instruction's. -/
theorem mem_genS {p : ProgM} {P : ConP} (h : P ∈ genS p) : ∃ fn F pc I Q, p.fnL[fn]? = some F ∧ F.codeL[pc]? = some I ∧ Q ∈ insnS p fn I ∧ P = place fn pc Q := by
  obtain ⟨fn, F, hF, h⟩ := mem_parts h
  obtain ⟨pc, I, hI, h⟩ := mem_parts h
  obtain ⟨Q, hQ, rfl⟩ := List.mem_map.1 h
  exact ⟨fn, F, pc, I, Q, hF, hI, hQ, rfl⟩
theorem genS_args {p : ProgM} (hp : p.OK) : ∀ P ∈ genS p, P.args.length ≤ 4000 := by
  intro P hP
  obtain ⟨fn, F, pc, I, Q, hF, hI, hQ, rfl⟩ := mem_genS hP
  exact insnS_args hp (hp.insn F (List.mem_of_getElem? hF) I (List.mem_of_getElem? hI)) Q hQ
end Go.Proofs.YtafochlcnjeanaaGreat
