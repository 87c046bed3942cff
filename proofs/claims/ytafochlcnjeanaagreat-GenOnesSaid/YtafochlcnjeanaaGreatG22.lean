/- GenOnes: the plain law. -/
import Derived.Test.YtafochlcnjeanaaGreatG11
namespace Go.Proofs.YtafochlcnjeanaaGreat
open Go X
/-- The instruction that nothing is told by. -/
def emptyI : InsnM := ⟨19, -1, 0, 0, 0, 0, ⟨#[]⟩, .slice none 0 0, []⟩
def emptied (F : FnM) (v : Value) : FnM := { F with code := v, codeL := [emptyI] }
/-- Of some functions, the others' code is taken away. -/
def Ones (l fl : List FnM) (i n : Nat) : Prop := fl.length = l.length ∧ ∀ (j : Nat) F G, l[j]? = some F → fl[j]? = some G → (j < i ∧ ¬ j = n → ∃ v : Value, v.oneCell' = true ∧ G = emptied F v) ∧ (¬ (j < i ∧ ¬ j = n) → G = F)
theorem Ones.zero (l : List FnM) (n : Nat) : Ones l l 0 n := ⟨rfl, fun j F G h1 h2 => ⟨fun h => by omega, fun _ => by rw [h1] at h2; exact (Option.some.inj h2).symm⟩⟩
theorem Ones.keep {l fl : List FnM} {i : Nat} (h : Ones l fl i i) : Ones l fl (i + 1) i := ⟨h.1, fun j F G h1 h2 => ⟨fun h3 => (h.2 j F G h1 h2).1 (by omega), fun h3 => (h.2 j F G h1 h2).2 (by omega)⟩⟩
theorem Ones.step {l fl : List FnM} {i n : Nat} {F : FnM} {v : Value} (h : Ones l fl i n) (hn : ¬ i = n) (hF : l[i]? = some F) (hv : v.oneCell' = true) : Ones l (fl.set i (emptied F v)) (i + 1) n := by
  refine ⟨by rw [List.length_set]; exact h.1, fun j F' G h1 h2 => ?_⟩
  rw [List.getElem?_set] at h2
  split at h2
  · rename_i e
    subst e
    split at h2
    · cases h2
      rw [hF] at h1
      cases h1
      exact ⟨fun _ => ⟨v, hv, rfl⟩, fun h3 => by omega⟩
    · cases h2
  · rename_i e
    exact ⟨fun h3 => (h.2 j F' G h1 h2).1 (by omega), fun h3 => (h.2 j F' G h1 h2).2 (by omega)⟩
theorem Ones.at_ {l fl : List FnM} {i n : Nat} {F : FnM} (h : Ones l fl i n) (hF : l[i]? = some F) : fl[i]? = some F := by
  have hi : i < fl.length := by rw [h.1]; exact (List.getElem?_eq_some_iff.1 hF).1
  have := (h.2 i F fl[i] hF (List.getElem?_eq_getElem hi)).2 (by omega)
  rw [List.getElem?_eq_getElem hi, this]
/-- The program, but for their code. -/
def onesQ (p : ProgM) (fl : List FnM) (vq : Value) : ProgM := ⟨p.sites, p.siteL, vq, fl, p.main⟩
section
variable {p : ProgM} {fl : List FnM} {vq : Value} {n : Nat}
theorem Ones.get (h : Ones p.fnL fl p.fnL.length n) {j : Nat} {G : FnM} (hG : fl[j]? = some G) : ∃ F, p.fnL[j]? = some F ∧ ((¬ j = n ∧ ∃ v : Value, v.oneCell' = true ∧ G = emptied F v) ∨ (j = n ∧ G = F)) := by
  have hj : j < p.fnL.length := by rw [← h.1]; exact (List.getElem?_eq_some_iff.1 hG).1
  have hF : p.fnL[j]? = some p.fnL[j] := List.getElem?_eq_getElem hj
  refine ⟨_, hF, ?_⟩
  by_cases e : j = n
  · exact .inr ⟨e, (h.2 j _ G hF hG).2 (by omega)⟩
  · exact .inl ⟨e, (h.2 j _ G hF hG).1 ⟨hj, e⟩⟩
theorem Ones.regs (h : Ones p.fnL fl p.fnL.length n) {j : Nat} {F G : FnM} (hF : p.fnL[j]? = some F) (hG : fl[j]? = some G) : G.regs = F.regs ∧ G.params = F.params := by
  obtain ⟨F', hF', h1⟩ := h.get hG
  rw [hF] at hF'
  cases hF'
  rcases h1 with ⟨_, v, _, rfl⟩ | ⟨_, rfl⟩ <;> exact ⟨rfl, rfl⟩
theorem Ones.first (h : Ones p.fnL fl p.fnL.length n) (k : Nat) : Go.Proofs.YtafochlcnjeanaaGreat.first (onesQ p fl vq) k = Go.Proofs.YtafochlcnjeanaaGreat.first p k := by
  unfold Go.Proofs.YtafochlcnjeanaaGreat.first
  congr 1
  refine List.ext_getElem? fun j => ?_
  rw [List.getElem?_map, List.getElem?_map, List.getElem?_take, List.getElem?_take]
  split
  · show Option.map _ fl[j]? = _
    cases hG : fl[j]? with
    | none =>
      have : p.fnL[j]? = none := by rw [List.getElem?_eq_none_iff] at hG ⊢; rw [← h.1]; exact hG
      rw [this]
    | some G =>
      obtain ⟨F, hF, _⟩ := h.get hG
      rw [hF]
      simp only [Option.map_some]
      rw [(h.regs hF hG).1]
  · rfl
theorem Ones.insn (h : Ones p.fnL fl p.fnL.length n) (fn : Nat) (I : InsnM) : insnS (onesQ p fl vq) fn I = insnS p fn I := by
  unfold insnS told
  simp only [h.first]
theorem empty_none (p : ProgM) (fn : Nat) : insnS p fn emptyI = [] := by simp [insnS, emptyI]
theorem Ones.okI (h : Ones p.fnL fl p.fnL.length n) {I : InsnM} (hI : okI p I) : okI (onesQ p fl vq) I := by
  refine ⟨fun h15 => ?_, hI.2⟩
  obtain ⟨⟨h0, h1⟩, h2⟩ := hI.1 h15
  refine ⟨⟨h0, by show _ < (fl.length : Int); rw [h.1]; exact h1⟩, fun G hG => ?_⟩
  have hG : fl[I.n.toNat]? = some G := hG
  obtain ⟨F, hF, _⟩ := h.get hG
  rw [(h.regs hF hG).2]
  exact h2 F hF
theorem okI_empty (p : ProgM) : okI p emptyI := ⟨fun h => by simp [emptyI] at h, fun h => by simp [emptyI] at h, fun h => by simp [emptyI] at h⟩
theorem Ones.ok (h : Ones p.fnL fl p.fnL.length n) (hp : p.OK) : (onesQ p fl vq).OK := by
  have key : ∀ G ∈ fl, ∃ F ∈ p.fnL, G.regs = F.regs ∧ G.params = F.params ∧ (G = F ∨ G.codeL = [emptyI]) := fun G hG => by
    obtain ⟨j, hj, rfl⟩ := List.getElem_of_mem hG
    obtain ⟨F, hF, h1⟩ := h.get (List.getElem?_eq_getElem hj)
    have h2 := h.regs hF (List.getElem?_eq_getElem hj)
    refine ⟨F, List.mem_of_getElem? hF, h2.1, h2.2, ?_⟩
    rcases h1 with ⟨_, v, _, e⟩ | ⟨_, e⟩
    · rw [e]; exact .inr rfl
    · exact .inl e
  refine ⟨by show fl.length ≤ 200; rw [h.1]; exact hp.few, fun G hG => ?_, fun G hG => ?_, fun G hG => ?_, fun G hG I hI => ?_⟩
  all_goals obtain ⟨F, hF, h1, h2, h3⟩ := key G hG
  · rw [h1]; exact hp.regs F hF
  · rw [h1, h2]; exact hp.params F hF
  · rcases h3 with rfl | h3
    · exact hp.code _ hF
    · rw [h3]; decide
  · rcases h3 with rfl | h3
    · exact h.okI (hp.insn _ hF I hI)
    · rw [h3, List.mem_singleton] at hI
      subst hI
      exact okI_empty _
theorem ones_cells : onesL emptyI.cells = true := rfl
theorem Ones.wf (h : Ones p.fnL fl p.fnL.length n) (hw : p.WF) (hv : vq.oneCell' = true) : (onesQ p fl vq).WF := by
  have key : ∀ G ∈ fl, ∃ F ∈ p.fnL, G.locL = F.locL ∧ (G = F ∨ (G.codeL = [emptyI] ∧ ∃ v : Value, v.oneCell' = true ∧ G = emptied F v)) := fun G hG => by
    obtain ⟨j, hj, rfl⟩ := List.getElem_of_mem hG
    obtain ⟨F, hF, h1⟩ := h.get (List.getElem?_eq_getElem hj)
    refine ⟨F, List.mem_of_getElem? hF, ?_⟩
    rcases h1 with ⟨_, v, hv, e⟩ | ⟨_, e⟩
    · rw [e]; exact ⟨rfl, .inr ⟨rfl, v, hv, rfl⟩⟩
    · rw [e]; exact ⟨rfl, .inl rfl⟩
  have h1 := hw.one
  simp only [onesL, Bool.and_eq_true] at h1
  refine ⟨hw.sites, by show fl.length ≤ maxLen; rw [h.1]; exact hw.fns, fun G hG => ?_, fun G hG => ?_, fun G hG I hI => ?_, ?_, fun G hG => ?_, fun G hG I hI => ?_⟩
  rotate_left 3
  · show onesL [p.sites, vq, .int .i64 p.main] = true
    simp only [onesL, h1.1, hv, h1.2.2, Bool.and_true]
  all_goals obtain ⟨F, hF, h1, h2⟩ := key G hG
  · rcases h2 with rfl | ⟨_, v, hv, rfl⟩
    · exact hw.oneF _ hF
    · have := hw.oneF _ hF
      simp only [onesL, FnM.cells, Bool.and_eq_true] at this
      show onesL [.string F.name, .int .i64 F.regs, .int .i64 F.params, F.locs, v] = true
      simp only [onesL, this.1, this.2.1, this.2.2.1, this.2.2.2.1, hv, Bool.and_true]
  · rcases h2 with rfl | ⟨h2, _⟩
    · exact hw.oneI _ hF I hI
    · rw [h2, List.mem_singleton] at hI
      subst hI
      exact ones_cells
  · rw [h1]; exact hw.locs F hF
  · rcases h2 with rfl | ⟨h2, _⟩
    · exact hw.code _ hF
    · rw [h2]; decide
  · rcases h2 with rfl | ⟨h2, _⟩
    · exact hw.args _ hF I hI
    · rw [h2, List.mem_singleton] at hI
      subst hI
      decide
/-- The law: what is left is the function's own. -/
theorem Ones.law (h : Ones p.fnL fl p.fnL.length n) : genS (onesQ p fl vq) = (genS p).filter (fun P => decide (P.fn = (n : Int))) := by
  unfold genS
  rw [List.filter_flatten]
  congr 1
  refine List.ext_getElem? fun j => ?_
  rw [List.getElem?_map, List.getElem?_mapIdx, List.getElem?_mapIdx]
  show Option.map (consF (onesQ p fl vq) j) fl[j]? = _
  cases hG : fl[j]? with
  | none =>
    have : p.fnL[j]? = none := by rw [List.getElem?_eq_none_iff] at hG ⊢; rw [← h.1]; exact hG
    rw [this]
    rfl
  | some G =>
    obtain ⟨F, hF, h1⟩ := h.get hG
    rw [hF]
    simp only [Option.map_some, Option.some.injEq]
    have hfn : ∀ P ∈ consF p j F, P.fn = (j : Int) := fun P hP => by
      obtain ⟨L, hL, hP⟩ := List.mem_flatten.1 hP
      obtain ⟨i, hi, rfl⟩ := List.mem_mapIdx.1 hL
      obtain ⟨Q, _, rfl⟩ := List.mem_map.1 hP
      rfl
    rcases h1 with ⟨e, v, _, rfl⟩ | ⟨e, rfl⟩
    · rw [List.filter_eq_nil_iff.2 fun P hP => by rw [hfn P hP]; simp; omega]
      simp [consF, emptied, consI, empty_none]
    · subst e
      rw [List.filter_eq_self.2 fun P hP => by rw [hfn P hP]; simp]
      unfold consF
      congr 1
      refine List.ext_getElem? fun i => ?_
      rw [List.getElem?_mapIdx, List.getElem?_mapIdx]
      congr 1
      funext I
      rw [consI, consI, h.insn]
end
end Go.Proofs.YtafochlcnjeanaaGreat
