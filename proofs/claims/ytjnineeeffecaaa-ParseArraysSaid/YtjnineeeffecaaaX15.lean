/- Arguments that hold slices in structs in slices: opened level by level, with what they weigh. For whatever program. -/
import Derived.Test.YtjnineeeffecaaaX12
import Derived.SizedLaws
namespace Go.Proofs.Ytjnineeeffecaaa.X
open Go Go.RowKit Go.ChangeShapes Go.WideShapes Go.ChangeAt

section
variable {H : Type} {enc : TypeId × Value → H} {P : Program} {w : World} {hd : Bool}
/-- No more bytes than can be reached, at whatever depth. -/
def Wt (P : Program) (t : TypeId) (d : DataW H) : Prop := ∀ n ∈ d.weights P t, n ≤ reachBytes
theorem Wt.of_each {ts : List TypeId} {ds : List (DataW H)} (h : (DataW.weightsEach P ts ds).all (· ≤ reachBytes) = true) {j : Nat} {t : TypeId} {d : DataW H} (ht : ts[j]? = some t) (hd : ds[j]? = some d) : Wt P t d := fun n hn => by
  have := List.all_eq_true.1 h n (DataW.weights_mem_each ht hd n hn)
  simpa using this
theorem Wt.field {t : TypeId} {fs : Array Field} {ds : List (DataW H)} (hu : P.underlying t = some (.struct fs)) (h : Wt P t (.agg ds)) {i : Nat} {f : Field} {d : DataW H} (hf : fs[i]? = some f) (hd : ds[i]? = some d) : Wt P f.type d := fun n hn =>
  h n (by
    simp only [DataW.weights, hu]
    exact DataW.weights_mem_each (j := i) (by simp [hf]) hd n hn)
theorem mem_weightsAll {e : TypeId} : ∀ {ds : List (DataW H)} {d : DataW H}, d ∈ ds → ∀ n ∈ d.weights P e, n ∈ DataW.weightsAll P e ds
  | d0 :: ds, d, h, n, hn => by
    simp only [DataW.weightsAll, List.mem_append]
    rcases List.mem_cons.1 h with rfl | h
    · exact .inl hn
    · exact .inr (mem_weightsAll h n hn)
theorem Wt.slice {t e : TypeId} {ds sp : List (DataW H)} (hu : P.underlying t = some (.slice e)) (h : Wt P t (.slice ds sp)) : (ds.length + sp.length) * P.bytesOf e ≤ reachBytes ∧ ∀ d ∈ ds, Wt P e d := by
  refine ⟨h _ (by simp [DataW.weights, hu]), fun d hd n hn => h n ?_⟩
  simp only [DataW.weights, hu, List.mem_cons, List.mem_append]
  exact .inr (.inl (mem_weightsAll hd n hn))
/-- A struct's fields. -/
theorem openStruct {t : TypeId} {fs : Array Field} {fuel : Nat} {cs : List Value} {x : DataW H × List MemPlace} (ht : P.underlying t = some (.struct fs)) (h : DataW.trod enc P w 0 (fun _ => true) hd fuel t cs = some x) (hw : Wt P t x.1) :
    cs.length = P.cellsOf t ∧ ∀ (i : Nat) (f : Field), fs[i]? = some f → ∃ m y, DataW.trod enc P w 0 (fun _ => true) hd m f.type ((cs.drop f.offset).take (P.cellsOf f.type)) = some y ∧ Wt P f.type y.1 := by
  obtain ⟨xs, n, _, rfl, hl, hlen, hf⟩ := DataW.trod_struct ht h
  refine ⟨hl, fun i f hfi => ?_⟩
  have hi : i < xs.length := by rw [hlen]; exact (Array.getElem?_eq_some_iff.1 hfi).1
  have h1 := hf i f hfi
  rw [List.getElem?_eq_getElem hi] at h1
  exact ⟨n, _, h1, hw.field ht hfi (by rw [List.getElem?_map, List.getElem?_eq_getElem hi]; rfl)⟩
theorem openFields {t : TypeId} {fs : Array Field} {fuel sz : Nat} {cs : List Value} {x : DataW H × List MemPlace} (ht : P.underlying t = some (.struct fs)) (hsz : P.cellsOf t = sz) (h : DataW.trod enc P w 0 (fun _ => true) hd fuel t cs = some x) (hw : Wt P t x.1) :
    cs.length = sz ∧ ∀ (i : Nat) (ty : TypeId) (off k : Nat), (fs[i]?).map (fun f => (f.type, f.offset)) = some (ty, off) → P.cellsOf ty = k → ∃ m y, DataW.trod enc P w 0 (fun _ => true) hd m ty ((cs.drop off).take k) = some y ∧ Wt P ty y.1 := by
  obtain ⟨hl, hf⟩ := openStruct ht h hw
  refine ⟨hl.trans hsz, fun i ty off k hi hk => ?_⟩
  subst hk
  cases hfi : fs[i]? with
  | none => rw [hfi] at hi; cases hi
  | some f =>
    rw [hfi] at hi
    cases hi
    exact hf i f hfi
theorem flatRows {sz : Nat} (hpos : 0 < sz) : ∀ (rows : List (List Value)), (∀ cs ∈ rows, cs.length = sz) → rows.flatten.length = rows.length * sz ∧ ∀ (j : Nat), rows.flatten[j]? = (rows[j / sz]?).bind (fun cs => cs[j % sz]?) := by
  intro rows
  induction rows with
  | nil => intro _; simp
  | cons cs rows ih =>
    intro h
    obtain ⟨h4, h5⟩ := ih (fun c hc => h c (List.mem_cons_of_mem _ hc))
    have h6 := h cs List.mem_cons_self
    refine ⟨by simp [h4, h6, Nat.add_mul, Nat.add_comm], fun j => ?_⟩
    rw [List.flatten_cons, List.getElem?_append, h6]
    by_cases h7 : j < sz
    · rw [if_pos h7, Nat.div_eq_of_lt h7, Nat.mod_eq_of_lt h7]
      rfl
    · have h8 : j / sz = (j - sz) / sz + 1 := Nat.div_eq_sub_div hpos (by omega)
      have h9 : j % sz = (j - sz) % sz := Nat.mod_eq_sub_mod (by omega)
      rw [if_neg h7, h5, h8, h9, List.getElem?_cons_succ]
/-- A slice's elements. -/
theorem openSlice {t e : TypeId} {sz fuel : Nat} {cs : List Value} {x : DataW H × List MemPlace} (ht : P.underlying t = some (.slice e)) (hc : P.cellsOf e = sz) (hpos : 0 < sz) (h : DataW.trod enc P w 0 (fun _ => true) hd fuel t cs = some x) (hw : Wt P t x.1) :
    ∃ (v : Value) (rows : List (List Value)), cs = [v] ∧ v.oneCell' = true ∧ rows.length ≤ maxLen ∧ rows.length * P.bytesOf e ≤ reachBytes ∧
      (∀ cs ∈ rows, cs.length = sz ∧ ∃ n y, DataW.trod enc P w 0 (fun _ => true) hd n e cs = some y ∧ Wt P e y.1) ∧ Row sz v rows.length rows.flatten w := by
  rcases DataW.trod_slice ht h with ⟨rfl, _⟩ | ⟨a, len, cap, elems, rest, m, _, rfl, rfl, _, hlc, hcm, hlen, hel, hre, _⟩
  · exact ⟨_, [], rfl, rfl, Nat.zero_le _, by simp, (fun _ h => nomatch h), row_nil sz w⟩
  obtain ⟨hw1, hw2⟩ := hw.slice ht
  obtain ⟨hre1, hre2⟩ := hre rfl
  have hwl : len * P.bytesOf e ≤ reachBytes := Nat.le_trans (Nat.mul_le_mul_right _ (by rw [List.length_map, hlen]; omega)) hw1
  have each : ∀ i, i < len → ∃ cs, w.cells? 0 (a.add (i * sz)) sz = some cs ∧ ∃ y, DataW.trod enc P w 0 (fun _ => true) hd m e cs = some y ∧ Wt P e y.1 := fun i hi => by
    have h2 := hel i hi
    have h3 : elems[i]? = some elems[i] := List.getElem?_eq_getElem (by omega)
    rw [h3, hc] at h2
    obtain ⟨cs, h4, h5⟩ := Option.bind_eq_some_iff.1 h2
    exact ⟨cs, h4, _, h5, hw2 _ (List.mem_map.2 ⟨_, List.getElem_mem (by omega), rfl⟩)⟩
  obtain ⟨b, off, spot⟩ := a
  by_cases h0 : cap = 0
  · subst h0
    obtain rfl : len = 0 := by omega
    refine ⟨_, [], rfl, rfl, Nat.zero_le _, by simp, (fun _ h => nomatch h), by simp, ?_⟩
    cases spot with
    | none => exact .inr ⟨b, off, 0, rfl, Nat.le_refl _, fun j u hj => by simp at hj⟩
    | some s => exact .inl ⟨.inr ⟨b, off, s, rfl⟩, rfl⟩
  have hcell : ∃ cs, w.cells? 0 ((⟨b, off, spot⟩ : Addr).add 0) sz = some cs := by
    by_cases hl0 : len = 0
    · subst hl0
      have h2 := hre2 0 (by omega)
      have h3 : rest[0]? = some (rest[0]'(by omega)) := List.getElem?_eq_getElem (by omega)
      rw [h3, hc] at h2
      obtain ⟨cs, h4, _⟩ := Option.bind_eq_some_iff.1 h2
      exact ⟨cs, by simpa using h4⟩
    · obtain ⟨cs, h4, _⟩ := each 0 (by omega)
      exact ⟨cs, by simpa using h4⟩
  have hspot : spot = none := by
    obtain ⟨cs, h4⟩ := hcell
    obtain ⟨_, h5, h6⟩ := World.cells?_some h4
    have h7 := h6 0 hpos
    cases spot with
    | none => rfl
    | some s =>
      have : w.cell? (((⟨b, off, some s⟩ : Addr).add 0).add 0) = none := by
        unfold World.cell?
        split
        · simp [Addr.add]
        · rfl
      rw [this] at h7
      have h8 : cs[0]? = some (cs[0]'(by omega)) := List.getElem?_eq_getElem (by omega)
      rw [h8] at h7
      cases h7
  subst hspot
  obtain ⟨rows, h2, h3⟩ := exRows (fun i cs => w.cells? 0 ((⟨b, off, none⟩ : Addr).add (i * sz)) sz = some cs ∧ ∃ y, DataW.trod enc P w 0 (fun _ => true) hd m e cs = some y ∧ Wt P e y.1) len each
  have hsz : ∀ cs ∈ rows, cs.length = sz := fun cs hcs => by
    obtain ⟨i, hi, rfl⟩ := List.getElem_of_mem hcs
    obtain ⟨cs', h4, h5, _⟩ := h3 i (by omega)
    rw [List.getElem?_eq_getElem hi] at h4
    cases h4
    exact (World.cells?_some h5).2.1
  obtain ⟨h4, h5⟩ := flatRows hpos rows hsz
  refine ⟨_, rows, rfl, rfl, by omega, by rw [h2]; exact hwl, fun cs hcs => ⟨hsz cs hcs, ?_⟩, by rw [h2] at h4 ⊢; exact h4, .inr ⟨b, off, cap, by rw [h2], by omega, fun j u hj => ?_⟩⟩
  · obtain ⟨i, hi, rfl⟩ := List.getElem_of_mem hcs
    obtain ⟨cs', h6, _, y, h7⟩ := h3 i (by omega)
    rw [List.getElem?_eq_getElem hi] at h6
    cases h6
    exact ⟨m, y, h7⟩
  · rw [h5] at hj
    obtain ⟨cs, h6, h7⟩ := Option.bind_eq_some_iff.1 hj
    have h8 : j / sz < rows.length := (List.getElem?_eq_some_iff.1 h6).1
    obtain ⟨cs', h9, h10, _⟩ := h3 (j / sz) (by omega)
    rw [h6] at h9
    cases h9
    have h11 := (World.cells?_some h10).2.2 (j % sz) (Nat.mod_lt _ hpos)
    rw [h7] at h11
    have h12 : ((⟨b, off, none⟩ : Addr).add (j / sz * sz)).add (j % sz) = ⟨b, off + j, none⟩ := by
      rw [Addr.add_lit, Addr.add_lit]
      have := Nat.div_add_mod j sz
      rw [Nat.mul_comm] at this
      congr 1
      omega
    rw [h12] at h11
    exact h11
theorem rowsMap {α : Type} {f : α → List Value} {p : α → Prop} : ∀ {rows : List (List Value)}, (∀ cs ∈ rows, ∃ a, cs = f a ∧ p a) → ∃ l : List α, rows = l.map f ∧ ∀ a ∈ l, p a
  | [], _ => ⟨[], rfl, fun _ h => nomatch h⟩
  | cs :: rows, h => by
    obtain ⟨a, e, ha⟩ := h cs List.mem_cons_self
    obtain ⟨l, e2, hl⟩ := rowsMap fun c hc => h c (List.mem_cons_of_mem _ hc)
    exact ⟨a :: l, by rw [e, e2]; rfl, fun x hx => (List.mem_cons.1 hx).elim (fun e => e ▸ ha) (hl x)⟩
end
end Go.Proofs.Ytjnineeeffecaaa.X
