/- Two sources one behind the other: the items of both. Plain Lean. -/
import Derived.Test.YtjnineeeffecaaaP28
import Derived.Test.YtjnineeeffecaaaP17
namespace Go.Proofs.Ytjnineeeffecaaa
open Go
theorem due_er (S : Src) (n : Nat) : (due S n).er = ((S.T.map Tok.er)[n]?).getD (0, tx [], 0) := by
  unfold due
  rw [List.getElem?_map]
  cases S.T[n]? <;> rfl
/-- A source within another. -/
theorem Al.of {S S' : Src} {pre post : List TK} (h : S'.T.map Tok.er = pre ++ S.T.map Tok.er ++ post) {E : Prop} : Al S S' 0 pre.length S.T.length E False := by
  refine ⟨fun n _ hn => ?_, ?_, fun h => h.elim, fun h => h.elim⟩
  · have hn : n < S.T.length := hn.resolve_right id
    rw [due_er, due_er, h, List.getElem?_append_left (by simp; omega), List.getElem?_append_right (by omega), Nat.add_sub_cancel]
  · have := congrArg List.length h
    simp at this
    omega
theorem Al.items {S S' : Src} {d : Nat} (A : Al S S' 0 d S.T.length False False) {i j : Nat} {x : Nd} (hi : i ≤ S.T.length) (h : item S i = .ok x j) : i + 1 ≤ j ∧ j ≤ S.T.length ∧ item S' (i + d) = .ok x (j + d) := by
  rcases Nat.eq_zero_or_pos S.T.length with h0 | h0
  · -- no item where no token is
    exfalso
    have hb : ¬ ∃ b l, base S i = .ok b l := by
      rintro ⟨b, l, hb⟩
      unfold base typed at hb
      split at hb
      · rename_i h1
        have := isB_dl h1
        omega
      · cases hb
    unfold item itemB PM.bind at h
    cases hb' : base S i with
    | ok b l => exact hb ⟨b, l, hb'⟩
    | bad t k => rw [hb'] at h; cases h
  · obtain ⟨M, hM⟩ : ∃ M, S.T.length = M + 1 := ⟨S.T.length - 1, by omega⟩
    have A' : Al S S' 0 d (M + 1) False False := hM ▸ A
    have := item_R A' i hi (Nat.zero_le _)
    rw [h] at this
    obtain ⟨h1, h2, h3⟩ := this
    exact ⟨h1, h2, (h3 (.inl (by omega))).resolve_right (fun h => h.1)⟩
/-- A source's items, read within another one. -/
theorem Al.unit {S S' : Src} {d : Nat} (A : Al S S' 0 d S.T.length False False) : ∀ (f i : Nat) (l l' : List Nd) (j : Nat), i ≤ S.T.length → S.T.length < f + i → unitF S f l i = .ok l' j → ∀ (p : List Nd) (f' : Nat), S'.T.length < f' + (i + d) →
    ∃ f2, S'.T.length < f2 + (S.T.length + d) ∧ unitF S' f' (p ++ l) (i + d) = unitF S' f2 (p ++ l') (S.T.length + d)
  | 0, i, l, l', j, hi, hf, h, p, f', hf' => by omega
  | f + 1, i, l, l', j, hi, hf, h, p, f', hf' => by
    have hlen := A.len
    rw [unitF_succ] at h
    by_cases hlt : i < S.T.length
    · rw [if_pos hlt] at h
      unfold PM.bind at h
      cases hx : item S i with
      | bad t k => rw [hx] at h; cases h
      | ok x k =>
        rw [hx] at h
        obtain ⟨h1, h2, h3⟩ := A.items hi hx
        obtain ⟨g, rfl⟩ : ∃ g, f' = g + 1 := ⟨f' - 1, by omega⟩
        obtain ⟨f2, h4, h5⟩ := Al.unit A f k (l ++ [x]) l' j h2 (by omega) h p g (by omega)
        refine ⟨f2, h4, ?_⟩
        rw [unitF_succ, if_pos (by omega)]
        unfold PM.bind
        rw [h3]
        dsimp only
        rw [List.append_assoc]
        exact h5
    · rw [if_neg hlt] at h
      cases h
      obtain rfl : i = S.T.length := by omega
      exact ⟨f', hf', rfl⟩
theorem foldl_max_le {a b : Nat} : ∀ {l : List Nat}, l.foldl max a ≤ b ↔ a ≤ b ∧ ∀ x ∈ l, x ≤ b
  | [] => by simp
  | x :: l => by
    rw [List.foldl_cons, foldl_max_le]
    simp only [List.mem_cons, forall_eq_or_imp, Nat.max_le]
    exact ⟨fun h => ⟨h.1.1, h.1.2, h.2⟩, fun h => ⟨⟨h.1, h.2.1⟩, h.2.2⟩⟩
theorem depth_app {f m : Nat} {l1 l2 : List Nd} {k : Int} {s : ByteArray} {n : Int} {t : Ty} (h1 : depthL (f + 1) (.mk k s n t l1) ≤ m) (h2 : depthL (f + 1) (.mk k s n t l2) ≤ m) : depthL (f + 1) (.mk k s n t (l1 ++ l2)) ≤ m := by
  unfold depthL at *
  have e1 := foldl_max_le.1 (show (l1.map (depthL f)).foldl max 0 ≤ m - 1 by have : (l1.map (depthL f)).foldl max 0 + 1 ≤ m := h1; omega)
  have e2 := foldl_max_le.1 (show (l2.map (depthL f)).foldl max 0 ≤ m - 1 by have : (l2.map (depthL f)).foldl max 0 + 1 ≤ m := h2; omega)
  have : ((l1 ++ l2).map (depthL f)).foldl max 0 ≤ m - 1 := foldl_max_le.2 ⟨Nat.zero_le _, fun x hx => by
    rw [List.map_append, List.mem_append] at hx
    exact hx.elim (e1.2 x) (e2.2 x)⟩
  have hm : 1 ≤ m := by have : (l1.map (depthL f)).foldl max 0 + 1 ≤ m := h1; omega
  show ((l1 ++ l2).map (depthL f)).foldl max 0 + 1 ≤ m
  omega
/-- What it is to be read. -/
theorem parseA_read {s : List UInt8} {x : Nd} {a : Int} (h : parseA s = (x, a, 0)) : a = 0 ∧ ∃ T l j, lexS s = .ok T ∧ unitF ⟨T, s.length⟩ (T.length + 1) [] 0 = .ok l j ∧ x = .mk 23 (tx []) 0 .nil l ∧ depthL 250 x ≤ 250 := by
  unfold parseA at h
  cases hl : lexS s with
  | bad t k =>
    rw [hl] at h
    exact absurd (congrArg (fun y => y.2.2) h) (lexS_bad hl).2.2
  | ok T =>
    rw [hl] at h
    have hw := unit_w (lexS_ok hl) 0
    dsimp only at h
    unfold parseT at h
    cases hu : unitF ⟨T, s.length⟩ ((Src.mk T s.length).T.length + 1) [] 0 with
    | bad t k =>
      rw [hu] at h hw
      exact absurd (congrArg (fun y => y.2.2) h) hw.2.2
    | ok l j =>
      rw [hu] at h
      dsimp only at h
      split at h
      · exact absurd (show (4 : Int) = 0 from congrArg (fun y => y.2.2) h) (by decide)
      · rename_i hd
        cases h
        exact ⟨rfl, T, l, j, rfl, hu, rfl, Nat.le_of_not_lt hd⟩
theorem parse_items {s t : List UInt8} {x y : Nd} {a b : Int} (hx : parseA s = (x, a, 0)) (hy : parseA t = (y, b, 0)) (hl : s.length + t.length < 20000) : parseA (s ++ 10 :: t) = (.mk 23 (tx []) 0 .nil (x.kids ++ y.kids), 0, 0) := by
  obtain ⟨-, T1, l1, j1, e1, u1, rfl, d1⟩ := parseA_read hx
  obtain ⟨-, T2, l2, j2, e2, u2, rfl, d2⟩ := parseA_read hy
  obtain ⟨-, k1⟩ := lexS_lx e1
  obtain ⟨-, k2⟩ := lexS_lx e2
  obtain ⟨T, e3, eT⟩ := lx_lexS (k1.app (c := 10) (.inl rfl) k2) (by simp; omega)
  have A1 : Al ⟨T1, s.length⟩ ⟨T, (s ++ 10 :: t).length⟩ 0 0 T1.length False False := Al.of (S := ⟨T1, s.length⟩) (S' := ⟨T, (s ++ 10 :: t).length⟩) (pre := []) (post := T2.map Tok.er) eT
  have A2 : Al ⟨T2, t.length⟩ ⟨T, (s ++ 10 :: t).length⟩ 0 T1.length T2.length False False := by
    have := Al.of (S := ⟨T2, t.length⟩) (S' := ⟨T, (s ++ 10 :: t).length⟩) (pre := T1.map Tok.er) (post := []) (E := False) (by rw [List.append_nil]; exact eT)
    rwa [List.length_map] at this
  have hT : T.length = T1.length + T2.length := by
    have := congrArg List.length eT
    simpa using this
  obtain ⟨f1, h1, h2⟩ := Al.unit A1 (T1.length + 1) 0 [] l1 j1 (Nat.zero_le _) (by simp) u1 [] (T.length + 1) (by simp)
  obtain ⟨f2, h3, h4⟩ := Al.unit A2 (T2.length + 1) 0 [] l2 j2 (Nat.zero_le _) (by simp) u2 l1 f1 (by simpa using h1)
  have hu : unitF ⟨T, (s ++ 10 :: t).length⟩ (T.length + 1) [] 0 = .ok (l1 ++ l2) (T2.length + T1.length) := by
    simp only [List.nil_append, Nat.zero_add, List.append_nil, Nat.add_zero] at h2 h4
    rw [h2, h4]
    cases f2 with
    | zero => rfl
    | succ g => rw [unitF_succ, if_neg (by simp; omega)]
  unfold parseA
  rw [e3]
  dsimp only
  unfold parseT
  dsimp only
  rw [hu]
  dsimp only
  rw [if_neg (Nat.not_lt.2 (depth_app (f := 249) d1 d2))]
end Go.Proofs.Ytjnineeeffecaaa
