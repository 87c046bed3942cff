/- Rows of one sign, and of =. Plain Lean. -/
import Derived.Test.YtjnineeeffecaaaP34
namespace Go.Proofs.Ytjnineeeffecaaa
open Go
@[reducible] def tA : TK := (1, tx [97], 0)
@[reducible] def nmA : Nd := .mk 2 (tx [97]) 0 .nil []
def tailL (sg : List UInt8) : Nat → List UInt8
  | 0 => []
  | m + 1 => 32 :: (sg ++ 32 :: 97 :: tailL sg m)
def tailK (sg : List UInt8) : Nat → List TK
  | 0 => []
  | m + 1 => (4, tx sg, 0) :: tA :: tailK sg m
theorem tailL_snoc (sg : List UInt8) : ∀ m, tailL sg (m + 1) = tailL sg m ++ (32 :: (sg ++ [32, 97]))
  | 0 => by simp [tailL]
  | m + 1 => by
    have ih := tailL_snoc sg m
    show 32 :: (sg ++ 32 :: 97 :: tailL sg (m + 1)) = (32 :: (sg ++ 32 :: 97 :: tailL sg m)) ++ _
    rw [ih]
    simp
theorem tailL_len (sg : List UInt8) : ∀ m, (tailL sg m).length = m * (sg.length + 3)
  | 0 => by simp [tailL]
  | m + 1 => by
    rw [tailL, List.length_cons, List.length_append, List.length_cons, List.length_cons, tailL_len sg m, Nat.succ_mul]
    omega
theorem tailK_len (sg : List UInt8) : ∀ m, (tailK sg m).length = 2 * m
  | 0 => rfl
  | m + 1 => by
    rw [tailK, List.length_cons, List.length_cons, tailK_len sg m]
    omega
theorem signs_tok2 : ∀ x ∈ signL, tokOf x = (4, x, 0, 0) := by decide +kernel
theorem a_sp (r : List UInt8) : tokOf (97 :: 32 :: r) = (1, [97], 0, 0) := by kernel_rfl
theorem a_end (r : List UInt8) : tokOf (97 :: 59 :: r) = (1, [97], 0, 0) := by kernel_rfl
theorem a_st (r : List UInt8) : blankS (97 :: r) = .stop := by kernel_rfl
theorem sp_go (r : List UInt8) : blankS (32 :: r) = .go 1 := by kernel_rfl
theorem signs_stop : ∀ x ∈ signL, (match blankS x with | .stop => true | _ => false) = true := by decide +kernel
theorem signs_ne : ∀ x ∈ signL, x ≠ [] := by decide
theorem lx_tail {sg : List UInt8} (hg : sg ∈ signL) : ∀ m, Lx true (97 :: (tailL sg m ++ [59, 32, 125])) (tA :: (tailK sg m ++ [tS, tE]))
  | 0 => Lx.ctok (r' := [59, 32, 125]) (by simp) 1 [97] 0 (a_st _) (a_end _) rfl lx_post1
  | m + 1 => by
    have hne := signs_ne sg hg
    have hst : blankS sg = .stop := by
      have := signs_stop sg hg
      split at this
      · assumption
      · cases this
    have htk := signs_tok2 sg hg
    have ih := lx_tail hg m
    refine Lx.ctok (r' := tailL sg (m + 1) ++ [59, 32, 125]) (by simp) 1 [97] 0 (a_st _) (a_sp _) rfl ?_
    have e : tailL sg (m + 1) ++ [59, 32, 125] = 32 :: (sg ++ 32 :: (97 :: (tailL sg m ++ [59, 32, 125]))) := by simp [tailL]
    rw [e]
    refine Lx.cblank (n := 1) (r' := sg ++ 32 :: (97 :: (tailL sg m ++ [59, 32, 125]))) (by simp) (sp_go _) rfl ?_
    have h1 := blankS_app (c := 32) (t := 97 :: (tailL sg m ++ [59, 32, 125])) (.inr rfl) hne
    rw [hst] at h1
    have h2 := tokOf_app (c := 32) (t := 97 :: (tailL sg m ++ [59, 32, 125])) hne (.inr ⟨rfl, by rw [htk]⟩)
    refine Lx.ctok (r' := 32 :: (97 :: (tailL sg m ++ [59, 32, 125]))) (by simp) 4 sg 0 h1 (h2.trans htk) (List.drop_left) ?_
    exact Lx.cblank (n := 1) (r' := 97 :: (tailL sg m ++ [59, 32, 125])) (by simp) (sp_go _) rfl ih
/-! ### The parse -/
@[reducible] def fnX (x : Nd) : Nd := .mk 22 (tx [102]) 0 (fnT (.mk 1 0 (tx []) []) []) [.mk 17 (tx []) 0 .nil [.mk 12 (tx []) 0 .nil [x]]]
theorem stmt_name {S : Src} {n i : Nat} (ei : (due S i).er = tA) : stmtL S (n + 1) i = ((PM.bind (exprL S n) fun x => PM.pure (Nd.mk 12 (tx []) 0 .nil [x])).bind fun x => (must S (tx [59])).bind fun _ => PM.pure x) i := by
  show stmtB S (stmtL S n) (exprL S n) (askL S n) i = _
  unfold stmtB
  rw [if_neg (isB_no ei (by kernel_rfl)), if_neg (isB_no ei (by kernel_rfl)), if_neg (isB_no ei (by kernel_rfl)), if_neg (isB_no ei (by kernel_rfl))]
  have : simpleB S (exprL S n) (askL S n) i = (PM.bind (exprL S n) fun x => PM.pure (Nd.mk 12 (tx []) 0 .nil [x])) i := by
    unfold simpleB typed
    rw [if_neg (isB_no ei (by kernel_rfl)), if_neg (isB_no ei (by kernel_rfl)), if_neg (isB_no ei (by kernel_rfl)), if_neg (isB_no ei (by kernel_rfl))]
  unfold PM.bind at this ⊢
  rw [this]
theorem unit_fn {S : Src} {R : List TK} (h : S.T.map Tok.er = preT ++ ((tA :: R) ++ [tS, tE])) {x : Nd} (hx : exprL S 58 5 = .ok x (R.length + 6)) : unitF S (S.T.length + 1) [] 0 = .ok [fnX x] S.T.length := by
  have n1 : S.T.length = R.length + 8 := by
    have := congrArg List.length h
    simp at this
    omega
  have hA : (due S 5).er = tA := er_at h (get_post (m := 0) rfl rfl)
  have hS : (due S (R.length + 6)).er = tS := er_at h (get_post (m := R.length + 1) rfl (by rw [List.cons_append, List.getElem?_cons_succ, List.getElem?_append_right (Nat.le_refl _), Nat.sub_self]; rfl))
  have hE : (due S (R.length + 7)).er = tE := er_at h (get_post (m := R.length + 2) rfl (by rw [List.cons_append, List.getElem?_cons_succ, List.getElem?_append_right (by omega), show R.length + 1 - R.length = 1 by omega]; rfl))
  have hst : stmtL S 59 5 = .ok (.mk 12 (tx []) 0 .nil [x]) (R.length + 7) := by
    rw [stmt_name hA, bind_ok (show (PM.bind (exprL S 58) fun x => PM.pure (Nd.mk 12 (tx []) 0 .nil [x])) 5 = .ok (.mk 12 (tx []) 0 .nil [x]) (R.length + 6) by rw [bind_ok hx]; rfl), bind_ok (must_ok (isB_yes hS (by kernel_rfl)))]
    rfl
  have hbl : blockF S (stmtL S 59) (S.T.length + 1) [] 5 = .ok (.mk 17 (tx []) 0 .nil [.mk 12 (tx []) 0 .nil [x]]) (R.length + 8) := by
    rw [blockF]
    dsimp only
    rw [if_neg (isB_no hA (by kernel_rfl)), bind_ok hst, show S.T.length = R.length + 7 + 1 by omega, blockF]
    dsimp only
    rw [if_pos (isB_yes hE (by kernel_rfl))]
    rfl
  rw [unitF_succ, if_pos (by omega), bind_ok (show item S 0 = .ok (fnX x) (R.length + 8) by
    rw [item_pre (er_at h (get_pre rfl)) (er_at h (get_pre rfl)) (er_at h (get_pre rfl)) (er_at h (get_pre rfl)) (er_at h (get_pre rfl)), bind_ok hbl]
    rfl), n1, unitF_succ, if_neg (by omega)]
  rfl
@[reducible] def posts : List ByteArray := [tx [91], tx [46], tx [45, 62], tx [40]]
theorem un_name {S : Src} {n i : Nat} (ei : (due S i).er = tA) (hp : ∀ t ∈ posts, ¬ isB S [t] (i + 1) = true) : (euL S (n + 1)).2 i = .ok nmA (i + 1) := by
  show unaryB S (euL S n).1 (euL S n).2 (askL S n) i = _
  unfold unaryB
  rw [if_neg (isB_no ei (by kernel_rfl)), if_neg (fun h => isB_no ei (by kernel_rfl) h.1), if_neg (isB_no ei (by kernel_rfl))]
  have ht : termB S (euL S n).1 i = .ok nmA (i + 1) := by
    unfold termB
    rw [if_neg (by rw [kind_er ei]; decide), if_neg (isB_no ei (by kernel_rfl))]
    unfold PM.bind name
    rw [if_pos (kind_er ei), text_er ei]
    rfl
  unfold postB
  rw [bind_ok ht]
  unfold postF
  rw [if_neg (hp _ (by simp)), if_neg (hp _ (by simp)), if_neg (hp _ (by simp)), if_neg (hp _ (by simp))]
theorem row_up2 {S : Src} {un : PM Nd} {i j : Nat} {x : Nd} {l' : List (List ByteArray)} (h : rowB S un l' i = .ok x j) : ∀ (l : List (List ByteArray)), (∀ s ∈ l, ¬ isB S s j = true) → rowB S un (l ++ l') i = .ok x j
  | [], _ => h
  | s :: l, hl => by
    show (rowB S un (l ++ l')).bind (rowF S s (rowB S un (l ++ l')) (S.T.length + 1)) i = .ok x j
    rw [bind_ok (row_up2 h l fun s hs => hl s (List.mem_cons_of_mem _ hs))]
    unfold rowF
    rw [if_neg (hl s List.mem_cons_self)]
/-- A row read from the left. -/
def rowN (t : ByteArray) : Nat → Nd → Nd
  | 0, x => x
  | m + 1, x => rowN t m (.mk 4 t 0 .nil [x, nmA])
theorem rowN_top (t : ByteArray) : ∀ (m : Nat) (x : Nd), rowN t (m + 1) x = .mk 4 t 0 .nil [rowN t m x, nmA]
  | 0, x => rfl
  | m + 1, x => by
    show rowN t (m + 1) _ = .mk 4 t 0 .nil [rowN t m _, nmA]
    exact rowN_top t m _
theorem rowF_run {S : Src} {ts : List ByteArray} {sub : PM Nd} {t : ByteArray} : ∀ (m f i : Nat) (x : Nd), m < f → (∀ k, k < m → isB S ts (i + 2 * k) = true ∧ (due S (i + 2 * k)).text = t ∧ sub (i + 2 * k + 1) = .ok nmA (i + 2 * k + 2)) → ¬ isB S ts (i + 2 * m) = true →
    rowF S ts sub f x i = .ok (rowN t m x) (i + 2 * m)
  | 0, f + 1, i, x, _, _, h2 => by
    rw [rowF]
    dsimp only
    rw [if_neg (show ¬ isB S ts i = true from h2)]
    rfl
  | m + 1, f + 1, i, x, hf, h1, h2 => by
    obtain ⟨a1, a2, a3⟩ := h1 0 (Nat.succ_pos _)
    rw [rowF]
    dsimp only
    rw [if_pos (show isB S ts i = true from a1), bind_ok (show sub (i + 1) = .ok nmA (i + 2) from a3), show (due S i).text = t from a2]
    have := rowF_run (S := S) (ts := ts) (sub := sub) (t := t) m f (i + 2) (.mk 4 t 0 .nil [x, nmA]) (by omega) (fun k hk => by
      have := h1 (k + 1) (by omega)
      rw [show i + 2 * (k + 1) = i + 2 + 2 * k by omega] at this
      exact this) (by rw [show i + 2 + 2 * m = i + 2 * (m + 1) by omega]; exact h2)
    rw [this, show i + 2 + 2 * m = i + 2 * (m + 1) by omega]
    rfl
def setN : Nat → Nd
  | 0 => nmA
  | m + 1 => .mk 5 (tx []) 0 .nil [nmA, setN m]
theorem tailK_at (sg : List UInt8) {L : List TK} : ∀ (m k : Nat), k < m → (tailK sg m ++ L)[2 * k]? = some (4, tx sg, 0) ∧ (tailK sg m ++ L)[2 * k + 1]? = some tA
  | 0, k, h => by omega
  | m + 1, 0, _ => ⟨rfl, rfl⟩
  | m + 1, k + 1, h => by
    rw [show 2 * (k + 1) = 2 * k + 1 + 1 by omega]
    exact tailK_at sg m k (by omega)
@[reducible] def sgs : List (List UInt8) := [[124], [94], [38], [61, 61], [60], [60, 60], [43], [42]]
@[reducible] def sgK (k : Nat) : TK := (4, tx (sgs.getD k []), 0)
theorem sgs_chk : (List.range 8).all (fun k => isK (signs.getD k []) (sgK k) && (signs.drop (k + 1)).all (fun s => !isK s (sgK k)) && posts.all (fun t => !isK [t] (sgK k))) = true := by kernel_rfl
theorem sgs_sign {k : Nat} (hk : k < 8) : sgs.getD k [] ∈ signL := by
  have : ∀ k < 8, sgs.getD k [] ∈ signL := by decide
  exact this k hk
theorem sgs_len {k : Nat} (hk : k < 8) : (sgs.getD k []).length ≤ 2 := by
  have : ∀ k < 8, (sgs.getD k []).length ≤ 2 := by decide
  exact this k hk
theorem row_expr {S : Src} {k m : Nat} (hk : k < 8) (hA : ∀ j, j ≤ m → (due S (5 + 2 * j)).er = tA) (hG : ∀ j, j < m → (due S (6 + 2 * j)).er = sgK k) (hE : (due S (6 + 2 * m)).er = tS) (hm : m ≤ S.T.length) :
    exprL S 58 5 = .ok (rowN (tx (sgs.getD k [])) m nmA) (6 + 2 * m) := by
  have hc := List.all_eq_true.1 sgs_chk k (List.mem_range.2 hk)
  simp only [Bool.and_eq_true] at hc
  obtain ⟨⟨c1, c2⟩, c3⟩ := hc
  have hend : ∀ ts : List ByteArray, (∀ t ∈ ts, t ∈ stops) → ¬ isB S ts (6 + 2 * m) = true := fun ts ht h => by
    obtain ⟨t, h1, h2⟩ := isB_any h
    exact stops_C (by kernel_rfl) hE (ht t h1) h2
  have hsig : ∀ s ∈ signs, ∀ t ∈ s, t ∈ stops := fun s hs t ht => List.mem_append_left _ (List.mem_flatten.2 ⟨s, hs, ht⟩)
  have hun : ∀ j, j ≤ m → (euL S 57).2 (5 + 2 * j) = .ok nmA (6 + 2 * j) := fun j hj => by
    have := un_name (S := S) (n := 56) (hA j hj) (fun t ht => by
      rw [show 5 + 2 * j + 1 = 6 + 2 * j by omega]
      rcases Nat.lt_or_ge j m with h | h
      · refine isB_no (hG j h) ?_
        have := List.all_eq_true.1 c3 t ht
        simpa using this
      · obtain rfl : j = m := by omega
        refine hend _ fun x hx => ?_
        rw [List.mem_singleton.1 hx]
        have : ∀ t ∈ posts, t ∈ stops := by simp [stops, signs]
        exact this t ht)
    rw [show 5 + 2 * j + 1 = 6 + 2 * j by omega] at this
    exact this
  have hsub : ∀ j, j ≤ m → rowB S (euL S 57).2 (signs.drop (k + 1)) (5 + 2 * j) = .ok nmA (6 + 2 * j) := fun j hj =>
    row_up (hun j hj) _ fun s hs => by
      rcases Nat.lt_or_ge j m with h | h
      · refine isB_no (hG j h) ?_
        have := List.all_eq_true.1 c2 s hs
        simpa using this
      · obtain rfl : j = m := by omega
        exact hend _ (hsig s (List.mem_of_mem_drop hs))
  have hk8 : k < signs.length := hk
  have hL : signs.getD k [] = signs[k] := by simp [List.getD_eq_getElem?_getD, List.getElem?_eq_getElem hk8]
  rw [hL] at c1
  have hrow : rowB S (euL S 57).2 (signs[k] :: signs.drop (k + 1)) 5 = .ok (rowN (tx (sgs.getD k [])) m nmA) (6 + 2 * m) := by
    show (rowB S (euL S 57).2 (signs.drop (k + 1))).bind (rowF S signs[k] (rowB S (euL S 57).2 (signs.drop (k + 1))) (S.T.length + 1)) 5 = _
    rw [bind_ok (hsub 0 (Nat.zero_le _))]
    refine rowF_run m _ 6 nmA (by omega) (fun j hj => ⟨isB_yes (hG j hj) c1, text_er (hG j hj), ?_⟩) (hend _ (hsig _ (List.getElem_mem hk8)))
    have := hsub (j + 1) hj
    rw [show 5 + 2 * (j + 1) = 6 + 2 * j + 1 by omega, show 6 + 2 * (j + 1) = 6 + 2 * j + 2 by omega] at this
    exact this
  have hall : rowB S (euL S 57).2 signs 5 = .ok (rowN (tx (sgs.getD k [])) m nmA) (6 + 2 * m) := by
    have := row_up2 hrow (signs.take k) fun s hs => hend _ (hsig s (List.mem_of_mem_take hs))
    rwa [← List.drop_eq_getElem_cons hk8, List.take_append_drop] at this
  show exprB S (euL S 57).1 (euL S 57).2 5 = _
  unfold exprB
  rw [bind_ok hall, if_neg (hend _ (mem1 (by simp [stops, signs])))]
@[reducible] def tQ : TK := (4, tx [61], 0)
theorem set_expr {S : Src} : ∀ (m n i : Nat), m + 2 ≤ n → (∀ j, j ≤ m → (due S (i + 2 * j)).er = tA) → (∀ j, j < m → (due S (i + 1 + 2 * j)).er = tQ) → (due S (i + 1 + 2 * m)).er = tS → exprL S n i = .ok (setN m) (i + 1 + 2 * m)
  | m, 0, i, h, _, _, _ => by omega
  | m, 1, i, h, _, _, _ => by omega
  | m, n + 2, i, h, hA, hG, hE => by
    have hnext : ∀ ts : List ByteArray, isK ts tQ = false → (∀ t ∈ ts, t ∈ stops) → ¬ isB S ts (i + 1) = true := fun ts hq ht => by
      rcases Nat.eq_zero_or_pos m with rfl | h0
      · intro hb
        obtain ⟨t, h1, h2⟩ := isB_any hb
        exact stops_C (by kernel_rfl) hE (ht t h1) h2
      · exact isB_no (hG 0 h0) hq
    have hu : (euL S (n + 1)).2 i = .ok nmA (i + 1) := un_name (hA 0 (Nat.zero_le _)) fun t ht => hnext [t] (by
      have : posts.all (fun t => !isK [t] tQ) = true := by kernel_rfl
      have := List.all_eq_true.1 this t ht
      simpa using this) (mem1 ((show ∀ t ∈ posts, t ∈ stops by simp [stops, signs]) t ht))
    have hr : rowB S (euL S (n + 1)).2 signs i = .ok nmA (i + 1) := row_up hu _ fun s hs => hnext s (by
      have : signs.all (fun s => !isK s tQ) = true := by kernel_rfl
      have := List.all_eq_true.1 this s hs
      simpa using this) fun t ht => List.mem_append_left _ (List.mem_flatten.2 ⟨s, hs, ht⟩)
    show exprB S (euL S (n + 1)).1 (euL S (n + 1)).2 i = _
    unfold exprB
    rw [bind_ok hr]
    cases m with
    | zero =>
      rw [if_neg (isB_no hE (by kernel_rfl))]
      rfl
    | succ m =>
      have ih := set_expr m (n + 1) (i + 2) (by omega) (fun j hj => by
        have := hA (j + 1) (by omega)
        rwa [show i + 2 * (j + 1) = i + 2 + 2 * j by omega] at this) (fun j hj => by
        have := hG (j + 1) (by omega)
        rwa [show i + 1 + 2 * (j + 1) = i + 2 + 1 + 2 * j by omega] at this) (by
        rwa [show i + 1 + 2 * (m + 1) = i + 2 + 1 + 2 * m by omega] at hE)
      rw [if_pos (isB_yes (hG 0 (Nat.succ_pos _)) (by kernel_rfl)), bind_ok (show (euL S (n + 1)).1 (i + 1 + 1) = _ from ih), show i + 2 + 1 + 2 * m = i + 1 + 2 * (m + 1) by omega]
      rfl
/-! ### How deep -/
def low (d : Nat) (x : Nd) : Prop := ∀ f, depthL f x ≤ d
theorem low_nm : low 1 nmA := fun f => by
  cases f with
  | zero => exact Nat.le_refl _
  | succ f => simp [depthL]
theorem low_mk {d : Nat} {k n : Int} {s : ByteArray} {t : Ty} {l : List Nd} (h : ∀ x ∈ l, low d x) : low (d + 1) (.mk k s n t l) := fun f => by
  cases f with
  | zero => exact Nat.le_add_left _ _
  | succ f =>
    show (l.map (depthL f)).foldl max 0 + 1 ≤ d + 1
    refine Nat.succ_le_succ (foldl_max_le.2 ⟨Nat.zero_le _, fun x hx => ?_⟩)
    obtain ⟨y, hy, rfl⟩ := List.mem_map.1 hx
    exact h y hy f
theorem low_up {d e : Nat} {x : Nd} (h : low d x) (hd : d ≤ e) : low e x := fun f => Nat.le_trans (h f) hd
theorem low_row {t : ByteArray} : ∀ (m : Nat) {d : Nat} {x : Nd}, low d x → 1 ≤ d → low (d + m) (rowN t m x)
  | 0, d, x, h, _ => h
  | m + 1, d, x, h, hd => by
    have := low_row (t := t) m (d := d + 1) (x := .mk 4 t 0 .nil [x, nmA]) (low_mk fun y hy => by
      rcases List.mem_cons.1 hy with rfl | hy
      · exact h
      · rw [List.mem_singleton.1 hy]
        exact low_up low_nm hd) (by omega)
    rw [show d + 1 + m = d + (m + 1) by omega] at this
    exact this
theorem low_set : ∀ m, low (m + 1) (setN m)
  | 0 => low_nm
  | m + 1 => low_mk fun y hy => by
    rcases List.mem_cons.1 hy with rfl | hy
    · exact low_up low_nm (by omega)
    · rw [List.mem_singleton.1 hy]
      exact low_set m
theorem parse_fn {s : List UInt8} {R : List TK} {x : Nd} {d : Nat} (hk : Lx true (preS ++ s) (preT ++ ((tA :: R) ++ [tS, tE]))) (hl : (preS ++ s).length ≤ 20000)
    (hx : ∀ S : Src, S.T.map Tok.er = preT ++ ((tA :: R) ++ [tS, tE]) → exprL S 58 5 = .ok x (R.length + 6)) (hd : low d x) (hd2 : d ≤ 246) : parseA (preS ++ s) = (.mk 23 (tx []) 0 .nil [fnX x], 0, 0) := by
  obtain ⟨T, e, hT⟩ := lx_lexS hk hl
  have hlow : low (d + 4) (.mk 23 (tx []) 0 .nil [fnX x]) := low_mk fun y hy => by
    rw [List.mem_singleton.1 hy]
    exact low_mk fun y hy => by
      rw [List.mem_singleton.1 hy]
      exact low_mk fun y hy => by
        rw [List.mem_singleton.1 hy]
        exact low_mk fun y hy => by
          rw [List.mem_singleton.1 hy]
          exact hd
  unfold parseA
  rw [e]
  dsimp only
  unfold parseT
  dsimp only
  rw [unit_fn (S := ⟨T, _⟩) hT (hx _ hT)]
  dsimp only
  rw [if_neg (Nat.not_lt.2 (Nat.le_trans (hlow 250) (by omega)))]
@[reducible] def rowS (sg : List UInt8) (m : Nat) : List UInt8 := 97 :: tailL sg m
theorem toks_row {S : Src} {sg : List UInt8} {m : Nat} (h : S.T.map Tok.er = preT ++ ((tA :: tailK sg m) ++ [tS, tE])) : (∀ j, j ≤ m → (due S (5 + 2 * j)).er = tA) ∧ (∀ j, j < m → (due S (6 + 2 * j)).er = (4, tx sg, 0)) ∧ (due S (6 + 2 * m)).er = tS := by
  refine ⟨fun j hj => ?_, fun j hj => ?_, ?_⟩
  · cases j with
    | zero => exact er_at h (get_post (m := 0) rfl rfl)
    | succ j => exact er_at h (get_post (m := 2 * j + 1 + 1) (by omega) (by rw [List.cons_append, List.getElem?_cons_succ]; exact (tailK_at sg m j hj).2))
  · exact er_at h (get_post (m := 2 * j + 1) (by omega) (by rw [List.cons_append, List.getElem?_cons_succ]; exact (tailK_at sg m j hj).1))
  · exact er_at h (get_post (m := 2 * m + 1) (by omega) (by rw [List.cons_append, List.getElem?_cons_succ, List.getElem?_append_right (by rw [tailK_len]; exact Nat.le_refl _), tailK_len, Nat.sub_self]; rfl))
theorem parse_row {k m : Nat} (hk : k < 8) (hm : m ≤ 31) : parseA (preS ++ rowS (sgs.getD k []) m ++ [59, 32, 125]) = (.mk 23 (tx []) 0 .nil [fnX (rowN (tx (sgs.getD k [])) m nmA)], 0, 0) := by
  have hl := sgs_len hk
  have hlen := tailL_len (sgs.getD k []) m
  have hmul : m * ((sgs.getD k []).length + 3) ≤ 31 * 5 := Nat.mul_le_mul hm (by omega)
  rw [List.append_assoc]
  refine parse_fn (R := tailK (sgs.getD k []) m) (d := 1 + m) (lx_pre (lx_tail (sgs_sign hk) m)) (by
    generalize sgs.getD k [] = sg at *
    simp
    omega) (fun S h => ?_) (low_row m low_nm (Nat.le_refl _)) (by omega)
  obtain ⟨h1, h2, h3⟩ := toks_row h
  have := row_expr hk h1 h2 h3 (by
    have := congrArg List.length h
    simp [tailK_len] at this
    omega)
  rw [tailK_len, Nat.add_comm (2 * m)]
  exact this
theorem parse_set {m : Nat} (hm : m ≤ 31) : parseA (preS ++ rowS [61] m ++ [59, 32, 125]) = (.mk 23 (tx []) 0 .nil [fnX (setN m)], 0, 0) := by
  have hlen := tailL_len [61] m
  have hmul : m * (([61] : List UInt8).length + 3) ≤ 31 * 5 := Nat.mul_le_mul hm (by decide)
  rw [List.append_assoc]
  refine parse_fn (R := tailK [61] m) (d := m + 1) (lx_pre (lx_tail (by decide) m)) (by simp; omega) (fun S h => ?_) (low_set m) (by omega)
  obtain ⟨h1, h2, h3⟩ := toks_row h
  have := set_expr m 58 5 (by omega) h1 h2 h3
  rw [tailK_len, Nat.add_comm (2 * m)]
  exact this
end Go.Proofs.Ytjnineeeffecaaa
