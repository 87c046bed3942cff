/- A declared name with stars and brackets. Plain Lean. -/
import Derived.Test.YtjnineeeffecaaaP34
namespace Go.Proofs.Ytjnineeeffecaaa
open Go
@[reducible] def tNm : TK := (1, tx [97], 0)
@[reducible] def tInt : TK := (2, tx [105, 110, 116], 0)
@[reducible] def tSt : TK := (4, tx [42], 0)
@[reducible] def tL : TK := (4, tx [91], 0)
@[reducible] def tR : TK := (4, tx [93], 0)
@[reducible] def dig (n : Nat) : UInt8 := ([48, 49, 50, 51, 52, 53, 54, 55, 56, 57] : List UInt8).getD n 0
@[reducible] def tD (n : Nat) : TK := (3, tx [dig n], (n : Int))
def brk : List Nat → List UInt8
  | [] => []
  | n :: l => 91 :: dig n :: 93 :: brk l
def brkK : List Nat → List TK
  | [] => []
  | n :: l => tL :: tD n :: tR :: brkK l
theorem brk_app (l : List Nat) (n : Nat) : brk (l ++ [n]) = brk l ++ [91, dig n, 93] := by
  induction l with
  | nil => rfl
  | cons a l ih =>
    show 91 :: dig a :: 93 :: brk (l ++ [n]) = _
    rw [ih]
    rfl
theorem brk_len : ∀ l : List Nat, (brk l).length = 3 * l.length
  | [] => rfl
  | n :: l => by
    have := brk_len l
    show (brk l).length + 1 + 1 + 1 = 3 * (l.length + 1)
    omega
theorem brkK_len : ∀ l : List Nat, (brkK l).length = 3 * l.length
  | [] => rfl
  | n :: l => by
    have := brkK_len l
    show (brkK l).length + 1 + 1 + 1 = 3 * (l.length + 1)
    omega
@[reducible] def rep (s : Nat) : List UInt8 := List.replicate s 42
@[reducible] def srcArr (s : Nat) (l : List Nat) : List UInt8 := [105, 110, 116, 32] ++ rep s ++ [32, 97] ++ brk l ++ [59]
@[reducible] def toksArr (s : Nat) (l : List Nat) : List TK := tInt :: (List.replicate s tSt ++ (tNm :: (brkK l ++ [tS])))
theorem t_int (r : List UInt8) : tokOf (105 :: 110 :: 116 :: 32 :: r) = (2, [105, 110, 116], 0, 0) := by kernel_rfl
theorem s_int (r : List UInt8) : blankS (105 :: 110 :: 116 :: 32 :: r) = .stop := by kernel_rfl
theorem t_star (r : List UInt8) : tokOf (42 :: r) = (4, [42], 0, 0) := by kernel_rfl
theorem s_star (r : List UInt8) : blankS (42 :: r) = .stop := by kernel_rfl
theorem t_a1 (r : List UInt8) : tokOf (97 :: 91 :: r) = (1, [97], 0, 0) := by kernel_rfl
theorem t_a2 (r : List UInt8) : tokOf (97 :: 59 :: r) = (1, [97], 0, 0) := by kernel_rfl
theorem s_a (r : List UInt8) : blankS (97 :: r) = .stop := by kernel_rfl
theorem s_sp (r : List UInt8) : blankS (32 :: r) = .go 1 := by kernel_rfl
theorem t_l (r : List UInt8) : tokOf (91 :: r) = (4, [91], 0, 0) := by kernel_rfl
theorem s_l (r : List UInt8) : blankS (91 :: r) = .stop := by kernel_rfl
theorem t_r (r : List UInt8) : tokOf (93 :: r) = (4, [93], 0, 0) := by kernel_rfl
theorem s_r (r : List UInt8) : blankS (93 :: r) = .stop := by kernel_rfl
theorem t_d {n : Nat} (h : n < 10) (r : List UInt8) : tokOf (dig n :: 93 :: r) = (3, [dig n], (n : Int), 0) := by
  rcases (show n = 0 ∨ n = 1 ∨ n = 2 ∨ n = 3 ∨ n = 4 ∨ n = 5 ∨ n = 6 ∨ n = 7 ∨ n = 8 ∨ n = 9 by omega) with rfl | rfl | rfl | rfl | rfl | rfl | rfl | rfl | rfl | rfl <;> kernel_rfl
theorem s_d {n : Nat} (h : n < 10) (r : List UInt8) : blankS (dig n :: r) = .stop := by
  rcases (show n = 0 ∨ n = 1 ∨ n = 2 ∨ n = 3 ∨ n = 4 ∨ n = 5 ∨ n = 6 ∨ n = 7 ∨ n = 8 ∨ n = 9 by omega) with rfl | rfl | rfl | rfl | rfl | rfl | rfl | rfl | rfl | rfl <;> kernel_rfl
theorem lx_semi : Lx true [59] [tS] := Lx.ctok (r' := []) (by simp) 4 [59] 0 (by kernel_rfl) (by kernel_rfl) rfl .nil
theorem lx_brk : ∀ l : List Nat, (∀ n ∈ l, n < 10) → Lx true (brk l ++ [59]) (brkK l ++ [tS])
  | [], _ => lx_semi
  | n :: l, h => by
    have hn := h n List.mem_cons_self
    refine Lx.ctok (r' := dig n :: 93 :: (brk l ++ [59])) (by simp [brk]) 4 [91] 0 (s_l _) (t_l _) rfl ?_
    refine Lx.ctok (r' := 93 :: (brk l ++ [59])) (by simp) 3 [dig n] (n : Int) (s_d hn _) (t_d hn _) rfl ?_
    exact Lx.ctok (r' := brk l ++ [59]) (by simp) 4 [93] 0 (s_r _) (t_r _) rfl (lx_brk l fun x hx => h x (List.mem_cons_of_mem _ hx))
theorem lx_nm (l : List Nat) (h : ∀ n ∈ l, n < 10) : Lx true (32 :: 97 :: (brk l ++ [59])) (tNm :: (brkK l ++ [tS])) := by
  refine Lx.cblank (n := 1) (r' := 97 :: (brk l ++ [59])) (by simp) (s_sp _) rfl ?_
  refine Lx.ctok (r' := brk l ++ [59]) (by simp) 1 [97] 0 (s_a _) ?_ rfl (lx_brk l h)
  cases l with
  | nil => exact t_a2 _
  | cons n l => exact t_a1 _
theorem lx_stars (l : List Nat) (h : ∀ n ∈ l, n < 10) : ∀ s, Lx true (rep s ++ 32 :: 97 :: (brk l ++ [59])) (List.replicate s tSt ++ (tNm :: (brkK l ++ [tS])))
  | 0 => lx_nm l h
  | s + 1 => Lx.ctok (r' := rep s ++ 32 :: 97 :: (brk l ++ [59])) (by simp [rep, List.replicate_succ]) 4 [42] 0 (s_star _) (t_star _) rfl (lx_stars l h s)
theorem lx_arr (s : Nat) (l : List Nat) (h : ∀ n ∈ l, n < 10) : Lx true (srcArr s l) (toksArr s l) := by
  have e : srcArr s l = 105 :: 110 :: 116 :: 32 :: (rep s ++ 32 :: 97 :: (brk l ++ [59])) := by simp [srcArr]
  rw [e]
  refine Lx.ctok (r' := 32 :: (rep s ++ 32 :: 97 :: (brk l ++ [59]))) (by simp) 2 [105, 110, 116] 0 (s_int _) (t_int _) rfl ?_
  exact Lx.cblank (n := 1) (r' := rep s ++ 32 :: 97 :: (brk l ++ [59])) (by simp) (s_sp _) rfl (lx_stars l h s)
/-! ### The parse -/
def ptrN : Nat → Ty → Ty
  | 0, t => t
  | s + 1, t => ptrN s (ptr t)
theorem ptrN_top : ∀ (s : Nat) (t : Ty), ptrN (s + 1) t = ptr (ptrN s t)
  | 0, t => rfl
  | s + 1, t => by
    show ptrN (s + 1) (ptr t) = ptr (ptrN s (ptr t))
    exact ptrN_top s (ptr t)
theorem stars_run {S : Src} : ∀ (s f i : Nat) (t : Ty), s < f → (∀ k, k < s → (due S (i + k)).er = tSt) → ¬ isB S [tx [42]] (i + s) = true → starsF S f t i = .ok (ptrN s t) (i + s)
  | 0, f + 1, i, t, _, _, h => by
    rw [starsF]
    dsimp only
    rw [if_neg (show ¬ isB S [tx [42]] i = true from h)]
    rfl
  | s + 1, f + 1, i, t, hf, h1, h => by
    rw [starsF]
    dsimp only
    rw [if_pos (isB_yes (show (due S i).er = tSt from h1 0 (Nat.succ_pos _)) (by kernel_rfl))]
    have := stars_run s f (i + 1) (ptr t) (by omega) (fun k hk => by
      have := h1 (k + 1) (by omega)
      rwa [show i + (k + 1) = i + 1 + k by omega] at this) (by rwa [show i + (s + 1) = i + 1 + s by omega] at h)
    rw [this, show i + 1 + s = i + (s + 1) by omega]
    rfl
theorem num_er {S : Src} {n : Nat} {e : TK} (h : (due S n).er = e) : (due S n).n = e.2.2 := by
  subst h
  rfl
theorem arrays_run {S : Src} : ∀ (l : List Nat) (f i : Nat) (p : List Int), l.length < f → (∀ n ∈ l, 1 ≤ n ∧ n < 10) → (∀ (k : Nat) e, (brkK l)[k]? = some e → (due S (i + k)).er = e) → ¬ isB S [tx [91]] (i + 3 * l.length) = true →
    arraysF S f p i = .ok (p ++ l.map fun n : Nat => (n : Int)) (i + 3 * l.length)
  | [], f + 1, i, p, _, _, _, h => by
    rw [arraysF]
    dsimp only
    rw [if_neg (show ¬ isB S [tx [91]] i = true from h)]
    simp
  | n :: l, f + 1, i, p, hf, hn, h1, h => by
    have e0 : (due S i).er = tL := h1 0 _ rfl
    have e1 : (due S (i + 1)).er = tD n := h1 1 _ rfl
    have e2 : (due S (i + 2)).er = tR := h1 2 _ rfl
    have hb := hn n List.mem_cons_self
    rw [arraysF]
    dsimp only
    rw [if_pos (isB_yes e0 (by kernel_rfl)), if_neg (by rw [kind_er e1]; exact fun h => h rfl), num_er e1, if_neg (by
      show ¬ ((n : Int) < 1 ∨ 4096 < (n : Int))
      omega), bind_ok (must_ok (isB_yes e2 (by kernel_rfl)))]
    have := arrays_run l f (i + 3) (p ++ [(n : Int)]) (by simp at hf; omega) (fun x hx => hn x (List.mem_cons_of_mem _ hx)) (fun k e hk => by
      have := h1 (k + 3) e hk
      rwa [show i + (k + 3) = i + 3 + k by omega] at this) (by
      rw [List.length_cons] at h
      rwa [show i + 3 * (l.length + 1) = i + 3 + 3 * l.length by omega] at h)
    rw [this]
    simp
    omega
@[reducible] def gArr (s : Nat) (l : List Nat) : Nd := .mk 21 (tx [97]) 0 (wrapS (ptrN s (.mk 3 0 (tx []) [])) (l.map fun n : Nat => (n : Int))) []
theorem unit_arr {S : Src} {s : Nat} {l : List Nat} (hl : ∀ n ∈ l, 1 ≤ n ∧ n < 10) (h : S.T.map Tok.er = toksArr s l) : unitF S (S.T.length + 1) [] 0 = .ok [gArr s l] S.T.length := by
  have n1 : S.T.length = s + 3 * l.length + 3 := by
    have := congrArg List.length h
    simp [brkK_len] at this
    omega
  have e0 : (due S 0).er = tInt := er_at h rfl
  have es : ∀ k, k < s → (due S (1 + k)).er = tSt := fun k hk => er_at h (by
    rw [Nat.add_comm, toksArr, List.getElem?_cons_succ, List.getElem?_append_left (by simpa using hk)]
    simp [hk])
  have en : (due S (1 + s)).er = tNm := er_at h (by
    rw [Nat.add_comm, toksArr, List.getElem?_cons_succ, List.getElem?_append_right (by simp)]
    simp)
  have eb : ∀ (k : Nat) e, (brkK l)[k]? = some e → (due S (2 + s + k)).er = e := fun k e hk => er_at h (by
    rw [show 2 + s + k = s + (k + 1) + 1 by omega, toksArr, List.getElem?_cons_succ, List.getElem?_append_right (by simp), List.length_replicate, show s + (k + 1) - s = k + 1 by omega, List.getElem?_cons_succ, List.getElem?_append_left (List.getElem?_eq_some_iff.1 hk).1]
    exact hk)
  have ee : (due S (2 + s + 3 * l.length)).er = tS := er_at h (by
    rw [show 2 + s + 3 * l.length = s + (3 * l.length + 1) + 1 by omega, toksArr, List.getElem?_cons_succ, List.getElem?_append_right (by simp), List.length_replicate, show s + (3 * l.length + 1) - s = 3 * l.length + 1 by omega, List.getElem?_cons_succ, List.getElem?_append_right (by rw [brkK_len]; exact Nat.le_refl _), brkK_len, Nat.sub_self]
    rfl)
  have hb : base S 0 = .ok (.mk 3 0 (tx []) []) 1 := by
    unfold base typed
    rw [if_pos (isB_yes e0 (by kernel_rfl)), text_er e0]
    rfl
  have hs : stars S (.mk 3 0 (tx []) []) 1 = .ok (ptrN s (.mk 3 0 (tx []) [])) (1 + s) := stars_run s _ 1 _ (by omega) es (isB_no en (by kernel_rfl))
  have hs2 : ∀ t, stars S t (1 + s) = .ok t (1 + s) := fun t => by
    unfold stars starsF
    rw [if_neg (isB_no en (by kernel_rfl))]
  have e2 : ¬ ((due S (1 + s + 1)).kind = 4 ∧ (due S (1 + s + 1)).text = tx [40]) := by
    rintro ⟨-, c⟩
    rw [show 1 + s + 1 = 2 + s + 0 by omega] at c
    cases l with
    | nil =>
      rw [text_er (show (due S (2 + s + 0)).er = tS from ee)] at c
      simp [tx] at c
    | cons n l =>
      rw [text_er (eb 0 _ rfl)] at c
      simp [tx] at c
  have hnm : name S (1 + s) = .ok (tx [97]) (2 + s) := by
    unfold name
    rw [if_pos (kind_er en), text_er en, show 1 + s + 1 = 2 + s by omega]
  have ha : arrays S (2 + s) = .ok (l.map fun n : Nat => (n : Int)) (2 + s + 3 * l.length) := by
    have := arrays_run l (S.T.length + 1) (2 + s) [] (by omega) hl eb (isB_no ee (by kernel_rfl))
    rwa [List.nil_append] at this
  have hd : declB S (askL S 60) (ptrN s (.mk 3 0 (tx []) [])) (1 + s) = .ok (declN (tx [97]) (wrapS (ptrN s (.mk 3 0 (tx []) [])) (l.map fun n : Nat => (n : Int)))) (2 + s + 3 * l.length) := by
    unfold declB
    rw [bind_ok (hs2 _), if_neg (isB_no en (by kernel_rfl)), bind_ok hnm, bind_ok ha]
    rfl
  have hi : item S 0 = .ok (gArr s l) (2 + s + 3 * l.length + 1) := by
    unfold item itemB
    rw [bind_ok hb, if_neg (fun h => by rcases h.1 with h | h <;> cases h), bind_ok hs]
    rw [if_neg (fun h => e2 h.2), bind_ok hd, bind_ok (must_ok (isB_yes ee (by kernel_rfl)))]
    rfl
  rw [unitF_succ, if_pos (by omega), bind_ok hi, n1, unitF_succ, if_neg (by omega), show 2 + s + 3 * l.length + 1 = s + 3 * l.length + 3 by omega]
  rfl
theorem parse_arr {s : Nat} {l : List Nat} (hs : s ≤ 20) (hn : l.length ≤ 10) (hl : ∀ n ∈ l, 1 ≤ n ∧ n < 10) : parseA (srcArr s l) = (.mk 23 (tx []) 0 .nil [gArr s l], 0, 0) := by
  obtain ⟨T, e, hT⟩ := lx_lexS (lx_arr s l fun n h => (hl n h).2) (by simp [brk_len]; omega)
  unfold parseA
  rw [e]
  dsimp only
  unfold parseT
  dsimp only
  rw [unit_arr (S := ⟨T, _⟩) hl hT]
  dsimp only
  rw [if_neg (by
    have : depthL 250 (.mk 23 (tx []) 0 .nil [gArr s l]) = 2 := rfl
    omega)]
end Go.Proofs.Ytjnineeeffecaaa
