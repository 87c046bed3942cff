/- An expression in brackets is the same expression: tokens and parse. Plain Lean. -/
import Derived.Test.YtjnineeeffecaaaP32
namespace Go.Proofs.Ytjnineeeffecaaa
open Go
theorem Lx.itok {b : Bool} {r r' : List UInt8} {W : List TK} (h : Lx b r W) (hr : r ≠ []) (k : Int) (x : List UInt8) (n : Int) (h1 : blankS r = .stop) (h2 : tokOf r = (k, x, n, 0)) (h3 : r.drop x.length = r') : ∃ T, W = (k, tx x, n) :: T ∧ Lx b r' T := by
  have := h.inv hr
  rw [h1] at this
  obtain ⟨_, T, e, k⟩ := this
  rw [h2] at k
  rw [tkA, h2] at e
  subst h3
  exact ⟨T, e, k⟩
theorem Lx.iblank {b : Bool} {r r' : List UInt8} {W : List TK} {n : Nat} (h : Lx b r W) (hr : r ≠ []) (h1 : blankS r = .go n) (h3 : r.drop n = r') : Lx b r' W := by
  have := h.inv hr
  rw [h1] at this
  subst h3
  exact this
theorem Lx.ctok {b : Bool} {r r' : List UInt8} {T : List TK} (hr : r ≠ []) (k : Int) (x : List UInt8) (n : Int) (h1 : blankS r = .stop) (h2 : tokOf r = (k, x, n, 0)) (h3 : r.drop x.length = r') (h : Lx b r' T) : Lx b r ((k, tx x, n) :: T) := by
  have := Lx.tok (T := T) hr h1 (by rw [h2]) (by rw [h2]; exact h3 ▸ h)
  rwa [tkA, h2] at this
theorem Lx.cblank {b : Bool} {r r' : List UInt8} {T : List TK} {n : Nat} (hr : r ≠ []) (h1 : blankS r = .go n) (h3 : r.drop n = r') (h : Lx b r' T) : Lx b r T := .blank hr h1 (h3 ▸ h)
@[reducible] def preS : List UInt8 := [118, 111, 105, 100, 32, 102, 40, 41, 32, 123, 32]
@[reducible] def tVoid : TK := (2, tx [118, 111, 105, 100], 0)
@[reducible] def tF : TK := (1, tx [102], 0)
@[reducible] def tO : TK := (4, tx [40], 0)
@[reducible] def tC : TK := (4, tx [41], 0)
@[reducible] def tB : TK := (4, tx [123], 0)
@[reducible] def tE : TK := (4, tx [125], 0)
@[reducible] def tS : TK := (4, tx [59], 0)
@[reducible] def preT : List TK := [tVoid, tF, tO, tC, tB]
theorem lx_pre {b : Bool} {r : List UInt8} {T : List TK} (h : Lx b r T) : Lx b (preS ++ r) (preT ++ T) := by
  refine Lx.ctok (r' := [32, 102, 40, 41, 32, 123, 32] ++ r) (by simp) 2 [118, 111, 105, 100] 0 (by kernel_rfl) (by kernel_rfl) rfl ?_
  refine Lx.cblank (r' := [102, 40, 41, 32, 123, 32] ++ r) (n := 1) (by simp) (by kernel_rfl) rfl ?_
  refine Lx.ctok (r' := [40, 41, 32, 123, 32] ++ r) (by simp) 1 [102] 0 (by kernel_rfl) (by kernel_rfl) rfl ?_
  refine Lx.ctok (r' := [41, 32, 123, 32] ++ r) (by simp) 4 [40] 0 (by kernel_rfl) (by kernel_rfl) rfl ?_
  refine Lx.ctok (r' := [32, 123, 32] ++ r) (by simp) 4 [41] 0 (by kernel_rfl) (by kernel_rfl) rfl ?_
  refine Lx.cblank (r' := [123, 32] ++ r) (n := 1) (by simp) (by kernel_rfl) rfl ?_
  refine Lx.ctok (r' := [32] ++ r) (by simp) 4 [123] 0 (by kernel_rfl) (by kernel_rfl) rfl ?_
  refine Lx.cblank (r' := r) (n := 1) (by simp) (by kernel_rfl) rfl ?_
  exact h
theorem lx_ipre {b : Bool} {r : List UInt8} {W : List TK} (h : Lx b (preS ++ r) W) : ∃ T, W = preT ++ T ∧ Lx b r T := by
  obtain ⟨T, rfl, h1⟩ := h.itok (r' := [32, 102, 40, 41, 32, 123, 32] ++ r) (by simp) 2 [118, 111, 105, 100] 0 (by kernel_rfl) (by kernel_rfl) rfl
  have h2 := h1.iblank (r' := [102, 40, 41, 32, 123, 32] ++ r) (n := 1) (by simp) (by kernel_rfl) rfl
  obtain ⟨T, rfl, h3⟩ := h2.itok (r' := [40, 41, 32, 123, 32] ++ r) (by simp) 1 [102] 0 (by kernel_rfl) (by kernel_rfl) rfl
  obtain ⟨T, rfl, h4⟩ := h3.itok (r' := [41, 32, 123, 32] ++ r) (by simp) 4 [40] 0 (by kernel_rfl) (by kernel_rfl) rfl
  obtain ⟨T, rfl, h5⟩ := h4.itok (r' := [32, 123, 32] ++ r) (by simp) 4 [41] 0 (by kernel_rfl) (by kernel_rfl) rfl
  have h6 := h5.iblank (r' := [123, 32] ++ r) (n := 1) (by simp) (by kernel_rfl) rfl
  obtain ⟨T, rfl, h7⟩ := h6.itok (r' := [32] ++ r) (by simp) 4 [123] 0 (by kernel_rfl) (by kernel_rfl) rfl
  have h8 := h7.iblank (r' := r) (n := 1) (by simp) (by kernel_rfl) rfl
  exact ⟨T, rfl, h8⟩
theorem lx_post1 : Lx true [59, 32, 125] [tS, tE] := by
  refine Lx.ctok (r' := [32, 125]) (by simp) 4 [59] 0 (by kernel_rfl) (by kernel_rfl) rfl ?_
  refine Lx.cblank (r' := [125]) (n := 1) (by simp) (by kernel_rfl) rfl ?_
  refine Lx.ctok (r' := []) (by simp) 4 [125] 0 (by kernel_rfl) (by kernel_rfl) rfl ?_
  exact  .nil
theorem lx_post2 : Lx true [41, 32, 47, 42, 32, 110, 32, 42, 47, 32, 59, 32, 125] [tC, tS, tE] := by
  refine Lx.ctok (r' := [32, 47, 42, 32, 110, 32, 42, 47, 32, 59, 32, 125]) (by simp) 4 [41] 0 (by kernel_rfl) (by kernel_rfl) rfl ?_
  refine Lx.cblank (r' := [47, 42, 32, 110, 32, 42, 47, 32, 59, 32, 125]) (n := 1) (by simp) (by kernel_rfl) rfl ?_
  refine Lx.cblank (r' := [32, 59, 32, 125]) (n := 7) (by simp) (by kernel_rfl) rfl ?_
  refine Lx.cblank (r' := [59, 32, 125]) (n := 1) (by simp) (by kernel_rfl) rfl ?_
  refine Lx.ctok (r' := [32, 125]) (by simp) 4 [59] 0 (by kernel_rfl) (by kernel_rfl) rfl ?_
  refine Lx.cblank (r' := [125]) (n := 1) (by simp) (by kernel_rfl) rfl ?_
  refine Lx.ctok (r' := []) (by simp) 4 [125] 0 (by kernel_rfl) (by kernel_rfl) rfl ?_
  exact .nil
theorem lx_open {r : List UInt8} {T : List TK} (h : Lx true r T) : Lx true ([40, 32] ++ r) (tO :: T) := by
  refine Lx.ctok (r' := [32] ++ r) (by simp) 4 [40] 0 (by kernel_rfl) (by kernel_rfl) rfl ?_
  refine Lx.cblank (r' := r) (n := 1) (by simp) (by kernel_rfl) rfl ?_
  exact h
/-- The two sources' tokens. -/
theorem lx_brackets {s : List UInt8} {W : List TK} (h : Lx true (preS ++ s ++ [10, 59, 32, 125]) W) : ∃ T, W = preT ++ (T ++ [tS, tE]) ∧ Lx true s T ∧
    Lx true (preS ++ [40, 32] ++ s ++ [10, 41, 32, 47, 42, 32, 110, 32, 42, 47, 32, 59, 32, 125]) (preT ++ (tO :: (T ++ [tC, tS, tE]))) := by
  rw [List.append_assoc] at h
  obtain ⟨W, rfl, h'⟩ := lx_ipre h
  clear h
  obtain ⟨T, U, h1, h2, rfl⟩ := Lx.split (t := [59, 32, 125]) (by decide) (s.length + 1) (Nat.lt_succ_self _) h'
  refine ⟨T, by rw [h2.det lx_post1], h1, ?_⟩
  rw [List.append_assoc, List.append_assoc]
  exact lx_pre (lx_open (h1.app (c := 10) (.inl rfl) lx_post2))
end Go.Proofs.Ytjnineeeffecaaa
namespace Go.Proofs.Ytjnineeeffecaaa
open Go
def isK (ts : List ByteArray) (e : TK) : Bool := (decide (e.1 = 4) || decide (e.1 = 2)) && ts.any fun t => decide (t = e.2.1)
theorem isB_er {S : Src} {ts : List ByteArray} {n : Nat} {e : TK} (h : (due S n).er = e) : isB S ts n = isK ts e := by
  subst h
  rfl
theorem isB_no {S : Src} {ts : List ByteArray} {n : Nat} {e : TK} (h : (due S n).er = e) (hk : isK ts e = false) : ¬ isB S ts n = true := by
  rw [isB_er h, hk]
  decide
theorem isB_yes {S : Src} {ts : List ByteArray} {n : Nat} {e : TK} (h : (due S n).er = e) (hk : isK ts e = true) : isB S ts n = true := by
  rw [isB_er h, hk]
theorem kind_er {S : Src} {n : Nat} {e : TK} (h : (due S n).er = e) : (due S n).kind = e.1 := by
  subst h
  rfl
theorem text_er {S : Src} {n : Nat} {e : TK} (h : (due S n).er = e) : (due S n).text = e.2.1 := by
  subst h
  rfl
theorem bind_ok {α β : Type} {m : PM α} {f : α → PM β} {i j : Nat} {a : α} (h : m i = .ok a j) : m.bind f i = f a j := by
  unfold PM.bind
  rw [h]
theorem bind_bad {α β : Type} {m : PM α} {f : α → PM β} {i : Nat} {t k : Int} (h : m i = .bad t k) : m.bind f i = .bad t k := by
  unfold PM.bind
  rw [h]
theorem bind_inv {α β : Type} {m : PM α} {f : α → PM β} {i j : Nat} {b : β} (h : m.bind f i = .ok b j) : ∃ a k, m i = .ok a k ∧ f a k = .ok b j := by
  unfold PM.bind at h
  cases hm : m i with
  | ok a k => rw [hm] at h; exact ⟨a, k, rfl, h⟩
  | bad t k => rw [hm] at h; cases h
theorem must_ok {S : Src} {t : ByteArray} {i : Nat} (h : isB S [t] i = true) : must S t i = .ok () (i + 1) := by
  unfold must
  rw [if_pos h]
theorem must_inv {S : Src} {t : ByteArray} {i j : Nat} {u : Unit} (h : must S t i = .ok u j) : isB S [t] i = true ∧ j = i + 1 := by
  unfold must at h
  split at h
  · rename_i hb
    cases h
    exact ⟨hb, rfl⟩
  · cases h
/-- void f() {: up to the body. -/
theorem item_pre {S : Src} (e0 : (due S 0).er = tVoid) (e1 : (due S 1).er = tF) (e2 : (due S 2).er = tO) (e3 : (due S 3).er = tC) (e4 : (due S 4).er = tB) :
    item S 0 = (PM.bind (blockF S (stmtL S 59) (S.T.length + 1) []) fun x => PM.pure (Nd.mk 22 (tx [102]) 0 (fnT (.mk 1 0 (tx []) []) []) [x])) 5 := by
  have hb : base S 0 = .ok (.mk 1 0 (tx []) []) 1 := by
    unfold base typed
    rw [if_pos (isB_yes e0 (by kernel_rfl)), text_er e0]
    rfl
  have hs : stars S (.mk 1 0 (tx []) []) 1 = .ok (.mk 1 0 (tx []) []) 1 := by
    unfold stars starsF
    rw [if_neg (isB_no e1 (by kernel_rfl))]
  have hn : name S 1 = .ok (tx [102]) 2 := by
    unfold name
    rw [if_pos (kind_er e1), text_er e1]
  have hl : list S ((base S).bind (declB S (askL S 60))) 2 = .ok [] 4 := by
    unfold list
    rw [bind_ok (must_ok (isB_yes e2 (by kernel_rfl)))]
    unfold listF
    rw [if_pos (isB_yes e3 (by kernel_rfl))]
  have hst : stmtL S 60 4 = blockF S (stmtL S 59) (S.T.length + 1) [] 5 := by
    show stmtB S (stmtL S 59) (exprL S 59) (askL S 59) 4 = _
    unfold stmtB
    rw [if_pos (isB_yes e4 (by kernel_rfl))]
  unfold item itemB
  rw [bind_ok hb, if_neg (fun h => by rcases h.1 with h | h <;> cases h), bind_ok hs]
  rw [if_pos ⟨kind_er e1, kind_er e2, text_er e2⟩]
  unfold fnB
  rw [bind_ok hn, bind_ok hl]
  rw [if_pos (isB_yes e4 (by kernel_rfl))]
  unfold PM.bind
  rw [hst]
  rfl
theorem block_len {S : Src} {st : PM Nd} : ∀ (f : Nat) {l : List Nd} {i j : Nat} {b : Nd}, blockF S st f l i = .ok b j → l.length ≤ b.kids.length ∧ b.kind = 17
  | 0, l, i, j, b, h => by
    cases h
    exact ⟨Nat.le_refl _, rfl⟩
  | f + 1, l, i, j, b, h => by
    unfold blockF at h
    split at h
    · cases h
      exact ⟨Nat.le_refl _, rfl⟩
    · obtain ⟨a, k, _, h⟩ := bind_inv h
      have := block_len f h
      rw [List.length_append] at this
      exact ⟨by omega, this.2⟩
theorem block_one {S : Src} {st : PM Nd} {f i j : Nat} {b z : Nd} (h : blockF S st (f + 2) [] i = .ok b j) (hz : b.kids = [z]) : ¬ isB S [tx [125]] i = true ∧ ∃ k, st i = .ok z k ∧ isB S [tx [125]] k = true ∧ j = k + 1 ∧ b = .mk 17 (tx []) 0 .nil [z] := by
  unfold blockF at h
  split at h
  · cases h
    cases hz
  · rename_i hn
    obtain ⟨a, k, h1, h⟩ := bind_inv h
    unfold blockF at h
    split at h
    · rename_i hy
      cases h
      cases hz
      exact ⟨hn, k, h1, hy, rfl, rfl⟩
    · obtain ⟨a2, k2, _, h⟩ := bind_inv h
      have := (block_len f h).1
      rw [hz] at this
      simp at this
theorem decl_kind {S : Src} {ask : PM Ty} {b : Ty} {i j : Nat} {d : Nd} (h : declB S ask b i = .ok d j) : d.kind = 13 := by
  unfold declB at h
  obtain ⟨t, k, _, h⟩ := bind_inv h
  split at h
  · obtain ⟨_, _, _, h⟩ := bind_inv h
    obtain ⟨_, _, _, h⟩ := bind_inv h
    obtain ⟨_, _, _, h⟩ := bind_inv h
    obtain ⟨_, _, _, h⟩ := bind_inv h
    obtain ⟨_, _, _, h⟩ := bind_inv h
    cases h
    rfl
  · obtain ⟨_, _, _, h⟩ := bind_inv h
    obtain ⟨_, _, _, h⟩ := bind_inv h
    cases h
    rfl
theorem setKids_kind (d : Nd) (l : List Nd) : (d.setKids l).kind = d.kind := by
  cases d
  rfl
/-- A statement that is an expression. -/
theorem stmt_expr {S : Src} {st ex : PM Nd} {ask : PM Ty} {i j : Nat} {z : Nd} (h : stmtB S st ex ask i = .ok z j) (hz : z.kind = 12) :
    ∃ x k, ex i = .ok x k ∧ isB S [tx [59]] k = true ∧ j = k + 1 ∧ z = .mk 12 (tx []) 0 .nil [x] := by
  unfold stmtB at h
  split at h
  · rw [(block_len _ h).2] at hz
    cases hz
  split at h
  · cases h
    cases hz
  split at h
  · obtain ⟨_, _, _, h⟩ := bind_inv h
    obtain ⟨_, _, _, h⟩ := bind_inv h
    split at h
    · obtain ⟨_, _, _, h⟩ := bind_inv h
      cases h
      cases hz
    · cases h
      cases hz
  split at h
  · obtain ⟨_, _, _, h⟩ := bind_inv h
    obtain ⟨_, _, _, h⟩ := bind_inv h
    cases h
    cases hz
  obtain ⟨y, k, h1, h⟩ := bind_inv h
  obtain ⟨_, k2, h2, h⟩ := bind_inv h
  cases h
  obtain ⟨h3, rfl⟩ := must_inv h2
  unfold simpleB at h1
  split at h1
  · split at h1
    · cases h1
      cases hz
    · obtain ⟨_, _, _, h1⟩ := bind_inv h1
      cases h1
      cases hz
  split at h1
  · cases h1
    cases hz
  split at h1
  · cases h1
    cases hz
  split at h1
  · obtain ⟨_, _, _, h1⟩ := bind_inv h1
    obtain ⟨d, _, hd, h1⟩ := bind_inv h1
    have hd' := decl_kind hd
    split at h1
    · obtain ⟨_, _, _, h1⟩ := bind_inv h1
      cases h1
      rw [setKids_kind, hd'] at hz
      cases hz
    · cases h1
      rw [hd'] at hz
      cases hz
  · obtain ⟨x, k3, h4, h1⟩ := bind_inv h1
    cases h1
    exact ⟨x, k, h4, h3, rfl, rfl⟩
theorem row_first {S : Src} {un : PM Nd} : ∀ (l : List (List ByteArray)) {i j : Nat} {x : Nd}, rowB S un l i = .ok x j → ∃ y k, un i = .ok y k
  | [], i, j, x, h => ⟨x, j, h⟩
  | s :: l, i, j, x, h => by
    obtain ⟨y, k, h1, _⟩ := bind_inv h
    exact row_first l h1
/-- What an expression that begins with a word begins with. -/
theorem expr_first {S : Src} {n i j : Nat} {x : Nd} (h : exprL S n i = .ok x j) (hk : (due S i).kind = 2) : isB S [tx [45], tx [33], tx [126], tx [42], tx [38]] i = true ∨ isB S [tx [40]] i = true ∨ isB S [tx [115, 105, 122, 101, 111, 102]] i = true := by
  cases n with
  | zero => cases h
  | succ n =>
    have h : exprB S (euL S n).1 (euL S n).2 i = .ok x j := h
    obtain ⟨y, k, h1, _⟩ := bind_inv h
    obtain ⟨y, k, h1⟩ := row_first _ h1
    cases n with
    | zero => cases h1
    | succ n =>
      have h1 : unaryB S (euL S n).1 (euL S n).2 (askL S n) i = .ok y k := h1
      unfold unaryB at h1
      split at h1
      · rename_i hb; exact .inl hb
      split at h1
      · rename_i hb; exact .inr (.inl hb.1)
      split at h1
      · rename_i hb; exact .inr (.inr hb)
      obtain ⟨z, l, h2, _⟩ := bind_inv h1
      unfold termB at h2
      rw [if_neg (by rw [hk]; decide)] at h2
      split at h2
      · rename_i hb; exact .inr (.inl hb)
      · obtain ⟨_, _, h3, _⟩ := bind_inv h2
        unfold name at h3
        rw [if_neg (by rw [hk]; decide)] at h3
        cases h3
theorem Lx.words {b : Bool} {r : List UInt8} {T : List TK} (h : Lx b r T) : ∀ e ∈ T, e.1 = 2 → wordB e.2.1 = true := by
  induction h with
  | nil => intro e he; cases he
  | blank _ _ _ ih => exact ih
  | all => intro e he; cases he
  | @tok b r T hr h1 h2 _ ih =>
    intro e he
    rcases List.mem_cons.1 he with rfl | he
    · intro h
      unfold tkA tokOf at h ⊢
      dsimp only at h ⊢
      split at h
      · rename_i hl
        rw [if_pos hl]
        split at h
        · simp at h
        · rename_i h24
          rw [if_neg h24]
          dsimp only at h ⊢
          split at h
          · rename_i hw; exact hw
          · simp at h
      · split at h
        · simp at h
        · split at h
          · split at h <;> simp at h
          · split at h <;> simp at h
    · exact ih e he
/-! ### The whole -/
/-- The first expression of the first function. -/
def firstL (n : Nd) : Option Nd := match n.kids with
  | [] => none
  | f :: _ => match f.kids.getLast? with
    | none => none
    | some b => match b.kids with
      | [z] => match z.kids with
        | [x] => some x
        | _ => none
      | _ => none
theorem unit_len {S : Src} : ∀ (f : Nat) {l l' : List Nd} {i j : Nat}, unitF S f l i = .ok l' j → l.length ≤ l'.length
  | 0, l, l', i, j, h => by cases h; exact Nat.le_refl _
  | f + 1, l, l', i, j, h => by
    rw [unitF_succ] at h
    split at h
    · obtain ⟨x, k, _, h⟩ := bind_inv h
      have := unit_len f h
      rw [List.length_append] at this
      omega
    · cases h
      exact Nat.le_refl _
/-- A source that is one item. -/
theorem unit_one {S : Src} {f j : Nat} {x : Nd} (hf : 0 < S.T.length) (h : unitF S (f + 2) [] 0 = .ok [x] j) : ∃ k, item S 0 = .ok x k ∧ S.T.length ≤ k := by
  rw [unitF_succ, if_pos hf] at h
  obtain ⟨y, k, h1, h⟩ := bind_inv h
  rw [unitF_succ] at h
  split at h
  · obtain ⟨z, k2, _, h⟩ := bind_inv h
    have := unit_len f h
    simp at this
  · rename_i hk
    cases h
    exact ⟨j, h1, by omega⟩
theorem stops_C {e : TK} (h : stops.all (fun t => !isK [t] e) = true) {S : Src} {n : Nat} (he : (due S n).er = e) {t : ByteArray} (ht : t ∈ stops) : ¬ isB S [t] n = true := isB_no he (by
  have := List.all_eq_true.1 h t ht
  simpa using this)
theorem isK_any {ts : List ByteArray} {e : TK} (h : isK ts e = true) : ∃ t ∈ ts, isK [t] e = true := by
  simp only [isK, Bool.and_eq_true, List.any_eq_true] at h ⊢
  obtain ⟨h1, t, h2, h3⟩ := h
  exact ⟨t, h2, h1, t, List.mem_cons_self, h3⟩
theorem row_up {S : Src} {un : PM Nd} {i j : Nat} {x : Nd} (h : un i = .ok x j) : ∀ (l : List (List ByteArray)), (∀ s ∈ l, ¬ isB S s j = true) → rowB S un l i = .ok x j
  | [], _ => h
  | s :: l, hl => by
    show (rowB S un l).bind (rowF S s (rowB S un l) (S.T.length + 1)) i = .ok x j
    rw [bind_ok (row_up h l fun s hs => hl s (List.mem_cons_of_mem _ hs))]
    unfold rowF
    rw [if_neg (hl s List.mem_cons_self)]
theorem row_bad {S : Src} {un : PM Nd} {i : Nat} {t k : Int} (h : un i = .bad t k) : ∀ (l : List (List ByteArray)), rowB S un l i = .bad t k
  | [] => h
  | s :: l => by
    show (rowB S un l).bind (rowF S s (rowB S un l) (S.T.length + 1)) i = .bad t k
    rw [bind_bad (row_bad h l)]
/-- An expression in brackets, with a sign behind it that ends it. -/
theorem expr_brackets {S : Src} {n i j : Nat} {x : Nd} (ei : (due S i).er = tO) (hc : ¬ ((due S (i + 1)).kind = 2 ∧ (due S (i + 1)).text ≠ tx [115, 105, 122, 101, 111, 102])) (hx : exprL S n (i + 1) = .ok x j) (ej : (due S j).er = tC) (es : (due S (j + 1)).er = tS) :
    exprL S (n + 2) i = .ok x (j + 1) := by
  have hns : ∀ t ∈ stops, ¬ isB S [t] (j + 1) = true := fun t ht => stops_C (by kernel_rfl) es ht
  have hany : ∀ ts : List ByteArray, (∀ t ∈ ts, t ∈ stops) → ¬ isB S ts (j + 1) = true := fun ts ht h => by
    obtain ⟨t, h1, h2⟩ := isB_any h
    exact hns t (ht t h1) h2
  have hu : (euL S (n + 1)).2 i = .ok x (j + 1) := by
    show unaryB S (euL S n).1 (euL S n).2 (askL S n) i = _
    unfold unaryB
    rw [if_neg (isB_no ei (by kernel_rfl)), if_neg (fun h => hc h.2), if_neg (isB_no ei (by kernel_rfl))]
    have ht : termB S (euL S n).1 i = .ok x (j + 1) := by
      unfold termB
      rw [if_neg (by rw [kind_er ei]; decide), if_pos (isB_yes ei (by kernel_rfl))]
      unfold bracedB
      rw [bind_ok (must_ok (isB_yes ei (by kernel_rfl))), bind_ok (show (euL S n).1 (i + 1) = _ from hx), bind_ok (must_ok (isB_yes ej (by kernel_rfl)))]
      rfl
    unfold postB
    rw [bind_ok ht]
    unfold postF
    rw [if_neg (hns _ (by simp [stops, signs])), if_neg (hns _ (by simp [stops, signs])), if_neg (hns _ (by simp [stops, signs])), if_neg (hns _ (by simp [stops, signs]))]
  show exprB S (euL S (n + 1)).1 (euL S (n + 1)).2 i = _
  unfold exprB
  rw [bind_ok (row_up hu signs fun s hs => hany s fun t ht => List.mem_append_left _ (List.mem_flatten.2 ⟨s, hs, ht⟩)), if_neg (hns _ (by simp [stops, signs]))]
theorem expr_brackets_bad {S : Src} {n i : Nat} {t k : Int} (ei : (due S i).er = tO) (hc : ¬ ((due S (i + 1)).kind = 2 ∧ (due S (i + 1)).text ≠ tx [115, 105, 122, 101, 111, 102])) (hx : exprL S n (i + 1) = .bad t k) : exprL S (n + 2) i = .bad t k := by
  have hu : (euL S (n + 1)).2 i = .bad t k := by
    show unaryB S (euL S n).1 (euL S n).2 (askL S n) i = _
    unfold unaryB
    rw [if_neg (isB_no ei (by kernel_rfl)), if_neg (fun h => hc h.2), if_neg (isB_no ei (by kernel_rfl))]
    unfold postB
    refine bind_bad ?_
    unfold termB
    rw [if_neg (by rw [kind_er ei]; decide), if_pos (isB_yes ei (by kernel_rfl))]
    unfold bracedB
    rw [bind_ok (must_ok (isB_yes ei (by kernel_rfl))), bind_bad (show (euL S n).1 (i + 1) = _ from hx)]
  show exprB S (euL S (n + 1)).1 (euL S (n + 1)).2 i = _
  unfold exprB
  rw [bind_bad (row_bad hu signs)]
/-- A statement that begins with a bracket. -/
theorem stmt_open {S : Src} {n i : Nat} (ei : (due S i).er = tO) : stmtL S (n + 1) i = ((PM.bind (exprL S n) fun x => PM.pure (Nd.mk 12 (tx []) 0 .nil [x])).bind fun x => (must S (tx [59])).bind fun _ => PM.pure x) i := by
  show stmtB S (stmtL S n) (exprL S n) (askL S n) i = _
  unfold stmtB
  rw [if_neg (isB_no ei (by kernel_rfl)), if_neg (isB_no ei (by kernel_rfl)), if_neg (isB_no ei (by kernel_rfl)), if_neg (isB_no ei (by kernel_rfl))]
  have : simpleB S (exprL S n) (askL S n) i = (PM.bind (exprL S n) fun x => PM.pure (Nd.mk 12 (tx []) 0 .nil [x])) i := by
    unfold simpleB typed
    rw [if_neg (isB_no ei (by kernel_rfl)), if_neg (isB_no ei (by kernel_rfl)), if_neg (isB_no ei (by kernel_rfl)), if_neg (isB_no ei (by kernel_rfl))]
  unfold PM.bind at this ⊢
  rw [this]
theorem er_at {S : Src} {L : List TK} (h : S.T.map Tok.er = L) {n : Nat} {e : TK} (he : L[n]? = some e) : (due S n).er = e := by
  rw [due_er, h, he]
  rfl
end Go.Proofs.Ytjnineeeffecaaa
namespace Go.Proofs.Ytjnineeeffecaaa
open Go
@[reducible] def srcA (s : List UInt8) : List UInt8 := preS ++ s ++ [10, 59, 32, 125]
@[reducible] def srcB (s : List UInt8) : List UInt8 := preS ++ [40, 32] ++ s ++ [10, 41, 32, 47, 42, 32, 110, 32, 42, 47, 32, 59, 32, 125]
theorem get_pre {L : List TK} {n : Nat} {e : TK} (h : preT[n]? = some e) : (preT ++ L)[n]? = some e := by
  have hn : n < preT.length := (List.getElem?_eq_some_iff.1 h).1
  rw [List.getElem?_append_left hn]
  exact h
theorem get_post {L : List TK} {n m : Nat} {e : TK} (hm : n = m + 5) (h : L[m]? = some e) : (preT ++ L)[n]? = some e := by
  subst hm
  rw [List.getElem?_append_right (by simp)]
  simpa using h
theorem sign_word {ts : List ByteArray} (h : ts.all (fun t => !wordB t) = true) {e : TK} (hw : wordB e.2.1 = true) : ¬ isK ts e = true := fun hk => by
  simp only [isK, Bool.and_eq_true, List.any_eq_true, decide_eq_true_eq] at hk
  obtain ⟨_, t, h1, h2⟩ := hk
  have := List.all_eq_true.1 h t h1
  rw [h2, hw] at this
  cases this
theorem brackets_core {S1 S2 : Src} {T : List TK} (h1 : S1.T.map Tok.er = preT ++ (T ++ [tS, tE])) (h2 : S2.T.map Tok.er = preT ++ (tO :: (T ++ [tC, tS, tE]))) (hw : ∀ e ∈ T, e.1 = 2 → wordB e.2.1 = true) {f b z x : Nd} {j1 : Nat}
    (hu : unitF S1 (S1.T.length + 1) [] 0 = .ok [f] j1) (hf : f.kids = [b]) (hb : b.kids = [z]) (hz : z.kind = 12) (hx : z.kids = [x]) : unitF S2 (S2.T.length + 1) [] 0 = .ok [f] S2.T.length ∨ ∃ u, unitF S2 (S2.T.length + 1) [] 0 = .bad u 4 := by
  have n1 : S1.T.length = T.length + 7 := by
    have := congrArg List.length h1
    simp at this
    omega
  have n2 : S2.T.length = T.length + 9 := by
    have := congrArg List.length h2
    simp at this
    omega
  obtain ⟨k, hi, hk⟩ := unit_one (S := S1) (f := T.length + 6) (by omega) (by rw [n1] at hu; exact hu)
  rw [item_pre (er_at h1 (get_pre rfl)) (er_at h1 (get_pre rfl)) (er_at h1 (get_pre rfl)) (er_at h1 (get_pre rfl)) (er_at h1 (get_pre rfl))] at hi
  obtain ⟨b', k', hbk, hp⟩ := bind_inv hi
  cases hp
  cases hf
  rw [n1, show T.length + 7 + 1 = T.length + 6 + 2 from rfl] at hbk
  obtain ⟨-, k1, hst, he, rfl, rfl⟩ := block_one hbk hb
  have hl := isB_dl he
  obtain ⟨x', k2, hex, hsc, rfl, rfl⟩ := stmt_expr (show stmtB S1 (stmtL S1 58) (exprL S1 58) (askL S1 58) 5 = .ok z k1 from hst) hz
  cases hx
  obtain rfl : k2 = T.length + 5 := by omega
  have hT1 : ∀ {m : Nat} {e : TK}, T[m]? = some e → (due S1 (m + 5)).er = e := fun {m e} hm => er_at h1 (get_post rfl (by
    rw [List.getElem?_append_left (List.getElem?_eq_some_iff.1 hm).1]; exact hm))
  have hT2 : ∀ {m : Nat} {e : TK}, T[m]? = some e → (due S2 (m + 6)).er = e := fun {m e} hm => er_at h2 (get_post (m := m + 1) rfl (by
    rw [List.getElem?_cons_succ, List.getElem?_append_left (List.getElem?_eq_some_iff.1 hm).1]; exact hm))
  have hO : (due S2 5).er = tO := er_at h2 (get_post (m := 0) rfl rfl)
  have hC : (due S2 (T.length + 6)).er = tC := er_at h2 (get_post (m := T.length + 1) rfl (by rw [List.getElem?_cons_succ, List.getElem?_append_right (Nat.le_refl _), Nat.sub_self]; rfl))
  have hS : (due S2 (T.length + 7)).er = tS := er_at h2 (get_post (m := T.length + 2) rfl (by rw [List.getElem?_cons_succ, List.getElem?_append_right (by omega), show T.length + 1 - T.length = 1 by omega]; rfl))
  have hE : (due S2 (T.length + 8)).er = tE := er_at h2 (get_post (m := T.length + 3) rfl (by rw [List.getElem?_cons_succ, List.getElem?_append_right (by omega), show T.length + 2 - T.length = 2 by omega]; rfl))
  have A : Al S1 S2 5 1 (T.length + 5) True False := ⟨fun n h0 hn => by
    obtain ⟨m, rfl⟩ : ∃ m, n = m + 5 := ⟨n - 5, by omega⟩
    have hm : m < T.length := by have := hn.resolve_right id; omega
    rw [hT1 (List.getElem?_eq_getElem hm), hT2 (List.getElem?_eq_getElem hm)], by omega, fun h => h.elim, fun h => h.elim⟩
  have hst : Stp S1 S2 5 1 (T.length + 5) := fun _ t ht h => absurd h (stops_C (by kernel_rfl) hC ht)
  have R := (euL_RE A hst trivial 58 56 (by omega)).1 5 (by omega) (Nat.le_refl 5)
  rw [show (euL S1 58).1 5 = .ok x (T.length + 5) from hex] at R
  have R := R.2.2 (.inl (Nat.le_refl _))
  have hc : ¬ ((due S2 (5 + 1)).kind = 2 ∧ (due S2 (5 + 1)).text ≠ tx [115, 105, 122, 101, 111, 102]) := by
    rintro ⟨c1, c2⟩
    cases T with
    | nil =>
      rw [kind_er (show (due S2 (5 + 1)).er = tC from hC)] at c1
      exact absurd c1 (by decide)
    | cons e T =>
      have e1 : (due S1 5).er = e := hT1 (m := 0) rfl
      have e2 : (due S2 (5 + 1)).er = e := hT2 (m := 0) rfl
      rw [kind_er e2] at c1
      rw [text_er e2] at c2
      have hwe := hw e List.mem_cons_self c1
      rcases expr_first hex ((kind_er e1).trans c1) with h | h | h
      · rw [isB_er e1] at h
        exact sign_word (by kernel_rfl) hwe h
      · rw [isB_er e1] at h
        exact sign_word (by kernel_rfl) hwe h
      · rw [isB_er e1] at h
        simp only [isK, Bool.and_eq_true, List.any_cons, List.any_nil, Bool.or_false, decide_eq_true_eq] at h
        exact c2 h.2.symm
  have i2 := item_pre (S := S2) (er_at h2 (get_pre rfl)) (er_at h2 (get_pre rfl)) (er_at h2 (get_pre rfl)) (er_at h2 (get_pre rfl)) (er_at h2 (get_pre rfl))
  have hbl : blockF S2 (stmtL S2 59) (S2.T.length + 1) [] 5 = (PM.bind (stmtL S2 59) fun y => blockF S2 (stmtL S2 59) S2.T.length [y]) 5 := by
    rw [blockF]
    dsimp only
    rw [if_neg (isB_no hO (by kernel_rfl))]
    rfl
  rcases R with R | ⟨-, u, R⟩
  · have hex2 := expr_brackets hO hc (show exprL S2 56 (5 + 1) = .ok x (T.length + 6) from R) hC hS
    have hst2 : stmtL S2 59 5 = .ok (.mk 12 (tx []) 0 .nil [x]) (T.length + 8) := by
      rw [stmt_open hO, bind_ok (show (PM.bind (exprL S2 58) fun x => PM.pure (Nd.mk 12 (tx []) 0 .nil [x])) 5 = .ok (.mk 12 (tx []) 0 .nil [x]) (T.length + 7) by rw [bind_ok hex2]; rfl), bind_ok (must_ok (isB_yes hS (by kernel_rfl)))]
      rfl
    left
    rw [unitF_succ, if_pos (by omega), bind_ok (show item S2 0 = .ok _ (T.length + 9) by
      rw [i2, bind_ok (show blockF S2 (stmtL S2 59) (S2.T.length + 1) [] 5 = .ok (.mk 17 (tx []) 0 .nil [.mk 12 (tx []) 0 .nil [x]]) (T.length + 9) by
        rw [hbl, bind_ok hst2, show S2.T.length = T.length + 8 + 1 by omega, blockF]
        dsimp only
        rw [if_pos (isB_yes hE (by kernel_rfl))])]
      rfl)]
    rw [n2, unitF_succ, if_neg (by omega)]
    rfl
  · have hex2 := expr_brackets_bad hO hc (show exprL S2 56 (5 + 1) = .bad u 4 from R)
    have hst2 : stmtL S2 59 5 = .bad u 4 := by
      rw [stmt_open hO, bind_bad (show (PM.bind (exprL S2 58) fun x => PM.pure (Nd.mk 12 (tx []) 0 .nil [x])) 5 = .bad u 4 from bind_bad hex2)]
    right
    refine ⟨u, ?_⟩
    rw [unitF_succ, if_pos (by omega), bind_bad (show item S2 0 = .bad u 4 by
      rw [i2, bind_bad (show blockF S2 (stmtL S2 59) (S2.T.length + 1) [] 5 = .bad u 4 by rw [hbl, bind_bad hst2])])]
theorem parse_brackets {s : List UInt8} {f b z x : Nd} {a : Int} (hl : s.length ≤ 2000) (h : parseA (srcA s) = (.mk 23 (tx []) 0 .nil [f], a, 0)) (hf : f.kids = [b]) (hb : b.kids = [z]) (hz : z.kind = 12) (hx : z.kids = [x]) :
    parseA (srcB s) = (.mk 23 (tx []) 0 .nil [f], 0, 0) ∨ ∃ y u, parseA (srcB s) = (y, u, 4) := by
  obtain ⟨-, T1, l1, j1, e1, u1, hA, d1⟩ := parseA_read h
  cases hA
  obtain ⟨-, k1⟩ := lexS_lx e1
  obtain ⟨T, hT1, ks, k2⟩ := lx_brackets k1
  obtain ⟨T2, e2, hT2⟩ := lx_lexS k2 (by simp; omega)
  unfold parseA
  rw [show lexS (srcB s) = .ok T2 from e2]
  dsimp only
  unfold parseT
  rcases brackets_core (S1 := ⟨T1, (srcA s).length⟩) (S2 := ⟨T2, (srcB s).length⟩) hT1 hT2 ks.words u1 hf hb hz hx with h | ⟨u, h⟩
  · left
    rw [h]
    dsimp only
    rw [if_neg (Nat.not_lt.2 d1)]
  · right
    rw [h]
    exact ⟨_, _, rfl⟩
end Go.Proofs.Ytjnineeeffecaaa
