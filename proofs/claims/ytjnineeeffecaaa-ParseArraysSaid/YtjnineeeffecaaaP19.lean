/- What every parse comes to: trees that are not too broad, of items; errors within the source. Plain Lean. -/
import Derived.Test.YtjnineeeffecaaaP15
import Derived.Test.YtjnineeeffecaaaP18
namespace Go.Proofs.Ytjnineeeffecaaa
open Go X
section
variable {S : Src} {α β : Type}
def Wa (S : Src) {α : Type} (p : α → Prop) : Out α → Prop
  | .ok a _ => p a
  | .bad t k => 0 ≤ t ∧ t ≤ S.e ∧ k ≠ 0
def W (S : Src) {α : Type} (p : α → Prop) (m : PM α) : Prop := ∀ i, Wa S p (m i)
theorem W.pure {p : α → Prop} {a : α} (h : p a) : W S p (PM.pure a) := fun _ => h
theorem W.bind {p : β → Prop} {q : α → Prop} {m : PM α} {f : α → PM β} (h : W S q m) (k : ∀ a, q a → W S p (f a)) : W S p (m.bind f) := fun i => by
  have h1 := h i
  unfold PM.bind
  cases hm : m i with
  | ok a j => rw [hm] at h1; exact k a h1 j
  | bad t k => rw [hm] at h1; exact h1
theorem Wa.ok {p : α → Prop} {a : α} {i : Nat} (h : p a) : Wa S p (.ok a i) := h
theorem W.mono {p q : α → Prop} {m : PM α} (h : W S p m) (k : ∀ a, p a → q a) : W S q m := fun i => by
  have h1 := h i
  cases hm : m i with
  | ok a j => rw [hm] at h1; exact k a h1
  | bad t k => rw [hm] at h1; exact h1
/-- The places are within the source. -/
structure Src.Ok (S : Src) : Prop where
  e : 0 ≤ S.e
  t : ∀ t ∈ S.T, 0 ≤ t.pos ∧ t.pos ≤ S.e
  n : S.T.length ≤ 20000
theorem due_pos (hS : S.Ok) (i : Nat) : 0 ≤ (due S i).pos ∧ (due S i).pos ≤ S.e := by
  unfold due
  split
  · rename_i t h
    exact hS.t t (List.mem_of_getElem? h)
  · exact ⟨hS.e, Int.le_refl _⟩
@[reducible] def any (_ : α) : Prop := True
theorem bad_w (hS : S.Ok) {p : α → Prop} (i : Nat) {k : Int} (hk : k ≠ 0) : Wa S p (.bad (due S i).pos k) := ⟨(due_pos hS i).1, (due_pos hS i).2, hk⟩
theorem give_w (hS : S.Ok) {p : α → Prop} {k : Int} (hk : k ≠ 0) : W S p (give S k) := fun i => bad_w hS i hk
theorem must_w (hS : S.Ok) {t : ByteArray} : W S any (must S t) := fun i => by
  unfold must
  split
  · trivial
  · exact bad_w hS i (by decide)
theorem name_w (hS : S.Ok) : W S any (name S) := fun i => by
  unfold name
  split
  · trivial
  · exact bad_w hS i (by decide)
end
section
variable {S : Src}
theorem ok0 (k n : Int) (s : ByteArray) : (Ty.mk k n s []).ok 30000 := by simp [Ty.ok, Ty.oks]
theorem oks_of : ∀ {l : List Ty}, (∀ x ∈ l, x.ok 30000) → Ty.oks 30000 l
  | [], _ => by simp [Ty.oks]
  | x :: l, h => by
    rw [Ty.oks]
    exact ⟨h x (.head _), oks_of fun y hy => h y (.tail _ hy)⟩
theorem noks_of : ∀ {l : List Nd}, (∀ x ∈ l, x.ok 30000) → Nd.oks 30000 l
  | [], _ => by simp [Nd.oks]
  | x :: l, h => by
    rw [Nd.oks]
    exact ⟨h x (.head _), noks_of fun y hy => h y (.tail _ hy)⟩
theorem tok_mk {k n : Int} {s : ByteArray} {l : List Ty} (hl : l.length ≤ 30000) (h : ∀ x ∈ l, x.ok 30000) : (Ty.mk k n s l).ok 30000 := by
  rw [Ty.ok]
  exact ⟨hl, oks_of h⟩
theorem nok_mk {k n : Int} {s : ByteArray} {t : Ty} {l : List Nd} (ht : t.ok 30000) (hl : l.length ≤ 30000) (h : ∀ x ∈ l, x.ok 30000) : (Nd.mk k s n t l).ok 30000 := by
  rw [Nd.ok]
  exact ⟨ht, hl, noks_of h⟩
theorem nok1 {k n : Int} {s : ByteArray} {t : Ty} {x : Nd} (ht : t.ok 30000) (h : x.ok 30000) : (Nd.mk k s n t [x]).ok 30000 := nok_mk ht (by simp) (by simpa using h)
theorem nok2 {k n : Int} {s : ByteArray} {t : Ty} {x y : Nd} (ht : t.ok 30000) (h : x.ok 30000) (h2 : y.ok 30000) : (Nd.mk k s n t [x, y]).ok 30000 := nok_mk ht (by simp) (by simp [h, h2])
theorem nok0 {k n : Int} {s : ByteArray} {t : Ty} (ht : t.ok 30000) : (Nd.mk k s n t []).ok 30000 := nok_mk ht (by simp) (by simp)
theorem base_w (hS : S.Ok) : W S (Ty.ok 30000) (base S) := fun i => by
  unfold base
  split
  · dsimp only
    split
    · exact (name_w hS).bind (fun s _ => W.pure (ok0 _ _ _)) _
    · exact Wa.ok (ok0 _ _ _)
  · exact bad_w hS i (by decide)
theorem ptr_ok {t : Ty} (h : t.ok 30000) : (ptr t).ok 30000 := tok_mk (by simp) (by simpa using h)
theorem starsF_w : ∀ (f : Nat) {t : Ty}, t.ok 30000 → W S (Ty.ok 30000) (starsF S f t)
  | 0, t, h => W.pure h
  | f + 1, t, h => fun i => by
    unfold starsF
    split
    · exact starsF_w f (ptr_ok h) _
    · exact h
theorem stars_w {t : Ty} (h : t.ok 30000) : W S (Ty.ok 30000) (stars S t) := starsF_w _ h
theorem arraysF_w (hS : S.Ok) : ∀ (f : Nat) {l : List Int}, W S any (arraysF S f l)
  | 0, l => W.pure trivial
  | f + 1, l => fun i => by
    unfold arraysF
    split
    · dsimp only
      split
      · exact bad_w hS _ (by decide)
      · split
        · exact bad_w hS _ (by decide)
        · exact (must_w hS).bind (fun _ _ => arraysF_w hS f) _
    · trivial
theorem arrays_w (hS : S.Ok) : W S any (arrays S) := arraysF_w hS _
theorem wrapS_ok {t : Ty} (h : t.ok 30000) : ∀ l, (wrapS t l).ok 30000
  | [] => h
  | n :: l => tok_mk (by simp) (by simpa using wrapS_ok h l)
theorem listF_w (hS : S.Ok) {α : Type} {p : α → Prop} {one : PM α} (h : W S p one) : ∀ (f : Nat) {l : List α}, (∀ x ∈ l, p x) → l.length + f ≤ 6 → W S (fun l => l.length ≤ 6 ∧ ∀ x ∈ l, p x) (listF S one f l)
  | 0, l, hl, hn => fun i => by
    unfold listF
    split
    · exact ⟨by omega, hl⟩
    · exact bad_w hS _ (by decide)
  | f + 1, l, hl, hn => fun i => by
    unfold listF
    split
    · exact ⟨by omega, hl⟩
    · have h1 : W S any (if l.length = 0 then PM.pure () else must S (tx [44])) := by
        split
        · exact W.pure trivial
        · exact must_w hS
      refine h1.bind (fun _ _ => h.bind fun a ha => fun j => ?_) _
      split
      · exact listF_w hS h f (by
          intro x hx
          rcases List.mem_append.1 hx with hx | hx
          · exact hl x hx
          · rw [List.mem_singleton.1 hx]; exact ha) (by simp; omega) _
      · exact bad_w hS _ (by decide)
theorem list_w (hS : S.Ok) {α : Type} {p : α → Prop} {one : PM α} (h : W S p one) : W S (fun l => l.length ≤ 6 ∧ ∀ x ∈ l, p x) (list S one) :=
  (must_w hS).bind fun _ _ => listF_w hS h 6 (by simp) (by simp)
theorem fnT_ok {t : Ty} {l : List Ty} (h : t.ok 30000) (hl : l.length ≤ 6) (h2 : ∀ x ∈ l, x.ok 30000) : (fnT t l).ok 30000 := tok_mk (by simp; omega) (by
  intro x hx
  rcases List.mem_cons.1 hx with rfl | hx
  · exact h
  · exact h2 x hx)
theorem asksB_w (hS : S.Ok) {ask : PM Ty} (h : W S (Ty.ok 30000) ask) {t : Ty} (ht : t.ok 30000) : W S (Ty.ok 30000) (asksB S ask t) :=
  (list_w hS h).bind fun l hl => W.pure (fnT_ok ht hl.1 hl.2)
theorem askB_w (hS : S.Ok) {ask : PM Ty} (h : W S (Ty.ok 30000) ask) : W S (Ty.ok 30000) (askB S ask) :=
  (base_w hS).bind fun b hb => (stars_w hb).bind fun t ht => fun i => by
    split
    · exact (must_w hS).bind (fun _ _ => (must_w hS).bind fun _ _ => (asksB_w hS h ht).bind fun u hu => W.pure (ptr_ok hu)) _
    · exact ht
theorem askL_w (hS : S.Ok) : ∀ n, W S (Ty.ok 30000) (askL S n)
  | 0 => give_w hS (by decide)
  | n + 1 => askB_w hS (askL_w hS n)
/-- A declaration. -/
def dOk (x : Nd) : Prop := x.ok 30000 ∧ ∃ s t, t.ok 30000 ∧ x = declN s t
theorem declN_ok {s : ByteArray} {t : Ty} (h : t.ok 30000) : dOk (declN s t) := ⟨nok0 h, s, t, h, rfl⟩
theorem declB_w (hS : S.Ok) {ask : PM Ty} (h : W S (Ty.ok 30000) ask) {b : Ty} (hb : b.ok 30000) : W S dOk (declB S ask b) :=
  (stars_w hb).bind fun t ht => fun i => by
    split
    · exact (must_w hS).bind (fun _ _ => (name_w hS).bind fun s _ => (arrays_w hS).bind fun l _ => (must_w hS).bind fun _ _ => (asksB_w hS h ht).bind fun u hu => W.pure (declN_ok (wrapS_ok (ptr_ok hu) l))) _
    · exact (name_w hS).bind (fun s _ => (arrays_w hS).bind fun l _ => W.pure (declN_ok (wrapS_ok ht l))) _
theorem bracedB_w (hS : S.Ok) {ex : PM Nd} (h : W S (Nd.ok 30000) ex) : W S (Nd.ok 30000) (bracedB S ex) :=
  (must_w hS).bind fun _ _ => h.bind fun x hx => (must_w hS).bind fun _ _ => W.pure hx
theorem termB_w (hS : S.Ok) {ex : PM Nd} (h : W S (Nd.ok 30000) ex) : W S (Nd.ok 30000) (termB S ex) := fun i => by
  unfold termB
  split
  · exact Wa.ok (nok0 (ok0 _ _ _))
  · split
    · exact bracedB_w hS h _
    · exact (name_w hS).bind (fun s _ => W.pure (nok0 (ok0 _ _ _))) _
theorem postF_w (hS : S.Ok) {ex : PM Nd} (h : W S (Nd.ok 30000) ex) : ∀ (f : Nat) {x : Nd}, x.ok 30000 → W S (Nd.ok 30000) (postF S ex f x)
  | 0, x, hx => W.pure hx
  | f + 1, x, hx => fun i => by
    unfold postF
    split
    · exact h.bind (fun y hy => (must_w hS).bind fun _ _ => postF_w hS h f (nok2 (ok0 _ _ _) hx hy)) _
    · split
      · exact (name_w hS).bind (fun s _ => postF_w hS h f (nok1 (ok0 _ _ _) hx)) _
      · split
        · exact (name_w hS).bind (fun s _ => postF_w hS h f (nok1 (ok0 _ _ _) hx)) _
        · split
          · exact (list_w hS h).bind (fun l hl => postF_w hS h f (nok_mk (ok0 _ _ _) (by simp; omega) (by
              intro y hy
              rcases List.mem_cons.1 hy with rfl | hy
              · exact hx
              · exact hl.2 y hy))) _
          · exact hx
theorem postB_w (hS : S.Ok) {ex : PM Nd} (h : W S (Nd.ok 30000) ex) : W S (Nd.ok 30000) (postB S ex) := (termB_w hS h).bind fun _ hx => postF_w hS h _ hx
theorem unaryB_w (hS : S.Ok) {ex un : PM Nd} {ask : PM Ty} (h : W S (Nd.ok 30000) ex) (hu : W S (Nd.ok 30000) un) (ha : W S (Ty.ok 30000) ask) : W S (Nd.ok 30000) (unaryB S ex un ask) := fun i => by
  unfold unaryB
  split
  · exact hu.bind (fun x hx => W.pure (nok1 (ok0 _ _ _) hx)) _
  · split
    · exact ha.bind (fun t ht => (must_w hS).bind fun _ _ => hu.bind fun x hx => W.pure (nok1 ht hx)) _
    · split
      · exact (must_w hS).bind (fun _ _ => ha.bind fun t ht => (must_w hS).bind fun _ _ => W.pure (nok0 ht)) _
      · exact postB_w hS h _
theorem rowF_w {s : List ByteArray} {sub : PM Nd} (h : W S (Nd.ok 30000) sub) : ∀ (f : Nat) {x : Nd}, x.ok 30000 → W S (Nd.ok 30000) (rowF S s sub f x)
  | 0, x, hx => W.pure hx
  | f + 1, x, hx => fun i => by
    unfold rowF
    split
    · exact h.bind (fun y hy => rowF_w h f (nok2 (ok0 _ _ _) hx hy)) _
    · exact hx
theorem rowB_w {un : PM Nd} (h : W S (Nd.ok 30000) un) : ∀ l, W S (Nd.ok 30000) (rowB S un l)
  | [] => h
  | s :: l => (rowB_w h l).bind fun x hx => rowF_w (rowB_w h l) _ hx
theorem exprB_w {ex un : PM Nd} (h : W S (Nd.ok 30000) ex) (hu : W S (Nd.ok 30000) un) : W S (Nd.ok 30000) (exprB S ex un) := (rowB_w hu _).bind fun x hx => fun i => by
  split
  · exact h.bind (fun y hy => W.pure (nok2 (ok0 _ _ _) hx hy)) _
  · exact hx
theorem euL_w (hS : S.Ok) : ∀ n, W S (Nd.ok 30000) (euL S n).1 ∧ W S (Nd.ok 30000) (euL S n).2
  | 0 => ⟨give_w hS (by decide), give_w hS (by decide)⟩
  | n + 1 => ⟨exprB_w (euL_w hS n).1 (euL_w hS n).2, unaryB_w hS (euL_w hS n).1 (euL_w hS n).2 (askL_w hS n)⟩
theorem exprL_w (hS : S.Ok) (n : Nat) : W S (Nd.ok 30000) (exprL S n) := (euL_w hS n).1
theorem simpleB_w (hS : S.Ok) {ex : PM Nd} {ask : PM Ty} (h : W S (Nd.ok 30000) ex) (ha : W S (Ty.ok 30000) ask) : W S (Nd.ok 30000) (simpleB S ex ask) := fun i => by
  unfold simpleB
  split
  · split
    · exact Wa.ok (nok0 (ok0 _ _ _))
    · exact h.bind (fun x hx => W.pure (nok1 (ok0 _ _ _) hx)) _
  · split
    · exact Wa.ok (nok0 (ok0 _ _ _))
    · split
      · exact Wa.ok (nok0 (ok0 _ _ _))
      · split
        · exact (base_w hS).bind (fun b hb => (declB_w hS ha hb).bind fun d hd => fun j => by
            split
            · exact h.bind (fun x hx => W.pure (by
                obtain ⟨_, s, t, ht, rfl⟩ := hd
                exact nok1 ht hx)) _
            · exact hd.1) _
        · exact h.bind (fun x hx => W.pure (nok1 (ok0 _ _ _) hx)) _
theorem mem_app {α : Type} {p : α → Prop} {l : List α} {a : α} (hl : ∀ x ∈ l, p x) (ha : p a) : ∀ x ∈ l ++ [a], p x := by
  intro x hx
  rcases List.mem_append.1 hx with hx | hx
  · exact hl x hx
  · rw [List.mem_singleton.1 hx]; exact ha
theorem blockF_w {st : PM Nd} (h : W S (Nd.ok 30000) st) : ∀ (f : Nat) {l : List Nd}, (∀ x ∈ l, x.ok 30000) → l.length + f ≤ 30000 → W S (Nd.ok 30000) (blockF S st f l)
  | 0, l, hl, hn => W.pure (nok_mk (ok0 _ _ _) (by omega) hl)
  | f + 1, l, hl, hn => fun i => by
    unfold blockF
    split
    · exact Wa.ok (nok_mk (ok0 _ _ _) (by omega) hl)
    · exact h.bind (fun x hx => blockF_w h f (mem_app hl hx) (by simp; omega)) _
theorem stmtB_w (hS : S.Ok) {st ex : PM Nd} {ask : PM Ty} (hs : W S (Nd.ok 30000) st) (h : W S (Nd.ok 30000) ex) (ha : W S (Ty.ok 30000) ask) : W S (Nd.ok 30000) (stmtB S st ex ask) := fun i => by
  have hn := hS.n
  unfold stmtB
  split
  · exact blockF_w hs _ (by simp) (by simp; omega) _
  · split
    · exact Wa.ok (nok0 (ok0 _ _ _))
    · split
      · exact (bracedB_w hS h).bind (fun c hc => hs.bind fun x hx => fun j => by
          split
          · exact hs.bind (fun y hy => W.pure (nok_mk (ok0 _ _ _) (by simp) (by simp [hc, hx, hy]))) _
          · exact Wa.ok (nok2 (ok0 _ _ _) hc hx)) _
      · split
        · exact (bracedB_w hS h).bind (fun c hc => hs.bind fun x hx => W.pure (nok2 (ok0 _ _ _) hc hx)) _
        · exact (simpleB_w hS h ha).bind (fun x hx => (must_w hS).bind fun _ _ => W.pure hx) _
theorem stmtL_w (hS : S.Ok) : ∀ n, W S (Nd.ok 30000) (stmtL S n)
  | 0 => give_w hS (by decide)
  | n + 1 => stmtB_w hS (stmtL_w hS n) (exprL_w hS n) (askL_w hS n)
/-- An item. -/
def iOk (x : Nd) : Prop := x.ok 30000 ∧ (x.kind = 20 ∨ x.kind = 21 ∨ x.kind = 22)
theorem recordF_w (hS : S.Ok) {ask : PM Ty} (ha : W S (Ty.ok 30000) ask) {t : Ty} (ht : t.ok 30000) : ∀ (f : Nat) {l : List Nd}, (∀ x ∈ l, x.ok 30000) → l.length + f ≤ 30000 → W S iOk (recordF S ask t f l)
  | 0, l, hl, hn => W.pure ⟨nok_mk ht (by omega) hl, .inl rfl⟩
  | f + 1, l, hl, hn => fun i => by
    unfold recordF
    split
    · exact (must_w hS).bind (fun _ _ => W.pure ⟨nok_mk ht (by omega) hl, .inl rfl⟩) _
    · exact (base_w hS).bind (fun b hb => (declB_w hS ha hb).bind fun d hd => (must_w hS).bind fun _ _ => recordF_w hS ha ht f (mem_app hl hd.1) (by simp; omega)) _
theorem fnB_w (hS : S.Ok) {ask : PM Ty} {st : PM Nd} (ha : W S (Ty.ok 30000) ask) (hs : W S (Nd.ok 30000) st) {t : Ty} (ht : t.ok 30000) : W S iOk (fnB S ask st t) :=
  (name_w hS).bind fun s _ => (list_w hS ((base_w hS).bind fun b hb => declB_w hS ha hb)).bind fun l hl => fun i => by
    split
    · exact hs.bind (fun x hx => W.pure ⟨nok_mk (fnT_ok ht (by simpa using hl.1) (by
        intro y hy
        obtain ⟨d, hd, rfl⟩ := List.mem_map.1 hy
        obtain ⟨_, s, t, ht', rfl⟩ := hl.2 d hd
        exact ht')) (by simp; omega) (mem_app (fun y hy => (hl.2 y hy).1) hx), .inr (.inr rfl)⟩) _
    · exact bad_w hS _ (by decide)
theorem item_w (hS : S.Ok) : W S iOk (item S) := fun i => by
  have hn := hS.n
  refine (base_w hS).bind (fun b hb => ?_) _
  split
  · exact (must_w hS).bind fun _ _ => recordF_w hS (askL_w hS _) hb _ (by simp) (by simp; omega)
  · refine (stars_w hb).bind fun t ht => fun j => ?_
    split
    · exact fnB_w hS (askL_w hS _) (stmtL_w hS _) ht _
    · exact (declB_w hS (askL_w hS _) ht).bind (fun d hd => (must_w hS).bind fun _ _ => W.pure (by
        obtain ⟨_, s, t, ht', rfl⟩ := hd
        exact ⟨nok0 ht', .inr (.inl rfl)⟩)) _
theorem unitF_w (hS : S.Ok) : ∀ (f : Nat) {l : List Nd}, (∀ x ∈ l, iOk x) → l.length + f ≤ 30000 → W S (fun l => l.length ≤ 30000 ∧ ∀ x ∈ l, iOk x) (unitF S f l)
  | 0, l, hl, hn => W.pure ⟨by omega, hl⟩
  | f + 1, l, hl, hn => fun i => by
    unfold unitF
    split
    · exact (item_w hS).bind (fun x hx => unitF_w hS f (mem_app hl hx) (by simp; omega)) _
    · exact ⟨by omega, hl⟩
theorem unit_w (hS : S.Ok) : W S (fun l => l.length ≤ 30000 ∧ ∀ x ∈ l, iOk x) (unitF S (S.T.length + 1) []) := unitF_w hS _ (by simp) (by have := hS.n; simp; omega)
end
/-- The library's variable. -/
def gF : FP where
  h O w := (∃ m, w.cell? ⟨0, 0, none⟩ = some (.int .i64 m)) ∧ ¬ O 0
  mono := fun {O O' w w'} ⟨⟨m, h1⟩, h2⟩ hs hk hO => by
    have h0 : 0 < w.heap.size := by
      rcases Nat.eq_zero_or_pos w.heap.size with h | h
      · simp [World.cell?, h] at h1
      · exact h
    refine ⟨⟨m, ?_⟩, fun h => h2 (hO 0 h0 h)⟩
    simpa [World.cell?, hk 0 h0 h2] using h1
/-! ### What the reader of tokens hands over -/
theorem lexF_succ (l : List UInt8) (f a : Nat) (T : List Tok) : lexF l (f + 1) a T = if (blankP (l.drop a)).1 < 0 then .bad (a + (blankP (l.drop a)).2) 2 else
    if a + (blankP (l.drop a)).1.toNat = l.length then .ok T else
    if (tokOf (l.drop (a + (blankP (l.drop a)).1.toNat))).2.2.2 ≠ 0 then .bad ((a + (blankP (l.drop a)).1.toNat : Nat) : Int) (tokOf (l.drop (a + (blankP (l.drop a)).1.toNat))).2.2.2 else
    lexF l f (a + (blankP (l.drop a)).1.toNat + (tokOf (l.drop (a + (blankP (l.drop a)).1.toNat))).2.1.length)
      (T ++ [⟨(tokOf (l.drop (a + (blankP (l.drop a)).1.toNat))).1, ((a + (blankP (l.drop a)).1.toNat : Nat) : Int), tx (tokOf (l.drop (a + (blankP (l.drop a)).1.toNat))).2.1, (tokOf (l.drop (a + (blankP (l.drop a)).1.toNat))).2.2.1⟩]) := rfl
/-- A round's numbers. -/
theorem lex_round {l : List UInt8} {a : Nat} (ha : a ≤ l.length) (h1 : ¬ (blankP (l.drop a)).1 < 0) : a + (blankP (l.drop a)).1.toNat ≤ l.length := by
  have := blankP_bound (l.drop a)
  simp at this
  omega
theorem lexF_ok {l : List UInt8} (hl : l.length ≤ 20000) : ∀ (f a : Nat) {T : List Tok}, a ≤ l.length → T.length ≤ a → (∀ t ∈ T, 0 ≤ t.pos ∧ t.pos ≤ l.length) → match lexF l f a T with
    | .ok T => T.length ≤ 20000 ∧ ∀ t ∈ T, 0 ≤ t.pos ∧ t.pos ≤ l.length
    | .bad t k => 0 ≤ t ∧ t ≤ l.length ∧ k ≠ 0
  | 0, a, T, ha, hT, hp => by
    show 0 ≤ (a : Int) ∧ (a : Int) ≤ l.length ∧ (2 : Int) ≠ 0
    omega
  | f + 1, a, T, ha, hT, hp => by
    have hb := blankP_bound (l.drop a)
    simp only [List.length_drop] at hb
    rw [lexF_succ]
    by_cases h1 : (blankP (l.drop a)).1 < 0
    · rw [if_pos h1]
      dsimp only
      omega
    · rw [if_neg h1]
      have h2 := lex_round ha h1
      by_cases h3 : a + (blankP (l.drop a)).1.toNat = l.length
      · rw [if_pos h3]
        exact ⟨by omega, hp⟩
      · rw [if_neg h3]
        by_cases h4 : (tokOf (l.drop (a + (blankP (l.drop a)).1.toNat))).2.2.2 ≠ 0
        · rw [if_pos h4]
          dsimp only
          exact ⟨by omega, by omega, h4⟩
        · rw [if_neg h4]
          have h5 := tokOf_len (l := l.drop (a + (blankP (l.drop a)).1.toNat)) (by simp; omega) (Decidable.not_not.1 h4)
          simp only [List.length_drop] at h5
          refine lexF_ok hl f _ (by omega) (by simp; omega) (mem_app hp ⟨by dsimp only; omega, by dsimp only; omega⟩)
theorem lexS_ok {l : List UInt8} {T : List Tok} (h : lexS l = .ok T) : (Src.mk T l.length).Ok := by
  unfold lexS at h
  split at h
  · cases h
  · have := lexF_ok (l := l) (by omega) (l.length + 1) 0 (T := []) (Nat.zero_le _) (Nat.le_refl _) (by simp)
    rw [h] at this
    exact ⟨by simp, this.2, this.1⟩
theorem lexS_bad {l : List UInt8} {t k : Int} (h : lexS l = .bad t k) : 0 ≤ t ∧ t ≤ l.length ∧ k ≠ 0 := by
  unfold lexS at h
  split at h
  · cases h
    omega
  · have := lexF_ok (l := l) (by omega) (l.length + 1) 0 (T := []) (Nat.zero_le _) (Nat.le_refl _) (by simp)
    rw [h] at this
    exact this
end Go.Proofs.Ytjnineeeffecaaa
