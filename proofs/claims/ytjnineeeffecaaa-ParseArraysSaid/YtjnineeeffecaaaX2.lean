/- What a walk knows of memory: what the call owns, apart from each other (SP), and what stays as it is (FP); how single operations turn it. For whatever program. -/
import Derived.Test.YtjnineeeffecaaaX1
namespace Go.Proofs.Ytjnineeeffecaaa.X
open Go Go.RowKit

/-- The streams, and all that stood in w outside of O, are in w' as in w. -/
structure Ext (O : Nat → Prop) (w w' : World) : Prop where
  os : w'.os = w.os
  tape : w'.tape = w.tape
  output : w'.output = w.output
  size : w.heap.size ≤ w'.heap.size
  keep : ∀ b, b < w.heap.size → ¬ O b → w'.heap[b]? = w.heap[b]?
theorem Ext.refl (O : Nat → Prop) (w : World) : Ext O w w := ⟨rfl, rfl, rfl, Nat.le_refl _, fun _ _ _ => rfl⟩
theorem Ext.trans {O O' : Nat → Prop} {w w1 w2 : World} (h : Ext O w w1) (k : Ext O' w1 w2) (hs : ∀ b, b < w.heap.size → O' b → O b) : Ext O w w2 :=
  ⟨k.os.trans h.os, k.tape.trans h.tape, k.output.trans h.output, Nat.le_trans h.size k.size,
    fun b hb hn => (k.keep b (Nat.lt_of_lt_of_le hb h.size) (fun ho => hn (hs b hb ho))).trans (h.keep b hb hn)⟩
theorem Ext.drew {O : Nat → Prop} {w w' : World} (h : Ext O w w') (m : Nat) : Ext O w { w' with drawn := m } := ⟨h.os, h.tape, h.output, h.size, h.keep⟩
theorem Ext.below {w w' : World} (h : Ext (fun _ => False) w w') : Below w.heap.size w w' := ⟨h.os, h.tape, h.output, h.size, fun b hb => h.keep b hb id⟩
theorem Ext.of_below {w w' : World} (h : Below w.heap.size w w') : Ext (fun _ => False) w w' := ⟨h.os, h.tape, h.output, h.size, fun b hb _ => h.block b hb⟩
theorem Ext.of_grown {O : Nat → Prop} {w w' : World} {row : Option Nat} (h : w.grownBy w' row) (hO : ∀ k, row = some k → O k) : Ext O w w' :=
  ⟨h.os, h.tape, h.output, h.size, fun b hb hn => h.block b hb (fun e => hn (hO b e.symm))⟩
theorem Ext.alloc (O : Nat → Prop) (w : World) (o : Obj) : Ext O w (w.alloc o) := ⟨rfl, rfl, rfl, by simp, fun b hb _ => Below.heap_alloc w o b hb⟩
theorem Ext.setCell {O : Nat → Prop} (w : World) {a : Addr} (u : Value) (h : O a.block) : Ext O w (w.setCell a u) :=
  ⟨rfl, rfl, rfl, by simp [World.setCell], fun b _ hn => Below.heap_setCell w a u b (fun e => hn (e ▸ h))⟩

/-- What is owned: its blocks, and what stands there. -/
structure SP where
  h : (Nat → Prop) → World → Prop
  loc : ∀ {O : Nat → Prop} {w w' : World}, h O w → (∀ b, O b → w'.heap[b]? = w.heap[b]?) → h O w'
  lt : ∀ {O : Nat → Prop} {w : World} {b : Nat}, h O w → O b → b < w.heap.size
def Holds : List SP → (Nat → Prop) → World → Prop
  | [], O, _ => ∀ b, ¬ O b
  | r :: L, O, w => ∃ O1 O2, r.h O1 w ∧ Holds L O2 w ∧ (∀ b, O1 b → ¬ O2 b) ∧ (∀ b, O b ↔ O1 b ∨ O2 b)
theorem Holds.loc {L : List SP} : ∀ {O : Nat → Prop} {w w' : World}, Holds L O w → (∀ b, O b → w'.heap[b]? = w.heap[b]?) → Holds L O w' := by
  induction L with
  | nil => exact fun h _ => h
  | cons r L ih =>
    rintro O w w' ⟨O1, O2, h1, h2, hd, hO⟩ hk
    exact ⟨O1, O2, r.loc h1 (fun b hb => hk b ((hO b).2 (.inl hb))), ih h2 (fun b hb => hk b ((hO b).2 (.inr hb))), hd, hO⟩
theorem Holds.lt {L : List SP} : ∀ {O : Nat → Prop} {w : World} {b : Nat}, Holds L O w → O b → b < w.heap.size := by
  induction L with
  | nil => exact fun h hb => absurd hb (h _)
  | cons r L ih =>
    rintro O w b ⟨O1, O2, h1, h2, hd, hO⟩ hb
    exact ((hO b).1 hb).elim (fun h => r.lt h1 h) (fun h => ih h2 h)
/-- One of them, and the others. -/
inductive Sel : List SP → SP → List SP → Prop
  | here {r : SP} {L : List SP} : Sel (r :: L) r L
  | there {r x : SP} {L L' : List SP} : Sel L r L' → Sel (x :: L) r (x :: L')
theorem Sel.holds {L L' : List SP} {r : SP} (s : Sel L r L') : ∀ {O : Nat → Prop} {w : World}, Holds L O w → Holds (r :: L') O w := by
  induction s with
  | here => exact fun h => h
  | @there r x L L' _ ih =>
    rintro O w ⟨O1, O2, h1, h2, hd, hO⟩
    obtain ⟨O3, O4, h3, h4, hd', hO'⟩ := ih h2
    refine ⟨O3, fun b => O1 b ∨ O4 b, h3, ⟨O1, O4, h1, h4, fun b hb hb4 => hd b hb ((hO' b).2 (.inr hb4)), fun b => Iff.rfl⟩, ?_, ?_⟩
    · rintro b hb (h | h)
      · exact hd b h ((hO' b).2 (.inl hb))
      · exact hd' b hb h
    · intro b
      rw [hO b, hO' b]
      constructor
      · rintro (h | h | h)
        · exact .inr (.inl h)
        · exact .inl h
        · exact .inr (.inr h)
      · rintro (h | h | h)
        · exact .inr (.inl h)
        · exact .inl h
        · exact .inr (.inr h)
inductive Sels : List SP → List SP → List SP → Prop
  | nil {L : List SP} : Sels L [] L
  | cons {L L' F Lc : List SP} {r : SP} : Sel L r L' → Sels L' Lc F → Sels L (r :: Lc) F
theorem Sels.holds {L Lc F : List SP} (s : Sels L Lc F) : ∀ {O : Nat → Prop} {w : World}, Holds L O w →
    ∃ Oc Of, Holds Lc Oc w ∧ Holds F Of w ∧ (∀ b, Oc b → ¬ Of b) ∧ (∀ b, O b ↔ Oc b ∨ Of b) := by
  induction s with
  | nil => exact fun {O w} h => ⟨fun _ => False, O, fun _ => id, h, fun _ h => h.elim, fun b => by simp⟩
  | cons hs _ ih =>
    intro O w h
    obtain ⟨O1, O2, h1, h2, hd, hO⟩ := hs.holds h
    obtain ⟨Oc, Of, hc, hf, hd', hO'⟩ := ih h2
    refine ⟨fun b => O1 b ∨ Oc b, Of, ⟨O1, Oc, h1, hc, fun b hb hb' => hd b hb ((hO' b).2 (.inl hb')), fun _ => Iff.rfl⟩, hf, ?_, ?_⟩
    · rintro b (h | h) hf'
      · exact hd b h ((hO' b).2 (.inr hf'))
      · exact hd' b h hf'
    · intro b
      rw [hO b, hO' b]
      constructor
      · rintro (h | h | h)
        · exact .inl (.inl h)
        · exact .inl (.inr h)
        · exact .inr h
      · rintro ((h | h) | h)
        · exact .inl h
        · exact .inr (.inl h)
        · exact .inr (.inr h)
theorem Holds.append {L F : List SP} : ∀ {Oc Of : Nat → Prop} {w : World}, Holds L Oc w → Holds F Of w → (∀ b, Oc b → ¬ Of b) → Holds (L ++ F) (fun b => Oc b ∨ Of b) w := by
  induction L with
  | nil =>
    intro Oc Of w h hf _
    have : (fun b => Oc b ∨ Of b) = Of := by funext b; simp [h b]
    rw [this]; exact hf
  | cons r L ih =>
    rintro Oc Of w ⟨O1, O2, h1, h2, hd, hO⟩ hf hdd
    refine ⟨O1, fun b => O2 b ∨ Of b, h1, ih h2 hf (fun b hb => hdd b ((hO b).2 (.inr hb))), ?_, ?_⟩
    · rintro b hb (h | h)
      · exact hd b hb h
      · exact hdd b ((hO b).2 (.inl hb)) h
    · intro b
      show Oc b ∨ Of b ↔ O1 b ∨ (O2 b ∨ Of b)
      rw [hO b, or_assoc]

/-- What stays as it is: it hangs on no block that is owned. -/
structure FP where
  h : (Nat → Prop) → World → Prop
  mono : ∀ {O O' : Nat → Prop} {w w' : World}, h O w → w.heap.size ≤ w'.heap.size → (∀ b, b < w.heap.size → ¬ O b → w'.heap[b]? = w.heap[b]?) → (∀ b, b < w.heap.size → O' b → O b) → h O' w'

/-- A call's frame: the world in which it began, the blocks that it was given, the blocks that are somebody else's. -/
structure Cx where
  w0 : World
  O0 : Nat → Prop
  Z : Nat → Prop
  hZ : ∀ b, Z b → b < w0.heap.size ∧ ¬ O0 b
/-- What is known in a call. -/
structure St (c : Cx) (L : List SP) (Φ : List FP) (w : World) : Prop where
  ex : ∃ O, Holds L O w ∧ (∀ φ ∈ Φ, φ.h (fun b => O b ∨ c.Z b) w) ∧ Ext c.O0 c.w0 w ∧ (∀ b, O b → c.O0 b ∨ c.w0.heap.size ≤ b)

section
variable {c : Cx} {L L' : List SP} {Φ Φ' : List FP} {w : World}

theorem St.begin (h : Holds L c.O0 c.w0) (hΦ : ∀ φ ∈ Φ, φ.h (fun b => c.O0 b ∨ c.Z b) c.w0) : St c L Φ c.w0 := ⟨c.O0, h, hΦ, Ext.refl _ _, fun _ h => .inl h⟩
theorem Cx.apart (c : Cx) {b : Nat} (h : c.O0 b ∨ c.w0.heap.size ≤ b) : ¬ c.Z b := fun hz => by
  have := c.hZ b hz
  rcases h with h | h
  · exact this.2 h
  · omega
/-- A step that turns what a part of the owned blocks hold, and makes new ones. -/
theorem St.step {Lc Lc' F : List SP} {w' : World} (h : St c L Φ w) (s : Sels L Lc F) (hΦ' : ∀ φ ∈ Φ', φ ∈ Φ)
    (hs : ∀ Oc, Holds Lc Oc w → (∀ φ ∈ Φ, ∃ O, φ.h O w ∧ ∀ b, Oc b → O b) → ∃ Oc', Holds Lc' Oc' w' ∧ Ext Oc w w' ∧ (∀ b, Oc' b → Oc b ∨ w.heap.size ≤ b)) : St c (Lc' ++ F) Φ' w' := by
  obtain ⟨O, hL, hf, hE, hO⟩ := h.ex
  obtain ⟨Oc, Of, hc, hF, hd, hU⟩ := s.holds hL
  obtain ⟨Oc', hc', hE', hn⟩ := hs Oc hc (fun φ hφ => ⟨_, hf φ hφ, fun b hb => .inl ((hU b).2 (.inl hb))⟩)
  have hF' : Holds F Of w' := hF.loc (fun b hb => hE'.keep b (hF.lt hb) (fun hcb => hd b hcb hb))
  refine ⟨fun b => Oc' b ∨ Of b, Holds.append hc' hF' ?_, ?_, ?_, ?_⟩
  · intro b hb hfb
    rcases hn b hb with h1 | h1
    · exact hd b h1 hfb
    · exact absurd (hF.lt hfb) (by omega)
  · intro φ hφ
    refine φ.mono (hf φ (hΦ' φ hφ)) hE'.size (fun b hb hnb => hE'.keep b hb (fun h => hnb (.inl ((hU b).2 (.inl h))))) ?_
    rintro b hb ((h1 | h1) | h1)
    · rcases hn b h1 with h2 | h2
      · exact .inl ((hU b).2 (.inl h2))
      · omega
    · exact .inl ((hU b).2 (.inr h1))
    · exact .inr h1
  · exact hE.trans hE' (fun b hb h1 => (hO b ((hU b).2 (.inl h1))).elim id (fun h2 => by omega))
  · rintro b (h1 | h1)
    · rcases hn b h1 with h2 | h2
      · exact hO b ((hU b).2 (.inl h2))
      · exact .inr (Nat.le_trans hE.size h2)
    · exact hO b ((hU b).2 (.inr h1))
/-- A new fact. -/
theorem St.fact {φ : FP} (h : St c L Φ w) (hφ : ∀ O, (∀ φ ∈ Φ, φ.h O w) → φ.h O w) : St c L (φ :: Φ) w := by
  obtain ⟨O, hL, hf, hE, hO⟩ := h.ex
  refine ⟨O, hL, fun ψ hψ => ?_, hE, hO⟩
  rcases List.mem_cons.1 hψ with rfl | h1
  · exact hφ _ hf
  · exact hf ψ h1
/-- What is owned is let go of: what it holds may be told as a fact. -/
theorem St.freeze {r : SP} {φ : FP} (h : St c L Φ w) (s : Sel L r L') (hφ : ∀ O1 O, r.h O1 w → (∀ b, O1 b → ¬ O b) → (∀ φ ∈ Φ, φ.h O w) → φ.h O w) : St c L' (φ :: Φ) w := by
  obtain ⟨O, hL, hf, hE, hO⟩ := h.ex
  obtain ⟨O1, O2, h1, h2, hd, hU⟩ := s.holds hL
  have hf2 : ∀ φ ∈ Φ, φ.h (fun b => O2 b ∨ c.Z b) w := fun φ hφ => φ.mono (hf φ hφ) (Nat.le_refl _) (fun _ _ _ => rfl) (fun b _ hb => hb.imp (fun h => (hU b).2 (.inr h)) id)
  refine ⟨O2, h2, fun ψ hψ => ?_, hE, fun b hb => hO b ((hU b).2 (.inr hb))⟩
  rcases List.mem_cons.1 hψ with rfl | h3
  · refine hφ O1 _ h1 ?_ hf2
    rintro b hb (h4 | h4)
    · exact hd b hb h4
    · exact c.apart (hO b ((hU b).2 (.inl hb))) h4
  · exact hf2 ψ h3
theorem St.drop {r : SP} (h : St c L Φ w) (s : Sel L r L') : St c L' Φ w := by
  obtain ⟨O, hL, hf, hE, hO⟩ := h.ex
  obtain ⟨O1, O2, h1, h2, hd, hU⟩ := s.holds hL
  exact ⟨O2, h2, fun φ hφ => φ.mono (hf φ hφ) (Nat.le_refl _) (fun _ _ _ => rfl) (fun b _ hb => hb.imp (fun h => (hU b).2 (.inr h)) id), hE, fun b hb => hO b ((hU b).2 (.inr hb))⟩
theorem St.less (h : St c L Φ w) {Lc F : List SP} (s : Sels L Lc F) (hΦ : ∀ φ ∈ Φ', φ ∈ Φ) : St c Lc Φ' w := by
  obtain ⟨O, hL, hf, hE, hO⟩ := h.ex
  obtain ⟨O1, O2, h1, h2, hd, hU⟩ := s.holds hL
  exact ⟨O1, h1, fun φ hφ => φ.mono (hf φ (hΦ φ hφ)) (Nat.le_refl _) (fun _ _ _ => rfl) (fun b _ hb => hb.imp (fun h => (hU b).2 (.inl h)) id), hE, fun b hb => hO b ((hU b).2 (.inl hb))⟩
/-- What is owned, told otherwise. -/
theorem St.turn {Lc Lc' F : List SP} (h : St c L Φ w) (s : Sels L Lc F) (hs : ∀ O, Holds Lc O w → Holds Lc' O w) : St c (Lc' ++ F) Φ w :=
  h.step s (fun _ h => h) fun Oc hc _ => ⟨Oc, hs Oc hc, Ext.refl _ _, fun _ h => .inl h⟩
/-- One of the owned. -/
theorem St.own {r : SP} (h : St c L Φ w) (s : Sel L r L') : ∃ O1, r.h O1 w := by
  obtain ⟨O, hL, _⟩ := h.ex
  obtain ⟨O1, O2, h1, _⟩ := s.holds hL
  exact ⟨O1, h1⟩
theorem St.has {φ : FP} (h : St c L Φ w) (hφ : φ ∈ Φ) : ∃ O, φ.h O w := by
  obtain ⟨O, _, hf, _⟩ := h.ex
  exact ⟨_, hf φ hφ⟩
theorem St.drewn (h : St c L Φ w) (m : Nat) : St c L Φ { w with drawn := m } := by
  obtain ⟨O, hL, hf, hE, hO⟩ := h.ex
  exact ⟨O, hL.loc (fun _ _ => rfl), fun φ hφ => φ.mono (hf φ hφ) (Nat.le_refl _) (fun _ _ _ => rfl) (fun _ _ hb => hb), hE.drew m, hO⟩

/-! ### Blocks -/
def blk (b : Nat) (o : Obj) : SP where
  h O w := (∀ x, O x ↔ x = b) ∧ w.heap[b]? = some o
  loc := fun ⟨h1, h2⟩ hk => ⟨h1, by rw [hk b ((h1 b).2 rfl)]; exact h2⟩
  lt := fun ⟨h1, h2⟩ hb => by rw [h1] at hb; subst hb; exact (Array.getElem?_eq_some_iff.1 h2).1
/-- A block of cells. -/
abbrev cel (b : Nat) (cs : Array Value) (T : TypeId) : SP := blk b (.cells cs T (0, 0))
theorem St.blk (h : St c L Φ w) {b : Nat} {o : Obj} (s : Sel L (blk b o) L') : w.heap[b]? = some o := by
  obtain ⟨O, h1⟩ := h.own s
  exact h1.2
theorem St.cell (h : St c L Φ w) {b i : Nat} {cs : Array Value} {T : TypeId} {v : Value} (s : Sel L (cel b cs T) L') (hv : cs[i]? = some v) : w.cell? ⟨b, i, none⟩ = some v := by
  simp [World.cell?, h.blk s, hv]
theorem St.free (h : St c L Φ w) {b i : Nat} {cs : Array Value} {T : TypeId} (s : Sel L (cel b cs T) L') : w.frozen? ⟨b, i, none⟩ = false := by
  simp [World.frozen?, h.blk s]
theorem St.alloc (h : St c L Φ w) (o : Obj) : St c (X.blk w.heap.size o :: L) Φ (w.alloc o) := by
  refine h.step (Lc := []) (Lc' := [X.blk w.heap.size o]) .nil (fun _ h => h) fun Oc hc _ => ?_
  refine ⟨fun b => b = w.heap.size, ⟨fun b => b = w.heap.size, fun _ => False, ⟨fun _ => Iff.rfl, heap_alloc_new w o⟩, fun _ => id, fun _ _ => id, fun b => by simp⟩, Ext.alloc _ _ _, ?_⟩
  rintro b rfl
  exact .inr (Nat.le_refl _)
theorem heap_setCell_at (w : World) {b i : Nat} {cs : Array Value} {T : TypeId} {fz : Nat × Nat} (hb : w.heap[b]? = some (.cells cs T fz)) (u : Value) :
    (w.setCell ⟨b, i, none⟩ u).heap[b]? = some (.cells (cs.setIfInBounds i u) T fz) := by
  simp [World.setCell, Array.getElem?_modify, hb]
theorem St.set (h : St c L Φ w) {b i : Nat} {cs : Array Value} {T : TypeId} (s : Sel L (cel b cs T) L') (u : Value) :
    St c (cel b (cs.setIfInBounds i u) T :: L') Φ (w.setCell ⟨b, i, none⟩ u) := by
  refine h.step (Lc := [cel b cs T]) (Lc' := [cel b (cs.setIfInBounds i u) T]) (.cons s .nil) (fun _ h => h) fun Oc hc _ => ?_
  obtain ⟨O1, O2, ⟨h1, h2⟩, h3, hd, hU⟩ := hc
  refine ⟨Oc, ⟨O1, O2, ⟨h1, heap_setCell_at w h2 u⟩, h3, hd, hU⟩, Ext.setCell w u ((hU b).2 (.inl ((h1 b).2 rfl))), fun _ h => .inl h⟩

/-! ### Several, of which not all is told -/
def SP.ex {α : Type} (f : α → List SP) (p : α → Prop) : SP where
  h O w := ∃ x, p x ∧ Holds (f x) O w
  loc := fun ⟨x, hx, hh⟩ hk => ⟨x, hx, hh.loc hk⟩
  lt := fun ⟨_, _, hh⟩ hb => hh.lt hb
theorem St.open_ {α : Type} {f : α → List SP} {p : α → Prop} (h : St c L Φ w) (s : Sel L (SP.ex f p) L') : ∃ x, p x ∧ St c (f x ++ L') Φ w := by
  obtain ⟨O, hL, hf, hE, hO⟩ := h.ex
  obtain ⟨O1, O2, ⟨x, hx, h1⟩, h2, hd, hU⟩ := s.holds hL
  refine ⟨x, hx, fun b => O1 b ∨ O2 b, Holds.append h1 h2 hd, fun φ hφ => ?_, hE, fun b hb => hO b ((hU b).2 hb)⟩
  exact φ.mono (hf φ hφ) (Nat.le_refl _) (fun _ _ _ => rfl) (fun b _ hb => hb.imp (hU b).2 id)
theorem St.shut {α : Type} {f : α → List SP} {p : α → Prop} (x : α) {F : List SP} (h : St c L Φ w) (s : Sels L (f x) F) (hx : p x) : St c (SP.ex f p :: F) Φ w :=
  St.turn (Lc' := [SP.ex f p]) h s fun O hh => ⟨O, fun _ => False, ⟨x, hx, hh⟩, fun _ => id, fun _ _ => id, fun b => by simp⟩

/-! ### Functions: what a call asks, and what it comes to -/
/-- From a state in which the call owns L and knows Φ. -/
def Tri (P : Program) (f : FuncId) (args : List Value) (L : List SP) (Φ : List FP) (R : Ending → List SP → List FP → Prop) : Prop :=
  ∀ c : Cx, St c L Φ c.w0 → Calls P f args.toArray c.w0 fun e w' => ∃ L' Φ', R e L' Φ' ∧ St c L' Φ' w'
/-- The state behind a call: the callee's own, and what was left aside. -/
theorem St.call {P : Program} {f : FuncId} {args : List Value} {Lc F : List SP} {Φc : List FP} {R : Ending → List SP → List FP → Prop} (hT : Tri P f args Lc Φc R) (s : Sels L Lc F) (hΦ : ∀ φ ∈ Φc, φ ∈ Φ)
    (h : St c L Φ w) : Calls P f args.toArray w fun e w' => ∃ L1 Φ1, R e L1 Φ1 ∧ St c (L1 ++ F) (Φ1 ++ Φ) w' := by
  obtain ⟨O, hL, hf, hE, hO⟩ := h.ex
  obtain ⟨Oc, Of, hc, hF, hd, hU⟩ := s.holds hL
  have hZ : ∀ b, (Of b ∨ c.Z b) → b < w.heap.size ∧ ¬ Oc b := by
    rintro b (hb | hb)
    · exact ⟨hF.lt hb, fun h => hd b h hb⟩
    · exact ⟨Nat.lt_of_lt_of_le (c.hZ b hb).1 hE.size, fun h => c.apart (hO b ((hU b).2 (.inl h))) hb⟩
  let c1 : Cx := { w0 := w, O0 := Oc, Z := fun b => Of b ∨ c.Z b, hZ := hZ }
  have h1 : St c1 Lc Φc w := St.begin (c := c1) hc (fun φ hφ => φ.mono (hf φ (hΦ φ hφ)) (Nat.le_refl _) (fun _ _ _ => rfl) (by
    rintro b _ (hb | hb | hb)
    · exact .inl ((hU b).2 (.inl hb))
    · exact .inl ((hU b).2 (.inr hb))
    · exact .inr hb))
  refine (hT c1 h1).mono ?_
  rintro e w' ⟨L1, Φ1, hR, hS⟩
  refine ⟨L1, Φ1, hR, ?_⟩
  obtain ⟨O1, h1, hf1, hE1, hn⟩ := hS.ex
  have hF' : Holds F Of w' := hF.loc (fun b hb => hE1.keep b (hF.lt hb) (fun hcb => hd b hcb hb))
  refine ⟨fun b => O1 b ∨ Of b, Holds.append h1 hF' ?_, ?_, ?_, ?_⟩
  · intro b hb hfb
    rcases hn b hb with h2 | h2
    · exact hd b h2 hfb
    · have h3 := hF.lt hfb
      have : w.heap.size ≤ b := h2
      omega
  · intro φ hφ
    rcases List.mem_append.1 hφ with h2 | h2
    · refine φ.mono (hf1 φ h2) (Nat.le_refl _) (fun _ _ _ => rfl) ?_
      rintro b _ ((h3 | h3) | h3)
      · exact .inl h3
      · exact .inr (.inl h3)
      · exact .inr (.inr h3)
    · refine φ.mono (hf φ h2) hE1.size (fun b hb hnb => hE1.keep b hb (fun h => hnb (.inl ((hU b).2 (.inl h))))) ?_
      rintro b hb ((h3 | h3) | h3)
      · rcases hn b h3 with h4 | h4
        · exact .inl ((hU b).2 (.inl h4))
        · have : w.heap.size ≤ b := h4
          omega
      · exact .inl ((hU b).2 (.inr h3))
      · exact .inr h3
  · exact hE.trans hE1 (fun b hb h2 => (hO b ((hU b).2 (.inl h2))).elim id (fun h3 => by omega))
  · rintro b (h2 | h2)
    · rcases hn b h2 with h3 | h3
      · exact hO b ((hU b).2 (.inl h3))
      · exact .inr (Nat.le_trans hE.size h3)
    · exact hO b ((hU b).2 (.inr h2))
theorem Tri.mono {P : Program} {f : FuncId} {args : List Value} {R R' : Ending → List SP → List FP → Prop} (h : Tri P f args L Φ R) (hr : ∀ e L Φ, R e L Φ → R' e L Φ) : Tri P f args L Φ R' := fun c hc =>
  (h c hc).mono fun _ _ ⟨L', Φ', h1, h2⟩ => ⟨L', Φ', hr _ _ _ h1, h2⟩
end
end Go.Proofs.Ytjnineeeffecaaa.X
