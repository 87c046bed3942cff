/- Programs, as they lie; what is asked of them; the constraints that the document says. -/
import Derived.Test.YtafochlcnjeanaaGreatX12
import Derived.Test.YtafochlcnjeanaaGreatProg
namespace Go.Proofs.YtafochlcnjeanaaGreat
open Go X
def ints (l : List Int) : List Value := l.map (Value.int .i64)
structure InsnM where
  op : Int
  a : Int
  b : Int
  c : Int
  w : Int
  n : Int
  sign : ByteArray
  args : Value
  argL : List Int
@[reducible] def InsnM.cells (I : InsnM) : List Value := [.int .i64 I.op, .int .i64 I.a, .int .i64 I.b, .int .i64 I.c, .int .i64 I.w, .int .i64 I.n, .string I.sign, I.args]
@[reducible] def InsnM.v (I : InsnM) : Value := .agg #[.int .i64 I.op, .int .i64 I.a, .int .i64 I.b, .int .i64 I.c, .int .i64 I.w, .int .i64 I.n, .string I.sign, I.args]
structure FnM where
  name : ByteArray
  regs : Int
  params : Int
  locs : Value
  locL : List Int
  code : Value
  codeL : List InsnM
@[reducible] def FnM.cells (F : FnM) : List Value := [.string F.name, .int .i64 F.regs, .int .i64 F.params, F.locs, F.code]
@[reducible] def FnM.v (F : FnM) : Value := .agg #[.string F.name, .int .i64 F.regs, .int .i64 F.params, F.locs, F.code]
structure SiteM where
  kind : Int
  size : Int
  fn : Int
  x3 : Value
  x4 : Value
  x5 : Value
  x6 : Value
  x7 : Value
@[reducible] def SiteM.cells (S : SiteM) : List Value := [.int .i64 S.kind, .int .i64 S.size, .int .i64 S.fn, S.x3, S.x4, S.x5, S.x6, S.x7]
structure ProgM where
  sites : Value
  siteL : List SiteM
  fns : Value
  fnL : List FnM
  main : Int
@[reducible] def ProgM.v (p : ProgM) : Value := .agg #[p.sites, p.fns, .int .i64 p.main]
def codeC (F : FnM) : List Value := (F.codeL.map InsnM.cells).flatten
def fnC (p : ProgM) : List Value := (p.fnL.map FnM.cells).flatten
def siteC (p : ProgM) : List Value := (p.siteL.map SiteM.cells).flatten
def FnM.fps (F : FnM) : List FP := Row.fp 1 F.locs F.locL.length (ints F.locL) :: Row.fp 8 F.code F.codeL.length (codeC F) :: F.codeL.map fun I => Row.fp 1 I.args I.argL.length (ints I.argL)
def ProgM.fps (p : ProgM) : List FP := Row.fp 8 p.sites p.siteL.length (siteC p) :: Row.fp 5 p.fns p.fnL.length (fnC p) :: p.fnL.flatMap FnM.fps
def progFP (p : ProgM) : FP := FP.all p.fps
/-- What is true of every argument. -/
structure ProgM.WF (p : ProgM) : Prop where
  sites : p.siteL.length ≤ maxLen
  fns : p.fnL.length ≤ maxLen
  locs : ∀ F ∈ p.fnL, F.locL.length ≤ maxLen
  code : ∀ F ∈ p.fnL, F.codeL.length ≤ maxLen
  args : ∀ F ∈ p.fnL, ∀ I ∈ F.codeL, I.argL.length * 8 ≤ 140737488351232
  one : onesL [p.sites, p.fns, .int .i64 p.main] = true
  oneF : ∀ F ∈ p.fnL, onesL F.cells = true
  oneI : ∀ F ∈ p.fnL, ∀ I ∈ F.codeL, onesL I.cells = true
/-- What is asked of an instruction, of what its check asks. -/
def okI (p : ProgM) (I : InsnM) : Prop := (I.op = 15 → (0 ≤ I.n ∧ I.n < p.fnL.length) ∧ ∀ G, p.fnL[I.n.toNat]? = some G → (I.argL.length : Int) = G.params) ∧ (I.op = 7 → I.w = 1 ∨ I.w = 4 ∨ I.w = 8) ∧ (I.op = 16 → I.argL.length ≤ 6)
structure ProgM.OK (p : ProgM) : Prop where
  few : p.fnL.length ≤ 200
  regs : ∀ F ∈ p.fnL, 0 ≤ F.regs ∧ F.regs ≤ 4000
  params : ∀ F ∈ p.fnL, F.params ≤ F.regs
  code : ∀ F ∈ p.fnL, F.codeL.length ≤ 4000
  insn : ∀ F ∈ p.fnL, ∀ I ∈ F.codeL, okI p I
theorem ProgM.OK.args {p : ProgM} (h : p.OK) {I : InsnM} (hI : okI p I) (ho : I.op = 15 ∨ I.op = 16) : I.argL.length ≤ 4000 := by
  rcases ho with ho | ho
  · obtain ⟨⟨h0, h1⟩, h2⟩ := hI.1 ho
    have h3 : I.n.toNat < p.fnL.length := by omega
    have h4 := h2 _ (List.getElem?_eq_getElem h3)
    have h5 := h.params _ (List.getElem_mem h3)
    have h6 := h.regs _ (List.getElem_mem h3)
    omega
  · have := hI.2.2 ho
    omega
theorem ints_len (l : List Int) : (ints l).length = l.length := by simp [ints]
theorem ints_get {l : List Int} {i : Nat} {x : Int} (h : l[i]? = some x) : (ints l)[i]? = some (.int .i64 x) := by simp [ints, h]
theorem ints_app (l : List Int) (x : Int) : ints l ++ [.int .i64 x] = ints (l ++ [x]) := by simp [ints]
theorem fn_at {p : ProgM} {i : Nat} {F : FnM} (h : p.fnL[i]? = some F) : At (fnC p) (i * 5) F.cells := flat_at FnM.cells 5 p.fnL (fun _ _ => rfl) i F h
theorem code_at {F : FnM} {i : Nat} {I : InsnM} (h : F.codeL[i]? = some I) : At (codeC F) (i * 8) I.cells := flat_at InsnM.cells 8 F.codeL (fun _ _ => rfl) i I h
theorem site_at {p : ProgM} {i : Nat} {S : SiteM} (h : p.siteL[i]? = some S) : At (siteC p) (i * 8) S.cells := flat_at SiteM.cells 8 p.siteL (fun _ _ => rfl) i S h
theorem get_of_lt {α : Type} {l : List α} {i : Nat} (h : i < l.length) : ∃ a, l[i]? = some a ∧ a ∈ l := ⟨l[i], List.getElem?_eq_getElem h, List.getElem_mem h⟩
namespace X
section
variable {c : Cx} {L : List SP} {Φ : List FP} {w : World} {p : ProgM}
theorem St.sitesRow (s : progFP p ∈ Φ) (h : St c L Φ w) : Row 8 p.sites p.siteL.length (siteC p) w := h.rowAll s (List.Mem.head _)
theorem St.fnsRow (s : progFP p ∈ Φ) (h : St c L Φ w) : Row 5 p.fns p.fnL.length (fnC p) w := h.rowAll s (.tail _ (List.Mem.head _))
theorem fps_mem {F : FnM} (hF : F ∈ p.fnL) {φ : FP} (h : φ ∈ F.fps) : φ ∈ p.fps := .tail _ (.tail _ (List.mem_flatMap.2 ⟨F, hF, h⟩))
theorem St.locRow {F : FnM} (hF : F ∈ p.fnL) (s : progFP p ∈ Φ) (h : St c L Φ w) : Row 1 F.locs F.locL.length (ints F.locL) w := h.rowAll s (fps_mem hF (List.Mem.head _))
theorem St.codeRow {F : FnM} (hF : F ∈ p.fnL) (s : progFP p ∈ Φ) (h : St c L Φ w) : Row 8 F.code F.codeL.length (codeC F) w := h.rowAll s (fps_mem hF (.tail _ (List.Mem.head _)))
theorem St.argRow {F : FnM} {I : InsnM} (hF : F ∈ p.fnL) (hI : I ∈ F.codeL) (s : progFP p ∈ Φ) (h : St c L Φ w) : Row 1 I.args I.argL.length (ints I.argL) w :=
  h.rowAll s (fps_mem hF (.tail _ (.tail _ (List.mem_map.2 ⟨I, hI, rfl⟩))))
end
end X
/-! ### The document's answer -/
abbrev w64 (x : Int) : Int := IntKind.i64.wrap x
/-- The first variable of a function. -/
def first (p : ProgM) (k : Nat) : Int := ((p.fnL.take k).map (fun F => F.regs + 1)).sum
theorem first_zero (p : ProgM) : first p 0 = 0 := by simp [first]
theorem first_succ {p : ProgM} {k : Nat} {F : FnM} (h : p.fnL[k]? = some F) : first p (k + 1) = first p k + (F.regs + 1) := by
  obtain ⟨h1, h2⟩ := List.getElem?_eq_some_iff.1 h
  unfold first
  rw [List.take_add_one, h]
  simp [List.sum_append]
theorem sum_le {l : List FnM} (h : ∀ F ∈ l, 0 ≤ F.regs ∧ F.regs ≤ 4000) : (0 : Int) ≤ (l.map (fun F => F.regs + 1)).sum ∧ (l.map (fun F => F.regs + 1)).sum ≤ 4001 * (l.length : Int) := by
  induction l with
  | nil => simp
  | cons F l ih =>
    have h1 := h F List.mem_cons_self
    have h2 := ih fun G hG => h G (List.mem_cons_of_mem _ hG)
    simp only [List.map_cons, List.sum_cons, List.length_cons]
    omega
theorem ProgM.OK.first {p : ProgM} (h : p.OK) (k : Nat) : 0 ≤ first p k ∧ first p k ≤ 800200 := by
  have h1 := sum_le (l := p.fnL.take k) fun F hF => h.regs F (List.mem_of_mem_take hF)
  have h2 : (p.fnL.take k).length ≤ 200 := Nat.le_trans (by simp; omega) h.few
  unfold Go.Proofs.YtafochlcnjeanaaGreat.first
  omega
/-- A constraint. -/
structure ConP where
  kind : Int
  a : Int
  b : Int := 0
  n : Int := 0
  site : Int := 0
  off : Int := 0
  args : List Int := []
  fn : Int := 0
  pc : Int := 0
  deriving DecidableEq
abbrev two (k a b n : Int) : ConP := { kind := k, a := a, b := b, n := n }
abbrev told (p : ProgM) (k : Int) : Int := first p (k.toNat + 1) - 1
def plus : ByteArray := ⟨#[43]⟩
def minus : ByteArray := ⟨#[45]⟩
def insnS (p : ProgM) (fn : Nat) (I : InsnM) : List ConP :=
  let at_ := first p fn
  let a := w64 (at_ + I.a)
  let b := w64 (at_ + I.b)
  let c := w64 (at_ + I.c)
  if I.op = 2 then [{ kind := 1, a := a, site := I.b }]
  else if I.op = 13 then [{ kind := 1, a := a, site := I.n }]
  else if I.op = 3 then (if -4096 ≤ I.n ∧ I.n ≤ 4096 then [two 3 a b I.n] else [])
  else if I.op = 4 then (if 0 ≤ I.n ∧ I.n ≤ 4096 then [two 4 a b I.n] else [])
  else if I.op = 5 then (if I.sign = plus then [two 4 a b 1, two 4 a c 1] else if I.sign = minus then [two 4 a b 1] else [])
  else if I.op = 7 then (if I.w = 1 ∨ I.w = 8 then [two 2 a b 0] else [])
  else if I.op = 8 then (if I.w = 1 ∨ I.w = 8 then [two 5 a b I.w] else [])
  else if I.op = 9 then (if I.w = 1 ∨ I.w = 8 then [two 6 a b I.w] else [])
  else if I.op = 10 then [two 7 a b I.n]
  else if I.op = 11 then [two 7 a b (-1)]
  else if I.op = 15 then I.argL.mapIdx (fun k x => two 2 (w64 (first p I.n.toNat + k)) (w64 (at_ + x)) 0) ++ [two 2 a (told p I.n) 0]
  else if I.op = 16 then [{ kind := 8, a := a, b := b, args := I.argL.map fun x => w64 (at_ + x) }]
  else if I.op = 19 then (if 0 ≤ I.a then [two 2 (told p fn) a 0] else [])
  else []
/-- A constraint, as it lies. -/
structure ConM where
  p : ConP
  args : Value
@[reducible] def ConM.cells (C : ConM) : List Value := [.int .i64 C.p.kind, .int .i64 C.p.a, .int .i64 C.p.b, .int .i64 C.p.n, .int .i64 C.p.site, .int .i64 C.p.off, C.args, .int .i64 C.p.fn, .int .i64 C.p.pc]
@[reducible] def ConM.v (C : ConM) : Value := .agg #[.int .i64 C.p.kind, .int .i64 C.p.a, .int .i64 C.p.b, .int .i64 C.p.n, .int .i64 C.p.site, .int .i64 C.p.off, C.args, .int .i64 C.p.fn, .int .i64 C.p.pc]
def ConM.fp (C : ConM) : FP := Row.fp 1 C.args C.p.args.length (ints C.p.args)
def conC (l : List ConM) : List Value := (l.map ConM.cells).flatten
/-- The arguments of some constraints. -/
def argsFP (l : List ConM) : FP := FP.all (l.map ConM.fp)
def consFP (v : Value) (l : List ConM) : FP := FP.all (Row.fp 9 v l.length (conC l) :: l.map ConM.fp)
theorem con_at {l : List ConM} {i : Nat} {C : ConM} (h : l[i]? = some C) : At (conC l) (i * 9) C.cells := flat_at ConM.cells 9 l (fun _ _ => rfl) i C h
theorem conC_len (l : List ConM) : (conC l).length = l.length * 9 := flat_len ConM.cells 9 l (fun _ _ => rfl)
theorem conC_app (l : List ConM) (C : ConM) : conC l ++ C.cells = conC (l ++ [C]) := by simp [conC]
namespace X
section
variable {c : Cx} {L L' : List SP} {Φ : List FP} {w : World} {v : Value} {l : List ConM}
theorem St.consRow (s : consFP v l ∈ Φ) (h : St c L Φ w) : Row 9 v l.length (conC l) w := h.rowAll s (List.Mem.head _)
theorem St.conArgs {C : ConM} (hC : C ∈ l) (s : consFP v l ∈ Φ) (h : St c L Φ w) : Row 1 C.args C.p.args.length (ints C.p.args) w := h.rowAll s (.tail _ (List.mem_map.2 ⟨C, hC, rfl⟩))
theorem St.argsNil (h : St c L Φ w) : St c L (argsFP [] :: Φ) w := h.many fun _ _ _ hφ => nomatch hφ
theorem St.argsOne {C : ConM} (s : argsFP l ∈ Φ) (h : St c L Φ w) (k : ∀ O, (∀ φ ∈ Φ, φ.h O w) → C.fp.h O w) : St c L (argsFP (l ++ [C]) :: Φ) w := h.many fun O hΦ φ hφ => by
  rw [List.map_append, List.mem_append] at hφ
  rcases hφ with hφ | hφ
  · exact hΦ _ s φ hφ
  · rw [List.map_singleton, List.mem_singleton] at hφ
    subst hφ
    exact k O hΦ
/-- A list of constraints, finished. -/
theorem St.consDone {e : TypeId} (s : Sel L (rowO e 9 v l.length (conC l)) L') (sa : argsFP l ∈ Φ) (h : St c L Φ w) : St c L' (consFP v l :: Φ) w := by
  have h1 := h.rowFreeze s
  have h2 := h1.many (l := Row.fp 9 v l.length (conC l) :: l.map ConM.fp) fun O hΦ φ hφ => by
    rcases List.mem_cons.1 hφ with rfl | hφ
    · exact hΦ _ (List.Mem.head _)
    · exact hΦ _ (.tail _ sa) φ hφ
  exact h2.less (F := []) (by
    have hs : ∀ L : List SP, Sels L L [] := fun L => by
      induction L with
      | nil => exact .nil
      | cons r L ih => exact .cons .here ih
    exact hs L') (fun φ hφ => by
    rcases List.mem_cons.1 hφ with rfl | hφ
    · exact List.Mem.head _
    · exact .tail _ (.tail _ hφ))
end
end X
end Go.Proofs.YtafochlcnjeanaaGreat
