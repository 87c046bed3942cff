/- What the parser handles, as it lies: tokens, types, trees. -/
import Derived.Test.YtjnineeeffecaaaP0
import Derived.Test.YtjnineeeffecaaaX17
import Derived.Test.YtjnineeeffecaaaProg
namespace Go.Proofs.Ytjnineeeffecaaa
open Go X

/-! ### Tokens, the parser -/
@[reducible] def strs (l : List ByteArray) : List Value := l.map Value.string
@[reducible] def Tok.cells (t : Tok) : List Value := [.int .i64 t.kind, .int .i64 t.pos, .string t.text, .int .i64 t.n]
@[reducible] def Tok.v (t : Tok) : Value := .agg #[.int .i64 t.kind, .int .i64 t.pos, .string t.text, .int .i64 t.n]
def tokC (l : List Tok) : List Value := (l.map Tok.cells).flatten
theorem tok_at {l : List Tok} {i : Nat} {t : Tok} (h : l[i]? = some t) : At (tokC l) (i * 4) t.cells := flat_at Tok.cells 4 l (fun _ _ => rfl) i t h
/-- The tokens, as they lie. -/
abbrev tkF (S : Src) (lv : Value) : FP := Row.fp 4 lv S.T.length (tokC S.T)
/-- The parser, as it lies: which token is due, how many rules stand around. -/
abbrev pB (S : Src) (lv : Value) (pb i d : Nat) : SP := cel pb #[lv, .int .i64 S.e, .int .i64 (i : Int), .int .i64 (d : Int)] 54
/-- What a rule panics with. -/
@[reducible] def stopV (t k : Int) : Value := .iface 50 (.agg #[.int .i64 t, .int .i64 k])
theorem get_of_lt {α : Type} {l : List α} {i : Nat} (h : i < l.length) : ∃ a, l[i]? = some a ∧ a ∈ l := ⟨l[i], List.getElem?_eq_getElem h, List.getElem_mem h⟩
theorem due_in {S : Src} {i : Nat} {t : Tok} (h : S.T[i]? = some t) : due S i = t := by simp [due, h]
theorem due_out {S : Src} {i : Nat} (h : ¬ i < S.T.length) : due S i = ⟨0, S.e, tx [], 0⟩ := by
  have : S.T[i]? = none := by simpa using h
  simp [due, this]
theorem kind_lt {S : Src} {i : Nat} (h : (due S i).kind ≠ 0) : i < S.T.length := by
  by_cases hlt : i < S.T.length
  · exact hlt
  · rw [due_out hlt] at h; exact absurd rfl h
theorem isB_lt {S : Src} {ts : List ByteArray} {i : Nat} (h : isB S ts i = true) : i < S.T.length := by
  refine kind_lt fun h0 => ?_
  unfold isB at h
  rw [h0] at h
  simp at h

/-! ### Types, as they lie -/
inductive TyM where
  | mk (kind n : Int) (name : ByteArray) (ad : Option Addr) (len cap : Nat) (of : List TyM)
def TyM.kind : TyM → Int | .mk k _ _ _ _ _ _ => k
def TyM.n : TyM → Int | .mk _ n _ _ _ _ _ => n
def TyM.name : TyM → ByteArray | .mk _ _ s _ _ _ _ => s
def TyM.ad : TyM → Option Addr | .mk _ _ _ a _ _ _ => a
def TyM.len : TyM → Nat | .mk _ _ _ _ k _ _ => k
def TyM.cap : TyM → Nat | .mk _ _ _ _ _ k _ => k
def TyM.of : TyM → List TyM | .mk _ _ _ _ _ _ l => l
@[reducible] def TyM.ofv (x : TyM) : Value := .slice x.ad x.len x.cap
@[reducible] def TyM.cells (x : TyM) : List Value := [.int .i64 x.kind, .int .i64 x.n, .string x.name, x.ofv]
@[reducible] def TyM.v (x : TyM) : Value := .agg #[.int .i64 x.kind, .int .i64 x.n, .string x.name, x.ofv]
def tyC (l : List TyM) : List Value := (l.map TyM.cells).flatten
mutual
def TyM.ty : TyM → Ty
  | .mk k n s _ _ _ l => .mk k n s (TyM.tys l)
def TyM.tys : List TyM → List Ty
  | [] => []
  | x :: l => x.ty :: TyM.tys l
end
mutual
def TyM.fps : TyM → List FP
  | .mk _ _ _ a m k l => Row.fp 4 (.slice a m k) l.length (tyC l) :: TyM.fpsL l
def TyM.fpsL : List TyM → List FP
  | [] => []
  | x :: l => x.fps ++ TyM.fpsL l
end
def tyFP (m : TyM) : FP := FP.all m.fps
def tysFP (l : List TyM) : FP := FP.all (TyM.fpsL l)
theorem TyM.tys_eq : ∀ l : List TyM, TyM.tys l = l.map TyM.ty
  | [] => rfl
  | x :: l => by simp [TyM.tys, TyM.tys_eq l]
theorem TyM.fpsL_eq : ∀ l : List TyM, TyM.fpsL l = l.flatMap TyM.fps
  | [] => rfl
  | x :: l => by simp [TyM.fpsL, TyM.fpsL_eq l]
theorem tyC_app (l : List TyM) (x : TyM) : tyC l ++ x.cells = tyC (l ++ [x]) := by simp [tyC]
theorem tyC_len (l : List TyM) : (tyC l).length = l.length * 4 := by
  induction l with
  | nil => rfl
  | cons x l ih =>
    have e : tyC (x :: l) = x.cells ++ tyC l := rfl
    have h : x.cells.length = 4 := rfl
    rw [e, List.length_append, ih, h, show (x :: l).length = l.length + 1 from rfl]
    omega
theorem tys_app (l : List TyM) (x : TyM) : TyM.tys (l ++ [x]) = TyM.tys l ++ [x.ty] := by simp [TyM.tys_eq]
theorem tys_len (l : List TyM) : (TyM.tys l).length = l.length := by simp [TyM.tys_eq]

/-! ### Trees, as they lie -/
inductive NdM where
  | mk (kind : Int) (text : ByteArray) (n : Int) (t : TyM) (ad : Option Addr) (len cap : Nat) (kids : List NdM)
def NdM.kind : NdM → Int | .mk k _ _ _ _ _ _ _ => k
def NdM.text : NdM → ByteArray | .mk _ s _ _ _ _ _ _ => s
def NdM.n : NdM → Int | .mk _ _ n _ _ _ _ _ => n
def NdM.t : NdM → TyM | .mk _ _ _ t _ _ _ _ => t
def NdM.ad : NdM → Option Addr | .mk _ _ _ _ a _ _ _ => a
def NdM.len : NdM → Nat | .mk _ _ _ _ _ k _ _ => k
def NdM.cap : NdM → Nat | .mk _ _ _ _ _ _ k _ => k
def NdM.kids : NdM → List NdM | .mk _ _ _ _ _ _ _ l => l
@[reducible] def NdM.kv (x : NdM) : Value := .slice x.ad x.len x.cap
@[reducible] def NdM.cells (x : NdM) : List Value := [.int .i64 x.kind, .string x.text, .int .i64 x.n, .int .i64 x.t.kind, .int .i64 x.t.n, .string x.t.name, x.t.ofv, x.kv]
@[reducible] def NdM.v (x : NdM) : Value := .agg #[.int .i64 x.kind, .string x.text, .int .i64 x.n, .int .i64 x.t.kind, .int .i64 x.t.n, .string x.t.name, x.t.ofv, x.kv]
def ndC (l : List NdM) : List Value := (l.map NdM.cells).flatten
mutual
def NdM.nd : NdM → Nd
  | .mk k s n t _ _ _ l => .mk k s n t.ty (NdM.nds l)
def NdM.nds : List NdM → List Nd
  | [] => []
  | x :: l => x.nd :: NdM.nds l
end
mutual
def NdM.fps : NdM → List FP
  | .mk _ _ _ t a m k l => Row.fp 8 (.slice a m k) l.length (ndC l) :: (t.fps ++ NdM.fpsL l)
def NdM.fpsL : List NdM → List FP
  | [] => []
  | x :: l => x.fps ++ NdM.fpsL l
end
def ndFP (m : NdM) : FP := FP.all m.fps
def ndsFP (l : List NdM) : FP := FP.all (NdM.fpsL l)
theorem NdM.nds_eq : ∀ l : List NdM, NdM.nds l = l.map NdM.nd
  | [] => rfl
  | x :: l => by simp [NdM.nds, NdM.nds_eq l]
theorem NdM.fpsL_eq : ∀ l : List NdM, NdM.fpsL l = l.flatMap NdM.fps
  | [] => rfl
  | x :: l => by simp [NdM.fpsL, NdM.fpsL_eq l]
theorem ndC_app (l : List NdM) (x : NdM) : ndC l ++ x.cells = ndC (l ++ [x]) := by simp [ndC]
theorem ndC_one (x : NdM) : ndC [x] = x.cells := by simp [ndC]
theorem nd_cells_len (x : NdM) : x.cells.length = 8 := rfl
theorem ndC_len (l : List NdM) : (ndC l).length = l.length * 8 := by
  induction l with
  | nil => rfl
  | cons x l ih =>
    have e : ndC (x :: l) = x.cells ++ ndC l := rfl
    rw [e, List.length_append, ih, nd_cells_len x, show (x :: l).length = l.length + 1 from rfl]
    omega
theorem nds_app (l : List NdM) (x : NdM) : NdM.nds (l ++ [x]) = NdM.nds l ++ [x.nd] := by simp [NdM.nds_eq]
theorem nds_len (l : List NdM) : (NdM.nds l).length = l.length := by simp [NdM.nds_eq]
theorem nd_at {l : List NdM} {i : Nat} {x : NdM} (h : l[i]? = some x) : At (ndC l) (i * 8) x.cells := flat_at NdM.cells 8 l (fun _ _ => nd_cells_len _) i x h
theorem ty_at {l : List TyM} {i : Nat} {x : TyM} (h : l[i]? = some x) : At (tyC l) (i * 4) x.cells := flat_at TyM.cells 4 l (fun _ _ => rfl) i x h
@[reducible] def TyM.nil : TyM := .mk 0 0 (tx []) none 0 0 []
theorem TyM.nil_ty : TyM.nil.ty = Ty.nil := rfl
namespace X
section
variable {c : Cx} {L L' : List SP} {Φ : List FP} {w : World}
theorem St.forget {Φ' : List FP} (h : St c L Φ w) (hΦ : ∀ φ ∈ Φ', φ ∈ Φ) : St c L Φ' w := by
  obtain ⟨O, hL, hf, hE, hO⟩ := h.ex
  exact ⟨O, hL, fun φ hφ => hf φ (hΦ φ hφ), hE, hO⟩
theorem St.tyMk {k n : Int} {s : ByteArray} {a : Option Addr} {m cp : Nat} {l : List TyM} (h1 : Row.fp 4 (.slice a m cp) l.length (tyC l) ∈ Φ) (h2 : tysFP l ∈ Φ) (h : St c L Φ w) : St c L (tyFP (.mk k n s a m cp l) :: Φ) w := h.many fun O hΦ φ hφ => by
  rw [TyM.fps] at hφ
  rcases List.mem_cons.1 hφ with rfl | hφ
  · exact hΦ _ h1
  · exact hΦ _ h2 φ hφ
theorem St.tysNil (h : St c L Φ w) : St c L (tysFP [] :: Φ) w := h.many fun O _ φ hφ => by cases hφ
theorem St.tysApp {l : List TyM} {x : TyM} (h1 : tysFP l ∈ Φ) (h2 : tyFP x ∈ Φ) (h : St c L Φ w) : St c L (tysFP (l ++ [x]) :: Φ) w := h.many fun O hΦ φ hφ => by
  rw [TyM.fpsL_eq, List.flatMap_append, List.flatMap_singleton, ← TyM.fpsL_eq] at hφ
  rcases List.mem_append.1 hφ with hφ | hφ
  · exact hΦ _ h1 φ hφ
  · exact hΦ _ h2 φ hφ
theorem St.tysOne {x : TyM} (h2 : tyFP x ∈ Φ) (h : St c L Φ w) : St c L (tysFP [x] :: Φ) w := h.many fun O hΦ φ hφ => by
  rw [TyM.fpsL_eq, List.flatMap_singleton] at hφ
  exact hΦ _ h2 φ hφ
/-- A type without parts. -/
theorem St.tyLeaf (k n : Int) (s : ByteArray) (h : St c L Φ w) : St c L (tyFP (.mk k n s none 0 0 []) :: Φ) w := h.many fun O _ φ hφ => by
  rw [TyM.fps, TyM.fpsL] at hφ
  rw [List.mem_singleton.1 hφ]
  exact ⟨row_nil 4 w, fun _ _ _ _ hv _ => by cases hv⟩
/-- A type of one part, that lies in a block of its own. -/
theorem St.tyOne {b : Nat} {x : TyM} (k n : Int) (s : ByteArray) (h2 : tyFP x ∈ Φ) (sl : Sel L (cel b x.cells.toArray 24) L') (h : St c L Φ w) : St c L' (tyFP (.mk k n s (some ⟨b, 0, none⟩) 1 1 [x]) :: Φ) w := by
  have h3 := h.celFreeze (m := 1) (cap := 1) (size := 4) sl rfl (Nat.le_refl _)
  have e : x.cells = tyC [x] := by simp [tyC]
  rw [e] at h3
  have h4 := h3.tysOne (x := x) (.tail _ h2)
  exact (h4.tyMk (k := k) (n := n) (s := s) (.tail _ (.head _)) (.head _)).forget (fun φ hφ => by
    rcases List.mem_cons.1 hφ with rfl | h
    · exact .head _
    · exact .tail _ (.tail _ (.tail _ h)))
/-! Trees -/
theorem St.ndMk {k n : Int} {s : ByteArray} {t : TyM} {a : Option Addr} {m cp : Nat} {l : List NdM} (h1 : Row.fp 8 (.slice a m cp) l.length (ndC l) ∈ Φ) (h0 : tyFP t ∈ Φ) (h2 : ndsFP l ∈ Φ) (h : St c L Φ w) : St c L (ndFP (.mk k s n t a m cp l) :: Φ) w := h.many fun O hΦ φ hφ => by
  rw [NdM.fps] at hφ
  rcases List.mem_cons.1 hφ with rfl | hφ
  · exact hΦ _ h1
  · rcases List.mem_append.1 hφ with hφ | hφ
    · exact hΦ _ h0 φ hφ
    · exact hΦ _ h2 φ hφ
theorem St.ndsNil (h : St c L Φ w) : St c L (ndsFP [] :: Φ) w := h.many fun O _ φ hφ => by cases hφ
theorem St.ndsApp {l : List NdM} {x : NdM} (h1 : ndsFP l ∈ Φ) (h2 : ndFP x ∈ Φ) (h : St c L Φ w) : St c L (ndsFP (l ++ [x]) :: Φ) w := h.many fun O hΦ φ hφ => by
  rw [NdM.fpsL_eq, List.flatMap_append, List.flatMap_singleton, ← NdM.fpsL_eq] at hφ
  rcases List.mem_append.1 hφ with hφ | hφ
  · exact hΦ _ h1 φ hφ
  · exact hΦ _ h2 φ hφ
theorem St.ndLeaf (k n : Int) (s : ByteArray) (t : TyM) (h0 : tyFP t ∈ Φ) (h : St c L Φ w) : St c L (ndFP (.mk k s n t none 0 0 []) :: Φ) w := h.many fun O hΦ φ hφ => by
  rw [NdM.fps, NdM.fpsL, List.append_nil] at hφ
  rcases List.mem_cons.1 hφ with rfl | hφ
  · exact ⟨row_nil 8 w, fun _ _ _ _ hv _ => by cases hv⟩
  · exact hΦ _ h0 φ hφ
theorem St.nilTy (h : St c L Φ w) : St c L (tyFP TyM.nil :: Φ) w := h.tyLeaf 0 0 (tx [])
/-- Kids that lie in a block of their own. -/
theorem St.ndRow {b T m : Nat} {l : List NdM} (hm : l.length = m) (sl : Sel L (cel b (ndC l).toArray T) L') (h : St c L Φ w) : St c L' (Row.fp 8 (.slice (some ⟨b, 0, none⟩) m m) m (ndC l) :: Φ) w :=
  h.celFreeze sl (by rw [ndC_len, hm]) (Nat.le_refl _)
theorem St.ndOne {b T : Nat} {x : NdM} (k n : Int) (s : ByteArray) (t : TyM) (h0 : tyFP t ∈ Φ) (h2 : ndFP x ∈ Φ) (sl : Sel L (cel b x.cells.toArray T) L') (h : St c L Φ w) : St c L' (ndFP (.mk k s n t (some ⟨b, 0, none⟩) 1 1 [x]) :: Φ) w := by
  have h3 := h.ndRow (l := [x]) (m := 1) rfl (by rw [ndC_one]; exact sl)
  have h4 := (h3.ndsNil).ndsApp (l := []) (x := x) (.head _) (.tail _ (.tail _ h2))
  exact (h4.ndMk (k := k) (n := n) (s := s) (t := t) (l := [x]) (a := some ⟨b, 0, none⟩) (m := 1) (cp := 1) (.tail _ (.tail _ (.head _))) (.tail _ (.tail _ (.tail _ h0))) (.head _)).forget (fun φ hφ => by
    rcases List.mem_cons.1 hφ with rfl | h
    · exact .head _
    · exact .tail _ (.tail _ (.tail _ (.tail _ h))))
theorem St.ndTwo {b T : Nat} {x y : NdM} (k n : Int) (s : ByteArray) (t : TyM) (h0 : tyFP t ∈ Φ) (h2 : ndFP x ∈ Φ) (hy : ndFP y ∈ Φ) (sl : Sel L (cel b (x.cells ++ y.cells).toArray T) L') (h : St c L Φ w) : St c L' (ndFP (.mk k s n t (some ⟨b, 0, none⟩) 2 2 [x, y]) :: Φ) w := by
  have h3 := h.ndRow (l := [x, y]) (m := 2) rfl sl
  have h4 := ((h3.ndsNil).ndsApp (l := []) (x := x) (.head _) (.tail _ (.tail _ h2))).ndsApp (l := [x]) (x := y) (.head _) (.tail _ (.tail _ (.tail _ hy)))
  exact (h4.ndMk (k := k) (n := n) (s := s) (t := t) (l := [x, y]) (a := some ⟨b, 0, none⟩) (m := 2) (cp := 2) (.tail _ (.tail _ (.tail _ (.head _)))) (.tail _ (.tail _ (.tail _ (.tail _ h0)))) (.head _)).forget (fun φ hφ => by
    rcases List.mem_cons.1 hφ with rfl | h
    · exact .head _
    · exact .tail _ (.tail _ (.tail _ (.tail _ (.tail _ h)))))
theorem St.ndTy {x : NdM} (h1 : ndFP x ∈ Φ) (h : St c L Φ w) : St c L (tyFP x.t :: Φ) w := h.many fun O hΦ φ hφ => by
  cases x
  exact hΦ _ h1 φ (by rw [NdM.fps]; exact .tail _ (List.mem_append_left _ hφ))
theorem St.ndKids {x : NdM} (h1 : ndFP x ∈ Φ) (h : St c L Φ w) : St c L (ndsFP x.kids :: Φ) w := h.many fun O hΦ φ hφ => by
  cases x
  exact hΦ _ h1 φ (by rw [NdM.fps]; exact .tail _ (List.mem_append_right _ hφ))
theorem St.ndsTys {l : List NdM} (h : St c L Φ w) (h1 : ndsFP l ∈ Φ) : St c L (tysFP (l.map NdM.t) :: Φ) w := h.many fun O hΦ φ hφ => by
  rw [TyM.fpsL_eq] at hφ
  obtain ⟨t, ht, hφ⟩ := List.mem_flatMap.1 hφ
  obtain ⟨x, hx, rfl⟩ := List.mem_map.1 ht
  refine hΦ _ h1 φ ?_
  rw [NdM.fpsL_eq]
  refine List.mem_flatMap.2 ⟨x, hx, ?_⟩
  cases x
  rw [NdM.fps]
  exact .tail _ (List.mem_append_left _ hφ)
theorem St.tysCons {m : TyM} {l : List TyM} (h : St c L Φ w) (h0 : tyFP m ∈ Φ) (h1 : tysFP l ∈ Φ) : St c L (tysFP (m :: l) :: Φ) w := h.many fun O hΦ φ hφ => by
  rw [TyM.fpsL] at hφ
  rcases List.mem_append.1 hφ with hφ | hφ
  · exact hΦ _ h0 φ hφ
  · exact hΦ _ h1 φ hφ
theorem St.ndGlobal {x : NdM} (h : St c L Φ w) (h1 : ndFP x ∈ Φ) : St c L (ndFP (.mk 21 x.text x.n x.t x.ad x.len x.cap x.kids) :: Φ) w := h.many fun O hΦ φ hφ => by
  cases x
  exact hΦ _ h1 φ hφ
end
end X
end Go.Proofs.Ytjnineeeffecaaa
