/- Runs by numbers: what own values and heaps stand for; what a step may turn. For whatever program. -/
import Derived.Test.YtafochlcnjeanaaGreatX20
namespace Go.Proofs.YtafochlcnjeanaaGreat.E
open Go Go.RowKit X

/-! ### Values -/
inductive EV where
  | flat (v : Value)
  | int (k : IntKind) (n : Int)
  | bool (b : Bool)
  | str (l : List Nat)
  | ptr (k off : Nat)
  | slc (k off len sz : Nat) (cap : Option Nat)
  | map (k : Nat)
  | fn (f : Fn) (first cap : List EV)
  | iface (t : TypeId) (x : EV)
  | agg (l : List EV)
  | tup (l : List EV)
  | any
/-- Bytes of a string. -/
def bs (l : List Nat) : ByteArray := ⟨(l.map UInt8.ofNat).toArray⟩
abbrev Rel := Nat → Nat → Nat → Prop
mutual
def VR (R : Rel) : EV → Value → Prop
  | .flat v0, v => v = v0
  | .int k n, v => v = .int k n
  | .bool b, v => v = .bool b
  | .str l, v => v = .string (bs l)
  | .ptr k off, v => ∃ b c, R k b c ∧ v = .pointer (some ⟨b, off, none⟩)
  | .slc k off len sz cap, v => ∃ b c cap', R k b c ∧ v = .slice (some ⟨b, off, none⟩) len cap' ∧ len ≤ cap' ∧ off + cap' * sz ≤ c ∧ (cap = none → off + cap' * sz = c) ∧ ∀ x, cap = some x → cap' = x
  | .map k, v => ∃ b c, R k b c ∧ v = .map (some b)
  | .fn f a c, v => ∃ a' c', v = .func f (List.toArray a') (List.toArray c') ∧ VRs R a a' ∧ VRs R c c'
  | .iface t x, v => ∃ x', v = .iface t x' ∧ VR R x x'
  | .agg l, v => ∃ l', v = .agg (List.toArray l') ∧ VRs R l l'
  | .tup l, v => ∃ l', v = .tuple (List.toArray l') ∧ VRs R l l'
  | .any, _ => True
def VRs (R : Rel) : List EV → List Value → Prop
  | [], l => l = []
  | x :: xs, l => ∃ v vs, l = v :: vs ∧ VR R x v ∧ VRs R xs vs
end
def Rel.le (R R' : Rel) : Prop := ∀ k b c, R k b c → R' k b c
mutual
theorem VR.mono {R R' : Rel} (h : Rel.le R R') : ∀ {x : EV} {v : Value}, VR R x v → VR R' x v
  | .flat _, _, e => e
  | .int _ _, _, e => e
  | .bool _, _, e => e
  | .str _, _, e => e
  | .ptr _ _, _, ⟨b, c, e, k⟩ => ⟨b, c, h _ _ _ e, k⟩
  | .slc _ _ _ _ _, _, ⟨b, c, cap, e, k⟩ => ⟨b, c, cap, h _ _ _ e, k⟩
  | .map _, _, ⟨b, c, e, k⟩ => ⟨b, c, h _ _ _ e, k⟩
  | .fn _ _ _, _, ⟨a, c, e, k1, k2⟩ => ⟨a, c, e, VRs.mono h k1, VRs.mono h k2⟩
  | .iface _ _, _, ⟨x, e, k⟩ => ⟨x, e, VR.mono h k⟩
  | .agg _, _, ⟨l, e, k⟩ => ⟨l, e, VRs.mono h k⟩
  | .tup _, _, ⟨l, e, k⟩ => ⟨l, e, VRs.mono h k⟩
  | .any, _, e => e
theorem VRs.mono {R R' : Rel} (h : Rel.le R R') : ∀ {x : List EV} {v : List Value}, VRs R x v → VRs R' x v
  | [], _, e => e
  | _ :: _, _, ⟨v, vs, e, k1, k2⟩ => ⟨v, vs, e, VR.mono h k1, VRs.mono h k2⟩
end
theorem VRs.length {R : Rel} : ∀ {xs : List EV} {vs : List Value}, VRs R xs vs → vs.length = xs.length
  | [], _, h => by rw [show _ = [] from h]; rfl
  | _ :: _, _, ⟨v, vs, e, _, k⟩ => by rw [e, List.length_cons, List.length_cons, VRs.length k]
theorem VRs.get {R : Rel} : ∀ {xs : List EV} {vs : List Value} {i : Nat} {x : EV}, VRs R xs vs → xs[i]? = some x → ∃ v, vs[i]? = some v ∧ VR R x v
  | [], _, i, x, _, h => by simp at h
  | y :: ys, _, 0, x, ⟨v, vs, e, k1, k2⟩, h => by
    simp at h
    subst h
    exact ⟨v, by simp [e], k1⟩
  | y :: ys, _, i + 1, x, ⟨v, vs, e, k1, k2⟩, h => by
    obtain ⟨u, h1, h2⟩ := VRs.get k2 (i := i) (x := x) (by simpa using h)
    exact ⟨u, by simpa [e] using h1, h2⟩
theorem VRs.get' {R : Rel} : ∀ {xs : List EV} {vs : List Value} {i : Nat} {v : Value}, VRs R xs vs → vs[i]? = some v → ∃ x, xs[i]? = some x ∧ VR R x v
  | [], _, i, v, h, hv => by rw [show _ = [] from h] at hv; simp at hv
  | y :: ys, _, 0, v, ⟨u, us, e, k1, k2⟩, hv => by
    subst e
    simp at hv
    subst hv
    exact ⟨y, by simp, k1⟩
  | y :: ys, _, i + 1, v, ⟨u, us, e, k1, k2⟩, hv => by
    subst e
    obtain ⟨x, h1, h2⟩ := VRs.get' k2 (i := i) (v := v) (by simpa using hv)
    exact ⟨x, by simpa using h1, h2⟩
theorem VRs.append {R : Rel} : ∀ {xs ys : List EV} {vs us : List Value}, VRs R xs vs → VRs R ys us → VRs R (xs ++ ys) (vs ++ us)
  | [], _, _, _, h, k => by rw [show _ = [] from h]; exact k
  | _ :: _, _, _, _, ⟨v, vs, e, k1, k2⟩, k => ⟨v, vs ++ _, by rw [e]; rfl, k1, VRs.append k2 k⟩
theorem VRs.one {R : Rel} {x : EV} {v : Value} (h : VR R x v) : VRs R [x] [v] := ⟨v, [], rfl, h, rfl⟩

/-- A value written out in the code. -/
def ofVal : Value → Option EV
  | .int k n => some (.int k n)
  | .bool b => some (.bool b)
  | .string s => some (.str (s.data.toList.map UInt8.toNat))
  | .pointer none => some (.flat (.pointer none))
  | .slice none 0 0 => some (.flat (.slice none 0 0))
  | .map none => some (.flat (.map none))
  | .nilFunc => some (.flat .nilFunc)
  | .nilIface => some (.flat .nilIface)
  | .tuple cs => match cs.toList with
    | [] => some (.flat undef)
    | _ => none
  | _ => none
theorem bs_toNat (s : ByteArray) : bs (s.data.toList.map UInt8.toNat) = s := by
  cases s with
  | mk d =>
    unfold bs
    congr 1
    apply Array.toList_inj.1
    simp [List.map_map, Function.comp_def]
theorem ofVal_VR {R : Rel} {v : Value} {x : EV} (h : ofVal v = some x) : VR R x v := by
  unfold ofVal at h
  split at h <;> first
    | (cases h; done)
    | (cases h; simp only [VR]; done)
    | (cases h; rfl)
    | skip
  · cases h; simp only [VR]; rw [bs_toNat]
  · rename_i cs
    split at h
    · rename_i hc
      cases h
      simp only [VR]
      rw [show cs = #[] from Array.toList_inj.1 hc]
      rfl
    · cases h
/-- .. or a zero value. -/
def ofVals : List Value → Option (List EV)
  | [] => some []
  | v :: l => match ofVal v, ofVals l with
    | some x, some xs => some (x :: xs)
    | _, _ => none
theorem ofVals_VR {R : Rel} : ∀ {l : List Value} {xs : List EV}, ofVals l = some xs → VRs R xs l
  | [], xs, h => by simp only [ofVals] at h; cases h; rfl
  | v :: l, xs, h => by
    simp only [ofVals] at h
    split at h
    · rename_i x ys h1 h2
      cases h
      exact ⟨v, l, rfl, ofVal_VR h1, ofVals_VR h2⟩
    · cases h
/-- .. a struct, too. -/
def ofConst : Value → Option EV
  | .agg cs => match ofVals cs.toList with
    | some l => some (.agg l)
    | none => none
  | v => ofVal v
theorem ofConst_VR {R : Rel} {v : Value} {x : EV} (h : ofConst v = some x) : VR R x v := by
  unfold ofConst at h
  split at h
  · split at h
    · rename_i l hl
      cases h
      exact ⟨_, (by simp), ofVals_VR hl⟩
    · cases h
  · exact ofVal_VR h
/-- The cells of a value. -/
def cellsE : EV → List EV
  | .agg l => l
  | x => [x]
theorem cellsE_VR {R : Rel} {x : EV} {v : Value} (h : VR R x v) (hf : ∀ u, x = .flat u → ∀ cs, u ≠ .agg cs) (ha : x ≠ .any) : VRs R (cellsE x) v.cells.toList := by
  cases x with
  | any => exact absurd rfl ha
  | agg l => obtain ⟨l', rfl, k⟩ := h; simpa [cellsE, Value.cells] using k
  | flat u =>
    have hu := hf u rfl
    simp only [VR] at h
    subst h
    have : v.cells = #[v] := by cases v <;> first | rfl | exact absurd rfl (hu _)
    simp only [cellsE, this]
    exact VRs.one rfl
  | int k n => rw [show v = _ from h]; exact VRs.one rfl
  | bool k => rw [show v = _ from h]; exact VRs.one rfl
  | str k => rw [show v = _ from h]; exact VRs.one rfl
  | ptr k o => obtain ⟨b, c, k1, rfl⟩ := h; exact VRs.one ⟨b, c, k1, rfl⟩
  | slc k o l s c => obtain ⟨b, c, c', k1, rfl, k2⟩ := h; exact VRs.one ⟨b, c, c', k1, rfl, k2⟩
  | map k => obtain ⟨b, c, k1, rfl⟩ := h; exact VRs.one ⟨b, c, k1, rfl⟩
  | fn f a c => obtain ⟨a', c', rfl, k⟩ := h; exact VRs.one ⟨a', c', rfl, k⟩
  | iface t x => obtain ⟨x', rfl, k⟩ := h; exact VRs.one ⟨x', rfl, k⟩
  | tup l => obtain ⟨l', rfl, k⟩ := h; exact VRs.one ⟨l', rfl, k⟩
/-- One cell. -/
def oneE : EV → Bool
  | .agg _ | .tup _ | .any => false
  | .flat (.agg _) => false
  | .flat (.tuple _) => false
  | _ => true
theorem oneE_spec {R : Rel} {x : EV} {v : Value} (h : VR R x v) (ho : oneE x = true) : v.oneCell' = true := by
  cases x with
  | agg l => cases ho
  | tup l => cases ho
  | any => cases ho
  | flat u =>
    simp only [VR] at h
    subst h
    cases v <;> first | rfl | cases ho
  | int k n => rw [show v = _ from h]; rfl
  | bool k => rw [show v = _ from h]; rfl
  | str k => rw [show v = _ from h]; rfl
  | ptr k o => obtain ⟨b, c, k1, rfl⟩ := h; rfl
  | slc k o l s c => obtain ⟨b, c, c', k1, rfl, k2⟩ := h; rfl
  | map k => obtain ⟨b, c, k1, rfl⟩ := h; rfl
  | fn f a c => obtain ⟨a', c', rfl, k⟩ := h; rfl
  | iface t x => obtain ⟨x', rfl, k⟩ := h; rfl
def onesE : List EV → Bool
  | [] => true
  | x :: l => oneE x && onesE l
theorem onesE_spec {R : Rel} : ∀ {xs : List EV} {vs : List Value}, VRs R xs vs → onesE xs = true → ∀ v ∈ vs, v.oneCell' = true
  | [], _, h, _, v, hv => by rw [show _ = [] from h] at hv; cases hv
  | x :: xs, _, ⟨u, us, e, k1, k2⟩, ho, v, hv => by
    subst e
    simp only [onesE, Bool.and_eq_true] at ho
    rcases List.mem_cons.1 hv with rfl | h1
    · exact oneE_spec k1 ho.1
    · exact onesE_spec k2 ho.2 v h1

/-! ### Tables: what stands behind a change -/
def T.put {α : Type} (t : T α) (n : Nat) (a : α) : T α := T.set (n + 2) t n a
theorem T.get_put {α : Type} (t : T α) (n m : Nat) (a : α) : (t.put n a).get m = if m = n then some a else t.get m :=
  T.get_set _ _ _ _ _ (by
    have : ∀ n : Nat, n + 1 < 2 ^ (n + 2) := fun n => by
      induction n with
      | zero => decide
      | succ n ih => rw [Nat.pow_succ]; omega
    exact this n)
/-- Many, from a place on. -/
def T.puts {α : Type} (t : T α) (i : Nat) : List α → T α
  | [] => t
  | a :: l => (t.put i a).puts (i + 1) l
theorem T.get_puts {α : Type} : ∀ (l : List α) (t : T α) (i m : Nat), (t.puts i l).get m = if i ≤ m ∧ m < i + l.length then l[m - i]? else t.get m
  | [], t, i, m => by simp [T.puts]; intro h1 h2; omega
  | a :: l, t, i, m => by
    simp only [T.puts]
    rw [T.get_puts l, T.get_put]
    by_cases e : m = i
    · subst e
      rw [if_neg (by omega), if_pos rfl, if_pos (by simp)]
      simp
    · rw [if_neg e]
      by_cases h : i + 1 ≤ m ∧ m < i + 1 + l.length
      · rw [if_pos h, if_pos (by simp; omega), show m - i = (m - (i + 1)) + 1 by omega]
        simp
      · rw [if_neg h, if_neg (by simp; omega)]

/-! ### Heaps -/
inductive Blk where
  | dead
  | row (ty : TypeId) (n : Nat) (cs : T EV)
  | map (es : List (EV × EV × Nat)) (clock : Nat)
  | ro (n : Nat) (cs : T EV)
  | iter (l : List Nat) (pos : Nat)
abbrev Heap := Nat → Option Blk
def upd (h : Heap) (k : Nat) (B : Blk) : Heap := fun x => if x = k then some B else h x
theorem get_put_upd (t : T Blk) (k : Nat) (B : Blk) : (t.put k B).get = upd t.get k B := by
  funext x
  rw [T.get_put]
  rfl
/-- What a block holds. -/
def BR (R : Rel) (B : Blk) (c : Nat) (o : Option Obj) : Prop := match B with
  | .dead => False
  | .row ty n cs => ∃ cur, o = some (.cells cur ty (0, 0)) ∧ cur.size = c ∧ n ≤ c ∧ ∀ i x, cs.get i = some x → i < n ∧ ∃ u, cur[i]? = some u ∧ VR R x u
  | .map es clock => ∃ es' : List MapEntry, o = some (.map es'.toArray clock) ∧ VRs R (es.map fun e => e.1) (es'.map fun e => e.key) ∧ VRs R (es.map fun e => e.2.1) (es'.map fun e => e.val) ∧ es.map (fun e => e.2.2) = es'.map (fun e => e.born)
  | .ro n cs => ∃ cur ty fz, o = some (.cells cur ty fz) ∧ cur.size = c ∧ n ≤ c ∧ ∀ i x, cs.get i = some x → ∃ u, cur[i]? = some u ∧ VR R x u
  | .iter l pos => o = some (.stringIter (bs l) pos)
def Blk.live : Blk → Prop
  | .dead => False
  | _ => True
def live (h : Heap) (k : Nat) : Prop := ∃ B, h k = some B ∧ B.live
/-- What is owned. -/
def Own (h : Heap) (R : Rel) (b : Nat) : Prop := ∃ k c, live h k ∧ R k b c
structure HR (R : Rel) (h : Heap) (hp : Array Obj) : Prop where
  blk : ∀ k B, h k = some B → B.live → ∃ b c, R k b c ∧ BR R B c hp[b]?
  dom : ∀ k B, h k = some B → ∃ b c, R k b c
  inj : ∀ k k' b c c', live h k → live h k' → R k b c → R k' b c' → k = k'
  fn : ∀ k b c b' c', R k b c → R k b' c' → b = b' ∧ c = c'
  lt : ∀ k b c, R k b c → b < hp.size
/-- What a step may turn. -/
structure Go_ (lo hi : Nat) (R : Rel) (h : Heap) (hp : Array Obj) (R' : Rel) (h' : Heap) (hp' : Array Obj) : Prop where
  size : hp.size ≤ hp'.size
  sub : Rel.le R R'
  new : ∀ k b c, R' k b c → R k b c ∨ (lo ≤ k ∧ k < hi)
  keep : ∀ b, b < hp.size → ¬ Own h R b → hp'[b]? = hp[b]?
  own : ∀ b, Own h' R' b → Own h R b ∨ hp.size ≤ b
  dom : ∀ k B, h' k = some B → (∃ B', h k = some B') ∨ (lo ≤ k ∧ k < hi)
  stay : ∀ k B, h k = some B → ∃ B', h' k = some B'
theorem upd_stay {h : Heap} {k : Nat} {B : Blk} : ∀ k' B', h k' = some B' → ∃ B'', upd h k B k' = some B'' := fun k' B' e => by
  unfold upd
  by_cases e2 : k' = k
  · exact ⟨B, by simp [e2]⟩
  · exact ⟨B', by simp [e2, e]⟩
theorem Go_.refl (lo hi : Nat) (R : Rel) (h : Heap) (hp : Array Obj) : Go_ lo hi R h hp R h hp :=
  ⟨Nat.le_refl _, fun _ _ _ h => h, fun _ _ _ h => .inl h, fun _ _ _ => rfl, fun _ h => .inl h, fun _ _ h => .inl ⟨_, h⟩, fun _ B h => ⟨B, h⟩⟩
theorem Go_.trans {lo mid hi : Nat} {R R1 R2 : Rel} {h h1 h2 : Heap} {hp hp1 hp2 : Array Obj} (g : Go_ lo mid R h hp R1 h1 hp1) (g' : Go_ mid hi R1 h1 hp1 R2 h2 hp2) (hm : lo ≤ mid) (hh : mid ≤ hi) : Go_ lo hi R h hp R2 h2 hp2 where
  size := Nat.le_trans g.size g'.size
  sub := fun k b c x => g'.sub _ _ _ (g.sub _ _ _ x)
  new := fun k b c x => by
    rcases g'.new k b c x with y | y
    · rcases g.new k b c y with z | z
      · exact .inl z
      · exact .inr (by omega)
    · exact .inr (by omega)
  keep := fun b hb hn => by
    rw [g'.keep b (Nat.lt_of_lt_of_le hb g.size) (fun ho => (g.own b ho).elim hn (fun h => by omega)), g.keep b hb hn]
  own := fun b ho => (g'.own b ho).elim (fun ho => g.own b ho) (fun h => .inr (Nat.le_trans g.size h))
  dom := fun k B x => by
    rcases g'.dom k B x with ⟨B', y⟩ | y
    · rcases g.dom k B' y with z | z
      · exact .inl z
      · exact .inr (by omega)
    · exact .inr (by omega)
  stay := fun k B x => by
    obtain ⟨B', y⟩ := g.stay k B x
    exact g'.stay k B' y
theorem Go_.wide {lo lo' hi hi' : Nat} {R R1 : Rel} {h h1 : Heap} {hp hp1 : Array Obj} (g : Go_ lo hi R h hp R1 h1 hp1) (hl : lo' ≤ lo) (hh : hi ≤ hi') : Go_ lo' hi' R h hp R1 h1 hp1 where
  size := g.size
  sub := g.sub
  new := fun k b c x => (g.new k b c x).imp id (fun h => by omega)
  keep := g.keep
  own := g.own
  dom := fun k B x => (g.dom k B x).imp id (fun h => by omega)
  stay := g.stay
/-- Numbers that are free. -/
def Fresh (R : Rel) (n : Nat) : Prop := ∀ k b c, R k b c → k < n
theorem Fresh.go {lo hi : Nat} {R R1 : Rel} {h h1 : Heap} {hp hp1 : Array Obj} (f : Fresh R lo) (g : Go_ lo hi R h hp R1 h1 hp1) (hh : lo ≤ hi) : Fresh R1 hi := fun k b c x => by
  rcases g.new k b c x with y | y
  · have := f k b c y; omega
  · omega

theorem BR.mono {R R' : Rel} {B : Blk} {c : Nat} {o : Option Obj} (h : Rel.le R R') (k : BR R B c o) : BR R' B c o := by
  cases B with
  | dead => exact k
  | row ty n cs =>
    obtain ⟨cur, e, k1, k2, k3⟩ := k
    exact ⟨cur, e, k1, k2, fun i x hx => ⟨(k3 i x hx).1, let ⟨u, h1, h2⟩ := (k3 i x hx).2; ⟨u, h1, h2.mono h⟩⟩⟩
  | map es cl =>
    obtain ⟨es', e, k1, k2, k3⟩ := k
    exact ⟨es', e, k1.mono h, k2.mono h, k3⟩
  | ro n cs =>
    obtain ⟨cur, ty, fz, e, k1, k2, k3⟩ := k
    exact ⟨cur, ty, fz, e, k1, k2, fun i x hx => let ⟨u, h1, h2⟩ := k3 i x hx; ⟨u, h1, h2.mono h⟩⟩
  | iter l pos => exact k

/-- A block is written anew. -/
theorem HR.write {R : Rel} {h : Heap} {hp hp' : Array Obj} {k b c : Nat} {B B' : Blk} {lo hi : Nat} (H : HR R h hp) (hk : h k = some B) (hB : B.live) (hB' : B'.live) (hR : R k b c) (hs : hp'.size = hp.size)
    (hkeep : ∀ b', b' ≠ b → hp'[b']? = hp[b']?) (hbr : BR R B' c hp'[b]?) : HR R (upd h k B') hp' ∧ Go_ lo hi R h hp R (upd h k B') hp' := by
  have hl : ∀ k', live (upd h k B') k' ↔ live h k' := fun k' => by
    unfold live upd
    by_cases e : k' = k
    · subst e
      simp [hk, hB, hB']
    · simp [e]
  have hown : ∀ x, Own (upd h k B') R x ↔ Own h R x := fun x => by simp only [Own, hl]
  refine ⟨⟨?_, ?_, ?_, H.fn, fun k b c x => by rw [hs]; exact H.lt k b c x⟩, ⟨by omega, fun _ _ _ h => h, fun _ _ _ h => .inl h, ?_, fun x h => .inl ((hown x).1 h), ?_, upd_stay⟩⟩
  · intro k' B1 h1 h2
    unfold upd at h1
    by_cases e : k' = k
    · subst e
      simp at h1
      subst h1
      exact ⟨b, c, hR, hbr⟩
    · simp only [e, if_false] at h1
      obtain ⟨b1, c1, h3, h4⟩ := H.blk k' B1 h1 h2
      refine ⟨b1, c1, h3, ?_⟩
      rw [hkeep b1 (fun hb => e (H.inj k' k b1 c1 c ⟨B1, h1, h2⟩ ⟨B, hk, hB⟩ h3 (hb ▸ hR)))]
      exact h4
  · intro k' B1 h1
    unfold upd at h1
    by_cases e : k' = k
    · subst e; exact ⟨b, c, hR⟩
    · simp only [e, if_false] at h1
      exact H.dom k' B1 h1
  · intro k1 k2 b1 c1 c2 h1 h2
    exact H.inj k1 k2 b1 c1 c2 ((hl k1).1 h1) ((hl k2).1 h2)
  · intro b' hb' hn
    exact hkeep b' (fun e => hn ⟨k, c, ⟨B, hk, hB⟩, e ▸ hR⟩)
  · intro k' B1 h1
    unfold upd at h1
    by_cases e : k' = k
    · subst e; exact .inl ⟨B, hk⟩
    · simp only [e, if_false] at h1; exact .inl ⟨B1, h1⟩
/-- One more block. -/
def Rel.add (R : Rel) (id b c : Nat) : Rel := fun k b' c' => R k b' c' ∨ (k = id ∧ b' = b ∧ c' = c)
theorem HR.new {R : Rel} {h : Heap} {hp hp' : Array Obj} {id c : Nat} {B' : Blk} (H : HR R h hp) (hid : ∀ b c, ¬ R id b c) (hB' : B'.live) (hs : hp.size < hp'.size)
    (hkeep : ∀ b', b' < hp.size → hp'[b']? = hp[b']?) (hbr : BR (R.add id hp.size c) B' c hp'[hp.size]?) :
    HR (R.add id hp.size c) (upd h id B') hp' ∧ Go_ id (id + 1) R h hp (R.add id hp.size c) (upd h id B') hp' := by
  have hsub : Rel.le R (R.add id hp.size c) := fun _ _ _ h => .inl h
  have hl : ∀ k', live (upd h id B') k' → k' = id ∨ live h k' := fun k' => by
    rintro ⟨B1, h1, h2⟩
    unfold upd at h1
    by_cases e : k' = id
    · exact .inl e
    · simp only [e, if_false] at h1; exact .inr ⟨B1, h1, h2⟩
  refine ⟨⟨?_, ?_, ?_, ?_, ?_⟩, ⟨by omega, hsub, ?_, fun b hb _ => hkeep b hb, ?_, ?_, upd_stay⟩⟩
  · intro k' B1 h1 h2
    unfold upd at h1
    by_cases e : k' = id
    · subst e
      simp at h1
      subst h1
      exact ⟨hp.size, c, .inr ⟨rfl, rfl, rfl⟩, hbr⟩
    · simp only [e, if_false] at h1
      obtain ⟨b1, c1, h3, h4⟩ := H.blk k' B1 h1 h2
      refine ⟨b1, c1, .inl h3, ?_⟩
      rw [hkeep b1 (H.lt _ _ _ h3)]
      exact h4.mono hsub
  · intro k' B1 h1
    unfold upd at h1
    by_cases e : k' = id
    · subst e; exact ⟨hp.size, c, .inr ⟨rfl, rfl, rfl⟩⟩
    · simp only [e, if_false] at h1
      obtain ⟨b1, c1, h3⟩ := H.dom k' B1 h1
      exact ⟨b1, c1, .inl h3⟩
  · intro k1 k2 b1 c1 c2 h1 h2 h3 h4
    have hold : ∀ k c', live (upd h id B') k → R.add id hp.size c k b1 c' → (R k b1 c' ∧ live h k ∧ k ≠ id) ∨ (k = id ∧ b1 = hp.size) := fun k c' hk hr => by
      rcases hr with hr | ⟨e1, e2, _⟩
      · have hne : k ≠ id := fun e => hid _ _ (e ▸ hr)
        exact .inl ⟨hr, (hl k hk).resolve_left hne, hne⟩
      · exact .inr ⟨e1, e2⟩
    rcases hold k1 c1 h1 h3 with ⟨a1, a2, a3⟩ | ⟨a1, a2⟩ <;> rcases hold k2 c2 h2 h4 with ⟨b1', b2, b3⟩ | ⟨b1', b2⟩
    · exact H.inj k1 k2 _ _ _ a2 b2 a1 b1'
    · have := H.lt _ _ _ a1; omega
    · have := H.lt _ _ _ b1'; omega
    · rw [a1, b1']
  · intro k b c' b' c'' h1 h2
    rcases h1 with h1 | ⟨e1, e2, e3⟩ <;> rcases h2 with h2 | ⟨f1, f2, f3⟩
    · exact H.fn _ _ _ _ _ h1 h2
    · exact absurd (f1 ▸ h1) (hid _ _)
    · exact absurd (e1 ▸ h2) (hid _ _)
    · exact ⟨e2.trans f2.symm, e3.trans f3.symm⟩
  · intro k b c' h1
    rcases h1 with h1 | ⟨_, e2, _⟩
    · have := H.lt _ _ _ h1; omega
    · omega
  · intro k b c' h1
    rcases h1 with h1 | ⟨e1, _, _⟩
    · exact .inl h1
    · exact .inr (by omega)
  · rintro b ⟨k, c', h1, h2⟩
    rcases h2 with h2 | ⟨_, e2, _⟩
    · have hne : k ≠ id := fun e => hid _ _ (e ▸ h2)
      exact .inl ⟨k, c', (hl k h1).resolve_left hne, h2⟩
    · exact .inr (by omega)
  · intro k B1 h1
    unfold upd at h1
    by_cases e : k = id
    · exact .inr (by omega)
    · simp only [e, if_false] at h1; exact .inl ⟨B1, h1⟩
/-- A block is given up: its number stands for nothing any more. -/
theorem HR.kill {R : Rel} {h : Heap} {hp : Array Obj} {k : Nat} {B : Blk} {lo hi : Nat} (H : HR R h hp) (hk : h k = some B) : HR R (upd h k .dead) hp ∧ Go_ lo hi R h hp R (upd h k .dead) hp := by
  have hl : ∀ k', live (upd h k .dead) k' → live h k' := fun k' => by
    rintro ⟨B1, h1, h2⟩
    unfold upd at h1
    by_cases e : k' = k
    · subst e; simp at h1; subst h1; exact h2.elim
    · simp only [e, if_false] at h1; exact ⟨B1, h1, h2⟩
  refine ⟨⟨?_, ?_, fun k1 k2 b c c' h1 h2 => H.inj k1 k2 b c c' (hl k1 h1) (hl k2 h2), H.fn, H.lt⟩, ⟨Nat.le_refl _, fun _ _ _ h => h, fun _ _ _ h => .inl h, fun _ _ _ => rfl, ?_, ?_, upd_stay⟩⟩
  · intro k' B1 h1 h2
    unfold upd at h1
    by_cases e : k' = k
    · subst e; simp at h1; subst h1; exact h2.elim
    · simp only [e, if_false] at h1; exact H.blk k' B1 h1 h2
  · intro k' B1 h1
    unfold upd at h1
    by_cases e : k' = k
    · subst e; exact H.dom _ B hk
    · simp only [e, if_false] at h1; exact H.dom k' B1 h1
  · rintro b ⟨k', c, h1, h2⟩
    exact .inl ⟨k', c, hl k' h1, h2⟩
  · intro k' B1 h1
    unfold upd at h1
    by_cases e : k' = k
    · subst e; exact .inl ⟨B, hk⟩
    · simp only [e, if_false] at h1; exact .inl ⟨B1, h1⟩
/-- A block goes on under another number, written anew. -/
theorem HR.move {R : Rel} {h : Heap} {hp hp' : Array Obj} {k id b c : Nat} {B B' : Blk} (H : HR R h hp) (hid : ∀ b c, ¬ R id b c) (hk : h k = some B) (hB : B.live) (hB' : B'.live) (hR : R k b c) (hs : hp'.size = hp.size)
    (hkeep : ∀ b', b' ≠ b → hp'[b']? = hp[b']?) (hbr : BR (R.add id b c) B' c hp'[b]?) :
    HR (R.add id b c) (upd (upd h k .dead) id B') hp' ∧ Go_ id (id + 1) R h hp (R.add id b c) (upd (upd h k .dead) id B') hp' := by
  have hsub : Rel.le R (R.add id b c) := fun _ _ _ h => .inl h
  have hkid : k ≠ id := fun e => hid _ _ (e ▸ hR)
  have hup : ∀ k' B1, upd (upd h k .dead) id B' k' = some B1 → B1.live → (k' = id ∧ B1 = B') ∨ (k' ≠ id ∧ k' ≠ k ∧ h k' = some B1) := fun k' B1 h1 h2 => by
    unfold upd at h1
    by_cases e : k' = id
    · simp only [e, if_true] at h1; cases h1; exact .inl ⟨e, rfl⟩
    · simp only [e, if_false] at h1
      by_cases e2 : k' = k
      · simp only [e2, if_true] at h1; cases h1; exact h2.elim
      · simp only [e2, if_false] at h1; exact .inr ⟨e, e2, h1⟩
  have hl : ∀ k', live (upd (upd h k .dead) id B') k' → k' = id ∨ (k' ≠ id ∧ k' ≠ k ∧ live h k') := fun k' => by
    rintro ⟨B1, h1, h2⟩
    rcases hup k' B1 h1 h2 with ⟨e, _⟩ | ⟨e1, e2, e3⟩
    · exact .inl e
    · exact .inr ⟨e1, e2, B1, e3, h2⟩
  have hlk : live h k := ⟨B, hk, hB⟩
  refine ⟨⟨?_, ?_, ?_, ?_, ?_⟩, ⟨by omega, hsub, ?_, ?_, ?_, ?_, fun k' B' e => (let ⟨_, h⟩ := upd_stay (k := k) (B := .dead) k' B' e; upd_stay k' _ h)⟩⟩
  · intro k' B1 h1 h2
    rcases hup k' B1 h1 h2 with ⟨e, e'⟩ | ⟨e1, e2, e3⟩
    · subst e e'; exact ⟨b, c, .inr ⟨rfl, rfl, rfl⟩, hbr⟩
    · obtain ⟨b1, c1, h3, h4⟩ := H.blk k' B1 e3 h2
      refine ⟨b1, c1, .inl h3, ?_⟩
      rw [hkeep b1 (fun hb => e2 (H.inj k' k b1 c1 c ⟨B1, e3, h2⟩ hlk h3 (hb ▸ hR)))]
      exact h4.mono hsub
  · intro k' B1 h1
    unfold upd at h1
    by_cases e : k' = id
    · subst e; exact ⟨b, c, .inr ⟨rfl, rfl, rfl⟩⟩
    · simp only [e, if_false] at h1
      by_cases e2 : k' = k
      · subst e2; exact ⟨b, c, .inl hR⟩
      · simp only [e2, if_false] at h1
        obtain ⟨b1, c1, h3⟩ := H.dom k' B1 h1
        exact ⟨b1, c1, .inl h3⟩
  · intro k1 k2 b1 c1 c2 h1 h2 h3 h4
    have hold : ∀ k' c', live (upd (upd h k .dead) id B') k' → R.add id b c k' b1 c' → (R k' b1 c' ∧ live h k' ∧ k' ≠ k) ∨ (k' = id ∧ b1 = b) := fun k' c' hk' hr => by
      rcases hr with hr | ⟨e1, e2, _⟩
      · have hne : k' ≠ id := fun e => hid _ _ (e ▸ hr)
        obtain ⟨_, e2, e3⟩ := (hl k' hk').resolve_left hne
        exact .inl ⟨hr, e3, e2⟩
      · exact .inr ⟨e1, e2⟩
    rcases hold k1 c1 h1 h3 with ⟨a1, a2, a3⟩ | ⟨a1, a2⟩ <;> rcases hold k2 c2 h2 h4 with ⟨b1', b2, b3⟩ | ⟨b1', b2⟩
    · exact H.inj k1 k2 _ _ _ a2 b2 a1 b1'
    · subst b2; exact absurd (H.inj k1 k _ _ _ a2 hlk a1 hR) a3
    · subst a2; exact absurd (H.inj k2 k _ _ _ b2 hlk b1' hR) b3
    · rw [a1, b1']
  · intro k' b1 c' b' c'' h1 h2
    rcases h1 with h1 | ⟨e1, e2, e3⟩ <;> rcases h2 with h2 | ⟨f1, f2, f3⟩
    · exact H.fn _ _ _ _ _ h1 h2
    · exact absurd (f1 ▸ h1) (hid _ _)
    · exact absurd (e1 ▸ h2) (hid _ _)
    · exact ⟨e2.trans f2.symm, e3.trans f3.symm⟩
  · intro k' b1 c' h1
    rcases h1 with h1 | ⟨_, e2, _⟩
    · have := H.lt _ _ _ h1; omega
    · have := H.lt _ _ _ hR; omega
  · intro k' b1 c' h1
    rcases h1 with h1 | ⟨e1, _, _⟩
    · exact .inl h1
    · exact .inr (by omega)
  · intro b' hb' hn
    exact hkeep b' (fun e => hn ⟨k, c, hlk, e ▸ hR⟩)
  · rintro b1 ⟨k', c', h1, h2⟩
    rcases h2 with h2 | ⟨_, e2, _⟩
    · have hne : k' ≠ id := fun e => hid _ _ (e ▸ h2)
      obtain ⟨_, _, e3⟩ := (hl k' h1).resolve_left hne
      exact .inl ⟨k', c', e3, h2⟩
    · exact .inl ⟨k, c, hlk, e2 ▸ hR⟩
  · intro k' B1 h1
    unfold upd at h1
    by_cases e : k' = id
    · exact .inr (by omega)
    · simp only [e, if_false] at h1
      by_cases e2 : k' = k
      · subst e2; exact .inl ⟨B, hk⟩
      · simp only [e2, if_false] at h1; exact .inl ⟨B1, h1⟩
end Go.Proofs.YtafochlcnjeanaaGreat.E
