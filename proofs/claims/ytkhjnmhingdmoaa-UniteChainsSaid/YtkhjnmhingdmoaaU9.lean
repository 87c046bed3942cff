/- Pairs of numbers, read; and what a row of joinings comes to. -/
import Derived.Test.YtkhjnmhingdmoaaX10
import Derived.Test.YtkhjnmhingdmoaaU6
import Derived.Test.YtkhjnmhingdmoaaRows
namespace Go.Proofs.Ytkhjnmhingdmoaa
open Go X U
attribute [local irreducible] XC XL XQ Tri blk Shows Sq Rd Mt inBlockX
attribute [local irreducible] Row rowO
theorem own : ownKnob Try.prog.godebug = none := by kernel_rfl
def pcell (l : List (Int × Int)) : List Value := (l.map fun p => [Value.int .i64 p.1, .int .i64 p.2]).flatten
theorem pcell_len : ∀ l : List (Int × Int), (pcell l).length = l.length * 2
  | [] => rfl
  | p :: l => by
    have := pcell_len l
    simp only [pcell, List.map_cons, List.flatten_cons, List.length_append, List.length_cons, List.length_nil] at this ⊢
    omega
theorem pcell_get : ∀ (l : List (Int × Int)) (k : Nat) (p : Int × Int), l[k]? = some p → (pcell l)[k * 2]? = some (.int .i64 p.1) ∧ (pcell l)[k * 2 + 1]? = some (.int .i64 p.2)
  | [], k, p, h => by simp at h
  | q :: l, 0, p, h => by
    simp at h
    subst h
    exact ⟨rfl, rfl⟩
  | q :: l, k + 1, p, h => by
    have := pcell_get l k p (by simpa using h)
    rw [show (k + 1) * 2 = (k * 2) + 1 + 1 by omega]
    exact this
theorem pairs_of {H : Type} {enc : TypeId × Value → H} {w : World} {sp : Nat → Bool} {hd : Bool} : ∀ {rows : List (List Value)}, (∀ cs ∈ rows, cs.length = 2 ∧ ∃ n y, DataW.trod enc Try.prog w 0 sp hd n 31 cs = some y) →
    ∃ l : List (Int × Int), rows.length = l.length ∧ rows.flatten = pcell l
  | [], _ => ⟨[], rfl, rfl⟩
  | cs :: rows, h => by
    obtain ⟨l, h1, h2⟩ := pairs_of (rows := rows) (fun c hc => h c (List.mem_cons_of_mem _ hc))
    obtain ⟨h3, n, y, h4⟩ := h cs List.mem_cons_self
    obtain ⟨xs, m, _, _, _, hxl, hx⟩ := DataW.trod_struct Try.underlying31 h4
    have e0 := hx 0 _ rfl
    have e1 := hx 1 _ rfl
    have hxl2 : xs.length = 2 := hxl
    rw [List.getElem?_eq_getElem (by omega)] at e0 e1
    obtain ⟨a, ha, _⟩ := DataW.trod_int Try.underlying3 e0
    obtain ⟨b, hb, _⟩ := DataW.trod_int Try.underlying3 e1
    refine ⟨(a, b) :: l, by simp [h1], ?_⟩
    have hc3 : Try.prog.cellsOf 3 = 1 := by kernel_rfl
    change List.take (Try.prog.cellsOf 3) (List.drop 0 cs) = _ at ha
    change List.take (Try.prog.cellsOf 3) (List.drop 1 cs) = _ at hb
    rw [hc3] at ha hb
    match cs, h3 with
    | [u, v], _ =>
      simp only [List.drop_zero, List.take_succ_cons, List.take_zero, List.drop_succ_cons] at ha hb
      cases ha
      cases hb
      show [Value.int .i64 a, .int .i64 b] ++ rows.flatten = _
      rw [h2]
      rfl
theorem openS22 {H : Type} {enc : TypeId × Value → H} {w : World} {r : Reach} {b0 : Nat} {sp : Nat → Bool} {hd : Bool} {v : Value} {d : DataW H} {ps : List MemPlace} (hval : Value.okWide Try.prog w r b0 22 v) (h : DataW.Trod enc Try.prog w 0 sp hd 22 v d ps) :
    ∃ l : List (Int × Int), l.length ≤ maxLen ∧ Row 2 v l.length (pcell l) w := by
  obtain ⟨rows, h1, h2, h3⟩ := openRow Try.underlying22 (sz := 2) (by kernel_rfl) (by omega) hval h
  obtain ⟨l, h4, h5⟩ := pairs_of h2
  exact ⟨l, by omega, by rw [← h4, ← h5]; exact h3⟩
/-- The groups behind the first k pairs. -/
def grp (N : Nat) (l : List (Int × Int)) (k : Nat) : List Nat := (l.take k).foldl (fun G p => joined N G p.1 p.2) (List.range N)
theorem joined_len (N : Nat) (G : List Nat) (a b : Int) : (joined N G a b).length = G.length := by
  unfold joined
  split
  · exact join_len _ _ _
  · rfl
theorem grp_len (N : Nat) (l : List (Int × Int)) (k : Nat) : (grp N l k).length = N := by
  unfold grp
  generalize l.take k = t
  suffices ∀ G : List Nat, (t.foldl (fun G p => joined N G p.1 p.2) G).length = G.length by rw [this]; simp
  induction t with
  | nil => intro G; rfl
  | cons p t ih => intro G; rw [List.foldl_cons, ih, joined_len]
theorem grp_next {N : Nat} {l : List (Int × Int)} {k : Nat} {p : Int × Int} (h : l[k]? = some p) : grp N l (k + 1) = joined N (grp N l k) p.1 p.2 := by
  unfold grp
  rw [List.take_add_one, h]
  simp
theorem grp_zero (N : Nat) (l : List (Int × Int)) : grp N l 0 = List.range N := rfl
theorem refJoin_is {v : Value} {N : Nat} {G : List Nat} {a b : Int} (hN : N ≤ 100000) (hG : G.length = N) : Tri Try.prog 12 [v, .int .i64 a, .int .i64 b] [rowO 3 1 v N (G.map vi)] []
    (Ret (fun x : Value => .tuple #[x, .bool (joins N G a b)]) (fun x => [rowO 3 1 x N ((joined N G a b).map vi)]) (fun _ => []) (fun _ => True)) := by
  subst hG
  refine Tri.weak (refJoin_tri hN) ?_
  rintro c e L' Φ' w ⟨x, hx, rfl, rfl, rfl⟩ hS
  refine ⟨_, _, ⟨x, trivial, rfl, rfl, rfl⟩, ?_⟩
  change St c (if joins G.length G a b = true then _ else _) [] w at hS
  change St c [rowO 3 1 x G.length ((joined G.length G a b).map vi)] [] w
  by_cases hj : joins G.length G a b = true
  · rw [if_pos hj, joined_len] at hS
    exact hS.drop (.there .here)
  · rw [if_neg hj] at hS
    have hj' : joins G.length G a b = false := by simpa using hj
    rw [hx hj', joined, if_neg hj]
    exact hS
theorem refNew_is {i : Int} {N : Nat} (hi : min (max i 0) 100000 = (N : Int)) : Tri Try.prog 11 [.int .i64 i] [] [] (Ret (fun v : Value => v) (fun v => [rowO 3 1 v N ((List.range N).map vi)]) (fun _ => []) (fun _ => True)) := by
  have := refNew_tri (i := i)
  rw [hi] at this
  simp only [Int.toNat_natCast, List.length_range] at this
  exact this
theorem refFind_is {v : Value} {N : Nat} {G : List Nat} {i : Int} (hN : N ≤ 100000) (hG : G.length = N) : Tri Try.prog 15 [v, .int .i64 i] [rowO 3 1 v N (G.map vi)] [] fun e L Φ =>
    e = .returned (.int .i64 (if 0 ≤ i ∧ i < N then (G.getD i.toNat 0 : Nat) else -1)) ∧ L = [rowO 3 1 v N (G.map vi)] ∧ Φ = [] := by
  subst hG; exact refFind_tri hN
theorem refCount_is {v : Value} {N : Nat} {G : List Nat} (hN : N ≤ 100000) (hG : G.length = N) : Tri Try.prog 18 [v] [rowO 3 1 v N (G.map vi)] [] fun e L Φ =>
    e = .returned (.int .i64 ((List.range N).countP (fun i => G.getD i 0 == i) : Nat)) ∧ L = [rowO 3 1 v N (G.map vi)] ∧ Φ = [] := by
  subst hG; exact refCount_tri hN
theorem refSize_is {v : Value} {N : Nat} {G : List Nat} {i : Int} (hN : N ≤ 100000) (hG : G.length = N) : Tri Try.prog 20 [v, .int .i64 i] [rowO 3 1 v N (G.map vi)] [] fun e L Φ =>
    e = .returned (.int .i64 (if 0 ≤ i ∧ i < N then (G.count (G.getD i.toNat 0) : Nat) else 0)) ∧ L = [rowO 3 1 v N (G.map vi)] ∧ Φ = [] := by
  subst hG; exact refSize_tri hN
theorem lenG_tri {p : Value} {n : Nat} {G : List Nat} : Tri Try.prog 16 [p] [groups p n G] [] fun e L Φ => e = .returned (.int .i64 (n : Int)) ∧ L = [groups p n G] ∧ Φ = [] := by
  refine Tri.of Try.func16 rfl fun c => XC.ex (fun w h => groups_open h .here) ?_
  rintro ⟨⟨gb, ub, sb, lb⟩, ⟨up, sz, ls⟩, cnt⟩
  refine XC.pure (fun ⟨hp, hU⟩ => ?_)
  subst hp
  dsimp only at *
  repeat' (first
    | refine XC.seq ?_
      | refine XC.region ?_
      | refine XC.block ?_
      | refine XC.skip ?_
      | refine XC.ret ?_
      | refine XC.exit ?_
      | (refine XC.cond_d (by rfl) (fun h => ?_) (fun h => ?_) <;> try (first | (exfalso; omega) | exact absurd rfl h | (exfalso; simp at h <;> omega)))
      | refine XC.cond_t (by rfl) ?_
      | refine XC.cond_f (by rfl) ?_
      | refine XQ.next ?_
      | refine XQ.blockN ?_
      | refine XQ.blockR ?_
      | refine XQ.blockE ?_
      | refine XQ.sqR ?_
      | refine XQ.sqE ?_
      | refine XQ.rdR ?_
      | refine XQ.rdE ?_
      | refine XQ.mtR ?_
      | refine XQ.mtE ?_
    | refine XL.nil ?_
      | (refine XL.guard_d (by rfl) (by rfl) (fun h => ?_) (fun h => ?_) <;> try (first | (exfalso; omega) | exact absurd rfl h | (exfalso; simp at h <;> omega)))
      | refine XL.pures (by rfl) (by rfl) (by rfl) (by rfl) (by rfl) ?_
      | refine XL.not_d (by rfl) (by rfl) (by rfl) (by rfl) (by rfl) ?_
      | refine XL.pure 1 (by rfl) ?_
      | refine XL.fa0 (by rfl) (by rfl) (by rfl) (by rfl) (by rfl) (by rfl) ?_
      | refine XL.ld (by rfl) (by rfl) (by rfl) (by rfl) (by rfl) (by rfl) (by repeat (first | exact Sel.here | apply Sel.there)) (by rfl) ?_
      | refine XL.fa (by rfl) (by rfl) (by rfl) (by rfl) (by rfl) (by rfl) ?_
      | refine XL.ia1 (by rfl) (by rfl) (by rfl) (by rfl) (by rfl) (by rfl) (by rfl) (by omega) ?_
      | refine XL.ldr (by rfl) (by rfl) (by rfl) (by rfl) (by rfl) (by rfl) (by repeat (first | exact Sel.here | apply Sel.there)) (by assumption) ?_
      | refine XL.stl (by rfl) (by rfl) (by rfl) (by rfl) (by rfl) (by rfl) (by rfl) (by repeat (first | exact Sel.here | apply Sel.there)) (by rfl) ?_
      | refine XL.lenR (by rfl) (by rfl) (by rfl) (by rfl) (by rfl) (by rfl) (by rfl) (by first | exact fun w h => St.row (by repeat (first | exact Sel.here | apply Sel.there)) h | exact fun w h => St.rowF (by repeat (first | exact List.Mem.head _ | apply List.Mem.tail)) h | exact fun w h => Hd.rowF (by repeat (first | exact List.Mem.head _ | apply List.Mem.tail)) h) ?_
      | refine XL.iaR1 (by rfl) (by rfl) (by rfl) (by rfl) (by rfl) (by rfl) (by rfl) (by first | exact fun w h => St.row (by repeat (first | exact Sel.here | apply Sel.there)) h | exact fun w h => St.rowF (by repeat (first | exact List.Mem.head _ | apply List.Mem.tail)) h | exact fun w h => Hd.rowF (by repeat (first | exact List.Mem.head _ | apply List.Mem.tail)) h) (by omega) ?_
      | refine XL.iaR2 (by rfl) (by rfl) (by rfl) (by rfl) (by rfl) (by rfl) (by first | exact fun w h => St.row (by repeat (first | exact Sel.here | apply Sel.there)) h | exact fun w h => St.rowF (by repeat (first | exact List.Mem.head _ | apply List.Mem.tail)) h | exact fun w h => Hd.rowF (by repeat (first | exact List.Mem.head _ | apply List.Mem.tail)) h) (by rfl) (by omega) ?_
      | refine XL.faR (by rfl) (by rfl) (by rfl) (by rfl) (by rfl) (by rfl) (by first | exact fun w h => St.row (by repeat (first | exact Sel.here | apply Sel.there)) h | exact fun w h => St.rowF (by repeat (first | exact List.Mem.head _ | apply List.Mem.tail)) h | exact fun w h => Hd.rowF (by repeat (first | exact List.Mem.head _ | apply List.Mem.tail)) h) (by assumption) ?_
      | refine XL.ldR (by rfl) (by rfl) (by rfl) (by rfl) (by rfl) (by rfl) (by first | exact fun w h => St.row (by repeat (first | exact Sel.here | apply Sel.there)) h | exact fun w h => St.rowF (by repeat (first | exact List.Mem.head _ | apply List.Mem.tail)) h | exact fun w h => Hd.rowF (by repeat (first | exact List.Mem.head _ | apply List.Mem.tail)) h) (by assumption) ?_
      | refine XL.lenS (by rfl) (by rfl) (by rfl) (by rfl) (by rfl) (by rfl) (by rfl) ?_
      | refine XL.lenStr (by rfl) (by rfl) (by rfl) (by rfl) (by rfl) (by rfl) (by rfl) ?_
      | refine XL.succ (by rfl) (by rfl) (by rfl) (by rfl) (by rfl) (by rfl) (by omega) ?_
      | refine XL.addn (by rfl) (by rfl) (by rfl) (by rfl) (by rfl) (by rfl) (by omega) ?_
      | refine XL.add (by rfl) (by rfl) (by rfl) (by rfl) (by rfl) (by rfl) (by omega) ?_
      | refine XL.pred (by rfl) (by rfl) (by rfl) (by rfl) (by rfl) (by rfl) (by omega) ?_
      | refine XL.subn (by rfl) (by rfl) (by rfl) (by rfl) (by rfl) (by rfl) (by omega) ?_
      | refine XL.sub (by rfl) (by rfl) (by rfl) (by rfl) (by rfl) (by rfl) (by omega) ?_
      | refine XL.min2 (by rfl) (by rfl) (by rfl) (by rfl) (by rfl) (by rfl) ?_
      | refine XL.max2 (by rfl) (by rfl) (by rfl) (by rfl) (by rfl) (by rfl) ?_
      | refine XL.eqB (by rfl) (by rfl) (by rfl) (by rfl) (by rfl) (by rfl) (by rfl) ?_
      | refine XL.neB (by rfl) (by rfl) (by rfl) (by rfl) (by rfl) (by rfl) (by rfl) ?_
      | refine XL.psome (by rfl) (by rfl) (by rfl) (by rfl) (by rfl) (by rfl) (by rfl) ?_
      | refine XL.pnone (by rfl) (by rfl) (by rfl) (by rfl) (by rfl) (by rfl) (by rfl) ?_
      | refine XL.psome' (by rfl) (by rfl) (by rfl) (by rfl) (by rfl) (by rfl) (by rfl) ?_
      | refine XL.pnone' (by rfl) (by rfl) (by rfl) (by rfl) (by rfl) (by rfl) (by rfl) ?_
      | refine XL.conv64 (by rfl) (by rfl) (by rfl) (by rfl) (by rfl) (by rfl) (by rfl) (by omega) ?_)
  refine XQ.conv (fun w h => groups_shut h hU (by repeat' (first | exact Sels.nil | exact Sel.here | apply Sels.cons | apply Sel.there))) (XQ.ret1 (by rfl) (by rfl) ?_)
  exact ⟨rfl, rfl, rfl⟩
theorem size_is {p : Value} {n : Nat} {G : List Nat} {i : Int} {x : Nat} (hn : n ≤ 100000) (hx : (if 0 ≤ i ∧ i < n then G.count (G.getD i.toNat 0) else 0) = x) : Tri Try.prog 19 [p, .int .i64 i] [groups p n G] [] fun e L Φ =>
    e = .returned (.int .i64 (x : Int)) ∧ L = [groups p n G] ∧ Φ = [] := by
  subst hx
  have := size_tri (p := p) (n := n) (G := G) (i := i) hn
  split
  · rename_i h; rw [if_pos h] at this; exact this
  · rename_i h; rw [if_neg h] at this; exact this
theorem join_tri' {p : Value} {n : Nat} {G : List Nat} {a b : Int} (hn : n ≤ 100000) : Tri Try.prog 13 [p, .int .i64 a, .int .i64 b] [groups p n G] []
    (Ret (fun _ : Unit => .bool (joins n G a b)) (fun _ => [groups p n (joined n G a b)]) (fun _ => []) (fun _ => True)) := join_is hn rfl rfl
end Go.Proofs.Ytkhjnmhingdmoaa
