/- Whatever numbers are put together: the document's groups: the law's walk and its row. -/
import Derived.Test.YtkhjnmhingdmoaaU9
namespace Go.Proofs.Ytkhjnmhingdmoaa
open Go X U
attribute [local irreducible] XC XL XQ Tri blk Shows Sq Rd Mt inBlockX
attribute [local irreducible] Row rowO Tk An XA Hd
theorem join_tri' {p : Value} {n : Nat} {G : List Nat} {a b : Int} (hn : n ≤ 100000) : Tri Try.prog 13 [p, .int .i64 a, .int .i64 b] [groups p n G] []
    (Ret (fun _ : Unit => .bool (joins n G a b)) (fun _ => [groups p n (joined n G a b)]) (fun _ => []) (fun _ => True)) := join_is hn rfl rfl
theorem refFind_x {v : Value} {N : Nat} {G : List Nat} {i x : Int} (hN : N ≤ 100000) (hG : G.length = N) (hx : (if 0 ≤ i ∧ i < N then ((G.getD i.toNat 0 : Nat) : Int) else -1) = x) : Tri Try.prog 15 [v, .int .i64 i] [rowO 3 1 v N (G.map vi)] [] fun e L Φ =>
    e = .returned (.int .i64 x) ∧ L = [rowO 3 1 v N (G.map vi)] ∧ Φ = [] := by subst hx; exact refFind_is hN hG
theorem refCount_x {v : Value} {N x : Nat} {G : List Nat} (hN : N ≤ 100000) (hG : G.length = N) (hx : (List.range N).countP (fun i => G.getD i 0 == i) = x) : Tri Try.prog 18 [v] [rowO 3 1 v N (G.map vi)] [] fun e L Φ =>
    e = .returned (.int .i64 (x : Int)) ∧ L = [rowO 3 1 v N (G.map vi)] ∧ Φ = [] := by subst hx; exact refCount_is hN hG
theorem refSize_x {v : Value} {N x : Nat} {G : List Nat} {i : Int} (hN : N ≤ 100000) (hG : G.length = N) (hx : (if 0 ≤ i ∧ i < N then G.count (G.getD i.toNat 0) else 0) = x) : Tri Try.prog 20 [v, .int .i64 i] [rowO 3 1 v N (G.map vi)] [] fun e L Φ =>
    e = .returned (.int .i64 (x : Int)) ∧ L = [rowO 3 1 v N (G.map vi)] ∧ Φ = [] := by
  subst hx
  have := refSize_is (v := v) (i := i) hN hG
  split
  · rename_i h; rw [if_pos h] at this; exact this
  · rename_i h; rw [if_neg h] at this; exact this
theorem size_is {p : Value} {n : Nat} {G : List Nat} {i : Int} {x : Nat} (hn : n ≤ 100000) (hx : (if 0 ≤ i ∧ i < n then G.count (G.getD i.toNat 0) else 0) = x) : Tri Try.prog 19 [p, .int .i64 i] [groups p n G] [] fun e L Φ =>
    e = .returned (.int .i64 (x : Int)) ∧ L = [groups p n G] ∧ Φ = [] := by
  subst hx
  have := size_tri (p := p) (n := n) (G := G) (i := i) hn
  split
  · rename_i h; rw [if_pos h] at this; exact this
  · rename_i h; rw [if_neg h] at this; exact this
theorem joins_tri {n i : Int} {v : Value} {l : List (Int × Int)} : Tri Try.prog 3 [.int .i64 n, v, .int .i64 i] [] [Row.fp 2 v l.length (pcell l)] fun e L Φ => e = .returned (.bool true) ∧ L = [] ∧ Φ = [] := by
  refine Tri.of Try.func3 rfl fun c => ?_
  obtain ⟨x, hx⟩ : ∃ x : Int, (if 400 < n then 400 else n) = x := ⟨_, rfl⟩
  obtain ⟨N, hN⟩ := Int.eq_ofNat_of_zero_le (show 0 ≤ min (max x 0) 100000 by omega)
  have hN : min (max x 0) 100000 = (N : Int) := hN
  have hx4 : x ≤ 400 := by rw [← hx]; split <;> omega
  have hN4 : N ≤ 100000 := by omega
  repeat' (first
    | refine XC.seq ?_
      | refine XC.region ?_
      | refine XC.block ?_
      | refine XC.skip ?_
      | refine XC.ret ?_
      | refine XC.exit ?_
      | (refine XC.cond_d (by rfl) (fun h => ?_) (fun h => ?_) <;> try (first | (exfalso; omega) | exact absurd rfl h))
      | refine XC.cond_t (by rfl) ?_
      | refine XC.cond_f (by rfl) ?_
      | refine XQ.next ?_
      | refine XQ.blockN ?_
      | refine XQ.blockR ?_
      | refine XQ.blockE ?_
      | refine XQ.sqR ?_
      | refine XQ.sqE ?_
      | refine XQ.rdR ?_
      | refine XQ.rdE ?_
      | refine XQ.mtR ?_
      | refine XQ.mtE ?_
    | refine XL.nil ?_
      | (refine XL.guard_d (by rfl) (by rfl) (fun h => ?_) (fun h => ?_) <;> try (first | (exfalso; omega) | exact absurd rfl h))
      | refine XL.pures (by rfl) (by rfl) (by rfl) (by rfl) (by rfl) ?_
      | refine XL.not_d (by rfl) (by rfl) (by rfl) (by rfl) (by rfl) ?_
      | refine XL.pure 1 (by rfl) ?_
      | refine XL.fa0 (by rfl) (by rfl) (by rfl) (by rfl) (by rfl) (by rfl) ?_
      | refine XL.ld (by rfl) (by rfl) (by rfl) (by rfl) (by rfl) (by rfl) (by repeat (first | exact Sel.here | apply Sel.there)) (by rfl) ?_
      | refine XL.fa (by rfl) (by rfl) (by rfl) (by rfl) (by rfl) (by rfl) ?_
      | refine XL.ia1 (by rfl) (by rfl) (by rfl) (by rfl) (by rfl) (by rfl) (by rfl) (by omega) ?_
      | refine XL.ldr (by rfl) (by rfl) (by rfl) (by rfl) (by rfl) (by rfl) (by repeat (first | exact Sel.here | apply Sel.there)) (by assumption) ?_
      | refine XL.stl (by rfl) (by rfl) (by rfl) (by rfl) (by rfl) (by rfl) (by rfl) (by repeat (first | exact Sel.here | apply Sel.there)) (by rfl) ?_
      | refine XL.lenR (by rfl) (by rfl) (by rfl) (by rfl) (by rfl) (by rfl) (by rfl) (by first | exact fun w h => St.row (by repeat (first | exact Sel.here | apply Sel.there)) h | exact fun w h => St.rowF (by repeat (first | exact List.Mem.head _ | apply List.Mem.tail)) h | exact fun w h => Hd.rowF (by repeat (first | exact List.Mem.head _ | apply List.Mem.tail)) h) ?_
      | refine XL.iaR1 (by rfl) (by rfl) (by rfl) (by rfl) (by rfl) (by rfl) (by rfl) (by first | exact fun w h => St.row (by repeat (first | exact Sel.here | apply Sel.there)) h | exact fun w h => St.rowF (by repeat (first | exact List.Mem.head _ | apply List.Mem.tail)) h | exact fun w h => Hd.rowF (by repeat (first | exact List.Mem.head _ | apply List.Mem.tail)) h) (by omega) ?_
      | refine XL.iaR2 (by rfl) (by rfl) (by rfl) (by rfl) (by rfl) (by rfl) (by first | exact fun w h => St.row (by repeat (first | exact Sel.here | apply Sel.there)) h | exact fun w h => St.rowF (by repeat (first | exact List.Mem.head _ | apply List.Mem.tail)) h | exact fun w h => Hd.rowF (by repeat (first | exact List.Mem.head _ | apply List.Mem.tail)) h) (by rfl) (by omega) ?_
      | refine XL.faR (by rfl) (by rfl) (by rfl) (by rfl) (by rfl) (by rfl) (by first | exact fun w h => St.row (by repeat (first | exact Sel.here | apply Sel.there)) h | exact fun w h => St.rowF (by repeat (first | exact List.Mem.head _ | apply List.Mem.tail)) h | exact fun w h => Hd.rowF (by repeat (first | exact List.Mem.head _ | apply List.Mem.tail)) h) (by assumption) ?_
      | refine XL.ldR (by rfl) (by rfl) (by rfl) (by rfl) (by rfl) (by rfl) (by first | exact fun w h => St.row (by repeat (first | exact Sel.here | apply Sel.there)) h | exact fun w h => St.rowF (by repeat (first | exact List.Mem.head _ | apply List.Mem.tail)) h | exact fun w h => Hd.rowF (by repeat (first | exact List.Mem.head _ | apply List.Mem.tail)) h) (by assumption) ?_
      | refine XL.lenS (by rfl) (by rfl) (by rfl) (by rfl) (by rfl) (by rfl) (by rfl) ?_
      | refine XL.lenStr (by rfl) (by rfl) (by rfl) (by rfl) (by rfl) (by rfl) (by rfl) ?_
      | refine XL.succ (by rfl) (by rfl) (by rfl) (by rfl) (by rfl) (by rfl) (by omega) ?_
      | refine XL.addn (by rfl) (by rfl) (by rfl) (by rfl) (by rfl) (by rfl) (by omega) ?_
      | refine XL.add (by rfl) (by rfl) (by rfl) (by rfl) (by rfl) (by rfl) (by omega) ?_
      | refine XL.pred (by rfl) (by rfl) (by rfl) (by rfl) (by rfl) (by rfl) (by omega) ?_
      | refine XL.sub (by rfl) (by rfl) (by rfl) (by rfl) (by rfl) (by rfl) (by omega) ?_
      | refine XL.min2 (by rfl) (by rfl) (by rfl) (by rfl) (by rfl) (by rfl) ?_
      | refine XL.max2 (by rfl) (by rfl) (by rfl) (by rfl) (by rfl) (by rfl) ?_
      | refine XL.eqB (by rfl) (by rfl) (by rfl) (by rfl) (by rfl) (by rfl) (by rfl) ?_
      | refine XL.neB (by rfl) (by rfl) (by rfl) (by rfl) (by rfl) (by rfl) (by rfl) ?_
      | refine XL.psome (by rfl) (by rfl) (by rfl) (by rfl) (by rfl) (by rfl) (by rfl) ?_
      | refine XL.pnone (by rfl) (by rfl) (by rfl) (by rfl) (by rfl) (by rfl) (by rfl) ?_
      | refine XL.psome' (by rfl) (by rfl) (by rfl) (by rfl) (by rfl) (by rfl) (by rfl) ?_
      | refine XL.pnone' (by rfl) (by rfl) (by rfl) (by rfl) (by rfl) (by rfl) (by rfl) ?_
      | refine XL.conv64 (by rfl) (by rfl) (by rfl) (by rfl) (by rfl) (by rfl) (by rfl) (by omega) ?_)
  refine XL.triq (shown_tri) (by rfl) (by rfl) (by rfl) (by rfl) (by rfl) (by rfl) (by rfl) (by repeat' (first | exact Sels.nil | exact Sel.here | apply Sels.cons | apply Sel.there)) (by repeat' (first | exact Sels.nil | exact Sel.here | apply Sels.cons | apply Sel.there)) (fun _ h => nomatch h) ?_
  repeat' (first
    | refine XC.seq ?_
    | refine XC.region ?_
    | refine XQ.next ?_
    | refine XQ.blockN ?_
    | refine XL.nil ?_
      | (refine XL.guard_d (by rfl) (by rfl) (fun h => ?_) (fun h => ?_) <;> try (first | (exfalso; omega) | exact absurd rfl h))
      | refine XL.pures (by rfl) (by rfl) (by rfl) (by rfl) (by rfl) ?_
      | refine XL.not_d (by rfl) (by rfl) (by rfl) (by rfl) (by rfl) ?_
      | refine XL.pure 1 (by rfl) ?_
      | refine XL.fa0 (by rfl) (by rfl) (by rfl) (by rfl) (by rfl) (by rfl) ?_
      | refine XL.ld (by rfl) (by rfl) (by rfl) (by rfl) (by rfl) (by rfl) (by repeat (first | exact Sel.here | apply Sel.there)) (by rfl) ?_
      | refine XL.fa (by rfl) (by rfl) (by rfl) (by rfl) (by rfl) (by rfl) ?_
      | refine XL.ia1 (by rfl) (by rfl) (by rfl) (by rfl) (by rfl) (by rfl) (by rfl) (by omega) ?_
      | refine XL.ldr (by rfl) (by rfl) (by rfl) (by rfl) (by rfl) (by rfl) (by repeat (first | exact Sel.here | apply Sel.there)) (by assumption) ?_
      | refine XL.stl (by rfl) (by rfl) (by rfl) (by rfl) (by rfl) (by rfl) (by rfl) (by repeat (first | exact Sel.here | apply Sel.there)) (by rfl) ?_
      | refine XL.lenR (by rfl) (by rfl) (by rfl) (by rfl) (by rfl) (by rfl) (by rfl) (by first | exact fun w h => St.row (by repeat (first | exact Sel.here | apply Sel.there)) h | exact fun w h => St.rowF (by repeat (first | exact List.Mem.head _ | apply List.Mem.tail)) h | exact fun w h => Hd.rowF (by repeat (first | exact List.Mem.head _ | apply List.Mem.tail)) h) ?_
      | refine XL.iaR1 (by rfl) (by rfl) (by rfl) (by rfl) (by rfl) (by rfl) (by rfl) (by first | exact fun w h => St.row (by repeat (first | exact Sel.here | apply Sel.there)) h | exact fun w h => St.rowF (by repeat (first | exact List.Mem.head _ | apply List.Mem.tail)) h | exact fun w h => Hd.rowF (by repeat (first | exact List.Mem.head _ | apply List.Mem.tail)) h) (by omega) ?_
      | refine XL.iaR2 (by rfl) (by rfl) (by rfl) (by rfl) (by rfl) (by rfl) (by first | exact fun w h => St.row (by repeat (first | exact Sel.here | apply Sel.there)) h | exact fun w h => St.rowF (by repeat (first | exact List.Mem.head _ | apply List.Mem.tail)) h | exact fun w h => Hd.rowF (by repeat (first | exact List.Mem.head _ | apply List.Mem.tail)) h) (by rfl) (by omega) ?_
      | refine XL.faR (by rfl) (by rfl) (by rfl) (by rfl) (by rfl) (by rfl) (by first | exact fun w h => St.row (by repeat (first | exact Sel.here | apply Sel.there)) h | exact fun w h => St.rowF (by repeat (first | exact List.Mem.head _ | apply List.Mem.tail)) h | exact fun w h => Hd.rowF (by repeat (first | exact List.Mem.head _ | apply List.Mem.tail)) h) (by assumption) ?_
      | refine XL.ldR (by rfl) (by rfl) (by rfl) (by rfl) (by rfl) (by rfl) (by first | exact fun w h => St.row (by repeat (first | exact Sel.here | apply Sel.there)) h | exact fun w h => St.rowF (by repeat (first | exact List.Mem.head _ | apply List.Mem.tail)) h | exact fun w h => Hd.rowF (by repeat (first | exact List.Mem.head _ | apply List.Mem.tail)) h) (by assumption) ?_
      | refine XL.lenS (by rfl) (by rfl) (by rfl) (by rfl) (by rfl) (by rfl) (by rfl) ?_
      | refine XL.lenStr (by rfl) (by rfl) (by rfl) (by rfl) (by rfl) (by rfl) (by rfl) ?_
      | refine XL.succ (by rfl) (by rfl) (by rfl) (by rfl) (by rfl) (by rfl) (by omega) ?_
      | refine XL.addn (by rfl) (by rfl) (by rfl) (by rfl) (by rfl) (by rfl) (by omega) ?_
      | refine XL.add (by rfl) (by rfl) (by rfl) (by rfl) (by rfl) (by rfl) (by omega) ?_
      | refine XL.pred (by rfl) (by rfl) (by rfl) (by rfl) (by rfl) (by rfl) (by omega) ?_
      | refine XL.sub (by rfl) (by rfl) (by rfl) (by rfl) (by rfl) (by rfl) (by omega) ?_
      | refine XL.min2 (by rfl) (by rfl) (by rfl) (by rfl) (by rfl) (by rfl) ?_
      | refine XL.max2 (by rfl) (by rfl) (by rfl) (by rfl) (by rfl) (by rfl) ?_
      | refine XL.eqB (by rfl) (by rfl) (by rfl) (by rfl) (by rfl) (by rfl) (by rfl) ?_
      | refine XL.neB (by rfl) (by rfl) (by rfl) (by rfl) (by rfl) (by rfl) (by rfl) ?_
      | refine XL.psome (by rfl) (by rfl) (by rfl) (by rfl) (by rfl) (by rfl) (by rfl) ?_
      | refine XL.pnone (by rfl) (by rfl) (by rfl) (by rfl) (by rfl) (by rfl) (by rfl) ?_
      | refine XL.psome' (by rfl) (by rfl) (by rfl) (by rfl) (by rfl) (by rfl) (by rfl) ?_
      | refine XL.pnone' (by rfl) (by rfl) (by rfl) (by rfl) (by rfl) (by rfl) (by rfl) ?_
      | refine XL.conv64 (by rfl) (by rfl) (by rfl) (by rfl) (by rfl) (by rfl) (by rfl) (by omega) ?_)
  refine XC.cutS (fun _ : Unit => [(0, .int .i64 x), (1, v), (2, .int .i64 i), (7, .bool true)]) (fun _ => St c [] [Row.fp 2 v l.length (pcell l)]) ?_ ?_
  · repeat' (first
    | refine XC.seq ?_
      | refine XC.region ?_
      | refine XC.block ?_
      | refine XC.skip ?_
      | refine XC.ret ?_
      | refine XC.exit ?_
      | (refine XC.cond_d (by rfl) (fun h => ?_) (fun h => ?_) <;> try (first | (exfalso; omega) | exact absurd rfl h))
      | refine XC.cond_t (by rfl) ?_
      | refine XC.cond_f (by rfl) ?_
      | refine XQ.next ?_
      | refine XQ.blockN ?_
      | refine XQ.blockR ?_
      | refine XQ.blockE ?_
      | refine XQ.sqR ?_
      | refine XQ.sqE ?_
      | refine XQ.rdR ?_
      | refine XQ.rdE ?_
      | refine XQ.mtR ?_
      | refine XQ.mtE ?_
    | refine XL.nil ?_
      | (refine XL.guard_d (by rfl) (by rfl) (fun h => ?_) (fun h => ?_) <;> try (first | (exfalso; omega) | exact absurd rfl h))
      | refine XL.pures (by rfl) (by rfl) (by rfl) (by rfl) (by rfl) ?_
      | refine XL.not_d (by rfl) (by rfl) (by rfl) (by rfl) (by rfl) ?_
      | refine XL.pure 1 (by rfl) ?_
      | refine XL.fa0 (by rfl) (by rfl) (by rfl) (by rfl) (by rfl) (by rfl) ?_
      | refine XL.ld (by rfl) (by rfl) (by rfl) (by rfl) (by rfl) (by rfl) (by repeat (first | exact Sel.here | apply Sel.there)) (by rfl) ?_
      | refine XL.fa (by rfl) (by rfl) (by rfl) (by rfl) (by rfl) (by rfl) ?_
      | refine XL.ia1 (by rfl) (by rfl) (by rfl) (by rfl) (by rfl) (by rfl) (by rfl) (by omega) ?_
      | refine XL.ldr (by rfl) (by rfl) (by rfl) (by rfl) (by rfl) (by rfl) (by repeat (first | exact Sel.here | apply Sel.there)) (by assumption) ?_
      | refine XL.stl (by rfl) (by rfl) (by rfl) (by rfl) (by rfl) (by rfl) (by rfl) (by repeat (first | exact Sel.here | apply Sel.there)) (by rfl) ?_
      | refine XL.lenR (by rfl) (by rfl) (by rfl) (by rfl) (by rfl) (by rfl) (by rfl) (by first | exact fun w h => St.row (by repeat (first | exact Sel.here | apply Sel.there)) h | exact fun w h => St.rowF (by repeat (first | exact List.Mem.head _ | apply List.Mem.tail)) h | exact fun w h => Hd.rowF (by repeat (first | exact List.Mem.head _ | apply List.Mem.tail)) h) ?_
      | refine XL.iaR1 (by rfl) (by rfl) (by rfl) (by rfl) (by rfl) (by rfl) (by rfl) (by first | exact fun w h => St.row (by repeat (first | exact Sel.here | apply Sel.there)) h | exact fun w h => St.rowF (by repeat (first | exact List.Mem.head _ | apply List.Mem.tail)) h | exact fun w h => Hd.rowF (by repeat (first | exact List.Mem.head _ | apply List.Mem.tail)) h) (by omega) ?_
      | refine XL.iaR2 (by rfl) (by rfl) (by rfl) (by rfl) (by rfl) (by rfl) (by first | exact fun w h => St.row (by repeat (first | exact Sel.here | apply Sel.there)) h | exact fun w h => St.rowF (by repeat (first | exact List.Mem.head _ | apply List.Mem.tail)) h | exact fun w h => Hd.rowF (by repeat (first | exact List.Mem.head _ | apply List.Mem.tail)) h) (by rfl) (by omega) ?_
      | refine XL.faR (by rfl) (by rfl) (by rfl) (by rfl) (by rfl) (by rfl) (by first | exact fun w h => St.row (by repeat (first | exact Sel.here | apply Sel.there)) h | exact fun w h => St.rowF (by repeat (first | exact List.Mem.head _ | apply List.Mem.tail)) h | exact fun w h => Hd.rowF (by repeat (first | exact List.Mem.head _ | apply List.Mem.tail)) h) (by assumption) ?_
      | refine XL.ldR (by rfl) (by rfl) (by rfl) (by rfl) (by rfl) (by rfl) (by first | exact fun w h => St.row (by repeat (first | exact Sel.here | apply Sel.there)) h | exact fun w h => St.rowF (by repeat (first | exact List.Mem.head _ | apply List.Mem.tail)) h | exact fun w h => Hd.rowF (by repeat (first | exact List.Mem.head _ | apply List.Mem.tail)) h) (by assumption) ?_
      | refine XL.lenS (by rfl) (by rfl) (by rfl) (by rfl) (by rfl) (by rfl) (by rfl) ?_
      | refine XL.lenStr (by rfl) (by rfl) (by rfl) (by rfl) (by rfl) (by rfl) (by rfl) ?_
      | refine XL.succ (by rfl) (by rfl) (by rfl) (by rfl) (by rfl) (by rfl) (by omega) ?_
      | refine XL.addn (by rfl) (by rfl) (by rfl) (by rfl) (by rfl) (by rfl) (by omega) ?_
      | refine XL.add (by rfl) (by rfl) (by rfl) (by rfl) (by rfl) (by rfl) (by omega) ?_
      | refine XL.pred (by rfl) (by rfl) (by rfl) (by rfl) (by rfl) (by rfl) (by omega) ?_
      | refine XL.sub (by rfl) (by rfl) (by rfl) (by rfl) (by rfl) (by rfl) (by omega) ?_
      | refine XL.min2 (by rfl) (by rfl) (by rfl) (by rfl) (by rfl) (by rfl) ?_
      | refine XL.max2 (by rfl) (by rfl) (by rfl) (by rfl) (by rfl) (by rfl) ?_
      | refine XL.eqB (by rfl) (by rfl) (by rfl) (by rfl) (by rfl) (by rfl) (by rfl) ?_
      | refine XL.neB (by rfl) (by rfl) (by rfl) (by rfl) (by rfl) (by rfl) (by rfl) ?_
      | refine XL.psome (by rfl) (by rfl) (by rfl) (by rfl) (by rfl) (by rfl) (by rfl) ?_
      | refine XL.pnone (by rfl) (by rfl) (by rfl) (by rfl) (by rfl) (by rfl) (by rfl) ?_
      | refine XL.psome' (by rfl) (by rfl) (by rfl) (by rfl) (by rfl) (by rfl) (by rfl) ?_
      | refine XL.pnone' (by rfl) (by rfl) (by rfl) (by rfl) (by rfl) (by rfl) (by rfl) ?_
      | refine XL.conv64 (by rfl) (by rfl) (by rfl) (by rfl) (by rfl) (by rfl) (by rfl) (by omega) ?_)
    · rw [if_pos (by omega)] at hx
      subst hx
      exact XQ.meet () (by repeat (first | exact fits_nil | refine fits_cons (by rfl) ?_)) (fun w h => h)
    · rw [if_neg (by omega)] at hx
      subst hx
      exact XQ.meet () (by repeat (first | exact fits_nil | refine fits_cons (by rfl) ?_)) (fun w h => h)
  rintro -
  repeat' (first
    | refine XC.seq ?_
      | refine XC.region ?_
      | refine XC.block ?_
      | refine XC.skip ?_
      | refine XC.ret ?_
      | refine XC.exit ?_
      | (refine XC.cond_d (by rfl) (fun h => ?_) (fun h => ?_) <;> try (first | (exfalso; omega) | exact absurd rfl h))
      | refine XC.cond_t (by rfl) ?_
      | refine XC.cond_f (by rfl) ?_
      | refine XQ.next ?_
      | refine XQ.blockN ?_
      | refine XQ.blockR ?_
      | refine XQ.blockE ?_
      | refine XQ.sqR ?_
      | refine XQ.sqE ?_
      | refine XQ.rdR ?_
      | refine XQ.rdE ?_
      | refine XQ.mtR ?_
      | refine XQ.mtE ?_
    | refine XL.nil ?_
      | (refine XL.guard_d (by rfl) (by rfl) (fun h => ?_) (fun h => ?_) <;> try (first | (exfalso; omega) | exact absurd rfl h))
      | refine XL.pures (by rfl) (by rfl) (by rfl) (by rfl) (by rfl) ?_
      | refine XL.not_d (by rfl) (by rfl) (by rfl) (by rfl) (by rfl) ?_
      | refine XL.pure 1 (by rfl) ?_
      | refine XL.fa0 (by rfl) (by rfl) (by rfl) (by rfl) (by rfl) (by rfl) ?_
      | refine XL.ld (by rfl) (by rfl) (by rfl) (by rfl) (by rfl) (by rfl) (by repeat (first | exact Sel.here | apply Sel.there)) (by rfl) ?_
      | refine XL.fa (by rfl) (by rfl) (by rfl) (by rfl) (by rfl) (by rfl) ?_
      | refine XL.ia1 (by rfl) (by rfl) (by rfl) (by rfl) (by rfl) (by rfl) (by rfl) (by omega) ?_
      | refine XL.ldr (by rfl) (by rfl) (by rfl) (by rfl) (by rfl) (by rfl) (by repeat (first | exact Sel.here | apply Sel.there)) (by assumption) ?_
      | refine XL.stl (by rfl) (by rfl) (by rfl) (by rfl) (by rfl) (by rfl) (by rfl) (by repeat (first | exact Sel.here | apply Sel.there)) (by rfl) ?_
      | refine XL.lenR (by rfl) (by rfl) (by rfl) (by rfl) (by rfl) (by rfl) (by rfl) (by first | exact fun w h => St.row (by repeat (first | exact Sel.here | apply Sel.there)) h | exact fun w h => St.rowF (by repeat (first | exact List.Mem.head _ | apply List.Mem.tail)) h | exact fun w h => Hd.rowF (by repeat (first | exact List.Mem.head _ | apply List.Mem.tail)) h) ?_
      | refine XL.iaR1 (by rfl) (by rfl) (by rfl) (by rfl) (by rfl) (by rfl) (by rfl) (by first | exact fun w h => St.row (by repeat (first | exact Sel.here | apply Sel.there)) h | exact fun w h => St.rowF (by repeat (first | exact List.Mem.head _ | apply List.Mem.tail)) h | exact fun w h => Hd.rowF (by repeat (first | exact List.Mem.head _ | apply List.Mem.tail)) h) (by omega) ?_
      | refine XL.iaR2 (by rfl) (by rfl) (by rfl) (by rfl) (by rfl) (by rfl) (by first | exact fun w h => St.row (by repeat (first | exact Sel.here | apply Sel.there)) h | exact fun w h => St.rowF (by repeat (first | exact List.Mem.head _ | apply List.Mem.tail)) h | exact fun w h => Hd.rowF (by repeat (first | exact List.Mem.head _ | apply List.Mem.tail)) h) (by rfl) (by omega) ?_
      | refine XL.faR (by rfl) (by rfl) (by rfl) (by rfl) (by rfl) (by rfl) (by first | exact fun w h => St.row (by repeat (first | exact Sel.here | apply Sel.there)) h | exact fun w h => St.rowF (by repeat (first | exact List.Mem.head _ | apply List.Mem.tail)) h | exact fun w h => Hd.rowF (by repeat (first | exact List.Mem.head _ | apply List.Mem.tail)) h) (by assumption) ?_
      | refine XL.ldR (by rfl) (by rfl) (by rfl) (by rfl) (by rfl) (by rfl) (by first | exact fun w h => St.row (by repeat (first | exact Sel.here | apply Sel.there)) h | exact fun w h => St.rowF (by repeat (first | exact List.Mem.head _ | apply List.Mem.tail)) h | exact fun w h => Hd.rowF (by repeat (first | exact List.Mem.head _ | apply List.Mem.tail)) h) (by assumption) ?_
      | refine XL.lenS (by rfl) (by rfl) (by rfl) (by rfl) (by rfl) (by rfl) (by rfl) ?_
      | refine XL.lenStr (by rfl) (by rfl) (by rfl) (by rfl) (by rfl) (by rfl) (by rfl) ?_
      | refine XL.succ (by rfl) (by rfl) (by rfl) (by rfl) (by rfl) (by rfl) (by omega) ?_
      | refine XL.addn (by rfl) (by rfl) (by rfl) (by rfl) (by rfl) (by rfl) (by omega) ?_
      | refine XL.add (by rfl) (by rfl) (by rfl) (by rfl) (by rfl) (by rfl) (by omega) ?_
      | refine XL.pred (by rfl) (by rfl) (by rfl) (by rfl) (by rfl) (by rfl) (by omega) ?_
      | refine XL.sub (by rfl) (by rfl) (by rfl) (by rfl) (by rfl) (by rfl) (by omega) ?_
      | refine XL.min2 (by rfl) (by rfl) (by rfl) (by rfl) (by rfl) (by rfl) ?_
      | refine XL.max2 (by rfl) (by rfl) (by rfl) (by rfl) (by rfl) (by rfl) ?_
      | refine XL.eqB (by rfl) (by rfl) (by rfl) (by rfl) (by rfl) (by rfl) (by rfl) ?_
      | refine XL.neB (by rfl) (by rfl) (by rfl) (by rfl) (by rfl) (by rfl) (by rfl) ?_
      | refine XL.psome (by rfl) (by rfl) (by rfl) (by rfl) (by rfl) (by rfl) (by rfl) ?_
      | refine XL.pnone (by rfl) (by rfl) (by rfl) (by rfl) (by rfl) (by rfl) (by rfl) ?_
      | refine XL.psome' (by rfl) (by rfl) (by rfl) (by rfl) (by rfl) (by rfl) (by rfl) ?_
      | refine XL.pnone' (by rfl) (by rfl) (by rfl) (by rfl) (by rfl) (by rfl) (by rfl) ?_
      | refine XL.conv64 (by rfl) (by rfl) (by rfl) (by rfl) (by rfl) (by rfl) (by rfl) (by omega) ?_)
  refine XL.trir (new_is (i := x) hN) (by rfl) (by rfl) (by rfl) (by rfl) (by rfl) (by rfl) (by rfl) (by repeat' (first | exact Sels.nil | exact Sel.here | apply Sels.cons | apply Sel.there)) (fun _ h => nomatch h) ?_
  rintro gb -
  conv => arg 9; dsimp only [List.cons_append, List.nil_append]
  try conv => arg 7; dsimp only
  repeat' (first
    | refine XC.seq ?_
      | refine XC.region ?_
      | refine XC.block ?_
      | refine XC.skip ?_
      | refine XC.ret ?_
      | refine XC.exit ?_
      | (refine XC.cond_d (by rfl) (fun h => ?_) (fun h => ?_) <;> try (first | (exfalso; omega) | exact absurd rfl h))
      | refine XC.cond_t (by rfl) ?_
      | refine XC.cond_f (by rfl) ?_
      | refine XQ.next ?_
      | refine XQ.blockN ?_
      | refine XQ.blockR ?_
      | refine XQ.blockE ?_
      | refine XQ.sqR ?_
      | refine XQ.sqE ?_
      | refine XQ.rdR ?_
      | refine XQ.rdE ?_
      | refine XQ.mtR ?_
      | refine XQ.mtE ?_
    | refine XL.nil ?_
      | (refine XL.guard_d (by rfl) (by rfl) (fun h => ?_) (fun h => ?_) <;> try (first | (exfalso; omega) | exact absurd rfl h))
      | refine XL.pures (by rfl) (by rfl) (by rfl) (by rfl) (by rfl) ?_
      | refine XL.not_d (by rfl) (by rfl) (by rfl) (by rfl) (by rfl) ?_
      | refine XL.pure 1 (by rfl) ?_
      | refine XL.fa0 (by rfl) (by rfl) (by rfl) (by rfl) (by rfl) (by rfl) ?_
      | refine XL.ld (by rfl) (by rfl) (by rfl) (by rfl) (by rfl) (by rfl) (by repeat (first | exact Sel.here | apply Sel.there)) (by rfl) ?_
      | refine XL.fa (by rfl) (by rfl) (by rfl) (by rfl) (by rfl) (by rfl) ?_
      | refine XL.ia1 (by rfl) (by rfl) (by rfl) (by rfl) (by rfl) (by rfl) (by rfl) (by omega) ?_
      | refine XL.ldr (by rfl) (by rfl) (by rfl) (by rfl) (by rfl) (by rfl) (by repeat (first | exact Sel.here | apply Sel.there)) (by assumption) ?_
      | refine XL.stl (by rfl) (by rfl) (by rfl) (by rfl) (by rfl) (by rfl) (by rfl) (by repeat (first | exact Sel.here | apply Sel.there)) (by rfl) ?_
      | refine XL.lenR (by rfl) (by rfl) (by rfl) (by rfl) (by rfl) (by rfl) (by rfl) (by first | exact fun w h => St.row (by repeat (first | exact Sel.here | apply Sel.there)) h | exact fun w h => St.rowF (by repeat (first | exact List.Mem.head _ | apply List.Mem.tail)) h | exact fun w h => Hd.rowF (by repeat (first | exact List.Mem.head _ | apply List.Mem.tail)) h) ?_
      | refine XL.iaR1 (by rfl) (by rfl) (by rfl) (by rfl) (by rfl) (by rfl) (by rfl) (by first | exact fun w h => St.row (by repeat (first | exact Sel.here | apply Sel.there)) h | exact fun w h => St.rowF (by repeat (first | exact List.Mem.head _ | apply List.Mem.tail)) h | exact fun w h => Hd.rowF (by repeat (first | exact List.Mem.head _ | apply List.Mem.tail)) h) (by omega) ?_
      | refine XL.iaR2 (by rfl) (by rfl) (by rfl) (by rfl) (by rfl) (by rfl) (by first | exact fun w h => St.row (by repeat (first | exact Sel.here | apply Sel.there)) h | exact fun w h => St.rowF (by repeat (first | exact List.Mem.head _ | apply List.Mem.tail)) h | exact fun w h => Hd.rowF (by repeat (first | exact List.Mem.head _ | apply List.Mem.tail)) h) (by rfl) (by omega) ?_
      | refine XL.faR (by rfl) (by rfl) (by rfl) (by rfl) (by rfl) (by rfl) (by first | exact fun w h => St.row (by repeat (first | exact Sel.here | apply Sel.there)) h | exact fun w h => St.rowF (by repeat (first | exact List.Mem.head _ | apply List.Mem.tail)) h | exact fun w h => Hd.rowF (by repeat (first | exact List.Mem.head _ | apply List.Mem.tail)) h) (by assumption) ?_
      | refine XL.ldR (by rfl) (by rfl) (by rfl) (by rfl) (by rfl) (by rfl) (by first | exact fun w h => St.row (by repeat (first | exact Sel.here | apply Sel.there)) h | exact fun w h => St.rowF (by repeat (first | exact List.Mem.head _ | apply List.Mem.tail)) h | exact fun w h => Hd.rowF (by repeat (first | exact List.Mem.head _ | apply List.Mem.tail)) h) (by assumption) ?_
      | refine XL.lenS (by rfl) (by rfl) (by rfl) (by rfl) (by rfl) (by rfl) (by rfl) ?_
      | refine XL.lenStr (by rfl) (by rfl) (by rfl) (by rfl) (by rfl) (by rfl) (by rfl) ?_
      | refine XL.succ (by rfl) (by rfl) (by rfl) (by rfl) (by rfl) (by rfl) (by omega) ?_
      | refine XL.addn (by rfl) (by rfl) (by rfl) (by rfl) (by rfl) (by rfl) (by omega) ?_
      | refine XL.add (by rfl) (by rfl) (by rfl) (by rfl) (by rfl) (by rfl) (by omega) ?_
      | refine XL.pred (by rfl) (by rfl) (by rfl) (by rfl) (by rfl) (by rfl) (by omega) ?_
      | refine XL.sub (by rfl) (by rfl) (by rfl) (by rfl) (by rfl) (by rfl) (by omega) ?_
      | refine XL.min2 (by rfl) (by rfl) (by rfl) (by rfl) (by rfl) (by rfl) ?_
      | refine XL.max2 (by rfl) (by rfl) (by rfl) (by rfl) (by rfl) (by rfl) ?_
      | refine XL.eqB (by rfl) (by rfl) (by rfl) (by rfl) (by rfl) (by rfl) (by rfl) ?_
      | refine XL.neB (by rfl) (by rfl) (by rfl) (by rfl) (by rfl) (by rfl) (by rfl) ?_
      | refine XL.psome (by rfl) (by rfl) (by rfl) (by rfl) (by rfl) (by rfl) (by rfl) ?_
      | refine XL.pnone (by rfl) (by rfl) (by rfl) (by rfl) (by rfl) (by rfl) (by rfl) ?_
      | refine XL.psome' (by rfl) (by rfl) (by rfl) (by rfl) (by rfl) (by rfl) (by rfl) ?_
      | refine XL.pnone' (by rfl) (by rfl) (by rfl) (by rfl) (by rfl) (by rfl) (by rfl) ?_
      | refine XL.conv64 (by rfl) (by rfl) (by rfl) (by rfl) (by rfl) (by rfl) (by rfl) (by omega) ?_)
  refine XL.trir (refNew_is (i := x) hN) (by rfl) (by rfl) (by rfl) (by rfl) (by rfl) (by rfl) (by rfl) (by repeat' (first | exact Sels.nil | exact Sel.here | apply Sels.cons | apply Sel.there)) (fun _ h => nomatch h) ?_
  rintro v0 -
  conv => arg 9; dsimp only [List.cons_append, List.nil_append]
  try conv => arg 7; dsimp only
  repeat' (first
    | refine XC.seq ?_
    | refine XC.region ?_
    | refine XQ.next ?_
    | refine XQ.blockN ?_
    | refine XL.nil ?_
      | (refine XL.guard_d (by rfl) (by rfl) (fun h => ?_) (fun h => ?_) <;> try (first | (exfalso; omega) | exact absurd rfl h))
      | refine XL.pures (by rfl) (by rfl) (by rfl) (by rfl) (by rfl) ?_
      | refine XL.not_d (by rfl) (by rfl) (by rfl) (by rfl) (by rfl) ?_
      | refine XL.pure 1 (by rfl) ?_
      | refine XL.fa0 (by rfl) (by rfl) (by rfl) (by rfl) (by rfl) (by rfl) ?_
      | refine XL.ld (by rfl) (by rfl) (by rfl) (by rfl) (by rfl) (by rfl) (by repeat (first | exact Sel.here | apply Sel.there)) (by rfl) ?_
      | refine XL.fa (by rfl) (by rfl) (by rfl) (by rfl) (by rfl) (by rfl) ?_
      | refine XL.ia1 (by rfl) (by rfl) (by rfl) (by rfl) (by rfl) (by rfl) (by rfl) (by omega) ?_
      | refine XL.ldr (by rfl) (by rfl) (by rfl) (by rfl) (by rfl) (by rfl) (by repeat (first | exact Sel.here | apply Sel.there)) (by assumption) ?_
      | refine XL.stl (by rfl) (by rfl) (by rfl) (by rfl) (by rfl) (by rfl) (by rfl) (by repeat (first | exact Sel.here | apply Sel.there)) (by rfl) ?_
      | refine XL.lenR (by rfl) (by rfl) (by rfl) (by rfl) (by rfl) (by rfl) (by rfl) (by first | exact fun w h => St.row (by repeat (first | exact Sel.here | apply Sel.there)) h | exact fun w h => St.rowF (by repeat (first | exact List.Mem.head _ | apply List.Mem.tail)) h | exact fun w h => Hd.rowF (by repeat (first | exact List.Mem.head _ | apply List.Mem.tail)) h) ?_
      | refine XL.iaR1 (by rfl) (by rfl) (by rfl) (by rfl) (by rfl) (by rfl) (by rfl) (by first | exact fun w h => St.row (by repeat (first | exact Sel.here | apply Sel.there)) h | exact fun w h => St.rowF (by repeat (first | exact List.Mem.head _ | apply List.Mem.tail)) h | exact fun w h => Hd.rowF (by repeat (first | exact List.Mem.head _ | apply List.Mem.tail)) h) (by omega) ?_
      | refine XL.iaR2 (by rfl) (by rfl) (by rfl) (by rfl) (by rfl) (by rfl) (by first | exact fun w h => St.row (by repeat (first | exact Sel.here | apply Sel.there)) h | exact fun w h => St.rowF (by repeat (first | exact List.Mem.head _ | apply List.Mem.tail)) h | exact fun w h => Hd.rowF (by repeat (first | exact List.Mem.head _ | apply List.Mem.tail)) h) (by rfl) (by omega) ?_
      | refine XL.faR (by rfl) (by rfl) (by rfl) (by rfl) (by rfl) (by rfl) (by first | exact fun w h => St.row (by repeat (first | exact Sel.here | apply Sel.there)) h | exact fun w h => St.rowF (by repeat (first | exact List.Mem.head _ | apply List.Mem.tail)) h | exact fun w h => Hd.rowF (by repeat (first | exact List.Mem.head _ | apply List.Mem.tail)) h) (by assumption) ?_
      | refine XL.ldR (by rfl) (by rfl) (by rfl) (by rfl) (by rfl) (by rfl) (by first | exact fun w h => St.row (by repeat (first | exact Sel.here | apply Sel.there)) h | exact fun w h => St.rowF (by repeat (first | exact List.Mem.head _ | apply List.Mem.tail)) h | exact fun w h => Hd.rowF (by repeat (first | exact List.Mem.head _ | apply List.Mem.tail)) h) (by assumption) ?_
      | refine XL.lenS (by rfl) (by rfl) (by rfl) (by rfl) (by rfl) (by rfl) (by rfl) ?_
      | refine XL.lenStr (by rfl) (by rfl) (by rfl) (by rfl) (by rfl) (by rfl) (by rfl) ?_
      | refine XL.succ (by rfl) (by rfl) (by rfl) (by rfl) (by rfl) (by rfl) (by omega) ?_
      | refine XL.addn (by rfl) (by rfl) (by rfl) (by rfl) (by rfl) (by rfl) (by omega) ?_
      | refine XL.add (by rfl) (by rfl) (by rfl) (by rfl) (by rfl) (by rfl) (by omega) ?_
      | refine XL.pred (by rfl) (by rfl) (by rfl) (by rfl) (by rfl) (by rfl) (by omega) ?_
      | refine XL.sub (by rfl) (by rfl) (by rfl) (by rfl) (by rfl) (by rfl) (by omega) ?_
      | refine XL.min2 (by rfl) (by rfl) (by rfl) (by rfl) (by rfl) (by rfl) ?_
      | refine XL.max2 (by rfl) (by rfl) (by rfl) (by rfl) (by rfl) (by rfl) ?_
      | refine XL.eqB (by rfl) (by rfl) (by rfl) (by rfl) (by rfl) (by rfl) (by rfl) ?_
      | refine XL.neB (by rfl) (by rfl) (by rfl) (by rfl) (by rfl) (by rfl) (by rfl) ?_
      | refine XL.psome (by rfl) (by rfl) (by rfl) (by rfl) (by rfl) (by rfl) (by rfl) ?_
      | refine XL.pnone (by rfl) (by rfl) (by rfl) (by rfl) (by rfl) (by rfl) (by rfl) ?_
      | refine XL.psome' (by rfl) (by rfl) (by rfl) (by rfl) (by rfl) (by rfl) (by rfl) ?_
      | refine XL.pnone' (by rfl) (by rfl) (by rfl) (by rfl) (by rfl) (by rfl) (by rfl) ?_
      | refine XL.conv64 (by rfl) (by rfl) (by rfl) (by rfl) (by rfl) (by rfl) (by rfl) (by omega) ?_)
  refine XC.cutS (fun y : Nat × Value => [(1, v), (2, .int .i64 i), (7, .bool true), (8, .pointer (some ⟨gb, 0, none⟩)), (9, y.2)])
    (fun y => St c [rowO 3 1 y.2 N ((grp N l y.1).map vi), groups (.pointer (some ⟨gb, 0, none⟩)) N (grp N l y.1)] [Row.fp 2 v l.length (pcell l)]) ?_ ?_
  · repeat' (first
    | refine XC.seq ?_
      | refine XC.region ?_
      | refine XC.block ?_
      | refine XC.skip ?_
      | refine XC.ret ?_
      | refine XC.exit ?_
      | (refine XC.cond_d (by rfl) (fun h => ?_) (fun h => ?_) <;> try (first | (exfalso; omega) | exact absurd rfl h))
      | refine XC.cond_t (by rfl) ?_
      | refine XC.cond_f (by rfl) ?_
      | refine XQ.next ?_
      | refine XQ.blockN ?_
      | refine XQ.blockR ?_
      | refine XQ.blockE ?_
      | refine XQ.sqR ?_
      | refine XQ.sqE ?_
      | refine XQ.rdR ?_
      | refine XQ.rdE ?_
      | refine XQ.mtR ?_
      | refine XQ.mtE ?_
    | refine XL.nil ?_
      | (refine XL.guard_d (by rfl) (by rfl) (fun h => ?_) (fun h => ?_) <;> try (first | (exfalso; omega) | exact absurd rfl h))
      | refine XL.pures (by rfl) (by rfl) (by rfl) (by rfl) (by rfl) ?_
      | refine XL.not_d (by rfl) (by rfl) (by rfl) (by rfl) (by rfl) ?_
      | refine XL.pure 1 (by rfl) ?_
      | refine XL.fa0 (by rfl) (by rfl) (by rfl) (by rfl) (by rfl) (by rfl) ?_
      | refine XL.ld (by rfl) (by rfl) (by rfl) (by rfl) (by rfl) (by rfl) (by repeat (first | exact Sel.here | apply Sel.there)) (by rfl) ?_
      | refine XL.fa (by rfl) (by rfl) (by rfl) (by rfl) (by rfl) (by rfl) ?_
      | refine XL.ia1 (by rfl) (by rfl) (by rfl) (by rfl) (by rfl) (by rfl) (by rfl) (by omega) ?_
      | refine XL.ldr (by rfl) (by rfl) (by rfl) (by rfl) (by rfl) (by rfl) (by repeat (first | exact Sel.here | apply Sel.there)) (by assumption) ?_
      | refine XL.stl (by rfl) (by rfl) (by rfl) (by rfl) (by rfl) (by rfl) (by rfl) (by repeat (first | exact Sel.here | apply Sel.there)) (by rfl) ?_
      | refine XL.lenR (by rfl) (by rfl) (by rfl) (by rfl) (by rfl) (by rfl) (by rfl) (by first | exact fun w h => St.row (by repeat (first | exact Sel.here | apply Sel.there)) h | exact fun w h => St.rowF (by repeat (first | exact List.Mem.head _ | apply List.Mem.tail)) h | exact fun w h => Hd.rowF (by repeat (first | exact List.Mem.head _ | apply List.Mem.tail)) h) ?_
      | refine XL.iaR1 (by rfl) (by rfl) (by rfl) (by rfl) (by rfl) (by rfl) (by rfl) (by first | exact fun w h => St.row (by repeat (first | exact Sel.here | apply Sel.there)) h | exact fun w h => St.rowF (by repeat (first | exact List.Mem.head _ | apply List.Mem.tail)) h | exact fun w h => Hd.rowF (by repeat (first | exact List.Mem.head _ | apply List.Mem.tail)) h) (by omega) ?_
      | refine XL.iaR2 (by rfl) (by rfl) (by rfl) (by rfl) (by rfl) (by rfl) (by first | exact fun w h => St.row (by repeat (first | exact Sel.here | apply Sel.there)) h | exact fun w h => St.rowF (by repeat (first | exact List.Mem.head _ | apply List.Mem.tail)) h | exact fun w h => Hd.rowF (by repeat (first | exact List.Mem.head _ | apply List.Mem.tail)) h) (by rfl) (by omega) ?_
      | refine XL.faR (by rfl) (by rfl) (by rfl) (by rfl) (by rfl) (by rfl) (by first | exact fun w h => St.row (by repeat (first | exact Sel.here | apply Sel.there)) h | exact fun w h => St.rowF (by repeat (first | exact List.Mem.head _ | apply List.Mem.tail)) h | exact fun w h => Hd.rowF (by repeat (first | exact List.Mem.head _ | apply List.Mem.tail)) h) (by assumption) ?_
      | refine XL.ldR (by rfl) (by rfl) (by rfl) (by rfl) (by rfl) (by rfl) (by first | exact fun w h => St.row (by repeat (first | exact Sel.here | apply Sel.there)) h | exact fun w h => St.rowF (by repeat (first | exact List.Mem.head _ | apply List.Mem.tail)) h | exact fun w h => Hd.rowF (by repeat (first | exact List.Mem.head _ | apply List.Mem.tail)) h) (by assumption) ?_
      | refine XL.lenS (by rfl) (by rfl) (by rfl) (by rfl) (by rfl) (by rfl) (by rfl) ?_
      | refine XL.lenStr (by rfl) (by rfl) (by rfl) (by rfl) (by rfl) (by rfl) (by rfl) ?_
      | refine XL.succ (by rfl) (by rfl) (by rfl) (by rfl) (by rfl) (by rfl) (by omega) ?_
      | refine XL.addn (by rfl) (by rfl) (by rfl) (by rfl) (by rfl) (by rfl) (by omega) ?_
      | refine XL.add (by rfl) (by rfl) (by rfl) (by rfl) (by rfl) (by rfl) (by omega) ?_
      | refine XL.pred (by rfl) (by rfl) (by rfl) (by rfl) (by rfl) (by rfl) (by omega) ?_
      | refine XL.sub (by rfl) (by rfl) (by rfl) (by rfl) (by rfl) (by rfl) (by omega) ?_
      | refine XL.min2 (by rfl) (by rfl) (by rfl) (by rfl) (by rfl) (by rfl) ?_
      | refine XL.max2 (by rfl) (by rfl) (by rfl) (by rfl) (by rfl) (by rfl) ?_
      | refine XL.eqB (by rfl) (by rfl) (by rfl) (by rfl) (by rfl) (by rfl) (by rfl) ?_
      | refine XL.neB (by rfl) (by rfl) (by rfl) (by rfl) (by rfl) (by rfl) (by rfl) ?_
      | refine XL.psome (by rfl) (by rfl) (by rfl) (by rfl) (by rfl) (by rfl) (by rfl) ?_
      | refine XL.pnone (by rfl) (by rfl) (by rfl) (by rfl) (by rfl) (by rfl) (by rfl) ?_
      | refine XL.psome' (by rfl) (by rfl) (by rfl) (by rfl) (by rfl) (by rfl) (by rfl) ?_
      | refine XL.pnone' (by rfl) (by rfl) (by rfl) (by rfl) (by rfl) (by rfl) (by rfl) ?_
      | refine XL.conv64 (by rfl) (by rfl) (by rfl) (by rfl) (by rfl) (by rfl) (by rfl) (by omega) ?_)
    refine XC.loop (fun y : Nat × Value => [(1, v), (2, .int .i64 i), (7, .bool true), (8, .pointer (some ⟨gb, 0, none⟩)), (9, y.2), (10, .int .i64 (y.1 : Int))])
      (fun y w => y.1 ≤ l.length ∧ St c [rowO 3 1 y.2 N ((grp N l y.1).map vi), groups (.pointer (some ⟨gb, 0, none⟩)) N (grp N l y.1)] [Row.fp 2 v l.length (pcell l)] w)
      (fun y => l.length - y.1) (0, v0) (by repeat (first | exact fits_nil | refine fits_cons (by rfl) ?_)) (fun w hw => ⟨Nat.zero_le _, hw⟩) ?_
    rintro ⟨k, v1⟩
    dsimp only
    refine XC.pure (fun hk => ?_)
    by_cases hlt : k < l.length
    · obtain ⟨⟨a, b⟩, hp⟩ : ∃ p, l[k]? = some p := ⟨l[k], List.getElem?_eq_getElem hlt⟩
      obtain ⟨g1, g2⟩ := pcell_get l k _ hp
      have hnx := grp_next (N := N) hp
      dsimp only at g1 g2 hnx
      repeat' (first
        | refine XC.seq ?_
          | refine XC.region ?_
          | refine XC.block ?_
          | refine XC.skip ?_
          | refine XC.ret ?_
          | refine XC.exit ?_
          | (refine XC.cond_d (by rfl) (fun h => ?_) (fun h => ?_) <;> try (first | (exfalso; omega) | exact absurd rfl h))
          | refine XC.cond_t (by rfl) ?_
          | refine XC.cond_f (by rfl) ?_
          | refine XQ.next ?_
          | refine XQ.blockN ?_
          | refine XQ.blockR ?_
          | refine XQ.blockE ?_
          | refine XQ.sqR ?_
          | refine XQ.sqE ?_
          | refine XQ.rdR ?_
          | refine XQ.rdE ?_
          | refine XQ.mtR ?_
          | refine XQ.mtE ?_
        | refine XL.nil ?_
          | (refine XL.guard_d (by rfl) (by rfl) (fun h => ?_) (fun h => ?_) <;> try (first | (exfalso; omega) | exact absurd rfl h))
          | refine XL.pures (by rfl) (by rfl) (by rfl) (by rfl) (by rfl) ?_
          | refine XL.not_d (by rfl) (by rfl) (by rfl) (by rfl) (by rfl) ?_
          | refine XL.pure 1 (by rfl) ?_
          | refine XL.fa0 (by rfl) (by rfl) (by rfl) (by rfl) (by rfl) (by rfl) ?_
          | refine XL.ld (by rfl) (by rfl) (by rfl) (by rfl) (by rfl) (by rfl) (by repeat (first | exact Sel.here | apply Sel.there)) (by rfl) ?_
          | refine XL.fa (by rfl) (by rfl) (by rfl) (by rfl) (by rfl) (by rfl) ?_
          | refine XL.ia1 (by rfl) (by rfl) (by rfl) (by rfl) (by rfl) (by rfl) (by rfl) (by omega) ?_
          | refine XL.ldr (by rfl) (by rfl) (by rfl) (by rfl) (by rfl) (by rfl) (by repeat (first | exact Sel.here | apply Sel.there)) (by assumption) ?_
          | refine XL.stl (by rfl) (by rfl) (by rfl) (by rfl) (by rfl) (by rfl) (by rfl) (by repeat (first | exact Sel.here | apply Sel.there)) (by rfl) ?_
          | refine XL.lenR (by rfl) (by rfl) (by rfl) (by rfl) (by rfl) (by rfl) (by rfl) (by first | exact fun w h => St.row (by repeat (first | exact Sel.here | apply Sel.there)) h | exact fun w h => St.rowF (by repeat (first | exact List.Mem.head _ | apply List.Mem.tail)) h | exact fun w h => Hd.rowF (by repeat (first | exact List.Mem.head _ | apply List.Mem.tail)) h) ?_
          | refine XL.iaR1 (by rfl) (by rfl) (by rfl) (by rfl) (by rfl) (by rfl) (by rfl) (by first | exact fun w h => St.row (by repeat (first | exact Sel.here | apply Sel.there)) h | exact fun w h => St.rowF (by repeat (first | exact List.Mem.head _ | apply List.Mem.tail)) h | exact fun w h => Hd.rowF (by repeat (first | exact List.Mem.head _ | apply List.Mem.tail)) h) (by omega) ?_
          | refine XL.iaR2 (by rfl) (by rfl) (by rfl) (by rfl) (by rfl) (by rfl) (by first | exact fun w h => St.row (by repeat (first | exact Sel.here | apply Sel.there)) h | exact fun w h => St.rowF (by repeat (first | exact List.Mem.head _ | apply List.Mem.tail)) h | exact fun w h => Hd.rowF (by repeat (first | exact List.Mem.head _ | apply List.Mem.tail)) h) (by rfl) (by omega) ?_
          | refine XL.faR (by rfl) (by rfl) (by rfl) (by rfl) (by rfl) (by rfl) (by first | exact fun w h => St.row (by repeat (first | exact Sel.here | apply Sel.there)) h | exact fun w h => St.rowF (by repeat (first | exact List.Mem.head _ | apply List.Mem.tail)) h | exact fun w h => Hd.rowF (by repeat (first | exact List.Mem.head _ | apply List.Mem.tail)) h) (by assumption) ?_
          | refine XL.ldR (by rfl) (by rfl) (by rfl) (by rfl) (by rfl) (by rfl) (by first | exact fun w h => St.row (by repeat (first | exact Sel.here | apply Sel.there)) h | exact fun w h => St.rowF (by repeat (first | exact List.Mem.head _ | apply List.Mem.tail)) h | exact fun w h => Hd.rowF (by repeat (first | exact List.Mem.head _ | apply List.Mem.tail)) h) (by assumption) ?_
          | refine XL.lenS (by rfl) (by rfl) (by rfl) (by rfl) (by rfl) (by rfl) (by rfl) ?_
          | refine XL.lenStr (by rfl) (by rfl) (by rfl) (by rfl) (by rfl) (by rfl) (by rfl) ?_
          | refine XL.succ (by rfl) (by rfl) (by rfl) (by rfl) (by rfl) (by rfl) (by omega) ?_
          | refine XL.addn (by rfl) (by rfl) (by rfl) (by rfl) (by rfl) (by rfl) (by omega) ?_
          | refine XL.add (by rfl) (by rfl) (by rfl) (by rfl) (by rfl) (by rfl) (by omega) ?_
          | refine XL.pred (by rfl) (by rfl) (by rfl) (by rfl) (by rfl) (by rfl) (by omega) ?_
          | refine XL.sub (by rfl) (by rfl) (by rfl) (by rfl) (by rfl) (by rfl) (by omega) ?_
          | refine XL.min2 (by rfl) (by rfl) (by rfl) (by rfl) (by rfl) (by rfl) ?_
          | refine XL.max2 (by rfl) (by rfl) (by rfl) (by rfl) (by rfl) (by rfl) ?_
          | refine XL.eqB (by rfl) (by rfl) (by rfl) (by rfl) (by rfl) (by rfl) (by rfl) ?_
          | refine XL.neB (by rfl) (by rfl) (by rfl) (by rfl) (by rfl) (by rfl) (by rfl) ?_
          | refine XL.psome (by rfl) (by rfl) (by rfl) (by rfl) (by rfl) (by rfl) (by rfl) ?_
          | refine XL.pnone (by rfl) (by rfl) (by rfl) (by rfl) (by rfl) (by rfl) (by rfl) ?_
          | refine XL.psome' (by rfl) (by rfl) (by rfl) (by rfl) (by rfl) (by rfl) (by rfl) ?_
          | refine XL.pnone' (by rfl) (by rfl) (by rfl) (by rfl) (by rfl) (by rfl) (by rfl) ?_
          | refine XL.conv64 (by rfl) (by rfl) (by rfl) (by rfl) (by rfl) (by rfl) (by rfl) (by omega) ?_)
      · refine XC.any (Hd c [] [Row.fp 2 v l.length (pcell l)]) (by kernel_rfl) (fun w h => h.hd (by repeat' (first | exact Sels.nil | exact Sel.here | apply Sels.cons | apply Sel.there))) (fun _ m h => h.drewn m) ?_
        refine XA.tk 0 (by rfl) (by kernel_rfl) (by repeat (first | exact PF.body | apply PF.sq | apply PF.rd | apply PF.mt | apply PF.block)) ?_
        (repeat' (first
          | refine XQ.tk ?_
          | refine XL.ldh (by rfl) (by rfl) (by rfl) (by rfl) (by rfl) (by rfl) (by repeat (first | exact Sel.here | apply Sel.there)) (by rfl) ?_
          | refine XL.nil ?_
            | (refine XL.guard_d (by rfl) (by rfl) (fun h => ?_) (fun h => ?_) <;> try (first | (exfalso; omega) | exact absurd rfl h))
            | refine XL.pures (by rfl) (by rfl) (by rfl) (by rfl) (by rfl) ?_
            | refine XL.not_d (by rfl) (by rfl) (by rfl) (by rfl) (by rfl) ?_
            | refine XL.pure 1 (by rfl) ?_
            | refine XL.fa0 (by rfl) (by rfl) (by rfl) (by rfl) (by rfl) (by rfl) ?_
            | refine XL.ld (by rfl) (by rfl) (by rfl) (by rfl) (by rfl) (by rfl) (by repeat (first | exact Sel.here | apply Sel.there)) (by rfl) ?_
            | refine XL.fa (by rfl) (by rfl) (by rfl) (by rfl) (by rfl) (by rfl) ?_
            | refine XL.ia1 (by rfl) (by rfl) (by rfl) (by rfl) (by rfl) (by rfl) (by rfl) (by omega) ?_
            | refine XL.ldr (by rfl) (by rfl) (by rfl) (by rfl) (by rfl) (by rfl) (by repeat (first | exact Sel.here | apply Sel.there)) (by assumption) ?_
            | refine XL.stl (by rfl) (by rfl) (by rfl) (by rfl) (by rfl) (by rfl) (by rfl) (by repeat (first | exact Sel.here | apply Sel.there)) (by rfl) ?_
            | refine XL.lenR (by rfl) (by rfl) (by rfl) (by rfl) (by rfl) (by rfl) (by rfl) (by first | exact fun w h => St.row (by repeat (first | exact Sel.here | apply Sel.there)) h | exact fun w h => St.rowF (by repeat (first | exact List.Mem.head _ | apply List.Mem.tail)) h | exact fun w h => Hd.rowF (by repeat (first | exact List.Mem.head _ | apply List.Mem.tail)) h) ?_
            | refine XL.iaR1 (by rfl) (by rfl) (by rfl) (by rfl) (by rfl) (by rfl) (by rfl) (by first | exact fun w h => St.row (by repeat (first | exact Sel.here | apply Sel.there)) h | exact fun w h => St.rowF (by repeat (first | exact List.Mem.head _ | apply List.Mem.tail)) h | exact fun w h => Hd.rowF (by repeat (first | exact List.Mem.head _ | apply List.Mem.tail)) h) (by omega) ?_
            | refine XL.iaR2 (by rfl) (by rfl) (by rfl) (by rfl) (by rfl) (by rfl) (by first | exact fun w h => St.row (by repeat (first | exact Sel.here | apply Sel.there)) h | exact fun w h => St.rowF (by repeat (first | exact List.Mem.head _ | apply List.Mem.tail)) h | exact fun w h => Hd.rowF (by repeat (first | exact List.Mem.head _ | apply List.Mem.tail)) h) (by rfl) (by omega) ?_
            | refine XL.faR (by rfl) (by rfl) (by rfl) (by rfl) (by rfl) (by rfl) (by first | exact fun w h => St.row (by repeat (first | exact Sel.here | apply Sel.there)) h | exact fun w h => St.rowF (by repeat (first | exact List.Mem.head _ | apply List.Mem.tail)) h | exact fun w h => Hd.rowF (by repeat (first | exact List.Mem.head _ | apply List.Mem.tail)) h) (by assumption) ?_
            | refine XL.ldR (by rfl) (by rfl) (by rfl) (by rfl) (by rfl) (by rfl) (by first | exact fun w h => St.row (by repeat (first | exact Sel.here | apply Sel.there)) h | exact fun w h => St.rowF (by repeat (first | exact List.Mem.head _ | apply List.Mem.tail)) h | exact fun w h => Hd.rowF (by repeat (first | exact List.Mem.head _ | apply List.Mem.tail)) h) (by assumption) ?_
            | refine XL.lenS (by rfl) (by rfl) (by rfl) (by rfl) (by rfl) (by rfl) (by rfl) ?_
            | refine XL.lenStr (by rfl) (by rfl) (by rfl) (by rfl) (by rfl) (by rfl) (by rfl) ?_
            | refine XL.succ (by rfl) (by rfl) (by rfl) (by rfl) (by rfl) (by rfl) (by omega) ?_
            | refine XL.addn (by rfl) (by rfl) (by rfl) (by rfl) (by rfl) (by rfl) (by omega) ?_
            | refine XL.add (by rfl) (by rfl) (by rfl) (by rfl) (by rfl) (by rfl) (by omega) ?_
            | refine XL.pred (by rfl) (by rfl) (by rfl) (by rfl) (by rfl) (by rfl) (by omega) ?_
            | refine XL.sub (by rfl) (by rfl) (by rfl) (by rfl) (by rfl) (by rfl) (by omega) ?_
            | refine XL.min2 (by rfl) (by rfl) (by rfl) (by rfl) (by rfl) (by rfl) ?_
            | refine XL.max2 (by rfl) (by rfl) (by rfl) (by rfl) (by rfl) (by rfl) ?_
            | refine XL.eqB (by rfl) (by rfl) (by rfl) (by rfl) (by rfl) (by rfl) (by rfl) ?_
            | refine XL.neB (by rfl) (by rfl) (by rfl) (by rfl) (by rfl) (by rfl) (by rfl) ?_
            | refine XL.psome (by rfl) (by rfl) (by rfl) (by rfl) (by rfl) (by rfl) (by rfl) ?_
            | refine XL.pnone (by rfl) (by rfl) (by rfl) (by rfl) (by rfl) (by rfl) (by rfl) ?_
            | refine XL.psome' (by rfl) (by rfl) (by rfl) (by rfl) (by rfl) (by rfl) (by rfl) ?_
            | refine XL.pnone' (by rfl) (by rfl) (by rfl) (by rfl) (by rfl) (by rfl) (by rfl) ?_
            | refine XL.conv64 (by rfl) (by rfl) (by rfl) (by rfl) (by rfl) (by rfl) (by rfl) (by omega) ?_))
        refine XA.tk 1 (by rfl) (by kernel_rfl) (by repeat (first | exact PF.body | apply PF.sq | apply PF.rd | apply PF.mt | apply PF.block)) ?_
        (repeat' (first
          | refine XQ.tk ?_
          | refine XL.ldh (by rfl) (by rfl) (by rfl) (by rfl) (by rfl) (by rfl) (by repeat (first | exact Sel.here | apply Sel.there)) (by rfl) ?_
          | refine XL.nil ?_
            | (refine XL.guard_d (by rfl) (by rfl) (fun h => ?_) (fun h => ?_) <;> try (first | (exfalso; omega) | exact absurd rfl h))
            | refine XL.pures (by rfl) (by rfl) (by rfl) (by rfl) (by rfl) ?_
            | refine XL.not_d (by rfl) (by rfl) (by rfl) (by rfl) (by rfl) ?_
            | refine XL.pure 1 (by rfl) ?_
            | refine XL.fa0 (by rfl) (by rfl) (by rfl) (by rfl) (by rfl) (by rfl) ?_
            | refine XL.ld (by rfl) (by rfl) (by rfl) (by rfl) (by rfl) (by rfl) (by repeat (first | exact Sel.here | apply Sel.there)) (by rfl) ?_
            | refine XL.fa (by rfl) (by rfl) (by rfl) (by rfl) (by rfl) (by rfl) ?_
            | refine XL.ia1 (by rfl) (by rfl) (by rfl) (by rfl) (by rfl) (by rfl) (by rfl) (by omega) ?_
            | refine XL.ldr (by rfl) (by rfl) (by rfl) (by rfl) (by rfl) (by rfl) (by repeat (first | exact Sel.here | apply Sel.there)) (by assumption) ?_
            | refine XL.stl (by rfl) (by rfl) (by rfl) (by rfl) (by rfl) (by rfl) (by rfl) (by repeat (first | exact Sel.here | apply Sel.there)) (by rfl) ?_
            | refine XL.lenR (by rfl) (by rfl) (by rfl) (by rfl) (by rfl) (by rfl) (by rfl) (by first | exact fun w h => St.row (by repeat (first | exact Sel.here | apply Sel.there)) h | exact fun w h => St.rowF (by repeat (first | exact List.Mem.head _ | apply List.Mem.tail)) h | exact fun w h => Hd.rowF (by repeat (first | exact List.Mem.head _ | apply List.Mem.tail)) h) ?_
            | refine XL.iaR1 (by rfl) (by rfl) (by rfl) (by rfl) (by rfl) (by rfl) (by rfl) (by first | exact fun w h => St.row (by repeat (first | exact Sel.here | apply Sel.there)) h | exact fun w h => St.rowF (by repeat (first | exact List.Mem.head _ | apply List.Mem.tail)) h | exact fun w h => Hd.rowF (by repeat (first | exact List.Mem.head _ | apply List.Mem.tail)) h) (by omega) ?_
            | refine XL.iaR2 (by rfl) (by rfl) (by rfl) (by rfl) (by rfl) (by rfl) (by first | exact fun w h => St.row (by repeat (first | exact Sel.here | apply Sel.there)) h | exact fun w h => St.rowF (by repeat (first | exact List.Mem.head _ | apply List.Mem.tail)) h | exact fun w h => Hd.rowF (by repeat (first | exact List.Mem.head _ | apply List.Mem.tail)) h) (by rfl) (by omega) ?_
            | refine XL.faR (by rfl) (by rfl) (by rfl) (by rfl) (by rfl) (by rfl) (by first | exact fun w h => St.row (by repeat (first | exact Sel.here | apply Sel.there)) h | exact fun w h => St.rowF (by repeat (first | exact List.Mem.head _ | apply List.Mem.tail)) h | exact fun w h => Hd.rowF (by repeat (first | exact List.Mem.head _ | apply List.Mem.tail)) h) (by assumption) ?_
            | refine XL.ldR (by rfl) (by rfl) (by rfl) (by rfl) (by rfl) (by rfl) (by first | exact fun w h => St.row (by repeat (first | exact Sel.here | apply Sel.there)) h | exact fun w h => St.rowF (by repeat (first | exact List.Mem.head _ | apply List.Mem.tail)) h | exact fun w h => Hd.rowF (by repeat (first | exact List.Mem.head _ | apply List.Mem.tail)) h) (by assumption) ?_
            | refine XL.lenS (by rfl) (by rfl) (by rfl) (by rfl) (by rfl) (by rfl) (by rfl) ?_
            | refine XL.lenStr (by rfl) (by rfl) (by rfl) (by rfl) (by rfl) (by rfl) (by rfl) ?_
            | refine XL.succ (by rfl) (by rfl) (by rfl) (by rfl) (by rfl) (by rfl) (by omega) ?_
            | refine XL.addn (by rfl) (by rfl) (by rfl) (by rfl) (by rfl) (by rfl) (by omega) ?_
            | refine XL.add (by rfl) (by rfl) (by rfl) (by rfl) (by rfl) (by rfl) (by omega) ?_
            | refine XL.pred (by rfl) (by rfl) (by rfl) (by rfl) (by rfl) (by rfl) (by omega) ?_
            | refine XL.sub (by rfl) (by rfl) (by rfl) (by rfl) (by rfl) (by rfl) (by omega) ?_
            | refine XL.min2 (by rfl) (by rfl) (by rfl) (by rfl) (by rfl) (by rfl) ?_
            | refine XL.max2 (by rfl) (by rfl) (by rfl) (by rfl) (by rfl) (by rfl) ?_
            | refine XL.eqB (by rfl) (by rfl) (by rfl) (by rfl) (by rfl) (by rfl) (by rfl) ?_
            | refine XL.neB (by rfl) (by rfl) (by rfl) (by rfl) (by rfl) (by rfl) (by rfl) ?_
            | refine XL.psome (by rfl) (by rfl) (by rfl) (by rfl) (by rfl) (by rfl) (by rfl) ?_
            | refine XL.pnone (by rfl) (by rfl) (by rfl) (by rfl) (by rfl) (by rfl) (by rfl) ?_
            | refine XL.psome' (by rfl) (by rfl) (by rfl) (by rfl) (by rfl) (by rfl) (by rfl) ?_
            | refine XL.pnone' (by rfl) (by rfl) (by rfl) (by rfl) (by rfl) (by rfl) (by rfl) ?_
            | refine XL.conv64 (by rfl) (by rfl) (by rfl) (by rfl) (by rfl) (by rfl) (by rfl) (by omega) ?_))
        refine XA.tk 2 (by rfl) (by kernel_rfl) (by repeat (first | exact PF.body | apply PF.sq | apply PF.rd | apply PF.mt | apply PF.block)) ?_
        (repeat' (first
          | refine XQ.tk ?_
          | refine XL.ldh (by rfl) (by rfl) (by rfl) (by rfl) (by rfl) (by rfl) (by repeat (first | exact Sel.here | apply Sel.there)) (by rfl) ?_
          | refine XL.nil ?_
            | (refine XL.guard_d (by rfl) (by rfl) (fun h => ?_) (fun h => ?_) <;> try (first | (exfalso; omega) | exact absurd rfl h))
            | refine XL.pures (by rfl) (by rfl) (by rfl) (by rfl) (by rfl) ?_
            | refine XL.not_d (by rfl) (by rfl) (by rfl) (by rfl) (by rfl) ?_
            | refine XL.pure 1 (by rfl) ?_
            | refine XL.fa0 (by rfl) (by rfl) (by rfl) (by rfl) (by rfl) (by rfl) ?_
            | refine XL.ld (by rfl) (by rfl) (by rfl) (by rfl) (by rfl) (by rfl) (by repeat (first | exact Sel.here | apply Sel.there)) (by rfl) ?_
            | refine XL.fa (by rfl) (by rfl) (by rfl) (by rfl) (by rfl) (by rfl) ?_
            | refine XL.ia1 (by rfl) (by rfl) (by rfl) (by rfl) (by rfl) (by rfl) (by rfl) (by omega) ?_
            | refine XL.ldr (by rfl) (by rfl) (by rfl) (by rfl) (by rfl) (by rfl) (by repeat (first | exact Sel.here | apply Sel.there)) (by assumption) ?_
            | refine XL.stl (by rfl) (by rfl) (by rfl) (by rfl) (by rfl) (by rfl) (by rfl) (by repeat (first | exact Sel.here | apply Sel.there)) (by rfl) ?_
            | refine XL.lenR (by rfl) (by rfl) (by rfl) (by rfl) (by rfl) (by rfl) (by rfl) (by first | exact fun w h => St.row (by repeat (first | exact Sel.here | apply Sel.there)) h | exact fun w h => St.rowF (by repeat (first | exact List.Mem.head _ | apply List.Mem.tail)) h | exact fun w h => Hd.rowF (by repeat (first | exact List.Mem.head _ | apply List.Mem.tail)) h) ?_
            | refine XL.iaR1 (by rfl) (by rfl) (by rfl) (by rfl) (by rfl) (by rfl) (by rfl) (by first | exact fun w h => St.row (by repeat (first | exact Sel.here | apply Sel.there)) h | exact fun w h => St.rowF (by repeat (first | exact List.Mem.head _ | apply List.Mem.tail)) h | exact fun w h => Hd.rowF (by repeat (first | exact List.Mem.head _ | apply List.Mem.tail)) h) (by omega) ?_
            | refine XL.iaR2 (by rfl) (by rfl) (by rfl) (by rfl) (by rfl) (by rfl) (by first | exact fun w h => St.row (by repeat (first | exact Sel.here | apply Sel.there)) h | exact fun w h => St.rowF (by repeat (first | exact List.Mem.head _ | apply List.Mem.tail)) h | exact fun w h => Hd.rowF (by repeat (first | exact List.Mem.head _ | apply List.Mem.tail)) h) (by rfl) (by omega) ?_
            | refine XL.faR (by rfl) (by rfl) (by rfl) (by rfl) (by rfl) (by rfl) (by first | exact fun w h => St.row (by repeat (first | exact Sel.here | apply Sel.there)) h | exact fun w h => St.rowF (by repeat (first | exact List.Mem.head _ | apply List.Mem.tail)) h | exact fun w h => Hd.rowF (by repeat (first | exact List.Mem.head _ | apply List.Mem.tail)) h) (by assumption) ?_
            | refine XL.ldR (by rfl) (by rfl) (by rfl) (by rfl) (by rfl) (by rfl) (by first | exact fun w h => St.row (by repeat (first | exact Sel.here | apply Sel.there)) h | exact fun w h => St.rowF (by repeat (first | exact List.Mem.head _ | apply List.Mem.tail)) h | exact fun w h => Hd.rowF (by repeat (first | exact List.Mem.head _ | apply List.Mem.tail)) h) (by assumption) ?_
            | refine XL.lenS (by rfl) (by rfl) (by rfl) (by rfl) (by rfl) (by rfl) (by rfl) ?_
            | refine XL.lenStr (by rfl) (by rfl) (by rfl) (by rfl) (by rfl) (by rfl) (by rfl) ?_
            | refine XL.succ (by rfl) (by rfl) (by rfl) (by rfl) (by rfl) (by rfl) (by omega) ?_
            | refine XL.addn (by rfl) (by rfl) (by rfl) (by rfl) (by rfl) (by rfl) (by omega) ?_
            | refine XL.add (by rfl) (by rfl) (by rfl) (by rfl) (by rfl) (by rfl) (by omega) ?_
            | refine XL.pred (by rfl) (by rfl) (by rfl) (by rfl) (by rfl) (by rfl) (by omega) ?_
            | refine XL.sub (by rfl) (by rfl) (by rfl) (by rfl) (by rfl) (by rfl) (by omega) ?_
            | refine XL.min2 (by rfl) (by rfl) (by rfl) (by rfl) (by rfl) (by rfl) ?_
            | refine XL.max2 (by rfl) (by rfl) (by rfl) (by rfl) (by rfl) (by rfl) ?_
            | refine XL.eqB (by rfl) (by rfl) (by rfl) (by rfl) (by rfl) (by rfl) (by rfl) ?_
            | refine XL.neB (by rfl) (by rfl) (by rfl) (by rfl) (by rfl) (by rfl) (by rfl) ?_
            | refine XL.psome (by rfl) (by rfl) (by rfl) (by rfl) (by rfl) (by rfl) (by rfl) ?_
            | refine XL.pnone (by rfl) (by rfl) (by rfl) (by rfl) (by rfl) (by rfl) (by rfl) ?_
            | refine XL.psome' (by rfl) (by rfl) (by rfl) (by rfl) (by rfl) (by rfl) (by rfl) ?_
            | refine XL.pnone' (by rfl) (by rfl) (by rfl) (by rfl) (by rfl) (by rfl) (by rfl) ?_
            | refine XL.conv64 (by rfl) (by rfl) (by rfl) (by rfl) (by rfl) (by rfl) (by rfl) (by omega) ?_))
        refine XA.tk 3 (by rfl) (by kernel_rfl) (by repeat (first | exact PF.body | apply PF.sq | apply PF.rd | apply PF.mt | apply PF.block)) ?_
        (repeat' (first
          | refine XQ.tk ?_
          | refine XL.ldh (by rfl) (by rfl) (by rfl) (by rfl) (by rfl) (by rfl) (by repeat (first | exact Sel.here | apply Sel.there)) (by rfl) ?_
          | refine XL.nil ?_
            | (refine XL.guard_d (by rfl) (by rfl) (fun h => ?_) (fun h => ?_) <;> try (first | (exfalso; omega) | exact absurd rfl h))
            | refine XL.pures (by rfl) (by rfl) (by rfl) (by rfl) (by rfl) ?_
            | refine XL.not_d (by rfl) (by rfl) (by rfl) (by rfl) (by rfl) ?_
            | refine XL.pure 1 (by rfl) ?_
            | refine XL.fa0 (by rfl) (by rfl) (by rfl) (by rfl) (by rfl) (by rfl) ?_
            | refine XL.ld (by rfl) (by rfl) (by rfl) (by rfl) (by rfl) (by rfl) (by repeat (first | exact Sel.here | apply Sel.there)) (by rfl) ?_
            | refine XL.fa (by rfl) (by rfl) (by rfl) (by rfl) (by rfl) (by rfl) ?_
            | refine XL.ia1 (by rfl) (by rfl) (by rfl) (by rfl) (by rfl) (by rfl) (by rfl) (by omega) ?_
            | refine XL.ldr (by rfl) (by rfl) (by rfl) (by rfl) (by rfl) (by rfl) (by repeat (first | exact Sel.here | apply Sel.there)) (by assumption) ?_
            | refine XL.stl (by rfl) (by rfl) (by rfl) (by rfl) (by rfl) (by rfl) (by rfl) (by repeat (first | exact Sel.here | apply Sel.there)) (by rfl) ?_
            | refine XL.lenR (by rfl) (by rfl) (by rfl) (by rfl) (by rfl) (by rfl) (by rfl) (by first | exact fun w h => St.row (by repeat (first | exact Sel.here | apply Sel.there)) h | exact fun w h => St.rowF (by repeat (first | exact List.Mem.head _ | apply List.Mem.tail)) h | exact fun w h => Hd.rowF (by repeat (first | exact List.Mem.head _ | apply List.Mem.tail)) h) ?_
            | refine XL.iaR1 (by rfl) (by rfl) (by rfl) (by rfl) (by rfl) (by rfl) (by rfl) (by first | exact fun w h => St.row (by repeat (first | exact Sel.here | apply Sel.there)) h | exact fun w h => St.rowF (by repeat (first | exact List.Mem.head _ | apply List.Mem.tail)) h | exact fun w h => Hd.rowF (by repeat (first | exact List.Mem.head _ | apply List.Mem.tail)) h) (by omega) ?_
            | refine XL.iaR2 (by rfl) (by rfl) (by rfl) (by rfl) (by rfl) (by rfl) (by first | exact fun w h => St.row (by repeat (first | exact Sel.here | apply Sel.there)) h | exact fun w h => St.rowF (by repeat (first | exact List.Mem.head _ | apply List.Mem.tail)) h | exact fun w h => Hd.rowF (by repeat (first | exact List.Mem.head _ | apply List.Mem.tail)) h) (by rfl) (by omega) ?_
            | refine XL.faR (by rfl) (by rfl) (by rfl) (by rfl) (by rfl) (by rfl) (by first | exact fun w h => St.row (by repeat (first | exact Sel.here | apply Sel.there)) h | exact fun w h => St.rowF (by repeat (first | exact List.Mem.head _ | apply List.Mem.tail)) h | exact fun w h => Hd.rowF (by repeat (first | exact List.Mem.head _ | apply List.Mem.tail)) h) (by assumption) ?_
            | refine XL.ldR (by rfl) (by rfl) (by rfl) (by rfl) (by rfl) (by rfl) (by first | exact fun w h => St.row (by repeat (first | exact Sel.here | apply Sel.there)) h | exact fun w h => St.rowF (by repeat (first | exact List.Mem.head _ | apply List.Mem.tail)) h | exact fun w h => Hd.rowF (by repeat (first | exact List.Mem.head _ | apply List.Mem.tail)) h) (by assumption) ?_
            | refine XL.lenS (by rfl) (by rfl) (by rfl) (by rfl) (by rfl) (by rfl) (by rfl) ?_
            | refine XL.lenStr (by rfl) (by rfl) (by rfl) (by rfl) (by rfl) (by rfl) (by rfl) ?_
            | refine XL.succ (by rfl) (by rfl) (by rfl) (by rfl) (by rfl) (by rfl) (by omega) ?_
            | refine XL.addn (by rfl) (by rfl) (by rfl) (by rfl) (by rfl) (by rfl) (by omega) ?_
            | refine XL.add (by rfl) (by rfl) (by rfl) (by rfl) (by rfl) (by rfl) (by omega) ?_
            | refine XL.pred (by rfl) (by rfl) (by rfl) (by rfl) (by rfl) (by rfl) (by omega) ?_
            | refine XL.sub (by rfl) (by rfl) (by rfl) (by rfl) (by rfl) (by rfl) (by omega) ?_
            | refine XL.min2 (by rfl) (by rfl) (by rfl) (by rfl) (by rfl) (by rfl) ?_
            | refine XL.max2 (by rfl) (by rfl) (by rfl) (by rfl) (by rfl) (by rfl) ?_
            | refine XL.eqB (by rfl) (by rfl) (by rfl) (by rfl) (by rfl) (by rfl) (by rfl) ?_
            | refine XL.neB (by rfl) (by rfl) (by rfl) (by rfl) (by rfl) (by rfl) (by rfl) ?_
            | refine XL.psome (by rfl) (by rfl) (by rfl) (by rfl) (by rfl) (by rfl) (by rfl) ?_
            | refine XL.pnone (by rfl) (by rfl) (by rfl) (by rfl) (by rfl) (by rfl) (by rfl) ?_
            | refine XL.psome' (by rfl) (by rfl) (by rfl) (by rfl) (by rfl) (by rfl) (by rfl) ?_
            | refine XL.pnone' (by rfl) (by rfl) (by rfl) (by rfl) (by rfl) (by rfl) (by rfl) ?_
            | refine XL.conv64 (by rfl) (by rfl) (by rfl) (by rfl) (by rfl) (by rfl) (by rfl) (by omega) ?_))
        refine XA.tk 4 (by rfl) (by kernel_rfl) (by repeat (first | exact PF.body | apply PF.sq | apply PF.rd | apply PF.mt | apply PF.block)) ?_
        (repeat' (first
          | refine XQ.tk ?_
          | refine XL.ldh (by rfl) (by rfl) (by rfl) (by rfl) (by rfl) (by rfl) (by repeat (first | exact Sel.here | apply Sel.there)) (by rfl) ?_
          | refine XL.nil ?_
            | (refine XL.guard_d (by rfl) (by rfl) (fun h => ?_) (fun h => ?_) <;> try (first | (exfalso; omega) | exact absurd rfl h))
            | refine XL.pures (by rfl) (by rfl) (by rfl) (by rfl) (by rfl) ?_
            | refine XL.not_d (by rfl) (by rfl) (by rfl) (by rfl) (by rfl) ?_
            | refine XL.pure 1 (by rfl) ?_
            | refine XL.fa0 (by rfl) (by rfl) (by rfl) (by rfl) (by rfl) (by rfl) ?_
            | refine XL.ld (by rfl) (by rfl) (by rfl) (by rfl) (by rfl) (by rfl) (by repeat (first | exact Sel.here | apply Sel.there)) (by rfl) ?_
            | refine XL.fa (by rfl) (by rfl) (by rfl) (by rfl) (by rfl) (by rfl) ?_
            | refine XL.ia1 (by rfl) (by rfl) (by rfl) (by rfl) (by rfl) (by rfl) (by rfl) (by omega) ?_
            | refine XL.ldr (by rfl) (by rfl) (by rfl) (by rfl) (by rfl) (by rfl) (by repeat (first | exact Sel.here | apply Sel.there)) (by assumption) ?_
            | refine XL.stl (by rfl) (by rfl) (by rfl) (by rfl) (by rfl) (by rfl) (by rfl) (by repeat (first | exact Sel.here | apply Sel.there)) (by rfl) ?_
            | refine XL.lenR (by rfl) (by rfl) (by rfl) (by rfl) (by rfl) (by rfl) (by rfl) (by first | exact fun w h => St.row (by repeat (first | exact Sel.here | apply Sel.there)) h | exact fun w h => St.rowF (by repeat (first | exact List.Mem.head _ | apply List.Mem.tail)) h | exact fun w h => Hd.rowF (by repeat (first | exact List.Mem.head _ | apply List.Mem.tail)) h) ?_
            | refine XL.iaR1 (by rfl) (by rfl) (by rfl) (by rfl) (by rfl) (by rfl) (by rfl) (by first | exact fun w h => St.row (by repeat (first | exact Sel.here | apply Sel.there)) h | exact fun w h => St.rowF (by repeat (first | exact List.Mem.head _ | apply List.Mem.tail)) h | exact fun w h => Hd.rowF (by repeat (first | exact List.Mem.head _ | apply List.Mem.tail)) h) (by omega) ?_
            | refine XL.iaR2 (by rfl) (by rfl) (by rfl) (by rfl) (by rfl) (by rfl) (by first | exact fun w h => St.row (by repeat (first | exact Sel.here | apply Sel.there)) h | exact fun w h => St.rowF (by repeat (first | exact List.Mem.head _ | apply List.Mem.tail)) h | exact fun w h => Hd.rowF (by repeat (first | exact List.Mem.head _ | apply List.Mem.tail)) h) (by rfl) (by omega) ?_
            | refine XL.faR (by rfl) (by rfl) (by rfl) (by rfl) (by rfl) (by rfl) (by first | exact fun w h => St.row (by repeat (first | exact Sel.here | apply Sel.there)) h | exact fun w h => St.rowF (by repeat (first | exact List.Mem.head _ | apply List.Mem.tail)) h | exact fun w h => Hd.rowF (by repeat (first | exact List.Mem.head _ | apply List.Mem.tail)) h) (by assumption) ?_
            | refine XL.ldR (by rfl) (by rfl) (by rfl) (by rfl) (by rfl) (by rfl) (by first | exact fun w h => St.row (by repeat (first | exact Sel.here | apply Sel.there)) h | exact fun w h => St.rowF (by repeat (first | exact List.Mem.head _ | apply List.Mem.tail)) h | exact fun w h => Hd.rowF (by repeat (first | exact List.Mem.head _ | apply List.Mem.tail)) h) (by assumption) ?_
            | refine XL.lenS (by rfl) (by rfl) (by rfl) (by rfl) (by rfl) (by rfl) (by rfl) ?_
            | refine XL.lenStr (by rfl) (by rfl) (by rfl) (by rfl) (by rfl) (by rfl) (by rfl) ?_
            | refine XL.succ (by rfl) (by rfl) (by rfl) (by rfl) (by rfl) (by rfl) (by omega) ?_
            | refine XL.addn (by rfl) (by rfl) (by rfl) (by rfl) (by rfl) (by rfl) (by omega) ?_
            | refine XL.add (by rfl) (by rfl) (by rfl) (by rfl) (by rfl) (by rfl) (by omega) ?_
            | refine XL.pred (by rfl) (by rfl) (by rfl) (by rfl) (by rfl) (by rfl) (by omega) ?_
            | refine XL.sub (by rfl) (by rfl) (by rfl) (by rfl) (by rfl) (by rfl) (by omega) ?_
            | refine XL.min2 (by rfl) (by rfl) (by rfl) (by rfl) (by rfl) (by rfl) ?_
            | refine XL.max2 (by rfl) (by rfl) (by rfl) (by rfl) (by rfl) (by rfl) ?_
            | refine XL.eqB (by rfl) (by rfl) (by rfl) (by rfl) (by rfl) (by rfl) (by rfl) ?_
            | refine XL.neB (by rfl) (by rfl) (by rfl) (by rfl) (by rfl) (by rfl) (by rfl) ?_
            | refine XL.psome (by rfl) (by rfl) (by rfl) (by rfl) (by rfl) (by rfl) (by rfl) ?_
            | refine XL.pnone (by rfl) (by rfl) (by rfl) (by rfl) (by rfl) (by rfl) (by rfl) ?_
            | refine XL.psome' (by rfl) (by rfl) (by rfl) (by rfl) (by rfl) (by rfl) (by rfl) ?_
            | refine XL.pnone' (by rfl) (by rfl) (by rfl) (by rfl) (by rfl) (by rfl) (by rfl) ?_
            | refine XL.conv64 (by rfl) (by rfl) (by rfl) (by rfl) (by rfl) (by rfl) (by rfl) (by omega) ?_))
        refine XA.tk 5 (by rfl) (by kernel_rfl) (by repeat (first | exact PF.body | apply PF.sq | apply PF.rd | apply PF.mt | apply PF.block)) ?_
        (repeat' (first
          | refine XQ.tk ?_
          | refine XL.ldh (by rfl) (by rfl) (by rfl) (by rfl) (by rfl) (by rfl) (by repeat (first | exact Sel.here | apply Sel.there)) (by rfl) ?_
          | refine XL.nil ?_
            | (refine XL.guard_d (by rfl) (by rfl) (fun h => ?_) (fun h => ?_) <;> try (first | (exfalso; omega) | exact absurd rfl h))
            | refine XL.pures (by rfl) (by rfl) (by rfl) (by rfl) (by rfl) ?_
            | refine XL.not_d (by rfl) (by rfl) (by rfl) (by rfl) (by rfl) ?_
            | refine XL.pure 1 (by rfl) ?_
            | refine XL.fa0 (by rfl) (by rfl) (by rfl) (by rfl) (by rfl) (by rfl) ?_
            | refine XL.ld (by rfl) (by rfl) (by rfl) (by rfl) (by rfl) (by rfl) (by repeat (first | exact Sel.here | apply Sel.there)) (by rfl) ?_
            | refine XL.fa (by rfl) (by rfl) (by rfl) (by rfl) (by rfl) (by rfl) ?_
            | refine XL.ia1 (by rfl) (by rfl) (by rfl) (by rfl) (by rfl) (by rfl) (by rfl) (by omega) ?_
            | refine XL.ldr (by rfl) (by rfl) (by rfl) (by rfl) (by rfl) (by rfl) (by repeat (first | exact Sel.here | apply Sel.there)) (by assumption) ?_
            | refine XL.stl (by rfl) (by rfl) (by rfl) (by rfl) (by rfl) (by rfl) (by rfl) (by repeat (first | exact Sel.here | apply Sel.there)) (by rfl) ?_
            | refine XL.lenR (by rfl) (by rfl) (by rfl) (by rfl) (by rfl) (by rfl) (by rfl) (by first | exact fun w h => St.row (by repeat (first | exact Sel.here | apply Sel.there)) h | exact fun w h => St.rowF (by repeat (first | exact List.Mem.head _ | apply List.Mem.tail)) h | exact fun w h => Hd.rowF (by repeat (first | exact List.Mem.head _ | apply List.Mem.tail)) h) ?_
            | refine XL.iaR1 (by rfl) (by rfl) (by rfl) (by rfl) (by rfl) (by rfl) (by rfl) (by first | exact fun w h => St.row (by repeat (first | exact Sel.here | apply Sel.there)) h | exact fun w h => St.rowF (by repeat (first | exact List.Mem.head _ | apply List.Mem.tail)) h | exact fun w h => Hd.rowF (by repeat (first | exact List.Mem.head _ | apply List.Mem.tail)) h) (by omega) ?_
            | refine XL.iaR2 (by rfl) (by rfl) (by rfl) (by rfl) (by rfl) (by rfl) (by first | exact fun w h => St.row (by repeat (first | exact Sel.here | apply Sel.there)) h | exact fun w h => St.rowF (by repeat (first | exact List.Mem.head _ | apply List.Mem.tail)) h | exact fun w h => Hd.rowF (by repeat (first | exact List.Mem.head _ | apply List.Mem.tail)) h) (by rfl) (by omega) ?_
            | refine XL.faR (by rfl) (by rfl) (by rfl) (by rfl) (by rfl) (by rfl) (by first | exact fun w h => St.row (by repeat (first | exact Sel.here | apply Sel.there)) h | exact fun w h => St.rowF (by repeat (first | exact List.Mem.head _ | apply List.Mem.tail)) h | exact fun w h => Hd.rowF (by repeat (first | exact List.Mem.head _ | apply List.Mem.tail)) h) (by assumption) ?_
            | refine XL.ldR (by rfl) (by rfl) (by rfl) (by rfl) (by rfl) (by rfl) (by first | exact fun w h => St.row (by repeat (first | exact Sel.here | apply Sel.there)) h | exact fun w h => St.rowF (by repeat (first | exact List.Mem.head _ | apply List.Mem.tail)) h | exact fun w h => Hd.rowF (by repeat (first | exact List.Mem.head _ | apply List.Mem.tail)) h) (by assumption) ?_
            | refine XL.lenS (by rfl) (by rfl) (by rfl) (by rfl) (by rfl) (by rfl) (by rfl) ?_
            | refine XL.lenStr (by rfl) (by rfl) (by rfl) (by rfl) (by rfl) (by rfl) (by rfl) ?_
            | refine XL.succ (by rfl) (by rfl) (by rfl) (by rfl) (by rfl) (by rfl) (by omega) ?_
            | refine XL.addn (by rfl) (by rfl) (by rfl) (by rfl) (by rfl) (by rfl) (by omega) ?_
            | refine XL.add (by rfl) (by rfl) (by rfl) (by rfl) (by rfl) (by rfl) (by omega) ?_
            | refine XL.pred (by rfl) (by rfl) (by rfl) (by rfl) (by rfl) (by rfl) (by omega) ?_
            | refine XL.sub (by rfl) (by rfl) (by rfl) (by rfl) (by rfl) (by rfl) (by omega) ?_
            | refine XL.min2 (by rfl) (by rfl) (by rfl) (by rfl) (by rfl) (by rfl) ?_
            | refine XL.max2 (by rfl) (by rfl) (by rfl) (by rfl) (by rfl) (by rfl) ?_
            | refine XL.eqB (by rfl) (by rfl) (by rfl) (by rfl) (by rfl) (by rfl) (by rfl) ?_
            | refine XL.neB (by rfl) (by rfl) (by rfl) (by rfl) (by rfl) (by rfl) (by rfl) ?_
            | refine XL.psome (by rfl) (by rfl) (by rfl) (by rfl) (by rfl) (by rfl) (by rfl) ?_
            | refine XL.pnone (by rfl) (by rfl) (by rfl) (by rfl) (by rfl) (by rfl) (by rfl) ?_
            | refine XL.psome' (by rfl) (by rfl) (by rfl) (by rfl) (by rfl) (by rfl) (by rfl) ?_
            | refine XL.pnone' (by rfl) (by rfl) (by rfl) (by rfl) (by rfl) (by rfl) (by rfl) ?_
            | refine XL.conv64 (by rfl) (by rfl) (by rfl) (by rfl) (by rfl) (by rfl) (by rfl) (by omega) ?_))
        refine XA.tk 6 (by rfl) (by kernel_rfl) (by repeat (first | exact PF.body | apply PF.sq | apply PF.rd | apply PF.mt | apply PF.block)) ?_
        (repeat' (first
          | refine XQ.tk ?_
          | refine XL.ldh (by rfl) (by rfl) (by rfl) (by rfl) (by rfl) (by rfl) (by repeat (first | exact Sel.here | apply Sel.there)) (by rfl) ?_
          | refine XL.nil ?_
            | (refine XL.guard_d (by rfl) (by rfl) (fun h => ?_) (fun h => ?_) <;> try (first | (exfalso; omega) | exact absurd rfl h))
            | refine XL.pures (by rfl) (by rfl) (by rfl) (by rfl) (by rfl) ?_
            | refine XL.not_d (by rfl) (by rfl) (by rfl) (by rfl) (by rfl) ?_
            | refine XL.pure 1 (by rfl) ?_
            | refine XL.fa0 (by rfl) (by rfl) (by rfl) (by rfl) (by rfl) (by rfl) ?_
            | refine XL.ld (by rfl) (by rfl) (by rfl) (by rfl) (by rfl) (by rfl) (by repeat (first | exact Sel.here | apply Sel.there)) (by rfl) ?_
            | refine XL.fa (by rfl) (by rfl) (by rfl) (by rfl) (by rfl) (by rfl) ?_
            | refine XL.ia1 (by rfl) (by rfl) (by rfl) (by rfl) (by rfl) (by rfl) (by rfl) (by omega) ?_
            | refine XL.ldr (by rfl) (by rfl) (by rfl) (by rfl) (by rfl) (by rfl) (by repeat (first | exact Sel.here | apply Sel.there)) (by assumption) ?_
            | refine XL.stl (by rfl) (by rfl) (by rfl) (by rfl) (by rfl) (by rfl) (by rfl) (by repeat (first | exact Sel.here | apply Sel.there)) (by rfl) ?_
            | refine XL.lenR (by rfl) (by rfl) (by rfl) (by rfl) (by rfl) (by rfl) (by rfl) (by first | exact fun w h => St.row (by repeat (first | exact Sel.here | apply Sel.there)) h | exact fun w h => St.rowF (by repeat (first | exact List.Mem.head _ | apply List.Mem.tail)) h | exact fun w h => Hd.rowF (by repeat (first | exact List.Mem.head _ | apply List.Mem.tail)) h) ?_
            | refine XL.iaR1 (by rfl) (by rfl) (by rfl) (by rfl) (by rfl) (by rfl) (by rfl) (by first | exact fun w h => St.row (by repeat (first | exact Sel.here | apply Sel.there)) h | exact fun w h => St.rowF (by repeat (first | exact List.Mem.head _ | apply List.Mem.tail)) h | exact fun w h => Hd.rowF (by repeat (first | exact List.Mem.head _ | apply List.Mem.tail)) h) (by omega) ?_
            | refine XL.iaR2 (by rfl) (by rfl) (by rfl) (by rfl) (by rfl) (by rfl) (by first | exact fun w h => St.row (by repeat (first | exact Sel.here | apply Sel.there)) h | exact fun w h => St.rowF (by repeat (first | exact List.Mem.head _ | apply List.Mem.tail)) h | exact fun w h => Hd.rowF (by repeat (first | exact List.Mem.head _ | apply List.Mem.tail)) h) (by rfl) (by omega) ?_
            | refine XL.faR (by rfl) (by rfl) (by rfl) (by rfl) (by rfl) (by rfl) (by first | exact fun w h => St.row (by repeat (first | exact Sel.here | apply Sel.there)) h | exact fun w h => St.rowF (by repeat (first | exact List.Mem.head _ | apply List.Mem.tail)) h | exact fun w h => Hd.rowF (by repeat (first | exact List.Mem.head _ | apply List.Mem.tail)) h) (by assumption) ?_
            | refine XL.ldR (by rfl) (by rfl) (by rfl) (by rfl) (by rfl) (by rfl) (by first | exact fun w h => St.row (by repeat (first | exact Sel.here | apply Sel.there)) h | exact fun w h => St.rowF (by repeat (first | exact List.Mem.head _ | apply List.Mem.tail)) h | exact fun w h => Hd.rowF (by repeat (first | exact List.Mem.head _ | apply List.Mem.tail)) h) (by assumption) ?_
            | refine XL.lenS (by rfl) (by rfl) (by rfl) (by rfl) (by rfl) (by rfl) (by rfl) ?_
            | refine XL.lenStr (by rfl) (by rfl) (by rfl) (by rfl) (by rfl) (by rfl) (by rfl) ?_
            | refine XL.succ (by rfl) (by rfl) (by rfl) (by rfl) (by rfl) (by rfl) (by omega) ?_
            | refine XL.addn (by rfl) (by rfl) (by rfl) (by rfl) (by rfl) (by rfl) (by omega) ?_
            | refine XL.add (by rfl) (by rfl) (by rfl) (by rfl) (by rfl) (by rfl) (by omega) ?_
            | refine XL.pred (by rfl) (by rfl) (by rfl) (by rfl) (by rfl) (by rfl) (by omega) ?_
            | refine XL.sub (by rfl) (by rfl) (by rfl) (by rfl) (by rfl) (by rfl) (by omega) ?_
            | refine XL.min2 (by rfl) (by rfl) (by rfl) (by rfl) (by rfl) (by rfl) ?_
            | refine XL.max2 (by rfl) (by rfl) (by rfl) (by rfl) (by rfl) (by rfl) ?_
            | refine XL.eqB (by rfl) (by rfl) (by rfl) (by rfl) (by rfl) (by rfl) (by rfl) ?_
            | refine XL.neB (by rfl) (by rfl) (by rfl) (by rfl) (by rfl) (by rfl) (by rfl) ?_
            | refine XL.psome (by rfl) (by rfl) (by rfl) (by rfl) (by rfl) (by rfl) (by rfl) ?_
            | refine XL.pnone (by rfl) (by rfl) (by rfl) (by rfl) (by rfl) (by rfl) (by rfl) ?_
            | refine XL.psome' (by rfl) (by rfl) (by rfl) (by rfl) (by rfl) (by rfl) (by rfl) ?_
            | refine XL.pnone' (by rfl) (by rfl) (by rfl) (by rfl) (by rfl) (by rfl) (by rfl) ?_
            | refine XL.conv64 (by rfl) (by rfl) (by rfl) (by rfl) (by rfl) (by rfl) (by rfl) (by omega) ?_))
        refine XA.tk 7 (by rfl) (by kernel_rfl) (by repeat (first | exact PF.body | apply PF.sq | apply PF.rd | apply PF.mt | apply PF.block)) ?_
        (repeat' (first
          | refine XQ.tk ?_
          | refine XL.ldh (by rfl) (by rfl) (by rfl) (by rfl) (by rfl) (by rfl) (by repeat (first | exact Sel.here | apply Sel.there)) (by rfl) ?_
          | refine XL.nil ?_
            | (refine XL.guard_d (by rfl) (by rfl) (fun h => ?_) (fun h => ?_) <;> try (first | (exfalso; omega) | exact absurd rfl h))
            | refine XL.pures (by rfl) (by rfl) (by rfl) (by rfl) (by rfl) ?_
            | refine XL.not_d (by rfl) (by rfl) (by rfl) (by rfl) (by rfl) ?_
            | refine XL.pure 1 (by rfl) ?_
            | refine XL.fa0 (by rfl) (by rfl) (by rfl) (by rfl) (by rfl) (by rfl) ?_
            | refine XL.ld (by rfl) (by rfl) (by rfl) (by rfl) (by rfl) (by rfl) (by repeat (first | exact Sel.here | apply Sel.there)) (by rfl) ?_
            | refine XL.fa (by rfl) (by rfl) (by rfl) (by rfl) (by rfl) (by rfl) ?_
            | refine XL.ia1 (by rfl) (by rfl) (by rfl) (by rfl) (by rfl) (by rfl) (by rfl) (by omega) ?_
            | refine XL.ldr (by rfl) (by rfl) (by rfl) (by rfl) (by rfl) (by rfl) (by repeat (first | exact Sel.here | apply Sel.there)) (by assumption) ?_
            | refine XL.stl (by rfl) (by rfl) (by rfl) (by rfl) (by rfl) (by rfl) (by rfl) (by repeat (first | exact Sel.here | apply Sel.there)) (by rfl) ?_
            | refine XL.lenR (by rfl) (by rfl) (by rfl) (by rfl) (by rfl) (by rfl) (by rfl) (by first | exact fun w h => St.row (by repeat (first | exact Sel.here | apply Sel.there)) h | exact fun w h => St.rowF (by repeat (first | exact List.Mem.head _ | apply List.Mem.tail)) h | exact fun w h => Hd.rowF (by repeat (first | exact List.Mem.head _ | apply List.Mem.tail)) h) ?_
            | refine XL.iaR1 (by rfl) (by rfl) (by rfl) (by rfl) (by rfl) (by rfl) (by rfl) (by first | exact fun w h => St.row (by repeat (first | exact Sel.here | apply Sel.there)) h | exact fun w h => St.rowF (by repeat (first | exact List.Mem.head _ | apply List.Mem.tail)) h | exact fun w h => Hd.rowF (by repeat (first | exact List.Mem.head _ | apply List.Mem.tail)) h) (by omega) ?_
            | refine XL.iaR2 (by rfl) (by rfl) (by rfl) (by rfl) (by rfl) (by rfl) (by first | exact fun w h => St.row (by repeat (first | exact Sel.here | apply Sel.there)) h | exact fun w h => St.rowF (by repeat (first | exact List.Mem.head _ | apply List.Mem.tail)) h | exact fun w h => Hd.rowF (by repeat (first | exact List.Mem.head _ | apply List.Mem.tail)) h) (by rfl) (by omega) ?_
            | refine XL.faR (by rfl) (by rfl) (by rfl) (by rfl) (by rfl) (by rfl) (by first | exact fun w h => St.row (by repeat (first | exact Sel.here | apply Sel.there)) h | exact fun w h => St.rowF (by repeat (first | exact List.Mem.head _ | apply List.Mem.tail)) h | exact fun w h => Hd.rowF (by repeat (first | exact List.Mem.head _ | apply List.Mem.tail)) h) (by assumption) ?_
            | refine XL.ldR (by rfl) (by rfl) (by rfl) (by rfl) (by rfl) (by rfl) (by first | exact fun w h => St.row (by repeat (first | exact Sel.here | apply Sel.there)) h | exact fun w h => St.rowF (by repeat (first | exact List.Mem.head _ | apply List.Mem.tail)) h | exact fun w h => Hd.rowF (by repeat (first | exact List.Mem.head _ | apply List.Mem.tail)) h) (by assumption) ?_
            | refine XL.lenS (by rfl) (by rfl) (by rfl) (by rfl) (by rfl) (by rfl) (by rfl) ?_
            | refine XL.lenStr (by rfl) (by rfl) (by rfl) (by rfl) (by rfl) (by rfl) (by rfl) ?_
            | refine XL.succ (by rfl) (by rfl) (by rfl) (by rfl) (by rfl) (by rfl) (by omega) ?_
            | refine XL.addn (by rfl) (by rfl) (by rfl) (by rfl) (by rfl) (by rfl) (by omega) ?_
            | refine XL.add (by rfl) (by rfl) (by rfl) (by rfl) (by rfl) (by rfl) (by omega) ?_
            | refine XL.pred (by rfl) (by rfl) (by rfl) (by rfl) (by rfl) (by rfl) (by omega) ?_
            | refine XL.sub (by rfl) (by rfl) (by rfl) (by rfl) (by rfl) (by rfl) (by omega) ?_
            | refine XL.min2 (by rfl) (by rfl) (by rfl) (by rfl) (by rfl) (by rfl) ?_
            | refine XL.max2 (by rfl) (by rfl) (by rfl) (by rfl) (by rfl) (by rfl) ?_
            | refine XL.eqB (by rfl) (by rfl) (by rfl) (by rfl) (by rfl) (by rfl) (by rfl) ?_
            | refine XL.neB (by rfl) (by rfl) (by rfl) (by rfl) (by rfl) (by rfl) (by rfl) ?_
            | refine XL.psome (by rfl) (by rfl) (by rfl) (by rfl) (by rfl) (by rfl) (by rfl) ?_
            | refine XL.pnone (by rfl) (by rfl) (by rfl) (by rfl) (by rfl) (by rfl) (by rfl) ?_
            | refine XL.psome' (by rfl) (by rfl) (by rfl) (by rfl) (by rfl) (by rfl) (by rfl) ?_
            | refine XL.pnone' (by rfl) (by rfl) (by rfl) (by rfl) (by rfl) (by rfl) (by rfl) ?_
            | refine XL.conv64 (by rfl) (by rfl) (by rfl) (by rfl) (by rfl) (by rfl) (by rfl) (by omega) ?_))
        refine XA.tk 8 (by rfl) (by kernel_rfl) (by repeat (first | exact PF.body | apply PF.sq | apply PF.rd | apply PF.mt | apply PF.block)) ?_
        (repeat' (first
          | refine XQ.tk ?_
          | refine XL.ldh (by rfl) (by rfl) (by rfl) (by rfl) (by rfl) (by rfl) (by repeat (first | exact Sel.here | apply Sel.there)) (by rfl) ?_
          | refine XL.nil ?_
            | (refine XL.guard_d (by rfl) (by rfl) (fun h => ?_) (fun h => ?_) <;> try (first | (exfalso; omega) | exact absurd rfl h))
            | refine XL.pures (by rfl) (by rfl) (by rfl) (by rfl) (by rfl) ?_
            | refine XL.not_d (by rfl) (by rfl) (by rfl) (by rfl) (by rfl) ?_
            | refine XL.pure 1 (by rfl) ?_
            | refine XL.fa0 (by rfl) (by rfl) (by rfl) (by rfl) (by rfl) (by rfl) ?_
            | refine XL.ld (by rfl) (by rfl) (by rfl) (by rfl) (by rfl) (by rfl) (by repeat (first | exact Sel.here | apply Sel.there)) (by rfl) ?_
            | refine XL.fa (by rfl) (by rfl) (by rfl) (by rfl) (by rfl) (by rfl) ?_
            | refine XL.ia1 (by rfl) (by rfl) (by rfl) (by rfl) (by rfl) (by rfl) (by rfl) (by omega) ?_
            | refine XL.ldr (by rfl) (by rfl) (by rfl) (by rfl) (by rfl) (by rfl) (by repeat (first | exact Sel.here | apply Sel.there)) (by assumption) ?_
            | refine XL.stl (by rfl) (by rfl) (by rfl) (by rfl) (by rfl) (by rfl) (by rfl) (by repeat (first | exact Sel.here | apply Sel.there)) (by rfl) ?_
            | refine XL.lenR (by rfl) (by rfl) (by rfl) (by rfl) (by rfl) (by rfl) (by rfl) (by first | exact fun w h => St.row (by repeat (first | exact Sel.here | apply Sel.there)) h | exact fun w h => St.rowF (by repeat (first | exact List.Mem.head _ | apply List.Mem.tail)) h | exact fun w h => Hd.rowF (by repeat (first | exact List.Mem.head _ | apply List.Mem.tail)) h) ?_
            | refine XL.iaR1 (by rfl) (by rfl) (by rfl) (by rfl) (by rfl) (by rfl) (by rfl) (by first | exact fun w h => St.row (by repeat (first | exact Sel.here | apply Sel.there)) h | exact fun w h => St.rowF (by repeat (first | exact List.Mem.head _ | apply List.Mem.tail)) h | exact fun w h => Hd.rowF (by repeat (first | exact List.Mem.head _ | apply List.Mem.tail)) h) (by omega) ?_
            | refine XL.iaR2 (by rfl) (by rfl) (by rfl) (by rfl) (by rfl) (by rfl) (by first | exact fun w h => St.row (by repeat (first | exact Sel.here | apply Sel.there)) h | exact fun w h => St.rowF (by repeat (first | exact List.Mem.head _ | apply List.Mem.tail)) h | exact fun w h => Hd.rowF (by repeat (first | exact List.Mem.head _ | apply List.Mem.tail)) h) (by rfl) (by omega) ?_
            | refine XL.faR (by rfl) (by rfl) (by rfl) (by rfl) (by rfl) (by rfl) (by first | exact fun w h => St.row (by repeat (first | exact Sel.here | apply Sel.there)) h | exact fun w h => St.rowF (by repeat (first | exact List.Mem.head _ | apply List.Mem.tail)) h | exact fun w h => Hd.rowF (by repeat (first | exact List.Mem.head _ | apply List.Mem.tail)) h) (by assumption) ?_
            | refine XL.ldR (by rfl) (by rfl) (by rfl) (by rfl) (by rfl) (by rfl) (by first | exact fun w h => St.row (by repeat (first | exact Sel.here | apply Sel.there)) h | exact fun w h => St.rowF (by repeat (first | exact List.Mem.head _ | apply List.Mem.tail)) h | exact fun w h => Hd.rowF (by repeat (first | exact List.Mem.head _ | apply List.Mem.tail)) h) (by assumption) ?_
            | refine XL.lenS (by rfl) (by rfl) (by rfl) (by rfl) (by rfl) (by rfl) (by rfl) ?_
            | refine XL.lenStr (by rfl) (by rfl) (by rfl) (by rfl) (by rfl) (by rfl) (by rfl) ?_
            | refine XL.succ (by rfl) (by rfl) (by rfl) (by rfl) (by rfl) (by rfl) (by omega) ?_
            | refine XL.addn (by rfl) (by rfl) (by rfl) (by rfl) (by rfl) (by rfl) (by omega) ?_
            | refine XL.add (by rfl) (by rfl) (by rfl) (by rfl) (by rfl) (by rfl) (by omega) ?_
            | refine XL.pred (by rfl) (by rfl) (by rfl) (by rfl) (by rfl) (by rfl) (by omega) ?_
            | refine XL.sub (by rfl) (by rfl) (by rfl) (by rfl) (by rfl) (by rfl) (by omega) ?_
            | refine XL.min2 (by rfl) (by rfl) (by rfl) (by rfl) (by rfl) (by rfl) ?_
            | refine XL.max2 (by rfl) (by rfl) (by rfl) (by rfl) (by rfl) (by rfl) ?_
            | refine XL.eqB (by rfl) (by rfl) (by rfl) (by rfl) (by rfl) (by rfl) (by rfl) ?_
            | refine XL.neB (by rfl) (by rfl) (by rfl) (by rfl) (by rfl) (by rfl) (by rfl) ?_
            | refine XL.psome (by rfl) (by rfl) (by rfl) (by rfl) (by rfl) (by rfl) (by rfl) ?_
            | refine XL.pnone (by rfl) (by rfl) (by rfl) (by rfl) (by rfl) (by rfl) (by rfl) ?_
            | refine XL.psome' (by rfl) (by rfl) (by rfl) (by rfl) (by rfl) (by rfl) (by rfl) ?_
            | refine XL.pnone' (by rfl) (by rfl) (by rfl) (by rfl) (by rfl) (by rfl) (by rfl) ?_
            | refine XL.conv64 (by rfl) (by rfl) (by rfl) (by rfl) (by rfl) (by rfl) (by rfl) (by omega) ?_))
        refine XA.tk 9 (by rfl) (by kernel_rfl) (by repeat (first | exact PF.body | apply PF.sq | apply PF.rd | apply PF.mt | apply PF.block)) ?_
        (repeat' (first
          | refine XQ.tk ?_
          | refine XL.ldh (by rfl) (by rfl) (by rfl) (by rfl) (by rfl) (by rfl) (by repeat (first | exact Sel.here | apply Sel.there)) (by rfl) ?_
          | refine XL.nil ?_
            | (refine XL.guard_d (by rfl) (by rfl) (fun h => ?_) (fun h => ?_) <;> try (first | (exfalso; omega) | exact absurd rfl h))
            | refine XL.pures (by rfl) (by rfl) (by rfl) (by rfl) (by rfl) ?_
            | refine XL.not_d (by rfl) (by rfl) (by rfl) (by rfl) (by rfl) ?_
            | refine XL.pure 1 (by rfl) ?_
            | refine XL.fa0 (by rfl) (by rfl) (by rfl) (by rfl) (by rfl) (by rfl) ?_
            | refine XL.ld (by rfl) (by rfl) (by rfl) (by rfl) (by rfl) (by rfl) (by repeat (first | exact Sel.here | apply Sel.there)) (by rfl) ?_
            | refine XL.fa (by rfl) (by rfl) (by rfl) (by rfl) (by rfl) (by rfl) ?_
            | refine XL.ia1 (by rfl) (by rfl) (by rfl) (by rfl) (by rfl) (by rfl) (by rfl) (by omega) ?_
            | refine XL.ldr (by rfl) (by rfl) (by rfl) (by rfl) (by rfl) (by rfl) (by repeat (first | exact Sel.here | apply Sel.there)) (by assumption) ?_
            | refine XL.stl (by rfl) (by rfl) (by rfl) (by rfl) (by rfl) (by rfl) (by rfl) (by repeat (first | exact Sel.here | apply Sel.there)) (by rfl) ?_
            | refine XL.lenR (by rfl) (by rfl) (by rfl) (by rfl) (by rfl) (by rfl) (by rfl) (by first | exact fun w h => St.row (by repeat (first | exact Sel.here | apply Sel.there)) h | exact fun w h => St.rowF (by repeat (first | exact List.Mem.head _ | apply List.Mem.tail)) h | exact fun w h => Hd.rowF (by repeat (first | exact List.Mem.head _ | apply List.Mem.tail)) h) ?_
            | refine XL.iaR1 (by rfl) (by rfl) (by rfl) (by rfl) (by rfl) (by rfl) (by rfl) (by first | exact fun w h => St.row (by repeat (first | exact Sel.here | apply Sel.there)) h | exact fun w h => St.rowF (by repeat (first | exact List.Mem.head _ | apply List.Mem.tail)) h | exact fun w h => Hd.rowF (by repeat (first | exact List.Mem.head _ | apply List.Mem.tail)) h) (by omega) ?_
            | refine XL.iaR2 (by rfl) (by rfl) (by rfl) (by rfl) (by rfl) (by rfl) (by first | exact fun w h => St.row (by repeat (first | exact Sel.here | apply Sel.there)) h | exact fun w h => St.rowF (by repeat (first | exact List.Mem.head _ | apply List.Mem.tail)) h | exact fun w h => Hd.rowF (by repeat (first | exact List.Mem.head _ | apply List.Mem.tail)) h) (by rfl) (by omega) ?_
            | refine XL.faR (by rfl) (by rfl) (by rfl) (by rfl) (by rfl) (by rfl) (by first | exact fun w h => St.row (by repeat (first | exact Sel.here | apply Sel.there)) h | exact fun w h => St.rowF (by repeat (first | exact List.Mem.head _ | apply List.Mem.tail)) h | exact fun w h => Hd.rowF (by repeat (first | exact List.Mem.head _ | apply List.Mem.tail)) h) (by assumption) ?_
            | refine XL.ldR (by rfl) (by rfl) (by rfl) (by rfl) (by rfl) (by rfl) (by first | exact fun w h => St.row (by repeat (first | exact Sel.here | apply Sel.there)) h | exact fun w h => St.rowF (by repeat (first | exact List.Mem.head _ | apply List.Mem.tail)) h | exact fun w h => Hd.rowF (by repeat (first | exact List.Mem.head _ | apply List.Mem.tail)) h) (by assumption) ?_
            | refine XL.lenS (by rfl) (by rfl) (by rfl) (by rfl) (by rfl) (by rfl) (by rfl) ?_
            | refine XL.lenStr (by rfl) (by rfl) (by rfl) (by rfl) (by rfl) (by rfl) (by rfl) ?_
            | refine XL.succ (by rfl) (by rfl) (by rfl) (by rfl) (by rfl) (by rfl) (by omega) ?_
            | refine XL.addn (by rfl) (by rfl) (by rfl) (by rfl) (by rfl) (by rfl) (by omega) ?_
            | refine XL.add (by rfl) (by rfl) (by rfl) (by rfl) (by rfl) (by rfl) (by omega) ?_
            | refine XL.pred (by rfl) (by rfl) (by rfl) (by rfl) (by rfl) (by rfl) (by omega) ?_
            | refine XL.sub (by rfl) (by rfl) (by rfl) (by rfl) (by rfl) (by rfl) (by omega) ?_
            | refine XL.min2 (by rfl) (by rfl) (by rfl) (by rfl) (by rfl) (by rfl) ?_
            | refine XL.max2 (by rfl) (by rfl) (by rfl) (by rfl) (by rfl) (by rfl) ?_
            | refine XL.eqB (by rfl) (by rfl) (by rfl) (by rfl) (by rfl) (by rfl) (by rfl) ?_
            | refine XL.neB (by rfl) (by rfl) (by rfl) (by rfl) (by rfl) (by rfl) (by rfl) ?_
            | refine XL.psome (by rfl) (by rfl) (by rfl) (by rfl) (by rfl) (by rfl) (by rfl) ?_
            | refine XL.pnone (by rfl) (by rfl) (by rfl) (by rfl) (by rfl) (by rfl) (by rfl) ?_
            | refine XL.psome' (by rfl) (by rfl) (by rfl) (by rfl) (by rfl) (by rfl) (by rfl) ?_
            | refine XL.pnone' (by rfl) (by rfl) (by rfl) (by rfl) (by rfl) (by rfl) (by rfl) ?_
            | refine XL.conv64 (by rfl) (by rfl) (by rfl) (by rfl) (by rfl) (by rfl) (by rfl) (by omega) ?_))
        refine XA.tk 10 (by rfl) (by kernel_rfl) (by repeat (first | exact PF.body | apply PF.sq | apply PF.rd | apply PF.mt | apply PF.block)) ?_
        (repeat' (first
          | refine XQ.tk ?_
          | refine XL.ldh (by rfl) (by rfl) (by rfl) (by rfl) (by rfl) (by rfl) (by repeat (first | exact Sel.here | apply Sel.there)) (by rfl) ?_
          | refine XL.nil ?_
            | (refine XL.guard_d (by rfl) (by rfl) (fun h => ?_) (fun h => ?_) <;> try (first | (exfalso; omega) | exact absurd rfl h))
            | refine XL.pures (by rfl) (by rfl) (by rfl) (by rfl) (by rfl) ?_
            | refine XL.not_d (by rfl) (by rfl) (by rfl) (by rfl) (by rfl) ?_
            | refine XL.pure 1 (by rfl) ?_
            | refine XL.fa0 (by rfl) (by rfl) (by rfl) (by rfl) (by rfl) (by rfl) ?_
            | refine XL.ld (by rfl) (by rfl) (by rfl) (by rfl) (by rfl) (by rfl) (by repeat (first | exact Sel.here | apply Sel.there)) (by rfl) ?_
            | refine XL.fa (by rfl) (by rfl) (by rfl) (by rfl) (by rfl) (by rfl) ?_
            | refine XL.ia1 (by rfl) (by rfl) (by rfl) (by rfl) (by rfl) (by rfl) (by rfl) (by omega) ?_
            | refine XL.ldr (by rfl) (by rfl) (by rfl) (by rfl) (by rfl) (by rfl) (by repeat (first | exact Sel.here | apply Sel.there)) (by assumption) ?_
            | refine XL.stl (by rfl) (by rfl) (by rfl) (by rfl) (by rfl) (by rfl) (by rfl) (by repeat (first | exact Sel.here | apply Sel.there)) (by rfl) ?_
            | refine XL.lenR (by rfl) (by rfl) (by rfl) (by rfl) (by rfl) (by rfl) (by rfl) (by first | exact fun w h => St.row (by repeat (first | exact Sel.here | apply Sel.there)) h | exact fun w h => St.rowF (by repeat (first | exact List.Mem.head _ | apply List.Mem.tail)) h | exact fun w h => Hd.rowF (by repeat (first | exact List.Mem.head _ | apply List.Mem.tail)) h) ?_
            | refine XL.iaR1 (by rfl) (by rfl) (by rfl) (by rfl) (by rfl) (by rfl) (by rfl) (by first | exact fun w h => St.row (by repeat (first | exact Sel.here | apply Sel.there)) h | exact fun w h => St.rowF (by repeat (first | exact List.Mem.head _ | apply List.Mem.tail)) h | exact fun w h => Hd.rowF (by repeat (first | exact List.Mem.head _ | apply List.Mem.tail)) h) (by omega) ?_
            | refine XL.iaR2 (by rfl) (by rfl) (by rfl) (by rfl) (by rfl) (by rfl) (by first | exact fun w h => St.row (by repeat (first | exact Sel.here | apply Sel.there)) h | exact fun w h => St.rowF (by repeat (first | exact List.Mem.head _ | apply List.Mem.tail)) h | exact fun w h => Hd.rowF (by repeat (first | exact List.Mem.head _ | apply List.Mem.tail)) h) (by rfl) (by omega) ?_
            | refine XL.faR (by rfl) (by rfl) (by rfl) (by rfl) (by rfl) (by rfl) (by first | exact fun w h => St.row (by repeat (first | exact Sel.here | apply Sel.there)) h | exact fun w h => St.rowF (by repeat (first | exact List.Mem.head _ | apply List.Mem.tail)) h | exact fun w h => Hd.rowF (by repeat (first | exact List.Mem.head _ | apply List.Mem.tail)) h) (by assumption) ?_
            | refine XL.ldR (by rfl) (by rfl) (by rfl) (by rfl) (by rfl) (by rfl) (by first | exact fun w h => St.row (by repeat (first | exact Sel.here | apply Sel.there)) h | exact fun w h => St.rowF (by repeat (first | exact List.Mem.head _ | apply List.Mem.tail)) h | exact fun w h => Hd.rowF (by repeat (first | exact List.Mem.head _ | apply List.Mem.tail)) h) (by assumption) ?_
            | refine XL.lenS (by rfl) (by rfl) (by rfl) (by rfl) (by rfl) (by rfl) (by rfl) ?_
            | refine XL.lenStr (by rfl) (by rfl) (by rfl) (by rfl) (by rfl) (by rfl) (by rfl) ?_
            | refine XL.succ (by rfl) (by rfl) (by rfl) (by rfl) (by rfl) (by rfl) (by omega) ?_
            | refine XL.addn (by rfl) (by rfl) (by rfl) (by rfl) (by rfl) (by rfl) (by omega) ?_
            | refine XL.add (by rfl) (by rfl) (by rfl) (by rfl) (by rfl) (by rfl) (by omega) ?_
            | refine XL.pred (by rfl) (by rfl) (by rfl) (by rfl) (by rfl) (by rfl) (by omega) ?_
            | refine XL.sub (by rfl) (by rfl) (by rfl) (by rfl) (by rfl) (by rfl) (by omega) ?_
            | refine XL.min2 (by rfl) (by rfl) (by rfl) (by rfl) (by rfl) (by rfl) ?_
            | refine XL.max2 (by rfl) (by rfl) (by rfl) (by rfl) (by rfl) (by rfl) ?_
            | refine XL.eqB (by rfl) (by rfl) (by rfl) (by rfl) (by rfl) (by rfl) (by rfl) ?_
            | refine XL.neB (by rfl) (by rfl) (by rfl) (by rfl) (by rfl) (by rfl) (by rfl) ?_
            | refine XL.psome (by rfl) (by rfl) (by rfl) (by rfl) (by rfl) (by rfl) (by rfl) ?_
            | refine XL.pnone (by rfl) (by rfl) (by rfl) (by rfl) (by rfl) (by rfl) (by rfl) ?_
            | refine XL.psome' (by rfl) (by rfl) (by rfl) (by rfl) (by rfl) (by rfl) (by rfl) ?_
            | refine XL.pnone' (by rfl) (by rfl) (by rfl) (by rfl) (by rfl) (by rfl) (by rfl) ?_
            | refine XL.conv64 (by rfl) (by rfl) (by rfl) (by rfl) (by rfl) (by rfl) (by rfl) (by omega) ?_))
        refine XA.an1 11 (by decide +kernel) (by rfl) ?_
        refine XL.trir (refJoin_is hN4 (grp_len N l k)) (by rfl) (by rfl) (by rfl) (by rfl) (by rfl) (by rfl) (by rfl) (by repeat' (first | exact Sels.nil | exact Sel.here | apply Sels.cons | apply Sel.there)) (fun _ h => nomatch h) ?_
        rintro v1 -
        conv => arg 9; dsimp only [List.cons_append, List.nil_append]
        try conv => arg 7; dsimp only
        (repeat' (first
          | refine XQ.an (fun w h => h.hd (by repeat' (first | exact Sels.nil | exact Sel.here | apply Sels.cons | apply Sel.there))) ?_
          | refine XL.nil ?_
            | (refine XL.guard_d (by rfl) (by rfl) (fun h => ?_) (fun h => ?_) <;> try (first | (exfalso; omega) | exact absurd rfl h))
            | refine XL.pures (by rfl) (by rfl) (by rfl) (by rfl) (by rfl) ?_
            | refine XL.not_d (by rfl) (by rfl) (by rfl) (by rfl) (by rfl) ?_
            | refine XL.pure 1 (by rfl) ?_
            | refine XL.fa0 (by rfl) (by rfl) (by rfl) (by rfl) (by rfl) (by rfl) ?_
            | refine XL.ld (by rfl) (by rfl) (by rfl) (by rfl) (by rfl) (by rfl) (by repeat (first | exact Sel.here | apply Sel.there)) (by rfl) ?_
            | refine XL.fa (by rfl) (by rfl) (by rfl) (by rfl) (by rfl) (by rfl) ?_
            | refine XL.ia1 (by rfl) (by rfl) (by rfl) (by rfl) (by rfl) (by rfl) (by rfl) (by omega) ?_
            | refine XL.ldr (by rfl) (by rfl) (by rfl) (by rfl) (by rfl) (by rfl) (by repeat (first | exact Sel.here | apply Sel.there)) (by assumption) ?_
            | refine XL.stl (by rfl) (by rfl) (by rfl) (by rfl) (by rfl) (by rfl) (by rfl) (by repeat (first | exact Sel.here | apply Sel.there)) (by rfl) ?_
            | refine XL.lenR (by rfl) (by rfl) (by rfl) (by rfl) (by rfl) (by rfl) (by rfl) (by first | exact fun w h => St.row (by repeat (first | exact Sel.here | apply Sel.there)) h | exact fun w h => St.rowF (by repeat (first | exact List.Mem.head _ | apply List.Mem.tail)) h | exact fun w h => Hd.rowF (by repeat (first | exact List.Mem.head _ | apply List.Mem.tail)) h) ?_
            | refine XL.iaR1 (by rfl) (by rfl) (by rfl) (by rfl) (by rfl) (by rfl) (by rfl) (by first | exact fun w h => St.row (by repeat (first | exact Sel.here | apply Sel.there)) h | exact fun w h => St.rowF (by repeat (first | exact List.Mem.head _ | apply List.Mem.tail)) h | exact fun w h => Hd.rowF (by repeat (first | exact List.Mem.head _ | apply List.Mem.tail)) h) (by omega) ?_
            | refine XL.iaR2 (by rfl) (by rfl) (by rfl) (by rfl) (by rfl) (by rfl) (by first | exact fun w h => St.row (by repeat (first | exact Sel.here | apply Sel.there)) h | exact fun w h => St.rowF (by repeat (first | exact List.Mem.head _ | apply List.Mem.tail)) h | exact fun w h => Hd.rowF (by repeat (first | exact List.Mem.head _ | apply List.Mem.tail)) h) (by rfl) (by omega) ?_
            | refine XL.faR (by rfl) (by rfl) (by rfl) (by rfl) (by rfl) (by rfl) (by first | exact fun w h => St.row (by repeat (first | exact Sel.here | apply Sel.there)) h | exact fun w h => St.rowF (by repeat (first | exact List.Mem.head _ | apply List.Mem.tail)) h | exact fun w h => Hd.rowF (by repeat (first | exact List.Mem.head _ | apply List.Mem.tail)) h) (by assumption) ?_
            | refine XL.ldR (by rfl) (by rfl) (by rfl) (by rfl) (by rfl) (by rfl) (by first | exact fun w h => St.row (by repeat (first | exact Sel.here | apply Sel.there)) h | exact fun w h => St.rowF (by repeat (first | exact List.Mem.head _ | apply List.Mem.tail)) h | exact fun w h => Hd.rowF (by repeat (first | exact List.Mem.head _ | apply List.Mem.tail)) h) (by assumption) ?_
            | refine XL.lenS (by rfl) (by rfl) (by rfl) (by rfl) (by rfl) (by rfl) (by rfl) ?_
            | refine XL.lenStr (by rfl) (by rfl) (by rfl) (by rfl) (by rfl) (by rfl) (by rfl) ?_
            | refine XL.succ (by rfl) (by rfl) (by rfl) (by rfl) (by rfl) (by rfl) (by omega) ?_
            | refine XL.addn (by rfl) (by rfl) (by rfl) (by rfl) (by rfl) (by rfl) (by omega) ?_
            | refine XL.add (by rfl) (by rfl) (by rfl) (by rfl) (by rfl) (by rfl) (by omega) ?_
            | refine XL.pred (by rfl) (by rfl) (by rfl) (by rfl) (by rfl) (by rfl) (by omega) ?_
            | refine XL.sub (by rfl) (by rfl) (by rfl) (by rfl) (by rfl) (by rfl) (by omega) ?_
            | refine XL.min2 (by rfl) (by rfl) (by rfl) (by rfl) (by rfl) (by rfl) ?_
            | refine XL.max2 (by rfl) (by rfl) (by rfl) (by rfl) (by rfl) (by rfl) ?_
            | refine XL.eqB (by rfl) (by rfl) (by rfl) (by rfl) (by rfl) (by rfl) (by rfl) ?_
            | refine XL.neB (by rfl) (by rfl) (by rfl) (by rfl) (by rfl) (by rfl) (by rfl) ?_
            | refine XL.psome (by rfl) (by rfl) (by rfl) (by rfl) (by rfl) (by rfl) (by rfl) ?_
            | refine XL.pnone (by rfl) (by rfl) (by rfl) (by rfl) (by rfl) (by rfl) (by rfl) ?_
            | refine XL.psome' (by rfl) (by rfl) (by rfl) (by rfl) (by rfl) (by rfl) (by rfl) ?_
            | refine XL.pnone' (by rfl) (by rfl) (by rfl) (by rfl) (by rfl) (by rfl) (by rfl) ?_
            | refine XL.conv64 (by rfl) (by rfl) (by rfl) (by rfl) (by rfl) (by rfl) (by rfl) (by omega) ?_))
        refine XA.tk 12 (by rfl) (by kernel_rfl) (by repeat (first | exact PF.body | apply PF.sq | apply PF.rd | apply PF.mt | apply PF.block)) ?_
        (repeat' (first
          | refine XQ.tk ?_
          | refine XL.ldh (by rfl) (by rfl) (by rfl) (by rfl) (by rfl) (by rfl) (by repeat (first | exact Sel.here | apply Sel.there)) (by rfl) ?_
          | refine XL.nil ?_
            | (refine XL.guard_d (by rfl) (by rfl) (fun h => ?_) (fun h => ?_) <;> try (first | (exfalso; omega) | exact absurd rfl h))
            | refine XL.pures (by rfl) (by rfl) (by rfl) (by rfl) (by rfl) ?_
            | refine XL.not_d (by rfl) (by rfl) (by rfl) (by rfl) (by rfl) ?_
            | refine XL.pure 1 (by rfl) ?_
            | refine XL.fa0 (by rfl) (by rfl) (by rfl) (by rfl) (by rfl) (by rfl) ?_
            | refine XL.ld (by rfl) (by rfl) (by rfl) (by rfl) (by rfl) (by rfl) (by repeat (first | exact Sel.here | apply Sel.there)) (by rfl) ?_
            | refine XL.fa (by rfl) (by rfl) (by rfl) (by rfl) (by rfl) (by rfl) ?_
            | refine XL.ia1 (by rfl) (by rfl) (by rfl) (by rfl) (by rfl) (by rfl) (by rfl) (by omega) ?_
            | refine XL.ldr (by rfl) (by rfl) (by rfl) (by rfl) (by rfl) (by rfl) (by repeat (first | exact Sel.here | apply Sel.there)) (by assumption) ?_
            | refine XL.stl (by rfl) (by rfl) (by rfl) (by rfl) (by rfl) (by rfl) (by rfl) (by repeat (first | exact Sel.here | apply Sel.there)) (by rfl) ?_
            | refine XL.lenR (by rfl) (by rfl) (by rfl) (by rfl) (by rfl) (by rfl) (by rfl) (by first | exact fun w h => St.row (by repeat (first | exact Sel.here | apply Sel.there)) h | exact fun w h => St.rowF (by repeat (first | exact List.Mem.head _ | apply List.Mem.tail)) h | exact fun w h => Hd.rowF (by repeat (first | exact List.Mem.head _ | apply List.Mem.tail)) h) ?_
            | refine XL.iaR1 (by rfl) (by rfl) (by rfl) (by rfl) (by rfl) (by rfl) (by rfl) (by first | exact fun w h => St.row (by repeat (first | exact Sel.here | apply Sel.there)) h | exact fun w h => St.rowF (by repeat (first | exact List.Mem.head _ | apply List.Mem.tail)) h | exact fun w h => Hd.rowF (by repeat (first | exact List.Mem.head _ | apply List.Mem.tail)) h) (by omega) ?_
            | refine XL.iaR2 (by rfl) (by rfl) (by rfl) (by rfl) (by rfl) (by rfl) (by first | exact fun w h => St.row (by repeat (first | exact Sel.here | apply Sel.there)) h | exact fun w h => St.rowF (by repeat (first | exact List.Mem.head _ | apply List.Mem.tail)) h | exact fun w h => Hd.rowF (by repeat (first | exact List.Mem.head _ | apply List.Mem.tail)) h) (by rfl) (by omega) ?_
            | refine XL.faR (by rfl) (by rfl) (by rfl) (by rfl) (by rfl) (by rfl) (by first | exact fun w h => St.row (by repeat (first | exact Sel.here | apply Sel.there)) h | exact fun w h => St.rowF (by repeat (first | exact List.Mem.head _ | apply List.Mem.tail)) h | exact fun w h => Hd.rowF (by repeat (first | exact List.Mem.head _ | apply List.Mem.tail)) h) (by assumption) ?_
            | refine XL.ldR (by rfl) (by rfl) (by rfl) (by rfl) (by rfl) (by rfl) (by first | exact fun w h => St.row (by repeat (first | exact Sel.here | apply Sel.there)) h | exact fun w h => St.rowF (by repeat (first | exact List.Mem.head _ | apply List.Mem.tail)) h | exact fun w h => Hd.rowF (by repeat (first | exact List.Mem.head _ | apply List.Mem.tail)) h) (by assumption) ?_
            | refine XL.lenS (by rfl) (by rfl) (by rfl) (by rfl) (by rfl) (by rfl) (by rfl) ?_
            | refine XL.lenStr (by rfl) (by rfl) (by rfl) (by rfl) (by rfl) (by rfl) (by rfl) ?_
            | refine XL.succ (by rfl) (by rfl) (by rfl) (by rfl) (by rfl) (by rfl) (by omega) ?_
            | refine XL.addn (by rfl) (by rfl) (by rfl) (by rfl) (by rfl) (by rfl) (by omega) ?_
            | refine XL.add (by rfl) (by rfl) (by rfl) (by rfl) (by rfl) (by rfl) (by omega) ?_
            | refine XL.pred (by rfl) (by rfl) (by rfl) (by rfl) (by rfl) (by rfl) (by omega) ?_
            | refine XL.sub (by rfl) (by rfl) (by rfl) (by rfl) (by rfl) (by rfl) (by omega) ?_
            | refine XL.min2 (by rfl) (by rfl) (by rfl) (by rfl) (by rfl) (by rfl) ?_
            | refine XL.max2 (by rfl) (by rfl) (by rfl) (by rfl) (by rfl) (by rfl) ?_
            | refine XL.eqB (by rfl) (by rfl) (by rfl) (by rfl) (by rfl) (by rfl) (by rfl) ?_
            | refine XL.neB (by rfl) (by rfl) (by rfl) (by rfl) (by rfl) (by rfl) (by rfl) ?_
            | refine XL.psome (by rfl) (by rfl) (by rfl) (by rfl) (by rfl) (by rfl) (by rfl) ?_
            | refine XL.pnone (by rfl) (by rfl) (by rfl) (by rfl) (by rfl) (by rfl) (by rfl) ?_
            | refine XL.psome' (by rfl) (by rfl) (by rfl) (by rfl) (by rfl) (by rfl) (by rfl) ?_
            | refine XL.pnone' (by rfl) (by rfl) (by rfl) (by rfl) (by rfl) (by rfl) (by rfl) ?_
            | refine XL.conv64 (by rfl) (by rfl) (by rfl) (by rfl) (by rfl) (by rfl) (by rfl) (by omega) ?_))
        refine XA.tk 13 (by rfl) (by kernel_rfl) (by repeat (first | exact PF.body | apply PF.sq | apply PF.rd | apply PF.mt | apply PF.block)) ?_
        (repeat' (first
          | refine XQ.tk ?_
          | refine XL.ldh (by rfl) (by rfl) (by rfl) (by rfl) (by rfl) (by rfl) (by repeat (first | exact Sel.here | apply Sel.there)) (by rfl) ?_
          | refine XL.nil ?_
            | (refine XL.guard_d (by rfl) (by rfl) (fun h => ?_) (fun h => ?_) <;> try (first | (exfalso; omega) | exact absurd rfl h))
            | refine XL.pures (by rfl) (by rfl) (by rfl) (by rfl) (by rfl) ?_
            | refine XL.not_d (by rfl) (by rfl) (by rfl) (by rfl) (by rfl) ?_
            | refine XL.pure 1 (by rfl) ?_
            | refine XL.fa0 (by rfl) (by rfl) (by rfl) (by rfl) (by rfl) (by rfl) ?_
            | refine XL.ld (by rfl) (by rfl) (by rfl) (by rfl) (by rfl) (by rfl) (by repeat (first | exact Sel.here | apply Sel.there)) (by rfl) ?_
            | refine XL.fa (by rfl) (by rfl) (by rfl) (by rfl) (by rfl) (by rfl) ?_
            | refine XL.ia1 (by rfl) (by rfl) (by rfl) (by rfl) (by rfl) (by rfl) (by rfl) (by omega) ?_
            | refine XL.ldr (by rfl) (by rfl) (by rfl) (by rfl) (by rfl) (by rfl) (by repeat (first | exact Sel.here | apply Sel.there)) (by assumption) ?_
            | refine XL.stl (by rfl) (by rfl) (by rfl) (by rfl) (by rfl) (by rfl) (by rfl) (by repeat (first | exact Sel.here | apply Sel.there)) (by rfl) ?_
            | refine XL.lenR (by rfl) (by rfl) (by rfl) (by rfl) (by rfl) (by rfl) (by rfl) (by first | exact fun w h => St.row (by repeat (first | exact Sel.here | apply Sel.there)) h | exact fun w h => St.rowF (by repeat (first | exact List.Mem.head _ | apply List.Mem.tail)) h | exact fun w h => Hd.rowF (by repeat (first | exact List.Mem.head _ | apply List.Mem.tail)) h) ?_
            | refine XL.iaR1 (by rfl) (by rfl) (by rfl) (by rfl) (by rfl) (by rfl) (by rfl) (by first | exact fun w h => St.row (by repeat (first | exact Sel.here | apply Sel.there)) h | exact fun w h => St.rowF (by repeat (first | exact List.Mem.head _ | apply List.Mem.tail)) h | exact fun w h => Hd.rowF (by repeat (first | exact List.Mem.head _ | apply List.Mem.tail)) h) (by omega) ?_
            | refine XL.iaR2 (by rfl) (by rfl) (by rfl) (by rfl) (by rfl) (by rfl) (by first | exact fun w h => St.row (by repeat (first | exact Sel.here | apply Sel.there)) h | exact fun w h => St.rowF (by repeat (first | exact List.Mem.head _ | apply List.Mem.tail)) h | exact fun w h => Hd.rowF (by repeat (first | exact List.Mem.head _ | apply List.Mem.tail)) h) (by rfl) (by omega) ?_
            | refine XL.faR (by rfl) (by rfl) (by rfl) (by rfl) (by rfl) (by rfl) (by first | exact fun w h => St.row (by repeat (first | exact Sel.here | apply Sel.there)) h | exact fun w h => St.rowF (by repeat (first | exact List.Mem.head _ | apply List.Mem.tail)) h | exact fun w h => Hd.rowF (by repeat (first | exact List.Mem.head _ | apply List.Mem.tail)) h) (by assumption) ?_
            | refine XL.ldR (by rfl) (by rfl) (by rfl) (by rfl) (by rfl) (by rfl) (by first | exact fun w h => St.row (by repeat (first | exact Sel.here | apply Sel.there)) h | exact fun w h => St.rowF (by repeat (first | exact List.Mem.head _ | apply List.Mem.tail)) h | exact fun w h => Hd.rowF (by repeat (first | exact List.Mem.head _ | apply List.Mem.tail)) h) (by assumption) ?_
            | refine XL.lenS (by rfl) (by rfl) (by rfl) (by rfl) (by rfl) (by rfl) (by rfl) ?_
            | refine XL.lenStr (by rfl) (by rfl) (by rfl) (by rfl) (by rfl) (by rfl) (by rfl) ?_
            | refine XL.succ (by rfl) (by rfl) (by rfl) (by rfl) (by rfl) (by rfl) (by omega) ?_
            | refine XL.addn (by rfl) (by rfl) (by rfl) (by rfl) (by rfl) (by rfl) (by omega) ?_
            | refine XL.add (by rfl) (by rfl) (by rfl) (by rfl) (by rfl) (by rfl) (by omega) ?_
            | refine XL.pred (by rfl) (by rfl) (by rfl) (by rfl) (by rfl) (by rfl) (by omega) ?_
            | refine XL.sub (by rfl) (by rfl) (by rfl) (by rfl) (by rfl) (by rfl) (by omega) ?_
            | refine XL.min2 (by rfl) (by rfl) (by rfl) (by rfl) (by rfl) (by rfl) ?_
            | refine XL.max2 (by rfl) (by rfl) (by rfl) (by rfl) (by rfl) (by rfl) ?_
            | refine XL.eqB (by rfl) (by rfl) (by rfl) (by rfl) (by rfl) (by rfl) (by rfl) ?_
            | refine XL.neB (by rfl) (by rfl) (by rfl) (by rfl) (by rfl) (by rfl) (by rfl) ?_
            | refine XL.psome (by rfl) (by rfl) (by rfl) (by rfl) (by rfl) (by rfl) (by rfl) ?_
            | refine XL.pnone (by rfl) (by rfl) (by rfl) (by rfl) (by rfl) (by rfl) (by rfl) ?_
            | refine XL.psome' (by rfl) (by rfl) (by rfl) (by rfl) (by rfl) (by rfl) (by rfl) ?_
            | refine XL.pnone' (by rfl) (by rfl) (by rfl) (by rfl) (by rfl) (by rfl) (by rfl) ?_
            | refine XL.conv64 (by rfl) (by rfl) (by rfl) (by rfl) (by rfl) (by rfl) (by rfl) (by omega) ?_))
        refine XA.tk 14 (by rfl) (by kernel_rfl) (by repeat (first | exact PF.body | apply PF.sq | apply PF.rd | apply PF.mt | apply PF.block)) ?_
        (repeat' (first
          | refine XQ.tk ?_
          | refine XL.ldh (by rfl) (by rfl) (by rfl) (by rfl) (by rfl) (by rfl) (by repeat (first | exact Sel.here | apply Sel.there)) (by rfl) ?_
          | refine XL.nil ?_
            | (refine XL.guard_d (by rfl) (by rfl) (fun h => ?_) (fun h => ?_) <;> try (first | (exfalso; omega) | exact absurd rfl h))
            | refine XL.pures (by rfl) (by rfl) (by rfl) (by rfl) (by rfl) ?_
            | refine XL.not_d (by rfl) (by rfl) (by rfl) (by rfl) (by rfl) ?_
            | refine XL.pure 1 (by rfl) ?_
            | refine XL.fa0 (by rfl) (by rfl) (by rfl) (by rfl) (by rfl) (by rfl) ?_
            | refine XL.ld (by rfl) (by rfl) (by rfl) (by rfl) (by rfl) (by rfl) (by repeat (first | exact Sel.here | apply Sel.there)) (by rfl) ?_
            | refine XL.fa (by rfl) (by rfl) (by rfl) (by rfl) (by rfl) (by rfl) ?_
            | refine XL.ia1 (by rfl) (by rfl) (by rfl) (by rfl) (by rfl) (by rfl) (by rfl) (by omega) ?_
            | refine XL.ldr (by rfl) (by rfl) (by rfl) (by rfl) (by rfl) (by rfl) (by repeat (first | exact Sel.here | apply Sel.there)) (by assumption) ?_
            | refine XL.stl (by rfl) (by rfl) (by rfl) (by rfl) (by rfl) (by rfl) (by rfl) (by repeat (first | exact Sel.here | apply Sel.there)) (by rfl) ?_
            | refine XL.lenR (by rfl) (by rfl) (by rfl) (by rfl) (by rfl) (by rfl) (by rfl) (by first | exact fun w h => St.row (by repeat (first | exact Sel.here | apply Sel.there)) h | exact fun w h => St.rowF (by repeat (first | exact List.Mem.head _ | apply List.Mem.tail)) h | exact fun w h => Hd.rowF (by repeat (first | exact List.Mem.head _ | apply List.Mem.tail)) h) ?_
            | refine XL.iaR1 (by rfl) (by rfl) (by rfl) (by rfl) (by rfl) (by rfl) (by rfl) (by first | exact fun w h => St.row (by repeat (first | exact Sel.here | apply Sel.there)) h | exact fun w h => St.rowF (by repeat (first | exact List.Mem.head _ | apply List.Mem.tail)) h | exact fun w h => Hd.rowF (by repeat (first | exact List.Mem.head _ | apply List.Mem.tail)) h) (by omega) ?_
            | refine XL.iaR2 (by rfl) (by rfl) (by rfl) (by rfl) (by rfl) (by rfl) (by first | exact fun w h => St.row (by repeat (first | exact Sel.here | apply Sel.there)) h | exact fun w h => St.rowF (by repeat (first | exact List.Mem.head _ | apply List.Mem.tail)) h | exact fun w h => Hd.rowF (by repeat (first | exact List.Mem.head _ | apply List.Mem.tail)) h) (by rfl) (by omega) ?_
            | refine XL.faR (by rfl) (by rfl) (by rfl) (by rfl) (by rfl) (by rfl) (by first | exact fun w h => St.row (by repeat (first | exact Sel.here | apply Sel.there)) h | exact fun w h => St.rowF (by repeat (first | exact List.Mem.head _ | apply List.Mem.tail)) h | exact fun w h => Hd.rowF (by repeat (first | exact List.Mem.head _ | apply List.Mem.tail)) h) (by assumption) ?_
            | refine XL.ldR (by rfl) (by rfl) (by rfl) (by rfl) (by rfl) (by rfl) (by first | exact fun w h => St.row (by repeat (first | exact Sel.here | apply Sel.there)) h | exact fun w h => St.rowF (by repeat (first | exact List.Mem.head _ | apply List.Mem.tail)) h | exact fun w h => Hd.rowF (by repeat (first | exact List.Mem.head _ | apply List.Mem.tail)) h) (by assumption) ?_
            | refine XL.lenS (by rfl) (by rfl) (by rfl) (by rfl) (by rfl) (by rfl) (by rfl) ?_
            | refine XL.lenStr (by rfl) (by rfl) (by rfl) (by rfl) (by rfl) (by rfl) (by rfl) ?_
            | refine XL.succ (by rfl) (by rfl) (by rfl) (by rfl) (by rfl) (by rfl) (by omega) ?_
            | refine XL.addn (by rfl) (by rfl) (by rfl) (by rfl) (by rfl) (by rfl) (by omega) ?_
            | refine XL.add (by rfl) (by rfl) (by rfl) (by rfl) (by rfl) (by rfl) (by omega) ?_
            | refine XL.pred (by rfl) (by rfl) (by rfl) (by rfl) (by rfl) (by rfl) (by omega) ?_
            | refine XL.sub (by rfl) (by rfl) (by rfl) (by rfl) (by rfl) (by rfl) (by omega) ?_
            | refine XL.min2 (by rfl) (by rfl) (by rfl) (by rfl) (by rfl) (by rfl) ?_
            | refine XL.max2 (by rfl) (by rfl) (by rfl) (by rfl) (by rfl) (by rfl) ?_
            | refine XL.eqB (by rfl) (by rfl) (by rfl) (by rfl) (by rfl) (by rfl) (by rfl) ?_
            | refine XL.neB (by rfl) (by rfl) (by rfl) (by rfl) (by rfl) (by rfl) (by rfl) ?_
            | refine XL.psome (by rfl) (by rfl) (by rfl) (by rfl) (by rfl) (by rfl) (by rfl) ?_
            | refine XL.pnone (by rfl) (by rfl) (by rfl) (by rfl) (by rfl) (by rfl) (by rfl) ?_
            | refine XL.psome' (by rfl) (by rfl) (by rfl) (by rfl) (by rfl) (by rfl) (by rfl) ?_
            | refine XL.pnone' (by rfl) (by rfl) (by rfl) (by rfl) (by rfl) (by rfl) (by rfl) ?_
            | refine XL.conv64 (by rfl) (by rfl) (by rfl) (by rfl) (by rfl) (by rfl) (by rfl) (by omega) ?_))
        refine XA.tk 15 (by rfl) (by kernel_rfl) (by repeat (first | exact PF.body | apply PF.sq | apply PF.rd | apply PF.mt | apply PF.block)) ?_
        (repeat' (first
          | refine XQ.tk ?_
          | refine XL.ldh (by rfl) (by rfl) (by rfl) (by rfl) (by rfl) (by rfl) (by repeat (first | exact Sel.here | apply Sel.there)) (by rfl) ?_
          | refine XL.nil ?_
            | (refine XL.guard_d (by rfl) (by rfl) (fun h => ?_) (fun h => ?_) <;> try (first | (exfalso; omega) | exact absurd rfl h))
            | refine XL.pures (by rfl) (by rfl) (by rfl) (by rfl) (by rfl) ?_
            | refine XL.not_d (by rfl) (by rfl) (by rfl) (by rfl) (by rfl) ?_
            | refine XL.pure 1 (by rfl) ?_
            | refine XL.fa0 (by rfl) (by rfl) (by rfl) (by rfl) (by rfl) (by rfl) ?_
            | refine XL.ld (by rfl) (by rfl) (by rfl) (by rfl) (by rfl) (by rfl) (by repeat (first | exact Sel.here | apply Sel.there)) (by rfl) ?_
            | refine XL.fa (by rfl) (by rfl) (by rfl) (by rfl) (by rfl) (by rfl) ?_
            | refine XL.ia1 (by rfl) (by rfl) (by rfl) (by rfl) (by rfl) (by rfl) (by rfl) (by omega) ?_
            | refine XL.ldr (by rfl) (by rfl) (by rfl) (by rfl) (by rfl) (by rfl) (by repeat (first | exact Sel.here | apply Sel.there)) (by assumption) ?_
            | refine XL.stl (by rfl) (by rfl) (by rfl) (by rfl) (by rfl) (by rfl) (by rfl) (by repeat (first | exact Sel.here | apply Sel.there)) (by rfl) ?_
            | refine XL.lenR (by rfl) (by rfl) (by rfl) (by rfl) (by rfl) (by rfl) (by rfl) (by first | exact fun w h => St.row (by repeat (first | exact Sel.here | apply Sel.there)) h | exact fun w h => St.rowF (by repeat (first | exact List.Mem.head _ | apply List.Mem.tail)) h | exact fun w h => Hd.rowF (by repeat (first | exact List.Mem.head _ | apply List.Mem.tail)) h) ?_
            | refine XL.iaR1 (by rfl) (by rfl) (by rfl) (by rfl) (by rfl) (by rfl) (by rfl) (by first | exact fun w h => St.row (by repeat (first | exact Sel.here | apply Sel.there)) h | exact fun w h => St.rowF (by repeat (first | exact List.Mem.head _ | apply List.Mem.tail)) h | exact fun w h => Hd.rowF (by repeat (first | exact List.Mem.head _ | apply List.Mem.tail)) h) (by omega) ?_
            | refine XL.iaR2 (by rfl) (by rfl) (by rfl) (by rfl) (by rfl) (by rfl) (by first | exact fun w h => St.row (by repeat (first | exact Sel.here | apply Sel.there)) h | exact fun w h => St.rowF (by repeat (first | exact List.Mem.head _ | apply List.Mem.tail)) h | exact fun w h => Hd.rowF (by repeat (first | exact List.Mem.head _ | apply List.Mem.tail)) h) (by rfl) (by omega) ?_
            | refine XL.faR (by rfl) (by rfl) (by rfl) (by rfl) (by rfl) (by rfl) (by first | exact fun w h => St.row (by repeat (first | exact Sel.here | apply Sel.there)) h | exact fun w h => St.rowF (by repeat (first | exact List.Mem.head _ | apply List.Mem.tail)) h | exact fun w h => Hd.rowF (by repeat (first | exact List.Mem.head _ | apply List.Mem.tail)) h) (by assumption) ?_
            | refine XL.ldR (by rfl) (by rfl) (by rfl) (by rfl) (by rfl) (by rfl) (by first | exact fun w h => St.row (by repeat (first | exact Sel.here | apply Sel.there)) h | exact fun w h => St.rowF (by repeat (first | exact List.Mem.head _ | apply List.Mem.tail)) h | exact fun w h => Hd.rowF (by repeat (first | exact List.Mem.head _ | apply List.Mem.tail)) h) (by assumption) ?_
            | refine XL.lenS (by rfl) (by rfl) (by rfl) (by rfl) (by rfl) (by rfl) (by rfl) ?_
            | refine XL.lenStr (by rfl) (by rfl) (by rfl) (by rfl) (by rfl) (by rfl) (by rfl) ?_
            | refine XL.succ (by rfl) (by rfl) (by rfl) (by rfl) (by rfl) (by rfl) (by omega) ?_
            | refine XL.addn (by rfl) (by rfl) (by rfl) (by rfl) (by rfl) (by rfl) (by omega) ?_
            | refine XL.add (by rfl) (by rfl) (by rfl) (by rfl) (by rfl) (by rfl) (by omega) ?_
            | refine XL.pred (by rfl) (by rfl) (by rfl) (by rfl) (by rfl) (by rfl) (by omega) ?_
            | refine XL.sub (by rfl) (by rfl) (by rfl) (by rfl) (by rfl) (by rfl) (by omega) ?_
            | refine XL.min2 (by rfl) (by rfl) (by rfl) (by rfl) (by rfl) (by rfl) ?_
            | refine XL.max2 (by rfl) (by rfl) (by rfl) (by rfl) (by rfl) (by rfl) ?_
            | refine XL.eqB (by rfl) (by rfl) (by rfl) (by rfl) (by rfl) (by rfl) (by rfl) ?_
            | refine XL.neB (by rfl) (by rfl) (by rfl) (by rfl) (by rfl) (by rfl) (by rfl) ?_
            | refine XL.psome (by rfl) (by rfl) (by rfl) (by rfl) (by rfl) (by rfl) (by rfl) ?_
            | refine XL.pnone (by rfl) (by rfl) (by rfl) (by rfl) (by rfl) (by rfl) (by rfl) ?_
            | refine XL.psome' (by rfl) (by rfl) (by rfl) (by rfl) (by rfl) (by rfl) (by rfl) ?_
            | refine XL.pnone' (by rfl) (by rfl) (by rfl) (by rfl) (by rfl) (by rfl) (by rfl) ?_
            | refine XL.conv64 (by rfl) (by rfl) (by rfl) (by rfl) (by rfl) (by rfl) (by rfl) (by omega) ?_))
        refine XA.tk 16 (by rfl) (by kernel_rfl) (by repeat (first | exact PF.body | apply PF.sq | apply PF.rd | apply PF.mt | apply PF.block)) ?_
        (repeat' (first
          | refine XQ.tk ?_
          | refine XL.ldh (by rfl) (by rfl) (by rfl) (by rfl) (by rfl) (by rfl) (by repeat (first | exact Sel.here | apply Sel.there)) (by rfl) ?_
          | refine XL.nil ?_
            | (refine XL.guard_d (by rfl) (by rfl) (fun h => ?_) (fun h => ?_) <;> try (first | (exfalso; omega) | exact absurd rfl h))
            | refine XL.pures (by rfl) (by rfl) (by rfl) (by rfl) (by rfl) ?_
            | refine XL.not_d (by rfl) (by rfl) (by rfl) (by rfl) (by rfl) ?_
            | refine XL.pure 1 (by rfl) ?_
            | refine XL.fa0 (by rfl) (by rfl) (by rfl) (by rfl) (by rfl) (by rfl) ?_
            | refine XL.ld (by rfl) (by rfl) (by rfl) (by rfl) (by rfl) (by rfl) (by repeat (first | exact Sel.here | apply Sel.there)) (by rfl) ?_
            | refine XL.fa (by rfl) (by rfl) (by rfl) (by rfl) (by rfl) (by rfl) ?_
            | refine XL.ia1 (by rfl) (by rfl) (by rfl) (by rfl) (by rfl) (by rfl) (by rfl) (by omega) ?_
            | refine XL.ldr (by rfl) (by rfl) (by rfl) (by rfl) (by rfl) (by rfl) (by repeat (first | exact Sel.here | apply Sel.there)) (by assumption) ?_
            | refine XL.stl (by rfl) (by rfl) (by rfl) (by rfl) (by rfl) (by rfl) (by rfl) (by repeat (first | exact Sel.here | apply Sel.there)) (by rfl) ?_
            | refine XL.lenR (by rfl) (by rfl) (by rfl) (by rfl) (by rfl) (by rfl) (by rfl) (by first | exact fun w h => St.row (by repeat (first | exact Sel.here | apply Sel.there)) h | exact fun w h => St.rowF (by repeat (first | exact List.Mem.head _ | apply List.Mem.tail)) h | exact fun w h => Hd.rowF (by repeat (first | exact List.Mem.head _ | apply List.Mem.tail)) h) ?_
            | refine XL.iaR1 (by rfl) (by rfl) (by rfl) (by rfl) (by rfl) (by rfl) (by rfl) (by first | exact fun w h => St.row (by repeat (first | exact Sel.here | apply Sel.there)) h | exact fun w h => St.rowF (by repeat (first | exact List.Mem.head _ | apply List.Mem.tail)) h | exact fun w h => Hd.rowF (by repeat (first | exact List.Mem.head _ | apply List.Mem.tail)) h) (by omega) ?_
            | refine XL.iaR2 (by rfl) (by rfl) (by rfl) (by rfl) (by rfl) (by rfl) (by first | exact fun w h => St.row (by repeat (first | exact Sel.here | apply Sel.there)) h | exact fun w h => St.rowF (by repeat (first | exact List.Mem.head _ | apply List.Mem.tail)) h | exact fun w h => Hd.rowF (by repeat (first | exact List.Mem.head _ | apply List.Mem.tail)) h) (by rfl) (by omega) ?_
            | refine XL.faR (by rfl) (by rfl) (by rfl) (by rfl) (by rfl) (by rfl) (by first | exact fun w h => St.row (by repeat (first | exact Sel.here | apply Sel.there)) h | exact fun w h => St.rowF (by repeat (first | exact List.Mem.head _ | apply List.Mem.tail)) h | exact fun w h => Hd.rowF (by repeat (first | exact List.Mem.head _ | apply List.Mem.tail)) h) (by assumption) ?_
            | refine XL.ldR (by rfl) (by rfl) (by rfl) (by rfl) (by rfl) (by rfl) (by first | exact fun w h => St.row (by repeat (first | exact Sel.here | apply Sel.there)) h | exact fun w h => St.rowF (by repeat (first | exact List.Mem.head _ | apply List.Mem.tail)) h | exact fun w h => Hd.rowF (by repeat (first | exact List.Mem.head _ | apply List.Mem.tail)) h) (by assumption) ?_
            | refine XL.lenS (by rfl) (by rfl) (by rfl) (by rfl) (by rfl) (by rfl) (by rfl) ?_
            | refine XL.lenStr (by rfl) (by rfl) (by rfl) (by rfl) (by rfl) (by rfl) (by rfl) ?_
            | refine XL.succ (by rfl) (by rfl) (by rfl) (by rfl) (by rfl) (by rfl) (by omega) ?_
            | refine XL.addn (by rfl) (by rfl) (by rfl) (by rfl) (by rfl) (by rfl) (by omega) ?_
            | refine XL.add (by rfl) (by rfl) (by rfl) (by rfl) (by rfl) (by rfl) (by omega) ?_
            | refine XL.pred (by rfl) (by rfl) (by rfl) (by rfl) (by rfl) (by rfl) (by omega) ?_
            | refine XL.sub (by rfl) (by rfl) (by rfl) (by rfl) (by rfl) (by rfl) (by omega) ?_
            | refine XL.min2 (by rfl) (by rfl) (by rfl) (by rfl) (by rfl) (by rfl) ?_
            | refine XL.max2 (by rfl) (by rfl) (by rfl) (by rfl) (by rfl) (by rfl) ?_
            | refine XL.eqB (by rfl) (by rfl) (by rfl) (by rfl) (by rfl) (by rfl) (by rfl) ?_
            | refine XL.neB (by rfl) (by rfl) (by rfl) (by rfl) (by rfl) (by rfl) (by rfl) ?_
            | refine XL.psome (by rfl) (by rfl) (by rfl) (by rfl) (by rfl) (by rfl) (by rfl) ?_
            | refine XL.pnone (by rfl) (by rfl) (by rfl) (by rfl) (by rfl) (by rfl) (by rfl) ?_
            | refine XL.psome' (by rfl) (by rfl) (by rfl) (by rfl) (by rfl) (by rfl) (by rfl) ?_
            | refine XL.pnone' (by rfl) (by rfl) (by rfl) (by rfl) (by rfl) (by rfl) (by rfl) ?_
            | refine XL.conv64 (by rfl) (by rfl) (by rfl) (by rfl) (by rfl) (by rfl) (by rfl) (by omega) ?_))
        refine XA.done (by decide +kernel) ?_
        repeat' (first
          | refine XC.seq ?_
            | refine XC.region ?_
            | refine XC.block ?_
            | refine XC.skip ?_
            | refine XC.ret ?_
            | refine XC.exit ?_
            | (refine XC.cond_d (by rfl) (fun h => ?_) (fun h => ?_) <;> try (first | (exfalso; omega) | exact absurd rfl h))
            | refine XC.cond_t (by rfl) ?_
            | refine XC.cond_f (by rfl) ?_
            | refine XQ.next ?_
            | refine XQ.blockN ?_
            | refine XQ.blockR ?_
            | refine XQ.blockE ?_
            | refine XQ.sqR ?_
            | refine XQ.sqE ?_
            | refine XQ.rdR ?_
            | refine XQ.rdE ?_
            | refine XQ.mtR ?_
            | refine XQ.mtE ?_
          | refine XL.nil ?_
            | (refine XL.guard_d (by rfl) (by rfl) (fun h => ?_) (fun h => ?_) <;> try (first | (exfalso; omega) | exact absurd rfl h))
            | refine XL.pures (by rfl) (by rfl) (by rfl) (by rfl) (by rfl) ?_
            | refine XL.not_d (by rfl) (by rfl) (by rfl) (by rfl) (by rfl) ?_
            | refine XL.pure 1 (by rfl) ?_
            | refine XL.fa0 (by rfl) (by rfl) (by rfl) (by rfl) (by rfl) (by rfl) ?_
            | refine XL.ld (by rfl) (by rfl) (by rfl) (by rfl) (by rfl) (by rfl) (by repeat (first | exact Sel.here | apply Sel.there)) (by rfl) ?_
            | refine XL.fa (by rfl) (by rfl) (by rfl) (by rfl) (by rfl) (by rfl) ?_
            | refine XL.ia1 (by rfl) (by rfl) (by rfl) (by rfl) (by rfl) (by rfl) (by rfl) (by omega) ?_
            | refine XL.ldr (by rfl) (by rfl) (by rfl) (by rfl) (by rfl) (by rfl) (by repeat (first | exact Sel.here | apply Sel.there)) (by assumption) ?_
            | refine XL.stl (by rfl) (by rfl) (by rfl) (by rfl) (by rfl) (by rfl) (by rfl) (by repeat (first | exact Sel.here | apply Sel.there)) (by rfl) ?_
            | refine XL.lenR (by rfl) (by rfl) (by rfl) (by rfl) (by rfl) (by rfl) (by rfl) (by first | exact fun w h => St.row (by repeat (first | exact Sel.here | apply Sel.there)) h | exact fun w h => St.rowF (by repeat (first | exact List.Mem.head _ | apply List.Mem.tail)) h | exact fun w h => Hd.rowF (by repeat (first | exact List.Mem.head _ | apply List.Mem.tail)) h) ?_
            | refine XL.iaR1 (by rfl) (by rfl) (by rfl) (by rfl) (by rfl) (by rfl) (by rfl) (by first | exact fun w h => St.row (by repeat (first | exact Sel.here | apply Sel.there)) h | exact fun w h => St.rowF (by repeat (first | exact List.Mem.head _ | apply List.Mem.tail)) h | exact fun w h => Hd.rowF (by repeat (first | exact List.Mem.head _ | apply List.Mem.tail)) h) (by omega) ?_
            | refine XL.iaR2 (by rfl) (by rfl) (by rfl) (by rfl) (by rfl) (by rfl) (by first | exact fun w h => St.row (by repeat (first | exact Sel.here | apply Sel.there)) h | exact fun w h => St.rowF (by repeat (first | exact List.Mem.head _ | apply List.Mem.tail)) h | exact fun w h => Hd.rowF (by repeat (first | exact List.Mem.head _ | apply List.Mem.tail)) h) (by rfl) (by omega) ?_
            | refine XL.faR (by rfl) (by rfl) (by rfl) (by rfl) (by rfl) (by rfl) (by first | exact fun w h => St.row (by repeat (first | exact Sel.here | apply Sel.there)) h | exact fun w h => St.rowF (by repeat (first | exact List.Mem.head _ | apply List.Mem.tail)) h | exact fun w h => Hd.rowF (by repeat (first | exact List.Mem.head _ | apply List.Mem.tail)) h) (by assumption) ?_
            | refine XL.ldR (by rfl) (by rfl) (by rfl) (by rfl) (by rfl) (by rfl) (by first | exact fun w h => St.row (by repeat (first | exact Sel.here | apply Sel.there)) h | exact fun w h => St.rowF (by repeat (first | exact List.Mem.head _ | apply List.Mem.tail)) h | exact fun w h => Hd.rowF (by repeat (first | exact List.Mem.head _ | apply List.Mem.tail)) h) (by assumption) ?_
            | refine XL.lenS (by rfl) (by rfl) (by rfl) (by rfl) (by rfl) (by rfl) (by rfl) ?_
            | refine XL.lenStr (by rfl) (by rfl) (by rfl) (by rfl) (by rfl) (by rfl) (by rfl) ?_
            | refine XL.succ (by rfl) (by rfl) (by rfl) (by rfl) (by rfl) (by rfl) (by omega) ?_
            | refine XL.addn (by rfl) (by rfl) (by rfl) (by rfl) (by rfl) (by rfl) (by omega) ?_
            | refine XL.add (by rfl) (by rfl) (by rfl) (by rfl) (by rfl) (by rfl) (by omega) ?_
            | refine XL.pred (by rfl) (by rfl) (by rfl) (by rfl) (by rfl) (by rfl) (by omega) ?_
            | refine XL.sub (by rfl) (by rfl) (by rfl) (by rfl) (by rfl) (by rfl) (by omega) ?_
            | refine XL.min2 (by rfl) (by rfl) (by rfl) (by rfl) (by rfl) (by rfl) ?_
            | refine XL.max2 (by rfl) (by rfl) (by rfl) (by rfl) (by rfl) (by rfl) ?_
            | refine XL.eqB (by rfl) (by rfl) (by rfl) (by rfl) (by rfl) (by rfl) (by rfl) ?_
            | refine XL.neB (by rfl) (by rfl) (by rfl) (by rfl) (by rfl) (by rfl) (by rfl) ?_
            | refine XL.psome (by rfl) (by rfl) (by rfl) (by rfl) (by rfl) (by rfl) (by rfl) ?_
            | refine XL.pnone (by rfl) (by rfl) (by rfl) (by rfl) (by rfl) (by rfl) (by rfl) ?_
            | refine XL.psome' (by rfl) (by rfl) (by rfl) (by rfl) (by rfl) (by rfl) (by rfl) ?_
            | refine XL.pnone' (by rfl) (by rfl) (by rfl) (by rfl) (by rfl) (by rfl) (by rfl) ?_
            | refine XL.conv64 (by rfl) (by rfl) (by rfl) (by rfl) (by rfl) (by rfl) (by rfl) (by omega) ?_)
        refine XC.any (Hd c [] [Row.fp 2 v l.length (pcell l)]) (by kernel_rfl) (fun w h => h.hd (by repeat' (first | exact Sels.nil | exact Sel.here | apply Sels.cons | apply Sel.there))) (fun _ m h => h.drewn m) ?_
        refine XA.tk 0 (by rfl) (by kernel_rfl) (by repeat (first | exact PF.body | apply PF.sq | apply PF.rd | apply PF.mt | apply PF.block)) ?_
        (repeat' (first
          | refine XQ.tk ?_
          | refine XL.ldh (by rfl) (by rfl) (by rfl) (by rfl) (by rfl) (by rfl) (by repeat (first | exact Sel.here | apply Sel.there)) (by rfl) ?_
          | refine XL.nil ?_
            | (refine XL.guard_d (by rfl) (by rfl) (fun h => ?_) (fun h => ?_) <;> try (first | (exfalso; omega) | exact absurd rfl h))
            | refine XL.pures (by rfl) (by rfl) (by rfl) (by rfl) (by rfl) ?_
            | refine XL.not_d (by rfl) (by rfl) (by rfl) (by rfl) (by rfl) ?_
            | refine XL.pure 1 (by rfl) ?_
            | refine XL.fa0 (by rfl) (by rfl) (by rfl) (by rfl) (by rfl) (by rfl) ?_
            | refine XL.ld (by rfl) (by rfl) (by rfl) (by rfl) (by rfl) (by rfl) (by repeat (first | exact Sel.here | apply Sel.there)) (by rfl) ?_
            | refine XL.fa (by rfl) (by rfl) (by rfl) (by rfl) (by rfl) (by rfl) ?_
            | refine XL.ia1 (by rfl) (by rfl) (by rfl) (by rfl) (by rfl) (by rfl) (by rfl) (by omega) ?_
            | refine XL.ldr (by rfl) (by rfl) (by rfl) (by rfl) (by rfl) (by rfl) (by repeat (first | exact Sel.here | apply Sel.there)) (by assumption) ?_
            | refine XL.stl (by rfl) (by rfl) (by rfl) (by rfl) (by rfl) (by rfl) (by rfl) (by repeat (first | exact Sel.here | apply Sel.there)) (by rfl) ?_
            | refine XL.lenR (by rfl) (by rfl) (by rfl) (by rfl) (by rfl) (by rfl) (by rfl) (by first | exact fun w h => St.row (by repeat (first | exact Sel.here | apply Sel.there)) h | exact fun w h => St.rowF (by repeat (first | exact List.Mem.head _ | apply List.Mem.tail)) h | exact fun w h => Hd.rowF (by repeat (first | exact List.Mem.head _ | apply List.Mem.tail)) h) ?_
            | refine XL.iaR1 (by rfl) (by rfl) (by rfl) (by rfl) (by rfl) (by rfl) (by rfl) (by first | exact fun w h => St.row (by repeat (first | exact Sel.here | apply Sel.there)) h | exact fun w h => St.rowF (by repeat (first | exact List.Mem.head _ | apply List.Mem.tail)) h | exact fun w h => Hd.rowF (by repeat (first | exact List.Mem.head _ | apply List.Mem.tail)) h) (by omega) ?_
            | refine XL.iaR2 (by rfl) (by rfl) (by rfl) (by rfl) (by rfl) (by rfl) (by first | exact fun w h => St.row (by repeat (first | exact Sel.here | apply Sel.there)) h | exact fun w h => St.rowF (by repeat (first | exact List.Mem.head _ | apply List.Mem.tail)) h | exact fun w h => Hd.rowF (by repeat (first | exact List.Mem.head _ | apply List.Mem.tail)) h) (by rfl) (by omega) ?_
            | refine XL.faR (by rfl) (by rfl) (by rfl) (by rfl) (by rfl) (by rfl) (by first | exact fun w h => St.row (by repeat (first | exact Sel.here | apply Sel.there)) h | exact fun w h => St.rowF (by repeat (first | exact List.Mem.head _ | apply List.Mem.tail)) h | exact fun w h => Hd.rowF (by repeat (first | exact List.Mem.head _ | apply List.Mem.tail)) h) (by assumption) ?_
            | refine XL.ldR (by rfl) (by rfl) (by rfl) (by rfl) (by rfl) (by rfl) (by first | exact fun w h => St.row (by repeat (first | exact Sel.here | apply Sel.there)) h | exact fun w h => St.rowF (by repeat (first | exact List.Mem.head _ | apply List.Mem.tail)) h | exact fun w h => Hd.rowF (by repeat (first | exact List.Mem.head _ | apply List.Mem.tail)) h) (by assumption) ?_
            | refine XL.lenS (by rfl) (by rfl) (by rfl) (by rfl) (by rfl) (by rfl) (by rfl) ?_
            | refine XL.lenStr (by rfl) (by rfl) (by rfl) (by rfl) (by rfl) (by rfl) (by rfl) ?_
            | refine XL.succ (by rfl) (by rfl) (by rfl) (by rfl) (by rfl) (by rfl) (by omega) ?_
            | refine XL.addn (by rfl) (by rfl) (by rfl) (by rfl) (by rfl) (by rfl) (by omega) ?_
            | refine XL.add (by rfl) (by rfl) (by rfl) (by rfl) (by rfl) (by rfl) (by omega) ?_
            | refine XL.pred (by rfl) (by rfl) (by rfl) (by rfl) (by rfl) (by rfl) (by omega) ?_
            | refine XL.sub (by rfl) (by rfl) (by rfl) (by rfl) (by rfl) (by rfl) (by omega) ?_
            | refine XL.min2 (by rfl) (by rfl) (by rfl) (by rfl) (by rfl) (by rfl) ?_
            | refine XL.max2 (by rfl) (by rfl) (by rfl) (by rfl) (by rfl) (by rfl) ?_
            | refine XL.eqB (by rfl) (by rfl) (by rfl) (by rfl) (by rfl) (by rfl) (by rfl) ?_
            | refine XL.neB (by rfl) (by rfl) (by rfl) (by rfl) (by rfl) (by rfl) (by rfl) ?_
            | refine XL.psome (by rfl) (by rfl) (by rfl) (by rfl) (by rfl) (by rfl) (by rfl) ?_
            | refine XL.pnone (by rfl) (by rfl) (by rfl) (by rfl) (by rfl) (by rfl) (by rfl) ?_
            | refine XL.psome' (by rfl) (by rfl) (by rfl) (by rfl) (by rfl) (by rfl) (by rfl) ?_
            | refine XL.pnone' (by rfl) (by rfl) (by rfl) (by rfl) (by rfl) (by rfl) (by rfl) ?_
            | refine XL.conv64 (by rfl) (by rfl) (by rfl) (by rfl) (by rfl) (by rfl) (by rfl) (by omega) ?_))
        refine XA.tk 1 (by rfl) (by kernel_rfl) (by repeat (first | exact PF.body | apply PF.sq | apply PF.rd | apply PF.mt | apply PF.block)) ?_
        (repeat' (first
          | refine XQ.tk ?_
          | refine XL.ldh (by rfl) (by rfl) (by rfl) (by rfl) (by rfl) (by rfl) (by repeat (first | exact Sel.here | apply Sel.there)) (by rfl) ?_
          | refine XL.nil ?_
            | (refine XL.guard_d (by rfl) (by rfl) (fun h => ?_) (fun h => ?_) <;> try (first | (exfalso; omega) | exact absurd rfl h))
            | refine XL.pures (by rfl) (by rfl) (by rfl) (by rfl) (by rfl) ?_
            | refine XL.not_d (by rfl) (by rfl) (by rfl) (by rfl) (by rfl) ?_
            | refine XL.pure 1 (by rfl) ?_
            | refine XL.fa0 (by rfl) (by rfl) (by rfl) (by rfl) (by rfl) (by rfl) ?_
            | refine XL.ld (by rfl) (by rfl) (by rfl) (by rfl) (by rfl) (by rfl) (by repeat (first | exact Sel.here | apply Sel.there)) (by rfl) ?_
            | refine XL.fa (by rfl) (by rfl) (by rfl) (by rfl) (by rfl) (by rfl) ?_
            | refine XL.ia1 (by rfl) (by rfl) (by rfl) (by rfl) (by rfl) (by rfl) (by rfl) (by omega) ?_
            | refine XL.ldr (by rfl) (by rfl) (by rfl) (by rfl) (by rfl) (by rfl) (by repeat (first | exact Sel.here | apply Sel.there)) (by assumption) ?_
            | refine XL.stl (by rfl) (by rfl) (by rfl) (by rfl) (by rfl) (by rfl) (by rfl) (by repeat (first | exact Sel.here | apply Sel.there)) (by rfl) ?_
            | refine XL.lenR (by rfl) (by rfl) (by rfl) (by rfl) (by rfl) (by rfl) (by rfl) (by first | exact fun w h => St.row (by repeat (first | exact Sel.here | apply Sel.there)) h | exact fun w h => St.rowF (by repeat (first | exact List.Mem.head _ | apply List.Mem.tail)) h | exact fun w h => Hd.rowF (by repeat (first | exact List.Mem.head _ | apply List.Mem.tail)) h) ?_
            | refine XL.iaR1 (by rfl) (by rfl) (by rfl) (by rfl) (by rfl) (by rfl) (by rfl) (by first | exact fun w h => St.row (by repeat (first | exact Sel.here | apply Sel.there)) h | exact fun w h => St.rowF (by repeat (first | exact List.Mem.head _ | apply List.Mem.tail)) h | exact fun w h => Hd.rowF (by repeat (first | exact List.Mem.head _ | apply List.Mem.tail)) h) (by omega) ?_
            | refine XL.iaR2 (by rfl) (by rfl) (by rfl) (by rfl) (by rfl) (by rfl) (by first | exact fun w h => St.row (by repeat (first | exact Sel.here | apply Sel.there)) h | exact fun w h => St.rowF (by repeat (first | exact List.Mem.head _ | apply List.Mem.tail)) h | exact fun w h => Hd.rowF (by repeat (first | exact List.Mem.head _ | apply List.Mem.tail)) h) (by rfl) (by omega) ?_
            | refine XL.faR (by rfl) (by rfl) (by rfl) (by rfl) (by rfl) (by rfl) (by first | exact fun w h => St.row (by repeat (first | exact Sel.here | apply Sel.there)) h | exact fun w h => St.rowF (by repeat (first | exact List.Mem.head _ | apply List.Mem.tail)) h | exact fun w h => Hd.rowF (by repeat (first | exact List.Mem.head _ | apply List.Mem.tail)) h) (by assumption) ?_
            | refine XL.ldR (by rfl) (by rfl) (by rfl) (by rfl) (by rfl) (by rfl) (by first | exact fun w h => St.row (by repeat (first | exact Sel.here | apply Sel.there)) h | exact fun w h => St.rowF (by repeat (first | exact List.Mem.head _ | apply List.Mem.tail)) h | exact fun w h => Hd.rowF (by repeat (first | exact List.Mem.head _ | apply List.Mem.tail)) h) (by assumption) ?_
            | refine XL.lenS (by rfl) (by rfl) (by rfl) (by rfl) (by rfl) (by rfl) (by rfl) ?_
            | refine XL.lenStr (by rfl) (by rfl) (by rfl) (by rfl) (by rfl) (by rfl) (by rfl) ?_
            | refine XL.succ (by rfl) (by rfl) (by rfl) (by rfl) (by rfl) (by rfl) (by omega) ?_
            | refine XL.addn (by rfl) (by rfl) (by rfl) (by rfl) (by rfl) (by rfl) (by omega) ?_
            | refine XL.add (by rfl) (by rfl) (by rfl) (by rfl) (by rfl) (by rfl) (by omega) ?_
            | refine XL.pred (by rfl) (by rfl) (by rfl) (by rfl) (by rfl) (by rfl) (by omega) ?_
            | refine XL.sub (by rfl) (by rfl) (by rfl) (by rfl) (by rfl) (by rfl) (by omega) ?_
            | refine XL.min2 (by rfl) (by rfl) (by rfl) (by rfl) (by rfl) (by rfl) ?_
            | refine XL.max2 (by rfl) (by rfl) (by rfl) (by rfl) (by rfl) (by rfl) ?_
            | refine XL.eqB (by rfl) (by rfl) (by rfl) (by rfl) (by rfl) (by rfl) (by rfl) ?_
            | refine XL.neB (by rfl) (by rfl) (by rfl) (by rfl) (by rfl) (by rfl) (by rfl) ?_
            | refine XL.psome (by rfl) (by rfl) (by rfl) (by rfl) (by rfl) (by rfl) (by rfl) ?_
            | refine XL.pnone (by rfl) (by rfl) (by rfl) (by rfl) (by rfl) (by rfl) (by rfl) ?_
            | refine XL.psome' (by rfl) (by rfl) (by rfl) (by rfl) (by rfl) (by rfl) (by rfl) ?_
            | refine XL.pnone' (by rfl) (by rfl) (by rfl) (by rfl) (by rfl) (by rfl) (by rfl) ?_
            | refine XL.conv64 (by rfl) (by rfl) (by rfl) (by rfl) (by rfl) (by rfl) (by rfl) (by omega) ?_))
        refine XA.tk 2 (by rfl) (by kernel_rfl) (by repeat (first | exact PF.body | apply PF.sq | apply PF.rd | apply PF.mt | apply PF.block)) ?_
        (repeat' (first
          | refine XQ.tk ?_
          | refine XL.ldh (by rfl) (by rfl) (by rfl) (by rfl) (by rfl) (by rfl) (by repeat (first | exact Sel.here | apply Sel.there)) (by rfl) ?_
          | refine XL.nil ?_
            | (refine XL.guard_d (by rfl) (by rfl) (fun h => ?_) (fun h => ?_) <;> try (first | (exfalso; omega) | exact absurd rfl h))
            | refine XL.pures (by rfl) (by rfl) (by rfl) (by rfl) (by rfl) ?_
            | refine XL.not_d (by rfl) (by rfl) (by rfl) (by rfl) (by rfl) ?_
            | refine XL.pure 1 (by rfl) ?_
            | refine XL.fa0 (by rfl) (by rfl) (by rfl) (by rfl) (by rfl) (by rfl) ?_
            | refine XL.ld (by rfl) (by rfl) (by rfl) (by rfl) (by rfl) (by rfl) (by repeat (first | exact Sel.here | apply Sel.there)) (by rfl) ?_
            | refine XL.fa (by rfl) (by rfl) (by rfl) (by rfl) (by rfl) (by rfl) ?_
            | refine XL.ia1 (by rfl) (by rfl) (by rfl) (by rfl) (by rfl) (by rfl) (by rfl) (by omega) ?_
            | refine XL.ldr (by rfl) (by rfl) (by rfl) (by rfl) (by rfl) (by rfl) (by repeat (first | exact Sel.here | apply Sel.there)) (by assumption) ?_
            | refine XL.stl (by rfl) (by rfl) (by rfl) (by rfl) (by rfl) (by rfl) (by rfl) (by repeat (first | exact Sel.here | apply Sel.there)) (by rfl) ?_
            | refine XL.lenR (by rfl) (by rfl) (by rfl) (by rfl) (by rfl) (by rfl) (by rfl) (by first | exact fun w h => St.row (by repeat (first | exact Sel.here | apply Sel.there)) h | exact fun w h => St.rowF (by repeat (first | exact List.Mem.head _ | apply List.Mem.tail)) h | exact fun w h => Hd.rowF (by repeat (first | exact List.Mem.head _ | apply List.Mem.tail)) h) ?_
            | refine XL.iaR1 (by rfl) (by rfl) (by rfl) (by rfl) (by rfl) (by rfl) (by rfl) (by first | exact fun w h => St.row (by repeat (first | exact Sel.here | apply Sel.there)) h | exact fun w h => St.rowF (by repeat (first | exact List.Mem.head _ | apply List.Mem.tail)) h | exact fun w h => Hd.rowF (by repeat (first | exact List.Mem.head _ | apply List.Mem.tail)) h) (by omega) ?_
            | refine XL.iaR2 (by rfl) (by rfl) (by rfl) (by rfl) (by rfl) (by rfl) (by first | exact fun w h => St.row (by repeat (first | exact Sel.here | apply Sel.there)) h | exact fun w h => St.rowF (by repeat (first | exact List.Mem.head _ | apply List.Mem.tail)) h | exact fun w h => Hd.rowF (by repeat (first | exact List.Mem.head _ | apply List.Mem.tail)) h) (by rfl) (by omega) ?_
            | refine XL.faR (by rfl) (by rfl) (by rfl) (by rfl) (by rfl) (by rfl) (by first | exact fun w h => St.row (by repeat (first | exact Sel.here | apply Sel.there)) h | exact fun w h => St.rowF (by repeat (first | exact List.Mem.head _ | apply List.Mem.tail)) h | exact fun w h => Hd.rowF (by repeat (first | exact List.Mem.head _ | apply List.Mem.tail)) h) (by assumption) ?_
            | refine XL.ldR (by rfl) (by rfl) (by rfl) (by rfl) (by rfl) (by rfl) (by first | exact fun w h => St.row (by repeat (first | exact Sel.here | apply Sel.there)) h | exact fun w h => St.rowF (by repeat (first | exact List.Mem.head _ | apply List.Mem.tail)) h | exact fun w h => Hd.rowF (by repeat (first | exact List.Mem.head _ | apply List.Mem.tail)) h) (by assumption) ?_
            | refine XL.lenS (by rfl) (by rfl) (by rfl) (by rfl) (by rfl) (by rfl) (by rfl) ?_
            | refine XL.lenStr (by rfl) (by rfl) (by rfl) (by rfl) (by rfl) (by rfl) (by rfl) ?_
            | refine XL.succ (by rfl) (by rfl) (by rfl) (by rfl) (by rfl) (by rfl) (by omega) ?_
            | refine XL.addn (by rfl) (by rfl) (by rfl) (by rfl) (by rfl) (by rfl) (by omega) ?_
            | refine XL.add (by rfl) (by rfl) (by rfl) (by rfl) (by rfl) (by rfl) (by omega) ?_
            | refine XL.pred (by rfl) (by rfl) (by rfl) (by rfl) (by rfl) (by rfl) (by omega) ?_
            | refine XL.sub (by rfl) (by rfl) (by rfl) (by rfl) (by rfl) (by rfl) (by omega) ?_
            | refine XL.min2 (by rfl) (by rfl) (by rfl) (by rfl) (by rfl) (by rfl) ?_
            | refine XL.max2 (by rfl) (by rfl) (by rfl) (by rfl) (by rfl) (by rfl) ?_
            | refine XL.eqB (by rfl) (by rfl) (by rfl) (by rfl) (by rfl) (by rfl) (by rfl) ?_
            | refine XL.neB (by rfl) (by rfl) (by rfl) (by rfl) (by rfl) (by rfl) (by rfl) ?_
            | refine XL.psome (by rfl) (by rfl) (by rfl) (by rfl) (by rfl) (by rfl) (by rfl) ?_
            | refine XL.pnone (by rfl) (by rfl) (by rfl) (by rfl) (by rfl) (by rfl) (by rfl) ?_
            | refine XL.psome' (by rfl) (by rfl) (by rfl) (by rfl) (by rfl) (by rfl) (by rfl) ?_
            | refine XL.pnone' (by rfl) (by rfl) (by rfl) (by rfl) (by rfl) (by rfl) (by rfl) ?_
            | refine XL.conv64 (by rfl) (by rfl) (by rfl) (by rfl) (by rfl) (by rfl) (by rfl) (by omega) ?_))
        refine XA.tk 3 (by rfl) (by kernel_rfl) (by repeat (first | exact PF.body | apply PF.sq | apply PF.rd | apply PF.mt | apply PF.block)) ?_
        (repeat' (first
          | refine XQ.tk ?_
          | refine XL.ldh (by rfl) (by rfl) (by rfl) (by rfl) (by rfl) (by rfl) (by repeat (first | exact Sel.here | apply Sel.there)) (by rfl) ?_
          | refine XL.nil ?_
            | (refine XL.guard_d (by rfl) (by rfl) (fun h => ?_) (fun h => ?_) <;> try (first | (exfalso; omega) | exact absurd rfl h))
            | refine XL.pures (by rfl) (by rfl) (by rfl) (by rfl) (by rfl) ?_
            | refine XL.not_d (by rfl) (by rfl) (by rfl) (by rfl) (by rfl) ?_
            | refine XL.pure 1 (by rfl) ?_
            | refine XL.fa0 (by rfl) (by rfl) (by rfl) (by rfl) (by rfl) (by rfl) ?_
            | refine XL.ld (by rfl) (by rfl) (by rfl) (by rfl) (by rfl) (by rfl) (by repeat (first | exact Sel.here | apply Sel.there)) (by rfl) ?_
            | refine XL.fa (by rfl) (by rfl) (by rfl) (by rfl) (by rfl) (by rfl) ?_
            | refine XL.ia1 (by rfl) (by rfl) (by rfl) (by rfl) (by rfl) (by rfl) (by rfl) (by omega) ?_
            | refine XL.ldr (by rfl) (by rfl) (by rfl) (by rfl) (by rfl) (by rfl) (by repeat (first | exact Sel.here | apply Sel.there)) (by assumption) ?_
            | refine XL.stl (by rfl) (by rfl) (by rfl) (by rfl) (by rfl) (by rfl) (by rfl) (by repeat (first | exact Sel.here | apply Sel.there)) (by rfl) ?_
            | refine XL.lenR (by rfl) (by rfl) (by rfl) (by rfl) (by rfl) (by rfl) (by rfl) (by first | exact fun w h => St.row (by repeat (first | exact Sel.here | apply Sel.there)) h | exact fun w h => St.rowF (by repeat (first | exact List.Mem.head _ | apply List.Mem.tail)) h | exact fun w h => Hd.rowF (by repeat (first | exact List.Mem.head _ | apply List.Mem.tail)) h) ?_
            | refine XL.iaR1 (by rfl) (by rfl) (by rfl) (by rfl) (by rfl) (by rfl) (by rfl) (by first | exact fun w h => St.row (by repeat (first | exact Sel.here | apply Sel.there)) h | exact fun w h => St.rowF (by repeat (first | exact List.Mem.head _ | apply List.Mem.tail)) h | exact fun w h => Hd.rowF (by repeat (first | exact List.Mem.head _ | apply List.Mem.tail)) h) (by omega) ?_
            | refine XL.iaR2 (by rfl) (by rfl) (by rfl) (by rfl) (by rfl) (by rfl) (by first | exact fun w h => St.row (by repeat (first | exact Sel.here | apply Sel.there)) h | exact fun w h => St.rowF (by repeat (first | exact List.Mem.head _ | apply List.Mem.tail)) h | exact fun w h => Hd.rowF (by repeat (first | exact List.Mem.head _ | apply List.Mem.tail)) h) (by rfl) (by omega) ?_
            | refine XL.faR (by rfl) (by rfl) (by rfl) (by rfl) (by rfl) (by rfl) (by first | exact fun w h => St.row (by repeat (first | exact Sel.here | apply Sel.there)) h | exact fun w h => St.rowF (by repeat (first | exact List.Mem.head _ | apply List.Mem.tail)) h | exact fun w h => Hd.rowF (by repeat (first | exact List.Mem.head _ | apply List.Mem.tail)) h) (by assumption) ?_
            | refine XL.ldR (by rfl) (by rfl) (by rfl) (by rfl) (by rfl) (by rfl) (by first | exact fun w h => St.row (by repeat (first | exact Sel.here | apply Sel.there)) h | exact fun w h => St.rowF (by repeat (first | exact List.Mem.head _ | apply List.Mem.tail)) h | exact fun w h => Hd.rowF (by repeat (first | exact List.Mem.head _ | apply List.Mem.tail)) h) (by assumption) ?_
            | refine XL.lenS (by rfl) (by rfl) (by rfl) (by rfl) (by rfl) (by rfl) (by rfl) ?_
            | refine XL.lenStr (by rfl) (by rfl) (by rfl) (by rfl) (by rfl) (by rfl) (by rfl) ?_
            | refine XL.succ (by rfl) (by rfl) (by rfl) (by rfl) (by rfl) (by rfl) (by omega) ?_
            | refine XL.addn (by rfl) (by rfl) (by rfl) (by rfl) (by rfl) (by rfl) (by omega) ?_
            | refine XL.add (by rfl) (by rfl) (by rfl) (by rfl) (by rfl) (by rfl) (by omega) ?_
            | refine XL.pred (by rfl) (by rfl) (by rfl) (by rfl) (by rfl) (by rfl) (by omega) ?_
            | refine XL.sub (by rfl) (by rfl) (by rfl) (by rfl) (by rfl) (by rfl) (by omega) ?_
            | refine XL.min2 (by rfl) (by rfl) (by rfl) (by rfl) (by rfl) (by rfl) ?_
            | refine XL.max2 (by rfl) (by rfl) (by rfl) (by rfl) (by rfl) (by rfl) ?_
            | refine XL.eqB (by rfl) (by rfl) (by rfl) (by rfl) (by rfl) (by rfl) (by rfl) ?_
            | refine XL.neB (by rfl) (by rfl) (by rfl) (by rfl) (by rfl) (by rfl) (by rfl) ?_
            | refine XL.psome (by rfl) (by rfl) (by rfl) (by rfl) (by rfl) (by rfl) (by rfl) ?_
            | refine XL.pnone (by rfl) (by rfl) (by rfl) (by rfl) (by rfl) (by rfl) (by rfl) ?_
            | refine XL.psome' (by rfl) (by rfl) (by rfl) (by rfl) (by rfl) (by rfl) (by rfl) ?_
            | refine XL.pnone' (by rfl) (by rfl) (by rfl) (by rfl) (by rfl) (by rfl) (by rfl) ?_
            | refine XL.conv64 (by rfl) (by rfl) (by rfl) (by rfl) (by rfl) (by rfl) (by rfl) (by omega) ?_))
        refine XA.tk 4 (by rfl) (by kernel_rfl) (by repeat (first | exact PF.body | apply PF.sq | apply PF.rd | apply PF.mt | apply PF.block)) ?_
        (repeat' (first
          | refine XQ.tk ?_
          | refine XL.ldh (by rfl) (by rfl) (by rfl) (by rfl) (by rfl) (by rfl) (by repeat (first | exact Sel.here | apply Sel.there)) (by rfl) ?_
          | refine XL.nil ?_
            | (refine XL.guard_d (by rfl) (by rfl) (fun h => ?_) (fun h => ?_) <;> try (first | (exfalso; omega) | exact absurd rfl h))
            | refine XL.pures (by rfl) (by rfl) (by rfl) (by rfl) (by rfl) ?_
            | refine XL.not_d (by rfl) (by rfl) (by rfl) (by rfl) (by rfl) ?_
            | refine XL.pure 1 (by rfl) ?_
            | refine XL.fa0 (by rfl) (by rfl) (by rfl) (by rfl) (by rfl) (by rfl) ?_
            | refine XL.ld (by rfl) (by rfl) (by rfl) (by rfl) (by rfl) (by rfl) (by repeat (first | exact Sel.here | apply Sel.there)) (by rfl) ?_
            | refine XL.fa (by rfl) (by rfl) (by rfl) (by rfl) (by rfl) (by rfl) ?_
            | refine XL.ia1 (by rfl) (by rfl) (by rfl) (by rfl) (by rfl) (by rfl) (by rfl) (by omega) ?_
            | refine XL.ldr (by rfl) (by rfl) (by rfl) (by rfl) (by rfl) (by rfl) (by repeat (first | exact Sel.here | apply Sel.there)) (by assumption) ?_
            | refine XL.stl (by rfl) (by rfl) (by rfl) (by rfl) (by rfl) (by rfl) (by rfl) (by repeat (first | exact Sel.here | apply Sel.there)) (by rfl) ?_
            | refine XL.lenR (by rfl) (by rfl) (by rfl) (by rfl) (by rfl) (by rfl) (by rfl) (by first | exact fun w h => St.row (by repeat (first | exact Sel.here | apply Sel.there)) h | exact fun w h => St.rowF (by repeat (first | exact List.Mem.head _ | apply List.Mem.tail)) h | exact fun w h => Hd.rowF (by repeat (first | exact List.Mem.head _ | apply List.Mem.tail)) h) ?_
            | refine XL.iaR1 (by rfl) (by rfl) (by rfl) (by rfl) (by rfl) (by rfl) (by rfl) (by first | exact fun w h => St.row (by repeat (first | exact Sel.here | apply Sel.there)) h | exact fun w h => St.rowF (by repeat (first | exact List.Mem.head _ | apply List.Mem.tail)) h | exact fun w h => Hd.rowF (by repeat (first | exact List.Mem.head _ | apply List.Mem.tail)) h) (by omega) ?_
            | refine XL.iaR2 (by rfl) (by rfl) (by rfl) (by rfl) (by rfl) (by rfl) (by first | exact fun w h => St.row (by repeat (first | exact Sel.here | apply Sel.there)) h | exact fun w h => St.rowF (by repeat (first | exact List.Mem.head _ | apply List.Mem.tail)) h | exact fun w h => Hd.rowF (by repeat (first | exact List.Mem.head _ | apply List.Mem.tail)) h) (by rfl) (by omega) ?_
            | refine XL.faR (by rfl) (by rfl) (by rfl) (by rfl) (by rfl) (by rfl) (by first | exact fun w h => St.row (by repeat (first | exact Sel.here | apply Sel.there)) h | exact fun w h => St.rowF (by repeat (first | exact List.Mem.head _ | apply List.Mem.tail)) h | exact fun w h => Hd.rowF (by repeat (first | exact List.Mem.head _ | apply List.Mem.tail)) h) (by assumption) ?_
            | refine XL.ldR (by rfl) (by rfl) (by rfl) (by rfl) (by rfl) (by rfl) (by first | exact fun w h => St.row (by repeat (first | exact Sel.here | apply Sel.there)) h | exact fun w h => St.rowF (by repeat (first | exact List.Mem.head _ | apply List.Mem.tail)) h | exact fun w h => Hd.rowF (by repeat (first | exact List.Mem.head _ | apply List.Mem.tail)) h) (by assumption) ?_
            | refine XL.lenS (by rfl) (by rfl) (by rfl) (by rfl) (by rfl) (by rfl) (by rfl) ?_
            | refine XL.lenStr (by rfl) (by rfl) (by rfl) (by rfl) (by rfl) (by rfl) (by rfl) ?_
            | refine XL.succ (by rfl) (by rfl) (by rfl) (by rfl) (by rfl) (by rfl) (by omega) ?_
            | refine XL.addn (by rfl) (by rfl) (by rfl) (by rfl) (by rfl) (by rfl) (by omega) ?_
            | refine XL.add (by rfl) (by rfl) (by rfl) (by rfl) (by rfl) (by rfl) (by omega) ?_
            | refine XL.pred (by rfl) (by rfl) (by rfl) (by rfl) (by rfl) (by rfl) (by omega) ?_
            | refine XL.sub (by rfl) (by rfl) (by rfl) (by rfl) (by rfl) (by rfl) (by omega) ?_
            | refine XL.min2 (by rfl) (by rfl) (by rfl) (by rfl) (by rfl) (by rfl) ?_
            | refine XL.max2 (by rfl) (by rfl) (by rfl) (by rfl) (by rfl) (by rfl) ?_
            | refine XL.eqB (by rfl) (by rfl) (by rfl) (by rfl) (by rfl) (by rfl) (by rfl) ?_
            | refine XL.neB (by rfl) (by rfl) (by rfl) (by rfl) (by rfl) (by rfl) (by rfl) ?_
            | refine XL.psome (by rfl) (by rfl) (by rfl) (by rfl) (by rfl) (by rfl) (by rfl) ?_
            | refine XL.pnone (by rfl) (by rfl) (by rfl) (by rfl) (by rfl) (by rfl) (by rfl) ?_
            | refine XL.psome' (by rfl) (by rfl) (by rfl) (by rfl) (by rfl) (by rfl) (by rfl) ?_
            | refine XL.pnone' (by rfl) (by rfl) (by rfl) (by rfl) (by rfl) (by rfl) (by rfl) ?_
            | refine XL.conv64 (by rfl) (by rfl) (by rfl) (by rfl) (by rfl) (by rfl) (by rfl) (by omega) ?_))
        refine XA.tk 5 (by rfl) (by kernel_rfl) (by repeat (first | exact PF.body | apply PF.sq | apply PF.rd | apply PF.mt | apply PF.block)) ?_
        (repeat' (first
          | refine XQ.tk ?_
          | refine XL.ldh (by rfl) (by rfl) (by rfl) (by rfl) (by rfl) (by rfl) (by repeat (first | exact Sel.here | apply Sel.there)) (by rfl) ?_
          | refine XL.nil ?_
            | (refine XL.guard_d (by rfl) (by rfl) (fun h => ?_) (fun h => ?_) <;> try (first | (exfalso; omega) | exact absurd rfl h))
            | refine XL.pures (by rfl) (by rfl) (by rfl) (by rfl) (by rfl) ?_
            | refine XL.not_d (by rfl) (by rfl) (by rfl) (by rfl) (by rfl) ?_
            | refine XL.pure 1 (by rfl) ?_
            | refine XL.fa0 (by rfl) (by rfl) (by rfl) (by rfl) (by rfl) (by rfl) ?_
            | refine XL.ld (by rfl) (by rfl) (by rfl) (by rfl) (by rfl) (by rfl) (by repeat (first | exact Sel.here | apply Sel.there)) (by rfl) ?_
            | refine XL.fa (by rfl) (by rfl) (by rfl) (by rfl) (by rfl) (by rfl) ?_
            | refine XL.ia1 (by rfl) (by rfl) (by rfl) (by rfl) (by rfl) (by rfl) (by rfl) (by omega) ?_
            | refine XL.ldr (by rfl) (by rfl) (by rfl) (by rfl) (by rfl) (by rfl) (by repeat (first | exact Sel.here | apply Sel.there)) (by assumption) ?_
            | refine XL.stl (by rfl) (by rfl) (by rfl) (by rfl) (by rfl) (by rfl) (by rfl) (by repeat (first | exact Sel.here | apply Sel.there)) (by rfl) ?_
            | refine XL.lenR (by rfl) (by rfl) (by rfl) (by rfl) (by rfl) (by rfl) (by rfl) (by first | exact fun w h => St.row (by repeat (first | exact Sel.here | apply Sel.there)) h | exact fun w h => St.rowF (by repeat (first | exact List.Mem.head _ | apply List.Mem.tail)) h | exact fun w h => Hd.rowF (by repeat (first | exact List.Mem.head _ | apply List.Mem.tail)) h) ?_
            | refine XL.iaR1 (by rfl) (by rfl) (by rfl) (by rfl) (by rfl) (by rfl) (by rfl) (by first | exact fun w h => St.row (by repeat (first | exact Sel.here | apply Sel.there)) h | exact fun w h => St.rowF (by repeat (first | exact List.Mem.head _ | apply List.Mem.tail)) h | exact fun w h => Hd.rowF (by repeat (first | exact List.Mem.head _ | apply List.Mem.tail)) h) (by omega) ?_
            | refine XL.iaR2 (by rfl) (by rfl) (by rfl) (by rfl) (by rfl) (by rfl) (by first | exact fun w h => St.row (by repeat (first | exact Sel.here | apply Sel.there)) h | exact fun w h => St.rowF (by repeat (first | exact List.Mem.head _ | apply List.Mem.tail)) h | exact fun w h => Hd.rowF (by repeat (first | exact List.Mem.head _ | apply List.Mem.tail)) h) (by rfl) (by omega) ?_
            | refine XL.faR (by rfl) (by rfl) (by rfl) (by rfl) (by rfl) (by rfl) (by first | exact fun w h => St.row (by repeat (first | exact Sel.here | apply Sel.there)) h | exact fun w h => St.rowF (by repeat (first | exact List.Mem.head _ | apply List.Mem.tail)) h | exact fun w h => Hd.rowF (by repeat (first | exact List.Mem.head _ | apply List.Mem.tail)) h) (by assumption) ?_
            | refine XL.ldR (by rfl) (by rfl) (by rfl) (by rfl) (by rfl) (by rfl) (by first | exact fun w h => St.row (by repeat (first | exact Sel.here | apply Sel.there)) h | exact fun w h => St.rowF (by repeat (first | exact List.Mem.head _ | apply List.Mem.tail)) h | exact fun w h => Hd.rowF (by repeat (first | exact List.Mem.head _ | apply List.Mem.tail)) h) (by assumption) ?_
            | refine XL.lenS (by rfl) (by rfl) (by rfl) (by rfl) (by rfl) (by rfl) (by rfl) ?_
            | refine XL.lenStr (by rfl) (by rfl) (by rfl) (by rfl) (by rfl) (by rfl) (by rfl) ?_
            | refine XL.succ (by rfl) (by rfl) (by rfl) (by rfl) (by rfl) (by rfl) (by omega) ?_
            | refine XL.addn (by rfl) (by rfl) (by rfl) (by rfl) (by rfl) (by rfl) (by omega) ?_
            | refine XL.add (by rfl) (by rfl) (by rfl) (by rfl) (by rfl) (by rfl) (by omega) ?_
            | refine XL.pred (by rfl) (by rfl) (by rfl) (by rfl) (by rfl) (by rfl) (by omega) ?_
            | refine XL.sub (by rfl) (by rfl) (by rfl) (by rfl) (by rfl) (by rfl) (by omega) ?_
            | refine XL.min2 (by rfl) (by rfl) (by rfl) (by rfl) (by rfl) (by rfl) ?_
            | refine XL.max2 (by rfl) (by rfl) (by rfl) (by rfl) (by rfl) (by rfl) ?_
            | refine XL.eqB (by rfl) (by rfl) (by rfl) (by rfl) (by rfl) (by rfl) (by rfl) ?_
            | refine XL.neB (by rfl) (by rfl) (by rfl) (by rfl) (by rfl) (by rfl) (by rfl) ?_
            | refine XL.psome (by rfl) (by rfl) (by rfl) (by rfl) (by rfl) (by rfl) (by rfl) ?_
            | refine XL.pnone (by rfl) (by rfl) (by rfl) (by rfl) (by rfl) (by rfl) (by rfl) ?_
            | refine XL.psome' (by rfl) (by rfl) (by rfl) (by rfl) (by rfl) (by rfl) (by rfl) ?_
            | refine XL.pnone' (by rfl) (by rfl) (by rfl) (by rfl) (by rfl) (by rfl) (by rfl) ?_
            | refine XL.conv64 (by rfl) (by rfl) (by rfl) (by rfl) (by rfl) (by rfl) (by rfl) (by omega) ?_))
        refine XA.tk 6 (by rfl) (by kernel_rfl) (by repeat (first | exact PF.body | apply PF.sq | apply PF.rd | apply PF.mt | apply PF.block)) ?_
        (repeat' (first
          | refine XQ.tk ?_
          | refine XL.ldh (by rfl) (by rfl) (by rfl) (by rfl) (by rfl) (by rfl) (by repeat (first | exact Sel.here | apply Sel.there)) (by rfl) ?_
          | refine XL.nil ?_
            | (refine XL.guard_d (by rfl) (by rfl) (fun h => ?_) (fun h => ?_) <;> try (first | (exfalso; omega) | exact absurd rfl h))
            | refine XL.pures (by rfl) (by rfl) (by rfl) (by rfl) (by rfl) ?_
            | refine XL.not_d (by rfl) (by rfl) (by rfl) (by rfl) (by rfl) ?_
            | refine XL.pure 1 (by rfl) ?_
            | refine XL.fa0 (by rfl) (by rfl) (by rfl) (by rfl) (by rfl) (by rfl) ?_
            | refine XL.ld (by rfl) (by rfl) (by rfl) (by rfl) (by rfl) (by rfl) (by repeat (first | exact Sel.here | apply Sel.there)) (by rfl) ?_
            | refine XL.fa (by rfl) (by rfl) (by rfl) (by rfl) (by rfl) (by rfl) ?_
            | refine XL.ia1 (by rfl) (by rfl) (by rfl) (by rfl) (by rfl) (by rfl) (by rfl) (by omega) ?_
            | refine XL.ldr (by rfl) (by rfl) (by rfl) (by rfl) (by rfl) (by rfl) (by repeat (first | exact Sel.here | apply Sel.there)) (by assumption) ?_
            | refine XL.stl (by rfl) (by rfl) (by rfl) (by rfl) (by rfl) (by rfl) (by rfl) (by repeat (first | exact Sel.here | apply Sel.there)) (by rfl) ?_
            | refine XL.lenR (by rfl) (by rfl) (by rfl) (by rfl) (by rfl) (by rfl) (by rfl) (by first | exact fun w h => St.row (by repeat (first | exact Sel.here | apply Sel.there)) h | exact fun w h => St.rowF (by repeat (first | exact List.Mem.head _ | apply List.Mem.tail)) h | exact fun w h => Hd.rowF (by repeat (first | exact List.Mem.head _ | apply List.Mem.tail)) h) ?_
            | refine XL.iaR1 (by rfl) (by rfl) (by rfl) (by rfl) (by rfl) (by rfl) (by rfl) (by first | exact fun w h => St.row (by repeat (first | exact Sel.here | apply Sel.there)) h | exact fun w h => St.rowF (by repeat (first | exact List.Mem.head _ | apply List.Mem.tail)) h | exact fun w h => Hd.rowF (by repeat (first | exact List.Mem.head _ | apply List.Mem.tail)) h) (by omega) ?_
            | refine XL.iaR2 (by rfl) (by rfl) (by rfl) (by rfl) (by rfl) (by rfl) (by first | exact fun w h => St.row (by repeat (first | exact Sel.here | apply Sel.there)) h | exact fun w h => St.rowF (by repeat (first | exact List.Mem.head _ | apply List.Mem.tail)) h | exact fun w h => Hd.rowF (by repeat (first | exact List.Mem.head _ | apply List.Mem.tail)) h) (by rfl) (by omega) ?_
            | refine XL.faR (by rfl) (by rfl) (by rfl) (by rfl) (by rfl) (by rfl) (by first | exact fun w h => St.row (by repeat (first | exact Sel.here | apply Sel.there)) h | exact fun w h => St.rowF (by repeat (first | exact List.Mem.head _ | apply List.Mem.tail)) h | exact fun w h => Hd.rowF (by repeat (first | exact List.Mem.head _ | apply List.Mem.tail)) h) (by assumption) ?_
            | refine XL.ldR (by rfl) (by rfl) (by rfl) (by rfl) (by rfl) (by rfl) (by first | exact fun w h => St.row (by repeat (first | exact Sel.here | apply Sel.there)) h | exact fun w h => St.rowF (by repeat (first | exact List.Mem.head _ | apply List.Mem.tail)) h | exact fun w h => Hd.rowF (by repeat (first | exact List.Mem.head _ | apply List.Mem.tail)) h) (by assumption) ?_
            | refine XL.lenS (by rfl) (by rfl) (by rfl) (by rfl) (by rfl) (by rfl) (by rfl) ?_
            | refine XL.lenStr (by rfl) (by rfl) (by rfl) (by rfl) (by rfl) (by rfl) (by rfl) ?_
            | refine XL.succ (by rfl) (by rfl) (by rfl) (by rfl) (by rfl) (by rfl) (by omega) ?_
            | refine XL.addn (by rfl) (by rfl) (by rfl) (by rfl) (by rfl) (by rfl) (by omega) ?_
            | refine XL.add (by rfl) (by rfl) (by rfl) (by rfl) (by rfl) (by rfl) (by omega) ?_
            | refine XL.pred (by rfl) (by rfl) (by rfl) (by rfl) (by rfl) (by rfl) (by omega) ?_
            | refine XL.sub (by rfl) (by rfl) (by rfl) (by rfl) (by rfl) (by rfl) (by omega) ?_
            | refine XL.min2 (by rfl) (by rfl) (by rfl) (by rfl) (by rfl) (by rfl) ?_
            | refine XL.max2 (by rfl) (by rfl) (by rfl) (by rfl) (by rfl) (by rfl) ?_
            | refine XL.eqB (by rfl) (by rfl) (by rfl) (by rfl) (by rfl) (by rfl) (by rfl) ?_
            | refine XL.neB (by rfl) (by rfl) (by rfl) (by rfl) (by rfl) (by rfl) (by rfl) ?_
            | refine XL.psome (by rfl) (by rfl) (by rfl) (by rfl) (by rfl) (by rfl) (by rfl) ?_
            | refine XL.pnone (by rfl) (by rfl) (by rfl) (by rfl) (by rfl) (by rfl) (by rfl) ?_
            | refine XL.psome' (by rfl) (by rfl) (by rfl) (by rfl) (by rfl) (by rfl) (by rfl) ?_
            | refine XL.pnone' (by rfl) (by rfl) (by rfl) (by rfl) (by rfl) (by rfl) (by rfl) ?_
            | refine XL.conv64 (by rfl) (by rfl) (by rfl) (by rfl) (by rfl) (by rfl) (by rfl) (by omega) ?_))
        refine XA.tk 7 (by rfl) (by kernel_rfl) (by repeat (first | exact PF.body | apply PF.sq | apply PF.rd | apply PF.mt | apply PF.block)) ?_
        (repeat' (first
          | refine XQ.tk ?_
          | refine XL.ldh (by rfl) (by rfl) (by rfl) (by rfl) (by rfl) (by rfl) (by repeat (first | exact Sel.here | apply Sel.there)) (by rfl) ?_
          | refine XL.nil ?_
            | (refine XL.guard_d (by rfl) (by rfl) (fun h => ?_) (fun h => ?_) <;> try (first | (exfalso; omega) | exact absurd rfl h))
            | refine XL.pures (by rfl) (by rfl) (by rfl) (by rfl) (by rfl) ?_
            | refine XL.not_d (by rfl) (by rfl) (by rfl) (by rfl) (by rfl) ?_
            | refine XL.pure 1 (by rfl) ?_
            | refine XL.fa0 (by rfl) (by rfl) (by rfl) (by rfl) (by rfl) (by rfl) ?_
            | refine XL.ld (by rfl) (by rfl) (by rfl) (by rfl) (by rfl) (by rfl) (by repeat (first | exact Sel.here | apply Sel.there)) (by rfl) ?_
            | refine XL.fa (by rfl) (by rfl) (by rfl) (by rfl) (by rfl) (by rfl) ?_
            | refine XL.ia1 (by rfl) (by rfl) (by rfl) (by rfl) (by rfl) (by rfl) (by rfl) (by omega) ?_
            | refine XL.ldr (by rfl) (by rfl) (by rfl) (by rfl) (by rfl) (by rfl) (by repeat (first | exact Sel.here | apply Sel.there)) (by assumption) ?_
            | refine XL.stl (by rfl) (by rfl) (by rfl) (by rfl) (by rfl) (by rfl) (by rfl) (by repeat (first | exact Sel.here | apply Sel.there)) (by rfl) ?_
            | refine XL.lenR (by rfl) (by rfl) (by rfl) (by rfl) (by rfl) (by rfl) (by rfl) (by first | exact fun w h => St.row (by repeat (first | exact Sel.here | apply Sel.there)) h | exact fun w h => St.rowF (by repeat (first | exact List.Mem.head _ | apply List.Mem.tail)) h | exact fun w h => Hd.rowF (by repeat (first | exact List.Mem.head _ | apply List.Mem.tail)) h) ?_
            | refine XL.iaR1 (by rfl) (by rfl) (by rfl) (by rfl) (by rfl) (by rfl) (by rfl) (by first | exact fun w h => St.row (by repeat (first | exact Sel.here | apply Sel.there)) h | exact fun w h => St.rowF (by repeat (first | exact List.Mem.head _ | apply List.Mem.tail)) h | exact fun w h => Hd.rowF (by repeat (first | exact List.Mem.head _ | apply List.Mem.tail)) h) (by omega) ?_
            | refine XL.iaR2 (by rfl) (by rfl) (by rfl) (by rfl) (by rfl) (by rfl) (by first | exact fun w h => St.row (by repeat (first | exact Sel.here | apply Sel.there)) h | exact fun w h => St.rowF (by repeat (first | exact List.Mem.head _ | apply List.Mem.tail)) h | exact fun w h => Hd.rowF (by repeat (first | exact List.Mem.head _ | apply List.Mem.tail)) h) (by rfl) (by omega) ?_
            | refine XL.faR (by rfl) (by rfl) (by rfl) (by rfl) (by rfl) (by rfl) (by first | exact fun w h => St.row (by repeat (first | exact Sel.here | apply Sel.there)) h | exact fun w h => St.rowF (by repeat (first | exact List.Mem.head _ | apply List.Mem.tail)) h | exact fun w h => Hd.rowF (by repeat (first | exact List.Mem.head _ | apply List.Mem.tail)) h) (by assumption) ?_
            | refine XL.ldR (by rfl) (by rfl) (by rfl) (by rfl) (by rfl) (by rfl) (by first | exact fun w h => St.row (by repeat (first | exact Sel.here | apply Sel.there)) h | exact fun w h => St.rowF (by repeat (first | exact List.Mem.head _ | apply List.Mem.tail)) h | exact fun w h => Hd.rowF (by repeat (first | exact List.Mem.head _ | apply List.Mem.tail)) h) (by assumption) ?_
            | refine XL.lenS (by rfl) (by rfl) (by rfl) (by rfl) (by rfl) (by rfl) (by rfl) ?_
            | refine XL.lenStr (by rfl) (by rfl) (by rfl) (by rfl) (by rfl) (by rfl) (by rfl) ?_
            | refine XL.succ (by rfl) (by rfl) (by rfl) (by rfl) (by rfl) (by rfl) (by omega) ?_
            | refine XL.addn (by rfl) (by rfl) (by rfl) (by rfl) (by rfl) (by rfl) (by omega) ?_
            | refine XL.add (by rfl) (by rfl) (by rfl) (by rfl) (by rfl) (by rfl) (by omega) ?_
            | refine XL.pred (by rfl) (by rfl) (by rfl) (by rfl) (by rfl) (by rfl) (by omega) ?_
            | refine XL.sub (by rfl) (by rfl) (by rfl) (by rfl) (by rfl) (by rfl) (by omega) ?_
            | refine XL.min2 (by rfl) (by rfl) (by rfl) (by rfl) (by rfl) (by rfl) ?_
            | refine XL.max2 (by rfl) (by rfl) (by rfl) (by rfl) (by rfl) (by rfl) ?_
            | refine XL.eqB (by rfl) (by rfl) (by rfl) (by rfl) (by rfl) (by rfl) (by rfl) ?_
            | refine XL.neB (by rfl) (by rfl) (by rfl) (by rfl) (by rfl) (by rfl) (by rfl) ?_
            | refine XL.psome (by rfl) (by rfl) (by rfl) (by rfl) (by rfl) (by rfl) (by rfl) ?_
            | refine XL.pnone (by rfl) (by rfl) (by rfl) (by rfl) (by rfl) (by rfl) (by rfl) ?_
            | refine XL.psome' (by rfl) (by rfl) (by rfl) (by rfl) (by rfl) (by rfl) (by rfl) ?_
            | refine XL.pnone' (by rfl) (by rfl) (by rfl) (by rfl) (by rfl) (by rfl) (by rfl) ?_
            | refine XL.conv64 (by rfl) (by rfl) (by rfl) (by rfl) (by rfl) (by rfl) (by rfl) (by omega) ?_))
        refine XA.tk 8 (by rfl) (by kernel_rfl) (by repeat (first | exact PF.body | apply PF.sq | apply PF.rd | apply PF.mt | apply PF.block)) ?_
        (repeat' (first
          | refine XQ.tk ?_
          | refine XL.ldh (by rfl) (by rfl) (by rfl) (by rfl) (by rfl) (by rfl) (by repeat (first | exact Sel.here | apply Sel.there)) (by rfl) ?_
          | refine XL.nil ?_
            | (refine XL.guard_d (by rfl) (by rfl) (fun h => ?_) (fun h => ?_) <;> try (first | (exfalso; omega) | exact absurd rfl h))
            | refine XL.pures (by rfl) (by rfl) (by rfl) (by rfl) (by rfl) ?_
            | refine XL.not_d (by rfl) (by rfl) (by rfl) (by rfl) (by rfl) ?_
            | refine XL.pure 1 (by rfl) ?_
            | refine XL.fa0 (by rfl) (by rfl) (by rfl) (by rfl) (by rfl) (by rfl) ?_
            | refine XL.ld (by rfl) (by rfl) (by rfl) (by rfl) (by rfl) (by rfl) (by repeat (first | exact Sel.here | apply Sel.there)) (by rfl) ?_
            | refine XL.fa (by rfl) (by rfl) (by rfl) (by rfl) (by rfl) (by rfl) ?_
            | refine XL.ia1 (by rfl) (by rfl) (by rfl) (by rfl) (by rfl) (by rfl) (by rfl) (by omega) ?_
            | refine XL.ldr (by rfl) (by rfl) (by rfl) (by rfl) (by rfl) (by rfl) (by repeat (first | exact Sel.here | apply Sel.there)) (by assumption) ?_
            | refine XL.stl (by rfl) (by rfl) (by rfl) (by rfl) (by rfl) (by rfl) (by rfl) (by repeat (first | exact Sel.here | apply Sel.there)) (by rfl) ?_
            | refine XL.lenR (by rfl) (by rfl) (by rfl) (by rfl) (by rfl) (by rfl) (by rfl) (by first | exact fun w h => St.row (by repeat (first | exact Sel.here | apply Sel.there)) h | exact fun w h => St.rowF (by repeat (first | exact List.Mem.head _ | apply List.Mem.tail)) h | exact fun w h => Hd.rowF (by repeat (first | exact List.Mem.head _ | apply List.Mem.tail)) h) ?_
            | refine XL.iaR1 (by rfl) (by rfl) (by rfl) (by rfl) (by rfl) (by rfl) (by rfl) (by first | exact fun w h => St.row (by repeat (first | exact Sel.here | apply Sel.there)) h | exact fun w h => St.rowF (by repeat (first | exact List.Mem.head _ | apply List.Mem.tail)) h | exact fun w h => Hd.rowF (by repeat (first | exact List.Mem.head _ | apply List.Mem.tail)) h) (by omega) ?_
            | refine XL.iaR2 (by rfl) (by rfl) (by rfl) (by rfl) (by rfl) (by rfl) (by first | exact fun w h => St.row (by repeat (first | exact Sel.here | apply Sel.there)) h | exact fun w h => St.rowF (by repeat (first | exact List.Mem.head _ | apply List.Mem.tail)) h | exact fun w h => Hd.rowF (by repeat (first | exact List.Mem.head _ | apply List.Mem.tail)) h) (by rfl) (by omega) ?_
            | refine XL.faR (by rfl) (by rfl) (by rfl) (by rfl) (by rfl) (by rfl) (by first | exact fun w h => St.row (by repeat (first | exact Sel.here | apply Sel.there)) h | exact fun w h => St.rowF (by repeat (first | exact List.Mem.head _ | apply List.Mem.tail)) h | exact fun w h => Hd.rowF (by repeat (first | exact List.Mem.head _ | apply List.Mem.tail)) h) (by assumption) ?_
            | refine XL.ldR (by rfl) (by rfl) (by rfl) (by rfl) (by rfl) (by rfl) (by first | exact fun w h => St.row (by repeat (first | exact Sel.here | apply Sel.there)) h | exact fun w h => St.rowF (by repeat (first | exact List.Mem.head _ | apply List.Mem.tail)) h | exact fun w h => Hd.rowF (by repeat (first | exact List.Mem.head _ | apply List.Mem.tail)) h) (by assumption) ?_
            | refine XL.lenS (by rfl) (by rfl) (by rfl) (by rfl) (by rfl) (by rfl) (by rfl) ?_
            | refine XL.lenStr (by rfl) (by rfl) (by rfl) (by rfl) (by rfl) (by rfl) (by rfl) ?_
            | refine XL.succ (by rfl) (by rfl) (by rfl) (by rfl) (by rfl) (by rfl) (by omega) ?_
            | refine XL.addn (by rfl) (by rfl) (by rfl) (by rfl) (by rfl) (by rfl) (by omega) ?_
            | refine XL.add (by rfl) (by rfl) (by rfl) (by rfl) (by rfl) (by rfl) (by omega) ?_
            | refine XL.pred (by rfl) (by rfl) (by rfl) (by rfl) (by rfl) (by rfl) (by omega) ?_
            | refine XL.sub (by rfl) (by rfl) (by rfl) (by rfl) (by rfl) (by rfl) (by omega) ?_
            | refine XL.min2 (by rfl) (by rfl) (by rfl) (by rfl) (by rfl) (by rfl) ?_
            | refine XL.max2 (by rfl) (by rfl) (by rfl) (by rfl) (by rfl) (by rfl) ?_
            | refine XL.eqB (by rfl) (by rfl) (by rfl) (by rfl) (by rfl) (by rfl) (by rfl) ?_
            | refine XL.neB (by rfl) (by rfl) (by rfl) (by rfl) (by rfl) (by rfl) (by rfl) ?_
            | refine XL.psome (by rfl) (by rfl) (by rfl) (by rfl) (by rfl) (by rfl) (by rfl) ?_
            | refine XL.pnone (by rfl) (by rfl) (by rfl) (by rfl) (by rfl) (by rfl) (by rfl) ?_
            | refine XL.psome' (by rfl) (by rfl) (by rfl) (by rfl) (by rfl) (by rfl) (by rfl) ?_
            | refine XL.pnone' (by rfl) (by rfl) (by rfl) (by rfl) (by rfl) (by rfl) (by rfl) ?_
            | refine XL.conv64 (by rfl) (by rfl) (by rfl) (by rfl) (by rfl) (by rfl) (by rfl) (by omega) ?_))
        refine XA.tk 9 (by rfl) (by kernel_rfl) (by repeat (first | exact PF.body | apply PF.sq | apply PF.rd | apply PF.mt | apply PF.block)) ?_
        (repeat' (first
          | refine XQ.tk ?_
          | refine XL.ldh (by rfl) (by rfl) (by rfl) (by rfl) (by rfl) (by rfl) (by repeat (first | exact Sel.here | apply Sel.there)) (by rfl) ?_
          | refine XL.nil ?_
            | (refine XL.guard_d (by rfl) (by rfl) (fun h => ?_) (fun h => ?_) <;> try (first | (exfalso; omega) | exact absurd rfl h))
            | refine XL.pures (by rfl) (by rfl) (by rfl) (by rfl) (by rfl) ?_
            | refine XL.not_d (by rfl) (by rfl) (by rfl) (by rfl) (by rfl) ?_
            | refine XL.pure 1 (by rfl) ?_
            | refine XL.fa0 (by rfl) (by rfl) (by rfl) (by rfl) (by rfl) (by rfl) ?_
            | refine XL.ld (by rfl) (by rfl) (by rfl) (by rfl) (by rfl) (by rfl) (by repeat (first | exact Sel.here | apply Sel.there)) (by rfl) ?_
            | refine XL.fa (by rfl) (by rfl) (by rfl) (by rfl) (by rfl) (by rfl) ?_
            | refine XL.ia1 (by rfl) (by rfl) (by rfl) (by rfl) (by rfl) (by rfl) (by rfl) (by omega) ?_
            | refine XL.ldr (by rfl) (by rfl) (by rfl) (by rfl) (by rfl) (by rfl) (by repeat (first | exact Sel.here | apply Sel.there)) (by assumption) ?_
            | refine XL.stl (by rfl) (by rfl) (by rfl) (by rfl) (by rfl) (by rfl) (by rfl) (by repeat (first | exact Sel.here | apply Sel.there)) (by rfl) ?_
            | refine XL.lenR (by rfl) (by rfl) (by rfl) (by rfl) (by rfl) (by rfl) (by rfl) (by first | exact fun w h => St.row (by repeat (first | exact Sel.here | apply Sel.there)) h | exact fun w h => St.rowF (by repeat (first | exact List.Mem.head _ | apply List.Mem.tail)) h | exact fun w h => Hd.rowF (by repeat (first | exact List.Mem.head _ | apply List.Mem.tail)) h) ?_
            | refine XL.iaR1 (by rfl) (by rfl) (by rfl) (by rfl) (by rfl) (by rfl) (by rfl) (by first | exact fun w h => St.row (by repeat (first | exact Sel.here | apply Sel.there)) h | exact fun w h => St.rowF (by repeat (first | exact List.Mem.head _ | apply List.Mem.tail)) h | exact fun w h => Hd.rowF (by repeat (first | exact List.Mem.head _ | apply List.Mem.tail)) h) (by omega) ?_
            | refine XL.iaR2 (by rfl) (by rfl) (by rfl) (by rfl) (by rfl) (by rfl) (by first | exact fun w h => St.row (by repeat (first | exact Sel.here | apply Sel.there)) h | exact fun w h => St.rowF (by repeat (first | exact List.Mem.head _ | apply List.Mem.tail)) h | exact fun w h => Hd.rowF (by repeat (first | exact List.Mem.head _ | apply List.Mem.tail)) h) (by rfl) (by omega) ?_
            | refine XL.faR (by rfl) (by rfl) (by rfl) (by rfl) (by rfl) (by rfl) (by first | exact fun w h => St.row (by repeat (first | exact Sel.here | apply Sel.there)) h | exact fun w h => St.rowF (by repeat (first | exact List.Mem.head _ | apply List.Mem.tail)) h | exact fun w h => Hd.rowF (by repeat (first | exact List.Mem.head _ | apply List.Mem.tail)) h) (by assumption) ?_
            | refine XL.ldR (by rfl) (by rfl) (by rfl) (by rfl) (by rfl) (by rfl) (by first | exact fun w h => St.row (by repeat (first | exact Sel.here | apply Sel.there)) h | exact fun w h => St.rowF (by repeat (first | exact List.Mem.head _ | apply List.Mem.tail)) h | exact fun w h => Hd.rowF (by repeat (first | exact List.Mem.head _ | apply List.Mem.tail)) h) (by assumption) ?_
            | refine XL.lenS (by rfl) (by rfl) (by rfl) (by rfl) (by rfl) (by rfl) (by rfl) ?_
            | refine XL.lenStr (by rfl) (by rfl) (by rfl) (by rfl) (by rfl) (by rfl) (by rfl) ?_
            | refine XL.succ (by rfl) (by rfl) (by rfl) (by rfl) (by rfl) (by rfl) (by omega) ?_
            | refine XL.addn (by rfl) (by rfl) (by rfl) (by rfl) (by rfl) (by rfl) (by omega) ?_
            | refine XL.add (by rfl) (by rfl) (by rfl) (by rfl) (by rfl) (by rfl) (by omega) ?_
            | refine XL.pred (by rfl) (by rfl) (by rfl) (by rfl) (by rfl) (by rfl) (by omega) ?_
            | refine XL.sub (by rfl) (by rfl) (by rfl) (by rfl) (by rfl) (by rfl) (by omega) ?_
            | refine XL.min2 (by rfl) (by rfl) (by rfl) (by rfl) (by rfl) (by rfl) ?_
            | refine XL.max2 (by rfl) (by rfl) (by rfl) (by rfl) (by rfl) (by rfl) ?_
            | refine XL.eqB (by rfl) (by rfl) (by rfl) (by rfl) (by rfl) (by rfl) (by rfl) ?_
            | refine XL.neB (by rfl) (by rfl) (by rfl) (by rfl) (by rfl) (by rfl) (by rfl) ?_
            | refine XL.psome (by rfl) (by rfl) (by rfl) (by rfl) (by rfl) (by rfl) (by rfl) ?_
            | refine XL.pnone (by rfl) (by rfl) (by rfl) (by rfl) (by rfl) (by rfl) (by rfl) ?_
            | refine XL.psome' (by rfl) (by rfl) (by rfl) (by rfl) (by rfl) (by rfl) (by rfl) ?_
            | refine XL.pnone' (by rfl) (by rfl) (by rfl) (by rfl) (by rfl) (by rfl) (by rfl) ?_
            | refine XL.conv64 (by rfl) (by rfl) (by rfl) (by rfl) (by rfl) (by rfl) (by rfl) (by omega) ?_))
        refine XA.tk 10 (by rfl) (by kernel_rfl) (by repeat (first | exact PF.body | apply PF.sq | apply PF.rd | apply PF.mt | apply PF.block)) ?_
        (repeat' (first
          | refine XQ.tk ?_
          | refine XL.ldh (by rfl) (by rfl) (by rfl) (by rfl) (by rfl) (by rfl) (by repeat (first | exact Sel.here | apply Sel.there)) (by rfl) ?_
          | refine XL.nil ?_
            | (refine XL.guard_d (by rfl) (by rfl) (fun h => ?_) (fun h => ?_) <;> try (first | (exfalso; omega) | exact absurd rfl h))
            | refine XL.pures (by rfl) (by rfl) (by rfl) (by rfl) (by rfl) ?_
            | refine XL.not_d (by rfl) (by rfl) (by rfl) (by rfl) (by rfl) ?_
            | refine XL.pure 1 (by rfl) ?_
            | refine XL.fa0 (by rfl) (by rfl) (by rfl) (by rfl) (by rfl) (by rfl) ?_
            | refine XL.ld (by rfl) (by rfl) (by rfl) (by rfl) (by rfl) (by rfl) (by repeat (first | exact Sel.here | apply Sel.there)) (by rfl) ?_
            | refine XL.fa (by rfl) (by rfl) (by rfl) (by rfl) (by rfl) (by rfl) ?_
            | refine XL.ia1 (by rfl) (by rfl) (by rfl) (by rfl) (by rfl) (by rfl) (by rfl) (by omega) ?_
            | refine XL.ldr (by rfl) (by rfl) (by rfl) (by rfl) (by rfl) (by rfl) (by repeat (first | exact Sel.here | apply Sel.there)) (by assumption) ?_
            | refine XL.stl (by rfl) (by rfl) (by rfl) (by rfl) (by rfl) (by rfl) (by rfl) (by repeat (first | exact Sel.here | apply Sel.there)) (by rfl) ?_
            | refine XL.lenR (by rfl) (by rfl) (by rfl) (by rfl) (by rfl) (by rfl) (by rfl) (by first | exact fun w h => St.row (by repeat (first | exact Sel.here | apply Sel.there)) h | exact fun w h => St.rowF (by repeat (first | exact List.Mem.head _ | apply List.Mem.tail)) h | exact fun w h => Hd.rowF (by repeat (first | exact List.Mem.head _ | apply List.Mem.tail)) h) ?_
            | refine XL.iaR1 (by rfl) (by rfl) (by rfl) (by rfl) (by rfl) (by rfl) (by rfl) (by first | exact fun w h => St.row (by repeat (first | exact Sel.here | apply Sel.there)) h | exact fun w h => St.rowF (by repeat (first | exact List.Mem.head _ | apply List.Mem.tail)) h | exact fun w h => Hd.rowF (by repeat (first | exact List.Mem.head _ | apply List.Mem.tail)) h) (by omega) ?_
            | refine XL.iaR2 (by rfl) (by rfl) (by rfl) (by rfl) (by rfl) (by rfl) (by first | exact fun w h => St.row (by repeat (first | exact Sel.here | apply Sel.there)) h | exact fun w h => St.rowF (by repeat (first | exact List.Mem.head _ | apply List.Mem.tail)) h | exact fun w h => Hd.rowF (by repeat (first | exact List.Mem.head _ | apply List.Mem.tail)) h) (by rfl) (by omega) ?_
            | refine XL.faR (by rfl) (by rfl) (by rfl) (by rfl) (by rfl) (by rfl) (by first | exact fun w h => St.row (by repeat (first | exact Sel.here | apply Sel.there)) h | exact fun w h => St.rowF (by repeat (first | exact List.Mem.head _ | apply List.Mem.tail)) h | exact fun w h => Hd.rowF (by repeat (first | exact List.Mem.head _ | apply List.Mem.tail)) h) (by assumption) ?_
            | refine XL.ldR (by rfl) (by rfl) (by rfl) (by rfl) (by rfl) (by rfl) (by first | exact fun w h => St.row (by repeat (first | exact Sel.here | apply Sel.there)) h | exact fun w h => St.rowF (by repeat (first | exact List.Mem.head _ | apply List.Mem.tail)) h | exact fun w h => Hd.rowF (by repeat (first | exact List.Mem.head _ | apply List.Mem.tail)) h) (by assumption) ?_
            | refine XL.lenS (by rfl) (by rfl) (by rfl) (by rfl) (by rfl) (by rfl) (by rfl) ?_
            | refine XL.lenStr (by rfl) (by rfl) (by rfl) (by rfl) (by rfl) (by rfl) (by rfl) ?_
            | refine XL.succ (by rfl) (by rfl) (by rfl) (by rfl) (by rfl) (by rfl) (by omega) ?_
            | refine XL.addn (by rfl) (by rfl) (by rfl) (by rfl) (by rfl) (by rfl) (by omega) ?_
            | refine XL.add (by rfl) (by rfl) (by rfl) (by rfl) (by rfl) (by rfl) (by omega) ?_
            | refine XL.pred (by rfl) (by rfl) (by rfl) (by rfl) (by rfl) (by rfl) (by omega) ?_
            | refine XL.sub (by rfl) (by rfl) (by rfl) (by rfl) (by rfl) (by rfl) (by omega) ?_
            | refine XL.min2 (by rfl) (by rfl) (by rfl) (by rfl) (by rfl) (by rfl) ?_
            | refine XL.max2 (by rfl) (by rfl) (by rfl) (by rfl) (by rfl) (by rfl) ?_
            | refine XL.eqB (by rfl) (by rfl) (by rfl) (by rfl) (by rfl) (by rfl) (by rfl) ?_
            | refine XL.neB (by rfl) (by rfl) (by rfl) (by rfl) (by rfl) (by rfl) (by rfl) ?_
            | refine XL.psome (by rfl) (by rfl) (by rfl) (by rfl) (by rfl) (by rfl) (by rfl) ?_
            | refine XL.pnone (by rfl) (by rfl) (by rfl) (by rfl) (by rfl) (by rfl) (by rfl) ?_
            | refine XL.psome' (by rfl) (by rfl) (by rfl) (by rfl) (by rfl) (by rfl) (by rfl) ?_
            | refine XL.pnone' (by rfl) (by rfl) (by rfl) (by rfl) (by rfl) (by rfl) (by rfl) ?_
            | refine XL.conv64 (by rfl) (by rfl) (by rfl) (by rfl) (by rfl) (by rfl) (by rfl) (by omega) ?_))
        refine XA.tk 12 (by rfl) (by kernel_rfl) (by repeat (first | exact PF.body | apply PF.sq | apply PF.rd | apply PF.mt | apply PF.block)) ?_
        (repeat' (first
          | refine XQ.tk ?_
          | refine XL.ldh (by rfl) (by rfl) (by rfl) (by rfl) (by rfl) (by rfl) (by repeat (first | exact Sel.here | apply Sel.there)) (by rfl) ?_
          | refine XL.nil ?_
            | (refine XL.guard_d (by rfl) (by rfl) (fun h => ?_) (fun h => ?_) <;> try (first | (exfalso; omega) | exact absurd rfl h))
            | refine XL.pures (by rfl) (by rfl) (by rfl) (by rfl) (by rfl) ?_
            | refine XL.not_d (by rfl) (by rfl) (by rfl) (by rfl) (by rfl) ?_
            | refine XL.pure 1 (by rfl) ?_
            | refine XL.fa0 (by rfl) (by rfl) (by rfl) (by rfl) (by rfl) (by rfl) ?_
            | refine XL.ld (by rfl) (by rfl) (by rfl) (by rfl) (by rfl) (by rfl) (by repeat (first | exact Sel.here | apply Sel.there)) (by rfl) ?_
            | refine XL.fa (by rfl) (by rfl) (by rfl) (by rfl) (by rfl) (by rfl) ?_
            | refine XL.ia1 (by rfl) (by rfl) (by rfl) (by rfl) (by rfl) (by rfl) (by rfl) (by omega) ?_
            | refine XL.ldr (by rfl) (by rfl) (by rfl) (by rfl) (by rfl) (by rfl) (by repeat (first | exact Sel.here | apply Sel.there)) (by assumption) ?_
            | refine XL.stl (by rfl) (by rfl) (by rfl) (by rfl) (by rfl) (by rfl) (by rfl) (by repeat (first | exact Sel.here | apply Sel.there)) (by rfl) ?_
            | refine XL.lenR (by rfl) (by rfl) (by rfl) (by rfl) (by rfl) (by rfl) (by rfl) (by first | exact fun w h => St.row (by repeat (first | exact Sel.here | apply Sel.there)) h | exact fun w h => St.rowF (by repeat (first | exact List.Mem.head _ | apply List.Mem.tail)) h | exact fun w h => Hd.rowF (by repeat (first | exact List.Mem.head _ | apply List.Mem.tail)) h) ?_
            | refine XL.iaR1 (by rfl) (by rfl) (by rfl) (by rfl) (by rfl) (by rfl) (by rfl) (by first | exact fun w h => St.row (by repeat (first | exact Sel.here | apply Sel.there)) h | exact fun w h => St.rowF (by repeat (first | exact List.Mem.head _ | apply List.Mem.tail)) h | exact fun w h => Hd.rowF (by repeat (first | exact List.Mem.head _ | apply List.Mem.tail)) h) (by omega) ?_
            | refine XL.iaR2 (by rfl) (by rfl) (by rfl) (by rfl) (by rfl) (by rfl) (by first | exact fun w h => St.row (by repeat (first | exact Sel.here | apply Sel.there)) h | exact fun w h => St.rowF (by repeat (first | exact List.Mem.head _ | apply List.Mem.tail)) h | exact fun w h => Hd.rowF (by repeat (first | exact List.Mem.head _ | apply List.Mem.tail)) h) (by rfl) (by omega) ?_
            | refine XL.faR (by rfl) (by rfl) (by rfl) (by rfl) (by rfl) (by rfl) (by first | exact fun w h => St.row (by repeat (first | exact Sel.here | apply Sel.there)) h | exact fun w h => St.rowF (by repeat (first | exact List.Mem.head _ | apply List.Mem.tail)) h | exact fun w h => Hd.rowF (by repeat (first | exact List.Mem.head _ | apply List.Mem.tail)) h) (by assumption) ?_
            | refine XL.ldR (by rfl) (by rfl) (by rfl) (by rfl) (by rfl) (by rfl) (by first | exact fun w h => St.row (by repeat (first | exact Sel.here | apply Sel.there)) h | exact fun w h => St.rowF (by repeat (first | exact List.Mem.head _ | apply List.Mem.tail)) h | exact fun w h => Hd.rowF (by repeat (first | exact List.Mem.head _ | apply List.Mem.tail)) h) (by assumption) ?_
            | refine XL.lenS (by rfl) (by rfl) (by rfl) (by rfl) (by rfl) (by rfl) (by rfl) ?_
            | refine XL.lenStr (by rfl) (by rfl) (by rfl) (by rfl) (by rfl) (by rfl) (by rfl) ?_
            | refine XL.succ (by rfl) (by rfl) (by rfl) (by rfl) (by rfl) (by rfl) (by omega) ?_
            | refine XL.addn (by rfl) (by rfl) (by rfl) (by rfl) (by rfl) (by rfl) (by omega) ?_
            | refine XL.add (by rfl) (by rfl) (by rfl) (by rfl) (by rfl) (by rfl) (by omega) ?_
            | refine XL.pred (by rfl) (by rfl) (by rfl) (by rfl) (by rfl) (by rfl) (by omega) ?_
            | refine XL.sub (by rfl) (by rfl) (by rfl) (by rfl) (by rfl) (by rfl) (by omega) ?_
            | refine XL.min2 (by rfl) (by rfl) (by rfl) (by rfl) (by rfl) (by rfl) ?_
            | refine XL.max2 (by rfl) (by rfl) (by rfl) (by rfl) (by rfl) (by rfl) ?_
            | refine XL.eqB (by rfl) (by rfl) (by rfl) (by rfl) (by rfl) (by rfl) (by rfl) ?_
            | refine XL.neB (by rfl) (by rfl) (by rfl) (by rfl) (by rfl) (by rfl) (by rfl) ?_
            | refine XL.psome (by rfl) (by rfl) (by rfl) (by rfl) (by rfl) (by rfl) (by rfl) ?_
            | refine XL.pnone (by rfl) (by rfl) (by rfl) (by rfl) (by rfl) (by rfl) (by rfl) ?_
            | refine XL.psome' (by rfl) (by rfl) (by rfl) (by rfl) (by rfl) (by rfl) (by rfl) ?_
            | refine XL.pnone' (by rfl) (by rfl) (by rfl) (by rfl) (by rfl) (by rfl) (by rfl) ?_
            | refine XL.conv64 (by rfl) (by rfl) (by rfl) (by rfl) (by rfl) (by rfl) (by rfl) (by omega) ?_))
        refine XA.an1 11 (by decide +kernel) (by rfl) ?_
        refine XL.trir (join_tri' hN4) (by rfl) (by rfl) (by rfl) (by rfl) (by rfl) (by rfl) (by rfl) (by repeat' (first | exact Sels.nil | exact Sel.here | apply Sels.cons | apply Sel.there)) (fun _ h => nomatch h) ?_
        rintro - -
        conv => arg 9; dsimp only [List.cons_append, List.nil_append]
        try conv => arg 7; dsimp only
        (repeat' (first
          | refine XQ.an (fun w h => h.hd (by repeat' (first | exact Sels.nil | exact Sel.here | apply Sels.cons | apply Sel.there))) ?_
          | refine XL.nil ?_
            | (refine XL.guard_d (by rfl) (by rfl) (fun h => ?_) (fun h => ?_) <;> try (first | (exfalso; omega) | exact absurd rfl h))
            | refine XL.pures (by rfl) (by rfl) (by rfl) (by rfl) (by rfl) ?_
            | refine XL.not_d (by rfl) (by rfl) (by rfl) (by rfl) (by rfl) ?_
            | refine XL.pure 1 (by rfl) ?_
            | refine XL.fa0 (by rfl) (by rfl) (by rfl) (by rfl) (by rfl) (by rfl) ?_
            | refine XL.ld (by rfl) (by rfl) (by rfl) (by rfl) (by rfl) (by rfl) (by repeat (first | exact Sel.here | apply Sel.there)) (by rfl) ?_
            | refine XL.fa (by rfl) (by rfl) (by rfl) (by rfl) (by rfl) (by rfl) ?_
            | refine XL.ia1 (by rfl) (by rfl) (by rfl) (by rfl) (by rfl) (by rfl) (by rfl) (by omega) ?_
            | refine XL.ldr (by rfl) (by rfl) (by rfl) (by rfl) (by rfl) (by rfl) (by repeat (first | exact Sel.here | apply Sel.there)) (by assumption) ?_
            | refine XL.stl (by rfl) (by rfl) (by rfl) (by rfl) (by rfl) (by rfl) (by rfl) (by repeat (first | exact Sel.here | apply Sel.there)) (by rfl) ?_
            | refine XL.lenR (by rfl) (by rfl) (by rfl) (by rfl) (by rfl) (by rfl) (by rfl) (by first | exact fun w h => St.row (by repeat (first | exact Sel.here | apply Sel.there)) h | exact fun w h => St.rowF (by repeat (first | exact List.Mem.head _ | apply List.Mem.tail)) h | exact fun w h => Hd.rowF (by repeat (first | exact List.Mem.head _ | apply List.Mem.tail)) h) ?_
            | refine XL.iaR1 (by rfl) (by rfl) (by rfl) (by rfl) (by rfl) (by rfl) (by rfl) (by first | exact fun w h => St.row (by repeat (first | exact Sel.here | apply Sel.there)) h | exact fun w h => St.rowF (by repeat (first | exact List.Mem.head _ | apply List.Mem.tail)) h | exact fun w h => Hd.rowF (by repeat (first | exact List.Mem.head _ | apply List.Mem.tail)) h) (by omega) ?_
            | refine XL.iaR2 (by rfl) (by rfl) (by rfl) (by rfl) (by rfl) (by rfl) (by first | exact fun w h => St.row (by repeat (first | exact Sel.here | apply Sel.there)) h | exact fun w h => St.rowF (by repeat (first | exact List.Mem.head _ | apply List.Mem.tail)) h | exact fun w h => Hd.rowF (by repeat (first | exact List.Mem.head _ | apply List.Mem.tail)) h) (by rfl) (by omega) ?_
            | refine XL.faR (by rfl) (by rfl) (by rfl) (by rfl) (by rfl) (by rfl) (by first | exact fun w h => St.row (by repeat (first | exact Sel.here | apply Sel.there)) h | exact fun w h => St.rowF (by repeat (first | exact List.Mem.head _ | apply List.Mem.tail)) h | exact fun w h => Hd.rowF (by repeat (first | exact List.Mem.head _ | apply List.Mem.tail)) h) (by assumption) ?_
            | refine XL.ldR (by rfl) (by rfl) (by rfl) (by rfl) (by rfl) (by rfl) (by first | exact fun w h => St.row (by repeat (first | exact Sel.here | apply Sel.there)) h | exact fun w h => St.rowF (by repeat (first | exact List.Mem.head _ | apply List.Mem.tail)) h | exact fun w h => Hd.rowF (by repeat (first | exact List.Mem.head _ | apply List.Mem.tail)) h) (by assumption) ?_
            | refine XL.lenS (by rfl) (by rfl) (by rfl) (by rfl) (by rfl) (by rfl) (by rfl) ?_
            | refine XL.lenStr (by rfl) (by rfl) (by rfl) (by rfl) (by rfl) (by rfl) (by rfl) ?_
            | refine XL.succ (by rfl) (by rfl) (by rfl) (by rfl) (by rfl) (by rfl) (by omega) ?_
            | refine XL.addn (by rfl) (by rfl) (by rfl) (by rfl) (by rfl) (by rfl) (by omega) ?_
            | refine XL.add (by rfl) (by rfl) (by rfl) (by rfl) (by rfl) (by rfl) (by omega) ?_
            | refine XL.pred (by rfl) (by rfl) (by rfl) (by rfl) (by rfl) (by rfl) (by omega) ?_
            | refine XL.sub (by rfl) (by rfl) (by rfl) (by rfl) (by rfl) (by rfl) (by omega) ?_
            | refine XL.min2 (by rfl) (by rfl) (by rfl) (by rfl) (by rfl) (by rfl) ?_
            | refine XL.max2 (by rfl) (by rfl) (by rfl) (by rfl) (by rfl) (by rfl) ?_
            | refine XL.eqB (by rfl) (by rfl) (by rfl) (by rfl) (by rfl) (by rfl) (by rfl) ?_
            | refine XL.neB (by rfl) (by rfl) (by rfl) (by rfl) (by rfl) (by rfl) (by rfl) ?_
            | refine XL.psome (by rfl) (by rfl) (by rfl) (by rfl) (by rfl) (by rfl) (by rfl) ?_
            | refine XL.pnone (by rfl) (by rfl) (by rfl) (by rfl) (by rfl) (by rfl) (by rfl) ?_
            | refine XL.psome' (by rfl) (by rfl) (by rfl) (by rfl) (by rfl) (by rfl) (by rfl) ?_
            | refine XL.pnone' (by rfl) (by rfl) (by rfl) (by rfl) (by rfl) (by rfl) (by rfl) ?_
            | refine XL.conv64 (by rfl) (by rfl) (by rfl) (by rfl) (by rfl) (by rfl) (by rfl) (by omega) ?_))
        refine XA.tk 13 (by rfl) (by kernel_rfl) (by repeat (first | exact PF.body | apply PF.sq | apply PF.rd | apply PF.mt | apply PF.block)) ?_
        (repeat' (first
          | refine XQ.tk ?_
          | refine XL.ldh (by rfl) (by rfl) (by rfl) (by rfl) (by rfl) (by rfl) (by repeat (first | exact Sel.here | apply Sel.there)) (by rfl) ?_
          | refine XL.nil ?_
            | (refine XL.guard_d (by rfl) (by rfl) (fun h => ?_) (fun h => ?_) <;> try (first | (exfalso; omega) | exact absurd rfl h))
            | refine XL.pures (by rfl) (by rfl) (by rfl) (by rfl) (by rfl) ?_
            | refine XL.not_d (by rfl) (by rfl) (by rfl) (by rfl) (by rfl) ?_
            | refine XL.pure 1 (by rfl) ?_
            | refine XL.fa0 (by rfl) (by rfl) (by rfl) (by rfl) (by rfl) (by rfl) ?_
            | refine XL.ld (by rfl) (by rfl) (by rfl) (by rfl) (by rfl) (by rfl) (by repeat (first | exact Sel.here | apply Sel.there)) (by rfl) ?_
            | refine XL.fa (by rfl) (by rfl) (by rfl) (by rfl) (by rfl) (by rfl) ?_
            | refine XL.ia1 (by rfl) (by rfl) (by rfl) (by rfl) (by rfl) (by rfl) (by rfl) (by omega) ?_
            | refine XL.ldr (by rfl) (by rfl) (by rfl) (by rfl) (by rfl) (by rfl) (by repeat (first | exact Sel.here | apply Sel.there)) (by assumption) ?_
            | refine XL.stl (by rfl) (by rfl) (by rfl) (by rfl) (by rfl) (by rfl) (by rfl) (by repeat (first | exact Sel.here | apply Sel.there)) (by rfl) ?_
            | refine XL.lenR (by rfl) (by rfl) (by rfl) (by rfl) (by rfl) (by rfl) (by rfl) (by first | exact fun w h => St.row (by repeat (first | exact Sel.here | apply Sel.there)) h | exact fun w h => St.rowF (by repeat (first | exact List.Mem.head _ | apply List.Mem.tail)) h | exact fun w h => Hd.rowF (by repeat (first | exact List.Mem.head _ | apply List.Mem.tail)) h) ?_
            | refine XL.iaR1 (by rfl) (by rfl) (by rfl) (by rfl) (by rfl) (by rfl) (by rfl) (by first | exact fun w h => St.row (by repeat (first | exact Sel.here | apply Sel.there)) h | exact fun w h => St.rowF (by repeat (first | exact List.Mem.head _ | apply List.Mem.tail)) h | exact fun w h => Hd.rowF (by repeat (first | exact List.Mem.head _ | apply List.Mem.tail)) h) (by omega) ?_
            | refine XL.iaR2 (by rfl) (by rfl) (by rfl) (by rfl) (by rfl) (by rfl) (by first | exact fun w h => St.row (by repeat (first | exact Sel.here | apply Sel.there)) h | exact fun w h => St.rowF (by repeat (first | exact List.Mem.head _ | apply List.Mem.tail)) h | exact fun w h => Hd.rowF (by repeat (first | exact List.Mem.head _ | apply List.Mem.tail)) h) (by rfl) (by omega) ?_
            | refine XL.faR (by rfl) (by rfl) (by rfl) (by rfl) (by rfl) (by rfl) (by first | exact fun w h => St.row (by repeat (first | exact Sel.here | apply Sel.there)) h | exact fun w h => St.rowF (by repeat (first | exact List.Mem.head _ | apply List.Mem.tail)) h | exact fun w h => Hd.rowF (by repeat (first | exact List.Mem.head _ | apply List.Mem.tail)) h) (by assumption) ?_
            | refine XL.ldR (by rfl) (by rfl) (by rfl) (by rfl) (by rfl) (by rfl) (by first | exact fun w h => St.row (by repeat (first | exact Sel.here | apply Sel.there)) h | exact fun w h => St.rowF (by repeat (first | exact List.Mem.head _ | apply List.Mem.tail)) h | exact fun w h => Hd.rowF (by repeat (first | exact List.Mem.head _ | apply List.Mem.tail)) h) (by assumption) ?_
            | refine XL.lenS (by rfl) (by rfl) (by rfl) (by rfl) (by rfl) (by rfl) (by rfl) ?_
            | refine XL.lenStr (by rfl) (by rfl) (by rfl) (by rfl) (by rfl) (by rfl) (by rfl) ?_
            | refine XL.succ (by rfl) (by rfl) (by rfl) (by rfl) (by rfl) (by rfl) (by omega) ?_
            | refine XL.addn (by rfl) (by rfl) (by rfl) (by rfl) (by rfl) (by rfl) (by omega) ?_
            | refine XL.add (by rfl) (by rfl) (by rfl) (by rfl) (by rfl) (by rfl) (by omega) ?_
            | refine XL.pred (by rfl) (by rfl) (by rfl) (by rfl) (by rfl) (by rfl) (by omega) ?_
            | refine XL.sub (by rfl) (by rfl) (by rfl) (by rfl) (by rfl) (by rfl) (by omega) ?_
            | refine XL.min2 (by rfl) (by rfl) (by rfl) (by rfl) (by rfl) (by rfl) ?_
            | refine XL.max2 (by rfl) (by rfl) (by rfl) (by rfl) (by rfl) (by rfl) ?_
            | refine XL.eqB (by rfl) (by rfl) (by rfl) (by rfl) (by rfl) (by rfl) (by rfl) ?_
            | refine XL.neB (by rfl) (by rfl) (by rfl) (by rfl) (by rfl) (by rfl) (by rfl) ?_
            | refine XL.psome (by rfl) (by rfl) (by rfl) (by rfl) (by rfl) (by rfl) (by rfl) ?_
            | refine XL.pnone (by rfl) (by rfl) (by rfl) (by rfl) (by rfl) (by rfl) (by rfl) ?_
            | refine XL.psome' (by rfl) (by rfl) (by rfl) (by rfl) (by rfl) (by rfl) (by rfl) ?_
            | refine XL.pnone' (by rfl) (by rfl) (by rfl) (by rfl) (by rfl) (by rfl) (by rfl) ?_
            | refine XL.conv64 (by rfl) (by rfl) (by rfl) (by rfl) (by rfl) (by rfl) (by rfl) (by omega) ?_))
        refine XA.done (by decide +kernel) ?_
        repeat' (first
          | refine XC.seq ?_
            | refine XC.region ?_
            | refine XC.block ?_
            | refine XC.skip ?_
            | refine XC.ret ?_
            | refine XC.exit ?_
            | (refine XC.cond_d (by rfl) (fun h => ?_) (fun h => ?_) <;> try (first | (exfalso; omega) | exact absurd rfl h))
            | refine XC.cond_t (by rfl) ?_
            | refine XC.cond_f (by rfl) ?_
            | refine XQ.next ?_
            | refine XQ.blockN ?_
            | refine XQ.blockR ?_
            | refine XQ.blockE ?_
            | refine XQ.sqR ?_
            | refine XQ.sqE ?_
            | refine XQ.rdR ?_
            | refine XQ.rdE ?_
            | refine XQ.mtR ?_
            | refine XQ.mtE ?_
          | refine XL.nil ?_
            | (refine XL.guard_d (by rfl) (by rfl) (fun h => ?_) (fun h => ?_) <;> try (first | (exfalso; omega) | exact absurd rfl h))
            | refine XL.pures (by rfl) (by rfl) (by rfl) (by rfl) (by rfl) ?_
            | refine XL.not_d (by rfl) (by rfl) (by rfl) (by rfl) (by rfl) ?_
            | refine XL.pure 1 (by rfl) ?_
            | refine XL.fa0 (by rfl) (by rfl) (by rfl) (by rfl) (by rfl) (by rfl) ?_
            | refine XL.ld (by rfl) (by rfl) (by rfl) (by rfl) (by rfl) (by rfl) (by repeat (first | exact Sel.here | apply Sel.there)) (by rfl) ?_
            | refine XL.fa (by rfl) (by rfl) (by rfl) (by rfl) (by rfl) (by rfl) ?_
            | refine XL.ia1 (by rfl) (by rfl) (by rfl) (by rfl) (by rfl) (by rfl) (by rfl) (by omega) ?_
            | refine XL.ldr (by rfl) (by rfl) (by rfl) (by rfl) (by rfl) (by rfl) (by repeat (first | exact Sel.here | apply Sel.there)) (by assumption) ?_
            | refine XL.stl (by rfl) (by rfl) (by rfl) (by rfl) (by rfl) (by rfl) (by rfl) (by repeat (first | exact Sel.here | apply Sel.there)) (by rfl) ?_
            | refine XL.lenR (by rfl) (by rfl) (by rfl) (by rfl) (by rfl) (by rfl) (by rfl) (by first | exact fun w h => St.row (by repeat (first | exact Sel.here | apply Sel.there)) h | exact fun w h => St.rowF (by repeat (first | exact List.Mem.head _ | apply List.Mem.tail)) h | exact fun w h => Hd.rowF (by repeat (first | exact List.Mem.head _ | apply List.Mem.tail)) h) ?_
            | refine XL.iaR1 (by rfl) (by rfl) (by rfl) (by rfl) (by rfl) (by rfl) (by rfl) (by first | exact fun w h => St.row (by repeat (first | exact Sel.here | apply Sel.there)) h | exact fun w h => St.rowF (by repeat (first | exact List.Mem.head _ | apply List.Mem.tail)) h | exact fun w h => Hd.rowF (by repeat (first | exact List.Mem.head _ | apply List.Mem.tail)) h) (by omega) ?_
            | refine XL.iaR2 (by rfl) (by rfl) (by rfl) (by rfl) (by rfl) (by rfl) (by first | exact fun w h => St.row (by repeat (first | exact Sel.here | apply Sel.there)) h | exact fun w h => St.rowF (by repeat (first | exact List.Mem.head _ | apply List.Mem.tail)) h | exact fun w h => Hd.rowF (by repeat (first | exact List.Mem.head _ | apply List.Mem.tail)) h) (by rfl) (by omega) ?_
            | refine XL.faR (by rfl) (by rfl) (by rfl) (by rfl) (by rfl) (by rfl) (by first | exact fun w h => St.row (by repeat (first | exact Sel.here | apply Sel.there)) h | exact fun w h => St.rowF (by repeat (first | exact List.Mem.head _ | apply List.Mem.tail)) h | exact fun w h => Hd.rowF (by repeat (first | exact List.Mem.head _ | apply List.Mem.tail)) h) (by assumption) ?_
            | refine XL.ldR (by rfl) (by rfl) (by rfl) (by rfl) (by rfl) (by rfl) (by first | exact fun w h => St.row (by repeat (first | exact Sel.here | apply Sel.there)) h | exact fun w h => St.rowF (by repeat (first | exact List.Mem.head _ | apply List.Mem.tail)) h | exact fun w h => Hd.rowF (by repeat (first | exact List.Mem.head _ | apply List.Mem.tail)) h) (by assumption) ?_
            | refine XL.lenS (by rfl) (by rfl) (by rfl) (by rfl) (by rfl) (by rfl) (by rfl) ?_
            | refine XL.lenStr (by rfl) (by rfl) (by rfl) (by rfl) (by rfl) (by rfl) (by rfl) ?_
            | refine XL.succ (by rfl) (by rfl) (by rfl) (by rfl) (by rfl) (by rfl) (by omega) ?_
            | refine XL.addn (by rfl) (by rfl) (by rfl) (by rfl) (by rfl) (by rfl) (by omega) ?_
            | refine XL.add (by rfl) (by rfl) (by rfl) (by rfl) (by rfl) (by rfl) (by omega) ?_
            | refine XL.pred (by rfl) (by rfl) (by rfl) (by rfl) (by rfl) (by rfl) (by omega) ?_
            | refine XL.sub (by rfl) (by rfl) (by rfl) (by rfl) (by rfl) (by rfl) (by omega) ?_
            | refine XL.min2 (by rfl) (by rfl) (by rfl) (by rfl) (by rfl) (by rfl) ?_
            | refine XL.max2 (by rfl) (by rfl) (by rfl) (by rfl) (by rfl) (by rfl) ?_
            | refine XL.eqB (by rfl) (by rfl) (by rfl) (by rfl) (by rfl) (by rfl) (by rfl) ?_
            | refine XL.neB (by rfl) (by rfl) (by rfl) (by rfl) (by rfl) (by rfl) (by rfl) ?_
            | refine XL.psome (by rfl) (by rfl) (by rfl) (by rfl) (by rfl) (by rfl) (by rfl) ?_
            | refine XL.pnone (by rfl) (by rfl) (by rfl) (by rfl) (by rfl) (by rfl) (by rfl) ?_
            | refine XL.psome' (by rfl) (by rfl) (by rfl) (by rfl) (by rfl) (by rfl) (by rfl) ?_
            | refine XL.pnone' (by rfl) (by rfl) (by rfl) (by rfl) (by rfl) (by rfl) (by rfl) ?_
            | refine XL.conv64 (by rfl) (by rfl) (by rfl) (by rfl) (by rfl) (by rfl) (by rfl) (by omega) ?_)
        refine XQ.round (k + 1, _) (by repeat (first | exact fits_nil | refine fits_cons (by rfl) ?_)) (fun w hw => ⟨by omega, ?_⟩) (show l.length - (k + 1) < l.length - k by omega)
        dsimp only
        rw [hnx]
        exact hw.less (by repeat' (first | exact Sels.nil | exact Sel.here | apply Sels.cons | apply Sel.there)) (fun _ h => h)
      · exact XQ.meet (k, v1) (by repeat (first | exact fits_nil | refine fits_cons (by rfl) ?_)) (fun w h => h)
    · repeat' (first
      | refine XC.seq ?_
        | refine XC.region ?_
        | refine XC.block ?_
        | refine XC.skip ?_
        | refine XC.ret ?_
        | refine XC.exit ?_
        | (refine XC.cond_d (by rfl) (fun h => ?_) (fun h => ?_) <;> try (first | (exfalso; omega) | exact absurd rfl h))
        | refine XC.cond_t (by rfl) ?_
        | refine XC.cond_f (by rfl) ?_
        | refine XQ.next ?_
        | refine XQ.blockN ?_
        | refine XQ.blockR ?_
        | refine XQ.blockE ?_
        | refine XQ.sqR ?_
        | refine XQ.sqE ?_
        | refine XQ.rdR ?_
        | refine XQ.rdE ?_
        | refine XQ.mtR ?_
        | refine XQ.mtE ?_
      | refine XL.nil ?_
        | (refine XL.guard_d (by rfl) (by rfl) (fun h => ?_) (fun h => ?_) <;> try (first | (exfalso; omega) | exact absurd rfl h))
        | refine XL.pures (by rfl) (by rfl) (by rfl) (by rfl) (by rfl) ?_
        | refine XL.not_d (by rfl) (by rfl) (by rfl) (by rfl) (by rfl) ?_
        | refine XL.pure 1 (by rfl) ?_
        | refine XL.fa0 (by rfl) (by rfl) (by rfl) (by rfl) (by rfl) (by rfl) ?_
        | refine XL.ld (by rfl) (by rfl) (by rfl) (by rfl) (by rfl) (by rfl) (by repeat (first | exact Sel.here | apply Sel.there)) (by rfl) ?_
        | refine XL.fa (by rfl) (by rfl) (by rfl) (by rfl) (by rfl) (by rfl) ?_
        | refine XL.ia1 (by rfl) (by rfl) (by rfl) (by rfl) (by rfl) (by rfl) (by rfl) (by omega) ?_
        | refine XL.ldr (by rfl) (by rfl) (by rfl) (by rfl) (by rfl) (by rfl) (by repeat (first | exact Sel.here | apply Sel.there)) (by assumption) ?_
        | refine XL.stl (by rfl) (by rfl) (by rfl) (by rfl) (by rfl) (by rfl) (by rfl) (by repeat (first | exact Sel.here | apply Sel.there)) (by rfl) ?_
        | refine XL.lenR (by rfl) (by rfl) (by rfl) (by rfl) (by rfl) (by rfl) (by rfl) (by first | exact fun w h => St.row (by repeat (first | exact Sel.here | apply Sel.there)) h | exact fun w h => St.rowF (by repeat (first | exact List.Mem.head _ | apply List.Mem.tail)) h | exact fun w h => Hd.rowF (by repeat (first | exact List.Mem.head _ | apply List.Mem.tail)) h) ?_
        | refine XL.iaR1 (by rfl) (by rfl) (by rfl) (by rfl) (by rfl) (by rfl) (by rfl) (by first | exact fun w h => St.row (by repeat (first | exact Sel.here | apply Sel.there)) h | exact fun w h => St.rowF (by repeat (first | exact List.Mem.head _ | apply List.Mem.tail)) h | exact fun w h => Hd.rowF (by repeat (first | exact List.Mem.head _ | apply List.Mem.tail)) h) (by omega) ?_
        | refine XL.iaR2 (by rfl) (by rfl) (by rfl) (by rfl) (by rfl) (by rfl) (by first | exact fun w h => St.row (by repeat (first | exact Sel.here | apply Sel.there)) h | exact fun w h => St.rowF (by repeat (first | exact List.Mem.head _ | apply List.Mem.tail)) h | exact fun w h => Hd.rowF (by repeat (first | exact List.Mem.head _ | apply List.Mem.tail)) h) (by rfl) (by omega) ?_
        | refine XL.faR (by rfl) (by rfl) (by rfl) (by rfl) (by rfl) (by rfl) (by first | exact fun w h => St.row (by repeat (first | exact Sel.here | apply Sel.there)) h | exact fun w h => St.rowF (by repeat (first | exact List.Mem.head _ | apply List.Mem.tail)) h | exact fun w h => Hd.rowF (by repeat (first | exact List.Mem.head _ | apply List.Mem.tail)) h) (by assumption) ?_
        | refine XL.ldR (by rfl) (by rfl) (by rfl) (by rfl) (by rfl) (by rfl) (by first | exact fun w h => St.row (by repeat (first | exact Sel.here | apply Sel.there)) h | exact fun w h => St.rowF (by repeat (first | exact List.Mem.head _ | apply List.Mem.tail)) h | exact fun w h => Hd.rowF (by repeat (first | exact List.Mem.head _ | apply List.Mem.tail)) h) (by assumption) ?_
        | refine XL.lenS (by rfl) (by rfl) (by rfl) (by rfl) (by rfl) (by rfl) (by rfl) ?_
        | refine XL.lenStr (by rfl) (by rfl) (by rfl) (by rfl) (by rfl) (by rfl) (by rfl) ?_
        | refine XL.succ (by rfl) (by rfl) (by rfl) (by rfl) (by rfl) (by rfl) (by omega) ?_
        | refine XL.addn (by rfl) (by rfl) (by rfl) (by rfl) (by rfl) (by rfl) (by omega) ?_
        | refine XL.add (by rfl) (by rfl) (by rfl) (by rfl) (by rfl) (by rfl) (by omega) ?_
        | refine XL.pred (by rfl) (by rfl) (by rfl) (by rfl) (by rfl) (by rfl) (by omega) ?_
        | refine XL.sub (by rfl) (by rfl) (by rfl) (by rfl) (by rfl) (by rfl) (by omega) ?_
        | refine XL.min2 (by rfl) (by rfl) (by rfl) (by rfl) (by rfl) (by rfl) ?_
        | refine XL.max2 (by rfl) (by rfl) (by rfl) (by rfl) (by rfl) (by rfl) ?_
        | refine XL.eqB (by rfl) (by rfl) (by rfl) (by rfl) (by rfl) (by rfl) (by rfl) ?_
        | refine XL.neB (by rfl) (by rfl) (by rfl) (by rfl) (by rfl) (by rfl) (by rfl) ?_
        | refine XL.psome (by rfl) (by rfl) (by rfl) (by rfl) (by rfl) (by rfl) (by rfl) ?_
        | refine XL.pnone (by rfl) (by rfl) (by rfl) (by rfl) (by rfl) (by rfl) (by rfl) ?_
        | refine XL.psome' (by rfl) (by rfl) (by rfl) (by rfl) (by rfl) (by rfl) (by rfl) ?_
        | refine XL.pnone' (by rfl) (by rfl) (by rfl) (by rfl) (by rfl) (by rfl) (by rfl) ?_
        | refine XL.conv64 (by rfl) (by rfl) (by rfl) (by rfl) (by rfl) (by rfl) (by rfl) (by omega) ?_)
      exact XQ.meet (k, v1) (by repeat (first | exact fits_nil | refine fits_cons (by rfl) ?_)) (fun w h => h)
  rintro ⟨k, v1⟩
  dsimp only
  have hG := grp_len N l k
  generalize grp N l k = G at hG
  repeat' (first
    | refine XC.seq ?_
    | refine XC.region ?_
    | refine XQ.next ?_
    | refine XQ.blockN ?_
    | refine XL.nil ?_
      | (refine XL.guard_d (by rfl) (by rfl) (fun h => ?_) (fun h => ?_) <;> try (first | (exfalso; omega) | exact absurd rfl h))
      | refine XL.pures (by rfl) (by rfl) (by rfl) (by rfl) (by rfl) ?_
      | refine XL.not_d (by rfl) (by rfl) (by rfl) (by rfl) (by rfl) ?_
      | refine XL.pure 1 (by rfl) ?_
      | refine XL.fa0 (by rfl) (by rfl) (by rfl) (by rfl) (by rfl) (by rfl) ?_
      | refine XL.ld (by rfl) (by rfl) (by rfl) (by rfl) (by rfl) (by rfl) (by repeat (first | exact Sel.here | apply Sel.there)) (by rfl) ?_
      | refine XL.fa (by rfl) (by rfl) (by rfl) (by rfl) (by rfl) (by rfl) ?_
      | refine XL.ia1 (by rfl) (by rfl) (by rfl) (by rfl) (by rfl) (by rfl) (by rfl) (by omega) ?_
      | refine XL.ldr (by rfl) (by rfl) (by rfl) (by rfl) (by rfl) (by rfl) (by repeat (first | exact Sel.here | apply Sel.there)) (by assumption) ?_
      | refine XL.stl (by rfl) (by rfl) (by rfl) (by rfl) (by rfl) (by rfl) (by rfl) (by repeat (first | exact Sel.here | apply Sel.there)) (by rfl) ?_
      | refine XL.lenR (by rfl) (by rfl) (by rfl) (by rfl) (by rfl) (by rfl) (by rfl) (by first | exact fun w h => St.row (by repeat (first | exact Sel.here | apply Sel.there)) h | exact fun w h => St.rowF (by repeat (first | exact List.Mem.head _ | apply List.Mem.tail)) h | exact fun w h => Hd.rowF (by repeat (first | exact List.Mem.head _ | apply List.Mem.tail)) h) ?_
      | refine XL.iaR1 (by rfl) (by rfl) (by rfl) (by rfl) (by rfl) (by rfl) (by rfl) (by first | exact fun w h => St.row (by repeat (first | exact Sel.here | apply Sel.there)) h | exact fun w h => St.rowF (by repeat (first | exact List.Mem.head _ | apply List.Mem.tail)) h | exact fun w h => Hd.rowF (by repeat (first | exact List.Mem.head _ | apply List.Mem.tail)) h) (by omega) ?_
      | refine XL.iaR2 (by rfl) (by rfl) (by rfl) (by rfl) (by rfl) (by rfl) (by first | exact fun w h => St.row (by repeat (first | exact Sel.here | apply Sel.there)) h | exact fun w h => St.rowF (by repeat (first | exact List.Mem.head _ | apply List.Mem.tail)) h | exact fun w h => Hd.rowF (by repeat (first | exact List.Mem.head _ | apply List.Mem.tail)) h) (by rfl) (by omega) ?_
      | refine XL.faR (by rfl) (by rfl) (by rfl) (by rfl) (by rfl) (by rfl) (by first | exact fun w h => St.row (by repeat (first | exact Sel.here | apply Sel.there)) h | exact fun w h => St.rowF (by repeat (first | exact List.Mem.head _ | apply List.Mem.tail)) h | exact fun w h => Hd.rowF (by repeat (first | exact List.Mem.head _ | apply List.Mem.tail)) h) (by assumption) ?_
      | refine XL.ldR (by rfl) (by rfl) (by rfl) (by rfl) (by rfl) (by rfl) (by first | exact fun w h => St.row (by repeat (first | exact Sel.here | apply Sel.there)) h | exact fun w h => St.rowF (by repeat (first | exact List.Mem.head _ | apply List.Mem.tail)) h | exact fun w h => Hd.rowF (by repeat (first | exact List.Mem.head _ | apply List.Mem.tail)) h) (by assumption) ?_
      | refine XL.lenS (by rfl) (by rfl) (by rfl) (by rfl) (by rfl) (by rfl) (by rfl) ?_
      | refine XL.lenStr (by rfl) (by rfl) (by rfl) (by rfl) (by rfl) (by rfl) (by rfl) ?_
      | refine XL.succ (by rfl) (by rfl) (by rfl) (by rfl) (by rfl) (by rfl) (by omega) ?_
      | refine XL.addn (by rfl) (by rfl) (by rfl) (by rfl) (by rfl) (by rfl) (by omega) ?_
      | refine XL.add (by rfl) (by rfl) (by rfl) (by rfl) (by rfl) (by rfl) (by omega) ?_
      | refine XL.pred (by rfl) (by rfl) (by rfl) (by rfl) (by rfl) (by rfl) (by omega) ?_
      | refine XL.sub (by rfl) (by rfl) (by rfl) (by rfl) (by rfl) (by rfl) (by omega) ?_
      | refine XL.min2 (by rfl) (by rfl) (by rfl) (by rfl) (by rfl) (by rfl) ?_
      | refine XL.max2 (by rfl) (by rfl) (by rfl) (by rfl) (by rfl) (by rfl) ?_
      | refine XL.eqB (by rfl) (by rfl) (by rfl) (by rfl) (by rfl) (by rfl) (by rfl) ?_
      | refine XL.neB (by rfl) (by rfl) (by rfl) (by rfl) (by rfl) (by rfl) (by rfl) ?_
      | refine XL.psome (by rfl) (by rfl) (by rfl) (by rfl) (by rfl) (by rfl) (by rfl) ?_
      | refine XL.pnone (by rfl) (by rfl) (by rfl) (by rfl) (by rfl) (by rfl) (by rfl) ?_
      | refine XL.psome' (by rfl) (by rfl) (by rfl) (by rfl) (by rfl) (by rfl) (by rfl) ?_
      | refine XL.pnone' (by rfl) (by rfl) (by rfl) (by rfl) (by rfl) (by rfl) (by rfl) ?_
      | refine XL.conv64 (by rfl) (by rfl) (by rfl) (by rfl) (by rfl) (by rfl) (by rfl) (by omega) ?_)
  refine XC.cutS (fun _ : Unit => [(1, v), (2, .int .i64 i), (7, .bool true), (8, .pointer (some ⟨gb, 0, none⟩)), (9, v1)])
    (fun _ => St c [rowO 3 1 v1 N (G.map vi), groups (.pointer (some ⟨gb, 0, none⟩)) N G] [Row.fp 2 v l.length (pcell l)]) ?_ ?_
  · repeat' (first
    | refine XC.seq ?_
      | refine XC.region ?_
      | refine XC.block ?_
      | refine XC.skip ?_
      | refine XC.ret ?_
      | refine XC.exit ?_
      | (refine XC.cond_d (by rfl) (fun h => ?_) (fun h => ?_) <;> try (first | (exfalso; omega) | exact absurd rfl h))
      | refine XC.cond_t (by rfl) ?_
      | refine XC.cond_f (by rfl) ?_
      | refine XQ.next ?_
      | refine XQ.blockN ?_
      | refine XQ.blockR ?_
      | refine XQ.blockE ?_
      | refine XQ.sqR ?_
      | refine XQ.sqE ?_
      | refine XQ.rdR ?_
      | refine XQ.rdE ?_
      | refine XQ.mtR ?_
      | refine XQ.mtE ?_
    | refine XL.nil ?_
      | (refine XL.guard_d (by rfl) (by rfl) (fun h => ?_) (fun h => ?_) <;> try (first | (exfalso; omega) | exact absurd rfl h))
      | refine XL.pures (by rfl) (by rfl) (by rfl) (by rfl) (by rfl) ?_
      | refine XL.not_d (by rfl) (by rfl) (by rfl) (by rfl) (by rfl) ?_
      | refine XL.pure 1 (by rfl) ?_
      | refine XL.fa0 (by rfl) (by rfl) (by rfl) (by rfl) (by rfl) (by rfl) ?_
      | refine XL.ld (by rfl) (by rfl) (by rfl) (by rfl) (by rfl) (by rfl) (by repeat (first | exact Sel.here | apply Sel.there)) (by rfl) ?_
      | refine XL.fa (by rfl) (by rfl) (by rfl) (by rfl) (by rfl) (by rfl) ?_
      | refine XL.ia1 (by rfl) (by rfl) (by rfl) (by rfl) (by rfl) (by rfl) (by rfl) (by omega) ?_
      | refine XL.ldr (by rfl) (by rfl) (by rfl) (by rfl) (by rfl) (by rfl) (by repeat (first | exact Sel.here | apply Sel.there)) (by assumption) ?_
      | refine XL.stl (by rfl) (by rfl) (by rfl) (by rfl) (by rfl) (by rfl) (by rfl) (by repeat (first | exact Sel.here | apply Sel.there)) (by rfl) ?_
      | refine XL.lenR (by rfl) (by rfl) (by rfl) (by rfl) (by rfl) (by rfl) (by rfl) (by first | exact fun w h => St.row (by repeat (first | exact Sel.here | apply Sel.there)) h | exact fun w h => St.rowF (by repeat (first | exact List.Mem.head _ | apply List.Mem.tail)) h | exact fun w h => Hd.rowF (by repeat (first | exact List.Mem.head _ | apply List.Mem.tail)) h) ?_
      | refine XL.iaR1 (by rfl) (by rfl) (by rfl) (by rfl) (by rfl) (by rfl) (by rfl) (by first | exact fun w h => St.row (by repeat (first | exact Sel.here | apply Sel.there)) h | exact fun w h => St.rowF (by repeat (first | exact List.Mem.head _ | apply List.Mem.tail)) h | exact fun w h => Hd.rowF (by repeat (first | exact List.Mem.head _ | apply List.Mem.tail)) h) (by omega) ?_
      | refine XL.iaR2 (by rfl) (by rfl) (by rfl) (by rfl) (by rfl) (by rfl) (by first | exact fun w h => St.row (by repeat (first | exact Sel.here | apply Sel.there)) h | exact fun w h => St.rowF (by repeat (first | exact List.Mem.head _ | apply List.Mem.tail)) h | exact fun w h => Hd.rowF (by repeat (first | exact List.Mem.head _ | apply List.Mem.tail)) h) (by rfl) (by omega) ?_
      | refine XL.faR (by rfl) (by rfl) (by rfl) (by rfl) (by rfl) (by rfl) (by first | exact fun w h => St.row (by repeat (first | exact Sel.here | apply Sel.there)) h | exact fun w h => St.rowF (by repeat (first | exact List.Mem.head _ | apply List.Mem.tail)) h | exact fun w h => Hd.rowF (by repeat (first | exact List.Mem.head _ | apply List.Mem.tail)) h) (by assumption) ?_
      | refine XL.ldR (by rfl) (by rfl) (by rfl) (by rfl) (by rfl) (by rfl) (by first | exact fun w h => St.row (by repeat (first | exact Sel.here | apply Sel.there)) h | exact fun w h => St.rowF (by repeat (first | exact List.Mem.head _ | apply List.Mem.tail)) h | exact fun w h => Hd.rowF (by repeat (first | exact List.Mem.head _ | apply List.Mem.tail)) h) (by assumption) ?_
      | refine XL.lenS (by rfl) (by rfl) (by rfl) (by rfl) (by rfl) (by rfl) (by rfl) ?_
      | refine XL.lenStr (by rfl) (by rfl) (by rfl) (by rfl) (by rfl) (by rfl) (by rfl) ?_
      | refine XL.succ (by rfl) (by rfl) (by rfl) (by rfl) (by rfl) (by rfl) (by omega) ?_
      | refine XL.addn (by rfl) (by rfl) (by rfl) (by rfl) (by rfl) (by rfl) (by omega) ?_
      | refine XL.add (by rfl) (by rfl) (by rfl) (by rfl) (by rfl) (by rfl) (by omega) ?_
      | refine XL.pred (by rfl) (by rfl) (by rfl) (by rfl) (by rfl) (by rfl) (by omega) ?_
      | refine XL.sub (by rfl) (by rfl) (by rfl) (by rfl) (by rfl) (by rfl) (by omega) ?_
      | refine XL.min2 (by rfl) (by rfl) (by rfl) (by rfl) (by rfl) (by rfl) ?_
      | refine XL.max2 (by rfl) (by rfl) (by rfl) (by rfl) (by rfl) (by rfl) ?_
      | refine XL.eqB (by rfl) (by rfl) (by rfl) (by rfl) (by rfl) (by rfl) (by rfl) ?_
      | refine XL.neB (by rfl) (by rfl) (by rfl) (by rfl) (by rfl) (by rfl) (by rfl) ?_
      | refine XL.psome (by rfl) (by rfl) (by rfl) (by rfl) (by rfl) (by rfl) (by rfl) ?_
      | refine XL.pnone (by rfl) (by rfl) (by rfl) (by rfl) (by rfl) (by rfl) (by rfl) ?_
      | refine XL.psome' (by rfl) (by rfl) (by rfl) (by rfl) (by rfl) (by rfl) (by rfl) ?_
      | refine XL.pnone' (by rfl) (by rfl) (by rfl) (by rfl) (by rfl) (by rfl) (by rfl) ?_
      | refine XL.conv64 (by rfl) (by rfl) (by rfl) (by rfl) (by rfl) (by rfl) (by rfl) (by omega) ?_)
    refine XC.loop (fun y : Int => [(1, v), (2, .int .i64 i), (7, .bool true), (8, .pointer (some ⟨gb, 0, none⟩)), (9, v1), (13, .int .i64 y)])
      (fun y w => (-1 ≤ y ∧ y ≤ N + 1) ∧ St c [rowO 3 1 v1 N (G.map vi), groups (.pointer (some ⟨gb, 0, none⟩)) N G] [Row.fp 2 v l.length (pcell l)] w)
      (fun y => (N + 1 - y).toNat) (-1) (by repeat (first | exact fits_nil | refine fits_cons (by rfl) ?_)) (fun w hw => ⟨by omega, hw⟩) ?_
    intro y
    refine XC.pure (fun hy => ?_)
    obtain ⟨fy, hfy⟩ : ∃ fy : Int, (if 0 ≤ y ∧ y < N then ((G.getD y.toNat 0 : Nat) : Int) else -1) = fy := ⟨_, rfl⟩
    repeat' (first
      | refine XC.seq ?_
        | refine XC.region ?_
        | refine XC.block ?_
        | refine XC.skip ?_
        | refine XC.ret ?_
        | refine XC.exit ?_
        | (refine XC.cond_d (by rfl) (fun h => ?_) (fun h => ?_) <;> try (first | (exfalso; omega) | exact absurd rfl h))
        | refine XC.cond_t (by rfl) ?_
        | refine XC.cond_f (by rfl) ?_
        | refine XQ.next ?_
        | refine XQ.blockN ?_
        | refine XQ.blockR ?_
        | refine XQ.blockE ?_
        | refine XQ.sqR ?_
        | refine XQ.sqE ?_
        | refine XQ.rdR ?_
        | refine XQ.rdE ?_
        | refine XQ.mtR ?_
        | refine XQ.mtE ?_
      | refine XL.nil ?_
        | (refine XL.guard_d (by rfl) (by rfl) (fun h => ?_) (fun h => ?_) <;> try (first | (exfalso; omega) | exact absurd rfl h))
        | refine XL.pures (by rfl) (by rfl) (by rfl) (by rfl) (by rfl) ?_
        | refine XL.not_d (by rfl) (by rfl) (by rfl) (by rfl) (by rfl) ?_
        | refine XL.pure 1 (by rfl) ?_
        | refine XL.fa0 (by rfl) (by rfl) (by rfl) (by rfl) (by rfl) (by rfl) ?_
        | refine XL.ld (by rfl) (by rfl) (by rfl) (by rfl) (by rfl) (by rfl) (by repeat (first | exact Sel.here | apply Sel.there)) (by rfl) ?_
        | refine XL.fa (by rfl) (by rfl) (by rfl) (by rfl) (by rfl) (by rfl) ?_
        | refine XL.ia1 (by rfl) (by rfl) (by rfl) (by rfl) (by rfl) (by rfl) (by rfl) (by omega) ?_
        | refine XL.ldr (by rfl) (by rfl) (by rfl) (by rfl) (by rfl) (by rfl) (by repeat (first | exact Sel.here | apply Sel.there)) (by assumption) ?_
        | refine XL.stl (by rfl) (by rfl) (by rfl) (by rfl) (by rfl) (by rfl) (by rfl) (by repeat (first | exact Sel.here | apply Sel.there)) (by rfl) ?_
        | refine XL.lenR (by rfl) (by rfl) (by rfl) (by rfl) (by rfl) (by rfl) (by rfl) (by first | exact fun w h => St.row (by repeat (first | exact Sel.here | apply Sel.there)) h | exact fun w h => St.rowF (by repeat (first | exact List.Mem.head _ | apply List.Mem.tail)) h | exact fun w h => Hd.rowF (by repeat (first | exact List.Mem.head _ | apply List.Mem.tail)) h) ?_
        | refine XL.iaR1 (by rfl) (by rfl) (by rfl) (by rfl) (by rfl) (by rfl) (by rfl) (by first | exact fun w h => St.row (by repeat (first | exact Sel.here | apply Sel.there)) h | exact fun w h => St.rowF (by repeat (first | exact List.Mem.head _ | apply List.Mem.tail)) h | exact fun w h => Hd.rowF (by repeat (first | exact List.Mem.head _ | apply List.Mem.tail)) h) (by omega) ?_
        | refine XL.iaR2 (by rfl) (by rfl) (by rfl) (by rfl) (by rfl) (by rfl) (by first | exact fun w h => St.row (by repeat (first | exact Sel.here | apply Sel.there)) h | exact fun w h => St.rowF (by repeat (first | exact List.Mem.head _ | apply List.Mem.tail)) h | exact fun w h => Hd.rowF (by repeat (first | exact List.Mem.head _ | apply List.Mem.tail)) h) (by rfl) (by omega) ?_
        | refine XL.faR (by rfl) (by rfl) (by rfl) (by rfl) (by rfl) (by rfl) (by first | exact fun w h => St.row (by repeat (first | exact Sel.here | apply Sel.there)) h | exact fun w h => St.rowF (by repeat (first | exact List.Mem.head _ | apply List.Mem.tail)) h | exact fun w h => Hd.rowF (by repeat (first | exact List.Mem.head _ | apply List.Mem.tail)) h) (by assumption) ?_
        | refine XL.ldR (by rfl) (by rfl) (by rfl) (by rfl) (by rfl) (by rfl) (by first | exact fun w h => St.row (by repeat (first | exact Sel.here | apply Sel.there)) h | exact fun w h => St.rowF (by repeat (first | exact List.Mem.head _ | apply List.Mem.tail)) h | exact fun w h => Hd.rowF (by repeat (first | exact List.Mem.head _ | apply List.Mem.tail)) h) (by assumption) ?_
        | refine XL.lenS (by rfl) (by rfl) (by rfl) (by rfl) (by rfl) (by rfl) (by rfl) ?_
        | refine XL.lenStr (by rfl) (by rfl) (by rfl) (by rfl) (by rfl) (by rfl) (by rfl) ?_
        | refine XL.succ (by rfl) (by rfl) (by rfl) (by rfl) (by rfl) (by rfl) (by omega) ?_
        | refine XL.addn (by rfl) (by rfl) (by rfl) (by rfl) (by rfl) (by rfl) (by omega) ?_
        | refine XL.add (by rfl) (by rfl) (by rfl) (by rfl) (by rfl) (by rfl) (by omega) ?_
        | refine XL.pred (by rfl) (by rfl) (by rfl) (by rfl) (by rfl) (by rfl) (by omega) ?_
        | refine XL.sub (by rfl) (by rfl) (by rfl) (by rfl) (by rfl) (by rfl) (by omega) ?_
        | refine XL.min2 (by rfl) (by rfl) (by rfl) (by rfl) (by rfl) (by rfl) ?_
        | refine XL.max2 (by rfl) (by rfl) (by rfl) (by rfl) (by rfl) (by rfl) ?_
        | refine XL.eqB (by rfl) (by rfl) (by rfl) (by rfl) (by rfl) (by rfl) (by rfl) ?_
        | refine XL.neB (by rfl) (by rfl) (by rfl) (by rfl) (by rfl) (by rfl) (by rfl) ?_
        | refine XL.psome (by rfl) (by rfl) (by rfl) (by rfl) (by rfl) (by rfl) (by rfl) ?_
        | refine XL.pnone (by rfl) (by rfl) (by rfl) (by rfl) (by rfl) (by rfl) (by rfl) ?_
        | refine XL.psome' (by rfl) (by rfl) (by rfl) (by rfl) (by rfl) (by rfl) (by rfl) ?_
        | refine XL.pnone' (by rfl) (by rfl) (by rfl) (by rfl) (by rfl) (by rfl) (by rfl) ?_
        | refine XL.conv64 (by rfl) (by rfl) (by rfl) (by rfl) (by rfl) (by rfl) (by rfl) (by omega) ?_)
    · refine XL.triq (find_is hN4 hfy) (by rfl) (by rfl) (by rfl) (by rfl) (by rfl) (by rfl) (by rfl) (by repeat' (first | exact Sels.nil | exact Sel.here | apply Sels.cons | apply Sel.there)) (by repeat' (first | exact Sels.nil | exact Sel.here | apply Sels.cons | apply Sel.there)) (fun _ h => nomatch h) ?_
      repeat' (first
        | refine XC.seq ?_
          | refine XC.region ?_
          | refine XC.block ?_
          | refine XC.skip ?_
          | refine XC.ret ?_
          | refine XC.exit ?_
          | (refine XC.cond_d (by rfl) (fun h => ?_) (fun h => ?_) <;> try (first | (exfalso; omega) | exact absurd rfl h))
          | refine XC.cond_t (by rfl) ?_
          | refine XC.cond_f (by rfl) ?_
          | refine XQ.next ?_
          | refine XQ.blockN ?_
          | refine XQ.blockR ?_
          | refine XQ.blockE ?_
          | refine XQ.sqR ?_
          | refine XQ.sqE ?_
          | refine XQ.rdR ?_
          | refine XQ.rdE ?_
          | refine XQ.mtR ?_
          | refine XQ.mtE ?_
        | refine XL.nil ?_
          | (refine XL.guard_d (by rfl) (by rfl) (fun h => ?_) (fun h => ?_) <;> try (first | (exfalso; omega) | exact absurd rfl h))
          | refine XL.pures (by rfl) (by rfl) (by rfl) (by rfl) (by rfl) ?_
          | refine XL.not_d (by rfl) (by rfl) (by rfl) (by rfl) (by rfl) ?_
          | refine XL.pure 1 (by rfl) ?_
          | refine XL.fa0 (by rfl) (by rfl) (by rfl) (by rfl) (by rfl) (by rfl) ?_
          | refine XL.ld (by rfl) (by rfl) (by rfl) (by rfl) (by rfl) (by rfl) (by repeat (first | exact Sel.here | apply Sel.there)) (by rfl) ?_
          | refine XL.fa (by rfl) (by rfl) (by rfl) (by rfl) (by rfl) (by rfl) ?_
          | refine XL.ia1 (by rfl) (by rfl) (by rfl) (by rfl) (by rfl) (by rfl) (by rfl) (by omega) ?_
          | refine XL.ldr (by rfl) (by rfl) (by rfl) (by rfl) (by rfl) (by rfl) (by repeat (first | exact Sel.here | apply Sel.there)) (by assumption) ?_
          | refine XL.stl (by rfl) (by rfl) (by rfl) (by rfl) (by rfl) (by rfl) (by rfl) (by repeat (first | exact Sel.here | apply Sel.there)) (by rfl) ?_
          | refine XL.lenR (by rfl) (by rfl) (by rfl) (by rfl) (by rfl) (by rfl) (by rfl) (by first | exact fun w h => St.row (by repeat (first | exact Sel.here | apply Sel.there)) h | exact fun w h => St.rowF (by repeat (first | exact List.Mem.head _ | apply List.Mem.tail)) h | exact fun w h => Hd.rowF (by repeat (first | exact List.Mem.head _ | apply List.Mem.tail)) h) ?_
          | refine XL.iaR1 (by rfl) (by rfl) (by rfl) (by rfl) (by rfl) (by rfl) (by rfl) (by first | exact fun w h => St.row (by repeat (first | exact Sel.here | apply Sel.there)) h | exact fun w h => St.rowF (by repeat (first | exact List.Mem.head _ | apply List.Mem.tail)) h | exact fun w h => Hd.rowF (by repeat (first | exact List.Mem.head _ | apply List.Mem.tail)) h) (by omega) ?_
          | refine XL.iaR2 (by rfl) (by rfl) (by rfl) (by rfl) (by rfl) (by rfl) (by first | exact fun w h => St.row (by repeat (first | exact Sel.here | apply Sel.there)) h | exact fun w h => St.rowF (by repeat (first | exact List.Mem.head _ | apply List.Mem.tail)) h | exact fun w h => Hd.rowF (by repeat (first | exact List.Mem.head _ | apply List.Mem.tail)) h) (by rfl) (by omega) ?_
          | refine XL.faR (by rfl) (by rfl) (by rfl) (by rfl) (by rfl) (by rfl) (by first | exact fun w h => St.row (by repeat (first | exact Sel.here | apply Sel.there)) h | exact fun w h => St.rowF (by repeat (first | exact List.Mem.head _ | apply List.Mem.tail)) h | exact fun w h => Hd.rowF (by repeat (first | exact List.Mem.head _ | apply List.Mem.tail)) h) (by assumption) ?_
          | refine XL.ldR (by rfl) (by rfl) (by rfl) (by rfl) (by rfl) (by rfl) (by first | exact fun w h => St.row (by repeat (first | exact Sel.here | apply Sel.there)) h | exact fun w h => St.rowF (by repeat (first | exact List.Mem.head _ | apply List.Mem.tail)) h | exact fun w h => Hd.rowF (by repeat (first | exact List.Mem.head _ | apply List.Mem.tail)) h) (by assumption) ?_
          | refine XL.lenS (by rfl) (by rfl) (by rfl) (by rfl) (by rfl) (by rfl) (by rfl) ?_
          | refine XL.lenStr (by rfl) (by rfl) (by rfl) (by rfl) (by rfl) (by rfl) (by rfl) ?_
          | refine XL.succ (by rfl) (by rfl) (by rfl) (by rfl) (by rfl) (by rfl) (by omega) ?_
          | refine XL.addn (by rfl) (by rfl) (by rfl) (by rfl) (by rfl) (by rfl) (by omega) ?_
          | refine XL.add (by rfl) (by rfl) (by rfl) (by rfl) (by rfl) (by rfl) (by omega) ?_
          | refine XL.pred (by rfl) (by rfl) (by rfl) (by rfl) (by rfl) (by rfl) (by omega) ?_
          | refine XL.sub (by rfl) (by rfl) (by rfl) (by rfl) (by rfl) (by rfl) (by omega) ?_
          | refine XL.min2 (by rfl) (by rfl) (by rfl) (by rfl) (by rfl) (by rfl) ?_
          | refine XL.max2 (by rfl) (by rfl) (by rfl) (by rfl) (by rfl) (by rfl) ?_
          | refine XL.eqB (by rfl) (by rfl) (by rfl) (by rfl) (by rfl) (by rfl) (by rfl) ?_
          | refine XL.neB (by rfl) (by rfl) (by rfl) (by rfl) (by rfl) (by rfl) (by rfl) ?_
          | refine XL.psome (by rfl) (by rfl) (by rfl) (by rfl) (by rfl) (by rfl) (by rfl) ?_
          | refine XL.pnone (by rfl) (by rfl) (by rfl) (by rfl) (by rfl) (by rfl) (by rfl) ?_
          | refine XL.psome' (by rfl) (by rfl) (by rfl) (by rfl) (by rfl) (by rfl) (by rfl) ?_
          | refine XL.pnone' (by rfl) (by rfl) (by rfl) (by rfl) (by rfl) (by rfl) (by rfl) ?_
          | refine XL.conv64 (by rfl) (by rfl) (by rfl) (by rfl) (by rfl) (by rfl) (by rfl) (by omega) ?_)
      refine XL.triq (refFind_x hN4 hG hfy) (by rfl) (by rfl) (by rfl) (by rfl) (by rfl) (by rfl) (by rfl) (by repeat' (first | exact Sels.nil | exact Sel.here | apply Sels.cons | apply Sel.there)) (by repeat' (first | exact Sels.nil | exact Sel.here | apply Sels.cons | apply Sel.there)) (fun _ h => nomatch h) ?_
      repeat' (first
        | refine XC.seq ?_
          | refine XC.region ?_
          | refine XC.block ?_
          | refine XC.skip ?_
          | refine XC.ret ?_
          | refine XC.exit ?_
          | (refine XC.cond_d (by rfl) (fun h => ?_) (fun h => ?_) <;> try (first | (exfalso; omega) | exact absurd rfl h))
          | refine XC.cond_t (by rfl) ?_
          | refine XC.cond_f (by rfl) ?_
          | refine XQ.next ?_
          | refine XQ.blockN ?_
          | refine XQ.blockR ?_
          | refine XQ.blockE ?_
          | refine XQ.sqR ?_
          | refine XQ.sqE ?_
          | refine XQ.rdR ?_
          | refine XQ.rdE ?_
          | refine XQ.mtR ?_
          | refine XQ.mtE ?_
        | refine XL.nil ?_
          | (refine XL.guard_d (by rfl) (by rfl) (fun h => ?_) (fun h => ?_) <;> try (first | (exfalso; omega) | exact absurd rfl h))
          | refine XL.pures (by rfl) (by rfl) (by rfl) (by rfl) (by rfl) ?_
          | refine XL.not_d (by rfl) (by rfl) (by rfl) (by rfl) (by rfl) ?_
          | refine XL.pure 1 (by rfl) ?_
          | refine XL.fa0 (by rfl) (by rfl) (by rfl) (by rfl) (by rfl) (by rfl) ?_
          | refine XL.ld (by rfl) (by rfl) (by rfl) (by rfl) (by rfl) (by rfl) (by repeat (first | exact Sel.here | apply Sel.there)) (by rfl) ?_
          | refine XL.fa (by rfl) (by rfl) (by rfl) (by rfl) (by rfl) (by rfl) ?_
          | refine XL.ia1 (by rfl) (by rfl) (by rfl) (by rfl) (by rfl) (by rfl) (by rfl) (by omega) ?_
          | refine XL.ldr (by rfl) (by rfl) (by rfl) (by rfl) (by rfl) (by rfl) (by repeat (first | exact Sel.here | apply Sel.there)) (by assumption) ?_
          | refine XL.stl (by rfl) (by rfl) (by rfl) (by rfl) (by rfl) (by rfl) (by rfl) (by repeat (first | exact Sel.here | apply Sel.there)) (by rfl) ?_
          | refine XL.lenR (by rfl) (by rfl) (by rfl) (by rfl) (by rfl) (by rfl) (by rfl) (by first | exact fun w h => St.row (by repeat (first | exact Sel.here | apply Sel.there)) h | exact fun w h => St.rowF (by repeat (first | exact List.Mem.head _ | apply List.Mem.tail)) h | exact fun w h => Hd.rowF (by repeat (first | exact List.Mem.head _ | apply List.Mem.tail)) h) ?_
          | refine XL.iaR1 (by rfl) (by rfl) (by rfl) (by rfl) (by rfl) (by rfl) (by rfl) (by first | exact fun w h => St.row (by repeat (first | exact Sel.here | apply Sel.there)) h | exact fun w h => St.rowF (by repeat (first | exact List.Mem.head _ | apply List.Mem.tail)) h | exact fun w h => Hd.rowF (by repeat (first | exact List.Mem.head _ | apply List.Mem.tail)) h) (by omega) ?_
          | refine XL.iaR2 (by rfl) (by rfl) (by rfl) (by rfl) (by rfl) (by rfl) (by first | exact fun w h => St.row (by repeat (first | exact Sel.here | apply Sel.there)) h | exact fun w h => St.rowF (by repeat (first | exact List.Mem.head _ | apply List.Mem.tail)) h | exact fun w h => Hd.rowF (by repeat (first | exact List.Mem.head _ | apply List.Mem.tail)) h) (by rfl) (by omega) ?_
          | refine XL.faR (by rfl) (by rfl) (by rfl) (by rfl) (by rfl) (by rfl) (by first | exact fun w h => St.row (by repeat (first | exact Sel.here | apply Sel.there)) h | exact fun w h => St.rowF (by repeat (first | exact List.Mem.head _ | apply List.Mem.tail)) h | exact fun w h => Hd.rowF (by repeat (first | exact List.Mem.head _ | apply List.Mem.tail)) h) (by assumption) ?_
          | refine XL.ldR (by rfl) (by rfl) (by rfl) (by rfl) (by rfl) (by rfl) (by first | exact fun w h => St.row (by repeat (first | exact Sel.here | apply Sel.there)) h | exact fun w h => St.rowF (by repeat (first | exact List.Mem.head _ | apply List.Mem.tail)) h | exact fun w h => Hd.rowF (by repeat (first | exact List.Mem.head _ | apply List.Mem.tail)) h) (by assumption) ?_
          | refine XL.lenS (by rfl) (by rfl) (by rfl) (by rfl) (by rfl) (by rfl) (by rfl) ?_
          | refine XL.lenStr (by rfl) (by rfl) (by rfl) (by rfl) (by rfl) (by rfl) (by rfl) ?_
          | refine XL.succ (by rfl) (by rfl) (by rfl) (by rfl) (by rfl) (by rfl) (by omega) ?_
          | refine XL.addn (by rfl) (by rfl) (by rfl) (by rfl) (by rfl) (by rfl) (by omega) ?_
          | refine XL.add (by rfl) (by rfl) (by rfl) (by rfl) (by rfl) (by rfl) (by omega) ?_
          | refine XL.pred (by rfl) (by rfl) (by rfl) (by rfl) (by rfl) (by rfl) (by omega) ?_
          | refine XL.sub (by rfl) (by rfl) (by rfl) (by rfl) (by rfl) (by rfl) (by omega) ?_
          | refine XL.min2 (by rfl) (by rfl) (by rfl) (by rfl) (by rfl) (by rfl) ?_
          | refine XL.max2 (by rfl) (by rfl) (by rfl) (by rfl) (by rfl) (by rfl) ?_
          | refine XL.eqB (by rfl) (by rfl) (by rfl) (by rfl) (by rfl) (by rfl) (by rfl) ?_
          | refine XL.neB (by rfl) (by rfl) (by rfl) (by rfl) (by rfl) (by rfl) (by rfl) ?_
          | refine XL.psome (by rfl) (by rfl) (by rfl) (by rfl) (by rfl) (by rfl) (by rfl) ?_
          | refine XL.pnone (by rfl) (by rfl) (by rfl) (by rfl) (by rfl) (by rfl) (by rfl) ?_
          | refine XL.psome' (by rfl) (by rfl) (by rfl) (by rfl) (by rfl) (by rfl) (by rfl) ?_
          | refine XL.pnone' (by rfl) (by rfl) (by rfl) (by rfl) (by rfl) (by rfl) (by rfl) ?_
          | refine XL.conv64 (by rfl) (by rfl) (by rfl) (by rfl) (by rfl) (by rfl) (by rfl) (by omega) ?_)
      exact XQ.round (y + 1) (by repeat (first | exact fits_nil | refine fits_cons (by rfl) ?_)) (fun w hw => ⟨by omega, hw⟩) (by omega)
    · exact XQ.meet () (by repeat (first | exact fits_nil | refine fits_cons (by rfl) ?_)) (fun w h => h)
  rintro -
  repeat' (first
    | refine XC.seq ?_
      | refine XC.region ?_
      | refine XC.block ?_
      | refine XC.skip ?_
      | refine XC.ret ?_
      | refine XC.exit ?_
      | (refine XC.cond_d (by rfl) (fun h => ?_) (fun h => ?_) <;> try (first | (exfalso; omega) | exact absurd rfl h))
      | refine XC.cond_t (by rfl) ?_
      | refine XC.cond_f (by rfl) ?_
      | refine XQ.next ?_
      | refine XQ.blockN ?_
      | refine XQ.blockR ?_
      | refine XQ.blockE ?_
      | refine XQ.sqR ?_
      | refine XQ.sqE ?_
      | refine XQ.rdR ?_
      | refine XQ.rdE ?_
      | refine XQ.mtR ?_
      | refine XQ.mtE ?_
    | refine XL.nil ?_
      | (refine XL.guard_d (by rfl) (by rfl) (fun h => ?_) (fun h => ?_) <;> try (first | (exfalso; omega) | exact absurd rfl h))
      | refine XL.pures (by rfl) (by rfl) (by rfl) (by rfl) (by rfl) ?_
      | refine XL.not_d (by rfl) (by rfl) (by rfl) (by rfl) (by rfl) ?_
      | refine XL.pure 1 (by rfl) ?_
      | refine XL.fa0 (by rfl) (by rfl) (by rfl) (by rfl) (by rfl) (by rfl) ?_
      | refine XL.ld (by rfl) (by rfl) (by rfl) (by rfl) (by rfl) (by rfl) (by repeat (first | exact Sel.here | apply Sel.there)) (by rfl) ?_
      | refine XL.fa (by rfl) (by rfl) (by rfl) (by rfl) (by rfl) (by rfl) ?_
      | refine XL.ia1 (by rfl) (by rfl) (by rfl) (by rfl) (by rfl) (by rfl) (by rfl) (by omega) ?_
      | refine XL.ldr (by rfl) (by rfl) (by rfl) (by rfl) (by rfl) (by rfl) (by repeat (first | exact Sel.here | apply Sel.there)) (by assumption) ?_
      | refine XL.stl (by rfl) (by rfl) (by rfl) (by rfl) (by rfl) (by rfl) (by rfl) (by repeat (first | exact Sel.here | apply Sel.there)) (by rfl) ?_
      | refine XL.lenR (by rfl) (by rfl) (by rfl) (by rfl) (by rfl) (by rfl) (by rfl) (by first | exact fun w h => St.row (by repeat (first | exact Sel.here | apply Sel.there)) h | exact fun w h => St.rowF (by repeat (first | exact List.Mem.head _ | apply List.Mem.tail)) h | exact fun w h => Hd.rowF (by repeat (first | exact List.Mem.head _ | apply List.Mem.tail)) h) ?_
      | refine XL.iaR1 (by rfl) (by rfl) (by rfl) (by rfl) (by rfl) (by rfl) (by rfl) (by first | exact fun w h => St.row (by repeat (first | exact Sel.here | apply Sel.there)) h | exact fun w h => St.rowF (by repeat (first | exact List.Mem.head _ | apply List.Mem.tail)) h | exact fun w h => Hd.rowF (by repeat (first | exact List.Mem.head _ | apply List.Mem.tail)) h) (by omega) ?_
      | refine XL.iaR2 (by rfl) (by rfl) (by rfl) (by rfl) (by rfl) (by rfl) (by first | exact fun w h => St.row (by repeat (first | exact Sel.here | apply Sel.there)) h | exact fun w h => St.rowF (by repeat (first | exact List.Mem.head _ | apply List.Mem.tail)) h | exact fun w h => Hd.rowF (by repeat (first | exact List.Mem.head _ | apply List.Mem.tail)) h) (by rfl) (by omega) ?_
      | refine XL.faR (by rfl) (by rfl) (by rfl) (by rfl) (by rfl) (by rfl) (by first | exact fun w h => St.row (by repeat (first | exact Sel.here | apply Sel.there)) h | exact fun w h => St.rowF (by repeat (first | exact List.Mem.head _ | apply List.Mem.tail)) h | exact fun w h => Hd.rowF (by repeat (first | exact List.Mem.head _ | apply List.Mem.tail)) h) (by assumption) ?_
      | refine XL.ldR (by rfl) (by rfl) (by rfl) (by rfl) (by rfl) (by rfl) (by first | exact fun w h => St.row (by repeat (first | exact Sel.here | apply Sel.there)) h | exact fun w h => St.rowF (by repeat (first | exact List.Mem.head _ | apply List.Mem.tail)) h | exact fun w h => Hd.rowF (by repeat (first | exact List.Mem.head _ | apply List.Mem.tail)) h) (by assumption) ?_
      | refine XL.lenS (by rfl) (by rfl) (by rfl) (by rfl) (by rfl) (by rfl) (by rfl) ?_
      | refine XL.lenStr (by rfl) (by rfl) (by rfl) (by rfl) (by rfl) (by rfl) (by rfl) ?_
      | refine XL.succ (by rfl) (by rfl) (by rfl) (by rfl) (by rfl) (by rfl) (by omega) ?_
      | refine XL.addn (by rfl) (by rfl) (by rfl) (by rfl) (by rfl) (by rfl) (by omega) ?_
      | refine XL.add (by rfl) (by rfl) (by rfl) (by rfl) (by rfl) (by rfl) (by omega) ?_
      | refine XL.pred (by rfl) (by rfl) (by rfl) (by rfl) (by rfl) (by rfl) (by omega) ?_
      | refine XL.sub (by rfl) (by rfl) (by rfl) (by rfl) (by rfl) (by rfl) (by omega) ?_
      | refine XL.min2 (by rfl) (by rfl) (by rfl) (by rfl) (by rfl) (by rfl) ?_
      | refine XL.max2 (by rfl) (by rfl) (by rfl) (by rfl) (by rfl) (by rfl) ?_
      | refine XL.eqB (by rfl) (by rfl) (by rfl) (by rfl) (by rfl) (by rfl) (by rfl) ?_
      | refine XL.neB (by rfl) (by rfl) (by rfl) (by rfl) (by rfl) (by rfl) (by rfl) ?_
      | refine XL.psome (by rfl) (by rfl) (by rfl) (by rfl) (by rfl) (by rfl) (by rfl) ?_
      | refine XL.pnone (by rfl) (by rfl) (by rfl) (by rfl) (by rfl) (by rfl) (by rfl) ?_
      | refine XL.psome' (by rfl) (by rfl) (by rfl) (by rfl) (by rfl) (by rfl) (by rfl) ?_
      | refine XL.pnone' (by rfl) (by rfl) (by rfl) (by rfl) (by rfl) (by rfl) (by rfl) ?_
      | refine XL.conv64 (by rfl) (by rfl) (by rfl) (by rfl) (by rfl) (by rfl) (by rfl) (by omega) ?_)
  refine XL.triq (lenG_tri) (by rfl) (by rfl) (by rfl) (by rfl) (by rfl) (by rfl) (by rfl) (by repeat' (first | exact Sels.nil | exact Sel.here | apply Sels.cons | apply Sel.there)) (by repeat' (first | exact Sels.nil | exact Sel.here | apply Sels.cons | apply Sel.there)) (fun _ h => nomatch h) ?_
  repeat' (first
    | refine XC.seq ?_
      | refine XC.region ?_
      | refine XC.block ?_
      | refine XC.skip ?_
      | refine XC.ret ?_
      | refine XC.exit ?_
      | (refine XC.cond_d (by rfl) (fun h => ?_) (fun h => ?_) <;> try (first | (exfalso; omega) | exact absurd rfl h))
      | refine XC.cond_t (by rfl) ?_
      | refine XC.cond_f (by rfl) ?_
      | refine XQ.next ?_
      | refine XQ.blockN ?_
      | refine XQ.blockR ?_
      | refine XQ.blockE ?_
      | refine XQ.sqR ?_
      | refine XQ.sqE ?_
      | refine XQ.rdR ?_
      | refine XQ.rdE ?_
      | refine XQ.mtR ?_
      | refine XQ.mtE ?_
    | refine XL.nil ?_
      | (refine XL.guard_d (by rfl) (by rfl) (fun h => ?_) (fun h => ?_) <;> try (first | (exfalso; omega) | exact absurd rfl h))
      | refine XL.pures (by rfl) (by rfl) (by rfl) (by rfl) (by rfl) ?_
      | refine XL.not_d (by rfl) (by rfl) (by rfl) (by rfl) (by rfl) ?_
      | refine XL.pure 1 (by rfl) ?_
      | refine XL.fa0 (by rfl) (by rfl) (by rfl) (by rfl) (by rfl) (by rfl) ?_
      | refine XL.ld (by rfl) (by rfl) (by rfl) (by rfl) (by rfl) (by rfl) (by repeat (first | exact Sel.here | apply Sel.there)) (by rfl) ?_
      | refine XL.fa (by rfl) (by rfl) (by rfl) (by rfl) (by rfl) (by rfl) ?_
      | refine XL.ia1 (by rfl) (by rfl) (by rfl) (by rfl) (by rfl) (by rfl) (by rfl) (by omega) ?_
      | refine XL.ldr (by rfl) (by rfl) (by rfl) (by rfl) (by rfl) (by rfl) (by repeat (first | exact Sel.here | apply Sel.there)) (by assumption) ?_
      | refine XL.stl (by rfl) (by rfl) (by rfl) (by rfl) (by rfl) (by rfl) (by rfl) (by repeat (first | exact Sel.here | apply Sel.there)) (by rfl) ?_
      | refine XL.lenR (by rfl) (by rfl) (by rfl) (by rfl) (by rfl) (by rfl) (by rfl) (by first | exact fun w h => St.row (by repeat (first | exact Sel.here | apply Sel.there)) h | exact fun w h => St.rowF (by repeat (first | exact List.Mem.head _ | apply List.Mem.tail)) h | exact fun w h => Hd.rowF (by repeat (first | exact List.Mem.head _ | apply List.Mem.tail)) h) ?_
      | refine XL.iaR1 (by rfl) (by rfl) (by rfl) (by rfl) (by rfl) (by rfl) (by rfl) (by first | exact fun w h => St.row (by repeat (first | exact Sel.here | apply Sel.there)) h | exact fun w h => St.rowF (by repeat (first | exact List.Mem.head _ | apply List.Mem.tail)) h | exact fun w h => Hd.rowF (by repeat (first | exact List.Mem.head _ | apply List.Mem.tail)) h) (by omega) ?_
      | refine XL.iaR2 (by rfl) (by rfl) (by rfl) (by rfl) (by rfl) (by rfl) (by first | exact fun w h => St.row (by repeat (first | exact Sel.here | apply Sel.there)) h | exact fun w h => St.rowF (by repeat (first | exact List.Mem.head _ | apply List.Mem.tail)) h | exact fun w h => Hd.rowF (by repeat (first | exact List.Mem.head _ | apply List.Mem.tail)) h) (by rfl) (by omega) ?_
      | refine XL.faR (by rfl) (by rfl) (by rfl) (by rfl) (by rfl) (by rfl) (by first | exact fun w h => St.row (by repeat (first | exact Sel.here | apply Sel.there)) h | exact fun w h => St.rowF (by repeat (first | exact List.Mem.head _ | apply List.Mem.tail)) h | exact fun w h => Hd.rowF (by repeat (first | exact List.Mem.head _ | apply List.Mem.tail)) h) (by assumption) ?_
      | refine XL.ldR (by rfl) (by rfl) (by rfl) (by rfl) (by rfl) (by rfl) (by first | exact fun w h => St.row (by repeat (first | exact Sel.here | apply Sel.there)) h | exact fun w h => St.rowF (by repeat (first | exact List.Mem.head _ | apply List.Mem.tail)) h | exact fun w h => Hd.rowF (by repeat (first | exact List.Mem.head _ | apply List.Mem.tail)) h) (by assumption) ?_
      | refine XL.lenS (by rfl) (by rfl) (by rfl) (by rfl) (by rfl) (by rfl) (by rfl) ?_
      | refine XL.lenStr (by rfl) (by rfl) (by rfl) (by rfl) (by rfl) (by rfl) (by rfl) ?_
      | refine XL.succ (by rfl) (by rfl) (by rfl) (by rfl) (by rfl) (by rfl) (by omega) ?_
      | refine XL.addn (by rfl) (by rfl) (by rfl) (by rfl) (by rfl) (by rfl) (by omega) ?_
      | refine XL.add (by rfl) (by rfl) (by rfl) (by rfl) (by rfl) (by rfl) (by omega) ?_
      | refine XL.pred (by rfl) (by rfl) (by rfl) (by rfl) (by rfl) (by rfl) (by omega) ?_
      | refine XL.sub (by rfl) (by rfl) (by rfl) (by rfl) (by rfl) (by rfl) (by omega) ?_
      | refine XL.min2 (by rfl) (by rfl) (by rfl) (by rfl) (by rfl) (by rfl) ?_
      | refine XL.max2 (by rfl) (by rfl) (by rfl) (by rfl) (by rfl) (by rfl) ?_
      | refine XL.eqB (by rfl) (by rfl) (by rfl) (by rfl) (by rfl) (by rfl) (by rfl) ?_
      | refine XL.neB (by rfl) (by rfl) (by rfl) (by rfl) (by rfl) (by rfl) (by rfl) ?_
      | refine XL.psome (by rfl) (by rfl) (by rfl) (by rfl) (by rfl) (by rfl) (by rfl) ?_
      | refine XL.pnone (by rfl) (by rfl) (by rfl) (by rfl) (by rfl) (by rfl) (by rfl) ?_
      | refine XL.psome' (by rfl) (by rfl) (by rfl) (by rfl) (by rfl) (by rfl) (by rfl) ?_
      | refine XL.pnone' (by rfl) (by rfl) (by rfl) (by rfl) (by rfl) (by rfl) (by rfl) ?_
      | refine XL.conv64 (by rfl) (by rfl) (by rfl) (by rfl) (by rfl) (by rfl) (by rfl) (by omega) ?_)
  obtain ⟨cn, hcn⟩ : ∃ cn : Nat, (List.range N).countP (fun i => G.getD i 0 == i) = cn := ⟨_, rfl⟩
  refine XL.triq (count_is hN4 hcn) (by rfl) (by rfl) (by rfl) (by rfl) (by rfl) (by rfl) (by rfl) (by repeat' (first | exact Sels.nil | exact Sel.here | apply Sels.cons | apply Sel.there)) (by repeat' (first | exact Sels.nil | exact Sel.here | apply Sels.cons | apply Sel.there)) (fun _ h => nomatch h) ?_
  repeat' (first
    | refine XC.seq ?_
      | refine XC.region ?_
      | refine XC.block ?_
      | refine XC.skip ?_
      | refine XC.ret ?_
      | refine XC.exit ?_
      | (refine XC.cond_d (by rfl) (fun h => ?_) (fun h => ?_) <;> try (first | (exfalso; omega) | exact absurd rfl h))
      | refine XC.cond_t (by rfl) ?_
      | refine XC.cond_f (by rfl) ?_
      | refine XQ.next ?_
      | refine XQ.blockN ?_
      | refine XQ.blockR ?_
      | refine XQ.blockE ?_
      | refine XQ.sqR ?_
      | refine XQ.sqE ?_
      | refine XQ.rdR ?_
      | refine XQ.rdE ?_
      | refine XQ.mtR ?_
      | refine XQ.mtE ?_
    | refine XL.nil ?_
      | (refine XL.guard_d (by rfl) (by rfl) (fun h => ?_) (fun h => ?_) <;> try (first | (exfalso; omega) | exact absurd rfl h))
      | refine XL.pures (by rfl) (by rfl) (by rfl) (by rfl) (by rfl) ?_
      | refine XL.not_d (by rfl) (by rfl) (by rfl) (by rfl) (by rfl) ?_
      | refine XL.pure 1 (by rfl) ?_
      | refine XL.fa0 (by rfl) (by rfl) (by rfl) (by rfl) (by rfl) (by rfl) ?_
      | refine XL.ld (by rfl) (by rfl) (by rfl) (by rfl) (by rfl) (by rfl) (by repeat (first | exact Sel.here | apply Sel.there)) (by rfl) ?_
      | refine XL.fa (by rfl) (by rfl) (by rfl) (by rfl) (by rfl) (by rfl) ?_
      | refine XL.ia1 (by rfl) (by rfl) (by rfl) (by rfl) (by rfl) (by rfl) (by rfl) (by omega) ?_
      | refine XL.ldr (by rfl) (by rfl) (by rfl) (by rfl) (by rfl) (by rfl) (by repeat (first | exact Sel.here | apply Sel.there)) (by assumption) ?_
      | refine XL.stl (by rfl) (by rfl) (by rfl) (by rfl) (by rfl) (by rfl) (by rfl) (by repeat (first | exact Sel.here | apply Sel.there)) (by rfl) ?_
      | refine XL.lenR (by rfl) (by rfl) (by rfl) (by rfl) (by rfl) (by rfl) (by rfl) (by first | exact fun w h => St.row (by repeat (first | exact Sel.here | apply Sel.there)) h | exact fun w h => St.rowF (by repeat (first | exact List.Mem.head _ | apply List.Mem.tail)) h | exact fun w h => Hd.rowF (by repeat (first | exact List.Mem.head _ | apply List.Mem.tail)) h) ?_
      | refine XL.iaR1 (by rfl) (by rfl) (by rfl) (by rfl) (by rfl) (by rfl) (by rfl) (by first | exact fun w h => St.row (by repeat (first | exact Sel.here | apply Sel.there)) h | exact fun w h => St.rowF (by repeat (first | exact List.Mem.head _ | apply List.Mem.tail)) h | exact fun w h => Hd.rowF (by repeat (first | exact List.Mem.head _ | apply List.Mem.tail)) h) (by omega) ?_
      | refine XL.iaR2 (by rfl) (by rfl) (by rfl) (by rfl) (by rfl) (by rfl) (by first | exact fun w h => St.row (by repeat (first | exact Sel.here | apply Sel.there)) h | exact fun w h => St.rowF (by repeat (first | exact List.Mem.head _ | apply List.Mem.tail)) h | exact fun w h => Hd.rowF (by repeat (first | exact List.Mem.head _ | apply List.Mem.tail)) h) (by rfl) (by omega) ?_
      | refine XL.faR (by rfl) (by rfl) (by rfl) (by rfl) (by rfl) (by rfl) (by first | exact fun w h => St.row (by repeat (first | exact Sel.here | apply Sel.there)) h | exact fun w h => St.rowF (by repeat (first | exact List.Mem.head _ | apply List.Mem.tail)) h | exact fun w h => Hd.rowF (by repeat (first | exact List.Mem.head _ | apply List.Mem.tail)) h) (by assumption) ?_
      | refine XL.ldR (by rfl) (by rfl) (by rfl) (by rfl) (by rfl) (by rfl) (by first | exact fun w h => St.row (by repeat (first | exact Sel.here | apply Sel.there)) h | exact fun w h => St.rowF (by repeat (first | exact List.Mem.head _ | apply List.Mem.tail)) h | exact fun w h => Hd.rowF (by repeat (first | exact List.Mem.head _ | apply List.Mem.tail)) h) (by assumption) ?_
      | refine XL.lenS (by rfl) (by rfl) (by rfl) (by rfl) (by rfl) (by rfl) (by rfl) ?_
      | refine XL.lenStr (by rfl) (by rfl) (by rfl) (by rfl) (by rfl) (by rfl) (by rfl) ?_
      | refine XL.succ (by rfl) (by rfl) (by rfl) (by rfl) (by rfl) (by rfl) (by omega) ?_
      | refine XL.addn (by rfl) (by rfl) (by rfl) (by rfl) (by rfl) (by rfl) (by omega) ?_
      | refine XL.add (by rfl) (by rfl) (by rfl) (by rfl) (by rfl) (by rfl) (by omega) ?_
      | refine XL.pred (by rfl) (by rfl) (by rfl) (by rfl) (by rfl) (by rfl) (by omega) ?_
      | refine XL.sub (by rfl) (by rfl) (by rfl) (by rfl) (by rfl) (by rfl) (by omega) ?_
      | refine XL.min2 (by rfl) (by rfl) (by rfl) (by rfl) (by rfl) (by rfl) ?_
      | refine XL.max2 (by rfl) (by rfl) (by rfl) (by rfl) (by rfl) (by rfl) ?_
      | refine XL.eqB (by rfl) (by rfl) (by rfl) (by rfl) (by rfl) (by rfl) (by rfl) ?_
      | refine XL.neB (by rfl) (by rfl) (by rfl) (by rfl) (by rfl) (by rfl) (by rfl) ?_
      | refine XL.psome (by rfl) (by rfl) (by rfl) (by rfl) (by rfl) (by rfl) (by rfl) ?_
      | refine XL.pnone (by rfl) (by rfl) (by rfl) (by rfl) (by rfl) (by rfl) (by rfl) ?_
      | refine XL.psome' (by rfl) (by rfl) (by rfl) (by rfl) (by rfl) (by rfl) (by rfl) ?_
      | refine XL.pnone' (by rfl) (by rfl) (by rfl) (by rfl) (by rfl) (by rfl) (by rfl) ?_
      | refine XL.conv64 (by rfl) (by rfl) (by rfl) (by rfl) (by rfl) (by rfl) (by rfl) (by omega) ?_)
  refine XL.triq (refCount_x hN4 hG hcn) (by rfl) (by rfl) (by rfl) (by rfl) (by rfl) (by rfl) (by rfl) (by repeat' (first | exact Sels.nil | exact Sel.here | apply Sels.cons | apply Sel.there)) (by repeat' (first | exact Sels.nil | exact Sel.here | apply Sels.cons | apply Sel.there)) (fun _ h => nomatch h) ?_
  repeat' (first
    | refine XC.seq ?_
      | refine XC.region ?_
      | refine XC.block ?_
      | refine XC.skip ?_
      | refine XC.ret ?_
      | refine XC.exit ?_
      | (refine XC.cond_d (by rfl) (fun h => ?_) (fun h => ?_) <;> try (first | (exfalso; omega) | exact absurd rfl h))
      | refine XC.cond_t (by rfl) ?_
      | refine XC.cond_f (by rfl) ?_
      | refine XQ.next ?_
      | refine XQ.blockN ?_
      | refine XQ.blockR ?_
      | refine XQ.blockE ?_
      | refine XQ.sqR ?_
      | refine XQ.sqE ?_
      | refine XQ.rdR ?_
      | refine XQ.rdE ?_
      | refine XQ.mtR ?_
      | refine XQ.mtE ?_
    | refine XL.nil ?_
      | (refine XL.guard_d (by rfl) (by rfl) (fun h => ?_) (fun h => ?_) <;> try (first | (exfalso; omega) | exact absurd rfl h))
      | refine XL.pures (by rfl) (by rfl) (by rfl) (by rfl) (by rfl) ?_
      | refine XL.not_d (by rfl) (by rfl) (by rfl) (by rfl) (by rfl) ?_
      | refine XL.pure 1 (by rfl) ?_
      | refine XL.fa0 (by rfl) (by rfl) (by rfl) (by rfl) (by rfl) (by rfl) ?_
      | refine XL.ld (by rfl) (by rfl) (by rfl) (by rfl) (by rfl) (by rfl) (by repeat (first | exact Sel.here | apply Sel.there)) (by rfl) ?_
      | refine XL.fa (by rfl) (by rfl) (by rfl) (by rfl) (by rfl) (by rfl) ?_
      | refine XL.ia1 (by rfl) (by rfl) (by rfl) (by rfl) (by rfl) (by rfl) (by rfl) (by omega) ?_
      | refine XL.ldr (by rfl) (by rfl) (by rfl) (by rfl) (by rfl) (by rfl) (by repeat (first | exact Sel.here | apply Sel.there)) (by assumption) ?_
      | refine XL.stl (by rfl) (by rfl) (by rfl) (by rfl) (by rfl) (by rfl) (by rfl) (by repeat (first | exact Sel.here | apply Sel.there)) (by rfl) ?_
      | refine XL.lenR (by rfl) (by rfl) (by rfl) (by rfl) (by rfl) (by rfl) (by rfl) (by first | exact fun w h => St.row (by repeat (first | exact Sel.here | apply Sel.there)) h | exact fun w h => St.rowF (by repeat (first | exact List.Mem.head _ | apply List.Mem.tail)) h | exact fun w h => Hd.rowF (by repeat (first | exact List.Mem.head _ | apply List.Mem.tail)) h) ?_
      | refine XL.iaR1 (by rfl) (by rfl) (by rfl) (by rfl) (by rfl) (by rfl) (by rfl) (by first | exact fun w h => St.row (by repeat (first | exact Sel.here | apply Sel.there)) h | exact fun w h => St.rowF (by repeat (first | exact List.Mem.head _ | apply List.Mem.tail)) h | exact fun w h => Hd.rowF (by repeat (first | exact List.Mem.head _ | apply List.Mem.tail)) h) (by omega) ?_
      | refine XL.iaR2 (by rfl) (by rfl) (by rfl) (by rfl) (by rfl) (by rfl) (by first | exact fun w h => St.row (by repeat (first | exact Sel.here | apply Sel.there)) h | exact fun w h => St.rowF (by repeat (first | exact List.Mem.head _ | apply List.Mem.tail)) h | exact fun w h => Hd.rowF (by repeat (first | exact List.Mem.head _ | apply List.Mem.tail)) h) (by rfl) (by omega) ?_
      | refine XL.faR (by rfl) (by rfl) (by rfl) (by rfl) (by rfl) (by rfl) (by first | exact fun w h => St.row (by repeat (first | exact Sel.here | apply Sel.there)) h | exact fun w h => St.rowF (by repeat (first | exact List.Mem.head _ | apply List.Mem.tail)) h | exact fun w h => Hd.rowF (by repeat (first | exact List.Mem.head _ | apply List.Mem.tail)) h) (by assumption) ?_
      | refine XL.ldR (by rfl) (by rfl) (by rfl) (by rfl) (by rfl) (by rfl) (by first | exact fun w h => St.row (by repeat (first | exact Sel.here | apply Sel.there)) h | exact fun w h => St.rowF (by repeat (first | exact List.Mem.head _ | apply List.Mem.tail)) h | exact fun w h => Hd.rowF (by repeat (first | exact List.Mem.head _ | apply List.Mem.tail)) h) (by assumption) ?_
      | refine XL.lenS (by rfl) (by rfl) (by rfl) (by rfl) (by rfl) (by rfl) (by rfl) ?_
      | refine XL.lenStr (by rfl) (by rfl) (by rfl) (by rfl) (by rfl) (by rfl) (by rfl) ?_
      | refine XL.succ (by rfl) (by rfl) (by rfl) (by rfl) (by rfl) (by rfl) (by omega) ?_
      | refine XL.addn (by rfl) (by rfl) (by rfl) (by rfl) (by rfl) (by rfl) (by omega) ?_
      | refine XL.add (by rfl) (by rfl) (by rfl) (by rfl) (by rfl) (by rfl) (by omega) ?_
      | refine XL.pred (by rfl) (by rfl) (by rfl) (by rfl) (by rfl) (by rfl) (by omega) ?_
      | refine XL.sub (by rfl) (by rfl) (by rfl) (by rfl) (by rfl) (by rfl) (by omega) ?_
      | refine XL.min2 (by rfl) (by rfl) (by rfl) (by rfl) (by rfl) (by rfl) ?_
      | refine XL.max2 (by rfl) (by rfl) (by rfl) (by rfl) (by rfl) (by rfl) ?_
      | refine XL.eqB (by rfl) (by rfl) (by rfl) (by rfl) (by rfl) (by rfl) (by rfl) ?_
      | refine XL.neB (by rfl) (by rfl) (by rfl) (by rfl) (by rfl) (by rfl) (by rfl) ?_
      | refine XL.psome (by rfl) (by rfl) (by rfl) (by rfl) (by rfl) (by rfl) (by rfl) ?_
      | refine XL.pnone (by rfl) (by rfl) (by rfl) (by rfl) (by rfl) (by rfl) (by rfl) ?_
      | refine XL.psome' (by rfl) (by rfl) (by rfl) (by rfl) (by rfl) (by rfl) (by rfl) ?_
      | refine XL.pnone' (by rfl) (by rfl) (by rfl) (by rfl) (by rfl) (by rfl) (by rfl) ?_
      | refine XL.conv64 (by rfl) (by rfl) (by rfl) (by rfl) (by rfl) (by rfl) (by rfl) (by omega) ?_)
  obtain ⟨sk, hsk⟩ : ∃ sk : Nat, (if 0 ≤ i ∧ i < N then G.count (G.getD i.toNat 0) else 0) = sk := ⟨_, rfl⟩
  refine XL.triq (size_is hN4 hsk) (by rfl) (by rfl) (by rfl) (by rfl) (by rfl) (by rfl) (by rfl) (by repeat' (first | exact Sels.nil | exact Sel.here | apply Sels.cons | apply Sel.there)) (by repeat' (first | exact Sels.nil | exact Sel.here | apply Sels.cons | apply Sel.there)) (fun _ h => nomatch h) ?_
  repeat' (first
    | refine XC.seq ?_
      | refine XC.region ?_
      | refine XC.block ?_
      | refine XC.skip ?_
      | refine XC.ret ?_
      | refine XC.exit ?_
      | (refine XC.cond_d (by rfl) (fun h => ?_) (fun h => ?_) <;> try (first | (exfalso; omega) | exact absurd rfl h))
      | refine XC.cond_t (by rfl) ?_
      | refine XC.cond_f (by rfl) ?_
      | refine XQ.next ?_
      | refine XQ.blockN ?_
      | refine XQ.blockR ?_
      | refine XQ.blockE ?_
      | refine XQ.sqR ?_
      | refine XQ.sqE ?_
      | refine XQ.rdR ?_
      | refine XQ.rdE ?_
      | refine XQ.mtR ?_
      | refine XQ.mtE ?_
    | refine XL.nil ?_
      | (refine XL.guard_d (by rfl) (by rfl) (fun h => ?_) (fun h => ?_) <;> try (first | (exfalso; omega) | exact absurd rfl h))
      | refine XL.pures (by rfl) (by rfl) (by rfl) (by rfl) (by rfl) ?_
      | refine XL.not_d (by rfl) (by rfl) (by rfl) (by rfl) (by rfl) ?_
      | refine XL.pure 1 (by rfl) ?_
      | refine XL.fa0 (by rfl) (by rfl) (by rfl) (by rfl) (by rfl) (by rfl) ?_
      | refine XL.ld (by rfl) (by rfl) (by rfl) (by rfl) (by rfl) (by rfl) (by repeat (first | exact Sel.here | apply Sel.there)) (by rfl) ?_
      | refine XL.fa (by rfl) (by rfl) (by rfl) (by rfl) (by rfl) (by rfl) ?_
      | refine XL.ia1 (by rfl) (by rfl) (by rfl) (by rfl) (by rfl) (by rfl) (by rfl) (by omega) ?_
      | refine XL.ldr (by rfl) (by rfl) (by rfl) (by rfl) (by rfl) (by rfl) (by repeat (first | exact Sel.here | apply Sel.there)) (by assumption) ?_
      | refine XL.stl (by rfl) (by rfl) (by rfl) (by rfl) (by rfl) (by rfl) (by rfl) (by repeat (first | exact Sel.here | apply Sel.there)) (by rfl) ?_
      | refine XL.lenR (by rfl) (by rfl) (by rfl) (by rfl) (by rfl) (by rfl) (by rfl) (by first | exact fun w h => St.row (by repeat (first | exact Sel.here | apply Sel.there)) h | exact fun w h => St.rowF (by repeat (first | exact List.Mem.head _ | apply List.Mem.tail)) h | exact fun w h => Hd.rowF (by repeat (first | exact List.Mem.head _ | apply List.Mem.tail)) h) ?_
      | refine XL.iaR1 (by rfl) (by rfl) (by rfl) (by rfl) (by rfl) (by rfl) (by rfl) (by first | exact fun w h => St.row (by repeat (first | exact Sel.here | apply Sel.there)) h | exact fun w h => St.rowF (by repeat (first | exact List.Mem.head _ | apply List.Mem.tail)) h | exact fun w h => Hd.rowF (by repeat (first | exact List.Mem.head _ | apply List.Mem.tail)) h) (by omega) ?_
      | refine XL.iaR2 (by rfl) (by rfl) (by rfl) (by rfl) (by rfl) (by rfl) (by first | exact fun w h => St.row (by repeat (first | exact Sel.here | apply Sel.there)) h | exact fun w h => St.rowF (by repeat (first | exact List.Mem.head _ | apply List.Mem.tail)) h | exact fun w h => Hd.rowF (by repeat (first | exact List.Mem.head _ | apply List.Mem.tail)) h) (by rfl) (by omega) ?_
      | refine XL.faR (by rfl) (by rfl) (by rfl) (by rfl) (by rfl) (by rfl) (by first | exact fun w h => St.row (by repeat (first | exact Sel.here | apply Sel.there)) h | exact fun w h => St.rowF (by repeat (first | exact List.Mem.head _ | apply List.Mem.tail)) h | exact fun w h => Hd.rowF (by repeat (first | exact List.Mem.head _ | apply List.Mem.tail)) h) (by assumption) ?_
      | refine XL.ldR (by rfl) (by rfl) (by rfl) (by rfl) (by rfl) (by rfl) (by first | exact fun w h => St.row (by repeat (first | exact Sel.here | apply Sel.there)) h | exact fun w h => St.rowF (by repeat (first | exact List.Mem.head _ | apply List.Mem.tail)) h | exact fun w h => Hd.rowF (by repeat (first | exact List.Mem.head _ | apply List.Mem.tail)) h) (by assumption) ?_
      | refine XL.lenS (by rfl) (by rfl) (by rfl) (by rfl) (by rfl) (by rfl) (by rfl) ?_
      | refine XL.lenStr (by rfl) (by rfl) (by rfl) (by rfl) (by rfl) (by rfl) (by rfl) ?_
      | refine XL.succ (by rfl) (by rfl) (by rfl) (by rfl) (by rfl) (by rfl) (by omega) ?_
      | refine XL.addn (by rfl) (by rfl) (by rfl) (by rfl) (by rfl) (by rfl) (by omega) ?_
      | refine XL.add (by rfl) (by rfl) (by rfl) (by rfl) (by rfl) (by rfl) (by omega) ?_
      | refine XL.pred (by rfl) (by rfl) (by rfl) (by rfl) (by rfl) (by rfl) (by omega) ?_
      | refine XL.sub (by rfl) (by rfl) (by rfl) (by rfl) (by rfl) (by rfl) (by omega) ?_
      | refine XL.min2 (by rfl) (by rfl) (by rfl) (by rfl) (by rfl) (by rfl) ?_
      | refine XL.max2 (by rfl) (by rfl) (by rfl) (by rfl) (by rfl) (by rfl) ?_
      | refine XL.eqB (by rfl) (by rfl) (by rfl) (by rfl) (by rfl) (by rfl) (by rfl) ?_
      | refine XL.neB (by rfl) (by rfl) (by rfl) (by rfl) (by rfl) (by rfl) (by rfl) ?_
      | refine XL.psome (by rfl) (by rfl) (by rfl) (by rfl) (by rfl) (by rfl) (by rfl) ?_
      | refine XL.pnone (by rfl) (by rfl) (by rfl) (by rfl) (by rfl) (by rfl) (by rfl) ?_
      | refine XL.psome' (by rfl) (by rfl) (by rfl) (by rfl) (by rfl) (by rfl) (by rfl) ?_
      | refine XL.pnone' (by rfl) (by rfl) (by rfl) (by rfl) (by rfl) (by rfl) (by rfl) ?_
      | refine XL.conv64 (by rfl) (by rfl) (by rfl) (by rfl) (by rfl) (by rfl) (by rfl) (by omega) ?_)
  refine XL.triq (refSize_x hN4 hG hsk) (by rfl) (by rfl) (by rfl) (by rfl) (by rfl) (by rfl) (by rfl) (by repeat' (first | exact Sels.nil | exact Sel.here | apply Sels.cons | apply Sel.there)) (by repeat' (first | exact Sels.nil | exact Sel.here | apply Sels.cons | apply Sel.there)) (fun _ h => nomatch h) ?_
  repeat' (first
    | refine XC.seq ?_
      | refine XC.region ?_
      | refine XC.block ?_
      | refine XC.skip ?_
      | refine XC.ret ?_
      | refine XC.exit ?_
      | (refine XC.cond_d (by rfl) (fun h => ?_) (fun h => ?_) <;> try (first | (exfalso; omega) | exact absurd rfl h))
      | refine XC.cond_t (by rfl) ?_
      | refine XC.cond_f (by rfl) ?_
      | refine XQ.next ?_
      | refine XQ.blockN ?_
      | refine XQ.blockR ?_
      | refine XQ.blockE ?_
      | refine XQ.sqR ?_
      | refine XQ.sqE ?_
      | refine XQ.rdR ?_
      | refine XQ.rdE ?_
      | refine XQ.mtR ?_
      | refine XQ.mtE ?_
    | refine XL.nil ?_
      | (refine XL.guard_d (by rfl) (by rfl) (fun h => ?_) (fun h => ?_) <;> try (first | (exfalso; omega) | exact absurd rfl h))
      | refine XL.pures (by rfl) (by rfl) (by rfl) (by rfl) (by rfl) ?_
      | refine XL.not_d (by rfl) (by rfl) (by rfl) (by rfl) (by rfl) ?_
      | refine XL.pure 1 (by rfl) ?_
      | refine XL.fa0 (by rfl) (by rfl) (by rfl) (by rfl) (by rfl) (by rfl) ?_
      | refine XL.ld (by rfl) (by rfl) (by rfl) (by rfl) (by rfl) (by rfl) (by repeat (first | exact Sel.here | apply Sel.there)) (by rfl) ?_
      | refine XL.fa (by rfl) (by rfl) (by rfl) (by rfl) (by rfl) (by rfl) ?_
      | refine XL.ia1 (by rfl) (by rfl) (by rfl) (by rfl) (by rfl) (by rfl) (by rfl) (by omega) ?_
      | refine XL.ldr (by rfl) (by rfl) (by rfl) (by rfl) (by rfl) (by rfl) (by repeat (first | exact Sel.here | apply Sel.there)) (by assumption) ?_
      | refine XL.stl (by rfl) (by rfl) (by rfl) (by rfl) (by rfl) (by rfl) (by rfl) (by repeat (first | exact Sel.here | apply Sel.there)) (by rfl) ?_
      | refine XL.lenR (by rfl) (by rfl) (by rfl) (by rfl) (by rfl) (by rfl) (by rfl) (by first | exact fun w h => St.row (by repeat (first | exact Sel.here | apply Sel.there)) h | exact fun w h => St.rowF (by repeat (first | exact List.Mem.head _ | apply List.Mem.tail)) h | exact fun w h => Hd.rowF (by repeat (first | exact List.Mem.head _ | apply List.Mem.tail)) h) ?_
      | refine XL.iaR1 (by rfl) (by rfl) (by rfl) (by rfl) (by rfl) (by rfl) (by rfl) (by first | exact fun w h => St.row (by repeat (first | exact Sel.here | apply Sel.there)) h | exact fun w h => St.rowF (by repeat (first | exact List.Mem.head _ | apply List.Mem.tail)) h | exact fun w h => Hd.rowF (by repeat (first | exact List.Mem.head _ | apply List.Mem.tail)) h) (by omega) ?_
      | refine XL.iaR2 (by rfl) (by rfl) (by rfl) (by rfl) (by rfl) (by rfl) (by first | exact fun w h => St.row (by repeat (first | exact Sel.here | apply Sel.there)) h | exact fun w h => St.rowF (by repeat (first | exact List.Mem.head _ | apply List.Mem.tail)) h | exact fun w h => Hd.rowF (by repeat (first | exact List.Mem.head _ | apply List.Mem.tail)) h) (by rfl) (by omega) ?_
      | refine XL.faR (by rfl) (by rfl) (by rfl) (by rfl) (by rfl) (by rfl) (by first | exact fun w h => St.row (by repeat (first | exact Sel.here | apply Sel.there)) h | exact fun w h => St.rowF (by repeat (first | exact List.Mem.head _ | apply List.Mem.tail)) h | exact fun w h => Hd.rowF (by repeat (first | exact List.Mem.head _ | apply List.Mem.tail)) h) (by assumption) ?_
      | refine XL.ldR (by rfl) (by rfl) (by rfl) (by rfl) (by rfl) (by rfl) (by first | exact fun w h => St.row (by repeat (first | exact Sel.here | apply Sel.there)) h | exact fun w h => St.rowF (by repeat (first | exact List.Mem.head _ | apply List.Mem.tail)) h | exact fun w h => Hd.rowF (by repeat (first | exact List.Mem.head _ | apply List.Mem.tail)) h) (by assumption) ?_
      | refine XL.lenS (by rfl) (by rfl) (by rfl) (by rfl) (by rfl) (by rfl) (by rfl) ?_
      | refine XL.lenStr (by rfl) (by rfl) (by rfl) (by rfl) (by rfl) (by rfl) (by rfl) ?_
      | refine XL.succ (by rfl) (by rfl) (by rfl) (by rfl) (by rfl) (by rfl) (by omega) ?_
      | refine XL.addn (by rfl) (by rfl) (by rfl) (by rfl) (by rfl) (by rfl) (by omega) ?_
      | refine XL.add (by rfl) (by rfl) (by rfl) (by rfl) (by rfl) (by rfl) (by omega) ?_
      | refine XL.pred (by rfl) (by rfl) (by rfl) (by rfl) (by rfl) (by rfl) (by omega) ?_
      | refine XL.sub (by rfl) (by rfl) (by rfl) (by rfl) (by rfl) (by rfl) (by omega) ?_
      | refine XL.min2 (by rfl) (by rfl) (by rfl) (by rfl) (by rfl) (by rfl) ?_
      | refine XL.max2 (by rfl) (by rfl) (by rfl) (by rfl) (by rfl) (by rfl) ?_
      | refine XL.eqB (by rfl) (by rfl) (by rfl) (by rfl) (by rfl) (by rfl) (by rfl) ?_
      | refine XL.neB (by rfl) (by rfl) (by rfl) (by rfl) (by rfl) (by rfl) (by rfl) ?_
      | refine XL.psome (by rfl) (by rfl) (by rfl) (by rfl) (by rfl) (by rfl) (by rfl) ?_
      | refine XL.pnone (by rfl) (by rfl) (by rfl) (by rfl) (by rfl) (by rfl) (by rfl) ?_
      | refine XL.psome' (by rfl) (by rfl) (by rfl) (by rfl) (by rfl) (by rfl) (by rfl) ?_
      | refine XL.pnone' (by rfl) (by rfl) (by rfl) (by rfl) (by rfl) (by rfl) (by rfl) ?_
      | refine XL.conv64 (by rfl) (by rfl) (by rfl) (by rfl) (by rfl) (by rfl) (by rfl) (by omega) ?_)
  obtain ⟨fi, hfi⟩ : ∃ fi : Int, (if 0 ≤ i ∧ i < N then ((G.getD i.toNat 0 : Nat) : Int) else -1) = fi := ⟨_, rfl⟩
  refine XL.triq (find_is hN4 hfi) (by rfl) (by rfl) (by rfl) (by rfl) (by rfl) (by rfl) (by rfl) (by repeat' (first | exact Sels.nil | exact Sel.here | apply Sels.cons | apply Sel.there)) (by repeat' (first | exact Sels.nil | exact Sel.here | apply Sels.cons | apply Sel.there)) (fun _ h => nomatch h) ?_
  repeat' (first
    | refine XC.seq ?_
      | refine XC.region ?_
      | refine XC.block ?_
      | refine XC.skip ?_
      | refine XC.ret ?_
      | refine XC.exit ?_
      | (refine XC.cond_d (by rfl) (fun h => ?_) (fun h => ?_) <;> try (first | (exfalso; omega) | exact absurd rfl h))
      | refine XC.cond_t (by rfl) ?_
      | refine XC.cond_f (by rfl) ?_
      | refine XQ.next ?_
      | refine XQ.blockN ?_
      | refine XQ.blockR ?_
      | refine XQ.blockE ?_
      | refine XQ.sqR ?_
      | refine XQ.sqE ?_
      | refine XQ.rdR ?_
      | refine XQ.rdE ?_
      | refine XQ.mtR ?_
      | refine XQ.mtE ?_
    | refine XL.nil ?_
      | (refine XL.guard_d (by rfl) (by rfl) (fun h => ?_) (fun h => ?_) <;> try (first | (exfalso; omega) | exact absurd rfl h))
      | refine XL.pures (by rfl) (by rfl) (by rfl) (by rfl) (by rfl) ?_
      | refine XL.not_d (by rfl) (by rfl) (by rfl) (by rfl) (by rfl) ?_
      | refine XL.pure 1 (by rfl) ?_
      | refine XL.fa0 (by rfl) (by rfl) (by rfl) (by rfl) (by rfl) (by rfl) ?_
      | refine XL.ld (by rfl) (by rfl) (by rfl) (by rfl) (by rfl) (by rfl) (by repeat (first | exact Sel.here | apply Sel.there)) (by rfl) ?_
      | refine XL.fa (by rfl) (by rfl) (by rfl) (by rfl) (by rfl) (by rfl) ?_
      | refine XL.ia1 (by rfl) (by rfl) (by rfl) (by rfl) (by rfl) (by rfl) (by rfl) (by omega) ?_
      | refine XL.ldr (by rfl) (by rfl) (by rfl) (by rfl) (by rfl) (by rfl) (by repeat (first | exact Sel.here | apply Sel.there)) (by assumption) ?_
      | refine XL.stl (by rfl) (by rfl) (by rfl) (by rfl) (by rfl) (by rfl) (by rfl) (by repeat (first | exact Sel.here | apply Sel.there)) (by rfl) ?_
      | refine XL.lenR (by rfl) (by rfl) (by rfl) (by rfl) (by rfl) (by rfl) (by rfl) (by first | exact fun w h => St.row (by repeat (first | exact Sel.here | apply Sel.there)) h | exact fun w h => St.rowF (by repeat (first | exact List.Mem.head _ | apply List.Mem.tail)) h | exact fun w h => Hd.rowF (by repeat (first | exact List.Mem.head _ | apply List.Mem.tail)) h) ?_
      | refine XL.iaR1 (by rfl) (by rfl) (by rfl) (by rfl) (by rfl) (by rfl) (by rfl) (by first | exact fun w h => St.row (by repeat (first | exact Sel.here | apply Sel.there)) h | exact fun w h => St.rowF (by repeat (first | exact List.Mem.head _ | apply List.Mem.tail)) h | exact fun w h => Hd.rowF (by repeat (first | exact List.Mem.head _ | apply List.Mem.tail)) h) (by omega) ?_
      | refine XL.iaR2 (by rfl) (by rfl) (by rfl) (by rfl) (by rfl) (by rfl) (by first | exact fun w h => St.row (by repeat (first | exact Sel.here | apply Sel.there)) h | exact fun w h => St.rowF (by repeat (first | exact List.Mem.head _ | apply List.Mem.tail)) h | exact fun w h => Hd.rowF (by repeat (first | exact List.Mem.head _ | apply List.Mem.tail)) h) (by rfl) (by omega) ?_
      | refine XL.faR (by rfl) (by rfl) (by rfl) (by rfl) (by rfl) (by rfl) (by first | exact fun w h => St.row (by repeat (first | exact Sel.here | apply Sel.there)) h | exact fun w h => St.rowF (by repeat (first | exact List.Mem.head _ | apply List.Mem.tail)) h | exact fun w h => Hd.rowF (by repeat (first | exact List.Mem.head _ | apply List.Mem.tail)) h) (by assumption) ?_
      | refine XL.ldR (by rfl) (by rfl) (by rfl) (by rfl) (by rfl) (by rfl) (by first | exact fun w h => St.row (by repeat (first | exact Sel.here | apply Sel.there)) h | exact fun w h => St.rowF (by repeat (first | exact List.Mem.head _ | apply List.Mem.tail)) h | exact fun w h => Hd.rowF (by repeat (first | exact List.Mem.head _ | apply List.Mem.tail)) h) (by assumption) ?_
      | refine XL.lenS (by rfl) (by rfl) (by rfl) (by rfl) (by rfl) (by rfl) (by rfl) ?_
      | refine XL.lenStr (by rfl) (by rfl) (by rfl) (by rfl) (by rfl) (by rfl) (by rfl) ?_
      | refine XL.succ (by rfl) (by rfl) (by rfl) (by rfl) (by rfl) (by rfl) (by omega) ?_
      | refine XL.addn (by rfl) (by rfl) (by rfl) (by rfl) (by rfl) (by rfl) (by omega) ?_
      | refine XL.add (by rfl) (by rfl) (by rfl) (by rfl) (by rfl) (by rfl) (by omega) ?_
      | refine XL.pred (by rfl) (by rfl) (by rfl) (by rfl) (by rfl) (by rfl) (by omega) ?_
      | refine XL.sub (by rfl) (by rfl) (by rfl) (by rfl) (by rfl) (by rfl) (by omega) ?_
      | refine XL.min2 (by rfl) (by rfl) (by rfl) (by rfl) (by rfl) (by rfl) ?_
      | refine XL.max2 (by rfl) (by rfl) (by rfl) (by rfl) (by rfl) (by rfl) ?_
      | refine XL.eqB (by rfl) (by rfl) (by rfl) (by rfl) (by rfl) (by rfl) (by rfl) ?_
      | refine XL.neB (by rfl) (by rfl) (by rfl) (by rfl) (by rfl) (by rfl) (by rfl) ?_
      | refine XL.psome (by rfl) (by rfl) (by rfl) (by rfl) (by rfl) (by rfl) (by rfl) ?_
      | refine XL.pnone (by rfl) (by rfl) (by rfl) (by rfl) (by rfl) (by rfl) (by rfl) ?_
      | refine XL.psome' (by rfl) (by rfl) (by rfl) (by rfl) (by rfl) (by rfl) (by rfl) ?_
      | refine XL.pnone' (by rfl) (by rfl) (by rfl) (by rfl) (by rfl) (by rfl) (by rfl) ?_
      | refine XL.conv64 (by rfl) (by rfl) (by rfl) (by rfl) (by rfl) (by rfl) (by rfl) (by omega) ?_)
  refine XL.triq (refFind_x hN4 hG hfi) (by rfl) (by rfl) (by rfl) (by rfl) (by rfl) (by rfl) (by rfl) (by repeat' (first | exact Sels.nil | exact Sel.here | apply Sels.cons | apply Sel.there)) (by repeat' (first | exact Sels.nil | exact Sel.here | apply Sels.cons | apply Sel.there)) (fun _ h => nomatch h) ?_
  repeat' (first
    | refine XC.seq ?_
      | refine XC.region ?_
      | refine XC.block ?_
      | refine XC.skip ?_
      | refine XC.ret ?_
      | refine XC.exit ?_
      | (refine XC.cond_d (by rfl) (fun h => ?_) (fun h => ?_) <;> try (first | (exfalso; omega) | exact absurd rfl h))
      | refine XC.cond_t (by rfl) ?_
      | refine XC.cond_f (by rfl) ?_
      | refine XQ.next ?_
      | refine XQ.blockN ?_
      | refine XQ.blockR ?_
      | refine XQ.blockE ?_
      | refine XQ.sqR ?_
      | refine XQ.sqE ?_
      | refine XQ.rdR ?_
      | refine XQ.rdE ?_
      | refine XQ.mtR ?_
      | refine XQ.mtE ?_
    | refine XL.nil ?_
      | (refine XL.guard_d (by rfl) (by rfl) (fun h => ?_) (fun h => ?_) <;> try (first | (exfalso; omega) | exact absurd rfl h))
      | refine XL.pures (by rfl) (by rfl) (by rfl) (by rfl) (by rfl) ?_
      | refine XL.not_d (by rfl) (by rfl) (by rfl) (by rfl) (by rfl) ?_
      | refine XL.pure 1 (by rfl) ?_
      | refine XL.fa0 (by rfl) (by rfl) (by rfl) (by rfl) (by rfl) (by rfl) ?_
      | refine XL.ld (by rfl) (by rfl) (by rfl) (by rfl) (by rfl) (by rfl) (by repeat (first | exact Sel.here | apply Sel.there)) (by rfl) ?_
      | refine XL.fa (by rfl) (by rfl) (by rfl) (by rfl) (by rfl) (by rfl) ?_
      | refine XL.ia1 (by rfl) (by rfl) (by rfl) (by rfl) (by rfl) (by rfl) (by rfl) (by omega) ?_
      | refine XL.ldr (by rfl) (by rfl) (by rfl) (by rfl) (by rfl) (by rfl) (by repeat (first | exact Sel.here | apply Sel.there)) (by assumption) ?_
      | refine XL.stl (by rfl) (by rfl) (by rfl) (by rfl) (by rfl) (by rfl) (by rfl) (by repeat (first | exact Sel.here | apply Sel.there)) (by rfl) ?_
      | refine XL.lenR (by rfl) (by rfl) (by rfl) (by rfl) (by rfl) (by rfl) (by rfl) (by first | exact fun w h => St.row (by repeat (first | exact Sel.here | apply Sel.there)) h | exact fun w h => St.rowF (by repeat (first | exact List.Mem.head _ | apply List.Mem.tail)) h | exact fun w h => Hd.rowF (by repeat (first | exact List.Mem.head _ | apply List.Mem.tail)) h) ?_
      | refine XL.iaR1 (by rfl) (by rfl) (by rfl) (by rfl) (by rfl) (by rfl) (by rfl) (by first | exact fun w h => St.row (by repeat (first | exact Sel.here | apply Sel.there)) h | exact fun w h => St.rowF (by repeat (first | exact List.Mem.head _ | apply List.Mem.tail)) h | exact fun w h => Hd.rowF (by repeat (first | exact List.Mem.head _ | apply List.Mem.tail)) h) (by omega) ?_
      | refine XL.iaR2 (by rfl) (by rfl) (by rfl) (by rfl) (by rfl) (by rfl) (by first | exact fun w h => St.row (by repeat (first | exact Sel.here | apply Sel.there)) h | exact fun w h => St.rowF (by repeat (first | exact List.Mem.head _ | apply List.Mem.tail)) h | exact fun w h => Hd.rowF (by repeat (first | exact List.Mem.head _ | apply List.Mem.tail)) h) (by rfl) (by omega) ?_
      | refine XL.faR (by rfl) (by rfl) (by rfl) (by rfl) (by rfl) (by rfl) (by first | exact fun w h => St.row (by repeat (first | exact Sel.here | apply Sel.there)) h | exact fun w h => St.rowF (by repeat (first | exact List.Mem.head _ | apply List.Mem.tail)) h | exact fun w h => Hd.rowF (by repeat (first | exact List.Mem.head _ | apply List.Mem.tail)) h) (by assumption) ?_
      | refine XL.ldR (by rfl) (by rfl) (by rfl) (by rfl) (by rfl) (by rfl) (by first | exact fun w h => St.row (by repeat (first | exact Sel.here | apply Sel.there)) h | exact fun w h => St.rowF (by repeat (first | exact List.Mem.head _ | apply List.Mem.tail)) h | exact fun w h => Hd.rowF (by repeat (first | exact List.Mem.head _ | apply List.Mem.tail)) h) (by assumption) ?_
      | refine XL.lenS (by rfl) (by rfl) (by rfl) (by rfl) (by rfl) (by rfl) (by rfl) ?_
      | refine XL.lenStr (by rfl) (by rfl) (by rfl) (by rfl) (by rfl) (by rfl) (by rfl) ?_
      | refine XL.succ (by rfl) (by rfl) (by rfl) (by rfl) (by rfl) (by rfl) (by omega) ?_
      | refine XL.addn (by rfl) (by rfl) (by rfl) (by rfl) (by rfl) (by rfl) (by omega) ?_
      | refine XL.add (by rfl) (by rfl) (by rfl) (by rfl) (by rfl) (by rfl) (by omega) ?_
      | refine XL.pred (by rfl) (by rfl) (by rfl) (by rfl) (by rfl) (by rfl) (by omega) ?_
      | refine XL.sub (by rfl) (by rfl) (by rfl) (by rfl) (by rfl) (by rfl) (by omega) ?_
      | refine XL.min2 (by rfl) (by rfl) (by rfl) (by rfl) (by rfl) (by rfl) ?_
      | refine XL.max2 (by rfl) (by rfl) (by rfl) (by rfl) (by rfl) (by rfl) ?_
      | refine XL.eqB (by rfl) (by rfl) (by rfl) (by rfl) (by rfl) (by rfl) (by rfl) ?_
      | refine XL.neB (by rfl) (by rfl) (by rfl) (by rfl) (by rfl) (by rfl) (by rfl) ?_
      | refine XL.psome (by rfl) (by rfl) (by rfl) (by rfl) (by rfl) (by rfl) (by rfl) ?_
      | refine XL.pnone (by rfl) (by rfl) (by rfl) (by rfl) (by rfl) (by rfl) (by rfl) ?_
      | refine XL.psome' (by rfl) (by rfl) (by rfl) (by rfl) (by rfl) (by rfl) (by rfl) ?_
      | refine XL.pnone' (by rfl) (by rfl) (by rfl) (by rfl) (by rfl) (by rfl) (by rfl) ?_
      | refine XL.conv64 (by rfl) (by rfl) (by rfl) (by rfl) (by rfl) (by rfl) (by rfl) (by omega) ?_)
  refine XQ.conv (fun w h => St.less (Lc := []) (Φ' := []) h .nil (fun _ h => nomatch h)) (XQ.ret1 (by rfl) (by rfl) ?_)
  exact ⟨congrArg (fun b => Ending.returned (.bool b)) (decide_eq_true rfl), rfl, rfl⟩
theorem uniteJoins_walk (a0 : Int) (v1 : Value) (l1 : List (Int × Int)) (a2 : Int) (w : World) (_ : (Lit.int .i64 a0).wf = true) (h1 : Row 2 v1 l1.length (pcell l1) w) (_ : (Lit.int .i64 a2).wf = true) : Calls Try.prog 3 #[.int .i64 a0, v1, .int .i64 a2] w fun e w' => e = .returned (.bool true) ∧ RowKit.Below w.heap.size w w' :=
  Tri.top joins_tri (fun φ hφ => by rw [List.mem_singleton.1 hφ]; exact h1.top)
namespace uniteJoins
open Go.ChangeShapes Go.WideShapes Go.ChangeAt Go.RowKit
set_option maxRecDepth 100000 in
theorem lifted (os : Os) (started : os.Started) (H : Type) (enc : TypeId × Value → H) :
    ReturnsInHanded {} Try.checked os 3 .any (Rows.uniteJoinsSpec.pre6 enc Try.prog Try.f3 Rows.uniteJoinsRow.domain false) (Rows.uniteJoinsSpec.post enc Try.prog Try.f3 false true false false) := by
  refine returnsInHanded_of_change (C := Try.checked) own started (by kernel_rfl) Try.func3
    (ChangeSpec.witness6 (enc := enc) (C := Try.checked) false ⟨#[], #[.int .i64 0, .slice none 0 0, .int .i64 0], []⟩ 8 (by kernel_rfl) (by kernel_rfl) (by kernel_rfl) (by kernel_rfl)) ?_
  intro W base args ds gs before hval0 hW hcnd _
  have hval : ∀ (j : Nat) t v, Try.f3.params[j]? = some t → args[j]? = some v → Value.okWide Try.prog W .any base t v := hval0
  have hW' := hW
  obtain ⟨p, q, hA0, hV, rfl, hfz, hnd⟩ := hW
  have hA : DataW.TrodAll enc Try.prog W 0 (fun _ => true) true Try.f3.params.toList args.toList ds p := hA0
  rw [Try.params3] at hA hval
  obtain ⟨v0, vs0, d0, ds0, p0, q0, hargs, rfl, rfl, h0, r0⟩ := trodAll_cons hA
  obtain ⟨v1, vs1, d1, ds1, p1, q1, rfl, rfl, rfl, h1, r1⟩ := trodAll_cons r0
  obtain ⟨v2, vs2, d2, ds2, p2, q2, rfl, rfl, rfl, h2, r2⟩ := trodAll_cons r1
  obtain ⟨rfl, rfl, rfl⟩ := trodAll_nil r2
  obtain rfl : args = #[v0, v1, v2] := by cases args; simp_all
  obtain ⟨a0, rfl, rfl, rfl, w0⟩ := open_int Try.underlying3 (hval 0 3 v0 rfl rfl) h0
  obtain ⟨l1, _, w1⟩ := openS22 (hval 1 22 v1 rfl rfl) h1
  obtain ⟨a2, rfl, rfl, rfl, w2⟩ := open_int Try.underlying3 (hval 2 3 v2 rfl rfl) h2
  refine (uniteJoins_walk a0 v1 l1 a2 W w0 w1 w2).mono fun e W' ⟨he, hg⟩ => ?_
  subst he
  exact ⟨_, rfl, law_post hW' rfl (by kernel_rfl) (fun t ht => by have ht : t ∈ [3, 22, 3] := ht; simp only [List.mem_cons, List.not_mem_nil, or_false] at ht; rcases ht with rfl | rfl | rfl <;> exact ⟨by kernel_rfl, of_decide_eq_true (by kernel_rfl)⟩) (T := 4) (by rfl) Try.underlying4
    (fun ds hl => by match ds, hl with | [e0, e1, e2], _ => exact ⟨rfl, rfl, rfl⟩) hg⟩
theorem over : Rows.uniteJoinsRow.holds Try.pinned (OpenSpec.ofChange Rows.uniteJoinsSpec) :=
  OpenClaim.holds_of_wide 3 Try.f3 rfl rfl rfl rfl rfl rfl rfl ⟨rfl, rfl, rfl, rfl, rfl⟩ rfl rfl rfl rfl rfl (by kernel_rfl) Try.func3 (by kernel_rfl)
    (of_decide_eq_true (by kernel_rfl)) (by unfold Func.isWrapper; first | (rw [if_pos (by decide +kernel)]; kernel_rfl) | (rw [if_neg (by decide +kernel)]; exact ⟨rfl, rfl⟩))
    (fun os started H enc _ => lifted os started H enc)
theorem proved : Rows.UniteJoinsSaid := over
end uniteJoins
#print axioms uniteJoins.proved
end Go.Proofs.Ytkhjnmhingdmoaa
