/- Numbers that are put together one with the next are all one group: the law's walk and its row. -/
import Derived.Test.YtkhjnmhingdmoaaX11
import Derived.Test.YtkhjnmhingdmoaaU9
import Derived.Test.YtkhjnmhingdmoaaU11
namespace Go.Proofs.Ytkhjnmhingdmoaa
open Go X U
section
variable {P : Program} {n : Nat} {Q : Post} {ρ : Env} {ds : List Deferred} {A : World → Prop} {ops : Array Oper} {rest : List Oper} {o : Oper} {d q : Nat}
theorem XL.onep {t t' : TypeId} {x y : Operand} {a : Nat} (hop : o.op = .binOp .add t x y t') (hd : o.dst = some d) (hn : Nat.blt d n = true) (hw : wantB ops ρ o = some true) (hx : evE ρ x = some (.int .i64 1)) (hy : evE ρ y = some (.int .i64 (a : Int)))
    (h : a < 9223372036854775807) (k : XL P n ops Q (q - 1) rest ((d, .int .i64 ((1 + a : Nat) : Int)) :: ρ) ds A) : XL P n ops Q q (o :: rest) ρ ds A :=
  XL.add hop hd hn hw hx hy (by omega) (by rw [show ((1 : Int) + (a : Int)) = ((1 + a : Nat) : Int) by omega]; exact k)
theorem XL.remn {t t' : TypeId} {x y : Operand} {a b : Nat} (hop : o.op = .binOp .rem t x y t') (hd : o.dst = some d) (hn : Nat.blt d n = true) (hw : wantB ops ρ o = some true) (hx : evE ρ x = some (.int .i64 (a : Int))) (hy : evE ρ y = some (.int .i64 (b : Int)))
    (h : 0 < b ∧ a ≤ 9223372036854775807) (k : XL P n ops Q (q - 1) rest ((d, .int .i64 ((a % b : Nat) : Int)) :: ρ) ds A) : XL P n ops Q q (o :: rest) ρ ds A :=
  XL.bin hop hd hn hw hx hy (fun w => by
    have h1 : ¬ (b : Int) = 0 := by omega
    have h2 : Int.tmod (a : Int) (b : Int) = ((a % b : Nat) : Int) := by rw [← Int.ofNat_tmod]
    have h3 : a % b ≤ a := Nat.mod_le _ _
    have h4 := wrap_in (a := ((a % b : Nat) : Int)) (by omega)
    have h5 := h.1
    simp [binOp, eqGuard, Op.intDiv, h1, h2, h4]
    try omega) k
end
def chain (k lo hi : Nat) : List Nat := (List.range k).map fun i => if lo ≤ i ∧ i ≤ hi then lo else i
theorem chain_len (k lo hi : Nat) : (chain k lo hi).length = k := by simp [chain]
theorem chain_get {k lo hi i : Nat} (h : i < k) : (chain k lo hi).getD i 0 = if lo ≤ i ∧ i ≤ hi then lo else i := by
  simp [chain, List.getD_eq_getElem?_getD, h]
theorem chain_self {k a : Nat} : chain k a a = List.range k := by
  unfold chain
  apply List.ext_getElem
  · simp
  · intro i h1 h2
    simp
    omega
theorem chain_ext {k : Nat} {G : List Nat} {lo hi : Nat} (hl : G.length = k) (h : ∀ i, i < k → G.getD i 0 = if lo ≤ i ∧ i ≤ hi then lo else i) : G = chain k lo hi := by
  apply List.ext_getElem
  · rw [hl, chain_len]
  · intro i h1 h2
    have h3 := h i (by omega)
    have h4 := chain_get (k := k) (lo := lo) (hi := hi) (i := i) (by omega)
    rw [List.getD_eq_getElem?_getD, List.getElem?_eq_getElem h1] at h3
    rw [List.getD_eq_getElem?_getD, List.getElem?_eq_getElem h2] at h4
    simp only [Option.getD_some] at h3 h4
    rw [h3, h4]
theorem chain_up {k lo hi : Nat} (h1 : lo ≤ hi) (h2 : hi + 1 < k) : joins k (chain k lo hi) ((hi : Nat) : Int) ((hi + 1 : Nat) : Int) = true ∧ joined k (chain k lo hi) ((hi : Nat) : Int) ((hi + 1 : Nat) : Int) = chain k lo (hi + 1) := by
  have g1 := chain_get (k := k) (lo := lo) (hi := hi) (i := hi) (by omega)
  have g2 := chain_get (k := k) (lo := lo) (hi := hi) (i := hi + 1) (by omega)
  rw [if_pos (by omega)] at g1
  rw [if_neg (by omega)] at g2
  have hj : joins k (chain k lo hi) ((hi : Nat) : Int) ((hi + 1 : Nat) : Int) = true := decide_eq_true ⟨by omega, by omega, by omega, by omega, by rw [Int.toNat_natCast, Int.toNat_natCast, g1, g2]; omega⟩
  refine ⟨hj, ?_⟩
  rw [joined, if_pos hj, Int.toNat_natCast, Int.toNat_natCast, g1, g2]
  refine chain_ext (by rw [join_len, chain_len]) (fun i hi' => ?_)
  rw [join_get (by rw [chain_len]; exact hi'), chain_get hi']
  repeat' split
  all_goals omega
theorem chain_down {k lo hi : Nat} (h0 : 0 < lo) (h1 : lo ≤ hi) (h2 : hi < k) : joins k (chain k lo hi) ((lo - 1 : Nat) : Int) ((lo - 1 + 1 : Nat) : Int) = true ∧ joined k (chain k lo hi) ((lo - 1 : Nat) : Int) ((lo - 1 + 1 : Nat) : Int) = chain k (lo - 1) hi := by
  have g1 := chain_get (k := k) (lo := lo) (hi := hi) (i := lo - 1) (by omega)
  have g2 := chain_get (k := k) (lo := lo) (hi := hi) (i := lo - 1 + 1) (by omega)
  rw [if_neg (by omega)] at g1
  rw [if_pos (by omega)] at g2
  have hj : joins k (chain k lo hi) ((lo - 1 : Nat) : Int) ((lo - 1 + 1 : Nat) : Int) = true := decide_eq_true ⟨by omega, by omega, by omega, by omega, by rw [Int.toNat_natCast, Int.toNat_natCast, g1, g2]; omega⟩
  refine ⟨hj, ?_⟩
  rw [joined, if_pos hj, Int.toNat_natCast, Int.toNat_natCast, g1, g2]
  refine chain_ext (by rw [join_len, chain_len]) (fun i hi' => ?_)
  rw [join_get (by rw [chain_len]; exact hi'), chain_get hi']
  repeat' split
  all_goals omega
theorem chain_count {lo hi : Nat} (h : lo ≤ hi) : ∀ k, (chain k lo hi).count lo = min k (hi + 1) - lo
  | 0 => by simp [chain]
  | k + 1 => by
    have ih := chain_count h k
    have e : chain (k + 1) lo hi = chain k lo hi ++ [if lo ≤ k ∧ k ≤ hi then lo else k] := by simp [chain, List.range_succ]
    rw [e, List.count_append, ih, List.count_singleton]
    by_cases h1 : lo ≤ k ∧ k ≤ hi
    · rw [if_pos h1]
      simp
      omega
    · rw [if_neg h1]
      have : (k == lo) = false := by
        rw [beq_eq_false_iff_ne]
        omega
      rw [this]
      simp
      omega
attribute [local irreducible] XC XL XQ Tri blk Shows Sq Rd Mt inBlockX
attribute [local irreducible] Row rowO Tk An XA Hd
theorem cnt_good {n : Nat} {G G' : List Nat} {a b : Int} (h : Good n G) (hj : joins n G a b = true) (e : joined n G a b = G') : Good n G' ∧ cnt n G' + 1 = cnt n G := by
  subst e
  exact ⟨(h.step a b).1, (h.step a b).2 hj⟩
set_option maxHeartbeats 4000000 in
theorem chains_tri {n f t : Nat} {dn : Bool} (hn : n ≤ 255) (hf : f ≤ 255) (ht : t ≤ 255) : Tri Try.prog 7 [.int .u8 (n : Int), .int .u8 (f : Int), .int .u8 (t : Int), .bool dn] [] [] fun e L Φ => e = .returned (.bool true) ∧ L = [] ∧ Φ = [] := by
  refine Tri.of Try.func7 rfl fun c => ?_
  obtain ⟨k, hk⟩ : ∃ k : Nat, 1 + n = k := ⟨_, rfl⟩
  have ek : (1 : Int) + (n : Int) = (k : Int) := by omega
  have hk2 : k ≤ 100000 := by omega
  repeat' (first
    | refine XC.seq ?_
      | refine XC.region ?_
      | refine XC.block ?_
      | refine XC.skip ?_
      | refine XC.ret ?_
      | refine XC.exit ?_
      | (refine XC.cond_d (by rfl) (fun h => ?_) (fun h => ?_) <;> try (first | (exfalso; omega) | exact absurd rfl h | (exfalso; simp at h <;> omega)))
      | refine XC.cond_t (by rfl) ?_
      | refine XC.cond_f (by rfl) ?_
      | refine XQ.next ?_
      | refine XQ.blockN ?_
      | refine XQ.blockR ?_
      | refine XQ.blockE ?_
      | refine XQ.sqR ?_
      | refine XQ.sqE ?_
      | refine XQ.rdR ?_
      | refine XQ.rdE ?_
      | refine XQ.mtR ?_
      | refine XQ.mtE ?_
    | refine XL.nil ?_
      | (refine XL.guard_d (by rfl) (by rfl) (fun h => ?_) (fun h => ?_) <;> try (first | (exfalso; omega) | exact absurd rfl h | (exfalso; simp at h <;> omega)))
      | refine XL.pures (by rfl) (by rfl) (by rfl) (by rfl) (by rfl) ?_
      | refine XL.not_d (by rfl) (by rfl) (by rfl) (by rfl) (by rfl) ?_
      | refine XL.pure 1 (by rfl) ?_
      | refine XL.fa0 (by rfl) (by rfl) (by rfl) (by rfl) (by rfl) (by rfl) ?_
      | refine XL.ld (by rfl) (by rfl) (by rfl) (by rfl) (by rfl) (by rfl) (by repeat (first | exact Sel.here | apply Sel.there)) (by rfl) ?_
      | refine XL.fa (by rfl) (by rfl) (by rfl) (by rfl) (by rfl) (by rfl) ?_
      | refine XL.ia1 (by rfl) (by rfl) (by rfl) (by rfl) (by rfl) (by rfl) (by rfl) (by omega) ?_
      | refine XL.ldr (by rfl) (by rfl) (by rfl) (by rfl) (by rfl) (by rfl) (by repeat (first | exact Sel.here | apply Sel.there)) (by assumption) ?_
      | refine XL.stl (by rfl) (by rfl) (by rfl) (by rfl) (by rfl) (by rfl) (by rfl) (by repeat (first | exact Sel.here | apply Sel.there)) (by rfl) ?_
      | refine XL.lenR (by rfl) (by rfl) (by rfl) (by rfl) (by rfl) (by rfl) (by rfl) (by first | exact fun w h => St.row (by repeat (first | exact Sel.here | apply Sel.there)) h | exact fun w h => St.rowF (by repeat (first | exact List.Mem.head _ | apply List.Mem.tail)) h | exact fun w h => Hd.rowF (by repeat (first | exact List.Mem.head _ | apply List.Mem.tail)) h) ?_
      | refine XL.iaR1 (by rfl) (by rfl) (by rfl) (by rfl) (by rfl) (by rfl) (by rfl) (by first | exact fun w h => St.row (by repeat (first | exact Sel.here | apply Sel.there)) h | exact fun w h => St.rowF (by repeat (first | exact List.Mem.head _ | apply List.Mem.tail)) h | exact fun w h => Hd.rowF (by repeat (first | exact List.Mem.head _ | apply List.Mem.tail)) h) (by omega) ?_
      | refine XL.iaR2 (by rfl) (by rfl) (by rfl) (by rfl) (by rfl) (by rfl) (by first | exact fun w h => St.row (by repeat (first | exact Sel.here | apply Sel.there)) h | exact fun w h => St.rowF (by repeat (first | exact List.Mem.head _ | apply List.Mem.tail)) h | exact fun w h => Hd.rowF (by repeat (first | exact List.Mem.head _ | apply List.Mem.tail)) h) (by rfl) (by omega) ?_
      | refine XL.faR (by rfl) (by rfl) (by rfl) (by rfl) (by rfl) (by rfl) (by first | exact fun w h => St.row (by repeat (first | exact Sel.here | apply Sel.there)) h | exact fun w h => St.rowF (by repeat (first | exact List.Mem.head _ | apply List.Mem.tail)) h | exact fun w h => Hd.rowF (by repeat (first | exact List.Mem.head _ | apply List.Mem.tail)) h) (by assumption) ?_
      | refine XL.ldR (by rfl) (by rfl) (by rfl) (by rfl) (by rfl) (by rfl) (by first | exact fun w h => St.row (by repeat (first | exact Sel.here | apply Sel.there)) h | exact fun w h => St.rowF (by repeat (first | exact List.Mem.head _ | apply List.Mem.tail)) h | exact fun w h => Hd.rowF (by repeat (first | exact List.Mem.head _ | apply List.Mem.tail)) h) (by assumption) ?_
      | refine XL.lenS (by rfl) (by rfl) (by rfl) (by rfl) (by rfl) (by rfl) (by rfl) ?_
      | refine XL.lenStr (by rfl) (by rfl) (by rfl) (by rfl) (by rfl) (by rfl) (by rfl) ?_
      | refine XL.succ (by rfl) (by rfl) (by rfl) (by rfl) (by rfl) (by rfl) (by omega) ?_
      | refine XL.addn (by rfl) (by rfl) (by rfl) (by rfl) (by rfl) (by rfl) (by omega) ?_
      | refine XL.add (by rfl) (by rfl) (by rfl) (by rfl) (by rfl) (by rfl) (by omega) ?_
      | refine XL.pred (by rfl) (by rfl) (by rfl) (by rfl) (by rfl) (by rfl) (by omega) ?_
      | refine XL.subn (by rfl) (by rfl) (by rfl) (by rfl) (by rfl) (by rfl) (by omega) ?_
      | refine XL.sub (by rfl) (by rfl) (by rfl) (by rfl) (by rfl) (by rfl) (by omega) ?_
      | refine XL.min2 (by rfl) (by rfl) (by rfl) (by rfl) (by rfl) (by rfl) ?_
      | refine XL.max2 (by rfl) (by rfl) (by rfl) (by rfl) (by rfl) (by rfl) ?_
      | refine XL.eqB (by rfl) (by rfl) (by rfl) (by rfl) (by rfl) (by rfl) (by rfl) ?_
      | refine XL.neB (by rfl) (by rfl) (by rfl) (by rfl) (by rfl) (by rfl) (by rfl) ?_
      | refine XL.psome (by rfl) (by rfl) (by rfl) (by rfl) (by rfl) (by rfl) (by rfl) ?_
      | refine XL.pnone (by rfl) (by rfl) (by rfl) (by rfl) (by rfl) (by rfl) (by rfl) ?_
      | refine XL.psome' (by rfl) (by rfl) (by rfl) (by rfl) (by rfl) (by rfl) (by rfl) ?_
      | refine XL.pnone' (by rfl) (by rfl) (by rfl) (by rfl) (by rfl) (by rfl) (by rfl) ?_
      | refine XL.conv64 (by rfl) (by rfl) (by rfl) (by rfl) (by rfl) (by rfl) (by rfl) (by omega) ?_)
  refine XL.triq (shown_tri) (by rfl) (by rfl) (by rfl) (by rfl) (by rfl) (by rfl) (by rfl) (by repeat' (first | exact Sels.nil | exact Sel.here | apply Sels.cons | apply Sel.there)) (by repeat' (first | exact Sels.nil | exact Sel.here | apply Sels.cons | apply Sel.there)) (fun _ h => nomatch h) ?_
  repeat' (first
    | refine XC.seq ?_
      | refine XC.region ?_
      | refine XC.block ?_
      | refine XC.skip ?_
      | refine XC.ret ?_
      | refine XC.exit ?_
      | (refine XC.cond_d (by rfl) (fun h => ?_) (fun h => ?_) <;> try (first | (exfalso; omega) | exact absurd rfl h | (exfalso; simp at h <;> omega)))
      | refine XC.cond_t (by rfl) ?_
      | refine XC.cond_f (by rfl) ?_
      | refine XQ.next ?_
      | refine XQ.blockN ?_
      | refine XQ.blockR ?_
      | refine XQ.blockE ?_
      | refine XQ.sqR ?_
      | refine XQ.sqE ?_
      | refine XQ.rdR ?_
      | refine XQ.rdE ?_
      | refine XQ.mtR ?_
      | refine XQ.mtE ?_
    | refine XL.nil ?_
      | (refine XL.guard_d (by rfl) (by rfl) (fun h => ?_) (fun h => ?_) <;> try (first | (exfalso; omega) | exact absurd rfl h | (exfalso; simp at h <;> omega)))
      | refine XL.pures (by rfl) (by rfl) (by rfl) (by rfl) (by rfl) ?_
      | refine XL.not_d (by rfl) (by rfl) (by rfl) (by rfl) (by rfl) ?_
      | refine XL.pure 1 (by rfl) ?_
      | refine XL.fa0 (by rfl) (by rfl) (by rfl) (by rfl) (by rfl) (by rfl) ?_
      | refine XL.ld (by rfl) (by rfl) (by rfl) (by rfl) (by rfl) (by rfl) (by repeat (first | exact Sel.here | apply Sel.there)) (by rfl) ?_
      | refine XL.fa (by rfl) (by rfl) (by rfl) (by rfl) (by rfl) (by rfl) ?_
      | refine XL.ia1 (by rfl) (by rfl) (by rfl) (by rfl) (by rfl) (by rfl) (by rfl) (by omega) ?_
      | refine XL.ldr (by rfl) (by rfl) (by rfl) (by rfl) (by rfl) (by rfl) (by repeat (first | exact Sel.here | apply Sel.there)) (by assumption) ?_
      | refine XL.stl (by rfl) (by rfl) (by rfl) (by rfl) (by rfl) (by rfl) (by rfl) (by repeat (first | exact Sel.here | apply Sel.there)) (by rfl) ?_
      | refine XL.lenR (by rfl) (by rfl) (by rfl) (by rfl) (by rfl) (by rfl) (by rfl) (by first | exact fun w h => St.row (by repeat (first | exact Sel.here | apply Sel.there)) h | exact fun w h => St.rowF (by repeat (first | exact List.Mem.head _ | apply List.Mem.tail)) h | exact fun w h => Hd.rowF (by repeat (first | exact List.Mem.head _ | apply List.Mem.tail)) h) ?_
      | refine XL.iaR1 (by rfl) (by rfl) (by rfl) (by rfl) (by rfl) (by rfl) (by rfl) (by first | exact fun w h => St.row (by repeat (first | exact Sel.here | apply Sel.there)) h | exact fun w h => St.rowF (by repeat (first | exact List.Mem.head _ | apply List.Mem.tail)) h | exact fun w h => Hd.rowF (by repeat (first | exact List.Mem.head _ | apply List.Mem.tail)) h) (by omega) ?_
      | refine XL.iaR2 (by rfl) (by rfl) (by rfl) (by rfl) (by rfl) (by rfl) (by first | exact fun w h => St.row (by repeat (first | exact Sel.here | apply Sel.there)) h | exact fun w h => St.rowF (by repeat (first | exact List.Mem.head _ | apply List.Mem.tail)) h | exact fun w h => Hd.rowF (by repeat (first | exact List.Mem.head _ | apply List.Mem.tail)) h) (by rfl) (by omega) ?_
      | refine XL.faR (by rfl) (by rfl) (by rfl) (by rfl) (by rfl) (by rfl) (by first | exact fun w h => St.row (by repeat (first | exact Sel.here | apply Sel.there)) h | exact fun w h => St.rowF (by repeat (first | exact List.Mem.head _ | apply List.Mem.tail)) h | exact fun w h => Hd.rowF (by repeat (first | exact List.Mem.head _ | apply List.Mem.tail)) h) (by assumption) ?_
      | refine XL.ldR (by rfl) (by rfl) (by rfl) (by rfl) (by rfl) (by rfl) (by first | exact fun w h => St.row (by repeat (first | exact Sel.here | apply Sel.there)) h | exact fun w h => St.rowF (by repeat (first | exact List.Mem.head _ | apply List.Mem.tail)) h | exact fun w h => Hd.rowF (by repeat (first | exact List.Mem.head _ | apply List.Mem.tail)) h) (by assumption) ?_
      | refine XL.lenS (by rfl) (by rfl) (by rfl) (by rfl) (by rfl) (by rfl) (by rfl) ?_
      | refine XL.lenStr (by rfl) (by rfl) (by rfl) (by rfl) (by rfl) (by rfl) (by rfl) ?_
      | refine XL.succ (by rfl) (by rfl) (by rfl) (by rfl) (by rfl) (by rfl) (by omega) ?_
      | refine XL.addn (by rfl) (by rfl) (by rfl) (by rfl) (by rfl) (by rfl) (by omega) ?_
      | refine XL.add (by rfl) (by rfl) (by rfl) (by rfl) (by rfl) (by rfl) (by omega) ?_
      | refine XL.pred (by rfl) (by rfl) (by rfl) (by rfl) (by rfl) (by rfl) (by omega) ?_
      | refine XL.subn (by rfl) (by rfl) (by rfl) (by rfl) (by rfl) (by rfl) (by omega) ?_
      | refine XL.sub (by rfl) (by rfl) (by rfl) (by rfl) (by rfl) (by rfl) (by omega) ?_
      | refine XL.min2 (by rfl) (by rfl) (by rfl) (by rfl) (by rfl) (by rfl) ?_
      | refine XL.max2 (by rfl) (by rfl) (by rfl) (by rfl) (by rfl) (by rfl) ?_
      | refine XL.eqB (by rfl) (by rfl) (by rfl) (by rfl) (by rfl) (by rfl) (by rfl) ?_
      | refine XL.neB (by rfl) (by rfl) (by rfl) (by rfl) (by rfl) (by rfl) (by rfl) ?_
      | refine XL.psome (by rfl) (by rfl) (by rfl) (by rfl) (by rfl) (by rfl) (by rfl) ?_
      | refine XL.pnone (by rfl) (by rfl) (by rfl) (by rfl) (by rfl) (by rfl) (by rfl) ?_
      | refine XL.psome' (by rfl) (by rfl) (by rfl) (by rfl) (by rfl) (by rfl) (by rfl) ?_
      | refine XL.pnone' (by rfl) (by rfl) (by rfl) (by rfl) (by rfl) (by rfl) (by rfl) ?_
      | refine XL.conv64 (by rfl) (by rfl) (by rfl) (by rfl) (by rfl) (by rfl) (by rfl) (by omega) ?_)
  rw [ek]
  refine XL.trir (new_is (i := (k : Int)) (n := k) (by omega)) (by rfl) (by rfl) (by rfl) (by rfl) (by rfl) (by rfl) (by rfl) (by repeat' (first | exact Sels.nil | exact Sel.here | apply Sels.cons | apply Sel.there)) (fun _ h => nomatch h) ?_
  rintro gb -
  conv => arg 9; dsimp only [List.cons_append, List.nil_append]
  try conv => arg 7; dsimp only
  repeat' (first
    | refine XC.seq ?_
      | refine XC.region ?_
      | refine XC.block ?_
      | refine XC.skip ?_
      | refine XC.ret ?_
      | refine XC.exit ?_
      | (refine XC.cond_d (by rfl) (fun h => ?_) (fun h => ?_) <;> try (first | (exfalso; omega) | exact absurd rfl h | (exfalso; simp at h <;> omega)))
      | refine XC.cond_t (by rfl) ?_
      | refine XC.cond_f (by rfl) ?_
      | refine XQ.next ?_
      | refine XQ.blockN ?_
      | refine XQ.blockR ?_
      | refine XQ.blockE ?_
      | refine XQ.sqR ?_
      | refine XQ.sqE ?_
      | refine XQ.rdR ?_
      | refine XQ.rdE ?_
      | refine XQ.mtR ?_
      | refine XQ.mtE ?_
    | refine XL.nil ?_
      | (refine XL.guard_d (by rfl) (by rfl) (fun h => ?_) (fun h => ?_) <;> try (first | (exfalso; omega) | exact absurd rfl h | (exfalso; simp at h <;> omega)))
      | refine XL.pures (by rfl) (by rfl) (by rfl) (by rfl) (by rfl) ?_
      | refine XL.not_d (by rfl) (by rfl) (by rfl) (by rfl) (by rfl) ?_
      | refine XL.pure 1 (by rfl) ?_
      | refine XL.fa0 (by rfl) (by rfl) (by rfl) (by rfl) (by rfl) (by rfl) ?_
      | refine XL.ld (by rfl) (by rfl) (by rfl) (by rfl) (by rfl) (by rfl) (by repeat (first | exact Sel.here | apply Sel.there)) (by rfl) ?_
      | refine XL.fa (by rfl) (by rfl) (by rfl) (by rfl) (by rfl) (by rfl) ?_
      | refine XL.ia1 (by rfl) (by rfl) (by rfl) (by rfl) (by rfl) (by rfl) (by rfl) (by omega) ?_
      | refine XL.ldr (by rfl) (by rfl) (by rfl) (by rfl) (by rfl) (by rfl) (by repeat (first | exact Sel.here | apply Sel.there)) (by assumption) ?_
      | refine XL.stl (by rfl) (by rfl) (by rfl) (by rfl) (by rfl) (by rfl) (by rfl) (by repeat (first | exact Sel.here | apply Sel.there)) (by rfl) ?_
      | refine XL.lenR (by rfl) (by rfl) (by rfl) (by rfl) (by rfl) (by rfl) (by rfl) (by first | exact fun w h => St.row (by repeat (first | exact Sel.here | apply Sel.there)) h | exact fun w h => St.rowF (by repeat (first | exact List.Mem.head _ | apply List.Mem.tail)) h | exact fun w h => Hd.rowF (by repeat (first | exact List.Mem.head _ | apply List.Mem.tail)) h) ?_
      | refine XL.iaR1 (by rfl) (by rfl) (by rfl) (by rfl) (by rfl) (by rfl) (by rfl) (by first | exact fun w h => St.row (by repeat (first | exact Sel.here | apply Sel.there)) h | exact fun w h => St.rowF (by repeat (first | exact List.Mem.head _ | apply List.Mem.tail)) h | exact fun w h => Hd.rowF (by repeat (first | exact List.Mem.head _ | apply List.Mem.tail)) h) (by omega) ?_
      | refine XL.iaR2 (by rfl) (by rfl) (by rfl) (by rfl) (by rfl) (by rfl) (by first | exact fun w h => St.row (by repeat (first | exact Sel.here | apply Sel.there)) h | exact fun w h => St.rowF (by repeat (first | exact List.Mem.head _ | apply List.Mem.tail)) h | exact fun w h => Hd.rowF (by repeat (first | exact List.Mem.head _ | apply List.Mem.tail)) h) (by rfl) (by omega) ?_
      | refine XL.faR (by rfl) (by rfl) (by rfl) (by rfl) (by rfl) (by rfl) (by first | exact fun w h => St.row (by repeat (first | exact Sel.here | apply Sel.there)) h | exact fun w h => St.rowF (by repeat (first | exact List.Mem.head _ | apply List.Mem.tail)) h | exact fun w h => Hd.rowF (by repeat (first | exact List.Mem.head _ | apply List.Mem.tail)) h) (by assumption) ?_
      | refine XL.ldR (by rfl) (by rfl) (by rfl) (by rfl) (by rfl) (by rfl) (by first | exact fun w h => St.row (by repeat (first | exact Sel.here | apply Sel.there)) h | exact fun w h => St.rowF (by repeat (first | exact List.Mem.head _ | apply List.Mem.tail)) h | exact fun w h => Hd.rowF (by repeat (first | exact List.Mem.head _ | apply List.Mem.tail)) h) (by assumption) ?_
      | refine XL.lenS (by rfl) (by rfl) (by rfl) (by rfl) (by rfl) (by rfl) (by rfl) ?_
      | refine XL.lenStr (by rfl) (by rfl) (by rfl) (by rfl) (by rfl) (by rfl) (by rfl) ?_
      | refine XL.succ (by rfl) (by rfl) (by rfl) (by rfl) (by rfl) (by rfl) (by omega) ?_
      | refine XL.addn (by rfl) (by rfl) (by rfl) (by rfl) (by rfl) (by rfl) (by omega) ?_
      | refine XL.add (by rfl) (by rfl) (by rfl) (by rfl) (by rfl) (by rfl) (by omega) ?_
      | refine XL.pred (by rfl) (by rfl) (by rfl) (by rfl) (by rfl) (by rfl) (by omega) ?_
      | refine XL.subn (by rfl) (by rfl) (by rfl) (by rfl) (by rfl) (by rfl) (by omega) ?_
      | refine XL.sub (by rfl) (by rfl) (by rfl) (by rfl) (by rfl) (by rfl) (by omega) ?_
      | refine XL.min2 (by rfl) (by rfl) (by rfl) (by rfl) (by rfl) (by rfl) ?_
      | refine XL.max2 (by rfl) (by rfl) (by rfl) (by rfl) (by rfl) (by rfl) ?_
      | refine XL.eqB (by rfl) (by rfl) (by rfl) (by rfl) (by rfl) (by rfl) (by rfl) ?_
      | refine XL.neB (by rfl) (by rfl) (by rfl) (by rfl) (by rfl) (by rfl) (by rfl) ?_
      | refine XL.psome (by rfl) (by rfl) (by rfl) (by rfl) (by rfl) (by rfl) (by rfl) ?_
      | refine XL.pnone (by rfl) (by rfl) (by rfl) (by rfl) (by rfl) (by rfl) (by rfl) ?_
      | refine XL.psome' (by rfl) (by rfl) (by rfl) (by rfl) (by rfl) (by rfl) (by rfl) ?_
      | refine XL.pnone' (by rfl) (by rfl) (by rfl) (by rfl) (by rfl) (by rfl) (by rfl) ?_
      | refine XL.conv64 (by rfl) (by rfl) (by rfl) (by rfl) (by rfl) (by rfl) (by rfl) (by omega) ?_)
  refine XL.remn (by rfl) (by rfl) (by rfl) (by rfl) (by rfl) (by rfl) (by omega) ?_
  obtain ⟨a, ha⟩ : ∃ a : Nat, f % k = a := ⟨_, rfl⟩
  have ha2 : a < k := by rw [← ha]; exact Nat.mod_lt _ (by omega)
  rw [ha]
  repeat' (first
    | refine XC.seq ?_
      | refine XC.region ?_
      | refine XC.block ?_
      | refine XC.skip ?_
      | refine XC.ret ?_
      | refine XC.exit ?_
      | (refine XC.cond_d (by rfl) (fun h => ?_) (fun h => ?_) <;> try (first | (exfalso; omega) | exact absurd rfl h | (exfalso; simp at h <;> omega)))
      | refine XC.cond_t (by rfl) ?_
      | refine XC.cond_f (by rfl) ?_
      | refine XQ.next ?_
      | refine XQ.blockN ?_
      | refine XQ.blockR ?_
      | refine XQ.blockE ?_
      | refine XQ.sqR ?_
      | refine XQ.sqE ?_
      | refine XQ.rdR ?_
      | refine XQ.rdE ?_
      | refine XQ.mtR ?_
      | refine XQ.mtE ?_
    | refine XL.nil ?_
      | (refine XL.guard_d (by rfl) (by rfl) (fun h => ?_) (fun h => ?_) <;> try (first | (exfalso; omega) | exact absurd rfl h | (exfalso; simp at h <;> omega)))
      | refine XL.pures (by rfl) (by rfl) (by rfl) (by rfl) (by rfl) ?_
      | refine XL.not_d (by rfl) (by rfl) (by rfl) (by rfl) (by rfl) ?_
      | refine XL.pure 1 (by rfl) ?_
      | refine XL.fa0 (by rfl) (by rfl) (by rfl) (by rfl) (by rfl) (by rfl) ?_
      | refine XL.ld (by rfl) (by rfl) (by rfl) (by rfl) (by rfl) (by rfl) (by repeat (first | exact Sel.here | apply Sel.there)) (by rfl) ?_
      | refine XL.fa (by rfl) (by rfl) (by rfl) (by rfl) (by rfl) (by rfl) ?_
      | refine XL.ia1 (by rfl) (by rfl) (by rfl) (by rfl) (by rfl) (by rfl) (by rfl) (by omega) ?_
      | refine XL.ldr (by rfl) (by rfl) (by rfl) (by rfl) (by rfl) (by rfl) (by repeat (first | exact Sel.here | apply Sel.there)) (by assumption) ?_
      | refine XL.stl (by rfl) (by rfl) (by rfl) (by rfl) (by rfl) (by rfl) (by rfl) (by repeat (first | exact Sel.here | apply Sel.there)) (by rfl) ?_
      | refine XL.lenR (by rfl) (by rfl) (by rfl) (by rfl) (by rfl) (by rfl) (by rfl) (by first | exact fun w h => St.row (by repeat (first | exact Sel.here | apply Sel.there)) h | exact fun w h => St.rowF (by repeat (first | exact List.Mem.head _ | apply List.Mem.tail)) h | exact fun w h => Hd.rowF (by repeat (first | exact List.Mem.head _ | apply List.Mem.tail)) h) ?_
      | refine XL.iaR1 (by rfl) (by rfl) (by rfl) (by rfl) (by rfl) (by rfl) (by rfl) (by first | exact fun w h => St.row (by repeat (first | exact Sel.here | apply Sel.there)) h | exact fun w h => St.rowF (by repeat (first | exact List.Mem.head _ | apply List.Mem.tail)) h | exact fun w h => Hd.rowF (by repeat (first | exact List.Mem.head _ | apply List.Mem.tail)) h) (by omega) ?_
      | refine XL.iaR2 (by rfl) (by rfl) (by rfl) (by rfl) (by rfl) (by rfl) (by first | exact fun w h => St.row (by repeat (first | exact Sel.here | apply Sel.there)) h | exact fun w h => St.rowF (by repeat (first | exact List.Mem.head _ | apply List.Mem.tail)) h | exact fun w h => Hd.rowF (by repeat (first | exact List.Mem.head _ | apply List.Mem.tail)) h) (by rfl) (by omega) ?_
      | refine XL.faR (by rfl) (by rfl) (by rfl) (by rfl) (by rfl) (by rfl) (by first | exact fun w h => St.row (by repeat (first | exact Sel.here | apply Sel.there)) h | exact fun w h => St.rowF (by repeat (first | exact List.Mem.head _ | apply List.Mem.tail)) h | exact fun w h => Hd.rowF (by repeat (first | exact List.Mem.head _ | apply List.Mem.tail)) h) (by assumption) ?_
      | refine XL.ldR (by rfl) (by rfl) (by rfl) (by rfl) (by rfl) (by rfl) (by first | exact fun w h => St.row (by repeat (first | exact Sel.here | apply Sel.there)) h | exact fun w h => St.rowF (by repeat (first | exact List.Mem.head _ | apply List.Mem.tail)) h | exact fun w h => Hd.rowF (by repeat (first | exact List.Mem.head _ | apply List.Mem.tail)) h) (by assumption) ?_
      | refine XL.lenS (by rfl) (by rfl) (by rfl) (by rfl) (by rfl) (by rfl) (by rfl) ?_
      | refine XL.lenStr (by rfl) (by rfl) (by rfl) (by rfl) (by rfl) (by rfl) (by rfl) ?_
      | refine XL.succ (by rfl) (by rfl) (by rfl) (by rfl) (by rfl) (by rfl) (by omega) ?_
      | refine XL.addn (by rfl) (by rfl) (by rfl) (by rfl) (by rfl) (by rfl) (by omega) ?_
      | refine XL.add (by rfl) (by rfl) (by rfl) (by rfl) (by rfl) (by rfl) (by omega) ?_
      | refine XL.pred (by rfl) (by rfl) (by rfl) (by rfl) (by rfl) (by rfl) (by omega) ?_
      | refine XL.subn (by rfl) (by rfl) (by rfl) (by rfl) (by rfl) (by rfl) (by omega) ?_
      | refine XL.sub (by rfl) (by rfl) (by rfl) (by rfl) (by rfl) (by rfl) (by omega) ?_
      | refine XL.min2 (by rfl) (by rfl) (by rfl) (by rfl) (by rfl) (by rfl) ?_
      | refine XL.max2 (by rfl) (by rfl) (by rfl) (by rfl) (by rfl) (by rfl) ?_
      | refine XL.eqB (by rfl) (by rfl) (by rfl) (by rfl) (by rfl) (by rfl) (by rfl) ?_
      | refine XL.neB (by rfl) (by rfl) (by rfl) (by rfl) (by rfl) (by rfl) (by rfl) ?_
      | refine XL.psome (by rfl) (by rfl) (by rfl) (by rfl) (by rfl) (by rfl) (by rfl) ?_
      | refine XL.pnone (by rfl) (by rfl) (by rfl) (by rfl) (by rfl) (by rfl) (by rfl) ?_
      | refine XL.psome' (by rfl) (by rfl) (by rfl) (by rfl) (by rfl) (by rfl) (by rfl) ?_
      | refine XL.pnone' (by rfl) (by rfl) (by rfl) (by rfl) (by rfl) (by rfl) (by rfl) ?_
      | refine XL.conv64 (by rfl) (by rfl) (by rfl) (by rfl) (by rfl) (by rfl) (by rfl) (by omega) ?_)
  refine XL.remn (by rfl) (by rfl) (by rfl) (by rfl) (by rfl) (by rfl) (by omega) ?_
  obtain ⟨m, hm⟩ : ∃ m : Nat, t % (k - a) = m := ⟨_, rfl⟩
  have hm2 : m < k - a := by rw [← hm]; exact Nat.mod_lt _ (by omega)
  rw [hm]
  repeat' (first
    | refine XC.seq ?_
    | refine XC.skip ?_
    | refine XC.region ?_
    | refine XQ.next ?_
    | refine XQ.blockN ?_
    | refine XL.nil ?_
      | (refine XL.guard_d (by rfl) (by rfl) (fun h => ?_) (fun h => ?_) <;> try (first | (exfalso; omega) | exact absurd rfl h | (exfalso; simp at h <;> omega)))
      | refine XL.pures (by rfl) (by rfl) (by rfl) (by rfl) (by rfl) ?_
      | refine XL.not_d (by rfl) (by rfl) (by rfl) (by rfl) (by rfl) ?_
      | refine XL.pure 1 (by rfl) ?_
      | refine XL.fa0 (by rfl) (by rfl) (by rfl) (by rfl) (by rfl) (by rfl) ?_
      | refine XL.ld (by rfl) (by rfl) (by rfl) (by rfl) (by rfl) (by rfl) (by repeat (first | exact Sel.here | apply Sel.there)) (by rfl) ?_
      | refine XL.fa (by rfl) (by rfl) (by rfl) (by rfl) (by rfl) (by rfl) ?_
      | refine XL.ia1 (by rfl) (by rfl) (by rfl) (by rfl) (by rfl) (by rfl) (by rfl) (by omega) ?_
      | refine XL.ldr (by rfl) (by rfl) (by rfl) (by rfl) (by rfl) (by rfl) (by repeat (first | exact Sel.here | apply Sel.there)) (by assumption) ?_
      | refine XL.stl (by rfl) (by rfl) (by rfl) (by rfl) (by rfl) (by rfl) (by rfl) (by repeat (first | exact Sel.here | apply Sel.there)) (by rfl) ?_
      | refine XL.lenR (by rfl) (by rfl) (by rfl) (by rfl) (by rfl) (by rfl) (by rfl) (by first | exact fun w h => St.row (by repeat (first | exact Sel.here | apply Sel.there)) h | exact fun w h => St.rowF (by repeat (first | exact List.Mem.head _ | apply List.Mem.tail)) h | exact fun w h => Hd.rowF (by repeat (first | exact List.Mem.head _ | apply List.Mem.tail)) h) ?_
      | refine XL.iaR1 (by rfl) (by rfl) (by rfl) (by rfl) (by rfl) (by rfl) (by rfl) (by first | exact fun w h => St.row (by repeat (first | exact Sel.here | apply Sel.there)) h | exact fun w h => St.rowF (by repeat (first | exact List.Mem.head _ | apply List.Mem.tail)) h | exact fun w h => Hd.rowF (by repeat (first | exact List.Mem.head _ | apply List.Mem.tail)) h) (by omega) ?_
      | refine XL.iaR2 (by rfl) (by rfl) (by rfl) (by rfl) (by rfl) (by rfl) (by first | exact fun w h => St.row (by repeat (first | exact Sel.here | apply Sel.there)) h | exact fun w h => St.rowF (by repeat (first | exact List.Mem.head _ | apply List.Mem.tail)) h | exact fun w h => Hd.rowF (by repeat (first | exact List.Mem.head _ | apply List.Mem.tail)) h) (by rfl) (by omega) ?_
      | refine XL.faR (by rfl) (by rfl) (by rfl) (by rfl) (by rfl) (by rfl) (by first | exact fun w h => St.row (by repeat (first | exact Sel.here | apply Sel.there)) h | exact fun w h => St.rowF (by repeat (first | exact List.Mem.head _ | apply List.Mem.tail)) h | exact fun w h => Hd.rowF (by repeat (first | exact List.Mem.head _ | apply List.Mem.tail)) h) (by assumption) ?_
      | refine XL.ldR (by rfl) (by rfl) (by rfl) (by rfl) (by rfl) (by rfl) (by first | exact fun w h => St.row (by repeat (first | exact Sel.here | apply Sel.there)) h | exact fun w h => St.rowF (by repeat (first | exact List.Mem.head _ | apply List.Mem.tail)) h | exact fun w h => Hd.rowF (by repeat (first | exact List.Mem.head _ | apply List.Mem.tail)) h) (by assumption) ?_
      | refine XL.lenS (by rfl) (by rfl) (by rfl) (by rfl) (by rfl) (by rfl) (by rfl) ?_
      | refine XL.lenStr (by rfl) (by rfl) (by rfl) (by rfl) (by rfl) (by rfl) (by rfl) ?_
      | refine XL.succ (by rfl) (by rfl) (by rfl) (by rfl) (by rfl) (by rfl) (by omega) ?_
      | refine XL.addn (by rfl) (by rfl) (by rfl) (by rfl) (by rfl) (by rfl) (by omega) ?_
      | refine XL.add (by rfl) (by rfl) (by rfl) (by rfl) (by rfl) (by rfl) (by omega) ?_
      | refine XL.pred (by rfl) (by rfl) (by rfl) (by rfl) (by rfl) (by rfl) (by omega) ?_
      | refine XL.subn (by rfl) (by rfl) (by rfl) (by rfl) (by rfl) (by rfl) (by omega) ?_
      | refine XL.sub (by rfl) (by rfl) (by rfl) (by rfl) (by rfl) (by rfl) (by omega) ?_
      | refine XL.min2 (by rfl) (by rfl) (by rfl) (by rfl) (by rfl) (by rfl) ?_
      | refine XL.max2 (by rfl) (by rfl) (by rfl) (by rfl) (by rfl) (by rfl) ?_
      | refine XL.eqB (by rfl) (by rfl) (by rfl) (by rfl) (by rfl) (by rfl) (by rfl) ?_
      | refine XL.neB (by rfl) (by rfl) (by rfl) (by rfl) (by rfl) (by rfl) (by rfl) ?_
      | refine XL.psome (by rfl) (by rfl) (by rfl) (by rfl) (by rfl) (by rfl) (by rfl) ?_
      | refine XL.pnone (by rfl) (by rfl) (by rfl) (by rfl) (by rfl) (by rfl) (by rfl) ?_
      | refine XL.psome' (by rfl) (by rfl) (by rfl) (by rfl) (by rfl) (by rfl) (by rfl) ?_
      | refine XL.pnone' (by rfl) (by rfl) (by rfl) (by rfl) (by rfl) (by rfl) (by rfl) ?_
      | refine XL.conv64 (by rfl) (by rfl) (by rfl) (by rfl) (by rfl) (by rfl) (by rfl) (by omega) ?_)
  refine XC.cutS (fun _ : Unit => [(9, .bool true), (10, .int .i64 (k : Int)), (11, .pointer (some ⟨gb, 0, none⟩)), (12, .int .i64 (a : Int)), (13, .int .i64 ((a + m : Nat) : Int))])
    (fun _ w => (cnt k (chain k a (a + m)) + m = k) ∧ St c [groups (.pointer (some ⟨gb, 0, none⟩)) k (chain k a (a + m))] [] w) ?_ ?_
  · repeat' (first
    | refine XC.seq ?_
      | refine XC.region ?_
      | refine XC.block ?_
      | refine XC.skip ?_
      | refine XC.ret ?_
      | refine XC.exit ?_
      | (refine XC.cond_d (by rfl) (fun h => ?_) (fun h => ?_) <;> try (first | (exfalso; omega) | exact absurd rfl h | (exfalso; simp at h <;> omega)))
      | refine XC.cond_t (by rfl) ?_
      | refine XC.cond_f (by rfl) ?_
      | refine XQ.next ?_
      | refine XQ.blockN ?_
      | refine XQ.blockR ?_
      | refine XQ.blockE ?_
      | refine XQ.sqR ?_
      | refine XQ.sqE ?_
      | refine XQ.rdR ?_
      | refine XQ.rdE ?_
      | refine XQ.mtR ?_
      | refine XQ.mtE ?_
    | refine XL.nil ?_
      | (refine XL.guard_d (by rfl) (by rfl) (fun h => ?_) (fun h => ?_) <;> try (first | (exfalso; omega) | exact absurd rfl h | (exfalso; simp at h <;> omega)))
      | refine XL.pures (by rfl) (by rfl) (by rfl) (by rfl) (by rfl) ?_
      | refine XL.not_d (by rfl) (by rfl) (by rfl) (by rfl) (by rfl) ?_
      | refine XL.pure 1 (by rfl) ?_
      | refine XL.fa0 (by rfl) (by rfl) (by rfl) (by rfl) (by rfl) (by rfl) ?_
      | refine XL.ld (by rfl) (by rfl) (by rfl) (by rfl) (by rfl) (by rfl) (by repeat (first | exact Sel.here | apply Sel.there)) (by rfl) ?_
      | refine XL.fa (by rfl) (by rfl) (by rfl) (by rfl) (by rfl) (by rfl) ?_
      | refine XL.ia1 (by rfl) (by rfl) (by rfl) (by rfl) (by rfl) (by rfl) (by rfl) (by omega) ?_
      | refine XL.ldr (by rfl) (by rfl) (by rfl) (by rfl) (by rfl) (by rfl) (by repeat (first | exact Sel.here | apply Sel.there)) (by assumption) ?_
      | refine XL.stl (by rfl) (by rfl) (by rfl) (by rfl) (by rfl) (by rfl) (by rfl) (by repeat (first | exact Sel.here | apply Sel.there)) (by rfl) ?_
      | refine XL.lenR (by rfl) (by rfl) (by rfl) (by rfl) (by rfl) (by rfl) (by rfl) (by first | exact fun w h => St.row (by repeat (first | exact Sel.here | apply Sel.there)) h | exact fun w h => St.rowF (by repeat (first | exact List.Mem.head _ | apply List.Mem.tail)) h | exact fun w h => Hd.rowF (by repeat (first | exact List.Mem.head _ | apply List.Mem.tail)) h) ?_
      | refine XL.iaR1 (by rfl) (by rfl) (by rfl) (by rfl) (by rfl) (by rfl) (by rfl) (by first | exact fun w h => St.row (by repeat (first | exact Sel.here | apply Sel.there)) h | exact fun w h => St.rowF (by repeat (first | exact List.Mem.head _ | apply List.Mem.tail)) h | exact fun w h => Hd.rowF (by repeat (first | exact List.Mem.head _ | apply List.Mem.tail)) h) (by omega) ?_
      | refine XL.iaR2 (by rfl) (by rfl) (by rfl) (by rfl) (by rfl) (by rfl) (by first | exact fun w h => St.row (by repeat (first | exact Sel.here | apply Sel.there)) h | exact fun w h => St.rowF (by repeat (first | exact List.Mem.head _ | apply List.Mem.tail)) h | exact fun w h => Hd.rowF (by repeat (first | exact List.Mem.head _ | apply List.Mem.tail)) h) (by rfl) (by omega) ?_
      | refine XL.faR (by rfl) (by rfl) (by rfl) (by rfl) (by rfl) (by rfl) (by first | exact fun w h => St.row (by repeat (first | exact Sel.here | apply Sel.there)) h | exact fun w h => St.rowF (by repeat (first | exact List.Mem.head _ | apply List.Mem.tail)) h | exact fun w h => Hd.rowF (by repeat (first | exact List.Mem.head _ | apply List.Mem.tail)) h) (by assumption) ?_
      | refine XL.ldR (by rfl) (by rfl) (by rfl) (by rfl) (by rfl) (by rfl) (by first | exact fun w h => St.row (by repeat (first | exact Sel.here | apply Sel.there)) h | exact fun w h => St.rowF (by repeat (first | exact List.Mem.head _ | apply List.Mem.tail)) h | exact fun w h => Hd.rowF (by repeat (first | exact List.Mem.head _ | apply List.Mem.tail)) h) (by assumption) ?_
      | refine XL.lenS (by rfl) (by rfl) (by rfl) (by rfl) (by rfl) (by rfl) (by rfl) ?_
      | refine XL.lenStr (by rfl) (by rfl) (by rfl) (by rfl) (by rfl) (by rfl) (by rfl) ?_
      | refine XL.succ (by rfl) (by rfl) (by rfl) (by rfl) (by rfl) (by rfl) (by omega) ?_
      | refine XL.addn (by rfl) (by rfl) (by rfl) (by rfl) (by rfl) (by rfl) (by omega) ?_
      | refine XL.add (by rfl) (by rfl) (by rfl) (by rfl) (by rfl) (by rfl) (by omega) ?_
      | refine XL.pred (by rfl) (by rfl) (by rfl) (by rfl) (by rfl) (by rfl) (by omega) ?_
      | refine XL.subn (by rfl) (by rfl) (by rfl) (by rfl) (by rfl) (by rfl) (by omega) ?_
      | refine XL.sub (by rfl) (by rfl) (by rfl) (by rfl) (by rfl) (by rfl) (by omega) ?_
      | refine XL.min2 (by rfl) (by rfl) (by rfl) (by rfl) (by rfl) (by rfl) ?_
      | refine XL.max2 (by rfl) (by rfl) (by rfl) (by rfl) (by rfl) (by rfl) ?_
      | refine XL.eqB (by rfl) (by rfl) (by rfl) (by rfl) (by rfl) (by rfl) (by rfl) ?_
      | refine XL.neB (by rfl) (by rfl) (by rfl) (by rfl) (by rfl) (by rfl) (by rfl) ?_
      | refine XL.psome (by rfl) (by rfl) (by rfl) (by rfl) (by rfl) (by rfl) (by rfl) ?_
      | refine XL.pnone (by rfl) (by rfl) (by rfl) (by rfl) (by rfl) (by rfl) (by rfl) ?_
      | refine XL.psome' (by rfl) (by rfl) (by rfl) (by rfl) (by rfl) (by rfl) (by rfl) ?_
      | refine XL.pnone' (by rfl) (by rfl) (by rfl) (by rfl) (by rfl) (by rfl) (by rfl) ?_
      | refine XL.conv64 (by rfl) (by rfl) (by rfl) (by rfl) (by rfl) (by rfl) (by rfl) (by omega) ?_)
    cases dn
    · refine XC.loop (fun s : Nat => [(3, .bool false), (9, .bool true), (10, .int .i64 (k : Int)), (11, .pointer (some ⟨gb, 0, none⟩)), (12, .int .i64 (a : Int)), (13, .int .i64 ((a + m : Nat) : Int)), (14, .int .i64 ((a + s : Nat) : Int))])
        (fun s w => (s ≤ m ∧ Good k (chain k a (a + s)) ∧ cnt k (chain k a (a + s)) + s = k) ∧ St c [groups (.pointer (some ⟨gb, 0, none⟩)) k (chain k a (a + s))] [] w)
        (fun s => m - s) 0 (by repeat (first | exact fits_nil | refine fits_cons (by rfl) ?_)) (fun w hw => ⟨⟨Nat.zero_le _, ?_, ?_⟩, ?_⟩) ?_
      · first
          | rw [Nat.add_zero, chain_self]; exact Good.new k
          | rw [Nat.sub_zero, chain_self]; exact Good.new k
      · first
          | rw [Nat.add_zero, Nat.add_zero, chain_self]; exact (UF.new k).many.symm
          | rw [Nat.add_zero, Nat.sub_zero, chain_self]; exact (UF.new k).many.symm
      · first
          | rw [Nat.add_zero, chain_self]; exact hw
          | rw [Nat.sub_zero, chain_self]; exact hw
      intro s
      refine XC.pure (fun ⟨hs, hgd, hct⟩ => ?_)
      by_cases hlt : s < m
      · obtain ⟨hj, hjd⟩ := chain_up (k := k) (lo := a) (hi := a + s) (by omega) (by omega)
        obtain ⟨hgd', hct'⟩ := cnt_good hgd hj hjd
        repeat' (first
          | refine XC.seq ?_
            | refine XC.region ?_
            | refine XC.block ?_
            | refine XC.skip ?_
            | refine XC.ret ?_
            | refine XC.exit ?_
            | (refine XC.cond_d (by rfl) (fun h => ?_) (fun h => ?_) <;> try (first | (exfalso; omega) | exact absurd rfl h | (exfalso; simp at h <;> omega)))
            | refine XC.cond_t (by rfl) ?_
            | refine XC.cond_f (by rfl) ?_
            | refine XQ.next ?_
            | refine XQ.blockN ?_
            | refine XQ.blockR ?_
            | refine XQ.blockE ?_
            | refine XQ.sqR ?_
            | refine XQ.sqE ?_
            | refine XQ.rdR ?_
            | refine XQ.rdE ?_
            | refine XQ.mtR ?_
            | refine XQ.mtE ?_
          | refine XL.nil ?_
            | (refine XL.guard_d (by rfl) (by rfl) (fun h => ?_) (fun h => ?_) <;> try (first | (exfalso; omega) | exact absurd rfl h | (exfalso; simp at h <;> omega)))
            | refine XL.pures (by rfl) (by rfl) (by rfl) (by rfl) (by rfl) ?_
            | refine XL.not_d (by rfl) (by rfl) (by rfl) (by rfl) (by rfl) ?_
            | refine XL.pure 1 (by rfl) ?_
            | refine XL.fa0 (by rfl) (by rfl) (by rfl) (by rfl) (by rfl) (by rfl) ?_
            | refine XL.ld (by rfl) (by rfl) (by rfl) (by rfl) (by rfl) (by rfl) (by repeat (first | exact Sel.here | apply Sel.there)) (by rfl) ?_
            | refine XL.fa (by rfl) (by rfl) (by rfl) (by rfl) (by rfl) (by rfl) ?_
            | refine XL.ia1 (by rfl) (by rfl) (by rfl) (by rfl) (by rfl) (by rfl) (by rfl) (by omega) ?_
            | refine XL.ldr (by rfl) (by rfl) (by rfl) (by rfl) (by rfl) (by rfl) (by repeat (first | exact Sel.here | apply Sel.there)) (by assumption) ?_
            | refine XL.stl (by rfl) (by rfl) (by rfl) (by rfl) (by rfl) (by rfl) (by rfl) (by repeat (first | exact Sel.here | apply Sel.there)) (by rfl) ?_
            | refine XL.lenR (by rfl) (by rfl) (by rfl) (by rfl) (by rfl) (by rfl) (by rfl) (by first | exact fun w h => St.row (by repeat (first | exact Sel.here | apply Sel.there)) h | exact fun w h => St.rowF (by repeat (first | exact List.Mem.head _ | apply List.Mem.tail)) h | exact fun w h => Hd.rowF (by repeat (first | exact List.Mem.head _ | apply List.Mem.tail)) h) ?_
            | refine XL.iaR1 (by rfl) (by rfl) (by rfl) (by rfl) (by rfl) (by rfl) (by rfl) (by first | exact fun w h => St.row (by repeat (first | exact Sel.here | apply Sel.there)) h | exact fun w h => St.rowF (by repeat (first | exact List.Mem.head _ | apply List.Mem.tail)) h | exact fun w h => Hd.rowF (by repeat (first | exact List.Mem.head _ | apply List.Mem.tail)) h) (by omega) ?_
            | refine XL.iaR2 (by rfl) (by rfl) (by rfl) (by rfl) (by rfl) (by rfl) (by first | exact fun w h => St.row (by repeat (first | exact Sel.here | apply Sel.there)) h | exact fun w h => St.rowF (by repeat (first | exact List.Mem.head _ | apply List.Mem.tail)) h | exact fun w h => Hd.rowF (by repeat (first | exact List.Mem.head _ | apply List.Mem.tail)) h) (by rfl) (by omega) ?_
            | refine XL.faR (by rfl) (by rfl) (by rfl) (by rfl) (by rfl) (by rfl) (by first | exact fun w h => St.row (by repeat (first | exact Sel.here | apply Sel.there)) h | exact fun w h => St.rowF (by repeat (first | exact List.Mem.head _ | apply List.Mem.tail)) h | exact fun w h => Hd.rowF (by repeat (first | exact List.Mem.head _ | apply List.Mem.tail)) h) (by assumption) ?_
            | refine XL.ldR (by rfl) (by rfl) (by rfl) (by rfl) (by rfl) (by rfl) (by first | exact fun w h => St.row (by repeat (first | exact Sel.here | apply Sel.there)) h | exact fun w h => St.rowF (by repeat (first | exact List.Mem.head _ | apply List.Mem.tail)) h | exact fun w h => Hd.rowF (by repeat (first | exact List.Mem.head _ | apply List.Mem.tail)) h) (by assumption) ?_
            | refine XL.lenS (by rfl) (by rfl) (by rfl) (by rfl) (by rfl) (by rfl) (by rfl) ?_
            | refine XL.lenStr (by rfl) (by rfl) (by rfl) (by rfl) (by rfl) (by rfl) (by rfl) ?_
            | refine XL.succ (by rfl) (by rfl) (by rfl) (by rfl) (by rfl) (by rfl) (by omega) ?_
            | refine XL.addn (by rfl) (by rfl) (by rfl) (by rfl) (by rfl) (by rfl) (by omega) ?_
            | refine XL.add (by rfl) (by rfl) (by rfl) (by rfl) (by rfl) (by rfl) (by omega) ?_
            | refine XL.pred (by rfl) (by rfl) (by rfl) (by rfl) (by rfl) (by rfl) (by omega) ?_
            | refine XL.subn (by rfl) (by rfl) (by rfl) (by rfl) (by rfl) (by rfl) (by omega) ?_
            | refine XL.sub (by rfl) (by rfl) (by rfl) (by rfl) (by rfl) (by rfl) (by omega) ?_
            | refine XL.min2 (by rfl) (by rfl) (by rfl) (by rfl) (by rfl) (by rfl) ?_
            | refine XL.max2 (by rfl) (by rfl) (by rfl) (by rfl) (by rfl) (by rfl) ?_
            | refine XL.eqB (by rfl) (by rfl) (by rfl) (by rfl) (by rfl) (by rfl) (by rfl) ?_
            | refine XL.neB (by rfl) (by rfl) (by rfl) (by rfl) (by rfl) (by rfl) (by rfl) ?_
            | refine XL.psome (by rfl) (by rfl) (by rfl) (by rfl) (by rfl) (by rfl) (by rfl) ?_
            | refine XL.pnone (by rfl) (by rfl) (by rfl) (by rfl) (by rfl) (by rfl) (by rfl) ?_
            | refine XL.psome' (by rfl) (by rfl) (by rfl) (by rfl) (by rfl) (by rfl) (by rfl) ?_
            | refine XL.pnone' (by rfl) (by rfl) (by rfl) (by rfl) (by rfl) (by rfl) (by rfl) ?_
            | refine XL.conv64 (by rfl) (by rfl) (by rfl) (by rfl) (by rfl) (by rfl) (by rfl) (by omega) ?_)
        refine XL.trir (join_is hk2 hj hjd) (by rfl) (by rfl) (by rfl) (by rfl) (by rfl) (by rfl) (by rfl) (by repeat' (first | exact Sels.nil | exact Sel.here | apply Sels.cons | apply Sel.there)) (fun _ h => nomatch h) ?_
        rintro - -
        conv => arg 9; dsimp only [List.cons_append, List.nil_append]
        try conv => arg 7; dsimp only
        repeat' (first
          | refine XC.seq ?_
            | refine XC.region ?_
            | refine XC.block ?_
            | refine XC.skip ?_
            | refine XC.ret ?_
            | refine XC.exit ?_
            | (refine XC.cond_d (by rfl) (fun h => ?_) (fun h => ?_) <;> try (first | (exfalso; omega) | exact absurd rfl h | (exfalso; simp at h <;> omega)))
            | refine XC.cond_t (by rfl) ?_
            | refine XC.cond_f (by rfl) ?_
            | refine XQ.next ?_
            | refine XQ.blockN ?_
            | refine XQ.blockR ?_
            | refine XQ.blockE ?_
            | refine XQ.sqR ?_
            | refine XQ.sqE ?_
            | refine XQ.rdR ?_
            | refine XQ.rdE ?_
            | refine XQ.mtR ?_
            | refine XQ.mtE ?_
          | refine XL.nil ?_
            | (refine XL.guard_d (by rfl) (by rfl) (fun h => ?_) (fun h => ?_) <;> try (first | (exfalso; omega) | exact absurd rfl h | (exfalso; simp at h <;> omega)))
            | refine XL.pures (by rfl) (by rfl) (by rfl) (by rfl) (by rfl) ?_
            | refine XL.not_d (by rfl) (by rfl) (by rfl) (by rfl) (by rfl) ?_
            | refine XL.pure 1 (by rfl) ?_
            | refine XL.fa0 (by rfl) (by rfl) (by rfl) (by rfl) (by rfl) (by rfl) ?_
            | refine XL.ld (by rfl) (by rfl) (by rfl) (by rfl) (by rfl) (by rfl) (by repeat (first | exact Sel.here | apply Sel.there)) (by rfl) ?_
            | refine XL.fa (by rfl) (by rfl) (by rfl) (by rfl) (by rfl) (by rfl) ?_
            | refine XL.ia1 (by rfl) (by rfl) (by rfl) (by rfl) (by rfl) (by rfl) (by rfl) (by omega) ?_
            | refine XL.ldr (by rfl) (by rfl) (by rfl) (by rfl) (by rfl) (by rfl) (by repeat (first | exact Sel.here | apply Sel.there)) (by assumption) ?_
            | refine XL.stl (by rfl) (by rfl) (by rfl) (by rfl) (by rfl) (by rfl) (by rfl) (by repeat (first | exact Sel.here | apply Sel.there)) (by rfl) ?_
            | refine XL.lenR (by rfl) (by rfl) (by rfl) (by rfl) (by rfl) (by rfl) (by rfl) (by first | exact fun w h => St.row (by repeat (first | exact Sel.here | apply Sel.there)) h | exact fun w h => St.rowF (by repeat (first | exact List.Mem.head _ | apply List.Mem.tail)) h | exact fun w h => Hd.rowF (by repeat (first | exact List.Mem.head _ | apply List.Mem.tail)) h) ?_
            | refine XL.iaR1 (by rfl) (by rfl) (by rfl) (by rfl) (by rfl) (by rfl) (by rfl) (by first | exact fun w h => St.row (by repeat (first | exact Sel.here | apply Sel.there)) h | exact fun w h => St.rowF (by repeat (first | exact List.Mem.head _ | apply List.Mem.tail)) h | exact fun w h => Hd.rowF (by repeat (first | exact List.Mem.head _ | apply List.Mem.tail)) h) (by omega) ?_
            | refine XL.iaR2 (by rfl) (by rfl) (by rfl) (by rfl) (by rfl) (by rfl) (by first | exact fun w h => St.row (by repeat (first | exact Sel.here | apply Sel.there)) h | exact fun w h => St.rowF (by repeat (first | exact List.Mem.head _ | apply List.Mem.tail)) h | exact fun w h => Hd.rowF (by repeat (first | exact List.Mem.head _ | apply List.Mem.tail)) h) (by rfl) (by omega) ?_
            | refine XL.faR (by rfl) (by rfl) (by rfl) (by rfl) (by rfl) (by rfl) (by first | exact fun w h => St.row (by repeat (first | exact Sel.here | apply Sel.there)) h | exact fun w h => St.rowF (by repeat (first | exact List.Mem.head _ | apply List.Mem.tail)) h | exact fun w h => Hd.rowF (by repeat (first | exact List.Mem.head _ | apply List.Mem.tail)) h) (by assumption) ?_
            | refine XL.ldR (by rfl) (by rfl) (by rfl) (by rfl) (by rfl) (by rfl) (by first | exact fun w h => St.row (by repeat (first | exact Sel.here | apply Sel.there)) h | exact fun w h => St.rowF (by repeat (first | exact List.Mem.head _ | apply List.Mem.tail)) h | exact fun w h => Hd.rowF (by repeat (first | exact List.Mem.head _ | apply List.Mem.tail)) h) (by assumption) ?_
            | refine XL.lenS (by rfl) (by rfl) (by rfl) (by rfl) (by rfl) (by rfl) (by rfl) ?_
            | refine XL.lenStr (by rfl) (by rfl) (by rfl) (by rfl) (by rfl) (by rfl) (by rfl) ?_
            | refine XL.succ (by rfl) (by rfl) (by rfl) (by rfl) (by rfl) (by rfl) (by omega) ?_
            | refine XL.addn (by rfl) (by rfl) (by rfl) (by rfl) (by rfl) (by rfl) (by omega) ?_
            | refine XL.add (by rfl) (by rfl) (by rfl) (by rfl) (by rfl) (by rfl) (by omega) ?_
            | refine XL.pred (by rfl) (by rfl) (by rfl) (by rfl) (by rfl) (by rfl) (by omega) ?_
            | refine XL.subn (by rfl) (by rfl) (by rfl) (by rfl) (by rfl) (by rfl) (by omega) ?_
            | refine XL.sub (by rfl) (by rfl) (by rfl) (by rfl) (by rfl) (by rfl) (by omega) ?_
            | refine XL.min2 (by rfl) (by rfl) (by rfl) (by rfl) (by rfl) (by rfl) ?_
            | refine XL.max2 (by rfl) (by rfl) (by rfl) (by rfl) (by rfl) (by rfl) ?_
            | refine XL.eqB (by rfl) (by rfl) (by rfl) (by rfl) (by rfl) (by rfl) (by rfl) ?_
            | refine XL.neB (by rfl) (by rfl) (by rfl) (by rfl) (by rfl) (by rfl) (by rfl) ?_
            | refine XL.psome (by rfl) (by rfl) (by rfl) (by rfl) (by rfl) (by rfl) (by rfl) ?_
            | refine XL.pnone (by rfl) (by rfl) (by rfl) (by rfl) (by rfl) (by rfl) (by rfl) ?_
            | refine XL.psome' (by rfl) (by rfl) (by rfl) (by rfl) (by rfl) (by rfl) (by rfl) ?_
            | refine XL.pnone' (by rfl) (by rfl) (by rfl) (by rfl) (by rfl) (by rfl) (by rfl) ?_
            | refine XL.conv64 (by rfl) (by rfl) (by rfl) (by rfl) (by rfl) (by rfl) (by rfl) (by omega) ?_)
        exact XQ.round (s + 1) (by repeat (first | exact fits_nil | refine fits_cons (by rfl) ?_)) (fun w hw => ⟨⟨by omega, hgd', show cnt k (chain k a (a + s + 1)) + (s + 1) = k by omega⟩, hw⟩) (by omega)
      · have e : s = m := by omega
        subst e
        repeat' (first
          | refine XC.seq ?_
            | refine XC.region ?_
            | refine XC.block ?_
            | refine XC.skip ?_
            | refine XC.ret ?_
            | refine XC.exit ?_
            | (refine XC.cond_d (by rfl) (fun h => ?_) (fun h => ?_) <;> try (first | (exfalso; omega) | exact absurd rfl h | (exfalso; simp at h <;> omega)))
            | refine XC.cond_t (by rfl) ?_
            | refine XC.cond_f (by rfl) ?_
            | refine XQ.next ?_
            | refine XQ.blockN ?_
            | refine XQ.blockR ?_
            | refine XQ.blockE ?_
            | refine XQ.sqR ?_
            | refine XQ.sqE ?_
            | refine XQ.rdR ?_
            | refine XQ.rdE ?_
            | refine XQ.mtR ?_
            | refine XQ.mtE ?_
          | refine XL.nil ?_
            | (refine XL.guard_d (by rfl) (by rfl) (fun h => ?_) (fun h => ?_) <;> try (first | (exfalso; omega) | exact absurd rfl h | (exfalso; simp at h <;> omega)))
            | refine XL.pures (by rfl) (by rfl) (by rfl) (by rfl) (by rfl) ?_
            | refine XL.not_d (by rfl) (by rfl) (by rfl) (by rfl) (by rfl) ?_
            | refine XL.pure 1 (by rfl) ?_
            | refine XL.fa0 (by rfl) (by rfl) (by rfl) (by rfl) (by rfl) (by rfl) ?_
            | refine XL.ld (by rfl) (by rfl) (by rfl) (by rfl) (by rfl) (by rfl) (by repeat (first | exact Sel.here | apply Sel.there)) (by rfl) ?_
            | refine XL.fa (by rfl) (by rfl) (by rfl) (by rfl) (by rfl) (by rfl) ?_
            | refine XL.ia1 (by rfl) (by rfl) (by rfl) (by rfl) (by rfl) (by rfl) (by rfl) (by omega) ?_
            | refine XL.ldr (by rfl) (by rfl) (by rfl) (by rfl) (by rfl) (by rfl) (by repeat (first | exact Sel.here | apply Sel.there)) (by assumption) ?_
            | refine XL.stl (by rfl) (by rfl) (by rfl) (by rfl) (by rfl) (by rfl) (by rfl) (by repeat (first | exact Sel.here | apply Sel.there)) (by rfl) ?_
            | refine XL.lenR (by rfl) (by rfl) (by rfl) (by rfl) (by rfl) (by rfl) (by rfl) (by first | exact fun w h => St.row (by repeat (first | exact Sel.here | apply Sel.there)) h | exact fun w h => St.rowF (by repeat (first | exact List.Mem.head _ | apply List.Mem.tail)) h | exact fun w h => Hd.rowF (by repeat (first | exact List.Mem.head _ | apply List.Mem.tail)) h) ?_
            | refine XL.iaR1 (by rfl) (by rfl) (by rfl) (by rfl) (by rfl) (by rfl) (by rfl) (by first | exact fun w h => St.row (by repeat (first | exact Sel.here | apply Sel.there)) h | exact fun w h => St.rowF (by repeat (first | exact List.Mem.head _ | apply List.Mem.tail)) h | exact fun w h => Hd.rowF (by repeat (first | exact List.Mem.head _ | apply List.Mem.tail)) h) (by omega) ?_
            | refine XL.iaR2 (by rfl) (by rfl) (by rfl) (by rfl) (by rfl) (by rfl) (by first | exact fun w h => St.row (by repeat (first | exact Sel.here | apply Sel.there)) h | exact fun w h => St.rowF (by repeat (first | exact List.Mem.head _ | apply List.Mem.tail)) h | exact fun w h => Hd.rowF (by repeat (first | exact List.Mem.head _ | apply List.Mem.tail)) h) (by rfl) (by omega) ?_
            | refine XL.faR (by rfl) (by rfl) (by rfl) (by rfl) (by rfl) (by rfl) (by first | exact fun w h => St.row (by repeat (first | exact Sel.here | apply Sel.there)) h | exact fun w h => St.rowF (by repeat (first | exact List.Mem.head _ | apply List.Mem.tail)) h | exact fun w h => Hd.rowF (by repeat (first | exact List.Mem.head _ | apply List.Mem.tail)) h) (by assumption) ?_
            | refine XL.ldR (by rfl) (by rfl) (by rfl) (by rfl) (by rfl) (by rfl) (by first | exact fun w h => St.row (by repeat (first | exact Sel.here | apply Sel.there)) h | exact fun w h => St.rowF (by repeat (first | exact List.Mem.head _ | apply List.Mem.tail)) h | exact fun w h => Hd.rowF (by repeat (first | exact List.Mem.head _ | apply List.Mem.tail)) h) (by assumption) ?_
            | refine XL.lenS (by rfl) (by rfl) (by rfl) (by rfl) (by rfl) (by rfl) (by rfl) ?_
            | refine XL.lenStr (by rfl) (by rfl) (by rfl) (by rfl) (by rfl) (by rfl) (by rfl) ?_
            | refine XL.succ (by rfl) (by rfl) (by rfl) (by rfl) (by rfl) (by rfl) (by omega) ?_
            | refine XL.addn (by rfl) (by rfl) (by rfl) (by rfl) (by rfl) (by rfl) (by omega) ?_
            | refine XL.add (by rfl) (by rfl) (by rfl) (by rfl) (by rfl) (by rfl) (by omega) ?_
            | refine XL.pred (by rfl) (by rfl) (by rfl) (by rfl) (by rfl) (by rfl) (by omega) ?_
            | refine XL.subn (by rfl) (by rfl) (by rfl) (by rfl) (by rfl) (by rfl) (by omega) ?_
            | refine XL.sub (by rfl) (by rfl) (by rfl) (by rfl) (by rfl) (by rfl) (by omega) ?_
            | refine XL.min2 (by rfl) (by rfl) (by rfl) (by rfl) (by rfl) (by rfl) ?_
            | refine XL.max2 (by rfl) (by rfl) (by rfl) (by rfl) (by rfl) (by rfl) ?_
            | refine XL.eqB (by rfl) (by rfl) (by rfl) (by rfl) (by rfl) (by rfl) (by rfl) ?_
            | refine XL.neB (by rfl) (by rfl) (by rfl) (by rfl) (by rfl) (by rfl) (by rfl) ?_
            | refine XL.psome (by rfl) (by rfl) (by rfl) (by rfl) (by rfl) (by rfl) (by rfl) ?_
            | refine XL.pnone (by rfl) (by rfl) (by rfl) (by rfl) (by rfl) (by rfl) (by rfl) ?_
            | refine XL.psome' (by rfl) (by rfl) (by rfl) (by rfl) (by rfl) (by rfl) (by rfl) ?_
            | refine XL.pnone' (by rfl) (by rfl) (by rfl) (by rfl) (by rfl) (by rfl) (by rfl) ?_
            | refine XL.conv64 (by rfl) (by rfl) (by rfl) (by rfl) (by rfl) (by rfl) (by rfl) (by omega) ?_)
        exact XQ.meet () (by repeat (first | exact fits_nil | refine fits_cons (by rfl) ?_)) (fun w h => ⟨hct, h⟩)
    · refine XC.loop (fun s : Nat => [(3, .bool true), (9, .bool true), (10, .int .i64 (k : Int)), (11, .pointer (some ⟨gb, 0, none⟩)), (12, .int .i64 (a : Int)), (13, .int .i64 ((a + m : Nat) : Int)), (14, .int .i64 ((a + s : Nat) : Int))])
        (fun s w => (s ≤ m ∧ Good k (chain k (a + m - s) (a + m)) ∧ cnt k (chain k (a + m - s) (a + m)) + s = k) ∧ St c [groups (.pointer (some ⟨gb, 0, none⟩)) k (chain k (a + m - s) (a + m))] [] w)
        (fun s => m - s) 0 (by repeat (first | exact fits_nil | refine fits_cons (by rfl) ?_)) (fun w hw => ⟨⟨Nat.zero_le _, ?_, ?_⟩, ?_⟩) ?_
      · first
          | rw [Nat.add_zero, chain_self]; exact Good.new k
          | rw [Nat.sub_zero, chain_self]; exact Good.new k
      · first
          | rw [Nat.add_zero, Nat.add_zero, chain_self]; exact (UF.new k).many.symm
          | rw [Nat.add_zero, Nat.sub_zero, chain_self]; exact (UF.new k).many.symm
      · first
          | rw [Nat.add_zero, chain_self]; exact hw
          | rw [Nat.sub_zero, chain_self]; exact hw
      intro s
      refine XC.pure (fun ⟨hs, hgd, hct⟩ => ?_)
      by_cases hlt : s < m
      · obtain ⟨hj, hjd⟩ := chain_down (k := k) (lo := a + m - s) (hi := a + m) (by omega) (by omega) (by omega)
        rw [show a + m - s - 1 = a + m - (s + 1) by omega] at hj hjd
        have ej : a + (a + m) - 1 - (a + s) = a + m - (s + 1) := by omega
        obtain ⟨hgd', hct'⟩ := cnt_good hgd hj hjd
        repeat' (first
          | refine XC.seq ?_
            | refine XC.region ?_
            | refine XC.block ?_
            | refine XC.skip ?_
            | refine XC.ret ?_
            | refine XC.exit ?_
            | (refine XC.cond_d (by rfl) (fun h => ?_) (fun h => ?_) <;> try (first | (exfalso; omega) | exact absurd rfl h | (exfalso; simp at h <;> omega)))
            | refine XC.cond_t (by rfl) ?_
            | refine XC.cond_f (by rfl) ?_
            | refine XQ.next ?_
            | refine XQ.blockN ?_
            | refine XQ.blockR ?_
            | refine XQ.blockE ?_
            | refine XQ.sqR ?_
            | refine XQ.sqE ?_
            | refine XQ.rdR ?_
            | refine XQ.rdE ?_
            | refine XQ.mtR ?_
            | refine XQ.mtE ?_
          | refine XL.nil ?_
            | (refine XL.guard_d (by rfl) (by rfl) (fun h => ?_) (fun h => ?_) <;> try (first | (exfalso; omega) | exact absurd rfl h | (exfalso; simp at h <;> omega)))
            | refine XL.pures (by rfl) (by rfl) (by rfl) (by rfl) (by rfl) ?_
            | refine XL.not_d (by rfl) (by rfl) (by rfl) (by rfl) (by rfl) ?_
            | refine XL.pure 1 (by rfl) ?_
            | refine XL.fa0 (by rfl) (by rfl) (by rfl) (by rfl) (by rfl) (by rfl) ?_
            | refine XL.ld (by rfl) (by rfl) (by rfl) (by rfl) (by rfl) (by rfl) (by repeat (first | exact Sel.here | apply Sel.there)) (by rfl) ?_
            | refine XL.fa (by rfl) (by rfl) (by rfl) (by rfl) (by rfl) (by rfl) ?_
            | refine XL.ia1 (by rfl) (by rfl) (by rfl) (by rfl) (by rfl) (by rfl) (by rfl) (by omega) ?_
            | refine XL.ldr (by rfl) (by rfl) (by rfl) (by rfl) (by rfl) (by rfl) (by repeat (first | exact Sel.here | apply Sel.there)) (by assumption) ?_
            | refine XL.stl (by rfl) (by rfl) (by rfl) (by rfl) (by rfl) (by rfl) (by rfl) (by repeat (first | exact Sel.here | apply Sel.there)) (by rfl) ?_
            | refine XL.lenR (by rfl) (by rfl) (by rfl) (by rfl) (by rfl) (by rfl) (by rfl) (by first | exact fun w h => St.row (by repeat (first | exact Sel.here | apply Sel.there)) h | exact fun w h => St.rowF (by repeat (first | exact List.Mem.head _ | apply List.Mem.tail)) h | exact fun w h => Hd.rowF (by repeat (first | exact List.Mem.head _ | apply List.Mem.tail)) h) ?_
            | refine XL.iaR1 (by rfl) (by rfl) (by rfl) (by rfl) (by rfl) (by rfl) (by rfl) (by first | exact fun w h => St.row (by repeat (first | exact Sel.here | apply Sel.there)) h | exact fun w h => St.rowF (by repeat (first | exact List.Mem.head _ | apply List.Mem.tail)) h | exact fun w h => Hd.rowF (by repeat (first | exact List.Mem.head _ | apply List.Mem.tail)) h) (by omega) ?_
            | refine XL.iaR2 (by rfl) (by rfl) (by rfl) (by rfl) (by rfl) (by rfl) (by first | exact fun w h => St.row (by repeat (first | exact Sel.here | apply Sel.there)) h | exact fun w h => St.rowF (by repeat (first | exact List.Mem.head _ | apply List.Mem.tail)) h | exact fun w h => Hd.rowF (by repeat (first | exact List.Mem.head _ | apply List.Mem.tail)) h) (by rfl) (by omega) ?_
            | refine XL.faR (by rfl) (by rfl) (by rfl) (by rfl) (by rfl) (by rfl) (by first | exact fun w h => St.row (by repeat (first | exact Sel.here | apply Sel.there)) h | exact fun w h => St.rowF (by repeat (first | exact List.Mem.head _ | apply List.Mem.tail)) h | exact fun w h => Hd.rowF (by repeat (first | exact List.Mem.head _ | apply List.Mem.tail)) h) (by assumption) ?_
            | refine XL.ldR (by rfl) (by rfl) (by rfl) (by rfl) (by rfl) (by rfl) (by first | exact fun w h => St.row (by repeat (first | exact Sel.here | apply Sel.there)) h | exact fun w h => St.rowF (by repeat (first | exact List.Mem.head _ | apply List.Mem.tail)) h | exact fun w h => Hd.rowF (by repeat (first | exact List.Mem.head _ | apply List.Mem.tail)) h) (by assumption) ?_
            | refine XL.lenS (by rfl) (by rfl) (by rfl) (by rfl) (by rfl) (by rfl) (by rfl) ?_
            | refine XL.lenStr (by rfl) (by rfl) (by rfl) (by rfl) (by rfl) (by rfl) (by rfl) ?_
            | refine XL.succ (by rfl) (by rfl) (by rfl) (by rfl) (by rfl) (by rfl) (by omega) ?_
            | refine XL.addn (by rfl) (by rfl) (by rfl) (by rfl) (by rfl) (by rfl) (by omega) ?_
            | refine XL.add (by rfl) (by rfl) (by rfl) (by rfl) (by rfl) (by rfl) (by omega) ?_
            | refine XL.pred (by rfl) (by rfl) (by rfl) (by rfl) (by rfl) (by rfl) (by omega) ?_
            | refine XL.subn (by rfl) (by rfl) (by rfl) (by rfl) (by rfl) (by rfl) (by omega) ?_
            | refine XL.sub (by rfl) (by rfl) (by rfl) (by rfl) (by rfl) (by rfl) (by omega) ?_
            | refine XL.min2 (by rfl) (by rfl) (by rfl) (by rfl) (by rfl) (by rfl) ?_
            | refine XL.max2 (by rfl) (by rfl) (by rfl) (by rfl) (by rfl) (by rfl) ?_
            | refine XL.eqB (by rfl) (by rfl) (by rfl) (by rfl) (by rfl) (by rfl) (by rfl) ?_
            | refine XL.neB (by rfl) (by rfl) (by rfl) (by rfl) (by rfl) (by rfl) (by rfl) ?_
            | refine XL.psome (by rfl) (by rfl) (by rfl) (by rfl) (by rfl) (by rfl) (by rfl) ?_
            | refine XL.pnone (by rfl) (by rfl) (by rfl) (by rfl) (by rfl) (by rfl) (by rfl) ?_
            | refine XL.psome' (by rfl) (by rfl) (by rfl) (by rfl) (by rfl) (by rfl) (by rfl) ?_
            | refine XL.pnone' (by rfl) (by rfl) (by rfl) (by rfl) (by rfl) (by rfl) (by rfl) ?_
            | refine XL.conv64 (by rfl) (by rfl) (by rfl) (by rfl) (by rfl) (by rfl) (by rfl) (by omega) ?_)
        rw [ej]
        refine XL.trir (join_is hk2 hj hjd) (by rfl) (by rfl) (by rfl) (by rfl) (by rfl) (by rfl) (by rfl) (by repeat' (first | exact Sels.nil | exact Sel.here | apply Sels.cons | apply Sel.there)) (fun _ h => nomatch h) ?_
        rintro - -
        conv => arg 9; dsimp only [List.cons_append, List.nil_append]
        try conv => arg 7; dsimp only
        repeat' (first
          | refine XC.seq ?_
            | refine XC.region ?_
            | refine XC.block ?_
            | refine XC.skip ?_
            | refine XC.ret ?_
            | refine XC.exit ?_
            | (refine XC.cond_d (by rfl) (fun h => ?_) (fun h => ?_) <;> try (first | (exfalso; omega) | exact absurd rfl h | (exfalso; simp at h <;> omega)))
            | refine XC.cond_t (by rfl) ?_
            | refine XC.cond_f (by rfl) ?_
            | refine XQ.next ?_
            | refine XQ.blockN ?_
            | refine XQ.blockR ?_
            | refine XQ.blockE ?_
            | refine XQ.sqR ?_
            | refine XQ.sqE ?_
            | refine XQ.rdR ?_
            | refine XQ.rdE ?_
            | refine XQ.mtR ?_
            | refine XQ.mtE ?_
          | refine XL.nil ?_
            | (refine XL.guard_d (by rfl) (by rfl) (fun h => ?_) (fun h => ?_) <;> try (first | (exfalso; omega) | exact absurd rfl h | (exfalso; simp at h <;> omega)))
            | refine XL.pures (by rfl) (by rfl) (by rfl) (by rfl) (by rfl) ?_
            | refine XL.not_d (by rfl) (by rfl) (by rfl) (by rfl) (by rfl) ?_
            | refine XL.pure 1 (by rfl) ?_
            | refine XL.fa0 (by rfl) (by rfl) (by rfl) (by rfl) (by rfl) (by rfl) ?_
            | refine XL.ld (by rfl) (by rfl) (by rfl) (by rfl) (by rfl) (by rfl) (by repeat (first | exact Sel.here | apply Sel.there)) (by rfl) ?_
            | refine XL.fa (by rfl) (by rfl) (by rfl) (by rfl) (by rfl) (by rfl) ?_
            | refine XL.ia1 (by rfl) (by rfl) (by rfl) (by rfl) (by rfl) (by rfl) (by rfl) (by omega) ?_
            | refine XL.ldr (by rfl) (by rfl) (by rfl) (by rfl) (by rfl) (by rfl) (by repeat (first | exact Sel.here | apply Sel.there)) (by assumption) ?_
            | refine XL.stl (by rfl) (by rfl) (by rfl) (by rfl) (by rfl) (by rfl) (by rfl) (by repeat (first | exact Sel.here | apply Sel.there)) (by rfl) ?_
            | refine XL.lenR (by rfl) (by rfl) (by rfl) (by rfl) (by rfl) (by rfl) (by rfl) (by first | exact fun w h => St.row (by repeat (first | exact Sel.here | apply Sel.there)) h | exact fun w h => St.rowF (by repeat (first | exact List.Mem.head _ | apply List.Mem.tail)) h | exact fun w h => Hd.rowF (by repeat (first | exact List.Mem.head _ | apply List.Mem.tail)) h) ?_
            | refine XL.iaR1 (by rfl) (by rfl) (by rfl) (by rfl) (by rfl) (by rfl) (by rfl) (by first | exact fun w h => St.row (by repeat (first | exact Sel.here | apply Sel.there)) h | exact fun w h => St.rowF (by repeat (first | exact List.Mem.head _ | apply List.Mem.tail)) h | exact fun w h => Hd.rowF (by repeat (first | exact List.Mem.head _ | apply List.Mem.tail)) h) (by omega) ?_
            | refine XL.iaR2 (by rfl) (by rfl) (by rfl) (by rfl) (by rfl) (by rfl) (by first | exact fun w h => St.row (by repeat (first | exact Sel.here | apply Sel.there)) h | exact fun w h => St.rowF (by repeat (first | exact List.Mem.head _ | apply List.Mem.tail)) h | exact fun w h => Hd.rowF (by repeat (first | exact List.Mem.head _ | apply List.Mem.tail)) h) (by rfl) (by omega) ?_
            | refine XL.faR (by rfl) (by rfl) (by rfl) (by rfl) (by rfl) (by rfl) (by first | exact fun w h => St.row (by repeat (first | exact Sel.here | apply Sel.there)) h | exact fun w h => St.rowF (by repeat (first | exact List.Mem.head _ | apply List.Mem.tail)) h | exact fun w h => Hd.rowF (by repeat (first | exact List.Mem.head _ | apply List.Mem.tail)) h) (by assumption) ?_
            | refine XL.ldR (by rfl) (by rfl) (by rfl) (by rfl) (by rfl) (by rfl) (by first | exact fun w h => St.row (by repeat (first | exact Sel.here | apply Sel.there)) h | exact fun w h => St.rowF (by repeat (first | exact List.Mem.head _ | apply List.Mem.tail)) h | exact fun w h => Hd.rowF (by repeat (first | exact List.Mem.head _ | apply List.Mem.tail)) h) (by assumption) ?_
            | refine XL.lenS (by rfl) (by rfl) (by rfl) (by rfl) (by rfl) (by rfl) (by rfl) ?_
            | refine XL.lenStr (by rfl) (by rfl) (by rfl) (by rfl) (by rfl) (by rfl) (by rfl) ?_
            | refine XL.succ (by rfl) (by rfl) (by rfl) (by rfl) (by rfl) (by rfl) (by omega) ?_
            | refine XL.addn (by rfl) (by rfl) (by rfl) (by rfl) (by rfl) (by rfl) (by omega) ?_
            | refine XL.add (by rfl) (by rfl) (by rfl) (by rfl) (by rfl) (by rfl) (by omega) ?_
            | refine XL.pred (by rfl) (by rfl) (by rfl) (by rfl) (by rfl) (by rfl) (by omega) ?_
            | refine XL.subn (by rfl) (by rfl) (by rfl) (by rfl) (by rfl) (by rfl) (by omega) ?_
            | refine XL.sub (by rfl) (by rfl) (by rfl) (by rfl) (by rfl) (by rfl) (by omega) ?_
            | refine XL.min2 (by rfl) (by rfl) (by rfl) (by rfl) (by rfl) (by rfl) ?_
            | refine XL.max2 (by rfl) (by rfl) (by rfl) (by rfl) (by rfl) (by rfl) ?_
            | refine XL.eqB (by rfl) (by rfl) (by rfl) (by rfl) (by rfl) (by rfl) (by rfl) ?_
            | refine XL.neB (by rfl) (by rfl) (by rfl) (by rfl) (by rfl) (by rfl) (by rfl) ?_
            | refine XL.psome (by rfl) (by rfl) (by rfl) (by rfl) (by rfl) (by rfl) (by rfl) ?_
            | refine XL.pnone (by rfl) (by rfl) (by rfl) (by rfl) (by rfl) (by rfl) (by rfl) ?_
            | refine XL.psome' (by rfl) (by rfl) (by rfl) (by rfl) (by rfl) (by rfl) (by rfl) ?_
            | refine XL.pnone' (by rfl) (by rfl) (by rfl) (by rfl) (by rfl) (by rfl) (by rfl) ?_
            | refine XL.conv64 (by rfl) (by rfl) (by rfl) (by rfl) (by rfl) (by rfl) (by rfl) (by omega) ?_)
        exact XQ.round (s + 1) (by repeat (first | exact fits_nil | refine fits_cons (by rfl) ?_)) (fun w hw => ⟨⟨by omega, hgd', by omega⟩, hw⟩) (by omega)
      · have e : s = m := by omega
        subst e
        repeat' (first
          | refine XC.seq ?_
            | refine XC.region ?_
            | refine XC.block ?_
            | refine XC.skip ?_
            | refine XC.ret ?_
            | refine XC.exit ?_
            | (refine XC.cond_d (by rfl) (fun h => ?_) (fun h => ?_) <;> try (first | (exfalso; omega) | exact absurd rfl h | (exfalso; simp at h <;> omega)))
            | refine XC.cond_t (by rfl) ?_
            | refine XC.cond_f (by rfl) ?_
            | refine XQ.next ?_
            | refine XQ.blockN ?_
            | refine XQ.blockR ?_
            | refine XQ.blockE ?_
            | refine XQ.sqR ?_
            | refine XQ.sqE ?_
            | refine XQ.rdR ?_
            | refine XQ.rdE ?_
            | refine XQ.mtR ?_
            | refine XQ.mtE ?_
          | refine XL.nil ?_
            | (refine XL.guard_d (by rfl) (by rfl) (fun h => ?_) (fun h => ?_) <;> try (first | (exfalso; omega) | exact absurd rfl h | (exfalso; simp at h <;> omega)))
            | refine XL.pures (by rfl) (by rfl) (by rfl) (by rfl) (by rfl) ?_
            | refine XL.not_d (by rfl) (by rfl) (by rfl) (by rfl) (by rfl) ?_
            | refine XL.pure 1 (by rfl) ?_
            | refine XL.fa0 (by rfl) (by rfl) (by rfl) (by rfl) (by rfl) (by rfl) ?_
            | refine XL.ld (by rfl) (by rfl) (by rfl) (by rfl) (by rfl) (by rfl) (by repeat (first | exact Sel.here | apply Sel.there)) (by rfl) ?_
            | refine XL.fa (by rfl) (by rfl) (by rfl) (by rfl) (by rfl) (by rfl) ?_
            | refine XL.ia1 (by rfl) (by rfl) (by rfl) (by rfl) (by rfl) (by rfl) (by rfl) (by omega) ?_
            | refine XL.ldr (by rfl) (by rfl) (by rfl) (by rfl) (by rfl) (by rfl) (by repeat (first | exact Sel.here | apply Sel.there)) (by assumption) ?_
            | refine XL.stl (by rfl) (by rfl) (by rfl) (by rfl) (by rfl) (by rfl) (by rfl) (by repeat (first | exact Sel.here | apply Sel.there)) (by rfl) ?_
            | refine XL.lenR (by rfl) (by rfl) (by rfl) (by rfl) (by rfl) (by rfl) (by rfl) (by first | exact fun w h => St.row (by repeat (first | exact Sel.here | apply Sel.there)) h | exact fun w h => St.rowF (by repeat (first | exact List.Mem.head _ | apply List.Mem.tail)) h | exact fun w h => Hd.rowF (by repeat (first | exact List.Mem.head _ | apply List.Mem.tail)) h) ?_
            | refine XL.iaR1 (by rfl) (by rfl) (by rfl) (by rfl) (by rfl) (by rfl) (by rfl) (by first | exact fun w h => St.row (by repeat (first | exact Sel.here | apply Sel.there)) h | exact fun w h => St.rowF (by repeat (first | exact List.Mem.head _ | apply List.Mem.tail)) h | exact fun w h => Hd.rowF (by repeat (first | exact List.Mem.head _ | apply List.Mem.tail)) h) (by omega) ?_
            | refine XL.iaR2 (by rfl) (by rfl) (by rfl) (by rfl) (by rfl) (by rfl) (by first | exact fun w h => St.row (by repeat (first | exact Sel.here | apply Sel.there)) h | exact fun w h => St.rowF (by repeat (first | exact List.Mem.head _ | apply List.Mem.tail)) h | exact fun w h => Hd.rowF (by repeat (first | exact List.Mem.head _ | apply List.Mem.tail)) h) (by rfl) (by omega) ?_
            | refine XL.faR (by rfl) (by rfl) (by rfl) (by rfl) (by rfl) (by rfl) (by first | exact fun w h => St.row (by repeat (first | exact Sel.here | apply Sel.there)) h | exact fun w h => St.rowF (by repeat (first | exact List.Mem.head _ | apply List.Mem.tail)) h | exact fun w h => Hd.rowF (by repeat (first | exact List.Mem.head _ | apply List.Mem.tail)) h) (by assumption) ?_
            | refine XL.ldR (by rfl) (by rfl) (by rfl) (by rfl) (by rfl) (by rfl) (by first | exact fun w h => St.row (by repeat (first | exact Sel.here | apply Sel.there)) h | exact fun w h => St.rowF (by repeat (first | exact List.Mem.head _ | apply List.Mem.tail)) h | exact fun w h => Hd.rowF (by repeat (first | exact List.Mem.head _ | apply List.Mem.tail)) h) (by assumption) ?_
            | refine XL.lenS (by rfl) (by rfl) (by rfl) (by rfl) (by rfl) (by rfl) (by rfl) ?_
            | refine XL.lenStr (by rfl) (by rfl) (by rfl) (by rfl) (by rfl) (by rfl) (by rfl) ?_
            | refine XL.succ (by rfl) (by rfl) (by rfl) (by rfl) (by rfl) (by rfl) (by omega) ?_
            | refine XL.addn (by rfl) (by rfl) (by rfl) (by rfl) (by rfl) (by rfl) (by omega) ?_
            | refine XL.add (by rfl) (by rfl) (by rfl) (by rfl) (by rfl) (by rfl) (by omega) ?_
            | refine XL.pred (by rfl) (by rfl) (by rfl) (by rfl) (by rfl) (by rfl) (by omega) ?_
            | refine XL.subn (by rfl) (by rfl) (by rfl) (by rfl) (by rfl) (by rfl) (by omega) ?_
            | refine XL.sub (by rfl) (by rfl) (by rfl) (by rfl) (by rfl) (by rfl) (by omega) ?_
            | refine XL.min2 (by rfl) (by rfl) (by rfl) (by rfl) (by rfl) (by rfl) ?_
            | refine XL.max2 (by rfl) (by rfl) (by rfl) (by rfl) (by rfl) (by rfl) ?_
            | refine XL.eqB (by rfl) (by rfl) (by rfl) (by rfl) (by rfl) (by rfl) (by rfl) ?_
            | refine XL.neB (by rfl) (by rfl) (by rfl) (by rfl) (by rfl) (by rfl) (by rfl) ?_
            | refine XL.psome (by rfl) (by rfl) (by rfl) (by rfl) (by rfl) (by rfl) (by rfl) ?_
            | refine XL.pnone (by rfl) (by rfl) (by rfl) (by rfl) (by rfl) (by rfl) (by rfl) ?_
            | refine XL.psome' (by rfl) (by rfl) (by rfl) (by rfl) (by rfl) (by rfl) (by rfl) ?_
            | refine XL.pnone' (by rfl) (by rfl) (by rfl) (by rfl) (by rfl) (by rfl) (by rfl) ?_
            | refine XL.conv64 (by rfl) (by rfl) (by rfl) (by rfl) (by rfl) (by rfl) (by rfl) (by omega) ?_)
        have e2 : a + s - s = a := by omega
        rw [e2] at hct ⊢
        exact XQ.meet () (by repeat (first | exact fits_nil | refine fits_cons (by rfl) ?_)) (fun w h => ⟨hct, h⟩)
  rintro -
  refine XC.pure (fun hct => ?_)
  have hcc := chain_count (lo := a) (hi := a + m) (by omega) k
  repeat' (first
    | refine XC.seq ?_
    | refine XC.skip ?_
    | refine XC.region ?_
    | refine XQ.next ?_
    | refine XQ.blockN ?_
    | refine XL.nil ?_
      | (refine XL.guard_d (by rfl) (by rfl) (fun h => ?_) (fun h => ?_) <;> try (first | (exfalso; omega) | exact absurd rfl h | (exfalso; simp at h <;> omega)))
      | refine XL.pures (by rfl) (by rfl) (by rfl) (by rfl) (by rfl) ?_
      | refine XL.not_d (by rfl) (by rfl) (by rfl) (by rfl) (by rfl) ?_
      | refine XL.pure 1 (by rfl) ?_
      | refine XL.fa0 (by rfl) (by rfl) (by rfl) (by rfl) (by rfl) (by rfl) ?_
      | refine XL.ld (by rfl) (by rfl) (by rfl) (by rfl) (by rfl) (by rfl) (by repeat (first | exact Sel.here | apply Sel.there)) (by rfl) ?_
      | refine XL.fa (by rfl) (by rfl) (by rfl) (by rfl) (by rfl) (by rfl) ?_
      | refine XL.ia1 (by rfl) (by rfl) (by rfl) (by rfl) (by rfl) (by rfl) (by rfl) (by omega) ?_
      | refine XL.ldr (by rfl) (by rfl) (by rfl) (by rfl) (by rfl) (by rfl) (by repeat (first | exact Sel.here | apply Sel.there)) (by assumption) ?_
      | refine XL.stl (by rfl) (by rfl) (by rfl) (by rfl) (by rfl) (by rfl) (by rfl) (by repeat (first | exact Sel.here | apply Sel.there)) (by rfl) ?_
      | refine XL.lenR (by rfl) (by rfl) (by rfl) (by rfl) (by rfl) (by rfl) (by rfl) (by first | exact fun w h => St.row (by repeat (first | exact Sel.here | apply Sel.there)) h | exact fun w h => St.rowF (by repeat (first | exact List.Mem.head _ | apply List.Mem.tail)) h | exact fun w h => Hd.rowF (by repeat (first | exact List.Mem.head _ | apply List.Mem.tail)) h) ?_
      | refine XL.iaR1 (by rfl) (by rfl) (by rfl) (by rfl) (by rfl) (by rfl) (by rfl) (by first | exact fun w h => St.row (by repeat (first | exact Sel.here | apply Sel.there)) h | exact fun w h => St.rowF (by repeat (first | exact List.Mem.head _ | apply List.Mem.tail)) h | exact fun w h => Hd.rowF (by repeat (first | exact List.Mem.head _ | apply List.Mem.tail)) h) (by omega) ?_
      | refine XL.iaR2 (by rfl) (by rfl) (by rfl) (by rfl) (by rfl) (by rfl) (by first | exact fun w h => St.row (by repeat (first | exact Sel.here | apply Sel.there)) h | exact fun w h => St.rowF (by repeat (first | exact List.Mem.head _ | apply List.Mem.tail)) h | exact fun w h => Hd.rowF (by repeat (first | exact List.Mem.head _ | apply List.Mem.tail)) h) (by rfl) (by omega) ?_
      | refine XL.faR (by rfl) (by rfl) (by rfl) (by rfl) (by rfl) (by rfl) (by first | exact fun w h => St.row (by repeat (first | exact Sel.here | apply Sel.there)) h | exact fun w h => St.rowF (by repeat (first | exact List.Mem.head _ | apply List.Mem.tail)) h | exact fun w h => Hd.rowF (by repeat (first | exact List.Mem.head _ | apply List.Mem.tail)) h) (by assumption) ?_
      | refine XL.ldR (by rfl) (by rfl) (by rfl) (by rfl) (by rfl) (by rfl) (by first | exact fun w h => St.row (by repeat (first | exact Sel.here | apply Sel.there)) h | exact fun w h => St.rowF (by repeat (first | exact List.Mem.head _ | apply List.Mem.tail)) h | exact fun w h => Hd.rowF (by repeat (first | exact List.Mem.head _ | apply List.Mem.tail)) h) (by assumption) ?_
      | refine XL.lenS (by rfl) (by rfl) (by rfl) (by rfl) (by rfl) (by rfl) (by rfl) ?_
      | refine XL.lenStr (by rfl) (by rfl) (by rfl) (by rfl) (by rfl) (by rfl) (by rfl) ?_
      | refine XL.succ (by rfl) (by rfl) (by rfl) (by rfl) (by rfl) (by rfl) (by omega) ?_
      | refine XL.addn (by rfl) (by rfl) (by rfl) (by rfl) (by rfl) (by rfl) (by omega) ?_
      | refine XL.add (by rfl) (by rfl) (by rfl) (by rfl) (by rfl) (by rfl) (by omega) ?_
      | refine XL.pred (by rfl) (by rfl) (by rfl) (by rfl) (by rfl) (by rfl) (by omega) ?_
      | refine XL.subn (by rfl) (by rfl) (by rfl) (by rfl) (by rfl) (by rfl) (by omega) ?_
      | refine XL.sub (by rfl) (by rfl) (by rfl) (by rfl) (by rfl) (by rfl) (by omega) ?_
      | refine XL.min2 (by rfl) (by rfl) (by rfl) (by rfl) (by rfl) (by rfl) ?_
      | refine XL.max2 (by rfl) (by rfl) (by rfl) (by rfl) (by rfl) (by rfl) ?_
      | refine XL.eqB (by rfl) (by rfl) (by rfl) (by rfl) (by rfl) (by rfl) (by rfl) ?_
      | refine XL.neB (by rfl) (by rfl) (by rfl) (by rfl) (by rfl) (by rfl) (by rfl) ?_
      | refine XL.psome (by rfl) (by rfl) (by rfl) (by rfl) (by rfl) (by rfl) (by rfl) ?_
      | refine XL.pnone (by rfl) (by rfl) (by rfl) (by rfl) (by rfl) (by rfl) (by rfl) ?_
      | refine XL.psome' (by rfl) (by rfl) (by rfl) (by rfl) (by rfl) (by rfl) (by rfl) ?_
      | refine XL.pnone' (by rfl) (by rfl) (by rfl) (by rfl) (by rfl) (by rfl) (by rfl) ?_
      | refine XL.conv64 (by rfl) (by rfl) (by rfl) (by rfl) (by rfl) (by rfl) (by rfl) (by omega) ?_)
  refine XC.cutS (fun _ : Unit => [(9, .bool true), (10, .int .i64 (k : Int)), (11, .pointer (some ⟨gb, 0, none⟩)), (12, .int .i64 (a : Int)), (13, .int .i64 ((a + m : Nat) : Int))])
    (fun _ => St c [groups (.pointer (some ⟨gb, 0, none⟩)) k (chain k a (a + m))] []) ?_ ?_
  · repeat' (first
    | refine XC.seq ?_
      | refine XC.region ?_
      | refine XC.block ?_
      | refine XC.skip ?_
      | refine XC.ret ?_
      | refine XC.exit ?_
      | (refine XC.cond_d (by rfl) (fun h => ?_) (fun h => ?_) <;> try (first | (exfalso; omega) | exact absurd rfl h | (exfalso; simp at h <;> omega)))
      | refine XC.cond_t (by rfl) ?_
      | refine XC.cond_f (by rfl) ?_
      | refine XQ.next ?_
      | refine XQ.blockN ?_
      | refine XQ.blockR ?_
      | refine XQ.blockE ?_
      | refine XQ.sqR ?_
      | refine XQ.sqE ?_
      | refine XQ.rdR ?_
      | refine XQ.rdE ?_
      | refine XQ.mtR ?_
      | refine XQ.mtE ?_
    | refine XL.nil ?_
      | (refine XL.guard_d (by rfl) (by rfl) (fun h => ?_) (fun h => ?_) <;> try (first | (exfalso; omega) | exact absurd rfl h | (exfalso; simp at h <;> omega)))
      | refine XL.pures (by rfl) (by rfl) (by rfl) (by rfl) (by rfl) ?_
      | refine XL.not_d (by rfl) (by rfl) (by rfl) (by rfl) (by rfl) ?_
      | refine XL.pure 1 (by rfl) ?_
      | refine XL.fa0 (by rfl) (by rfl) (by rfl) (by rfl) (by rfl) (by rfl) ?_
      | refine XL.ld (by rfl) (by rfl) (by rfl) (by rfl) (by rfl) (by rfl) (by repeat (first | exact Sel.here | apply Sel.there)) (by rfl) ?_
      | refine XL.fa (by rfl) (by rfl) (by rfl) (by rfl) (by rfl) (by rfl) ?_
      | refine XL.ia1 (by rfl) (by rfl) (by rfl) (by rfl) (by rfl) (by rfl) (by rfl) (by omega) ?_
      | refine XL.ldr (by rfl) (by rfl) (by rfl) (by rfl) (by rfl) (by rfl) (by repeat (first | exact Sel.here | apply Sel.there)) (by assumption) ?_
      | refine XL.stl (by rfl) (by rfl) (by rfl) (by rfl) (by rfl) (by rfl) (by rfl) (by repeat (first | exact Sel.here | apply Sel.there)) (by rfl) ?_
      | refine XL.lenR (by rfl) (by rfl) (by rfl) (by rfl) (by rfl) (by rfl) (by rfl) (by first | exact fun w h => St.row (by repeat (first | exact Sel.here | apply Sel.there)) h | exact fun w h => St.rowF (by repeat (first | exact List.Mem.head _ | apply List.Mem.tail)) h | exact fun w h => Hd.rowF (by repeat (first | exact List.Mem.head _ | apply List.Mem.tail)) h) ?_
      | refine XL.iaR1 (by rfl) (by rfl) (by rfl) (by rfl) (by rfl) (by rfl) (by rfl) (by first | exact fun w h => St.row (by repeat (first | exact Sel.here | apply Sel.there)) h | exact fun w h => St.rowF (by repeat (first | exact List.Mem.head _ | apply List.Mem.tail)) h | exact fun w h => Hd.rowF (by repeat (first | exact List.Mem.head _ | apply List.Mem.tail)) h) (by omega) ?_
      | refine XL.iaR2 (by rfl) (by rfl) (by rfl) (by rfl) (by rfl) (by rfl) (by first | exact fun w h => St.row (by repeat (first | exact Sel.here | apply Sel.there)) h | exact fun w h => St.rowF (by repeat (first | exact List.Mem.head _ | apply List.Mem.tail)) h | exact fun w h => Hd.rowF (by repeat (first | exact List.Mem.head _ | apply List.Mem.tail)) h) (by rfl) (by omega) ?_
      | refine XL.faR (by rfl) (by rfl) (by rfl) (by rfl) (by rfl) (by rfl) (by first | exact fun w h => St.row (by repeat (first | exact Sel.here | apply Sel.there)) h | exact fun w h => St.rowF (by repeat (first | exact List.Mem.head _ | apply List.Mem.tail)) h | exact fun w h => Hd.rowF (by repeat (first | exact List.Mem.head _ | apply List.Mem.tail)) h) (by assumption) ?_
      | refine XL.ldR (by rfl) (by rfl) (by rfl) (by rfl) (by rfl) (by rfl) (by first | exact fun w h => St.row (by repeat (first | exact Sel.here | apply Sel.there)) h | exact fun w h => St.rowF (by repeat (first | exact List.Mem.head _ | apply List.Mem.tail)) h | exact fun w h => Hd.rowF (by repeat (first | exact List.Mem.head _ | apply List.Mem.tail)) h) (by assumption) ?_
      | refine XL.lenS (by rfl) (by rfl) (by rfl) (by rfl) (by rfl) (by rfl) (by rfl) ?_
      | refine XL.lenStr (by rfl) (by rfl) (by rfl) (by rfl) (by rfl) (by rfl) (by rfl) ?_
      | refine XL.succ (by rfl) (by rfl) (by rfl) (by rfl) (by rfl) (by rfl) (by omega) ?_
      | refine XL.addn (by rfl) (by rfl) (by rfl) (by rfl) (by rfl) (by rfl) (by omega) ?_
      | refine XL.add (by rfl) (by rfl) (by rfl) (by rfl) (by rfl) (by rfl) (by omega) ?_
      | refine XL.pred (by rfl) (by rfl) (by rfl) (by rfl) (by rfl) (by rfl) (by omega) ?_
      | refine XL.subn (by rfl) (by rfl) (by rfl) (by rfl) (by rfl) (by rfl) (by omega) ?_
      | refine XL.sub (by rfl) (by rfl) (by rfl) (by rfl) (by rfl) (by rfl) (by omega) ?_
      | refine XL.min2 (by rfl) (by rfl) (by rfl) (by rfl) (by rfl) (by rfl) ?_
      | refine XL.max2 (by rfl) (by rfl) (by rfl) (by rfl) (by rfl) (by rfl) ?_
      | refine XL.eqB (by rfl) (by rfl) (by rfl) (by rfl) (by rfl) (by rfl) (by rfl) ?_
      | refine XL.neB (by rfl) (by rfl) (by rfl) (by rfl) (by rfl) (by rfl) (by rfl) ?_
      | refine XL.psome (by rfl) (by rfl) (by rfl) (by rfl) (by rfl) (by rfl) (by rfl) ?_
      | refine XL.pnone (by rfl) (by rfl) (by rfl) (by rfl) (by rfl) (by rfl) (by rfl) ?_
      | refine XL.psome' (by rfl) (by rfl) (by rfl) (by rfl) (by rfl) (by rfl) (by rfl) ?_
      | refine XL.pnone' (by rfl) (by rfl) (by rfl) (by rfl) (by rfl) (by rfl) (by rfl) ?_
      | refine XL.conv64 (by rfl) (by rfl) (by rfl) (by rfl) (by rfl) (by rfl) (by rfl) (by omega) ?_)
    refine XC.loop (fun s : Nat => [(9, .bool true), (10, .int .i64 (k : Int)), (11, .pointer (some ⟨gb, 0, none⟩)), (12, .int .i64 (a : Int)), (13, .int .i64 ((a + m : Nat) : Int)), (16, .int .i64 ((a + s : Nat) : Int))])
      (fun s w => s ≤ m + 1 ∧ St c [groups (.pointer (some ⟨gb, 0, none⟩)) k (chain k a (a + m))] [] w)
      (fun s => m + 1 - s) 0 (by repeat (first | exact fits_nil | refine fits_cons (by rfl) ?_)) (fun w hw => ⟨Nat.zero_le _, hw⟩) ?_
    intro s
    refine XC.pure (fun hs => ?_)
    by_cases hlt : s ≤ m
    · have g := chain_get (k := k) (lo := a) (hi := a + m) (i := a + s) (by omega)
      rw [if_pos (by omega)] at g
      have hx : fnd k (chain k a (a + m)) ((a + s : Nat) : Int) = (a : Int) := by
        unfold fnd
        rw [if_pos (by omega), Int.toNat_natCast, g]
      have hy : (if 0 ≤ ((a + s : Nat) : Int) ∧ ((a + s : Nat) : Int) < k then (chain k a (a + m)).count ((chain k a (a + m)).getD ((a + s : Nat) : Int).toNat 0) else 0) = m + 1 := by
        rw [if_pos (by omega), Int.toNat_natCast, g, hcc]
        omega
      repeat' (first
        | refine XC.seq ?_
          | refine XC.region ?_
          | refine XC.block ?_
          | refine XC.skip ?_
          | refine XC.ret ?_
          | refine XC.exit ?_
          | (refine XC.cond_d (by rfl) (fun h => ?_) (fun h => ?_) <;> try (first | (exfalso; omega) | exact absurd rfl h | (exfalso; simp at h <;> omega)))
          | refine XC.cond_t (by rfl) ?_
          | refine XC.cond_f (by rfl) ?_
          | refine XQ.next ?_
          | refine XQ.blockN ?_
          | refine XQ.blockR ?_
          | refine XQ.blockE ?_
          | refine XQ.sqR ?_
          | refine XQ.sqE ?_
          | refine XQ.rdR ?_
          | refine XQ.rdE ?_
          | refine XQ.mtR ?_
          | refine XQ.mtE ?_
        | refine XL.nil ?_
          | (refine XL.guard_d (by rfl) (by rfl) (fun h => ?_) (fun h => ?_) <;> try (first | (exfalso; omega) | exact absurd rfl h | (exfalso; simp at h <;> omega)))
          | refine XL.pures (by rfl) (by rfl) (by rfl) (by rfl) (by rfl) ?_
          | refine XL.not_d (by rfl) (by rfl) (by rfl) (by rfl) (by rfl) ?_
          | refine XL.pure 1 (by rfl) ?_
          | refine XL.fa0 (by rfl) (by rfl) (by rfl) (by rfl) (by rfl) (by rfl) ?_
          | refine XL.ld (by rfl) (by rfl) (by rfl) (by rfl) (by rfl) (by rfl) (by repeat (first | exact Sel.here | apply Sel.there)) (by rfl) ?_
          | refine XL.fa (by rfl) (by rfl) (by rfl) (by rfl) (by rfl) (by rfl) ?_
          | refine XL.ia1 (by rfl) (by rfl) (by rfl) (by rfl) (by rfl) (by rfl) (by rfl) (by omega) ?_
          | refine XL.ldr (by rfl) (by rfl) (by rfl) (by rfl) (by rfl) (by rfl) (by repeat (first | exact Sel.here | apply Sel.there)) (by assumption) ?_
          | refine XL.stl (by rfl) (by rfl) (by rfl) (by rfl) (by rfl) (by rfl) (by rfl) (by repeat (first | exact Sel.here | apply Sel.there)) (by rfl) ?_
          | refine XL.lenR (by rfl) (by rfl) (by rfl) (by rfl) (by rfl) (by rfl) (by rfl) (by first | exact fun w h => St.row (by repeat (first | exact Sel.here | apply Sel.there)) h | exact fun w h => St.rowF (by repeat (first | exact List.Mem.head _ | apply List.Mem.tail)) h | exact fun w h => Hd.rowF (by repeat (first | exact List.Mem.head _ | apply List.Mem.tail)) h) ?_
          | refine XL.iaR1 (by rfl) (by rfl) (by rfl) (by rfl) (by rfl) (by rfl) (by rfl) (by first | exact fun w h => St.row (by repeat (first | exact Sel.here | apply Sel.there)) h | exact fun w h => St.rowF (by repeat (first | exact List.Mem.head _ | apply List.Mem.tail)) h | exact fun w h => Hd.rowF (by repeat (first | exact List.Mem.head _ | apply List.Mem.tail)) h) (by omega) ?_
          | refine XL.iaR2 (by rfl) (by rfl) (by rfl) (by rfl) (by rfl) (by rfl) (by first | exact fun w h => St.row (by repeat (first | exact Sel.here | apply Sel.there)) h | exact fun w h => St.rowF (by repeat (first | exact List.Mem.head _ | apply List.Mem.tail)) h | exact fun w h => Hd.rowF (by repeat (first | exact List.Mem.head _ | apply List.Mem.tail)) h) (by rfl) (by omega) ?_
          | refine XL.faR (by rfl) (by rfl) (by rfl) (by rfl) (by rfl) (by rfl) (by first | exact fun w h => St.row (by repeat (first | exact Sel.here | apply Sel.there)) h | exact fun w h => St.rowF (by repeat (first | exact List.Mem.head _ | apply List.Mem.tail)) h | exact fun w h => Hd.rowF (by repeat (first | exact List.Mem.head _ | apply List.Mem.tail)) h) (by assumption) ?_
          | refine XL.ldR (by rfl) (by rfl) (by rfl) (by rfl) (by rfl) (by rfl) (by first | exact fun w h => St.row (by repeat (first | exact Sel.here | apply Sel.there)) h | exact fun w h => St.rowF (by repeat (first | exact List.Mem.head _ | apply List.Mem.tail)) h | exact fun w h => Hd.rowF (by repeat (first | exact List.Mem.head _ | apply List.Mem.tail)) h) (by assumption) ?_
          | refine XL.lenS (by rfl) (by rfl) (by rfl) (by rfl) (by rfl) (by rfl) (by rfl) ?_
          | refine XL.lenStr (by rfl) (by rfl) (by rfl) (by rfl) (by rfl) (by rfl) (by rfl) ?_
          | refine XL.succ (by rfl) (by rfl) (by rfl) (by rfl) (by rfl) (by rfl) (by omega) ?_
          | refine XL.addn (by rfl) (by rfl) (by rfl) (by rfl) (by rfl) (by rfl) (by omega) ?_
          | refine XL.add (by rfl) (by rfl) (by rfl) (by rfl) (by rfl) (by rfl) (by omega) ?_
          | refine XL.pred (by rfl) (by rfl) (by rfl) (by rfl) (by rfl) (by rfl) (by omega) ?_
          | refine XL.subn (by rfl) (by rfl) (by rfl) (by rfl) (by rfl) (by rfl) (by omega) ?_
          | refine XL.sub (by rfl) (by rfl) (by rfl) (by rfl) (by rfl) (by rfl) (by omega) ?_
          | refine XL.min2 (by rfl) (by rfl) (by rfl) (by rfl) (by rfl) (by rfl) ?_
          | refine XL.max2 (by rfl) (by rfl) (by rfl) (by rfl) (by rfl) (by rfl) ?_
          | refine XL.eqB (by rfl) (by rfl) (by rfl) (by rfl) (by rfl) (by rfl) (by rfl) ?_
          | refine XL.neB (by rfl) (by rfl) (by rfl) (by rfl) (by rfl) (by rfl) (by rfl) ?_
          | refine XL.psome (by rfl) (by rfl) (by rfl) (by rfl) (by rfl) (by rfl) (by rfl) ?_
          | refine XL.pnone (by rfl) (by rfl) (by rfl) (by rfl) (by rfl) (by rfl) (by rfl) ?_
          | refine XL.psome' (by rfl) (by rfl) (by rfl) (by rfl) (by rfl) (by rfl) (by rfl) ?_
          | refine XL.pnone' (by rfl) (by rfl) (by rfl) (by rfl) (by rfl) (by rfl) (by rfl) ?_
          | refine XL.conv64 (by rfl) (by rfl) (by rfl) (by rfl) (by rfl) (by rfl) (by rfl) (by omega) ?_)
      refine XL.triq (find_is hk2 hx) (by rfl) (by rfl) (by rfl) (by rfl) (by rfl) (by rfl) (by rfl) (by repeat' (first | exact Sels.nil | exact Sel.here | apply Sels.cons | apply Sel.there)) (by repeat' (first | exact Sels.nil | exact Sel.here | apply Sels.cons | apply Sel.there)) (fun _ h => nomatch h) ?_
      repeat' (first
        | refine XC.seq ?_
          | refine XC.region ?_
          | refine XC.block ?_
          | refine XC.skip ?_
          | refine XC.ret ?_
          | refine XC.exit ?_
          | (refine XC.cond_d (by rfl) (fun h => ?_) (fun h => ?_) <;> try (first | (exfalso; omega) | exact absurd rfl h | (exfalso; simp at h <;> omega)))
          | refine XC.cond_t (by rfl) ?_
          | refine XC.cond_f (by rfl) ?_
          | refine XQ.next ?_
          | refine XQ.blockN ?_
          | refine XQ.blockR ?_
          | refine XQ.blockE ?_
          | refine XQ.sqR ?_
          | refine XQ.sqE ?_
          | refine XQ.rdR ?_
          | refine XQ.rdE ?_
          | refine XQ.mtR ?_
          | refine XQ.mtE ?_
        | refine XL.nil ?_
          | (refine XL.guard_d (by rfl) (by rfl) (fun h => ?_) (fun h => ?_) <;> try (first | (exfalso; omega) | exact absurd rfl h | (exfalso; simp at h <;> omega)))
          | refine XL.pures (by rfl) (by rfl) (by rfl) (by rfl) (by rfl) ?_
          | refine XL.not_d (by rfl) (by rfl) (by rfl) (by rfl) (by rfl) ?_
          | refine XL.pure 1 (by rfl) ?_
          | refine XL.fa0 (by rfl) (by rfl) (by rfl) (by rfl) (by rfl) (by rfl) ?_
          | refine XL.ld (by rfl) (by rfl) (by rfl) (by rfl) (by rfl) (by rfl) (by repeat (first | exact Sel.here | apply Sel.there)) (by rfl) ?_
          | refine XL.fa (by rfl) (by rfl) (by rfl) (by rfl) (by rfl) (by rfl) ?_
          | refine XL.ia1 (by rfl) (by rfl) (by rfl) (by rfl) (by rfl) (by rfl) (by rfl) (by omega) ?_
          | refine XL.ldr (by rfl) (by rfl) (by rfl) (by rfl) (by rfl) (by rfl) (by repeat (first | exact Sel.here | apply Sel.there)) (by assumption) ?_
          | refine XL.stl (by rfl) (by rfl) (by rfl) (by rfl) (by rfl) (by rfl) (by rfl) (by repeat (first | exact Sel.here | apply Sel.there)) (by rfl) ?_
          | refine XL.lenR (by rfl) (by rfl) (by rfl) (by rfl) (by rfl) (by rfl) (by rfl) (by first | exact fun w h => St.row (by repeat (first | exact Sel.here | apply Sel.there)) h | exact fun w h => St.rowF (by repeat (first | exact List.Mem.head _ | apply List.Mem.tail)) h | exact fun w h => Hd.rowF (by repeat (first | exact List.Mem.head _ | apply List.Mem.tail)) h) ?_
          | refine XL.iaR1 (by rfl) (by rfl) (by rfl) (by rfl) (by rfl) (by rfl) (by rfl) (by first | exact fun w h => St.row (by repeat (first | exact Sel.here | apply Sel.there)) h | exact fun w h => St.rowF (by repeat (first | exact List.Mem.head _ | apply List.Mem.tail)) h | exact fun w h => Hd.rowF (by repeat (first | exact List.Mem.head _ | apply List.Mem.tail)) h) (by omega) ?_
          | refine XL.iaR2 (by rfl) (by rfl) (by rfl) (by rfl) (by rfl) (by rfl) (by first | exact fun w h => St.row (by repeat (first | exact Sel.here | apply Sel.there)) h | exact fun w h => St.rowF (by repeat (first | exact List.Mem.head _ | apply List.Mem.tail)) h | exact fun w h => Hd.rowF (by repeat (first | exact List.Mem.head _ | apply List.Mem.tail)) h) (by rfl) (by omega) ?_
          | refine XL.faR (by rfl) (by rfl) (by rfl) (by rfl) (by rfl) (by rfl) (by first | exact fun w h => St.row (by repeat (first | exact Sel.here | apply Sel.there)) h | exact fun w h => St.rowF (by repeat (first | exact List.Mem.head _ | apply List.Mem.tail)) h | exact fun w h => Hd.rowF (by repeat (first | exact List.Mem.head _ | apply List.Mem.tail)) h) (by assumption) ?_
          | refine XL.ldR (by rfl) (by rfl) (by rfl) (by rfl) (by rfl) (by rfl) (by first | exact fun w h => St.row (by repeat (first | exact Sel.here | apply Sel.there)) h | exact fun w h => St.rowF (by repeat (first | exact List.Mem.head _ | apply List.Mem.tail)) h | exact fun w h => Hd.rowF (by repeat (first | exact List.Mem.head _ | apply List.Mem.tail)) h) (by assumption) ?_
          | refine XL.lenS (by rfl) (by rfl) (by rfl) (by rfl) (by rfl) (by rfl) (by rfl) ?_
          | refine XL.lenStr (by rfl) (by rfl) (by rfl) (by rfl) (by rfl) (by rfl) (by rfl) ?_
          | refine XL.succ (by rfl) (by rfl) (by rfl) (by rfl) (by rfl) (by rfl) (by omega) ?_
          | refine XL.addn (by rfl) (by rfl) (by rfl) (by rfl) (by rfl) (by rfl) (by omega) ?_
          | refine XL.add (by rfl) (by rfl) (by rfl) (by rfl) (by rfl) (by rfl) (by omega) ?_
          | refine XL.pred (by rfl) (by rfl) (by rfl) (by rfl) (by rfl) (by rfl) (by omega) ?_
          | refine XL.subn (by rfl) (by rfl) (by rfl) (by rfl) (by rfl) (by rfl) (by omega) ?_
          | refine XL.sub (by rfl) (by rfl) (by rfl) (by rfl) (by rfl) (by rfl) (by omega) ?_
          | refine XL.min2 (by rfl) (by rfl) (by rfl) (by rfl) (by rfl) (by rfl) ?_
          | refine XL.max2 (by rfl) (by rfl) (by rfl) (by rfl) (by rfl) (by rfl) ?_
          | refine XL.eqB (by rfl) (by rfl) (by rfl) (by rfl) (by rfl) (by rfl) (by rfl) ?_
          | refine XL.neB (by rfl) (by rfl) (by rfl) (by rfl) (by rfl) (by rfl) (by rfl) ?_
          | refine XL.psome (by rfl) (by rfl) (by rfl) (by rfl) (by rfl) (by rfl) (by rfl) ?_
          | refine XL.pnone (by rfl) (by rfl) (by rfl) (by rfl) (by rfl) (by rfl) (by rfl) ?_
          | refine XL.psome' (by rfl) (by rfl) (by rfl) (by rfl) (by rfl) (by rfl) (by rfl) ?_
          | refine XL.pnone' (by rfl) (by rfl) (by rfl) (by rfl) (by rfl) (by rfl) (by rfl) ?_
          | refine XL.conv64 (by rfl) (by rfl) (by rfl) (by rfl) (by rfl) (by rfl) (by rfl) (by omega) ?_)
      refine XL.triq (size_is hk2 hy) (by rfl) (by rfl) (by rfl) (by rfl) (by rfl) (by rfl) (by rfl) (by repeat' (first | exact Sels.nil | exact Sel.here | apply Sels.cons | apply Sel.there)) (by repeat' (first | exact Sels.nil | exact Sel.here | apply Sels.cons | apply Sel.there)) (fun _ h => nomatch h) ?_
      repeat' (first
        | refine XC.seq ?_
          | refine XC.region ?_
          | refine XC.block ?_
          | refine XC.skip ?_
          | refine XC.ret ?_
          | refine XC.exit ?_
          | (refine XC.cond_d (by rfl) (fun h => ?_) (fun h => ?_) <;> try (first | (exfalso; omega) | exact absurd rfl h | (exfalso; simp at h <;> omega)))
          | refine XC.cond_t (by rfl) ?_
          | refine XC.cond_f (by rfl) ?_
          | refine XQ.next ?_
          | refine XQ.blockN ?_
          | refine XQ.blockR ?_
          | refine XQ.blockE ?_
          | refine XQ.sqR ?_
          | refine XQ.sqE ?_
          | refine XQ.rdR ?_
          | refine XQ.rdE ?_
          | refine XQ.mtR ?_
          | refine XQ.mtE ?_
        | refine XL.nil ?_
          | (refine XL.guard_d (by rfl) (by rfl) (fun h => ?_) (fun h => ?_) <;> try (first | (exfalso; omega) | exact absurd rfl h | (exfalso; simp at h <;> omega)))
          | refine XL.pures (by rfl) (by rfl) (by rfl) (by rfl) (by rfl) ?_
          | refine XL.not_d (by rfl) (by rfl) (by rfl) (by rfl) (by rfl) ?_
          | refine XL.pure 1 (by rfl) ?_
          | refine XL.fa0 (by rfl) (by rfl) (by rfl) (by rfl) (by rfl) (by rfl) ?_
          | refine XL.ld (by rfl) (by rfl) (by rfl) (by rfl) (by rfl) (by rfl) (by repeat (first | exact Sel.here | apply Sel.there)) (by rfl) ?_
          | refine XL.fa (by rfl) (by rfl) (by rfl) (by rfl) (by rfl) (by rfl) ?_
          | refine XL.ia1 (by rfl) (by rfl) (by rfl) (by rfl) (by rfl) (by rfl) (by rfl) (by omega) ?_
          | refine XL.ldr (by rfl) (by rfl) (by rfl) (by rfl) (by rfl) (by rfl) (by repeat (first | exact Sel.here | apply Sel.there)) (by assumption) ?_
          | refine XL.stl (by rfl) (by rfl) (by rfl) (by rfl) (by rfl) (by rfl) (by rfl) (by repeat (first | exact Sel.here | apply Sel.there)) (by rfl) ?_
          | refine XL.lenR (by rfl) (by rfl) (by rfl) (by rfl) (by rfl) (by rfl) (by rfl) (by first | exact fun w h => St.row (by repeat (first | exact Sel.here | apply Sel.there)) h | exact fun w h => St.rowF (by repeat (first | exact List.Mem.head _ | apply List.Mem.tail)) h | exact fun w h => Hd.rowF (by repeat (first | exact List.Mem.head _ | apply List.Mem.tail)) h) ?_
          | refine XL.iaR1 (by rfl) (by rfl) (by rfl) (by rfl) (by rfl) (by rfl) (by rfl) (by first | exact fun w h => St.row (by repeat (first | exact Sel.here | apply Sel.there)) h | exact fun w h => St.rowF (by repeat (first | exact List.Mem.head _ | apply List.Mem.tail)) h | exact fun w h => Hd.rowF (by repeat (first | exact List.Mem.head _ | apply List.Mem.tail)) h) (by omega) ?_
          | refine XL.iaR2 (by rfl) (by rfl) (by rfl) (by rfl) (by rfl) (by rfl) (by first | exact fun w h => St.row (by repeat (first | exact Sel.here | apply Sel.there)) h | exact fun w h => St.rowF (by repeat (first | exact List.Mem.head _ | apply List.Mem.tail)) h | exact fun w h => Hd.rowF (by repeat (first | exact List.Mem.head _ | apply List.Mem.tail)) h) (by rfl) (by omega) ?_
          | refine XL.faR (by rfl) (by rfl) (by rfl) (by rfl) (by rfl) (by rfl) (by first | exact fun w h => St.row (by repeat (first | exact Sel.here | apply Sel.there)) h | exact fun w h => St.rowF (by repeat (first | exact List.Mem.head _ | apply List.Mem.tail)) h | exact fun w h => Hd.rowF (by repeat (first | exact List.Mem.head _ | apply List.Mem.tail)) h) (by assumption) ?_
          | refine XL.ldR (by rfl) (by rfl) (by rfl) (by rfl) (by rfl) (by rfl) (by first | exact fun w h => St.row (by repeat (first | exact Sel.here | apply Sel.there)) h | exact fun w h => St.rowF (by repeat (first | exact List.Mem.head _ | apply List.Mem.tail)) h | exact fun w h => Hd.rowF (by repeat (first | exact List.Mem.head _ | apply List.Mem.tail)) h) (by assumption) ?_
          | refine XL.lenS (by rfl) (by rfl) (by rfl) (by rfl) (by rfl) (by rfl) (by rfl) ?_
          | refine XL.lenStr (by rfl) (by rfl) (by rfl) (by rfl) (by rfl) (by rfl) (by rfl) ?_
          | refine XL.succ (by rfl) (by rfl) (by rfl) (by rfl) (by rfl) (by rfl) (by omega) ?_
          | refine XL.addn (by rfl) (by rfl) (by rfl) (by rfl) (by rfl) (by rfl) (by omega) ?_
          | refine XL.add (by rfl) (by rfl) (by rfl) (by rfl) (by rfl) (by rfl) (by omega) ?_
          | refine XL.pred (by rfl) (by rfl) (by rfl) (by rfl) (by rfl) (by rfl) (by omega) ?_
          | refine XL.subn (by rfl) (by rfl) (by rfl) (by rfl) (by rfl) (by rfl) (by omega) ?_
          | refine XL.sub (by rfl) (by rfl) (by rfl) (by rfl) (by rfl) (by rfl) (by omega) ?_
          | refine XL.min2 (by rfl) (by rfl) (by rfl) (by rfl) (by rfl) (by rfl) ?_
          | refine XL.max2 (by rfl) (by rfl) (by rfl) (by rfl) (by rfl) (by rfl) ?_
          | refine XL.eqB (by rfl) (by rfl) (by rfl) (by rfl) (by rfl) (by rfl) (by rfl) ?_
          | refine XL.neB (by rfl) (by rfl) (by rfl) (by rfl) (by rfl) (by rfl) (by rfl) ?_
          | refine XL.psome (by rfl) (by rfl) (by rfl) (by rfl) (by rfl) (by rfl) (by rfl) ?_
          | refine XL.pnone (by rfl) (by rfl) (by rfl) (by rfl) (by rfl) (by rfl) (by rfl) ?_
          | refine XL.psome' (by rfl) (by rfl) (by rfl) (by rfl) (by rfl) (by rfl) (by rfl) ?_
          | refine XL.pnone' (by rfl) (by rfl) (by rfl) (by rfl) (by rfl) (by rfl) (by rfl) ?_
          | refine XL.conv64 (by rfl) (by rfl) (by rfl) (by rfl) (by rfl) (by rfl) (by rfl) (by omega) ?_)
      exact XQ.round (s + 1) (by repeat (first | exact fits_nil | refine fits_cons (by rfl) ?_)) (fun w hw => ⟨by omega, hw⟩) (by omega)
    · repeat' (first
      | refine XC.seq ?_
        | refine XC.region ?_
        | refine XC.block ?_
        | refine XC.skip ?_
        | refine XC.ret ?_
        | refine XC.exit ?_
        | (refine XC.cond_d (by rfl) (fun h => ?_) (fun h => ?_) <;> try (first | (exfalso; omega) | exact absurd rfl h | (exfalso; simp at h <;> omega)))
        | refine XC.cond_t (by rfl) ?_
        | refine XC.cond_f (by rfl) ?_
        | refine XQ.next ?_
        | refine XQ.blockN ?_
        | refine XQ.blockR ?_
        | refine XQ.blockE ?_
        | refine XQ.sqR ?_
        | refine XQ.sqE ?_
        | refine XQ.rdR ?_
        | refine XQ.rdE ?_
        | refine XQ.mtR ?_
        | refine XQ.mtE ?_
      | refine XL.nil ?_
        | (refine XL.guard_d (by rfl) (by rfl) (fun h => ?_) (fun h => ?_) <;> try (first | (exfalso; omega) | exact absurd rfl h | (exfalso; simp at h <;> omega)))
        | refine XL.pures (by rfl) (by rfl) (by rfl) (by rfl) (by rfl) ?_
        | refine XL.not_d (by rfl) (by rfl) (by rfl) (by rfl) (by rfl) ?_
        | refine XL.pure 1 (by rfl) ?_
        | refine XL.fa0 (by rfl) (by rfl) (by rfl) (by rfl) (by rfl) (by rfl) ?_
        | refine XL.ld (by rfl) (by rfl) (by rfl) (by rfl) (by rfl) (by rfl) (by repeat (first | exact Sel.here | apply Sel.there)) (by rfl) ?_
        | refine XL.fa (by rfl) (by rfl) (by rfl) (by rfl) (by rfl) (by rfl) ?_
        | refine XL.ia1 (by rfl) (by rfl) (by rfl) (by rfl) (by rfl) (by rfl) (by rfl) (by omega) ?_
        | refine XL.ldr (by rfl) (by rfl) (by rfl) (by rfl) (by rfl) (by rfl) (by repeat (first | exact Sel.here | apply Sel.there)) (by assumption) ?_
        | refine XL.stl (by rfl) (by rfl) (by rfl) (by rfl) (by rfl) (by rfl) (by rfl) (by repeat (first | exact Sel.here | apply Sel.there)) (by rfl) ?_
        | refine XL.lenR (by rfl) (by rfl) (by rfl) (by rfl) (by rfl) (by rfl) (by rfl) (by first | exact fun w h => St.row (by repeat (first | exact Sel.here | apply Sel.there)) h | exact fun w h => St.rowF (by repeat (first | exact List.Mem.head _ | apply List.Mem.tail)) h | exact fun w h => Hd.rowF (by repeat (first | exact List.Mem.head _ | apply List.Mem.tail)) h) ?_
        | refine XL.iaR1 (by rfl) (by rfl) (by rfl) (by rfl) (by rfl) (by rfl) (by rfl) (by first | exact fun w h => St.row (by repeat (first | exact Sel.here | apply Sel.there)) h | exact fun w h => St.rowF (by repeat (first | exact List.Mem.head _ | apply List.Mem.tail)) h | exact fun w h => Hd.rowF (by repeat (first | exact List.Mem.head _ | apply List.Mem.tail)) h) (by omega) ?_
        | refine XL.iaR2 (by rfl) (by rfl) (by rfl) (by rfl) (by rfl) (by rfl) (by first | exact fun w h => St.row (by repeat (first | exact Sel.here | apply Sel.there)) h | exact fun w h => St.rowF (by repeat (first | exact List.Mem.head _ | apply List.Mem.tail)) h | exact fun w h => Hd.rowF (by repeat (first | exact List.Mem.head _ | apply List.Mem.tail)) h) (by rfl) (by omega) ?_
        | refine XL.faR (by rfl) (by rfl) (by rfl) (by rfl) (by rfl) (by rfl) (by first | exact fun w h => St.row (by repeat (first | exact Sel.here | apply Sel.there)) h | exact fun w h => St.rowF (by repeat (first | exact List.Mem.head _ | apply List.Mem.tail)) h | exact fun w h => Hd.rowF (by repeat (first | exact List.Mem.head _ | apply List.Mem.tail)) h) (by assumption) ?_
        | refine XL.ldR (by rfl) (by rfl) (by rfl) (by rfl) (by rfl) (by rfl) (by first | exact fun w h => St.row (by repeat (first | exact Sel.here | apply Sel.there)) h | exact fun w h => St.rowF (by repeat (first | exact List.Mem.head _ | apply List.Mem.tail)) h | exact fun w h => Hd.rowF (by repeat (first | exact List.Mem.head _ | apply List.Mem.tail)) h) (by assumption) ?_
        | refine XL.lenS (by rfl) (by rfl) (by rfl) (by rfl) (by rfl) (by rfl) (by rfl) ?_
        | refine XL.lenStr (by rfl) (by rfl) (by rfl) (by rfl) (by rfl) (by rfl) (by rfl) ?_
        | refine XL.succ (by rfl) (by rfl) (by rfl) (by rfl) (by rfl) (by rfl) (by omega) ?_
        | refine XL.addn (by rfl) (by rfl) (by rfl) (by rfl) (by rfl) (by rfl) (by omega) ?_
        | refine XL.add (by rfl) (by rfl) (by rfl) (by rfl) (by rfl) (by rfl) (by omega) ?_
        | refine XL.pred (by rfl) (by rfl) (by rfl) (by rfl) (by rfl) (by rfl) (by omega) ?_
        | refine XL.subn (by rfl) (by rfl) (by rfl) (by rfl) (by rfl) (by rfl) (by omega) ?_
        | refine XL.sub (by rfl) (by rfl) (by rfl) (by rfl) (by rfl) (by rfl) (by omega) ?_
        | refine XL.min2 (by rfl) (by rfl) (by rfl) (by rfl) (by rfl) (by rfl) ?_
        | refine XL.max2 (by rfl) (by rfl) (by rfl) (by rfl) (by rfl) (by rfl) ?_
        | refine XL.eqB (by rfl) (by rfl) (by rfl) (by rfl) (by rfl) (by rfl) (by rfl) ?_
        | refine XL.neB (by rfl) (by rfl) (by rfl) (by rfl) (by rfl) (by rfl) (by rfl) ?_
        | refine XL.psome (by rfl) (by rfl) (by rfl) (by rfl) (by rfl) (by rfl) (by rfl) ?_
        | refine XL.pnone (by rfl) (by rfl) (by rfl) (by rfl) (by rfl) (by rfl) (by rfl) ?_
        | refine XL.psome' (by rfl) (by rfl) (by rfl) (by rfl) (by rfl) (by rfl) (by rfl) ?_
        | refine XL.pnone' (by rfl) (by rfl) (by rfl) (by rfl) (by rfl) (by rfl) (by rfl) ?_
        | refine XL.conv64 (by rfl) (by rfl) (by rfl) (by rfl) (by rfl) (by rfl) (by rfl) (by omega) ?_)
      exact XQ.meet () (by repeat (first | exact fits_nil | refine fits_cons (by rfl) ?_)) (fun w h => h)
  rintro -
  repeat' (first
    | refine XC.seq ?_
      | refine XC.region ?_
      | refine XC.block ?_
      | refine XC.skip ?_
      | refine XC.ret ?_
      | refine XC.exit ?_
      | (refine XC.cond_d (by rfl) (fun h => ?_) (fun h => ?_) <;> try (first | (exfalso; omega) | exact absurd rfl h | (exfalso; simp at h <;> omega)))
      | refine XC.cond_t (by rfl) ?_
      | refine XC.cond_f (by rfl) ?_
      | refine XQ.next ?_
      | refine XQ.blockN ?_
      | refine XQ.blockR ?_
      | refine XQ.blockE ?_
      | refine XQ.sqR ?_
      | refine XQ.sqE ?_
      | refine XQ.rdR ?_
      | refine XQ.rdE ?_
      | refine XQ.mtR ?_
      | refine XQ.mtE ?_
    | refine XL.nil ?_
      | (refine XL.guard_d (by rfl) (by rfl) (fun h => ?_) (fun h => ?_) <;> try (first | (exfalso; omega) | exact absurd rfl h | (exfalso; simp at h <;> omega)))
      | refine XL.pures (by rfl) (by rfl) (by rfl) (by rfl) (by rfl) ?_
      | refine XL.not_d (by rfl) (by rfl) (by rfl) (by rfl) (by rfl) ?_
      | refine XL.pure 1 (by rfl) ?_
      | refine XL.fa0 (by rfl) (by rfl) (by rfl) (by rfl) (by rfl) (by rfl) ?_
      | refine XL.ld (by rfl) (by rfl) (by rfl) (by rfl) (by rfl) (by rfl) (by repeat (first | exact Sel.here | apply Sel.there)) (by rfl) ?_
      | refine XL.fa (by rfl) (by rfl) (by rfl) (by rfl) (by rfl) (by rfl) ?_
      | refine XL.ia1 (by rfl) (by rfl) (by rfl) (by rfl) (by rfl) (by rfl) (by rfl) (by omega) ?_
      | refine XL.ldr (by rfl) (by rfl) (by rfl) (by rfl) (by rfl) (by rfl) (by repeat (first | exact Sel.here | apply Sel.there)) (by assumption) ?_
      | refine XL.stl (by rfl) (by rfl) (by rfl) (by rfl) (by rfl) (by rfl) (by rfl) (by repeat (first | exact Sel.here | apply Sel.there)) (by rfl) ?_
      | refine XL.lenR (by rfl) (by rfl) (by rfl) (by rfl) (by rfl) (by rfl) (by rfl) (by first | exact fun w h => St.row (by repeat (first | exact Sel.here | apply Sel.there)) h | exact fun w h => St.rowF (by repeat (first | exact List.Mem.head _ | apply List.Mem.tail)) h | exact fun w h => Hd.rowF (by repeat (first | exact List.Mem.head _ | apply List.Mem.tail)) h) ?_
      | refine XL.iaR1 (by rfl) (by rfl) (by rfl) (by rfl) (by rfl) (by rfl) (by rfl) (by first | exact fun w h => St.row (by repeat (first | exact Sel.here | apply Sel.there)) h | exact fun w h => St.rowF (by repeat (first | exact List.Mem.head _ | apply List.Mem.tail)) h | exact fun w h => Hd.rowF (by repeat (first | exact List.Mem.head _ | apply List.Mem.tail)) h) (by omega) ?_
      | refine XL.iaR2 (by rfl) (by rfl) (by rfl) (by rfl) (by rfl) (by rfl) (by first | exact fun w h => St.row (by repeat (first | exact Sel.here | apply Sel.there)) h | exact fun w h => St.rowF (by repeat (first | exact List.Mem.head _ | apply List.Mem.tail)) h | exact fun w h => Hd.rowF (by repeat (first | exact List.Mem.head _ | apply List.Mem.tail)) h) (by rfl) (by omega) ?_
      | refine XL.faR (by rfl) (by rfl) (by rfl) (by rfl) (by rfl) (by rfl) (by first | exact fun w h => St.row (by repeat (first | exact Sel.here | apply Sel.there)) h | exact fun w h => St.rowF (by repeat (first | exact List.Mem.head _ | apply List.Mem.tail)) h | exact fun w h => Hd.rowF (by repeat (first | exact List.Mem.head _ | apply List.Mem.tail)) h) (by assumption) ?_
      | refine XL.ldR (by rfl) (by rfl) (by rfl) (by rfl) (by rfl) (by rfl) (by first | exact fun w h => St.row (by repeat (first | exact Sel.here | apply Sel.there)) h | exact fun w h => St.rowF (by repeat (first | exact List.Mem.head _ | apply List.Mem.tail)) h | exact fun w h => Hd.rowF (by repeat (first | exact List.Mem.head _ | apply List.Mem.tail)) h) (by assumption) ?_
      | refine XL.lenS (by rfl) (by rfl) (by rfl) (by rfl) (by rfl) (by rfl) (by rfl) ?_
      | refine XL.lenStr (by rfl) (by rfl) (by rfl) (by rfl) (by rfl) (by rfl) (by rfl) ?_
      | refine XL.succ (by rfl) (by rfl) (by rfl) (by rfl) (by rfl) (by rfl) (by omega) ?_
      | refine XL.addn (by rfl) (by rfl) (by rfl) (by rfl) (by rfl) (by rfl) (by omega) ?_
      | refine XL.add (by rfl) (by rfl) (by rfl) (by rfl) (by rfl) (by rfl) (by omega) ?_
      | refine XL.pred (by rfl) (by rfl) (by rfl) (by rfl) (by rfl) (by rfl) (by omega) ?_
      | refine XL.subn (by rfl) (by rfl) (by rfl) (by rfl) (by rfl) (by rfl) (by omega) ?_
      | refine XL.sub (by rfl) (by rfl) (by rfl) (by rfl) (by rfl) (by rfl) (by omega) ?_
      | refine XL.min2 (by rfl) (by rfl) (by rfl) (by rfl) (by rfl) (by rfl) ?_
      | refine XL.max2 (by rfl) (by rfl) (by rfl) (by rfl) (by rfl) (by rfl) ?_
      | refine XL.eqB (by rfl) (by rfl) (by rfl) (by rfl) (by rfl) (by rfl) (by rfl) ?_
      | refine XL.neB (by rfl) (by rfl) (by rfl) (by rfl) (by rfl) (by rfl) (by rfl) ?_
      | refine XL.psome (by rfl) (by rfl) (by rfl) (by rfl) (by rfl) (by rfl) (by rfl) ?_
      | refine XL.pnone (by rfl) (by rfl) (by rfl) (by rfl) (by rfl) (by rfl) (by rfl) ?_
      | refine XL.psome' (by rfl) (by rfl) (by rfl) (by rfl) (by rfl) (by rfl) (by rfl) ?_
      | refine XL.pnone' (by rfl) (by rfl) (by rfl) (by rfl) (by rfl) (by rfl) (by rfl) ?_
      | refine XL.conv64 (by rfl) (by rfl) (by rfl) (by rfl) (by rfl) (by rfl) (by rfl) (by omega) ?_)
  refine XL.triq (count_is hk2 (rfl : cnt k (chain k a (a + m)) = _)) (by rfl) (by rfl) (by rfl) (by rfl) (by rfl) (by rfl) (by rfl) (by repeat' (first | exact Sels.nil | exact Sel.here | apply Sels.cons | apply Sel.there)) (by repeat' (first | exact Sels.nil | exact Sel.here | apply Sels.cons | apply Sel.there)) (fun _ h => nomatch h) ?_
  repeat' (first
    | refine XC.seq ?_
      | refine XC.region ?_
      | refine XC.block ?_
      | refine XC.skip ?_
      | refine XC.ret ?_
      | refine XC.exit ?_
      | (refine XC.cond_d (by rfl) (fun h => ?_) (fun h => ?_) <;> try (first | (exfalso; omega) | exact absurd rfl h | (exfalso; simp at h <;> omega)))
      | refine XC.cond_t (by rfl) ?_
      | refine XC.cond_f (by rfl) ?_
      | refine XQ.next ?_
      | refine XQ.blockN ?_
      | refine XQ.blockR ?_
      | refine XQ.blockE ?_
      | refine XQ.sqR ?_
      | refine XQ.sqE ?_
      | refine XQ.rdR ?_
      | refine XQ.rdE ?_
      | refine XQ.mtR ?_
      | refine XQ.mtE ?_
    | refine XL.nil ?_
      | (refine XL.guard_d (by rfl) (by rfl) (fun h => ?_) (fun h => ?_) <;> try (first | (exfalso; omega) | exact absurd rfl h | (exfalso; simp at h <;> omega)))
      | refine XL.pures (by rfl) (by rfl) (by rfl) (by rfl) (by rfl) ?_
      | refine XL.not_d (by rfl) (by rfl) (by rfl) (by rfl) (by rfl) ?_
      | refine XL.pure 1 (by rfl) ?_
      | refine XL.fa0 (by rfl) (by rfl) (by rfl) (by rfl) (by rfl) (by rfl) ?_
      | refine XL.ld (by rfl) (by rfl) (by rfl) (by rfl) (by rfl) (by rfl) (by repeat (first | exact Sel.here | apply Sel.there)) (by rfl) ?_
      | refine XL.fa (by rfl) (by rfl) (by rfl) (by rfl) (by rfl) (by rfl) ?_
      | refine XL.ia1 (by rfl) (by rfl) (by rfl) (by rfl) (by rfl) (by rfl) (by rfl) (by omega) ?_
      | refine XL.ldr (by rfl) (by rfl) (by rfl) (by rfl) (by rfl) (by rfl) (by repeat (first | exact Sel.here | apply Sel.there)) (by assumption) ?_
      | refine XL.stl (by rfl) (by rfl) (by rfl) (by rfl) (by rfl) (by rfl) (by rfl) (by repeat (first | exact Sel.here | apply Sel.there)) (by rfl) ?_
      | refine XL.lenR (by rfl) (by rfl) (by rfl) (by rfl) (by rfl) (by rfl) (by rfl) (by first | exact fun w h => St.row (by repeat (first | exact Sel.here | apply Sel.there)) h | exact fun w h => St.rowF (by repeat (first | exact List.Mem.head _ | apply List.Mem.tail)) h | exact fun w h => Hd.rowF (by repeat (first | exact List.Mem.head _ | apply List.Mem.tail)) h) ?_
      | refine XL.iaR1 (by rfl) (by rfl) (by rfl) (by rfl) (by rfl) (by rfl) (by rfl) (by first | exact fun w h => St.row (by repeat (first | exact Sel.here | apply Sel.there)) h | exact fun w h => St.rowF (by repeat (first | exact List.Mem.head _ | apply List.Mem.tail)) h | exact fun w h => Hd.rowF (by repeat (first | exact List.Mem.head _ | apply List.Mem.tail)) h) (by omega) ?_
      | refine XL.iaR2 (by rfl) (by rfl) (by rfl) (by rfl) (by rfl) (by rfl) (by first | exact fun w h => St.row (by repeat (first | exact Sel.here | apply Sel.there)) h | exact fun w h => St.rowF (by repeat (first | exact List.Mem.head _ | apply List.Mem.tail)) h | exact fun w h => Hd.rowF (by repeat (first | exact List.Mem.head _ | apply List.Mem.tail)) h) (by rfl) (by omega) ?_
      | refine XL.faR (by rfl) (by rfl) (by rfl) (by rfl) (by rfl) (by rfl) (by first | exact fun w h => St.row (by repeat (first | exact Sel.here | apply Sel.there)) h | exact fun w h => St.rowF (by repeat (first | exact List.Mem.head _ | apply List.Mem.tail)) h | exact fun w h => Hd.rowF (by repeat (first | exact List.Mem.head _ | apply List.Mem.tail)) h) (by assumption) ?_
      | refine XL.ldR (by rfl) (by rfl) (by rfl) (by rfl) (by rfl) (by rfl) (by first | exact fun w h => St.row (by repeat (first | exact Sel.here | apply Sel.there)) h | exact fun w h => St.rowF (by repeat (first | exact List.Mem.head _ | apply List.Mem.tail)) h | exact fun w h => Hd.rowF (by repeat (first | exact List.Mem.head _ | apply List.Mem.tail)) h) (by assumption) ?_
      | refine XL.lenS (by rfl) (by rfl) (by rfl) (by rfl) (by rfl) (by rfl) (by rfl) ?_
      | refine XL.lenStr (by rfl) (by rfl) (by rfl) (by rfl) (by rfl) (by rfl) (by rfl) ?_
      | refine XL.succ (by rfl) (by rfl) (by rfl) (by rfl) (by rfl) (by rfl) (by omega) ?_
      | refine XL.addn (by rfl) (by rfl) (by rfl) (by rfl) (by rfl) (by rfl) (by omega) ?_
      | refine XL.add (by rfl) (by rfl) (by rfl) (by rfl) (by rfl) (by rfl) (by omega) ?_
      | refine XL.pred (by rfl) (by rfl) (by rfl) (by rfl) (by rfl) (by rfl) (by omega) ?_
      | refine XL.subn (by rfl) (by rfl) (by rfl) (by rfl) (by rfl) (by rfl) (by omega) ?_
      | refine XL.sub (by rfl) (by rfl) (by rfl) (by rfl) (by rfl) (by rfl) (by omega) ?_
      | refine XL.min2 (by rfl) (by rfl) (by rfl) (by rfl) (by rfl) (by rfl) ?_
      | refine XL.max2 (by rfl) (by rfl) (by rfl) (by rfl) (by rfl) (by rfl) ?_
      | refine XL.eqB (by rfl) (by rfl) (by rfl) (by rfl) (by rfl) (by rfl) (by rfl) ?_
      | refine XL.neB (by rfl) (by rfl) (by rfl) (by rfl) (by rfl) (by rfl) (by rfl) ?_
      | refine XL.psome (by rfl) (by rfl) (by rfl) (by rfl) (by rfl) (by rfl) (by rfl) ?_
      | refine XL.pnone (by rfl) (by rfl) (by rfl) (by rfl) (by rfl) (by rfl) (by rfl) ?_
      | refine XL.psome' (by rfl) (by rfl) (by rfl) (by rfl) (by rfl) (by rfl) (by rfl) ?_
      | refine XL.pnone' (by rfl) (by rfl) (by rfl) (by rfl) (by rfl) (by rfl) (by rfl) ?_
      | refine XL.conv64 (by rfl) (by rfl) (by rfl) (by rfl) (by rfl) (by rfl) (by rfl) (by omega) ?_)
  refine XQ.conv (fun w h => St.less (Lc := []) (Φ' := []) h .nil (fun _ h => nomatch h)) (XQ.ret1 (by rfl) (by rfl) ?_)
  exact ⟨congrArg (fun b => Ending.returned (.bool b)) (decide_eq_true (by omega)), rfl, rfl⟩
theorem uniteChains_walk (a0 a1 a2 : Int) (a3 : Bool) (w : World) (w0 : (Lit.int .u8 a0).wf = true) (w1 : (Lit.int .u8 a1).wf = true) (w2 : (Lit.int .u8 a2).wf = true) :
    Calls Try.prog 7 #[.int .u8 a0, .int .u8 a1, .int .u8 a2, .bool a3] w fun e w' => e = .returned (.bool true) ∧ RowKit.Below w.heap.size w w' := by
  have h0 : 0 ≤ a0 ∧ a0 ≤ 255 := by simpa [Lit.wf, IntKind.min, IntKind.max, IntKind.signed, IntKind.bits] using w0
  have h1 : 0 ≤ a1 ∧ a1 ≤ 255 := by simpa [Lit.wf, IntKind.min, IntKind.max, IntKind.signed, IntKind.bits] using w1
  have h2 : 0 ≤ a2 ∧ a2 ≤ 255 := by simpa [Lit.wf, IntKind.min, IntKind.max, IntKind.signed, IntKind.bits] using w2
  obtain ⟨x, rfl⟩ := Int.eq_ofNat_of_zero_le h0.1
  obtain ⟨y, rfl⟩ := Int.eq_ofNat_of_zero_le h1.1
  obtain ⟨z, rfl⟩ := Int.eq_ofNat_of_zero_le h2.1
  exact Tri.top (chains_tri (by omega) (by omega) (by omega)) (fun _ h => nomatch h)
namespace uniteChains
open Go.ChangeShapes Go.WideShapes Go.ChangeAt Go.RowKit
set_option maxRecDepth 100000 in
theorem lifted (os : Os) (started : os.Started) (H : Type) (enc : TypeId × Value → H) :
    ReturnsInHanded {} Try.checked os 7 .any (Rows.uniteChainsSpec.pre6 enc Try.prog Try.f7 Rows.uniteChainsRow.domain false) (Rows.uniteChainsSpec.post enc Try.prog Try.f7 false true false false) := by
  refine returnsInHanded_of_change (C := Try.checked) own started (by kernel_rfl) Try.func7
    (ChangeSpec.witness6 (enc := enc) (C := Try.checked) false ⟨#[], #[.int .u8 0, .int .u8 0, .int .u8 0, .bool false], []⟩ 8 (by kernel_rfl) (by kernel_rfl) (by kernel_rfl) (by kernel_rfl)) ?_
  intro W base args ds gs before hval0 hW hcnd _
  have hval : ∀ (j : Nat) t v, Try.f7.params[j]? = some t → args[j]? = some v → Value.okWide Try.prog W .any base t v := hval0
  have hW' := hW
  obtain ⟨p, q, hA0, hV, rfl, hfz, hnd⟩ := hW
  have hA : DataW.TrodAll enc Try.prog W 0 (fun _ => true) true Try.f7.params.toList args.toList ds p := hA0
  rw [Try.params7] at hA hval
  obtain ⟨v0, vs0, d0, ds0, p0, q0, hargs, rfl, rfl, h0, r0⟩ := trodAll_cons hA
  obtain ⟨v1, vs1, d1, ds1, p1, q1, rfl, rfl, rfl, h1, r1⟩ := trodAll_cons r0
  obtain ⟨v2, vs2, d2, ds2, p2, q2, rfl, rfl, rfl, h2, r2⟩ := trodAll_cons r1
  obtain ⟨v3, vs3, d3, ds3, p3, q3, rfl, rfl, rfl, h3, r3⟩ := trodAll_cons r2
  obtain ⟨rfl, rfl, rfl⟩ := trodAll_nil r3
  obtain rfl : args = #[v0, v1, v2, v3] := by cases args; simp_all
  obtain ⟨a0, rfl, rfl, rfl, w0⟩ := open_int Try.underlying5 (hval 0 5 v0 rfl rfl) h0
  obtain ⟨a1, rfl, rfl, rfl, w1⟩ := open_int Try.underlying5 (hval 1 5 v1 rfl rfl) h1
  obtain ⟨a2, rfl, rfl, rfl, w2⟩ := open_int Try.underlying5 (hval 2 5 v2 rfl rfl) h2
  obtain ⟨a3, rfl, rfl, rfl⟩ := open_bool Try.underlying4 (hval 3 4 v3 rfl rfl) h3
  refine (uniteChains_walk a0 a1 a2 a3 W w0 w1 w2).mono fun e W' ⟨he, hg⟩ => ?_
  subst he
  exact ⟨_, rfl, law_post hW' rfl (by kernel_rfl) (fun t ht => by have ht : t ∈ [5, 5, 5, 4] := ht; simp only [List.mem_cons, List.not_mem_nil, or_false] at ht; rcases ht with rfl | rfl | rfl | rfl <;> exact ⟨by kernel_rfl, of_decide_eq_true (by kernel_rfl)⟩) (T := 4) (by rfl) Try.underlying4
    (fun ds hl => by match ds, hl with | [e0, e1, e2, e3], _ => exact ⟨rfl, rfl, rfl⟩) hg⟩
theorem over : Rows.uniteChainsRow.holds Try.pinned (OpenSpec.ofChange Rows.uniteChainsSpec) :=
  OpenClaim.holds_of_wide 7 Try.f7 rfl rfl rfl rfl rfl rfl rfl ⟨rfl, rfl, rfl, rfl, rfl⟩ rfl rfl rfl rfl rfl (by kernel_rfl) Try.func7 (by kernel_rfl)
    (of_decide_eq_true (by kernel_rfl)) (by unfold Func.isWrapper; first | (rw [if_pos (by decide +kernel)]; kernel_rfl) | (rw [if_neg (by decide +kernel)]; exact ⟨rfl, rfl⟩))
    (fun os started H enc _ => lifted os started H enc)
theorem proved : Rows.UniteChainsSaid := over
end uniteChains
#print axioms uniteChains.proved
end Go.Proofs.Ytkhjnmhingdmoaa
