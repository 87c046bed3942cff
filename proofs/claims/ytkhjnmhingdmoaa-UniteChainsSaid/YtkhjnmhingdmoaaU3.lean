/- The groups of numbers: what New makes. -/
import Derived.Test.YtkhjnmhingdmoaaX7
import Derived.Test.YtkhjnmhingdmoaaU1
namespace Go.Proofs.Ytkhjnmhingdmoaa
open Go X U
attribute [local irreducible] XC XL XQ Tri blk Shows Sq Rd Mt inBlockX
attribute [local irreducible] Tk An XA Hd
theorem fill_next {l : List Nat} {k m x : Nat} (h : k < m) (hl : l.length = k) : (l ++ List.replicate (m - k) 0).set k x = l ++ [x] ++ List.replicate (m - (k + 1)) 0 := by
  subst hl
  rw [List.set_append_right _ _ (Nat.le_refl _), Nat.sub_self, show m - l.length = (m - (l.length + 1)) + 1 by omega, List.replicate_succ]
  simp
theorem new_tri {i : Int} : Tri Try.prog 10 [.int .i64 i] [] []
    (Ret (fun gb : Nat => .pointer (some ⟨gb, 0, none⟩)) (fun gb => [groups (.pointer (some ⟨gb, 0, none⟩)) (min (max i 0) 100000).toNat (List.range (min (max i 0) 100000).toNat)]) (fun _ => []) (fun _ => True)) := by
  refine Tri.of Try.func10 rfl fun c => ?_
  repeat' (first
    | refine XC.seq ?_
      | refine XC.region ?_
      | refine XC.block ?_
      | refine XC.skip ?_
      | refine XC.ret ?_
      | refine XC.exit ?_
      | (refine XC.cond_d (by rfl) (fun h => ?_) (fun h => ?_) <;> try (first | (exfalso; omega) | exact absurd rfl h | (exfalso; simp at h <;> omega)))
      | refine XC.cond_t (by rfl) ?_
      | refine XC.cond_f (by rfl) ?_
      | refine XQ.next ?_
      | refine XQ.blockN ?_
      | refine XQ.blockR ?_
      | refine XQ.blockE ?_
      | refine XQ.sqR ?_
      | refine XQ.sqE ?_
      | refine XQ.rdR ?_
      | refine XQ.rdE ?_
      | refine XQ.mtR ?_
      | refine XQ.mtE ?_
    | refine XL.nil ?_
      | (refine XL.guard_d (by rfl) (by rfl) (fun h => ?_) (fun h => ?_) <;> try (first | (exfalso; omega) | exact absurd rfl h | (exfalso; simp at h <;> omega)))
      | refine XL.pures (by rfl) (by rfl) (by rfl) (by rfl) (by rfl) ?_
      | refine XL.not_d (by rfl) (by rfl) (by rfl) (by rfl) (by rfl) ?_
      | refine XL.pure 1 (by rfl) ?_
      | refine XL.fa0 (by rfl) (by rfl) (by rfl) (by rfl) (by rfl) (by rfl) ?_
      | refine XL.ld (by rfl) (by rfl) (by rfl) (by rfl) (by rfl) (by rfl) (by repeat (first | exact Sel.here | apply Sel.there)) (by rfl) ?_
      | refine XL.fa (by rfl) (by rfl) (by rfl) (by rfl) (by rfl) (by rfl) ?_
      | refine XL.ia1 (by rfl) (by rfl) (by rfl) (by rfl) (by rfl) (by rfl) (by rfl) (by omega) ?_
      | refine XL.ldr (by rfl) (by rfl) (by rfl) (by rfl) (by rfl) (by rfl) (by repeat (first | exact Sel.here | apply Sel.there)) (by assumption) ?_
      | refine XL.stl (by rfl) (by rfl) (by rfl) (by rfl) (by rfl) (by rfl) (by rfl) (by repeat (first | exact Sel.here | apply Sel.there)) (by rfl) ?_
      | refine XL.lenR (by rfl) (by rfl) (by rfl) (by rfl) (by rfl) (by rfl) (by rfl) (by first | exact fun w h => St.row (by repeat (first | exact Sel.here | apply Sel.there)) h | exact fun w h => St.rowF (by repeat (first | exact List.Mem.head _ | apply List.Mem.tail)) h | exact fun w h => Hd.rowF (by repeat (first | exact List.Mem.head _ | apply List.Mem.tail)) h) ?_
      | refine XL.iaR1 (by rfl) (by rfl) (by rfl) (by rfl) (by rfl) (by rfl) (by rfl) (by first | exact fun w h => St.row (by repeat (first | exact Sel.here | apply Sel.there)) h | exact fun w h => St.rowF (by repeat (first | exact List.Mem.head _ | apply List.Mem.tail)) h | exact fun w h => Hd.rowF (by repeat (first | exact List.Mem.head _ | apply List.Mem.tail)) h) (by omega) ?_
      | refine XL.iaR2 (by rfl) (by rfl) (by rfl) (by rfl) (by rfl) (by rfl) (by first | exact fun w h => St.row (by repeat (first | exact Sel.here | apply Sel.there)) h | exact fun w h => St.rowF (by repeat (first | exact List.Mem.head _ | apply List.Mem.tail)) h | exact fun w h => Hd.rowF (by repeat (first | exact List.Mem.head _ | apply List.Mem.tail)) h) (by rfl) (by omega) ?_
      | refine XL.faR (by rfl) (by rfl) (by rfl) (by rfl) (by rfl) (by rfl) (by first | exact fun w h => St.row (by repeat (first | exact Sel.here | apply Sel.there)) h | exact fun w h => St.rowF (by repeat (first | exact List.Mem.head _ | apply List.Mem.tail)) h | exact fun w h => Hd.rowF (by repeat (first | exact List.Mem.head _ | apply List.Mem.tail)) h) (by assumption) ?_
      | refine XL.ldR (by rfl) (by rfl) (by rfl) (by rfl) (by rfl) (by rfl) (by first | exact fun w h => St.row (by repeat (first | exact Sel.here | apply Sel.there)) h | exact fun w h => St.rowF (by repeat (first | exact List.Mem.head _ | apply List.Mem.tail)) h | exact fun w h => Hd.rowF (by repeat (first | exact List.Mem.head _ | apply List.Mem.tail)) h) (by assumption) ?_
      | refine XL.lenS (by rfl) (by rfl) (by rfl) (by rfl) (by rfl) (by rfl) (by rfl) ?_
      | refine XL.lenStr (by rfl) (by rfl) (by rfl) (by rfl) (by rfl) (by rfl) (by rfl) ?_
      | refine XL.succ (by rfl) (by rfl) (by rfl) (by rfl) (by rfl) (by rfl) (by omega) ?_
      | refine XL.addn (by rfl) (by rfl) (by rfl) (by rfl) (by rfl) (by rfl) (by omega) ?_
      | refine XL.add (by rfl) (by rfl) (by rfl) (by rfl) (by rfl) (by rfl) (by omega) ?_
      | refine XL.pred (by rfl) (by rfl) (by rfl) (by rfl) (by rfl) (by rfl) (by omega) ?_
      | refine XL.subn (by rfl) (by rfl) (by rfl) (by rfl) (by rfl) (by rfl) (by omega) ?_
      | refine XL.sub (by rfl) (by rfl) (by rfl) (by rfl) (by rfl) (by rfl) (by omega) ?_
      | refine XL.min2 (by rfl) (by rfl) (by rfl) (by rfl) (by rfl) (by rfl) ?_
      | refine XL.max2 (by rfl) (by rfl) (by rfl) (by rfl) (by rfl) (by rfl) ?_
      | refine XL.eqB (by rfl) (by rfl) (by rfl) (by rfl) (by rfl) (by rfl) (by rfl) ?_
      | refine XL.neB (by rfl) (by rfl) (by rfl) (by rfl) (by rfl) (by rfl) (by rfl) ?_
      | refine XL.psome (by rfl) (by rfl) (by rfl) (by rfl) (by rfl) (by rfl) (by rfl) ?_
      | refine XL.pnone (by rfl) (by rfl) (by rfl) (by rfl) (by rfl) (by rfl) (by rfl) ?_
      | refine XL.psome' (by rfl) (by rfl) (by rfl) (by rfl) (by rfl) (by rfl) (by rfl) ?_
      | refine XL.pnone' (by rfl) (by rfl) (by rfl) (by rfl) (by rfl) (by rfl) (by rfl) ?_
      | refine XL.conv64 (by rfl) (by rfl) (by rfl) (by rfl) (by rfl) (by rfl) (by rfl) (by omega) ?_)
  obtain ⟨m, hm⟩ := Int.eq_ofNat_of_zero_le (show 0 ≤ min (max i 0) 100000 by omega)
  have hm2 : m ≤ 100000 := by omega
  rw [hm]
  refine XC.cutS (fun x : Nat × Nat × Nat × Nat => [(3, .pointer (some ⟨x.1, 0, none⟩)), (0, .int .i64 (m : Int))])
    (fun x => St c [cel x.1 #[.slice (some ⟨x.2.1, 0, none⟩) m m, .slice (some ⟨x.2.2.1, 0, none⟩) m m, .slice (some ⟨x.2.2.2, 0, none⟩) m m, .int .i64 (m : Int)] 42,
      cel x.2.1 (Array.replicate m (.int .i64 0)) 3, cel x.2.2.1 (Array.replicate m (.int .i64 0)) 3, cel x.2.2.2 (Array.replicate m (.int .i64 0)) 3] []) ?_ ?_
  · refine XC.any (Hd c [] []) (by kernel_rfl) (fun w h => h.hd (by repeat' (first | exact Sels.nil | exact Sel.here | apply Sels.cons | apply Sel.there))) (fun _ m h => h.drewn m) ?_
    refine XA.tk 0 (by rfl) (by kernel_rfl) (by repeat (first | exact PF.body | apply PF.sq | apply PF.rd | apply PF.mt | apply PF.block)) ?_
    (repeat' (first
      | refine XQ.tk ?_
      | refine XL.ldh (by rfl) (by rfl) (by rfl) (by rfl) (by rfl) (by rfl) (by repeat (first | exact Sel.here | apply Sel.there)) (by rfl) ?_
      | refine XL.nil ?_
        | (refine XL.guard_d (by rfl) (by rfl) (fun h => ?_) (fun h => ?_) <;> try (first | (exfalso; omega) | exact absurd rfl h | (exfalso; simp at h <;> omega)))
        | refine XL.pures (by rfl) (by rfl) (by rfl) (by rfl) (by rfl) ?_
        | refine XL.not_d (by rfl) (by rfl) (by rfl) (by rfl) (by rfl) ?_
        | refine XL.pure 1 (by rfl) ?_
        | refine XL.fa0 (by rfl) (by rfl) (by rfl) (by rfl) (by rfl) (by rfl) ?_
        | refine XL.ld (by rfl) (by rfl) (by rfl) (by rfl) (by rfl) (by rfl) (by repeat (first | exact Sel.here | apply Sel.there)) (by rfl) ?_
        | refine XL.fa (by rfl) (by rfl) (by rfl) (by rfl) (by rfl) (by rfl) ?_
        | refine XL.ia1 (by rfl) (by rfl) (by rfl) (by rfl) (by rfl) (by rfl) (by rfl) (by omega) ?_
        | refine XL.ldr (by rfl) (by rfl) (by rfl) (by rfl) (by rfl) (by rfl) (by repeat (first | exact Sel.here | apply Sel.there)) (by assumption) ?_
        | refine XL.stl (by rfl) (by rfl) (by rfl) (by rfl) (by rfl) (by rfl) (by rfl) (by repeat (first | exact Sel.here | apply Sel.there)) (by rfl) ?_
        | refine XL.lenR (by rfl) (by rfl) (by rfl) (by rfl) (by rfl) (by rfl) (by rfl) (by first | exact fun w h => St.row (by repeat (first | exact Sel.here | apply Sel.there)) h | exact fun w h => St.rowF (by repeat (first | exact List.Mem.head _ | apply List.Mem.tail)) h | exact fun w h => Hd.rowF (by repeat (first | exact List.Mem.head _ | apply List.Mem.tail)) h) ?_
        | refine XL.iaR1 (by rfl) (by rfl) (by rfl) (by rfl) (by rfl) (by rfl) (by rfl) (by first | exact fun w h => St.row (by repeat (first | exact Sel.here | apply Sel.there)) h | exact fun w h => St.rowF (by repeat (first | exact List.Mem.head _ | apply List.Mem.tail)) h | exact fun w h => Hd.rowF (by repeat (first | exact List.Mem.head _ | apply List.Mem.tail)) h) (by omega) ?_
        | refine XL.iaR2 (by rfl) (by rfl) (by rfl) (by rfl) (by rfl) (by rfl) (by first | exact fun w h => St.row (by repeat (first | exact Sel.here | apply Sel.there)) h | exact fun w h => St.rowF (by repeat (first | exact List.Mem.head _ | apply List.Mem.tail)) h | exact fun w h => Hd.rowF (by repeat (first | exact List.Mem.head _ | apply List.Mem.tail)) h) (by rfl) (by omega) ?_
        | refine XL.faR (by rfl) (by rfl) (by rfl) (by rfl) (by rfl) (by rfl) (by first | exact fun w h => St.row (by repeat (first | exact Sel.here | apply Sel.there)) h | exact fun w h => St.rowF (by repeat (first | exact List.Mem.head _ | apply List.Mem.tail)) h | exact fun w h => Hd.rowF (by repeat (first | exact List.Mem.head _ | apply List.Mem.tail)) h) (by assumption) ?_
        | refine XL.ldR (by rfl) (by rfl) (by rfl) (by rfl) (by rfl) (by rfl) (by first | exact fun w h => St.row (by repeat (first | exact Sel.here | apply Sel.there)) h | exact fun w h => St.rowF (by repeat (first | exact List.Mem.head _ | apply List.Mem.tail)) h | exact fun w h => Hd.rowF (by repeat (first | exact List.Mem.head _ | apply List.Mem.tail)) h) (by assumption) ?_
        | refine XL.lenS (by rfl) (by rfl) (by rfl) (by rfl) (by rfl) (by rfl) (by rfl) ?_
        | refine XL.lenStr (by rfl) (by rfl) (by rfl) (by rfl) (by rfl) (by rfl) (by rfl) ?_
        | refine XL.succ (by rfl) (by rfl) (by rfl) (by rfl) (by rfl) (by rfl) (by omega) ?_
        | refine XL.addn (by rfl) (by rfl) (by rfl) (by rfl) (by rfl) (by rfl) (by omega) ?_
        | refine XL.add (by rfl) (by rfl) (by rfl) (by rfl) (by rfl) (by rfl) (by omega) ?_
        | refine XL.pred (by rfl) (by rfl) (by rfl) (by rfl) (by rfl) (by rfl) (by omega) ?_
        | refine XL.subn (by rfl) (by rfl) (by rfl) (by rfl) (by rfl) (by rfl) (by omega) ?_
        | refine XL.sub (by rfl) (by rfl) (by rfl) (by rfl) (by rfl) (by rfl) (by omega) ?_
        | refine XL.min2 (by rfl) (by rfl) (by rfl) (by rfl) (by rfl) (by rfl) ?_
        | refine XL.max2 (by rfl) (by rfl) (by rfl) (by rfl) (by rfl) (by rfl) ?_
        | refine XL.eqB (by rfl) (by rfl) (by rfl) (by rfl) (by rfl) (by rfl) (by rfl) ?_
        | refine XL.neB (by rfl) (by rfl) (by rfl) (by rfl) (by rfl) (by rfl) (by rfl) ?_
        | refine XL.psome (by rfl) (by rfl) (by rfl) (by rfl) (by rfl) (by rfl) (by rfl) ?_
        | refine XL.pnone (by rfl) (by rfl) (by rfl) (by rfl) (by rfl) (by rfl) (by rfl) ?_
        | refine XL.psome' (by rfl) (by rfl) (by rfl) (by rfl) (by rfl) (by rfl) (by rfl) ?_
        | refine XL.pnone' (by rfl) (by rfl) (by rfl) (by rfl) (by rfl) (by rfl) (by rfl) ?_
        | refine XL.conv64 (by rfl) (by rfl) (by rfl) (by rfl) (by rfl) (by rfl) (by rfl) (by omega) ?_))
    refine XA.tk 2 (by rfl) (by kernel_rfl) (by repeat (first | exact PF.body | apply PF.sq | apply PF.rd | apply PF.mt | apply PF.block)) ?_
    (repeat' (first
      | refine XQ.tk ?_
      | refine XL.ldh (by rfl) (by rfl) (by rfl) (by rfl) (by rfl) (by rfl) (by repeat (first | exact Sel.here | apply Sel.there)) (by rfl) ?_
      | refine XL.nil ?_
        | (refine XL.guard_d (by rfl) (by rfl) (fun h => ?_) (fun h => ?_) <;> try (first | (exfalso; omega) | exact absurd rfl h | (exfalso; simp at h <;> omega)))
        | refine XL.pures (by rfl) (by rfl) (by rfl) (by rfl) (by rfl) ?_
        | refine XL.not_d (by rfl) (by rfl) (by rfl) (by rfl) (by rfl) ?_
        | refine XL.pure 1 (by rfl) ?_
        | refine XL.fa0 (by rfl) (by rfl) (by rfl) (by rfl) (by rfl) (by rfl) ?_
        | refine XL.ld (by rfl) (by rfl) (by rfl) (by rfl) (by rfl) (by rfl) (by repeat (first | exact Sel.here | apply Sel.there)) (by rfl) ?_
        | refine XL.fa (by rfl) (by rfl) (by rfl) (by rfl) (by rfl) (by rfl) ?_
        | refine XL.ia1 (by rfl) (by rfl) (by rfl) (by rfl) (by rfl) (by rfl) (by rfl) (by omega) ?_
        | refine XL.ldr (by rfl) (by rfl) (by rfl) (by rfl) (by rfl) (by rfl) (by repeat (first | exact Sel.here | apply Sel.there)) (by assumption) ?_
        | refine XL.stl (by rfl) (by rfl) (by rfl) (by rfl) (by rfl) (by rfl) (by rfl) (by repeat (first | exact Sel.here | apply Sel.there)) (by rfl) ?_
        | refine XL.lenR (by rfl) (by rfl) (by rfl) (by rfl) (by rfl) (by rfl) (by rfl) (by first | exact fun w h => St.row (by repeat (first | exact Sel.here | apply Sel.there)) h | exact fun w h => St.rowF (by repeat (first | exact List.Mem.head _ | apply List.Mem.tail)) h | exact fun w h => Hd.rowF (by repeat (first | exact List.Mem.head _ | apply List.Mem.tail)) h) ?_
        | refine XL.iaR1 (by rfl) (by rfl) (by rfl) (by rfl) (by rfl) (by rfl) (by rfl) (by first | exact fun w h => St.row (by repeat (first | exact Sel.here | apply Sel.there)) h | exact fun w h => St.rowF (by repeat (first | exact List.Mem.head _ | apply List.Mem.tail)) h | exact fun w h => Hd.rowF (by repeat (first | exact List.Mem.head _ | apply List.Mem.tail)) h) (by omega) ?_
        | refine XL.iaR2 (by rfl) (by rfl) (by rfl) (by rfl) (by rfl) (by rfl) (by first | exact fun w h => St.row (by repeat (first | exact Sel.here | apply Sel.there)) h | exact fun w h => St.rowF (by repeat (first | exact List.Mem.head _ | apply List.Mem.tail)) h | exact fun w h => Hd.rowF (by repeat (first | exact List.Mem.head _ | apply List.Mem.tail)) h) (by rfl) (by omega) ?_
        | refine XL.faR (by rfl) (by rfl) (by rfl) (by rfl) (by rfl) (by rfl) (by first | exact fun w h => St.row (by repeat (first | exact Sel.here | apply Sel.there)) h | exact fun w h => St.rowF (by repeat (first | exact List.Mem.head _ | apply List.Mem.tail)) h | exact fun w h => Hd.rowF (by repeat (first | exact List.Mem.head _ | apply List.Mem.tail)) h) (by assumption) ?_
        | refine XL.ldR (by rfl) (by rfl) (by rfl) (by rfl) (by rfl) (by rfl) (by first | exact fun w h => St.row (by repeat (first | exact Sel.here | apply Sel.there)) h | exact fun w h => St.rowF (by repeat (first | exact List.Mem.head _ | apply List.Mem.tail)) h | exact fun w h => Hd.rowF (by repeat (first | exact List.Mem.head _ | apply List.Mem.tail)) h) (by assumption) ?_
        | refine XL.lenS (by rfl) (by rfl) (by rfl) (by rfl) (by rfl) (by rfl) (by rfl) ?_
        | refine XL.lenStr (by rfl) (by rfl) (by rfl) (by rfl) (by rfl) (by rfl) (by rfl) ?_
        | refine XL.succ (by rfl) (by rfl) (by rfl) (by rfl) (by rfl) (by rfl) (by omega) ?_
        | refine XL.addn (by rfl) (by rfl) (by rfl) (by rfl) (by rfl) (by rfl) (by omega) ?_
        | refine XL.add (by rfl) (by rfl) (by rfl) (by rfl) (by rfl) (by rfl) (by omega) ?_
        | refine XL.pred (by rfl) (by rfl) (by rfl) (by rfl) (by rfl) (by rfl) (by omega) ?_
        | refine XL.subn (by rfl) (by rfl) (by rfl) (by rfl) (by rfl) (by rfl) (by omega) ?_
        | refine XL.sub (by rfl) (by rfl) (by rfl) (by rfl) (by rfl) (by rfl) (by omega) ?_
        | refine XL.min2 (by rfl) (by rfl) (by rfl) (by rfl) (by rfl) (by rfl) ?_
        | refine XL.max2 (by rfl) (by rfl) (by rfl) (by rfl) (by rfl) (by rfl) ?_
        | refine XL.eqB (by rfl) (by rfl) (by rfl) (by rfl) (by rfl) (by rfl) (by rfl) ?_
        | refine XL.neB (by rfl) (by rfl) (by rfl) (by rfl) (by rfl) (by rfl) (by rfl) ?_
        | refine XL.psome (by rfl) (by rfl) (by rfl) (by rfl) (by rfl) (by rfl) (by rfl) ?_
        | refine XL.pnone (by rfl) (by rfl) (by rfl) (by rfl) (by rfl) (by rfl) (by rfl) ?_
        | refine XL.psome' (by rfl) (by rfl) (by rfl) (by rfl) (by rfl) (by rfl) (by rfl) ?_
        | refine XL.pnone' (by rfl) (by rfl) (by rfl) (by rfl) (by rfl) (by rfl) (by rfl) ?_
        | refine XL.conv64 (by rfl) (by rfl) (by rfl) (by rfl) (by rfl) (by rfl) (by rfl) (by omega) ?_))
    refine XA.tk 4 (by rfl) (by kernel_rfl) (by repeat (first | exact PF.body | apply PF.sq | apply PF.rd | apply PF.mt | apply PF.block)) ?_
    (repeat' (first
      | refine XQ.tk ?_
      | refine XL.ldh (by rfl) (by rfl) (by rfl) (by rfl) (by rfl) (by rfl) (by repeat (first | exact Sel.here | apply Sel.there)) (by rfl) ?_
      | refine XL.nil ?_
        | (refine XL.guard_d (by rfl) (by rfl) (fun h => ?_) (fun h => ?_) <;> try (first | (exfalso; omega) | exact absurd rfl h | (exfalso; simp at h <;> omega)))
        | refine XL.pures (by rfl) (by rfl) (by rfl) (by rfl) (by rfl) ?_
        | refine XL.not_d (by rfl) (by rfl) (by rfl) (by rfl) (by rfl) ?_
        | refine XL.pure 1 (by rfl) ?_
        | refine XL.fa0 (by rfl) (by rfl) (by rfl) (by rfl) (by rfl) (by rfl) ?_
        | refine XL.ld (by rfl) (by rfl) (by rfl) (by rfl) (by rfl) (by rfl) (by repeat (first | exact Sel.here | apply Sel.there)) (by rfl) ?_
        | refine XL.fa (by rfl) (by rfl) (by rfl) (by rfl) (by rfl) (by rfl) ?_
        | refine XL.ia1 (by rfl) (by rfl) (by rfl) (by rfl) (by rfl) (by rfl) (by rfl) (by omega) ?_
        | refine XL.ldr (by rfl) (by rfl) (by rfl) (by rfl) (by rfl) (by rfl) (by repeat (first | exact Sel.here | apply Sel.there)) (by assumption) ?_
        | refine XL.stl (by rfl) (by rfl) (by rfl) (by rfl) (by rfl) (by rfl) (by rfl) (by repeat (first | exact Sel.here | apply Sel.there)) (by rfl) ?_
        | refine XL.lenR (by rfl) (by rfl) (by rfl) (by rfl) (by rfl) (by rfl) (by rfl) (by first | exact fun w h => St.row (by repeat (first | exact Sel.here | apply Sel.there)) h | exact fun w h => St.rowF (by repeat (first | exact List.Mem.head _ | apply List.Mem.tail)) h | exact fun w h => Hd.rowF (by repeat (first | exact List.Mem.head _ | apply List.Mem.tail)) h) ?_
        | refine XL.iaR1 (by rfl) (by rfl) (by rfl) (by rfl) (by rfl) (by rfl) (by rfl) (by first | exact fun w h => St.row (by repeat (first | exact Sel.here | apply Sel.there)) h | exact fun w h => St.rowF (by repeat (first | exact List.Mem.head _ | apply List.Mem.tail)) h | exact fun w h => Hd.rowF (by repeat (first | exact List.Mem.head _ | apply List.Mem.tail)) h) (by omega) ?_
        | refine XL.iaR2 (by rfl) (by rfl) (by rfl) (by rfl) (by rfl) (by rfl) (by first | exact fun w h => St.row (by repeat (first | exact Sel.here | apply Sel.there)) h | exact fun w h => St.rowF (by repeat (first | exact List.Mem.head _ | apply List.Mem.tail)) h | exact fun w h => Hd.rowF (by repeat (first | exact List.Mem.head _ | apply List.Mem.tail)) h) (by rfl) (by omega) ?_
        | refine XL.faR (by rfl) (by rfl) (by rfl) (by rfl) (by rfl) (by rfl) (by first | exact fun w h => St.row (by repeat (first | exact Sel.here | apply Sel.there)) h | exact fun w h => St.rowF (by repeat (first | exact List.Mem.head _ | apply List.Mem.tail)) h | exact fun w h => Hd.rowF (by repeat (first | exact List.Mem.head _ | apply List.Mem.tail)) h) (by assumption) ?_
        | refine XL.ldR (by rfl) (by rfl) (by rfl) (by rfl) (by rfl) (by rfl) (by first | exact fun w h => St.row (by repeat (first | exact Sel.here | apply Sel.there)) h | exact fun w h => St.rowF (by repeat (first | exact List.Mem.head _ | apply List.Mem.tail)) h | exact fun w h => Hd.rowF (by repeat (first | exact List.Mem.head _ | apply List.Mem.tail)) h) (by assumption) ?_
        | refine XL.lenS (by rfl) (by rfl) (by rfl) (by rfl) (by rfl) (by rfl) (by rfl) ?_
        | refine XL.lenStr (by rfl) (by rfl) (by rfl) (by rfl) (by rfl) (by rfl) (by rfl) ?_
        | refine XL.succ (by rfl) (by rfl) (by rfl) (by rfl) (by rfl) (by rfl) (by omega) ?_
        | refine XL.addn (by rfl) (by rfl) (by rfl) (by rfl) (by rfl) (by rfl) (by omega) ?_
        | refine XL.add (by rfl) (by rfl) (by rfl) (by rfl) (by rfl) (by rfl) (by omega) ?_
        | refine XL.pred (by rfl) (by rfl) (by rfl) (by rfl) (by rfl) (by rfl) (by omega) ?_
        | refine XL.subn (by rfl) (by rfl) (by rfl) (by rfl) (by rfl) (by rfl) (by omega) ?_
        | refine XL.sub (by rfl) (by rfl) (by rfl) (by rfl) (by rfl) (by rfl) (by omega) ?_
        | refine XL.min2 (by rfl) (by rfl) (by rfl) (by rfl) (by rfl) (by rfl) ?_
        | refine XL.max2 (by rfl) (by rfl) (by rfl) (by rfl) (by rfl) (by rfl) ?_
        | refine XL.eqB (by rfl) (by rfl) (by rfl) (by rfl) (by rfl) (by rfl) (by rfl) ?_
        | refine XL.neB (by rfl) (by rfl) (by rfl) (by rfl) (by rfl) (by rfl) (by rfl) ?_
        | refine XL.psome (by rfl) (by rfl) (by rfl) (by rfl) (by rfl) (by rfl) (by rfl) ?_
        | refine XL.pnone (by rfl) (by rfl) (by rfl) (by rfl) (by rfl) (by rfl) (by rfl) ?_
        | refine XL.psome' (by rfl) (by rfl) (by rfl) (by rfl) (by rfl) (by rfl) (by rfl) ?_
        | refine XL.pnone' (by rfl) (by rfl) (by rfl) (by rfl) (by rfl) (by rfl) (by rfl) ?_
        | refine XL.conv64 (by rfl) (by rfl) (by rfl) (by rfl) (by rfl) (by rfl) (by rfl) (by omega) ?_))
    refine XA.tk 6 (by rfl) (by kernel_rfl) (by repeat (first | exact PF.body | apply PF.sq | apply PF.rd | apply PF.mt | apply PF.block)) ?_
    (repeat' (first
      | refine XQ.tk ?_
      | refine XL.ldh (by rfl) (by rfl) (by rfl) (by rfl) (by rfl) (by rfl) (by repeat (first | exact Sel.here | apply Sel.there)) (by rfl) ?_
      | refine XL.nil ?_
        | (refine XL.guard_d (by rfl) (by rfl) (fun h => ?_) (fun h => ?_) <;> try (first | (exfalso; omega) | exact absurd rfl h | (exfalso; simp at h <;> omega)))
        | refine XL.pures (by rfl) (by rfl) (by rfl) (by rfl) (by rfl) ?_
        | refine XL.not_d (by rfl) (by rfl) (by rfl) (by rfl) (by rfl) ?_
        | refine XL.pure 1 (by rfl) ?_
        | refine XL.fa0 (by rfl) (by rfl) (by rfl) (by rfl) (by rfl) (by rfl) ?_
        | refine XL.ld (by rfl) (by rfl) (by rfl) (by rfl) (by rfl) (by rfl) (by repeat (first | exact Sel.here | apply Sel.there)) (by rfl) ?_
        | refine XL.fa (by rfl) (by rfl) (by rfl) (by rfl) (by rfl) (by rfl) ?_
        | refine XL.ia1 (by rfl) (by rfl) (by rfl) (by rfl) (by rfl) (by rfl) (by rfl) (by omega) ?_
        | refine XL.ldr (by rfl) (by rfl) (by rfl) (by rfl) (by rfl) (by rfl) (by repeat (first | exact Sel.here | apply Sel.there)) (by assumption) ?_
        | refine XL.stl (by rfl) (by rfl) (by rfl) (by rfl) (by rfl) (by rfl) (by rfl) (by repeat (first | exact Sel.here | apply Sel.there)) (by rfl) ?_
        | refine XL.lenR (by rfl) (by rfl) (by rfl) (by rfl) (by rfl) (by rfl) (by rfl) (by first | exact fun w h => St.row (by repeat (first | exact Sel.here | apply Sel.there)) h | exact fun w h => St.rowF (by repeat (first | exact List.Mem.head _ | apply List.Mem.tail)) h | exact fun w h => Hd.rowF (by repeat (first | exact List.Mem.head _ | apply List.Mem.tail)) h) ?_
        | refine XL.iaR1 (by rfl) (by rfl) (by rfl) (by rfl) (by rfl) (by rfl) (by rfl) (by first | exact fun w h => St.row (by repeat (first | exact Sel.here | apply Sel.there)) h | exact fun w h => St.rowF (by repeat (first | exact List.Mem.head _ | apply List.Mem.tail)) h | exact fun w h => Hd.rowF (by repeat (first | exact List.Mem.head _ | apply List.Mem.tail)) h) (by omega) ?_
        | refine XL.iaR2 (by rfl) (by rfl) (by rfl) (by rfl) (by rfl) (by rfl) (by first | exact fun w h => St.row (by repeat (first | exact Sel.here | apply Sel.there)) h | exact fun w h => St.rowF (by repeat (first | exact List.Mem.head _ | apply List.Mem.tail)) h | exact fun w h => Hd.rowF (by repeat (first | exact List.Mem.head _ | apply List.Mem.tail)) h) (by rfl) (by omega) ?_
        | refine XL.faR (by rfl) (by rfl) (by rfl) (by rfl) (by rfl) (by rfl) (by first | exact fun w h => St.row (by repeat (first | exact Sel.here | apply Sel.there)) h | exact fun w h => St.rowF (by repeat (first | exact List.Mem.head _ | apply List.Mem.tail)) h | exact fun w h => Hd.rowF (by repeat (first | exact List.Mem.head _ | apply List.Mem.tail)) h) (by assumption) ?_
        | refine XL.ldR (by rfl) (by rfl) (by rfl) (by rfl) (by rfl) (by rfl) (by first | exact fun w h => St.row (by repeat (first | exact Sel.here | apply Sel.there)) h | exact fun w h => St.rowF (by repeat (first | exact List.Mem.head _ | apply List.Mem.tail)) h | exact fun w h => Hd.rowF (by repeat (first | exact List.Mem.head _ | apply List.Mem.tail)) h) (by assumption) ?_
        | refine XL.lenS (by rfl) (by rfl) (by rfl) (by rfl) (by rfl) (by rfl) (by rfl) ?_
        | refine XL.lenStr (by rfl) (by rfl) (by rfl) (by rfl) (by rfl) (by rfl) (by rfl) ?_
        | refine XL.succ (by rfl) (by rfl) (by rfl) (by rfl) (by rfl) (by rfl) (by omega) ?_
        | refine XL.addn (by rfl) (by rfl) (by rfl) (by rfl) (by rfl) (by rfl) (by omega) ?_
        | refine XL.add (by rfl) (by rfl) (by rfl) (by rfl) (by rfl) (by rfl) (by omega) ?_
        | refine XL.pred (by rfl) (by rfl) (by rfl) (by rfl) (by rfl) (by rfl) (by omega) ?_
        | refine XL.subn (by rfl) (by rfl) (by rfl) (by rfl) (by rfl) (by rfl) (by omega) ?_
        | refine XL.sub (by rfl) (by rfl) (by rfl) (by rfl) (by rfl) (by rfl) (by omega) ?_
        | refine XL.min2 (by rfl) (by rfl) (by rfl) (by rfl) (by rfl) (by rfl) ?_
        | refine XL.max2 (by rfl) (by rfl) (by rfl) (by rfl) (by rfl) (by rfl) ?_
        | refine XL.eqB (by rfl) (by rfl) (by rfl) (by rfl) (by rfl) (by rfl) (by rfl) ?_
        | refine XL.neB (by rfl) (by rfl) (by rfl) (by rfl) (by rfl) (by rfl) (by rfl) ?_
        | refine XL.psome (by rfl) (by rfl) (by rfl) (by rfl) (by rfl) (by rfl) (by rfl) ?_
        | refine XL.pnone (by rfl) (by rfl) (by rfl) (by rfl) (by rfl) (by rfl) (by rfl) ?_
        | refine XL.psome' (by rfl) (by rfl) (by rfl) (by rfl) (by rfl) (by rfl) (by rfl) ?_
        | refine XL.pnone' (by rfl) (by rfl) (by rfl) (by rfl) (by rfl) (by rfl) (by rfl) ?_
        | refine XL.conv64 (by rfl) (by rfl) (by rfl) (by rfl) (by rfl) (by rfl) (by rfl) (by omega) ?_))
    refine XA.an3 1 3 5 (by decide +kernel) (by rfl) (by rfl) (by rfl) ?_ ?_ ?_
    all_goals refine XL.makeRow (by rfl) (by rfl) (by rfl) (by rfl) (by rfl) (by rfl) (by rfl) (by omega) (fun u1 => ?_)
    all_goals refine XL.nil ?_
    all_goals refine XQ.an (fun w h => h.hd (by repeat' (first | exact Sels.nil | exact Sel.here | apply Sels.cons | apply Sel.there))) ?_
    all_goals first
      | refine XA.an2 1 3 (by decide +kernel) (by rfl) (by rfl) ?_ ?_
      | refine XA.an2 1 5 (by decide +kernel) (by rfl) (by rfl) ?_ ?_
      | refine XA.an2 3 5 (by decide +kernel) (by rfl) (by rfl) ?_ ?_
    all_goals refine XL.makeRow (by rfl) (by rfl) (by rfl) (by rfl) (by rfl) (by rfl) (by rfl) (by omega) (fun u2 => ?_)
    all_goals refine XL.nil ?_
    all_goals refine XQ.an (fun w h => h.hd (by repeat' (first | exact Sels.nil | exact Sel.here | apply Sels.cons | apply Sel.there))) ?_
    all_goals first
      | refine XA.an1 1 (by decide +kernel) (by rfl) ?_
      | refine XA.an1 3 (by decide +kernel) (by rfl) ?_
      | refine XA.an1 5 (by decide +kernel) (by rfl) ?_
    all_goals refine XL.makeRow (by rfl) (by rfl) (by rfl) (by rfl) (by rfl) (by rfl) (by rfl) (by omega) (fun u3 => ?_)
    all_goals refine XL.nil ?_
    all_goals refine XQ.an (fun w h => h.hd (by repeat' (first | exact Sels.nil | exact Sel.here | apply Sels.cons | apply Sel.there))) ?_
    all_goals refine XA.an1 7 (by decide +kernel) (by rfl) ?_
    all_goals refine XL.build (by rfl) (by rfl) (by rfl) (by rfl) (by rfl) (by rfl) ?_
    all_goals refine XL.nil ?_
    all_goals refine XQ.an (fun w h => h.hd (by repeat' (first | exact Sels.nil | exact Sel.here | apply Sels.cons | apply Sel.there))) ?_
    all_goals refine XA.an1 8 (by decide +kernel) (by rfl) ?_
    all_goals refine XL.boxA (by rfl) (by rfl) (by rfl) (by rfl) (by rfl) (fun u4 => ?_)
    all_goals refine XL.nil ?_
    all_goals refine XQ.an (fun w h => h.hd (by repeat' (first | exact Sels.nil | exact Sel.here | apply Sels.cons | apply Sel.there))) ?_
    all_goals refine XA.an1 9 (by decide +kernel) (by rfl) ?_
    all_goals refine XL.pure 1 (by rfl) ?_
    all_goals refine XL.nil ?_
    all_goals refine XQ.an (fun w h => h.hd (by repeat' (first | exact Sels.nil | exact Sel.here | apply Sels.cons | apply Sel.there))) ?_
    all_goals refine XA.done (by kernel_rfl) ?_
    all_goals refine XQ.meet (_, _, _, _) (by repeat (first | exact fits_nil | refine fits_cons (by rfl) ?_)) (fun w h => St.less (Φ := []) h (by repeat' (first | exact Sels.nil | exact Sel.here | apply Sels.cons | apply Sel.there)) (fun _ h => h))
  · rintro ⟨gb, ub, sb, lb⟩
    dsimp only
    repeat' (first
      | refine XC.seq ?_
        | refine XC.region ?_
        | refine XC.block ?_
        | refine XC.skip ?_
        | refine XC.ret ?_
        | refine XC.exit ?_
        | (refine XC.cond_d (by rfl) (fun h => ?_) (fun h => ?_) <;> try (first | (exfalso; omega) | exact absurd rfl h | (exfalso; simp at h <;> omega)))
        | refine XC.cond_t (by rfl) ?_
        | refine XC.cond_f (by rfl) ?_
        | refine XQ.next ?_
        | refine XQ.blockN ?_
        | refine XQ.blockR ?_
        | refine XQ.blockE ?_
        | refine XQ.sqR ?_
        | refine XQ.sqE ?_
        | refine XQ.rdR ?_
        | refine XQ.rdE ?_
        | refine XQ.mtR ?_
        | refine XQ.mtE ?_
      | refine XL.nil ?_
        | (refine XL.guard_d (by rfl) (by rfl) (fun h => ?_) (fun h => ?_) <;> try (first | (exfalso; omega) | exact absurd rfl h | (exfalso; simp at h <;> omega)))
        | refine XL.pures (by rfl) (by rfl) (by rfl) (by rfl) (by rfl) ?_
        | refine XL.not_d (by rfl) (by rfl) (by rfl) (by rfl) (by rfl) ?_
        | refine XL.pure 1 (by rfl) ?_
        | refine XL.fa0 (by rfl) (by rfl) (by rfl) (by rfl) (by rfl) (by rfl) ?_
        | refine XL.ld (by rfl) (by rfl) (by rfl) (by rfl) (by rfl) (by rfl) (by repeat (first | exact Sel.here | apply Sel.there)) (by rfl) ?_
        | refine XL.fa (by rfl) (by rfl) (by rfl) (by rfl) (by rfl) (by rfl) ?_
        | refine XL.ia1 (by rfl) (by rfl) (by rfl) (by rfl) (by rfl) (by rfl) (by rfl) (by omega) ?_
        | refine XL.ldr (by rfl) (by rfl) (by rfl) (by rfl) (by rfl) (by rfl) (by repeat (first | exact Sel.here | apply Sel.there)) (by assumption) ?_
        | refine XL.stl (by rfl) (by rfl) (by rfl) (by rfl) (by rfl) (by rfl) (by rfl) (by repeat (first | exact Sel.here | apply Sel.there)) (by rfl) ?_
        | refine XL.lenR (by rfl) (by rfl) (by rfl) (by rfl) (by rfl) (by rfl) (by rfl) (by first | exact fun w h => St.row (by repeat (first | exact Sel.here | apply Sel.there)) h | exact fun w h => St.rowF (by repeat (first | exact List.Mem.head _ | apply List.Mem.tail)) h | exact fun w h => Hd.rowF (by repeat (first | exact List.Mem.head _ | apply List.Mem.tail)) h) ?_
        | refine XL.iaR1 (by rfl) (by rfl) (by rfl) (by rfl) (by rfl) (by rfl) (by rfl) (by first | exact fun w h => St.row (by repeat (first | exact Sel.here | apply Sel.there)) h | exact fun w h => St.rowF (by repeat (first | exact List.Mem.head _ | apply List.Mem.tail)) h | exact fun w h => Hd.rowF (by repeat (first | exact List.Mem.head _ | apply List.Mem.tail)) h) (by omega) ?_
        | refine XL.iaR2 (by rfl) (by rfl) (by rfl) (by rfl) (by rfl) (by rfl) (by first | exact fun w h => St.row (by repeat (first | exact Sel.here | apply Sel.there)) h | exact fun w h => St.rowF (by repeat (first | exact List.Mem.head _ | apply List.Mem.tail)) h | exact fun w h => Hd.rowF (by repeat (first | exact List.Mem.head _ | apply List.Mem.tail)) h) (by rfl) (by omega) ?_
        | refine XL.faR (by rfl) (by rfl) (by rfl) (by rfl) (by rfl) (by rfl) (by first | exact fun w h => St.row (by repeat (first | exact Sel.here | apply Sel.there)) h | exact fun w h => St.rowF (by repeat (first | exact List.Mem.head _ | apply List.Mem.tail)) h | exact fun w h => Hd.rowF (by repeat (first | exact List.Mem.head _ | apply List.Mem.tail)) h) (by assumption) ?_
        | refine XL.ldR (by rfl) (by rfl) (by rfl) (by rfl) (by rfl) (by rfl) (by first | exact fun w h => St.row (by repeat (first | exact Sel.here | apply Sel.there)) h | exact fun w h => St.rowF (by repeat (first | exact List.Mem.head _ | apply List.Mem.tail)) h | exact fun w h => Hd.rowF (by repeat (first | exact List.Mem.head _ | apply List.Mem.tail)) h) (by assumption) ?_
        | refine XL.lenS (by rfl) (by rfl) (by rfl) (by rfl) (by rfl) (by rfl) (by rfl) ?_
        | refine XL.lenStr (by rfl) (by rfl) (by rfl) (by rfl) (by rfl) (by rfl) (by rfl) ?_
        | refine XL.succ (by rfl) (by rfl) (by rfl) (by rfl) (by rfl) (by rfl) (by omega) ?_
        | refine XL.addn (by rfl) (by rfl) (by rfl) (by rfl) (by rfl) (by rfl) (by omega) ?_
        | refine XL.add (by rfl) (by rfl) (by rfl) (by rfl) (by rfl) (by rfl) (by omega) ?_
        | refine XL.pred (by rfl) (by rfl) (by rfl) (by rfl) (by rfl) (by rfl) (by omega) ?_
        | refine XL.subn (by rfl) (by rfl) (by rfl) (by rfl) (by rfl) (by rfl) (by omega) ?_
        | refine XL.sub (by rfl) (by rfl) (by rfl) (by rfl) (by rfl) (by rfl) (by omega) ?_
        | refine XL.min2 (by rfl) (by rfl) (by rfl) (by rfl) (by rfl) (by rfl) ?_
        | refine XL.max2 (by rfl) (by rfl) (by rfl) (by rfl) (by rfl) (by rfl) ?_
        | refine XL.eqB (by rfl) (by rfl) (by rfl) (by rfl) (by rfl) (by rfl) (by rfl) ?_
        | refine XL.neB (by rfl) (by rfl) (by rfl) (by rfl) (by rfl) (by rfl) (by rfl) ?_
        | refine XL.psome (by rfl) (by rfl) (by rfl) (by rfl) (by rfl) (by rfl) (by rfl) ?_
        | refine XL.pnone (by rfl) (by rfl) (by rfl) (by rfl) (by rfl) (by rfl) (by rfl) ?_
        | refine XL.psome' (by rfl) (by rfl) (by rfl) (by rfl) (by rfl) (by rfl) (by rfl) ?_
        | refine XL.pnone' (by rfl) (by rfl) (by rfl) (by rfl) (by rfl) (by rfl) (by rfl) ?_
        | refine XL.conv64 (by rfl) (by rfl) (by rfl) (by rfl) (by rfl) (by rfl) (by rfl) (by omega) ?_)
    refine XC.loop (fun k : Nat => [(3, .pointer (some ⟨gb, 0, none⟩)), (18, .int .i64 (k : Int)), (17, .int .i64 (m : Int))])
      (fun k w => k ≤ m ∧ St c [cel gb #[.slice (some ⟨ub, 0, none⟩) m m, .slice (some ⟨sb, 0, none⟩) m m, .slice (some ⟨lb, 0, none⟩) m m, .int .i64 (m : Int)] 42,
        cel ub (nats (List.range k ++ List.replicate (m - k) 0)) 3, cel sb (nats (List.replicate k 1 ++ List.replicate (m - k) 0)) 3, cel lb (nats (List.range k ++ List.replicate (m - k) 0)) 3] [] w)
      (fun k => m - k) 0 (by repeat (first | exact fits_nil | refine fits_cons (by rfl) ?_)) (fun w hw => ⟨by omega, ?_⟩) ?_
    · rw [List.replicate_zero, List.range_zero, List.nil_append, Nat.sub_zero, show nats (List.replicate m 0) = Array.replicate m (.int .i64 0) by simp [nats, vi]]
      exact hw.less (by repeat' (first | exact Sels.nil | exact Sel.here | apply Sels.cons | apply Sel.there)) (fun _ h => h)
    intro k
    refine XC.pure (fun hk => ?_)
    repeat' (first
      | refine XC.seq ?_
        | refine XC.region ?_
        | refine XC.block ?_
        | refine XC.skip ?_
        | refine XC.ret ?_
        | refine XC.exit ?_
        | (refine XC.cond_d (by rfl) (fun h => ?_) (fun h => ?_) <;> try (first | (exfalso; omega) | exact absurd rfl h | (exfalso; simp at h <;> omega)))
        | refine XC.cond_t (by rfl) ?_
        | refine XC.cond_f (by rfl) ?_
        | refine XQ.next ?_
        | refine XQ.blockN ?_
        | refine XQ.blockR ?_
        | refine XQ.blockE ?_
        | refine XQ.sqR ?_
        | refine XQ.sqE ?_
        | refine XQ.rdR ?_
        | refine XQ.rdE ?_
        | refine XQ.mtR ?_
        | refine XQ.mtE ?_
      | refine XL.nil ?_
        | (refine XL.guard_d (by rfl) (by rfl) (fun h => ?_) (fun h => ?_) <;> try (first | (exfalso; omega) | exact absurd rfl h | (exfalso; simp at h <;> omega)))
        | refine XL.pures (by rfl) (by rfl) (by rfl) (by rfl) (by rfl) ?_
        | refine XL.not_d (by rfl) (by rfl) (by rfl) (by rfl) (by rfl) ?_
        | refine XL.pure 1 (by rfl) ?_
        | refine XL.fa0 (by rfl) (by rfl) (by rfl) (by rfl) (by rfl) (by rfl) ?_
        | refine XL.ld (by rfl) (by rfl) (by rfl) (by rfl) (by rfl) (by rfl) (by repeat (first | exact Sel.here | apply Sel.there)) (by rfl) ?_
        | refine XL.fa (by rfl) (by rfl) (by rfl) (by rfl) (by rfl) (by rfl) ?_
        | refine XL.ia1 (by rfl) (by rfl) (by rfl) (by rfl) (by rfl) (by rfl) (by rfl) (by omega) ?_
        | refine XL.ldr (by rfl) (by rfl) (by rfl) (by rfl) (by rfl) (by rfl) (by repeat (first | exact Sel.here | apply Sel.there)) (by assumption) ?_
        | refine XL.stl (by rfl) (by rfl) (by rfl) (by rfl) (by rfl) (by rfl) (by rfl) (by repeat (first | exact Sel.here | apply Sel.there)) (by rfl) ?_
        | refine XL.lenR (by rfl) (by rfl) (by rfl) (by rfl) (by rfl) (by rfl) (by rfl) (by first | exact fun w h => St.row (by repeat (first | exact Sel.here | apply Sel.there)) h | exact fun w h => St.rowF (by repeat (first | exact List.Mem.head _ | apply List.Mem.tail)) h | exact fun w h => Hd.rowF (by repeat (first | exact List.Mem.head _ | apply List.Mem.tail)) h) ?_
        | refine XL.iaR1 (by rfl) (by rfl) (by rfl) (by rfl) (by rfl) (by rfl) (by rfl) (by first | exact fun w h => St.row (by repeat (first | exact Sel.here | apply Sel.there)) h | exact fun w h => St.rowF (by repeat (first | exact List.Mem.head _ | apply List.Mem.tail)) h | exact fun w h => Hd.rowF (by repeat (first | exact List.Mem.head _ | apply List.Mem.tail)) h) (by omega) ?_
        | refine XL.iaR2 (by rfl) (by rfl) (by rfl) (by rfl) (by rfl) (by rfl) (by first | exact fun w h => St.row (by repeat (first | exact Sel.here | apply Sel.there)) h | exact fun w h => St.rowF (by repeat (first | exact List.Mem.head _ | apply List.Mem.tail)) h | exact fun w h => Hd.rowF (by repeat (first | exact List.Mem.head _ | apply List.Mem.tail)) h) (by rfl) (by omega) ?_
        | refine XL.faR (by rfl) (by rfl) (by rfl) (by rfl) (by rfl) (by rfl) (by first | exact fun w h => St.row (by repeat (first | exact Sel.here | apply Sel.there)) h | exact fun w h => St.rowF (by repeat (first | exact List.Mem.head _ | apply List.Mem.tail)) h | exact fun w h => Hd.rowF (by repeat (first | exact List.Mem.head _ | apply List.Mem.tail)) h) (by assumption) ?_
        | refine XL.ldR (by rfl) (by rfl) (by rfl) (by rfl) (by rfl) (by rfl) (by first | exact fun w h => St.row (by repeat (first | exact Sel.here | apply Sel.there)) h | exact fun w h => St.rowF (by repeat (first | exact List.Mem.head _ | apply List.Mem.tail)) h | exact fun w h => Hd.rowF (by repeat (first | exact List.Mem.head _ | apply List.Mem.tail)) h) (by assumption) ?_
        | refine XL.lenS (by rfl) (by rfl) (by rfl) (by rfl) (by rfl) (by rfl) (by rfl) ?_
        | refine XL.lenStr (by rfl) (by rfl) (by rfl) (by rfl) (by rfl) (by rfl) (by rfl) ?_
        | refine XL.succ (by rfl) (by rfl) (by rfl) (by rfl) (by rfl) (by rfl) (by omega) ?_
        | refine XL.addn (by rfl) (by rfl) (by rfl) (by rfl) (by rfl) (by rfl) (by omega) ?_
        | refine XL.add (by rfl) (by rfl) (by rfl) (by rfl) (by rfl) (by rfl) (by omega) ?_
        | refine XL.pred (by rfl) (by rfl) (by rfl) (by rfl) (by rfl) (by rfl) (by omega) ?_
        | refine XL.subn (by rfl) (by rfl) (by rfl) (by rfl) (by rfl) (by rfl) (by omega) ?_
        | refine XL.sub (by rfl) (by rfl) (by rfl) (by rfl) (by rfl) (by rfl) (by omega) ?_
        | refine XL.min2 (by rfl) (by rfl) (by rfl) (by rfl) (by rfl) (by rfl) ?_
        | refine XL.max2 (by rfl) (by rfl) (by rfl) (by rfl) (by rfl) (by rfl) ?_
        | refine XL.eqB (by rfl) (by rfl) (by rfl) (by rfl) (by rfl) (by rfl) (by rfl) ?_
        | refine XL.neB (by rfl) (by rfl) (by rfl) (by rfl) (by rfl) (by rfl) (by rfl) ?_
        | refine XL.psome (by rfl) (by rfl) (by rfl) (by rfl) (by rfl) (by rfl) (by rfl) ?_
        | refine XL.pnone (by rfl) (by rfl) (by rfl) (by rfl) (by rfl) (by rfl) (by rfl) ?_
        | refine XL.psome' (by rfl) (by rfl) (by rfl) (by rfl) (by rfl) (by rfl) (by rfl) ?_
        | refine XL.pnone' (by rfl) (by rfl) (by rfl) (by rfl) (by rfl) (by rfl) (by rfl) ?_
        | refine XL.conv64 (by rfl) (by rfl) (by rfl) (by rfl) (by rfl) (by rfl) (by rfl) (by omega) ?_)
    · have s1 : (nats (List.range k ++ List.replicate (m - k) 0)).setIfInBounds k (.int .i64 (k : Int)) = nats (List.range (k + 1) ++ List.replicate (m - (k + 1)) 0) := by
        rw [nats_set, fill_next (by omega) (by simp), List.range_succ]
      have s2 : (nats (List.replicate k 1 ++ List.replicate (m - k) 0)).setIfInBounds k (.int .i64 1) = nats (List.replicate (k + 1) 1 ++ List.replicate (m - (k + 1)) 0) := by
        have := nats_set (List.replicate k 1 ++ List.replicate (m - k) 0) k 1
        refine Eq.trans this ?_
        rw [fill_next (by omega) (by simp), List.replicate_succ']
      refine XC.any (Hd c [cel gb #[.slice (some ⟨ub, 0, none⟩) m m, .slice (some ⟨sb, 0, none⟩) m m, .slice (some ⟨lb, 0, none⟩) m m, .int .i64 (m : Int)] 42] []) (by kernel_rfl) (fun w h => h.hd (by repeat' (first | exact Sels.nil | exact Sel.here | apply Sels.cons | apply Sel.there))) (fun _ m h => h.drewn m) ?_
      refine XA.tk 0 (by rfl) (by kernel_rfl) (by repeat (first | exact PF.body | apply PF.sq | apply PF.rd | apply PF.mt | apply PF.block)) ?_
      (repeat' (first
        | refine XQ.tk ?_
        | refine XL.ldh (by rfl) (by rfl) (by rfl) (by rfl) (by rfl) (by rfl) (by repeat (first | exact Sel.here | apply Sel.there)) (by rfl) ?_
        | refine XL.nil ?_
          | (refine XL.guard_d (by rfl) (by rfl) (fun h => ?_) (fun h => ?_) <;> try (first | (exfalso; omega) | exact absurd rfl h | (exfalso; simp at h <;> omega)))
          | refine XL.pures (by rfl) (by rfl) (by rfl) (by rfl) (by rfl) ?_
          | refine XL.not_d (by rfl) (by rfl) (by rfl) (by rfl) (by rfl) ?_
          | refine XL.pure 1 (by rfl) ?_
          | refine XL.fa0 (by rfl) (by rfl) (by rfl) (by rfl) (by rfl) (by rfl) ?_
          | refine XL.ld (by rfl) (by rfl) (by rfl) (by rfl) (by rfl) (by rfl) (by repeat (first | exact Sel.here | apply Sel.there)) (by rfl) ?_
          | refine XL.fa (by rfl) (by rfl) (by rfl) (by rfl) (by rfl) (by rfl) ?_
          | refine XL.ia1 (by rfl) (by rfl) (by rfl) (by rfl) (by rfl) (by rfl) (by rfl) (by omega) ?_
          | refine XL.ldr (by rfl) (by rfl) (by rfl) (by rfl) (by rfl) (by rfl) (by repeat (first | exact Sel.here | apply Sel.there)) (by assumption) ?_
          | refine XL.stl (by rfl) (by rfl) (by rfl) (by rfl) (by rfl) (by rfl) (by rfl) (by repeat (first | exact Sel.here | apply Sel.there)) (by rfl) ?_
          | refine XL.lenR (by rfl) (by rfl) (by rfl) (by rfl) (by rfl) (by rfl) (by rfl) (by first | exact fun w h => St.row (by repeat (first | exact Sel.here | apply Sel.there)) h | exact fun w h => St.rowF (by repeat (first | exact List.Mem.head _ | apply List.Mem.tail)) h | exact fun w h => Hd.rowF (by repeat (first | exact List.Mem.head _ | apply List.Mem.tail)) h) ?_
          | refine XL.iaR1 (by rfl) (by rfl) (by rfl) (by rfl) (by rfl) (by rfl) (by rfl) (by first | exact fun w h => St.row (by repeat (first | exact Sel.here | apply Sel.there)) h | exact fun w h => St.rowF (by repeat (first | exact List.Mem.head _ | apply List.Mem.tail)) h | exact fun w h => Hd.rowF (by repeat (first | exact List.Mem.head _ | apply List.Mem.tail)) h) (by omega) ?_
          | refine XL.iaR2 (by rfl) (by rfl) (by rfl) (by rfl) (by rfl) (by rfl) (by first | exact fun w h => St.row (by repeat (first | exact Sel.here | apply Sel.there)) h | exact fun w h => St.rowF (by repeat (first | exact List.Mem.head _ | apply List.Mem.tail)) h | exact fun w h => Hd.rowF (by repeat (first | exact List.Mem.head _ | apply List.Mem.tail)) h) (by rfl) (by omega) ?_
          | refine XL.faR (by rfl) (by rfl) (by rfl) (by rfl) (by rfl) (by rfl) (by first | exact fun w h => St.row (by repeat (first | exact Sel.here | apply Sel.there)) h | exact fun w h => St.rowF (by repeat (first | exact List.Mem.head _ | apply List.Mem.tail)) h | exact fun w h => Hd.rowF (by repeat (first | exact List.Mem.head _ | apply List.Mem.tail)) h) (by assumption) ?_
          | refine XL.ldR (by rfl) (by rfl) (by rfl) (by rfl) (by rfl) (by rfl) (by first | exact fun w h => St.row (by repeat (first | exact Sel.here | apply Sel.there)) h | exact fun w h => St.rowF (by repeat (first | exact List.Mem.head _ | apply List.Mem.tail)) h | exact fun w h => Hd.rowF (by repeat (first | exact List.Mem.head _ | apply List.Mem.tail)) h) (by assumption) ?_
          | refine XL.lenS (by rfl) (by rfl) (by rfl) (by rfl) (by rfl) (by rfl) (by rfl) ?_
          | refine XL.lenStr (by rfl) (by rfl) (by rfl) (by rfl) (by rfl) (by rfl) (by rfl) ?_
          | refine XL.succ (by rfl) (by rfl) (by rfl) (by rfl) (by rfl) (by rfl) (by omega) ?_
          | refine XL.addn (by rfl) (by rfl) (by rfl) (by rfl) (by rfl) (by rfl) (by omega) ?_
          | refine XL.add (by rfl) (by rfl) (by rfl) (by rfl) (by rfl) (by rfl) (by omega) ?_
          | refine XL.pred (by rfl) (by rfl) (by rfl) (by rfl) (by rfl) (by rfl) (by omega) ?_
          | refine XL.subn (by rfl) (by rfl) (by rfl) (by rfl) (by rfl) (by rfl) (by omega) ?_
          | refine XL.sub (by rfl) (by rfl) (by rfl) (by rfl) (by rfl) (by rfl) (by omega) ?_
          | refine XL.min2 (by rfl) (by rfl) (by rfl) (by rfl) (by rfl) (by rfl) ?_
          | refine XL.max2 (by rfl) (by rfl) (by rfl) (by rfl) (by rfl) (by rfl) ?_
          | refine XL.eqB (by rfl) (by rfl) (by rfl) (by rfl) (by rfl) (by rfl) (by rfl) ?_
          | refine XL.neB (by rfl) (by rfl) (by rfl) (by rfl) (by rfl) (by rfl) (by rfl) ?_
          | refine XL.psome (by rfl) (by rfl) (by rfl) (by rfl) (by rfl) (by rfl) (by rfl) ?_
          | refine XL.pnone (by rfl) (by rfl) (by rfl) (by rfl) (by rfl) (by rfl) (by rfl) ?_
          | refine XL.psome' (by rfl) (by rfl) (by rfl) (by rfl) (by rfl) (by rfl) (by rfl) ?_
          | refine XL.pnone' (by rfl) (by rfl) (by rfl) (by rfl) (by rfl) (by rfl) (by rfl) ?_
          | refine XL.conv64 (by rfl) (by rfl) (by rfl) (by rfl) (by rfl) (by rfl) (by rfl) (by omega) ?_))
      refine XA.tk 1 (by rfl) (by kernel_rfl) (by repeat (first | exact PF.body | apply PF.sq | apply PF.rd | apply PF.mt | apply PF.block)) ?_
      (repeat' (first
        | refine XQ.tk ?_
        | refine XL.ldh (by rfl) (by rfl) (by rfl) (by rfl) (by rfl) (by rfl) (by repeat (first | exact Sel.here | apply Sel.there)) (by rfl) ?_
        | refine XL.nil ?_
          | (refine XL.guard_d (by rfl) (by rfl) (fun h => ?_) (fun h => ?_) <;> try (first | (exfalso; omega) | exact absurd rfl h | (exfalso; simp at h <;> omega)))
          | refine XL.pures (by rfl) (by rfl) (by rfl) (by rfl) (by rfl) ?_
          | refine XL.not_d (by rfl) (by rfl) (by rfl) (by rfl) (by rfl) ?_
          | refine XL.pure 1 (by rfl) ?_
          | refine XL.fa0 (by rfl) (by rfl) (by rfl) (by rfl) (by rfl) (by rfl) ?_
          | refine XL.ld (by rfl) (by rfl) (by rfl) (by rfl) (by rfl) (by rfl) (by repeat (first | exact Sel.here | apply Sel.there)) (by rfl) ?_
          | refine XL.fa (by rfl) (by rfl) (by rfl) (by rfl) (by rfl) (by rfl) ?_
          | refine XL.ia1 (by rfl) (by rfl) (by rfl) (by rfl) (by rfl) (by rfl) (by rfl) (by omega) ?_
          | refine XL.ldr (by rfl) (by rfl) (by rfl) (by rfl) (by rfl) (by rfl) (by repeat (first | exact Sel.here | apply Sel.there)) (by assumption) ?_
          | refine XL.stl (by rfl) (by rfl) (by rfl) (by rfl) (by rfl) (by rfl) (by rfl) (by repeat (first | exact Sel.here | apply Sel.there)) (by rfl) ?_
          | refine XL.lenR (by rfl) (by rfl) (by rfl) (by rfl) (by rfl) (by rfl) (by rfl) (by first | exact fun w h => St.row (by repeat (first | exact Sel.here | apply Sel.there)) h | exact fun w h => St.rowF (by repeat (first | exact List.Mem.head _ | apply List.Mem.tail)) h | exact fun w h => Hd.rowF (by repeat (first | exact List.Mem.head _ | apply List.Mem.tail)) h) ?_
          | refine XL.iaR1 (by rfl) (by rfl) (by rfl) (by rfl) (by rfl) (by rfl) (by rfl) (by first | exact fun w h => St.row (by repeat (first | exact Sel.here | apply Sel.there)) h | exact fun w h => St.rowF (by repeat (first | exact List.Mem.head _ | apply List.Mem.tail)) h | exact fun w h => Hd.rowF (by repeat (first | exact List.Mem.head _ | apply List.Mem.tail)) h) (by omega) ?_
          | refine XL.iaR2 (by rfl) (by rfl) (by rfl) (by rfl) (by rfl) (by rfl) (by first | exact fun w h => St.row (by repeat (first | exact Sel.here | apply Sel.there)) h | exact fun w h => St.rowF (by repeat (first | exact List.Mem.head _ | apply List.Mem.tail)) h | exact fun w h => Hd.rowF (by repeat (first | exact List.Mem.head _ | apply List.Mem.tail)) h) (by rfl) (by omega) ?_
          | refine XL.faR (by rfl) (by rfl) (by rfl) (by rfl) (by rfl) (by rfl) (by first | exact fun w h => St.row (by repeat (first | exact Sel.here | apply Sel.there)) h | exact fun w h => St.rowF (by repeat (first | exact List.Mem.head _ | apply List.Mem.tail)) h | exact fun w h => Hd.rowF (by repeat (first | exact List.Mem.head _ | apply List.Mem.tail)) h) (by assumption) ?_
          | refine XL.ldR (by rfl) (by rfl) (by rfl) (by rfl) (by rfl) (by rfl) (by first | exact fun w h => St.row (by repeat (first | exact Sel.here | apply Sel.there)) h | exact fun w h => St.rowF (by repeat (first | exact List.Mem.head _ | apply List.Mem.tail)) h | exact fun w h => Hd.rowF (by repeat (first | exact List.Mem.head _ | apply List.Mem.tail)) h) (by assumption) ?_
          | refine XL.lenS (by rfl) (by rfl) (by rfl) (by rfl) (by rfl) (by rfl) (by rfl) ?_
          | refine XL.lenStr (by rfl) (by rfl) (by rfl) (by rfl) (by rfl) (by rfl) (by rfl) ?_
          | refine XL.succ (by rfl) (by rfl) (by rfl) (by rfl) (by rfl) (by rfl) (by omega) ?_
          | refine XL.addn (by rfl) (by rfl) (by rfl) (by rfl) (by rfl) (by rfl) (by omega) ?_
          | refine XL.add (by rfl) (by rfl) (by rfl) (by rfl) (by rfl) (by rfl) (by omega) ?_
          | refine XL.pred (by rfl) (by rfl) (by rfl) (by rfl) (by rfl) (by rfl) (by omega) ?_
          | refine XL.subn (by rfl) (by rfl) (by rfl) (by rfl) (by rfl) (by rfl) (by omega) ?_
          | refine XL.sub (by rfl) (by rfl) (by rfl) (by rfl) (by rfl) (by rfl) (by omega) ?_
          | refine XL.min2 (by rfl) (by rfl) (by rfl) (by rfl) (by rfl) (by rfl) ?_
          | refine XL.max2 (by rfl) (by rfl) (by rfl) (by rfl) (by rfl) (by rfl) ?_
          | refine XL.eqB (by rfl) (by rfl) (by rfl) (by rfl) (by rfl) (by rfl) (by rfl) ?_
          | refine XL.neB (by rfl) (by rfl) (by rfl) (by rfl) (by rfl) (by rfl) (by rfl) ?_
          | refine XL.psome (by rfl) (by rfl) (by rfl) (by rfl) (by rfl) (by rfl) (by rfl) ?_
          | refine XL.pnone (by rfl) (by rfl) (by rfl) (by rfl) (by rfl) (by rfl) (by rfl) ?_
          | refine XL.psome' (by rfl) (by rfl) (by rfl) (by rfl) (by rfl) (by rfl) (by rfl) ?_
          | refine XL.pnone' (by rfl) (by rfl) (by rfl) (by rfl) (by rfl) (by rfl) (by rfl) ?_
          | refine XL.conv64 (by rfl) (by rfl) (by rfl) (by rfl) (by rfl) (by rfl) (by rfl) (by omega) ?_))
      refine XA.tk 2 (by rfl) (by kernel_rfl) (by repeat (first | exact PF.body | apply PF.sq | apply PF.rd | apply PF.mt | apply PF.block)) ?_
      (repeat' (first
        | refine XQ.tk ?_
        | refine XL.ldh (by rfl) (by rfl) (by rfl) (by rfl) (by rfl) (by rfl) (by repeat (first | exact Sel.here | apply Sel.there)) (by rfl) ?_
        | refine XL.nil ?_
          | (refine XL.guard_d (by rfl) (by rfl) (fun h => ?_) (fun h => ?_) <;> try (first | (exfalso; omega) | exact absurd rfl h | (exfalso; simp at h <;> omega)))
          | refine XL.pures (by rfl) (by rfl) (by rfl) (by rfl) (by rfl) ?_
          | refine XL.not_d (by rfl) (by rfl) (by rfl) (by rfl) (by rfl) ?_
          | refine XL.pure 1 (by rfl) ?_
          | refine XL.fa0 (by rfl) (by rfl) (by rfl) (by rfl) (by rfl) (by rfl) ?_
          | refine XL.ld (by rfl) (by rfl) (by rfl) (by rfl) (by rfl) (by rfl) (by repeat (first | exact Sel.here | apply Sel.there)) (by rfl) ?_
          | refine XL.fa (by rfl) (by rfl) (by rfl) (by rfl) (by rfl) (by rfl) ?_
          | refine XL.ia1 (by rfl) (by rfl) (by rfl) (by rfl) (by rfl) (by rfl) (by rfl) (by omega) ?_
          | refine XL.ldr (by rfl) (by rfl) (by rfl) (by rfl) (by rfl) (by rfl) (by repeat (first | exact Sel.here | apply Sel.there)) (by assumption) ?_
          | refine XL.stl (by rfl) (by rfl) (by rfl) (by rfl) (by rfl) (by rfl) (by rfl) (by repeat (first | exact Sel.here | apply Sel.there)) (by rfl) ?_
          | refine XL.lenR (by rfl) (by rfl) (by rfl) (by rfl) (by rfl) (by rfl) (by rfl) (by first | exact fun w h => St.row (by repeat (first | exact Sel.here | apply Sel.there)) h | exact fun w h => St.rowF (by repeat (first | exact List.Mem.head _ | apply List.Mem.tail)) h | exact fun w h => Hd.rowF (by repeat (first | exact List.Mem.head _ | apply List.Mem.tail)) h) ?_
          | refine XL.iaR1 (by rfl) (by rfl) (by rfl) (by rfl) (by rfl) (by rfl) (by rfl) (by first | exact fun w h => St.row (by repeat (first | exact Sel.here | apply Sel.there)) h | exact fun w h => St.rowF (by repeat (first | exact List.Mem.head _ | apply List.Mem.tail)) h | exact fun w h => Hd.rowF (by repeat (first | exact List.Mem.head _ | apply List.Mem.tail)) h) (by omega) ?_
          | refine XL.iaR2 (by rfl) (by rfl) (by rfl) (by rfl) (by rfl) (by rfl) (by first | exact fun w h => St.row (by repeat (first | exact Sel.here | apply Sel.there)) h | exact fun w h => St.rowF (by repeat (first | exact List.Mem.head _ | apply List.Mem.tail)) h | exact fun w h => Hd.rowF (by repeat (first | exact List.Mem.head _ | apply List.Mem.tail)) h) (by rfl) (by omega) ?_
          | refine XL.faR (by rfl) (by rfl) (by rfl) (by rfl) (by rfl) (by rfl) (by first | exact fun w h => St.row (by repeat (first | exact Sel.here | apply Sel.there)) h | exact fun w h => St.rowF (by repeat (first | exact List.Mem.head _ | apply List.Mem.tail)) h | exact fun w h => Hd.rowF (by repeat (first | exact List.Mem.head _ | apply List.Mem.tail)) h) (by assumption) ?_
          | refine XL.ldR (by rfl) (by rfl) (by rfl) (by rfl) (by rfl) (by rfl) (by first | exact fun w h => St.row (by repeat (first | exact Sel.here | apply Sel.there)) h | exact fun w h => St.rowF (by repeat (first | exact List.Mem.head _ | apply List.Mem.tail)) h | exact fun w h => Hd.rowF (by repeat (first | exact List.Mem.head _ | apply List.Mem.tail)) h) (by assumption) ?_
          | refine XL.lenS (by rfl) (by rfl) (by rfl) (by rfl) (by rfl) (by rfl) (by rfl) ?_
          | refine XL.lenStr (by rfl) (by rfl) (by rfl) (by rfl) (by rfl) (by rfl) (by rfl) ?_
          | refine XL.succ (by rfl) (by rfl) (by rfl) (by rfl) (by rfl) (by rfl) (by omega) ?_
          | refine XL.addn (by rfl) (by rfl) (by rfl) (by rfl) (by rfl) (by rfl) (by omega) ?_
          | refine XL.add (by rfl) (by rfl) (by rfl) (by rfl) (by rfl) (by rfl) (by omega) ?_
          | refine XL.pred (by rfl) (by rfl) (by rfl) (by rfl) (by rfl) (by rfl) (by omega) ?_
          | refine XL.subn (by rfl) (by rfl) (by rfl) (by rfl) (by rfl) (by rfl) (by omega) ?_
          | refine XL.sub (by rfl) (by rfl) (by rfl) (by rfl) (by rfl) (by rfl) (by omega) ?_
          | refine XL.min2 (by rfl) (by rfl) (by rfl) (by rfl) (by rfl) (by rfl) ?_
          | refine XL.max2 (by rfl) (by rfl) (by rfl) (by rfl) (by rfl) (by rfl) ?_
          | refine XL.eqB (by rfl) (by rfl) (by rfl) (by rfl) (by rfl) (by rfl) (by rfl) ?_
          | refine XL.neB (by rfl) (by rfl) (by rfl) (by rfl) (by rfl) (by rfl) (by rfl) ?_
          | refine XL.psome (by rfl) (by rfl) (by rfl) (by rfl) (by rfl) (by rfl) (by rfl) ?_
          | refine XL.pnone (by rfl) (by rfl) (by rfl) (by rfl) (by rfl) (by rfl) (by rfl) ?_
          | refine XL.psome' (by rfl) (by rfl) (by rfl) (by rfl) (by rfl) (by rfl) (by rfl) ?_
          | refine XL.pnone' (by rfl) (by rfl) (by rfl) (by rfl) (by rfl) (by rfl) (by rfl) ?_
          | refine XL.conv64 (by rfl) (by rfl) (by rfl) (by rfl) (by rfl) (by rfl) (by rfl) (by omega) ?_))
      refine XA.tk 3 (by rfl) (by kernel_rfl) (by repeat (first | exact PF.body | apply PF.sq | apply PF.rd | apply PF.mt | apply PF.block)) ?_
      (repeat' (first
        | refine XQ.tk ?_
        | refine XL.ldh (by rfl) (by rfl) (by rfl) (by rfl) (by rfl) (by rfl) (by repeat (first | exact Sel.here | apply Sel.there)) (by rfl) ?_
        | refine XL.nil ?_
          | (refine XL.guard_d (by rfl) (by rfl) (fun h => ?_) (fun h => ?_) <;> try (first | (exfalso; omega) | exact absurd rfl h | (exfalso; simp at h <;> omega)))
          | refine XL.pures (by rfl) (by rfl) (by rfl) (by rfl) (by rfl) ?_
          | refine XL.not_d (by rfl) (by rfl) (by rfl) (by rfl) (by rfl) ?_
          | refine XL.pure 1 (by rfl) ?_
          | refine XL.fa0 (by rfl) (by rfl) (by rfl) (by rfl) (by rfl) (by rfl) ?_
          | refine XL.ld (by rfl) (by rfl) (by rfl) (by rfl) (by rfl) (by rfl) (by repeat (first | exact Sel.here | apply Sel.there)) (by rfl) ?_
          | refine XL.fa (by rfl) (by rfl) (by rfl) (by rfl) (by rfl) (by rfl) ?_
          | refine XL.ia1 (by rfl) (by rfl) (by rfl) (by rfl) (by rfl) (by rfl) (by rfl) (by omega) ?_
          | refine XL.ldr (by rfl) (by rfl) (by rfl) (by rfl) (by rfl) (by rfl) (by repeat (first | exact Sel.here | apply Sel.there)) (by assumption) ?_
          | refine XL.stl (by rfl) (by rfl) (by rfl) (by rfl) (by rfl) (by rfl) (by rfl) (by repeat (first | exact Sel.here | apply Sel.there)) (by rfl) ?_
          | refine XL.lenR (by rfl) (by rfl) (by rfl) (by rfl) (by rfl) (by rfl) (by rfl) (by first | exact fun w h => St.row (by repeat (first | exact Sel.here | apply Sel.there)) h | exact fun w h => St.rowF (by repeat (first | exact List.Mem.head _ | apply List.Mem.tail)) h | exact fun w h => Hd.rowF (by repeat (first | exact List.Mem.head _ | apply List.Mem.tail)) h) ?_
          | refine XL.iaR1 (by rfl) (by rfl) (by rfl) (by rfl) (by rfl) (by rfl) (by rfl) (by first | exact fun w h => St.row (by repeat (first | exact Sel.here | apply Sel.there)) h | exact fun w h => St.rowF (by repeat (first | exact List.Mem.head _ | apply List.Mem.tail)) h | exact fun w h => Hd.rowF (by repeat (first | exact List.Mem.head _ | apply List.Mem.tail)) h) (by omega) ?_
          | refine XL.iaR2 (by rfl) (by rfl) (by rfl) (by rfl) (by rfl) (by rfl) (by first | exact fun w h => St.row (by repeat (first | exact Sel.here | apply Sel.there)) h | exact fun w h => St.rowF (by repeat (first | exact List.Mem.head _ | apply List.Mem.tail)) h | exact fun w h => Hd.rowF (by repeat (first | exact List.Mem.head _ | apply List.Mem.tail)) h) (by rfl) (by omega) ?_
          | refine XL.faR (by rfl) (by rfl) (by rfl) (by rfl) (by rfl) (by rfl) (by first | exact fun w h => St.row (by repeat (first | exact Sel.here | apply Sel.there)) h | exact fun w h => St.rowF (by repeat (first | exact List.Mem.head _ | apply List.Mem.tail)) h | exact fun w h => Hd.rowF (by repeat (first | exact List.Mem.head _ | apply List.Mem.tail)) h) (by assumption) ?_
          | refine XL.ldR (by rfl) (by rfl) (by rfl) (by rfl) (by rfl) (by rfl) (by first | exact fun w h => St.row (by repeat (first | exact Sel.here | apply Sel.there)) h | exact fun w h => St.rowF (by repeat (first | exact List.Mem.head _ | apply List.Mem.tail)) h | exact fun w h => Hd.rowF (by repeat (first | exact List.Mem.head _ | apply List.Mem.tail)) h) (by assumption) ?_
          | refine XL.lenS (by rfl) (by rfl) (by rfl) (by rfl) (by rfl) (by rfl) (by rfl) ?_
          | refine XL.lenStr (by rfl) (by rfl) (by rfl) (by rfl) (by rfl) (by rfl) (by rfl) ?_
          | refine XL.succ (by rfl) (by rfl) (by rfl) (by rfl) (by rfl) (by rfl) (by omega) ?_
          | refine XL.addn (by rfl) (by rfl) (by rfl) (by rfl) (by rfl) (by rfl) (by omega) ?_
          | refine XL.add (by rfl) (by rfl) (by rfl) (by rfl) (by rfl) (by rfl) (by omega) ?_
          | refine XL.pred (by rfl) (by rfl) (by rfl) (by rfl) (by rfl) (by rfl) (by omega) ?_
          | refine XL.subn (by rfl) (by rfl) (by rfl) (by rfl) (by rfl) (by rfl) (by omega) ?_
          | refine XL.sub (by rfl) (by rfl) (by rfl) (by rfl) (by rfl) (by rfl) (by omega) ?_
          | refine XL.min2 (by rfl) (by rfl) (by rfl) (by rfl) (by rfl) (by rfl) ?_
          | refine XL.max2 (by rfl) (by rfl) (by rfl) (by rfl) (by rfl) (by rfl) ?_
          | refine XL.eqB (by rfl) (by rfl) (by rfl) (by rfl) (by rfl) (by rfl) (by rfl) ?_
          | refine XL.neB (by rfl) (by rfl) (by rfl) (by rfl) (by rfl) (by rfl) (by rfl) ?_
          | refine XL.psome (by rfl) (by rfl) (by rfl) (by rfl) (by rfl) (by rfl) (by rfl) ?_
          | refine XL.pnone (by rfl) (by rfl) (by rfl) (by rfl) (by rfl) (by rfl) (by rfl) ?_
          | refine XL.psome' (by rfl) (by rfl) (by rfl) (by rfl) (by rfl) (by rfl) (by rfl) ?_
          | refine XL.pnone' (by rfl) (by rfl) (by rfl) (by rfl) (by rfl) (by rfl) (by rfl) ?_
          | refine XL.conv64 (by rfl) (by rfl) (by rfl) (by rfl) (by rfl) (by rfl) (by rfl) (by omega) ?_))
      refine XA.tk 4 (by rfl) (by kernel_rfl) (by repeat (first | exact PF.body | apply PF.sq | apply PF.rd | apply PF.mt | apply PF.block)) ?_
      (repeat' (first
        | refine XQ.tk ?_
        | refine XL.ldh (by rfl) (by rfl) (by rfl) (by rfl) (by rfl) (by rfl) (by repeat (first | exact Sel.here | apply Sel.there)) (by rfl) ?_
        | refine XL.nil ?_
          | (refine XL.guard_d (by rfl) (by rfl) (fun h => ?_) (fun h => ?_) <;> try (first | (exfalso; omega) | exact absurd rfl h | (exfalso; simp at h <;> omega)))
          | refine XL.pures (by rfl) (by rfl) (by rfl) (by rfl) (by rfl) ?_
          | refine XL.not_d (by rfl) (by rfl) (by rfl) (by rfl) (by rfl) ?_
          | refine XL.pure 1 (by rfl) ?_
          | refine XL.fa0 (by rfl) (by rfl) (by rfl) (by rfl) (by rfl) (by rfl) ?_
          | refine XL.ld (by rfl) (by rfl) (by rfl) (by rfl) (by rfl) (by rfl) (by repeat (first | exact Sel.here | apply Sel.there)) (by rfl) ?_
          | refine XL.fa (by rfl) (by rfl) (by rfl) (by rfl) (by rfl) (by rfl) ?_
          | refine XL.ia1 (by rfl) (by rfl) (by rfl) (by rfl) (by rfl) (by rfl) (by rfl) (by omega) ?_
          | refine XL.ldr (by rfl) (by rfl) (by rfl) (by rfl) (by rfl) (by rfl) (by repeat (first | exact Sel.here | apply Sel.there)) (by assumption) ?_
          | refine XL.stl (by rfl) (by rfl) (by rfl) (by rfl) (by rfl) (by rfl) (by rfl) (by repeat (first | exact Sel.here | apply Sel.there)) (by rfl) ?_
          | refine XL.lenR (by rfl) (by rfl) (by rfl) (by rfl) (by rfl) (by rfl) (by rfl) (by first | exact fun w h => St.row (by repeat (first | exact Sel.here | apply Sel.there)) h | exact fun w h => St.rowF (by repeat (first | exact List.Mem.head _ | apply List.Mem.tail)) h | exact fun w h => Hd.rowF (by repeat (first | exact List.Mem.head _ | apply List.Mem.tail)) h) ?_
          | refine XL.iaR1 (by rfl) (by rfl) (by rfl) (by rfl) (by rfl) (by rfl) (by rfl) (by first | exact fun w h => St.row (by repeat (first | exact Sel.here | apply Sel.there)) h | exact fun w h => St.rowF (by repeat (first | exact List.Mem.head _ | apply List.Mem.tail)) h | exact fun w h => Hd.rowF (by repeat (first | exact List.Mem.head _ | apply List.Mem.tail)) h) (by omega) ?_
          | refine XL.iaR2 (by rfl) (by rfl) (by rfl) (by rfl) (by rfl) (by rfl) (by first | exact fun w h => St.row (by repeat (first | exact Sel.here | apply Sel.there)) h | exact fun w h => St.rowF (by repeat (first | exact List.Mem.head _ | apply List.Mem.tail)) h | exact fun w h => Hd.rowF (by repeat (first | exact List.Mem.head _ | apply List.Mem.tail)) h) (by rfl) (by omega) ?_
          | refine XL.faR (by rfl) (by rfl) (by rfl) (by rfl) (by rfl) (by rfl) (by first | exact fun w h => St.row (by repeat (first | exact Sel.here | apply Sel.there)) h | exact fun w h => St.rowF (by repeat (first | exact List.Mem.head _ | apply List.Mem.tail)) h | exact fun w h => Hd.rowF (by repeat (first | exact List.Mem.head _ | apply List.Mem.tail)) h) (by assumption) ?_
          | refine XL.ldR (by rfl) (by rfl) (by rfl) (by rfl) (by rfl) (by rfl) (by first | exact fun w h => St.row (by repeat (first | exact Sel.here | apply Sel.there)) h | exact fun w h => St.rowF (by repeat (first | exact List.Mem.head _ | apply List.Mem.tail)) h | exact fun w h => Hd.rowF (by repeat (first | exact List.Mem.head _ | apply List.Mem.tail)) h) (by assumption) ?_
          | refine XL.lenS (by rfl) (by rfl) (by rfl) (by rfl) (by rfl) (by rfl) (by rfl) ?_
          | refine XL.lenStr (by rfl) (by rfl) (by rfl) (by rfl) (by rfl) (by rfl) (by rfl) ?_
          | refine XL.succ (by rfl) (by rfl) (by rfl) (by rfl) (by rfl) (by rfl) (by omega) ?_
          | refine XL.addn (by rfl) (by rfl) (by rfl) (by rfl) (by rfl) (by rfl) (by omega) ?_
          | refine XL.add (by rfl) (by rfl) (by rfl) (by rfl) (by rfl) (by rfl) (by omega) ?_
          | refine XL.pred (by rfl) (by rfl) (by rfl) (by rfl) (by rfl) (by rfl) (by omega) ?_
          | refine XL.subn (by rfl) (by rfl) (by rfl) (by rfl) (by rfl) (by rfl) (by omega) ?_
          | refine XL.sub (by rfl) (by rfl) (by rfl) (by rfl) (by rfl) (by rfl) (by omega) ?_
          | refine XL.min2 (by rfl) (by rfl) (by rfl) (by rfl) (by rfl) (by rfl) ?_
          | refine XL.max2 (by rfl) (by rfl) (by rfl) (by rfl) (by rfl) (by rfl) ?_
          | refine XL.eqB (by rfl) (by rfl) (by rfl) (by rfl) (by rfl) (by rfl) (by rfl) ?_
          | refine XL.neB (by rfl) (by rfl) (by rfl) (by rfl) (by rfl) (by rfl) (by rfl) ?_
          | refine XL.psome (by rfl) (by rfl) (by rfl) (by rfl) (by rfl) (by rfl) (by rfl) ?_
          | refine XL.pnone (by rfl) (by rfl) (by rfl) (by rfl) (by rfl) (by rfl) (by rfl) ?_
          | refine XL.psome' (by rfl) (by rfl) (by rfl) (by rfl) (by rfl) (by rfl) (by rfl) ?_
          | refine XL.pnone' (by rfl) (by rfl) (by rfl) (by rfl) (by rfl) (by rfl) (by rfl) ?_
          | refine XL.conv64 (by rfl) (by rfl) (by rfl) (by rfl) (by rfl) (by rfl) (by rfl) (by omega) ?_))
      refine XA.tk 5 (by rfl) (by kernel_rfl) (by repeat (first | exact PF.body | apply PF.sq | apply PF.rd | apply PF.mt | apply PF.block)) ?_
      (repeat' (first
        | refine XQ.tk ?_
        | refine XL.ldh (by rfl) (by rfl) (by rfl) (by rfl) (by rfl) (by rfl) (by repeat (first | exact Sel.here | apply Sel.there)) (by rfl) ?_
        | refine XL.nil ?_
          | (refine XL.guard_d (by rfl) (by rfl) (fun h => ?_) (fun h => ?_) <;> try (first | (exfalso; omega) | exact absurd rfl h | (exfalso; simp at h <;> omega)))
          | refine XL.pures (by rfl) (by rfl) (by rfl) (by rfl) (by rfl) ?_
          | refine XL.not_d (by rfl) (by rfl) (by rfl) (by rfl) (by rfl) ?_
          | refine XL.pure 1 (by rfl) ?_
          | refine XL.fa0 (by rfl) (by rfl) (by rfl) (by rfl) (by rfl) (by rfl) ?_
          | refine XL.ld (by rfl) (by rfl) (by rfl) (by rfl) (by rfl) (by rfl) (by repeat (first | exact Sel.here | apply Sel.there)) (by rfl) ?_
          | refine XL.fa (by rfl) (by rfl) (by rfl) (by rfl) (by rfl) (by rfl) ?_
          | refine XL.ia1 (by rfl) (by rfl) (by rfl) (by rfl) (by rfl) (by rfl) (by rfl) (by omega) ?_
          | refine XL.ldr (by rfl) (by rfl) (by rfl) (by rfl) (by rfl) (by rfl) (by repeat (first | exact Sel.here | apply Sel.there)) (by assumption) ?_
          | refine XL.stl (by rfl) (by rfl) (by rfl) (by rfl) (by rfl) (by rfl) (by rfl) (by repeat (first | exact Sel.here | apply Sel.there)) (by rfl) ?_
          | refine XL.lenR (by rfl) (by rfl) (by rfl) (by rfl) (by rfl) (by rfl) (by rfl) (by first | exact fun w h => St.row (by repeat (first | exact Sel.here | apply Sel.there)) h | exact fun w h => St.rowF (by repeat (first | exact List.Mem.head _ | apply List.Mem.tail)) h | exact fun w h => Hd.rowF (by repeat (first | exact List.Mem.head _ | apply List.Mem.tail)) h) ?_
          | refine XL.iaR1 (by rfl) (by rfl) (by rfl) (by rfl) (by rfl) (by rfl) (by rfl) (by first | exact fun w h => St.row (by repeat (first | exact Sel.here | apply Sel.there)) h | exact fun w h => St.rowF (by repeat (first | exact List.Mem.head _ | apply List.Mem.tail)) h | exact fun w h => Hd.rowF (by repeat (first | exact List.Mem.head _ | apply List.Mem.tail)) h) (by omega) ?_
          | refine XL.iaR2 (by rfl) (by rfl) (by rfl) (by rfl) (by rfl) (by rfl) (by first | exact fun w h => St.row (by repeat (first | exact Sel.here | apply Sel.there)) h | exact fun w h => St.rowF (by repeat (first | exact List.Mem.head _ | apply List.Mem.tail)) h | exact fun w h => Hd.rowF (by repeat (first | exact List.Mem.head _ | apply List.Mem.tail)) h) (by rfl) (by omega) ?_
          | refine XL.faR (by rfl) (by rfl) (by rfl) (by rfl) (by rfl) (by rfl) (by first | exact fun w h => St.row (by repeat (first | exact Sel.here | apply Sel.there)) h | exact fun w h => St.rowF (by repeat (first | exact List.Mem.head _ | apply List.Mem.tail)) h | exact fun w h => Hd.rowF (by repeat (first | exact List.Mem.head _ | apply List.Mem.tail)) h) (by assumption) ?_
          | refine XL.ldR (by rfl) (by rfl) (by rfl) (by rfl) (by rfl) (by rfl) (by first | exact fun w h => St.row (by repeat (first | exact Sel.here | apply Sel.there)) h | exact fun w h => St.rowF (by repeat (first | exact List.Mem.head _ | apply List.Mem.tail)) h | exact fun w h => Hd.rowF (by repeat (first | exact List.Mem.head _ | apply List.Mem.tail)) h) (by assumption) ?_
          | refine XL.lenS (by rfl) (by rfl) (by rfl) (by rfl) (by rfl) (by rfl) (by rfl) ?_
          | refine XL.lenStr (by rfl) (by rfl) (by rfl) (by rfl) (by rfl) (by rfl) (by rfl) ?_
          | refine XL.succ (by rfl) (by rfl) (by rfl) (by rfl) (by rfl) (by rfl) (by omega) ?_
          | refine XL.addn (by rfl) (by rfl) (by rfl) (by rfl) (by rfl) (by rfl) (by omega) ?_
          | refine XL.add (by rfl) (by rfl) (by rfl) (by rfl) (by rfl) (by rfl) (by omega) ?_
          | refine XL.pred (by rfl) (by rfl) (by rfl) (by rfl) (by rfl) (by rfl) (by omega) ?_
          | refine XL.subn (by rfl) (by rfl) (by rfl) (by rfl) (by rfl) (by rfl) (by omega) ?_
          | refine XL.sub (by rfl) (by rfl) (by rfl) (by rfl) (by rfl) (by rfl) (by omega) ?_
          | refine XL.min2 (by rfl) (by rfl) (by rfl) (by rfl) (by rfl) (by rfl) ?_
          | refine XL.max2 (by rfl) (by rfl) (by rfl) (by rfl) (by rfl) (by rfl) ?_
          | refine XL.eqB (by rfl) (by rfl) (by rfl) (by rfl) (by rfl) (by rfl) (by rfl) ?_
          | refine XL.neB (by rfl) (by rfl) (by rfl) (by rfl) (by rfl) (by rfl) (by rfl) ?_
          | refine XL.psome (by rfl) (by rfl) (by rfl) (by rfl) (by rfl) (by rfl) (by rfl) ?_
          | refine XL.pnone (by rfl) (by rfl) (by rfl) (by rfl) (by rfl) (by rfl) (by rfl) ?_
          | refine XL.psome' (by rfl) (by rfl) (by rfl) (by rfl) (by rfl) (by rfl) (by rfl) ?_
          | refine XL.pnone' (by rfl) (by rfl) (by rfl) (by rfl) (by rfl) (by rfl) (by rfl) ?_
          | refine XL.conv64 (by rfl) (by rfl) (by rfl) (by rfl) (by rfl) (by rfl) (by rfl) (by omega) ?_))
      refine XA.tk 6 (by rfl) (by kernel_rfl) (by repeat (first | exact PF.body | apply PF.sq | apply PF.rd | apply PF.mt | apply PF.block)) ?_
      (repeat' (first
        | refine XQ.tk ?_
        | refine XL.ldh (by rfl) (by rfl) (by rfl) (by rfl) (by rfl) (by rfl) (by repeat (first | exact Sel.here | apply Sel.there)) (by rfl) ?_
        | refine XL.nil ?_
          | (refine XL.guard_d (by rfl) (by rfl) (fun h => ?_) (fun h => ?_) <;> try (first | (exfalso; omega) | exact absurd rfl h | (exfalso; simp at h <;> omega)))
          | refine XL.pures (by rfl) (by rfl) (by rfl) (by rfl) (by rfl) ?_
          | refine XL.not_d (by rfl) (by rfl) (by rfl) (by rfl) (by rfl) ?_
          | refine XL.pure 1 (by rfl) ?_
          | refine XL.fa0 (by rfl) (by rfl) (by rfl) (by rfl) (by rfl) (by rfl) ?_
          | refine XL.ld (by rfl) (by rfl) (by rfl) (by rfl) (by rfl) (by rfl) (by repeat (first | exact Sel.here | apply Sel.there)) (by rfl) ?_
          | refine XL.fa (by rfl) (by rfl) (by rfl) (by rfl) (by rfl) (by rfl) ?_
          | refine XL.ia1 (by rfl) (by rfl) (by rfl) (by rfl) (by rfl) (by rfl) (by rfl) (by omega) ?_
          | refine XL.ldr (by rfl) (by rfl) (by rfl) (by rfl) (by rfl) (by rfl) (by repeat (first | exact Sel.here | apply Sel.there)) (by assumption) ?_
          | refine XL.stl (by rfl) (by rfl) (by rfl) (by rfl) (by rfl) (by rfl) (by rfl) (by repeat (first | exact Sel.here | apply Sel.there)) (by rfl) ?_
          | refine XL.lenR (by rfl) (by rfl) (by rfl) (by rfl) (by rfl) (by rfl) (by rfl) (by first | exact fun w h => St.row (by repeat (first | exact Sel.here | apply Sel.there)) h | exact fun w h => St.rowF (by repeat (first | exact List.Mem.head _ | apply List.Mem.tail)) h | exact fun w h => Hd.rowF (by repeat (first | exact List.Mem.head _ | apply List.Mem.tail)) h) ?_
          | refine XL.iaR1 (by rfl) (by rfl) (by rfl) (by rfl) (by rfl) (by rfl) (by rfl) (by first | exact fun w h => St.row (by repeat (first | exact Sel.here | apply Sel.there)) h | exact fun w h => St.rowF (by repeat (first | exact List.Mem.head _ | apply List.Mem.tail)) h | exact fun w h => Hd.rowF (by repeat (first | exact List.Mem.head _ | apply List.Mem.tail)) h) (by omega) ?_
          | refine XL.iaR2 (by rfl) (by rfl) (by rfl) (by rfl) (by rfl) (by rfl) (by first | exact fun w h => St.row (by repeat (first | exact Sel.here | apply Sel.there)) h | exact fun w h => St.rowF (by repeat (first | exact List.Mem.head _ | apply List.Mem.tail)) h | exact fun w h => Hd.rowF (by repeat (first | exact List.Mem.head _ | apply List.Mem.tail)) h) (by rfl) (by omega) ?_
          | refine XL.faR (by rfl) (by rfl) (by rfl) (by rfl) (by rfl) (by rfl) (by first | exact fun w h => St.row (by repeat (first | exact Sel.here | apply Sel.there)) h | exact fun w h => St.rowF (by repeat (first | exact List.Mem.head _ | apply List.Mem.tail)) h | exact fun w h => Hd.rowF (by repeat (first | exact List.Mem.head _ | apply List.Mem.tail)) h) (by assumption) ?_
          | refine XL.ldR (by rfl) (by rfl) (by rfl) (by rfl) (by rfl) (by rfl) (by first | exact fun w h => St.row (by repeat (first | exact Sel.here | apply Sel.there)) h | exact fun w h => St.rowF (by repeat (first | exact List.Mem.head _ | apply List.Mem.tail)) h | exact fun w h => Hd.rowF (by repeat (first | exact List.Mem.head _ | apply List.Mem.tail)) h) (by assumption) ?_
          | refine XL.lenS (by rfl) (by rfl) (by rfl) (by rfl) (by rfl) (by rfl) (by rfl) ?_
          | refine XL.lenStr (by rfl) (by rfl) (by rfl) (by rfl) (by rfl) (by rfl) (by rfl) ?_
          | refine XL.succ (by rfl) (by rfl) (by rfl) (by rfl) (by rfl) (by rfl) (by omega) ?_
          | refine XL.addn (by rfl) (by rfl) (by rfl) (by rfl) (by rfl) (by rfl) (by omega) ?_
          | refine XL.add (by rfl) (by rfl) (by rfl) (by rfl) (by rfl) (by rfl) (by omega) ?_
          | refine XL.pred (by rfl) (by rfl) (by rfl) (by rfl) (by rfl) (by rfl) (by omega) ?_
          | refine XL.subn (by rfl) (by rfl) (by rfl) (by rfl) (by rfl) (by rfl) (by omega) ?_
          | refine XL.sub (by rfl) (by rfl) (by rfl) (by rfl) (by rfl) (by rfl) (by omega) ?_
          | refine XL.min2 (by rfl) (by rfl) (by rfl) (by rfl) (by rfl) (by rfl) ?_
          | refine XL.max2 (by rfl) (by rfl) (by rfl) (by rfl) (by rfl) (by rfl) ?_
          | refine XL.eqB (by rfl) (by rfl) (by rfl) (by rfl) (by rfl) (by rfl) (by rfl) ?_
          | refine XL.neB (by rfl) (by rfl) (by rfl) (by rfl) (by rfl) (by rfl) (by rfl) ?_
          | refine XL.psome (by rfl) (by rfl) (by rfl) (by rfl) (by rfl) (by rfl) (by rfl) ?_
          | refine XL.pnone (by rfl) (by rfl) (by rfl) (by rfl) (by rfl) (by rfl) (by rfl) ?_
          | refine XL.psome' (by rfl) (by rfl) (by rfl) (by rfl) (by rfl) (by rfl) (by rfl) ?_
          | refine XL.pnone' (by rfl) (by rfl) (by rfl) (by rfl) (by rfl) (by rfl) (by rfl) ?_
          | refine XL.conv64 (by rfl) (by rfl) (by rfl) (by rfl) (by rfl) (by rfl) (by rfl) (by omega) ?_))
      refine XA.tk 7 (by rfl) (by kernel_rfl) (by repeat (first | exact PF.body | apply PF.sq | apply PF.rd | apply PF.mt | apply PF.block)) ?_
      (repeat' (first
        | refine XQ.tk ?_
        | refine XL.ldh (by rfl) (by rfl) (by rfl) (by rfl) (by rfl) (by rfl) (by repeat (first | exact Sel.here | apply Sel.there)) (by rfl) ?_
        | refine XL.nil ?_
          | (refine XL.guard_d (by rfl) (by rfl) (fun h => ?_) (fun h => ?_) <;> try (first | (exfalso; omega) | exact absurd rfl h | (exfalso; simp at h <;> omega)))
          | refine XL.pures (by rfl) (by rfl) (by rfl) (by rfl) (by rfl) ?_
          | refine XL.not_d (by rfl) (by rfl) (by rfl) (by rfl) (by rfl) ?_
          | refine XL.pure 1 (by rfl) ?_
          | refine XL.fa0 (by rfl) (by rfl) (by rfl) (by rfl) (by rfl) (by rfl) ?_
          | refine XL.ld (by rfl) (by rfl) (by rfl) (by rfl) (by rfl) (by rfl) (by repeat (first | exact Sel.here | apply Sel.there)) (by rfl) ?_
          | refine XL.fa (by rfl) (by rfl) (by rfl) (by rfl) (by rfl) (by rfl) ?_
          | refine XL.ia1 (by rfl) (by rfl) (by rfl) (by rfl) (by rfl) (by rfl) (by rfl) (by omega) ?_
          | refine XL.ldr (by rfl) (by rfl) (by rfl) (by rfl) (by rfl) (by rfl) (by repeat (first | exact Sel.here | apply Sel.there)) (by assumption) ?_
          | refine XL.stl (by rfl) (by rfl) (by rfl) (by rfl) (by rfl) (by rfl) (by rfl) (by repeat (first | exact Sel.here | apply Sel.there)) (by rfl) ?_
          | refine XL.lenR (by rfl) (by rfl) (by rfl) (by rfl) (by rfl) (by rfl) (by rfl) (by first | exact fun w h => St.row (by repeat (first | exact Sel.here | apply Sel.there)) h | exact fun w h => St.rowF (by repeat (first | exact List.Mem.head _ | apply List.Mem.tail)) h | exact fun w h => Hd.rowF (by repeat (first | exact List.Mem.head _ | apply List.Mem.tail)) h) ?_
          | refine XL.iaR1 (by rfl) (by rfl) (by rfl) (by rfl) (by rfl) (by rfl) (by rfl) (by first | exact fun w h => St.row (by repeat (first | exact Sel.here | apply Sel.there)) h | exact fun w h => St.rowF (by repeat (first | exact List.Mem.head _ | apply List.Mem.tail)) h | exact fun w h => Hd.rowF (by repeat (first | exact List.Mem.head _ | apply List.Mem.tail)) h) (by omega) ?_
          | refine XL.iaR2 (by rfl) (by rfl) (by rfl) (by rfl) (by rfl) (by rfl) (by first | exact fun w h => St.row (by repeat (first | exact Sel.here | apply Sel.there)) h | exact fun w h => St.rowF (by repeat (first | exact List.Mem.head _ | apply List.Mem.tail)) h | exact fun w h => Hd.rowF (by repeat (first | exact List.Mem.head _ | apply List.Mem.tail)) h) (by rfl) (by omega) ?_
          | refine XL.faR (by rfl) (by rfl) (by rfl) (by rfl) (by rfl) (by rfl) (by first | exact fun w h => St.row (by repeat (first | exact Sel.here | apply Sel.there)) h | exact fun w h => St.rowF (by repeat (first | exact List.Mem.head _ | apply List.Mem.tail)) h | exact fun w h => Hd.rowF (by repeat (first | exact List.Mem.head _ | apply List.Mem.tail)) h) (by assumption) ?_
          | refine XL.ldR (by rfl) (by rfl) (by rfl) (by rfl) (by rfl) (by rfl) (by first | exact fun w h => St.row (by repeat (first | exact Sel.here | apply Sel.there)) h | exact fun w h => St.rowF (by repeat (first | exact List.Mem.head _ | apply List.Mem.tail)) h | exact fun w h => Hd.rowF (by repeat (first | exact List.Mem.head _ | apply List.Mem.tail)) h) (by assumption) ?_
          | refine XL.lenS (by rfl) (by rfl) (by rfl) (by rfl) (by rfl) (by rfl) (by rfl) ?_
          | refine XL.lenStr (by rfl) (by rfl) (by rfl) (by rfl) (by rfl) (by rfl) (by rfl) ?_
          | refine XL.succ (by rfl) (by rfl) (by rfl) (by rfl) (by rfl) (by rfl) (by omega) ?_
          | refine XL.addn (by rfl) (by rfl) (by rfl) (by rfl) (by rfl) (by rfl) (by omega) ?_
          | refine XL.add (by rfl) (by rfl) (by rfl) (by rfl) (by rfl) (by rfl) (by omega) ?_
          | refine XL.pred (by rfl) (by rfl) (by rfl) (by rfl) (by rfl) (by rfl) (by omega) ?_
          | refine XL.subn (by rfl) (by rfl) (by rfl) (by rfl) (by rfl) (by rfl) (by omega) ?_
          | refine XL.sub (by rfl) (by rfl) (by rfl) (by rfl) (by rfl) (by rfl) (by omega) ?_
          | refine XL.min2 (by rfl) (by rfl) (by rfl) (by rfl) (by rfl) (by rfl) ?_
          | refine XL.max2 (by rfl) (by rfl) (by rfl) (by rfl) (by rfl) (by rfl) ?_
          | refine XL.eqB (by rfl) (by rfl) (by rfl) (by rfl) (by rfl) (by rfl) (by rfl) ?_
          | refine XL.neB (by rfl) (by rfl) (by rfl) (by rfl) (by rfl) (by rfl) (by rfl) ?_
          | refine XL.psome (by rfl) (by rfl) (by rfl) (by rfl) (by rfl) (by rfl) (by rfl) ?_
          | refine XL.pnone (by rfl) (by rfl) (by rfl) (by rfl) (by rfl) (by rfl) (by rfl) ?_
          | refine XL.psome' (by rfl) (by rfl) (by rfl) (by rfl) (by rfl) (by rfl) (by rfl) ?_
          | refine XL.pnone' (by rfl) (by rfl) (by rfl) (by rfl) (by rfl) (by rfl) (by rfl) ?_
          | refine XL.conv64 (by rfl) (by rfl) (by rfl) (by rfl) (by rfl) (by rfl) (by rfl) (by omega) ?_))
      refine XA.tk 8 (by rfl) (by kernel_rfl) (by repeat (first | exact PF.body | apply PF.sq | apply PF.rd | apply PF.mt | apply PF.block)) ?_
      (repeat' (first
        | refine XQ.tk ?_
        | refine XL.ldh (by rfl) (by rfl) (by rfl) (by rfl) (by rfl) (by rfl) (by repeat (first | exact Sel.here | apply Sel.there)) (by rfl) ?_
        | refine XL.nil ?_
          | (refine XL.guard_d (by rfl) (by rfl) (fun h => ?_) (fun h => ?_) <;> try (first | (exfalso; omega) | exact absurd rfl h | (exfalso; simp at h <;> omega)))
          | refine XL.pures (by rfl) (by rfl) (by rfl) (by rfl) (by rfl) ?_
          | refine XL.not_d (by rfl) (by rfl) (by rfl) (by rfl) (by rfl) ?_
          | refine XL.pure 1 (by rfl) ?_
          | refine XL.fa0 (by rfl) (by rfl) (by rfl) (by rfl) (by rfl) (by rfl) ?_
          | refine XL.ld (by rfl) (by rfl) (by rfl) (by rfl) (by rfl) (by rfl) (by repeat (first | exact Sel.here | apply Sel.there)) (by rfl) ?_
          | refine XL.fa (by rfl) (by rfl) (by rfl) (by rfl) (by rfl) (by rfl) ?_
          | refine XL.ia1 (by rfl) (by rfl) (by rfl) (by rfl) (by rfl) (by rfl) (by rfl) (by omega) ?_
          | refine XL.ldr (by rfl) (by rfl) (by rfl) (by rfl) (by rfl) (by rfl) (by repeat (first | exact Sel.here | apply Sel.there)) (by assumption) ?_
          | refine XL.stl (by rfl) (by rfl) (by rfl) (by rfl) (by rfl) (by rfl) (by rfl) (by repeat (first | exact Sel.here | apply Sel.there)) (by rfl) ?_
          | refine XL.lenR (by rfl) (by rfl) (by rfl) (by rfl) (by rfl) (by rfl) (by rfl) (by first | exact fun w h => St.row (by repeat (first | exact Sel.here | apply Sel.there)) h | exact fun w h => St.rowF (by repeat (first | exact List.Mem.head _ | apply List.Mem.tail)) h | exact fun w h => Hd.rowF (by repeat (first | exact List.Mem.head _ | apply List.Mem.tail)) h) ?_
          | refine XL.iaR1 (by rfl) (by rfl) (by rfl) (by rfl) (by rfl) (by rfl) (by rfl) (by first | exact fun w h => St.row (by repeat (first | exact Sel.here | apply Sel.there)) h | exact fun w h => St.rowF (by repeat (first | exact List.Mem.head _ | apply List.Mem.tail)) h | exact fun w h => Hd.rowF (by repeat (first | exact List.Mem.head _ | apply List.Mem.tail)) h) (by omega) ?_
          | refine XL.iaR2 (by rfl) (by rfl) (by rfl) (by rfl) (by rfl) (by rfl) (by first | exact fun w h => St.row (by repeat (first | exact Sel.here | apply Sel.there)) h | exact fun w h => St.rowF (by repeat (first | exact List.Mem.head _ | apply List.Mem.tail)) h | exact fun w h => Hd.rowF (by repeat (first | exact List.Mem.head _ | apply List.Mem.tail)) h) (by rfl) (by omega) ?_
          | refine XL.faR (by rfl) (by rfl) (by rfl) (by rfl) (by rfl) (by rfl) (by first | exact fun w h => St.row (by repeat (first | exact Sel.here | apply Sel.there)) h | exact fun w h => St.rowF (by repeat (first | exact List.Mem.head _ | apply List.Mem.tail)) h | exact fun w h => Hd.rowF (by repeat (first | exact List.Mem.head _ | apply List.Mem.tail)) h) (by assumption) ?_
          | refine XL.ldR (by rfl) (by rfl) (by rfl) (by rfl) (by rfl) (by rfl) (by first | exact fun w h => St.row (by repeat (first | exact Sel.here | apply Sel.there)) h | exact fun w h => St.rowF (by repeat (first | exact List.Mem.head _ | apply List.Mem.tail)) h | exact fun w h => Hd.rowF (by repeat (first | exact List.Mem.head _ | apply List.Mem.tail)) h) (by assumption) ?_
          | refine XL.lenS (by rfl) (by rfl) (by rfl) (by rfl) (by rfl) (by rfl) (by rfl) ?_
          | refine XL.lenStr (by rfl) (by rfl) (by rfl) (by rfl) (by rfl) (by rfl) (by rfl) ?_
          | refine XL.succ (by rfl) (by rfl) (by rfl) (by rfl) (by rfl) (by rfl) (by omega) ?_
          | refine XL.addn (by rfl) (by rfl) (by rfl) (by rfl) (by rfl) (by rfl) (by omega) ?_
          | refine XL.add (by rfl) (by rfl) (by rfl) (by rfl) (by rfl) (by rfl) (by omega) ?_
          | refine XL.pred (by rfl) (by rfl) (by rfl) (by rfl) (by rfl) (by rfl) (by omega) ?_
          | refine XL.subn (by rfl) (by rfl) (by rfl) (by rfl) (by rfl) (by rfl) (by omega) ?_
          | refine XL.sub (by rfl) (by rfl) (by rfl) (by rfl) (by rfl) (by rfl) (by omega) ?_
          | refine XL.min2 (by rfl) (by rfl) (by rfl) (by rfl) (by rfl) (by rfl) ?_
          | refine XL.max2 (by rfl) (by rfl) (by rfl) (by rfl) (by rfl) (by rfl) ?_
          | refine XL.eqB (by rfl) (by rfl) (by rfl) (by rfl) (by rfl) (by rfl) (by rfl) ?_
          | refine XL.neB (by rfl) (by rfl) (by rfl) (by rfl) (by rfl) (by rfl) (by rfl) ?_
          | refine XL.psome (by rfl) (by rfl) (by rfl) (by rfl) (by rfl) (by rfl) (by rfl) ?_
          | refine XL.pnone (by rfl) (by rfl) (by rfl) (by rfl) (by rfl) (by rfl) (by rfl) ?_
          | refine XL.psome' (by rfl) (by rfl) (by rfl) (by rfl) (by rfl) (by rfl) (by rfl) ?_
          | refine XL.pnone' (by rfl) (by rfl) (by rfl) (by rfl) (by rfl) (by rfl) (by rfl) ?_
          | refine XL.conv64 (by rfl) (by rfl) (by rfl) (by rfl) (by rfl) (by rfl) (by rfl) (by omega) ?_))
      refine XA.tk 9 (by rfl) (by kernel_rfl) (by repeat (first | exact PF.body | apply PF.sq | apply PF.rd | apply PF.mt | apply PF.block)) ?_
      (repeat' (first
        | refine XQ.tk ?_
        | refine XL.ldh (by rfl) (by rfl) (by rfl) (by rfl) (by rfl) (by rfl) (by repeat (first | exact Sel.here | apply Sel.there)) (by rfl) ?_
        | refine XL.nil ?_
          | (refine XL.guard_d (by rfl) (by rfl) (fun h => ?_) (fun h => ?_) <;> try (first | (exfalso; omega) | exact absurd rfl h | (exfalso; simp at h <;> omega)))
          | refine XL.pures (by rfl) (by rfl) (by rfl) (by rfl) (by rfl) ?_
          | refine XL.not_d (by rfl) (by rfl) (by rfl) (by rfl) (by rfl) ?_
          | refine XL.pure 1 (by rfl) ?_
          | refine XL.fa0 (by rfl) (by rfl) (by rfl) (by rfl) (by rfl) (by rfl) ?_
          | refine XL.ld (by rfl) (by rfl) (by rfl) (by rfl) (by rfl) (by rfl) (by repeat (first | exact Sel.here | apply Sel.there)) (by rfl) ?_
          | refine XL.fa (by rfl) (by rfl) (by rfl) (by rfl) (by rfl) (by rfl) ?_
          | refine XL.ia1 (by rfl) (by rfl) (by rfl) (by rfl) (by rfl) (by rfl) (by rfl) (by omega) ?_
          | refine XL.ldr (by rfl) (by rfl) (by rfl) (by rfl) (by rfl) (by rfl) (by repeat (first | exact Sel.here | apply Sel.there)) (by assumption) ?_
          | refine XL.stl (by rfl) (by rfl) (by rfl) (by rfl) (by rfl) (by rfl) (by rfl) (by repeat (first | exact Sel.here | apply Sel.there)) (by rfl) ?_
          | refine XL.lenR (by rfl) (by rfl) (by rfl) (by rfl) (by rfl) (by rfl) (by rfl) (by first | exact fun w h => St.row (by repeat (first | exact Sel.here | apply Sel.there)) h | exact fun w h => St.rowF (by repeat (first | exact List.Mem.head _ | apply List.Mem.tail)) h | exact fun w h => Hd.rowF (by repeat (first | exact List.Mem.head _ | apply List.Mem.tail)) h) ?_
          | refine XL.iaR1 (by rfl) (by rfl) (by rfl) (by rfl) (by rfl) (by rfl) (by rfl) (by first | exact fun w h => St.row (by repeat (first | exact Sel.here | apply Sel.there)) h | exact fun w h => St.rowF (by repeat (first | exact List.Mem.head _ | apply List.Mem.tail)) h | exact fun w h => Hd.rowF (by repeat (first | exact List.Mem.head _ | apply List.Mem.tail)) h) (by omega) ?_
          | refine XL.iaR2 (by rfl) (by rfl) (by rfl) (by rfl) (by rfl) (by rfl) (by first | exact fun w h => St.row (by repeat (first | exact Sel.here | apply Sel.there)) h | exact fun w h => St.rowF (by repeat (first | exact List.Mem.head _ | apply List.Mem.tail)) h | exact fun w h => Hd.rowF (by repeat (first | exact List.Mem.head _ | apply List.Mem.tail)) h) (by rfl) (by omega) ?_
          | refine XL.faR (by rfl) (by rfl) (by rfl) (by rfl) (by rfl) (by rfl) (by first | exact fun w h => St.row (by repeat (first | exact Sel.here | apply Sel.there)) h | exact fun w h => St.rowF (by repeat (first | exact List.Mem.head _ | apply List.Mem.tail)) h | exact fun w h => Hd.rowF (by repeat (first | exact List.Mem.head _ | apply List.Mem.tail)) h) (by assumption) ?_
          | refine XL.ldR (by rfl) (by rfl) (by rfl) (by rfl) (by rfl) (by rfl) (by first | exact fun w h => St.row (by repeat (first | exact Sel.here | apply Sel.there)) h | exact fun w h => St.rowF (by repeat (first | exact List.Mem.head _ | apply List.Mem.tail)) h | exact fun w h => Hd.rowF (by repeat (first | exact List.Mem.head _ | apply List.Mem.tail)) h) (by assumption) ?_
          | refine XL.lenS (by rfl) (by rfl) (by rfl) (by rfl) (by rfl) (by rfl) (by rfl) ?_
          | refine XL.lenStr (by rfl) (by rfl) (by rfl) (by rfl) (by rfl) (by rfl) (by rfl) ?_
          | refine XL.succ (by rfl) (by rfl) (by rfl) (by rfl) (by rfl) (by rfl) (by omega) ?_
          | refine XL.addn (by rfl) (by rfl) (by rfl) (by rfl) (by rfl) (by rfl) (by omega) ?_
          | refine XL.add (by rfl) (by rfl) (by rfl) (by rfl) (by rfl) (by rfl) (by omega) ?_
          | refine XL.pred (by rfl) (by rfl) (by rfl) (by rfl) (by rfl) (by rfl) (by omega) ?_
          | refine XL.subn (by rfl) (by rfl) (by rfl) (by rfl) (by rfl) (by rfl) (by omega) ?_
          | refine XL.sub (by rfl) (by rfl) (by rfl) (by rfl) (by rfl) (by rfl) (by omega) ?_
          | refine XL.min2 (by rfl) (by rfl) (by rfl) (by rfl) (by rfl) (by rfl) ?_
          | refine XL.max2 (by rfl) (by rfl) (by rfl) (by rfl) (by rfl) (by rfl) ?_
          | refine XL.eqB (by rfl) (by rfl) (by rfl) (by rfl) (by rfl) (by rfl) (by rfl) ?_
          | refine XL.neB (by rfl) (by rfl) (by rfl) (by rfl) (by rfl) (by rfl) (by rfl) ?_
          | refine XL.psome (by rfl) (by rfl) (by rfl) (by rfl) (by rfl) (by rfl) (by rfl) ?_
          | refine XL.pnone (by rfl) (by rfl) (by rfl) (by rfl) (by rfl) (by rfl) (by rfl) ?_
          | refine XL.psome' (by rfl) (by rfl) (by rfl) (by rfl) (by rfl) (by rfl) (by rfl) ?_
          | refine XL.pnone' (by rfl) (by rfl) (by rfl) (by rfl) (by rfl) (by rfl) (by rfl) ?_
          | refine XL.conv64 (by rfl) (by rfl) (by rfl) (by rfl) (by rfl) (by rfl) (by rfl) (by omega) ?_))
      refine XA.tk 10 (by rfl) (by kernel_rfl) (by repeat (first | exact PF.body | apply PF.sq | apply PF.rd | apply PF.mt | apply PF.block)) ?_
      (repeat' (first
        | refine XQ.tk ?_
        | refine XL.ldh (by rfl) (by rfl) (by rfl) (by rfl) (by rfl) (by rfl) (by repeat (first | exact Sel.here | apply Sel.there)) (by rfl) ?_
        | refine XL.nil ?_
          | (refine XL.guard_d (by rfl) (by rfl) (fun h => ?_) (fun h => ?_) <;> try (first | (exfalso; omega) | exact absurd rfl h | (exfalso; simp at h <;> omega)))
          | refine XL.pures (by rfl) (by rfl) (by rfl) (by rfl) (by rfl) ?_
          | refine XL.not_d (by rfl) (by rfl) (by rfl) (by rfl) (by rfl) ?_
          | refine XL.pure 1 (by rfl) ?_
          | refine XL.fa0 (by rfl) (by rfl) (by rfl) (by rfl) (by rfl) (by rfl) ?_
          | refine XL.ld (by rfl) (by rfl) (by rfl) (by rfl) (by rfl) (by rfl) (by repeat (first | exact Sel.here | apply Sel.there)) (by rfl) ?_
          | refine XL.fa (by rfl) (by rfl) (by rfl) (by rfl) (by rfl) (by rfl) ?_
          | refine XL.ia1 (by rfl) (by rfl) (by rfl) (by rfl) (by rfl) (by rfl) (by rfl) (by omega) ?_
          | refine XL.ldr (by rfl) (by rfl) (by rfl) (by rfl) (by rfl) (by rfl) (by repeat (first | exact Sel.here | apply Sel.there)) (by assumption) ?_
          | refine XL.stl (by rfl) (by rfl) (by rfl) (by rfl) (by rfl) (by rfl) (by rfl) (by repeat (first | exact Sel.here | apply Sel.there)) (by rfl) ?_
          | refine XL.lenR (by rfl) (by rfl) (by rfl) (by rfl) (by rfl) (by rfl) (by rfl) (by first | exact fun w h => St.row (by repeat (first | exact Sel.here | apply Sel.there)) h | exact fun w h => St.rowF (by repeat (first | exact List.Mem.head _ | apply List.Mem.tail)) h | exact fun w h => Hd.rowF (by repeat (first | exact List.Mem.head _ | apply List.Mem.tail)) h) ?_
          | refine XL.iaR1 (by rfl) (by rfl) (by rfl) (by rfl) (by rfl) (by rfl) (by rfl) (by first | exact fun w h => St.row (by repeat (first | exact Sel.here | apply Sel.there)) h | exact fun w h => St.rowF (by repeat (first | exact List.Mem.head _ | apply List.Mem.tail)) h | exact fun w h => Hd.rowF (by repeat (first | exact List.Mem.head _ | apply List.Mem.tail)) h) (by omega) ?_
          | refine XL.iaR2 (by rfl) (by rfl) (by rfl) (by rfl) (by rfl) (by rfl) (by first | exact fun w h => St.row (by repeat (first | exact Sel.here | apply Sel.there)) h | exact fun w h => St.rowF (by repeat (first | exact List.Mem.head _ | apply List.Mem.tail)) h | exact fun w h => Hd.rowF (by repeat (first | exact List.Mem.head _ | apply List.Mem.tail)) h) (by rfl) (by omega) ?_
          | refine XL.faR (by rfl) (by rfl) (by rfl) (by rfl) (by rfl) (by rfl) (by first | exact fun w h => St.row (by repeat (first | exact Sel.here | apply Sel.there)) h | exact fun w h => St.rowF (by repeat (first | exact List.Mem.head _ | apply List.Mem.tail)) h | exact fun w h => Hd.rowF (by repeat (first | exact List.Mem.head _ | apply List.Mem.tail)) h) (by assumption) ?_
          | refine XL.ldR (by rfl) (by rfl) (by rfl) (by rfl) (by rfl) (by rfl) (by first | exact fun w h => St.row (by repeat (first | exact Sel.here | apply Sel.there)) h | exact fun w h => St.rowF (by repeat (first | exact List.Mem.head _ | apply List.Mem.tail)) h | exact fun w h => Hd.rowF (by repeat (first | exact List.Mem.head _ | apply List.Mem.tail)) h) (by assumption) ?_
          | refine XL.lenS (by rfl) (by rfl) (by rfl) (by rfl) (by rfl) (by rfl) (by rfl) ?_
          | refine XL.lenStr (by rfl) (by rfl) (by rfl) (by rfl) (by rfl) (by rfl) (by rfl) ?_
          | refine XL.succ (by rfl) (by rfl) (by rfl) (by rfl) (by rfl) (by rfl) (by omega) ?_
          | refine XL.addn (by rfl) (by rfl) (by rfl) (by rfl) (by rfl) (by rfl) (by omega) ?_
          | refine XL.add (by rfl) (by rfl) (by rfl) (by rfl) (by rfl) (by rfl) (by omega) ?_
          | refine XL.pred (by rfl) (by rfl) (by rfl) (by rfl) (by rfl) (by rfl) (by omega) ?_
          | refine XL.subn (by rfl) (by rfl) (by rfl) (by rfl) (by rfl) (by rfl) (by omega) ?_
          | refine XL.sub (by rfl) (by rfl) (by rfl) (by rfl) (by rfl) (by rfl) (by omega) ?_
          | refine XL.min2 (by rfl) (by rfl) (by rfl) (by rfl) (by rfl) (by rfl) ?_
          | refine XL.max2 (by rfl) (by rfl) (by rfl) (by rfl) (by rfl) (by rfl) ?_
          | refine XL.eqB (by rfl) (by rfl) (by rfl) (by rfl) (by rfl) (by rfl) (by rfl) ?_
          | refine XL.neB (by rfl) (by rfl) (by rfl) (by rfl) (by rfl) (by rfl) (by rfl) ?_
          | refine XL.psome (by rfl) (by rfl) (by rfl) (by rfl) (by rfl) (by rfl) (by rfl) ?_
          | refine XL.pnone (by rfl) (by rfl) (by rfl) (by rfl) (by rfl) (by rfl) (by rfl) ?_
          | refine XL.psome' (by rfl) (by rfl) (by rfl) (by rfl) (by rfl) (by rfl) (by rfl) ?_
          | refine XL.pnone' (by rfl) (by rfl) (by rfl) (by rfl) (by rfl) (by rfl) (by rfl) ?_
          | refine XL.conv64 (by rfl) (by rfl) (by rfl) (by rfl) (by rfl) (by rfl) (by rfl) (by omega) ?_))
      refine XA.tk 11 (by rfl) (by kernel_rfl) (by repeat (first | exact PF.body | apply PF.sq | apply PF.rd | apply PF.mt | apply PF.block)) ?_
      (repeat' (first
        | refine XQ.tk ?_
        | refine XL.ldh (by rfl) (by rfl) (by rfl) (by rfl) (by rfl) (by rfl) (by repeat (first | exact Sel.here | apply Sel.there)) (by rfl) ?_
        | refine XL.nil ?_
          | (refine XL.guard_d (by rfl) (by rfl) (fun h => ?_) (fun h => ?_) <;> try (first | (exfalso; omega) | exact absurd rfl h | (exfalso; simp at h <;> omega)))
          | refine XL.pures (by rfl) (by rfl) (by rfl) (by rfl) (by rfl) ?_
          | refine XL.not_d (by rfl) (by rfl) (by rfl) (by rfl) (by rfl) ?_
          | refine XL.pure 1 (by rfl) ?_
          | refine XL.fa0 (by rfl) (by rfl) (by rfl) (by rfl) (by rfl) (by rfl) ?_
          | refine XL.ld (by rfl) (by rfl) (by rfl) (by rfl) (by rfl) (by rfl) (by repeat (first | exact Sel.here | apply Sel.there)) (by rfl) ?_
          | refine XL.fa (by rfl) (by rfl) (by rfl) (by rfl) (by rfl) (by rfl) ?_
          | refine XL.ia1 (by rfl) (by rfl) (by rfl) (by rfl) (by rfl) (by rfl) (by rfl) (by omega) ?_
          | refine XL.ldr (by rfl) (by rfl) (by rfl) (by rfl) (by rfl) (by rfl) (by repeat (first | exact Sel.here | apply Sel.there)) (by assumption) ?_
          | refine XL.stl (by rfl) (by rfl) (by rfl) (by rfl) (by rfl) (by rfl) (by rfl) (by repeat (first | exact Sel.here | apply Sel.there)) (by rfl) ?_
          | refine XL.lenR (by rfl) (by rfl) (by rfl) (by rfl) (by rfl) (by rfl) (by rfl) (by first | exact fun w h => St.row (by repeat (first | exact Sel.here | apply Sel.there)) h | exact fun w h => St.rowF (by repeat (first | exact List.Mem.head _ | apply List.Mem.tail)) h | exact fun w h => Hd.rowF (by repeat (first | exact List.Mem.head _ | apply List.Mem.tail)) h) ?_
          | refine XL.iaR1 (by rfl) (by rfl) (by rfl) (by rfl) (by rfl) (by rfl) (by rfl) (by first | exact fun w h => St.row (by repeat (first | exact Sel.here | apply Sel.there)) h | exact fun w h => St.rowF (by repeat (first | exact List.Mem.head _ | apply List.Mem.tail)) h | exact fun w h => Hd.rowF (by repeat (first | exact List.Mem.head _ | apply List.Mem.tail)) h) (by omega) ?_
          | refine XL.iaR2 (by rfl) (by rfl) (by rfl) (by rfl) (by rfl) (by rfl) (by first | exact fun w h => St.row (by repeat (first | exact Sel.here | apply Sel.there)) h | exact fun w h => St.rowF (by repeat (first | exact List.Mem.head _ | apply List.Mem.tail)) h | exact fun w h => Hd.rowF (by repeat (first | exact List.Mem.head _ | apply List.Mem.tail)) h) (by rfl) (by omega) ?_
          | refine XL.faR (by rfl) (by rfl) (by rfl) (by rfl) (by rfl) (by rfl) (by first | exact fun w h => St.row (by repeat (first | exact Sel.here | apply Sel.there)) h | exact fun w h => St.rowF (by repeat (first | exact List.Mem.head _ | apply List.Mem.tail)) h | exact fun w h => Hd.rowF (by repeat (first | exact List.Mem.head _ | apply List.Mem.tail)) h) (by assumption) ?_
          | refine XL.ldR (by rfl) (by rfl) (by rfl) (by rfl) (by rfl) (by rfl) (by first | exact fun w h => St.row (by repeat (first | exact Sel.here | apply Sel.there)) h | exact fun w h => St.rowF (by repeat (first | exact List.Mem.head _ | apply List.Mem.tail)) h | exact fun w h => Hd.rowF (by repeat (first | exact List.Mem.head _ | apply List.Mem.tail)) h) (by assumption) ?_
          | refine XL.lenS (by rfl) (by rfl) (by rfl) (by rfl) (by rfl) (by rfl) (by rfl) ?_
          | refine XL.lenStr (by rfl) (by rfl) (by rfl) (by rfl) (by rfl) (by rfl) (by rfl) ?_
          | refine XL.succ (by rfl) (by rfl) (by rfl) (by rfl) (by rfl) (by rfl) (by omega) ?_
          | refine XL.addn (by rfl) (by rfl) (by rfl) (by rfl) (by rfl) (by rfl) (by omega) ?_
          | refine XL.add (by rfl) (by rfl) (by rfl) (by rfl) (by rfl) (by rfl) (by omega) ?_
          | refine XL.pred (by rfl) (by rfl) (by rfl) (by rfl) (by rfl) (by rfl) (by omega) ?_
          | refine XL.subn (by rfl) (by rfl) (by rfl) (by rfl) (by rfl) (by rfl) (by omega) ?_
          | refine XL.sub (by rfl) (by rfl) (by rfl) (by rfl) (by rfl) (by rfl) (by omega) ?_
          | refine XL.min2 (by rfl) (by rfl) (by rfl) (by rfl) (by rfl) (by rfl) ?_
          | refine XL.max2 (by rfl) (by rfl) (by rfl) (by rfl) (by rfl) (by rfl) ?_
          | refine XL.eqB (by rfl) (by rfl) (by rfl) (by rfl) (by rfl) (by rfl) (by rfl) ?_
          | refine XL.neB (by rfl) (by rfl) (by rfl) (by rfl) (by rfl) (by rfl) (by rfl) ?_
          | refine XL.psome (by rfl) (by rfl) (by rfl) (by rfl) (by rfl) (by rfl) (by rfl) ?_
          | refine XL.pnone (by rfl) (by rfl) (by rfl) (by rfl) (by rfl) (by rfl) (by rfl) ?_
          | refine XL.psome' (by rfl) (by rfl) (by rfl) (by rfl) (by rfl) (by rfl) (by rfl) ?_
          | refine XL.pnone' (by rfl) (by rfl) (by rfl) (by rfl) (by rfl) (by rfl) (by rfl) ?_
          | refine XL.conv64 (by rfl) (by rfl) (by rfl) (by rfl) (by rfl) (by rfl) (by rfl) (by omega) ?_))
      refine XA.tk 12 (by rfl) (by kernel_rfl) (by repeat (first | exact PF.body | apply PF.sq | apply PF.rd | apply PF.mt | apply PF.block)) ?_
      (repeat' (first
        | refine XQ.tk ?_
        | refine XL.ldh (by rfl) (by rfl) (by rfl) (by rfl) (by rfl) (by rfl) (by repeat (first | exact Sel.here | apply Sel.there)) (by rfl) ?_
        | refine XL.nil ?_
          | (refine XL.guard_d (by rfl) (by rfl) (fun h => ?_) (fun h => ?_) <;> try (first | (exfalso; omega) | exact absurd rfl h | (exfalso; simp at h <;> omega)))
          | refine XL.pures (by rfl) (by rfl) (by rfl) (by rfl) (by rfl) ?_
          | refine XL.not_d (by rfl) (by rfl) (by rfl) (by rfl) (by rfl) ?_
          | refine XL.pure 1 (by rfl) ?_
          | refine XL.fa0 (by rfl) (by rfl) (by rfl) (by rfl) (by rfl) (by rfl) ?_
          | refine XL.ld (by rfl) (by rfl) (by rfl) (by rfl) (by rfl) (by rfl) (by repeat (first | exact Sel.here | apply Sel.there)) (by rfl) ?_
          | refine XL.fa (by rfl) (by rfl) (by rfl) (by rfl) (by rfl) (by rfl) ?_
          | refine XL.ia1 (by rfl) (by rfl) (by rfl) (by rfl) (by rfl) (by rfl) (by rfl) (by omega) ?_
          | refine XL.ldr (by rfl) (by rfl) (by rfl) (by rfl) (by rfl) (by rfl) (by repeat (first | exact Sel.here | apply Sel.there)) (by assumption) ?_
          | refine XL.stl (by rfl) (by rfl) (by rfl) (by rfl) (by rfl) (by rfl) (by rfl) (by repeat (first | exact Sel.here | apply Sel.there)) (by rfl) ?_
          | refine XL.lenR (by rfl) (by rfl) (by rfl) (by rfl) (by rfl) (by rfl) (by rfl) (by first | exact fun w h => St.row (by repeat (first | exact Sel.here | apply Sel.there)) h | exact fun w h => St.rowF (by repeat (first | exact List.Mem.head _ | apply List.Mem.tail)) h | exact fun w h => Hd.rowF (by repeat (first | exact List.Mem.head _ | apply List.Mem.tail)) h) ?_
          | refine XL.iaR1 (by rfl) (by rfl) (by rfl) (by rfl) (by rfl) (by rfl) (by rfl) (by first | exact fun w h => St.row (by repeat (first | exact Sel.here | apply Sel.there)) h | exact fun w h => St.rowF (by repeat (first | exact List.Mem.head _ | apply List.Mem.tail)) h | exact fun w h => Hd.rowF (by repeat (first | exact List.Mem.head _ | apply List.Mem.tail)) h) (by omega) ?_
          | refine XL.iaR2 (by rfl) (by rfl) (by rfl) (by rfl) (by rfl) (by rfl) (by first | exact fun w h => St.row (by repeat (first | exact Sel.here | apply Sel.there)) h | exact fun w h => St.rowF (by repeat (first | exact List.Mem.head _ | apply List.Mem.tail)) h | exact fun w h => Hd.rowF (by repeat (first | exact List.Mem.head _ | apply List.Mem.tail)) h) (by rfl) (by omega) ?_
          | refine XL.faR (by rfl) (by rfl) (by rfl) (by rfl) (by rfl) (by rfl) (by first | exact fun w h => St.row (by repeat (first | exact Sel.here | apply Sel.there)) h | exact fun w h => St.rowF (by repeat (first | exact List.Mem.head _ | apply List.Mem.tail)) h | exact fun w h => Hd.rowF (by repeat (first | exact List.Mem.head _ | apply List.Mem.tail)) h) (by assumption) ?_
          | refine XL.ldR (by rfl) (by rfl) (by rfl) (by rfl) (by rfl) (by rfl) (by first | exact fun w h => St.row (by repeat (first | exact Sel.here | apply Sel.there)) h | exact fun w h => St.rowF (by repeat (first | exact List.Mem.head _ | apply List.Mem.tail)) h | exact fun w h => Hd.rowF (by repeat (first | exact List.Mem.head _ | apply List.Mem.tail)) h) (by assumption) ?_
          | refine XL.lenS (by rfl) (by rfl) (by rfl) (by rfl) (by rfl) (by rfl) (by rfl) ?_
          | refine XL.lenStr (by rfl) (by rfl) (by rfl) (by rfl) (by rfl) (by rfl) (by rfl) ?_
          | refine XL.succ (by rfl) (by rfl) (by rfl) (by rfl) (by rfl) (by rfl) (by omega) ?_
          | refine XL.addn (by rfl) (by rfl) (by rfl) (by rfl) (by rfl) (by rfl) (by omega) ?_
          | refine XL.add (by rfl) (by rfl) (by rfl) (by rfl) (by rfl) (by rfl) (by omega) ?_
          | refine XL.pred (by rfl) (by rfl) (by rfl) (by rfl) (by rfl) (by rfl) (by omega) ?_
          | refine XL.subn (by rfl) (by rfl) (by rfl) (by rfl) (by rfl) (by rfl) (by omega) ?_
          | refine XL.sub (by rfl) (by rfl) (by rfl) (by rfl) (by rfl) (by rfl) (by omega) ?_
          | refine XL.min2 (by rfl) (by rfl) (by rfl) (by rfl) (by rfl) (by rfl) ?_
          | refine XL.max2 (by rfl) (by rfl) (by rfl) (by rfl) (by rfl) (by rfl) ?_
          | refine XL.eqB (by rfl) (by rfl) (by rfl) (by rfl) (by rfl) (by rfl) (by rfl) ?_
          | refine XL.neB (by rfl) (by rfl) (by rfl) (by rfl) (by rfl) (by rfl) (by rfl) ?_
          | refine XL.psome (by rfl) (by rfl) (by rfl) (by rfl) (by rfl) (by rfl) (by rfl) ?_
          | refine XL.pnone (by rfl) (by rfl) (by rfl) (by rfl) (by rfl) (by rfl) (by rfl) ?_
          | refine XL.psome' (by rfl) (by rfl) (by rfl) (by rfl) (by rfl) (by rfl) (by rfl) ?_
          | refine XL.pnone' (by rfl) (by rfl) (by rfl) (by rfl) (by rfl) (by rfl) (by rfl) ?_
          | refine XL.conv64 (by rfl) (by rfl) (by rfl) (by rfl) (by rfl) (by rfl) (by rfl) (by omega) ?_))
      refine XA.tk 13 (by rfl) (by kernel_rfl) (by repeat (first | exact PF.body | apply PF.sq | apply PF.rd | apply PF.mt | apply PF.block)) ?_
      (repeat' (first
        | refine XQ.tk ?_
        | refine XL.ldh (by rfl) (by rfl) (by rfl) (by rfl) (by rfl) (by rfl) (by repeat (first | exact Sel.here | apply Sel.there)) (by rfl) ?_
        | refine XL.nil ?_
          | (refine XL.guard_d (by rfl) (by rfl) (fun h => ?_) (fun h => ?_) <;> try (first | (exfalso; omega) | exact absurd rfl h | (exfalso; simp at h <;> omega)))
          | refine XL.pures (by rfl) (by rfl) (by rfl) (by rfl) (by rfl) ?_
          | refine XL.not_d (by rfl) (by rfl) (by rfl) (by rfl) (by rfl) ?_
          | refine XL.pure 1 (by rfl) ?_
          | refine XL.fa0 (by rfl) (by rfl) (by rfl) (by rfl) (by rfl) (by rfl) ?_
          | refine XL.ld (by rfl) (by rfl) (by rfl) (by rfl) (by rfl) (by rfl) (by repeat (first | exact Sel.here | apply Sel.there)) (by rfl) ?_
          | refine XL.fa (by rfl) (by rfl) (by rfl) (by rfl) (by rfl) (by rfl) ?_
          | refine XL.ia1 (by rfl) (by rfl) (by rfl) (by rfl) (by rfl) (by rfl) (by rfl) (by omega) ?_
          | refine XL.ldr (by rfl) (by rfl) (by rfl) (by rfl) (by rfl) (by rfl) (by repeat (first | exact Sel.here | apply Sel.there)) (by assumption) ?_
          | refine XL.stl (by rfl) (by rfl) (by rfl) (by rfl) (by rfl) (by rfl) (by rfl) (by repeat (first | exact Sel.here | apply Sel.there)) (by rfl) ?_
          | refine XL.lenR (by rfl) (by rfl) (by rfl) (by rfl) (by rfl) (by rfl) (by rfl) (by first | exact fun w h => St.row (by repeat (first | exact Sel.here | apply Sel.there)) h | exact fun w h => St.rowF (by repeat (first | exact List.Mem.head _ | apply List.Mem.tail)) h | exact fun w h => Hd.rowF (by repeat (first | exact List.Mem.head _ | apply List.Mem.tail)) h) ?_
          | refine XL.iaR1 (by rfl) (by rfl) (by rfl) (by rfl) (by rfl) (by rfl) (by rfl) (by first | exact fun w h => St.row (by repeat (first | exact Sel.here | apply Sel.there)) h | exact fun w h => St.rowF (by repeat (first | exact List.Mem.head _ | apply List.Mem.tail)) h | exact fun w h => Hd.rowF (by repeat (first | exact List.Mem.head _ | apply List.Mem.tail)) h) (by omega) ?_
          | refine XL.iaR2 (by rfl) (by rfl) (by rfl) (by rfl) (by rfl) (by rfl) (by first | exact fun w h => St.row (by repeat (first | exact Sel.here | apply Sel.there)) h | exact fun w h => St.rowF (by repeat (first | exact List.Mem.head _ | apply List.Mem.tail)) h | exact fun w h => Hd.rowF (by repeat (first | exact List.Mem.head _ | apply List.Mem.tail)) h) (by rfl) (by omega) ?_
          | refine XL.faR (by rfl) (by rfl) (by rfl) (by rfl) (by rfl) (by rfl) (by first | exact fun w h => St.row (by repeat (first | exact Sel.here | apply Sel.there)) h | exact fun w h => St.rowF (by repeat (first | exact List.Mem.head _ | apply List.Mem.tail)) h | exact fun w h => Hd.rowF (by repeat (first | exact List.Mem.head _ | apply List.Mem.tail)) h) (by assumption) ?_
          | refine XL.ldR (by rfl) (by rfl) (by rfl) (by rfl) (by rfl) (by rfl) (by first | exact fun w h => St.row (by repeat (first | exact Sel.here | apply Sel.there)) h | exact fun w h => St.rowF (by repeat (first | exact List.Mem.head _ | apply List.Mem.tail)) h | exact fun w h => Hd.rowF (by repeat (first | exact List.Mem.head _ | apply List.Mem.tail)) h) (by assumption) ?_
          | refine XL.lenS (by rfl) (by rfl) (by rfl) (by rfl) (by rfl) (by rfl) (by rfl) ?_
          | refine XL.lenStr (by rfl) (by rfl) (by rfl) (by rfl) (by rfl) (by rfl) (by rfl) ?_
          | refine XL.succ (by rfl) (by rfl) (by rfl) (by rfl) (by rfl) (by rfl) (by omega) ?_
          | refine XL.addn (by rfl) (by rfl) (by rfl) (by rfl) (by rfl) (by rfl) (by omega) ?_
          | refine XL.add (by rfl) (by rfl) (by rfl) (by rfl) (by rfl) (by rfl) (by omega) ?_
          | refine XL.pred (by rfl) (by rfl) (by rfl) (by rfl) (by rfl) (by rfl) (by omega) ?_
          | refine XL.subn (by rfl) (by rfl) (by rfl) (by rfl) (by rfl) (by rfl) (by omega) ?_
          | refine XL.sub (by rfl) (by rfl) (by rfl) (by rfl) (by rfl) (by rfl) (by omega) ?_
          | refine XL.min2 (by rfl) (by rfl) (by rfl) (by rfl) (by rfl) (by rfl) ?_
          | refine XL.max2 (by rfl) (by rfl) (by rfl) (by rfl) (by rfl) (by rfl) ?_
          | refine XL.eqB (by rfl) (by rfl) (by rfl) (by rfl) (by rfl) (by rfl) (by rfl) ?_
          | refine XL.neB (by rfl) (by rfl) (by rfl) (by rfl) (by rfl) (by rfl) (by rfl) ?_
          | refine XL.psome (by rfl) (by rfl) (by rfl) (by rfl) (by rfl) (by rfl) (by rfl) ?_
          | refine XL.pnone (by rfl) (by rfl) (by rfl) (by rfl) (by rfl) (by rfl) (by rfl) ?_
          | refine XL.psome' (by rfl) (by rfl) (by rfl) (by rfl) (by rfl) (by rfl) (by rfl) ?_
          | refine XL.pnone' (by rfl) (by rfl) (by rfl) (by rfl) (by rfl) (by rfl) (by rfl) ?_
          | refine XL.conv64 (by rfl) (by rfl) (by rfl) (by rfl) (by rfl) (by rfl) (by rfl) (by omega) ?_))
      refine XA.tk 14 (by rfl) (by kernel_rfl) (by repeat (first | exact PF.body | apply PF.sq | apply PF.rd | apply PF.mt | apply PF.block)) ?_
      (repeat' (first
        | refine XQ.tk ?_
        | refine XL.ldh (by rfl) (by rfl) (by rfl) (by rfl) (by rfl) (by rfl) (by repeat (first | exact Sel.here | apply Sel.there)) (by rfl) ?_
        | refine XL.nil ?_
          | (refine XL.guard_d (by rfl) (by rfl) (fun h => ?_) (fun h => ?_) <;> try (first | (exfalso; omega) | exact absurd rfl h | (exfalso; simp at h <;> omega)))
          | refine XL.pures (by rfl) (by rfl) (by rfl) (by rfl) (by rfl) ?_
          | refine XL.not_d (by rfl) (by rfl) (by rfl) (by rfl) (by rfl) ?_
          | refine XL.pure 1 (by rfl) ?_
          | refine XL.fa0 (by rfl) (by rfl) (by rfl) (by rfl) (by rfl) (by rfl) ?_
          | refine XL.ld (by rfl) (by rfl) (by rfl) (by rfl) (by rfl) (by rfl) (by repeat (first | exact Sel.here | apply Sel.there)) (by rfl) ?_
          | refine XL.fa (by rfl) (by rfl) (by rfl) (by rfl) (by rfl) (by rfl) ?_
          | refine XL.ia1 (by rfl) (by rfl) (by rfl) (by rfl) (by rfl) (by rfl) (by rfl) (by omega) ?_
          | refine XL.ldr (by rfl) (by rfl) (by rfl) (by rfl) (by rfl) (by rfl) (by repeat (first | exact Sel.here | apply Sel.there)) (by assumption) ?_
          | refine XL.stl (by rfl) (by rfl) (by rfl) (by rfl) (by rfl) (by rfl) (by rfl) (by repeat (first | exact Sel.here | apply Sel.there)) (by rfl) ?_
          | refine XL.lenR (by rfl) (by rfl) (by rfl) (by rfl) (by rfl) (by rfl) (by rfl) (by first | exact fun w h => St.row (by repeat (first | exact Sel.here | apply Sel.there)) h | exact fun w h => St.rowF (by repeat (first | exact List.Mem.head _ | apply List.Mem.tail)) h | exact fun w h => Hd.rowF (by repeat (first | exact List.Mem.head _ | apply List.Mem.tail)) h) ?_
          | refine XL.iaR1 (by rfl) (by rfl) (by rfl) (by rfl) (by rfl) (by rfl) (by rfl) (by first | exact fun w h => St.row (by repeat (first | exact Sel.here | apply Sel.there)) h | exact fun w h => St.rowF (by repeat (first | exact List.Mem.head _ | apply List.Mem.tail)) h | exact fun w h => Hd.rowF (by repeat (first | exact List.Mem.head _ | apply List.Mem.tail)) h) (by omega) ?_
          | refine XL.iaR2 (by rfl) (by rfl) (by rfl) (by rfl) (by rfl) (by rfl) (by first | exact fun w h => St.row (by repeat (first | exact Sel.here | apply Sel.there)) h | exact fun w h => St.rowF (by repeat (first | exact List.Mem.head _ | apply List.Mem.tail)) h | exact fun w h => Hd.rowF (by repeat (first | exact List.Mem.head _ | apply List.Mem.tail)) h) (by rfl) (by omega) ?_
          | refine XL.faR (by rfl) (by rfl) (by rfl) (by rfl) (by rfl) (by rfl) (by first | exact fun w h => St.row (by repeat (first | exact Sel.here | apply Sel.there)) h | exact fun w h => St.rowF (by repeat (first | exact List.Mem.head _ | apply List.Mem.tail)) h | exact fun w h => Hd.rowF (by repeat (first | exact List.Mem.head _ | apply List.Mem.tail)) h) (by assumption) ?_
          | refine XL.ldR (by rfl) (by rfl) (by rfl) (by rfl) (by rfl) (by rfl) (by first | exact fun w h => St.row (by repeat (first | exact Sel.here | apply Sel.there)) h | exact fun w h => St.rowF (by repeat (first | exact List.Mem.head _ | apply List.Mem.tail)) h | exact fun w h => Hd.rowF (by repeat (first | exact List.Mem.head _ | apply List.Mem.tail)) h) (by assumption) ?_
          | refine XL.lenS (by rfl) (by rfl) (by rfl) (by rfl) (by rfl) (by rfl) (by rfl) ?_
          | refine XL.lenStr (by rfl) (by rfl) (by rfl) (by rfl) (by rfl) (by rfl) (by rfl) ?_
          | refine XL.succ (by rfl) (by rfl) (by rfl) (by rfl) (by rfl) (by rfl) (by omega) ?_
          | refine XL.addn (by rfl) (by rfl) (by rfl) (by rfl) (by rfl) (by rfl) (by omega) ?_
          | refine XL.add (by rfl) (by rfl) (by rfl) (by rfl) (by rfl) (by rfl) (by omega) ?_
          | refine XL.pred (by rfl) (by rfl) (by rfl) (by rfl) (by rfl) (by rfl) (by omega) ?_
          | refine XL.subn (by rfl) (by rfl) (by rfl) (by rfl) (by rfl) (by rfl) (by omega) ?_
          | refine XL.sub (by rfl) (by rfl) (by rfl) (by rfl) (by rfl) (by rfl) (by omega) ?_
          | refine XL.min2 (by rfl) (by rfl) (by rfl) (by rfl) (by rfl) (by rfl) ?_
          | refine XL.max2 (by rfl) (by rfl) (by rfl) (by rfl) (by rfl) (by rfl) ?_
          | refine XL.eqB (by rfl) (by rfl) (by rfl) (by rfl) (by rfl) (by rfl) (by rfl) ?_
          | refine XL.neB (by rfl) (by rfl) (by rfl) (by rfl) (by rfl) (by rfl) (by rfl) ?_
          | refine XL.psome (by rfl) (by rfl) (by rfl) (by rfl) (by rfl) (by rfl) (by rfl) ?_
          | refine XL.pnone (by rfl) (by rfl) (by rfl) (by rfl) (by rfl) (by rfl) (by rfl) ?_
          | refine XL.psome' (by rfl) (by rfl) (by rfl) (by rfl) (by rfl) (by rfl) (by rfl) ?_
          | refine XL.pnone' (by rfl) (by rfl) (by rfl) (by rfl) (by rfl) (by rfl) (by rfl) ?_
          | refine XL.conv64 (by rfl) (by rfl) (by rfl) (by rfl) (by rfl) (by rfl) (by rfl) (by omega) ?_))
      refine XA.tk 15 (by rfl) (by kernel_rfl) (by repeat (first | exact PF.body | apply PF.sq | apply PF.rd | apply PF.mt | apply PF.block)) ?_
      (repeat' (first
        | refine XQ.tk ?_
        | refine XL.ldh (by rfl) (by rfl) (by rfl) (by rfl) (by rfl) (by rfl) (by repeat (first | exact Sel.here | apply Sel.there)) (by rfl) ?_
        | refine XL.nil ?_
          | (refine XL.guard_d (by rfl) (by rfl) (fun h => ?_) (fun h => ?_) <;> try (first | (exfalso; omega) | exact absurd rfl h | (exfalso; simp at h <;> omega)))
          | refine XL.pures (by rfl) (by rfl) (by rfl) (by rfl) (by rfl) ?_
          | refine XL.not_d (by rfl) (by rfl) (by rfl) (by rfl) (by rfl) ?_
          | refine XL.pure 1 (by rfl) ?_
          | refine XL.fa0 (by rfl) (by rfl) (by rfl) (by rfl) (by rfl) (by rfl) ?_
          | refine XL.ld (by rfl) (by rfl) (by rfl) (by rfl) (by rfl) (by rfl) (by repeat (first | exact Sel.here | apply Sel.there)) (by rfl) ?_
          | refine XL.fa (by rfl) (by rfl) (by rfl) (by rfl) (by rfl) (by rfl) ?_
          | refine XL.ia1 (by rfl) (by rfl) (by rfl) (by rfl) (by rfl) (by rfl) (by rfl) (by omega) ?_
          | refine XL.ldr (by rfl) (by rfl) (by rfl) (by rfl) (by rfl) (by rfl) (by repeat (first | exact Sel.here | apply Sel.there)) (by assumption) ?_
          | refine XL.stl (by rfl) (by rfl) (by rfl) (by rfl) (by rfl) (by rfl) (by rfl) (by repeat (first | exact Sel.here | apply Sel.there)) (by rfl) ?_
          | refine XL.lenR (by rfl) (by rfl) (by rfl) (by rfl) (by rfl) (by rfl) (by rfl) (by first | exact fun w h => St.row (by repeat (first | exact Sel.here | apply Sel.there)) h | exact fun w h => St.rowF (by repeat (first | exact List.Mem.head _ | apply List.Mem.tail)) h | exact fun w h => Hd.rowF (by repeat (first | exact List.Mem.head _ | apply List.Mem.tail)) h) ?_
          | refine XL.iaR1 (by rfl) (by rfl) (by rfl) (by rfl) (by rfl) (by rfl) (by rfl) (by first | exact fun w h => St.row (by repeat (first | exact Sel.here | apply Sel.there)) h | exact fun w h => St.rowF (by repeat (first | exact List.Mem.head _ | apply List.Mem.tail)) h | exact fun w h => Hd.rowF (by repeat (first | exact List.Mem.head _ | apply List.Mem.tail)) h) (by omega) ?_
          | refine XL.iaR2 (by rfl) (by rfl) (by rfl) (by rfl) (by rfl) (by rfl) (by first | exact fun w h => St.row (by repeat (first | exact Sel.here | apply Sel.there)) h | exact fun w h => St.rowF (by repeat (first | exact List.Mem.head _ | apply List.Mem.tail)) h | exact fun w h => Hd.rowF (by repeat (first | exact List.Mem.head _ | apply List.Mem.tail)) h) (by rfl) (by omega) ?_
          | refine XL.faR (by rfl) (by rfl) (by rfl) (by rfl) (by rfl) (by rfl) (by first | exact fun w h => St.row (by repeat (first | exact Sel.here | apply Sel.there)) h | exact fun w h => St.rowF (by repeat (first | exact List.Mem.head _ | apply List.Mem.tail)) h | exact fun w h => Hd.rowF (by repeat (first | exact List.Mem.head _ | apply List.Mem.tail)) h) (by assumption) ?_
          | refine XL.ldR (by rfl) (by rfl) (by rfl) (by rfl) (by rfl) (by rfl) (by first | exact fun w h => St.row (by repeat (first | exact Sel.here | apply Sel.there)) h | exact fun w h => St.rowF (by repeat (first | exact List.Mem.head _ | apply List.Mem.tail)) h | exact fun w h => Hd.rowF (by repeat (first | exact List.Mem.head _ | apply List.Mem.tail)) h) (by assumption) ?_
          | refine XL.lenS (by rfl) (by rfl) (by rfl) (by rfl) (by rfl) (by rfl) (by rfl) ?_
          | refine XL.lenStr (by rfl) (by rfl) (by rfl) (by rfl) (by rfl) (by rfl) (by rfl) ?_
          | refine XL.succ (by rfl) (by rfl) (by rfl) (by rfl) (by rfl) (by rfl) (by omega) ?_
          | refine XL.addn (by rfl) (by rfl) (by rfl) (by rfl) (by rfl) (by rfl) (by omega) ?_
          | refine XL.add (by rfl) (by rfl) (by rfl) (by rfl) (by rfl) (by rfl) (by omega) ?_
          | refine XL.pred (by rfl) (by rfl) (by rfl) (by rfl) (by rfl) (by rfl) (by omega) ?_
          | refine XL.subn (by rfl) (by rfl) (by rfl) (by rfl) (by rfl) (by rfl) (by omega) ?_
          | refine XL.sub (by rfl) (by rfl) (by rfl) (by rfl) (by rfl) (by rfl) (by omega) ?_
          | refine XL.min2 (by rfl) (by rfl) (by rfl) (by rfl) (by rfl) (by rfl) ?_
          | refine XL.max2 (by rfl) (by rfl) (by rfl) (by rfl) (by rfl) (by rfl) ?_
          | refine XL.eqB (by rfl) (by rfl) (by rfl) (by rfl) (by rfl) (by rfl) (by rfl) ?_
          | refine XL.neB (by rfl) (by rfl) (by rfl) (by rfl) (by rfl) (by rfl) (by rfl) ?_
          | refine XL.psome (by rfl) (by rfl) (by rfl) (by rfl) (by rfl) (by rfl) (by rfl) ?_
          | refine XL.pnone (by rfl) (by rfl) (by rfl) (by rfl) (by rfl) (by rfl) (by rfl) ?_
          | refine XL.psome' (by rfl) (by rfl) (by rfl) (by rfl) (by rfl) (by rfl) (by rfl) ?_
          | refine XL.pnone' (by rfl) (by rfl) (by rfl) (by rfl) (by rfl) (by rfl) (by rfl) ?_
          | refine XL.conv64 (by rfl) (by rfl) (by rfl) (by rfl) (by rfl) (by rfl) (by rfl) (by omega) ?_))
      refine XA.tk 16 (by rfl) (by kernel_rfl) (by repeat (first | exact PF.body | apply PF.sq | apply PF.rd | apply PF.mt | apply PF.block)) ?_
      (repeat' (first
        | refine XQ.tk ?_
        | refine XL.ldh (by rfl) (by rfl) (by rfl) (by rfl) (by rfl) (by rfl) (by repeat (first | exact Sel.here | apply Sel.there)) (by rfl) ?_
        | refine XL.nil ?_
          | (refine XL.guard_d (by rfl) (by rfl) (fun h => ?_) (fun h => ?_) <;> try (first | (exfalso; omega) | exact absurd rfl h | (exfalso; simp at h <;> omega)))
          | refine XL.pures (by rfl) (by rfl) (by rfl) (by rfl) (by rfl) ?_
          | refine XL.not_d (by rfl) (by rfl) (by rfl) (by rfl) (by rfl) ?_
          | refine XL.pure 1 (by rfl) ?_
          | refine XL.fa0 (by rfl) (by rfl) (by rfl) (by rfl) (by rfl) (by rfl) ?_
          | refine XL.ld (by rfl) (by rfl) (by rfl) (by rfl) (by rfl) (by rfl) (by repeat (first | exact Sel.here | apply Sel.there)) (by rfl) ?_
          | refine XL.fa (by rfl) (by rfl) (by rfl) (by rfl) (by rfl) (by rfl) ?_
          | refine XL.ia1 (by rfl) (by rfl) (by rfl) (by rfl) (by rfl) (by rfl) (by rfl) (by omega) ?_
          | refine XL.ldr (by rfl) (by rfl) (by rfl) (by rfl) (by rfl) (by rfl) (by repeat (first | exact Sel.here | apply Sel.there)) (by assumption) ?_
          | refine XL.stl (by rfl) (by rfl) (by rfl) (by rfl) (by rfl) (by rfl) (by rfl) (by repeat (first | exact Sel.here | apply Sel.there)) (by rfl) ?_
          | refine XL.lenR (by rfl) (by rfl) (by rfl) (by rfl) (by rfl) (by rfl) (by rfl) (by first | exact fun w h => St.row (by repeat (first | exact Sel.here | apply Sel.there)) h | exact fun w h => St.rowF (by repeat (first | exact List.Mem.head _ | apply List.Mem.tail)) h | exact fun w h => Hd.rowF (by repeat (first | exact List.Mem.head _ | apply List.Mem.tail)) h) ?_
          | refine XL.iaR1 (by rfl) (by rfl) (by rfl) (by rfl) (by rfl) (by rfl) (by rfl) (by first | exact fun w h => St.row (by repeat (first | exact Sel.here | apply Sel.there)) h | exact fun w h => St.rowF (by repeat (first | exact List.Mem.head _ | apply List.Mem.tail)) h | exact fun w h => Hd.rowF (by repeat (first | exact List.Mem.head _ | apply List.Mem.tail)) h) (by omega) ?_
          | refine XL.iaR2 (by rfl) (by rfl) (by rfl) (by rfl) (by rfl) (by rfl) (by first | exact fun w h => St.row (by repeat (first | exact Sel.here | apply Sel.there)) h | exact fun w h => St.rowF (by repeat (first | exact List.Mem.head _ | apply List.Mem.tail)) h | exact fun w h => Hd.rowF (by repeat (first | exact List.Mem.head _ | apply List.Mem.tail)) h) (by rfl) (by omega) ?_
          | refine XL.faR (by rfl) (by rfl) (by rfl) (by rfl) (by rfl) (by rfl) (by first | exact fun w h => St.row (by repeat (first | exact Sel.here | apply Sel.there)) h | exact fun w h => St.rowF (by repeat (first | exact List.Mem.head _ | apply List.Mem.tail)) h | exact fun w h => Hd.rowF (by repeat (first | exact List.Mem.head _ | apply List.Mem.tail)) h) (by assumption) ?_
          | refine XL.ldR (by rfl) (by rfl) (by rfl) (by rfl) (by rfl) (by rfl) (by first | exact fun w h => St.row (by repeat (first | exact Sel.here | apply Sel.there)) h | exact fun w h => St.rowF (by repeat (first | exact List.Mem.head _ | apply List.Mem.tail)) h | exact fun w h => Hd.rowF (by repeat (first | exact List.Mem.head _ | apply List.Mem.tail)) h) (by assumption) ?_
          | refine XL.lenS (by rfl) (by rfl) (by rfl) (by rfl) (by rfl) (by rfl) (by rfl) ?_
          | refine XL.lenStr (by rfl) (by rfl) (by rfl) (by rfl) (by rfl) (by rfl) (by rfl) ?_
          | refine XL.succ (by rfl) (by rfl) (by rfl) (by rfl) (by rfl) (by rfl) (by omega) ?_
          | refine XL.addn (by rfl) (by rfl) (by rfl) (by rfl) (by rfl) (by rfl) (by omega) ?_
          | refine XL.add (by rfl) (by rfl) (by rfl) (by rfl) (by rfl) (by rfl) (by omega) ?_
          | refine XL.pred (by rfl) (by rfl) (by rfl) (by rfl) (by rfl) (by rfl) (by omega) ?_
          | refine XL.subn (by rfl) (by rfl) (by rfl) (by rfl) (by rfl) (by rfl) (by omega) ?_
          | refine XL.sub (by rfl) (by rfl) (by rfl) (by rfl) (by rfl) (by rfl) (by omega) ?_
          | refine XL.min2 (by rfl) (by rfl) (by rfl) (by rfl) (by rfl) (by rfl) ?_
          | refine XL.max2 (by rfl) (by rfl) (by rfl) (by rfl) (by rfl) (by rfl) ?_
          | refine XL.eqB (by rfl) (by rfl) (by rfl) (by rfl) (by rfl) (by rfl) (by rfl) ?_
          | refine XL.neB (by rfl) (by rfl) (by rfl) (by rfl) (by rfl) (by rfl) (by rfl) ?_
          | refine XL.psome (by rfl) (by rfl) (by rfl) (by rfl) (by rfl) (by rfl) (by rfl) ?_
          | refine XL.pnone (by rfl) (by rfl) (by rfl) (by rfl) (by rfl) (by rfl) (by rfl) ?_
          | refine XL.psome' (by rfl) (by rfl) (by rfl) (by rfl) (by rfl) (by rfl) (by rfl) ?_
          | refine XL.pnone' (by rfl) (by rfl) (by rfl) (by rfl) (by rfl) (by rfl) (by rfl) ?_
          | refine XL.conv64 (by rfl) (by rfl) (by rfl) (by rfl) (by rfl) (by rfl) (by rfl) (by omega) ?_))
      refine XA.tk 17 (by rfl) (by kernel_rfl) (by repeat (first | exact PF.body | apply PF.sq | apply PF.rd | apply PF.mt | apply PF.block)) ?_
      (repeat' (first
        | refine XQ.tk ?_
        | refine XL.ldh (by rfl) (by rfl) (by rfl) (by rfl) (by rfl) (by rfl) (by repeat (first | exact Sel.here | apply Sel.there)) (by rfl) ?_
        | refine XL.nil ?_
          | (refine XL.guard_d (by rfl) (by rfl) (fun h => ?_) (fun h => ?_) <;> try (first | (exfalso; omega) | exact absurd rfl h | (exfalso; simp at h <;> omega)))
          | refine XL.pures (by rfl) (by rfl) (by rfl) (by rfl) (by rfl) ?_
          | refine XL.not_d (by rfl) (by rfl) (by rfl) (by rfl) (by rfl) ?_
          | refine XL.pure 1 (by rfl) ?_
          | refine XL.fa0 (by rfl) (by rfl) (by rfl) (by rfl) (by rfl) (by rfl) ?_
          | refine XL.ld (by rfl) (by rfl) (by rfl) (by rfl) (by rfl) (by rfl) (by repeat (first | exact Sel.here | apply Sel.there)) (by rfl) ?_
          | refine XL.fa (by rfl) (by rfl) (by rfl) (by rfl) (by rfl) (by rfl) ?_
          | refine XL.ia1 (by rfl) (by rfl) (by rfl) (by rfl) (by rfl) (by rfl) (by rfl) (by omega) ?_
          | refine XL.ldr (by rfl) (by rfl) (by rfl) (by rfl) (by rfl) (by rfl) (by repeat (first | exact Sel.here | apply Sel.there)) (by assumption) ?_
          | refine XL.stl (by rfl) (by rfl) (by rfl) (by rfl) (by rfl) (by rfl) (by rfl) (by repeat (first | exact Sel.here | apply Sel.there)) (by rfl) ?_
          | refine XL.lenR (by rfl) (by rfl) (by rfl) (by rfl) (by rfl) (by rfl) (by rfl) (by first | exact fun w h => St.row (by repeat (first | exact Sel.here | apply Sel.there)) h | exact fun w h => St.rowF (by repeat (first | exact List.Mem.head _ | apply List.Mem.tail)) h | exact fun w h => Hd.rowF (by repeat (first | exact List.Mem.head _ | apply List.Mem.tail)) h) ?_
          | refine XL.iaR1 (by rfl) (by rfl) (by rfl) (by rfl) (by rfl) (by rfl) (by rfl) (by first | exact fun w h => St.row (by repeat (first | exact Sel.here | apply Sel.there)) h | exact fun w h => St.rowF (by repeat (first | exact List.Mem.head _ | apply List.Mem.tail)) h | exact fun w h => Hd.rowF (by repeat (first | exact List.Mem.head _ | apply List.Mem.tail)) h) (by omega) ?_
          | refine XL.iaR2 (by rfl) (by rfl) (by rfl) (by rfl) (by rfl) (by rfl) (by first | exact fun w h => St.row (by repeat (first | exact Sel.here | apply Sel.there)) h | exact fun w h => St.rowF (by repeat (first | exact List.Mem.head _ | apply List.Mem.tail)) h | exact fun w h => Hd.rowF (by repeat (first | exact List.Mem.head _ | apply List.Mem.tail)) h) (by rfl) (by omega) ?_
          | refine XL.faR (by rfl) (by rfl) (by rfl) (by rfl) (by rfl) (by rfl) (by first | exact fun w h => St.row (by repeat (first | exact Sel.here | apply Sel.there)) h | exact fun w h => St.rowF (by repeat (first | exact List.Mem.head _ | apply List.Mem.tail)) h | exact fun w h => Hd.rowF (by repeat (first | exact List.Mem.head _ | apply List.Mem.tail)) h) (by assumption) ?_
          | refine XL.ldR (by rfl) (by rfl) (by rfl) (by rfl) (by rfl) (by rfl) (by first | exact fun w h => St.row (by repeat (first | exact Sel.here | apply Sel.there)) h | exact fun w h => St.rowF (by repeat (first | exact List.Mem.head _ | apply List.Mem.tail)) h | exact fun w h => Hd.rowF (by repeat (first | exact List.Mem.head _ | apply List.Mem.tail)) h) (by assumption) ?_
          | refine XL.lenS (by rfl) (by rfl) (by rfl) (by rfl) (by rfl) (by rfl) (by rfl) ?_
          | refine XL.lenStr (by rfl) (by rfl) (by rfl) (by rfl) (by rfl) (by rfl) (by rfl) ?_
          | refine XL.succ (by rfl) (by rfl) (by rfl) (by rfl) (by rfl) (by rfl) (by omega) ?_
          | refine XL.addn (by rfl) (by rfl) (by rfl) (by rfl) (by rfl) (by rfl) (by omega) ?_
          | refine XL.add (by rfl) (by rfl) (by rfl) (by rfl) (by rfl) (by rfl) (by omega) ?_
          | refine XL.pred (by rfl) (by rfl) (by rfl) (by rfl) (by rfl) (by rfl) (by omega) ?_
          | refine XL.subn (by rfl) (by rfl) (by rfl) (by rfl) (by rfl) (by rfl) (by omega) ?_
          | refine XL.sub (by rfl) (by rfl) (by rfl) (by rfl) (by rfl) (by rfl) (by omega) ?_
          | refine XL.min2 (by rfl) (by rfl) (by rfl) (by rfl) (by rfl) (by rfl) ?_
          | refine XL.max2 (by rfl) (by rfl) (by rfl) (by rfl) (by rfl) (by rfl) ?_
          | refine XL.eqB (by rfl) (by rfl) (by rfl) (by rfl) (by rfl) (by rfl) (by rfl) ?_
          | refine XL.neB (by rfl) (by rfl) (by rfl) (by rfl) (by rfl) (by rfl) (by rfl) ?_
          | refine XL.psome (by rfl) (by rfl) (by rfl) (by rfl) (by rfl) (by rfl) (by rfl) ?_
          | refine XL.pnone (by rfl) (by rfl) (by rfl) (by rfl) (by rfl) (by rfl) (by rfl) ?_
          | refine XL.psome' (by rfl) (by rfl) (by rfl) (by rfl) (by rfl) (by rfl) (by rfl) ?_
          | refine XL.pnone' (by rfl) (by rfl) (by rfl) (by rfl) (by rfl) (by rfl) (by rfl) ?_
          | refine XL.conv64 (by rfl) (by rfl) (by rfl) (by rfl) (by rfl) (by rfl) (by rfl) (by omega) ?_))
      refine XA.an1 18 (by decide +kernel) (by rfl) ?_
      refine XL.sto (by rfl) (by rfl) (by rfl) (by rfl) (by rfl) (by rfl) (by rfl) (by repeat (first | exact Sel.here | apply Sel.there)) (by simp [nats_size]; omega) s1 ?_
      (repeat' (first
        | refine XQ.an (fun w h => h.hd (by repeat' (first | exact Sels.nil | exact Sel.here | apply Sels.cons | apply Sel.there))) ?_
        | refine XL.nil ?_
          | (refine XL.guard_d (by rfl) (by rfl) (fun h => ?_) (fun h => ?_) <;> try (first | (exfalso; omega) | exact absurd rfl h | (exfalso; simp at h <;> omega)))
          | refine XL.pures (by rfl) (by rfl) (by rfl) (by rfl) (by rfl) ?_
          | refine XL.not_d (by rfl) (by rfl) (by rfl) (by rfl) (by rfl) ?_
          | refine XL.pure 1 (by rfl) ?_
          | refine XL.fa0 (by rfl) (by rfl) (by rfl) (by rfl) (by rfl) (by rfl) ?_
          | refine XL.ld (by rfl) (by rfl) (by rfl) (by rfl) (by rfl) (by rfl) (by repeat (first | exact Sel.here | apply Sel.there)) (by rfl) ?_
          | refine XL.fa (by rfl) (by rfl) (by rfl) (by rfl) (by rfl) (by rfl) ?_
          | refine XL.ia1 (by rfl) (by rfl) (by rfl) (by rfl) (by rfl) (by rfl) (by rfl) (by omega) ?_
          | refine XL.ldr (by rfl) (by rfl) (by rfl) (by rfl) (by rfl) (by rfl) (by repeat (first | exact Sel.here | apply Sel.there)) (by assumption) ?_
          | refine XL.stl (by rfl) (by rfl) (by rfl) (by rfl) (by rfl) (by rfl) (by rfl) (by repeat (first | exact Sel.here | apply Sel.there)) (by rfl) ?_
          | refine XL.lenR (by rfl) (by rfl) (by rfl) (by rfl) (by rfl) (by rfl) (by rfl) (by first | exact fun w h => St.row (by repeat (first | exact Sel.here | apply Sel.there)) h | exact fun w h => St.rowF (by repeat (first | exact List.Mem.head _ | apply List.Mem.tail)) h | exact fun w h => Hd.rowF (by repeat (first | exact List.Mem.head _ | apply List.Mem.tail)) h) ?_
          | refine XL.iaR1 (by rfl) (by rfl) (by rfl) (by rfl) (by rfl) (by rfl) (by rfl) (by first | exact fun w h => St.row (by repeat (first | exact Sel.here | apply Sel.there)) h | exact fun w h => St.rowF (by repeat (first | exact List.Mem.head _ | apply List.Mem.tail)) h | exact fun w h => Hd.rowF (by repeat (first | exact List.Mem.head _ | apply List.Mem.tail)) h) (by omega) ?_
          | refine XL.iaR2 (by rfl) (by rfl) (by rfl) (by rfl) (by rfl) (by rfl) (by first | exact fun w h => St.row (by repeat (first | exact Sel.here | apply Sel.there)) h | exact fun w h => St.rowF (by repeat (first | exact List.Mem.head _ | apply List.Mem.tail)) h | exact fun w h => Hd.rowF (by repeat (first | exact List.Mem.head _ | apply List.Mem.tail)) h) (by rfl) (by omega) ?_
          | refine XL.faR (by rfl) (by rfl) (by rfl) (by rfl) (by rfl) (by rfl) (by first | exact fun w h => St.row (by repeat (first | exact Sel.here | apply Sel.there)) h | exact fun w h => St.rowF (by repeat (first | exact List.Mem.head _ | apply List.Mem.tail)) h | exact fun w h => Hd.rowF (by repeat (first | exact List.Mem.head _ | apply List.Mem.tail)) h) (by assumption) ?_
          | refine XL.ldR (by rfl) (by rfl) (by rfl) (by rfl) (by rfl) (by rfl) (by first | exact fun w h => St.row (by repeat (first | exact Sel.here | apply Sel.there)) h | exact fun w h => St.rowF (by repeat (first | exact List.Mem.head _ | apply List.Mem.tail)) h | exact fun w h => Hd.rowF (by repeat (first | exact List.Mem.head _ | apply List.Mem.tail)) h) (by assumption) ?_
          | refine XL.lenS (by rfl) (by rfl) (by rfl) (by rfl) (by rfl) (by rfl) (by rfl) ?_
          | refine XL.lenStr (by rfl) (by rfl) (by rfl) (by rfl) (by rfl) (by rfl) (by rfl) ?_
          | refine XL.succ (by rfl) (by rfl) (by rfl) (by rfl) (by rfl) (by rfl) (by omega) ?_
          | refine XL.addn (by rfl) (by rfl) (by rfl) (by rfl) (by rfl) (by rfl) (by omega) ?_
          | refine XL.add (by rfl) (by rfl) (by rfl) (by rfl) (by rfl) (by rfl) (by omega) ?_
          | refine XL.pred (by rfl) (by rfl) (by rfl) (by rfl) (by rfl) (by rfl) (by omega) ?_
          | refine XL.subn (by rfl) (by rfl) (by rfl) (by rfl) (by rfl) (by rfl) (by omega) ?_
          | refine XL.sub (by rfl) (by rfl) (by rfl) (by rfl) (by rfl) (by rfl) (by omega) ?_
          | refine XL.min2 (by rfl) (by rfl) (by rfl) (by rfl) (by rfl) (by rfl) ?_
          | refine XL.max2 (by rfl) (by rfl) (by rfl) (by rfl) (by rfl) (by rfl) ?_
          | refine XL.eqB (by rfl) (by rfl) (by rfl) (by rfl) (by rfl) (by rfl) (by rfl) ?_
          | refine XL.neB (by rfl) (by rfl) (by rfl) (by rfl) (by rfl) (by rfl) (by rfl) ?_
          | refine XL.psome (by rfl) (by rfl) (by rfl) (by rfl) (by rfl) (by rfl) (by rfl) ?_
          | refine XL.pnone (by rfl) (by rfl) (by rfl) (by rfl) (by rfl) (by rfl) (by rfl) ?_
          | refine XL.psome' (by rfl) (by rfl) (by rfl) (by rfl) (by rfl) (by rfl) (by rfl) ?_
          | refine XL.pnone' (by rfl) (by rfl) (by rfl) (by rfl) (by rfl) (by rfl) (by rfl) ?_
          | refine XL.conv64 (by rfl) (by rfl) (by rfl) (by rfl) (by rfl) (by rfl) (by rfl) (by omega) ?_))
      refine XA.tk 19 (by rfl) (by kernel_rfl) (by repeat (first | exact PF.body | apply PF.sq | apply PF.rd | apply PF.mt | apply PF.block)) ?_
      (repeat' (first
        | refine XQ.tk ?_
        | refine XL.ldh (by rfl) (by rfl) (by rfl) (by rfl) (by rfl) (by rfl) (by repeat (first | exact Sel.here | apply Sel.there)) (by rfl) ?_
        | refine XL.nil ?_
          | (refine XL.guard_d (by rfl) (by rfl) (fun h => ?_) (fun h => ?_) <;> try (first | (exfalso; omega) | exact absurd rfl h | (exfalso; simp at h <;> omega)))
          | refine XL.pures (by rfl) (by rfl) (by rfl) (by rfl) (by rfl) ?_
          | refine XL.not_d (by rfl) (by rfl) (by rfl) (by rfl) (by rfl) ?_
          | refine XL.pure 1 (by rfl) ?_
          | refine XL.fa0 (by rfl) (by rfl) (by rfl) (by rfl) (by rfl) (by rfl) ?_
          | refine XL.ld (by rfl) (by rfl) (by rfl) (by rfl) (by rfl) (by rfl) (by repeat (first | exact Sel.here | apply Sel.there)) (by rfl) ?_
          | refine XL.fa (by rfl) (by rfl) (by rfl) (by rfl) (by rfl) (by rfl) ?_
          | refine XL.ia1 (by rfl) (by rfl) (by rfl) (by rfl) (by rfl) (by rfl) (by rfl) (by omega) ?_
          | refine XL.ldr (by rfl) (by rfl) (by rfl) (by rfl) (by rfl) (by rfl) (by repeat (first | exact Sel.here | apply Sel.there)) (by assumption) ?_
          | refine XL.stl (by rfl) (by rfl) (by rfl) (by rfl) (by rfl) (by rfl) (by rfl) (by repeat (first | exact Sel.here | apply Sel.there)) (by rfl) ?_
          | refine XL.lenR (by rfl) (by rfl) (by rfl) (by rfl) (by rfl) (by rfl) (by rfl) (by first | exact fun w h => St.row (by repeat (first | exact Sel.here | apply Sel.there)) h | exact fun w h => St.rowF (by repeat (first | exact List.Mem.head _ | apply List.Mem.tail)) h | exact fun w h => Hd.rowF (by repeat (first | exact List.Mem.head _ | apply List.Mem.tail)) h) ?_
          | refine XL.iaR1 (by rfl) (by rfl) (by rfl) (by rfl) (by rfl) (by rfl) (by rfl) (by first | exact fun w h => St.row (by repeat (first | exact Sel.here | apply Sel.there)) h | exact fun w h => St.rowF (by repeat (first | exact List.Mem.head _ | apply List.Mem.tail)) h | exact fun w h => Hd.rowF (by repeat (first | exact List.Mem.head _ | apply List.Mem.tail)) h) (by omega) ?_
          | refine XL.iaR2 (by rfl) (by rfl) (by rfl) (by rfl) (by rfl) (by rfl) (by first | exact fun w h => St.row (by repeat (first | exact Sel.here | apply Sel.there)) h | exact fun w h => St.rowF (by repeat (first | exact List.Mem.head _ | apply List.Mem.tail)) h | exact fun w h => Hd.rowF (by repeat (first | exact List.Mem.head _ | apply List.Mem.tail)) h) (by rfl) (by omega) ?_
          | refine XL.faR (by rfl) (by rfl) (by rfl) (by rfl) (by rfl) (by rfl) (by first | exact fun w h => St.row (by repeat (first | exact Sel.here | apply Sel.there)) h | exact fun w h => St.rowF (by repeat (first | exact List.Mem.head _ | apply List.Mem.tail)) h | exact fun w h => Hd.rowF (by repeat (first | exact List.Mem.head _ | apply List.Mem.tail)) h) (by assumption) ?_
          | refine XL.ldR (by rfl) (by rfl) (by rfl) (by rfl) (by rfl) (by rfl) (by first | exact fun w h => St.row (by repeat (first | exact Sel.here | apply Sel.there)) h | exact fun w h => St.rowF (by repeat (first | exact List.Mem.head _ | apply List.Mem.tail)) h | exact fun w h => Hd.rowF (by repeat (first | exact List.Mem.head _ | apply List.Mem.tail)) h) (by assumption) ?_
          | refine XL.lenS (by rfl) (by rfl) (by rfl) (by rfl) (by rfl) (by rfl) (by rfl) ?_
          | refine XL.lenStr (by rfl) (by rfl) (by rfl) (by rfl) (by rfl) (by rfl) (by rfl) ?_
          | refine XL.succ (by rfl) (by rfl) (by rfl) (by rfl) (by rfl) (by rfl) (by omega) ?_
          | refine XL.addn (by rfl) (by rfl) (by rfl) (by rfl) (by rfl) (by rfl) (by omega) ?_
          | refine XL.add (by rfl) (by rfl) (by rfl) (by rfl) (by rfl) (by rfl) (by omega) ?_
          | refine XL.pred (by rfl) (by rfl) (by rfl) (by rfl) (by rfl) (by rfl) (by omega) ?_
          | refine XL.subn (by rfl) (by rfl) (by rfl) (by rfl) (by rfl) (by rfl) (by omega) ?_
          | refine XL.sub (by rfl) (by rfl) (by rfl) (by rfl) (by rfl) (by rfl) (by omega) ?_
          | refine XL.min2 (by rfl) (by rfl) (by rfl) (by rfl) (by rfl) (by rfl) ?_
          | refine XL.max2 (by rfl) (by rfl) (by rfl) (by rfl) (by rfl) (by rfl) ?_
          | refine XL.eqB (by rfl) (by rfl) (by rfl) (by rfl) (by rfl) (by rfl) (by rfl) ?_
          | refine XL.neB (by rfl) (by rfl) (by rfl) (by rfl) (by rfl) (by rfl) (by rfl) ?_
          | refine XL.psome (by rfl) (by rfl) (by rfl) (by rfl) (by rfl) (by rfl) (by rfl) ?_
          | refine XL.pnone (by rfl) (by rfl) (by rfl) (by rfl) (by rfl) (by rfl) (by rfl) ?_
          | refine XL.psome' (by rfl) (by rfl) (by rfl) (by rfl) (by rfl) (by rfl) (by rfl) ?_
          | refine XL.pnone' (by rfl) (by rfl) (by rfl) (by rfl) (by rfl) (by rfl) (by rfl) ?_
          | refine XL.conv64 (by rfl) (by rfl) (by rfl) (by rfl) (by rfl) (by rfl) (by rfl) (by omega) ?_))
      refine XA.an1 20 (by decide +kernel) (by rfl) ?_
      refine XL.sto (by rfl) (by rfl) (by rfl) (by rfl) (by rfl) (by rfl) (by rfl) (by repeat (first | exact Sel.here | apply Sel.there)) (by simp [nats_size]; omega) s2 ?_
      (repeat' (first
        | refine XQ.an (fun w h => h.hd (by repeat' (first | exact Sels.nil | exact Sel.here | apply Sels.cons | apply Sel.there))) ?_
        | refine XL.nil ?_
          | (refine XL.guard_d (by rfl) (by rfl) (fun h => ?_) (fun h => ?_) <;> try (first | (exfalso; omega) | exact absurd rfl h | (exfalso; simp at h <;> omega)))
          | refine XL.pures (by rfl) (by rfl) (by rfl) (by rfl) (by rfl) ?_
          | refine XL.not_d (by rfl) (by rfl) (by rfl) (by rfl) (by rfl) ?_
          | refine XL.pure 1 (by rfl) ?_
          | refine XL.fa0 (by rfl) (by rfl) (by rfl) (by rfl) (by rfl) (by rfl) ?_
          | refine XL.ld (by rfl) (by rfl) (by rfl) (by rfl) (by rfl) (by rfl) (by repeat (first | exact Sel.here | apply Sel.there)) (by rfl) ?_
          | refine XL.fa (by rfl) (by rfl) (by rfl) (by rfl) (by rfl) (by rfl) ?_
          | refine XL.ia1 (by rfl) (by rfl) (by rfl) (by rfl) (by rfl) (by rfl) (by rfl) (by omega) ?_
          | refine XL.ldr (by rfl) (by rfl) (by rfl) (by rfl) (by rfl) (by rfl) (by repeat (first | exact Sel.here | apply Sel.there)) (by assumption) ?_
          | refine XL.stl (by rfl) (by rfl) (by rfl) (by rfl) (by rfl) (by rfl) (by rfl) (by repeat (first | exact Sel.here | apply Sel.there)) (by rfl) ?_
          | refine XL.lenR (by rfl) (by rfl) (by rfl) (by rfl) (by rfl) (by rfl) (by rfl) (by first | exact fun w h => St.row (by repeat (first | exact Sel.here | apply Sel.there)) h | exact fun w h => St.rowF (by repeat (first | exact List.Mem.head _ | apply List.Mem.tail)) h | exact fun w h => Hd.rowF (by repeat (first | exact List.Mem.head _ | apply List.Mem.tail)) h) ?_
          | refine XL.iaR1 (by rfl) (by rfl) (by rfl) (by rfl) (by rfl) (by rfl) (by rfl) (by first | exact fun w h => St.row (by repeat (first | exact Sel.here | apply Sel.there)) h | exact fun w h => St.rowF (by repeat (first | exact List.Mem.head _ | apply List.Mem.tail)) h | exact fun w h => Hd.rowF (by repeat (first | exact List.Mem.head _ | apply List.Mem.tail)) h) (by omega) ?_
          | refine XL.iaR2 (by rfl) (by rfl) (by rfl) (by rfl) (by rfl) (by rfl) (by first | exact fun w h => St.row (by repeat (first | exact Sel.here | apply Sel.there)) h | exact fun w h => St.rowF (by repeat (first | exact List.Mem.head _ | apply List.Mem.tail)) h | exact fun w h => Hd.rowF (by repeat (first | exact List.Mem.head _ | apply List.Mem.tail)) h) (by rfl) (by omega) ?_
          | refine XL.faR (by rfl) (by rfl) (by rfl) (by rfl) (by rfl) (by rfl) (by first | exact fun w h => St.row (by repeat (first | exact Sel.here | apply Sel.there)) h | exact fun w h => St.rowF (by repeat (first | exact List.Mem.head _ | apply List.Mem.tail)) h | exact fun w h => Hd.rowF (by repeat (first | exact List.Mem.head _ | apply List.Mem.tail)) h) (by assumption) ?_
          | refine XL.ldR (by rfl) (by rfl) (by rfl) (by rfl) (by rfl) (by rfl) (by first | exact fun w h => St.row (by repeat (first | exact Sel.here | apply Sel.there)) h | exact fun w h => St.rowF (by repeat (first | exact List.Mem.head _ | apply List.Mem.tail)) h | exact fun w h => Hd.rowF (by repeat (first | exact List.Mem.head _ | apply List.Mem.tail)) h) (by assumption) ?_
          | refine XL.lenS (by rfl) (by rfl) (by rfl) (by rfl) (by rfl) (by rfl) (by rfl) ?_
          | refine XL.lenStr (by rfl) (by rfl) (by rfl) (by rfl) (by rfl) (by rfl) (by rfl) ?_
          | refine XL.succ (by rfl) (by rfl) (by rfl) (by rfl) (by rfl) (by rfl) (by omega) ?_
          | refine XL.addn (by rfl) (by rfl) (by rfl) (by rfl) (by rfl) (by rfl) (by omega) ?_
          | refine XL.add (by rfl) (by rfl) (by rfl) (by rfl) (by rfl) (by rfl) (by omega) ?_
          | refine XL.pred (by rfl) (by rfl) (by rfl) (by rfl) (by rfl) (by rfl) (by omega) ?_
          | refine XL.subn (by rfl) (by rfl) (by rfl) (by rfl) (by rfl) (by rfl) (by omega) ?_
          | refine XL.sub (by rfl) (by rfl) (by rfl) (by rfl) (by rfl) (by rfl) (by omega) ?_
          | refine XL.min2 (by rfl) (by rfl) (by rfl) (by rfl) (by rfl) (by rfl) ?_
          | refine XL.max2 (by rfl) (by rfl) (by rfl) (by rfl) (by rfl) (by rfl) ?_
          | refine XL.eqB (by rfl) (by rfl) (by rfl) (by rfl) (by rfl) (by rfl) (by rfl) ?_
          | refine XL.neB (by rfl) (by rfl) (by rfl) (by rfl) (by rfl) (by rfl) (by rfl) ?_
          | refine XL.psome (by rfl) (by rfl) (by rfl) (by rfl) (by rfl) (by rfl) (by rfl) ?_
          | refine XL.pnone (by rfl) (by rfl) (by rfl) (by rfl) (by rfl) (by rfl) (by rfl) ?_
          | refine XL.psome' (by rfl) (by rfl) (by rfl) (by rfl) (by rfl) (by rfl) (by rfl) ?_
          | refine XL.pnone' (by rfl) (by rfl) (by rfl) (by rfl) (by rfl) (by rfl) (by rfl) ?_
          | refine XL.conv64 (by rfl) (by rfl) (by rfl) (by rfl) (by rfl) (by rfl) (by rfl) (by omega) ?_))
      refine XA.tk 21 (by rfl) (by kernel_rfl) (by repeat (first | exact PF.body | apply PF.sq | apply PF.rd | apply PF.mt | apply PF.block)) ?_
      (repeat' (first
        | refine XQ.tk ?_
        | refine XL.ldh (by rfl) (by rfl) (by rfl) (by rfl) (by rfl) (by rfl) (by repeat (first | exact Sel.here | apply Sel.there)) (by rfl) ?_
        | refine XL.nil ?_
          | (refine XL.guard_d (by rfl) (by rfl) (fun h => ?_) (fun h => ?_) <;> try (first | (exfalso; omega) | exact absurd rfl h | (exfalso; simp at h <;> omega)))
          | refine XL.pures (by rfl) (by rfl) (by rfl) (by rfl) (by rfl) ?_
          | refine XL.not_d (by rfl) (by rfl) (by rfl) (by rfl) (by rfl) ?_
          | refine XL.pure 1 (by rfl) ?_
          | refine XL.fa0 (by rfl) (by rfl) (by rfl) (by rfl) (by rfl) (by rfl) ?_
          | refine XL.ld (by rfl) (by rfl) (by rfl) (by rfl) (by rfl) (by rfl) (by repeat (first | exact Sel.here | apply Sel.there)) (by rfl) ?_
          | refine XL.fa (by rfl) (by rfl) (by rfl) (by rfl) (by rfl) (by rfl) ?_
          | refine XL.ia1 (by rfl) (by rfl) (by rfl) (by rfl) (by rfl) (by rfl) (by rfl) (by omega) ?_
          | refine XL.ldr (by rfl) (by rfl) (by rfl) (by rfl) (by rfl) (by rfl) (by repeat (first | exact Sel.here | apply Sel.there)) (by assumption) ?_
          | refine XL.stl (by rfl) (by rfl) (by rfl) (by rfl) (by rfl) (by rfl) (by rfl) (by repeat (first | exact Sel.here | apply Sel.there)) (by rfl) ?_
          | refine XL.lenR (by rfl) (by rfl) (by rfl) (by rfl) (by rfl) (by rfl) (by rfl) (by first | exact fun w h => St.row (by repeat (first | exact Sel.here | apply Sel.there)) h | exact fun w h => St.rowF (by repeat (first | exact List.Mem.head _ | apply List.Mem.tail)) h | exact fun w h => Hd.rowF (by repeat (first | exact List.Mem.head _ | apply List.Mem.tail)) h) ?_
          | refine XL.iaR1 (by rfl) (by rfl) (by rfl) (by rfl) (by rfl) (by rfl) (by rfl) (by first | exact fun w h => St.row (by repeat (first | exact Sel.here | apply Sel.there)) h | exact fun w h => St.rowF (by repeat (first | exact List.Mem.head _ | apply List.Mem.tail)) h | exact fun w h => Hd.rowF (by repeat (first | exact List.Mem.head _ | apply List.Mem.tail)) h) (by omega) ?_
          | refine XL.iaR2 (by rfl) (by rfl) (by rfl) (by rfl) (by rfl) (by rfl) (by first | exact fun w h => St.row (by repeat (first | exact Sel.here | apply Sel.there)) h | exact fun w h => St.rowF (by repeat (first | exact List.Mem.head _ | apply List.Mem.tail)) h | exact fun w h => Hd.rowF (by repeat (first | exact List.Mem.head _ | apply List.Mem.tail)) h) (by rfl) (by omega) ?_
          | refine XL.faR (by rfl) (by rfl) (by rfl) (by rfl) (by rfl) (by rfl) (by first | exact fun w h => St.row (by repeat (first | exact Sel.here | apply Sel.there)) h | exact fun w h => St.rowF (by repeat (first | exact List.Mem.head _ | apply List.Mem.tail)) h | exact fun w h => Hd.rowF (by repeat (first | exact List.Mem.head _ | apply List.Mem.tail)) h) (by assumption) ?_
          | refine XL.ldR (by rfl) (by rfl) (by rfl) (by rfl) (by rfl) (by rfl) (by first | exact fun w h => St.row (by repeat (first | exact Sel.here | apply Sel.there)) h | exact fun w h => St.rowF (by repeat (first | exact List.Mem.head _ | apply List.Mem.tail)) h | exact fun w h => Hd.rowF (by repeat (first | exact List.Mem.head _ | apply List.Mem.tail)) h) (by assumption) ?_
          | refine XL.lenS (by rfl) (by rfl) (by rfl) (by rfl) (by rfl) (by rfl) (by rfl) ?_
          | refine XL.lenStr (by rfl) (by rfl) (by rfl) (by rfl) (by rfl) (by rfl) (by rfl) ?_
          | refine XL.succ (by rfl) (by rfl) (by rfl) (by rfl) (by rfl) (by rfl) (by omega) ?_
          | refine XL.addn (by rfl) (by rfl) (by rfl) (by rfl) (by rfl) (by rfl) (by omega) ?_
          | refine XL.add (by rfl) (by rfl) (by rfl) (by rfl) (by rfl) (by rfl) (by omega) ?_
          | refine XL.pred (by rfl) (by rfl) (by rfl) (by rfl) (by rfl) (by rfl) (by omega) ?_
          | refine XL.subn (by rfl) (by rfl) (by rfl) (by rfl) (by rfl) (by rfl) (by omega) ?_
          | refine XL.sub (by rfl) (by rfl) (by rfl) (by rfl) (by rfl) (by rfl) (by omega) ?_
          | refine XL.min2 (by rfl) (by rfl) (by rfl) (by rfl) (by rfl) (by rfl) ?_
          | refine XL.max2 (by rfl) (by rfl) (by rfl) (by rfl) (by rfl) (by rfl) ?_
          | refine XL.eqB (by rfl) (by rfl) (by rfl) (by rfl) (by rfl) (by rfl) (by rfl) ?_
          | refine XL.neB (by rfl) (by rfl) (by rfl) (by rfl) (by rfl) (by rfl) (by rfl) ?_
          | refine XL.psome (by rfl) (by rfl) (by rfl) (by rfl) (by rfl) (by rfl) (by rfl) ?_
          | refine XL.pnone (by rfl) (by rfl) (by rfl) (by rfl) (by rfl) (by rfl) (by rfl) ?_
          | refine XL.psome' (by rfl) (by rfl) (by rfl) (by rfl) (by rfl) (by rfl) (by rfl) ?_
          | refine XL.pnone' (by rfl) (by rfl) (by rfl) (by rfl) (by rfl) (by rfl) (by rfl) ?_
          | refine XL.conv64 (by rfl) (by rfl) (by rfl) (by rfl) (by rfl) (by rfl) (by rfl) (by omega) ?_))
      refine XA.an1 22 (by decide +kernel) (by rfl) ?_
      refine XL.sto (by rfl) (by rfl) (by rfl) (by rfl) (by rfl) (by rfl) (by rfl) (by repeat (first | exact Sel.here | apply Sel.there)) (by simp [nats_size]; omega) s1 ?_
      (repeat' (first
        | refine XQ.an (fun w h => h.hd (by repeat' (first | exact Sels.nil | exact Sel.here | apply Sels.cons | apply Sel.there))) ?_
        | refine XL.nil ?_
          | (refine XL.guard_d (by rfl) (by rfl) (fun h => ?_) (fun h => ?_) <;> try (first | (exfalso; omega) | exact absurd rfl h | (exfalso; simp at h <;> omega)))
          | refine XL.pures (by rfl) (by rfl) (by rfl) (by rfl) (by rfl) ?_
          | refine XL.not_d (by rfl) (by rfl) (by rfl) (by rfl) (by rfl) ?_
          | refine XL.pure 1 (by rfl) ?_
          | refine XL.fa0 (by rfl) (by rfl) (by rfl) (by rfl) (by rfl) (by rfl) ?_
          | refine XL.ld (by rfl) (by rfl) (by rfl) (by rfl) (by rfl) (by rfl) (by repeat (first | exact Sel.here | apply Sel.there)) (by rfl) ?_
          | refine XL.fa (by rfl) (by rfl) (by rfl) (by rfl) (by rfl) (by rfl) ?_
          | refine XL.ia1 (by rfl) (by rfl) (by rfl) (by rfl) (by rfl) (by rfl) (by rfl) (by omega) ?_
          | refine XL.ldr (by rfl) (by rfl) (by rfl) (by rfl) (by rfl) (by rfl) (by repeat (first | exact Sel.here | apply Sel.there)) (by assumption) ?_
          | refine XL.stl (by rfl) (by rfl) (by rfl) (by rfl) (by rfl) (by rfl) (by rfl) (by repeat (first | exact Sel.here | apply Sel.there)) (by rfl) ?_
          | refine XL.lenR (by rfl) (by rfl) (by rfl) (by rfl) (by rfl) (by rfl) (by rfl) (by first | exact fun w h => St.row (by repeat (first | exact Sel.here | apply Sel.there)) h | exact fun w h => St.rowF (by repeat (first | exact List.Mem.head _ | apply List.Mem.tail)) h | exact fun w h => Hd.rowF (by repeat (first | exact List.Mem.head _ | apply List.Mem.tail)) h) ?_
          | refine XL.iaR1 (by rfl) (by rfl) (by rfl) (by rfl) (by rfl) (by rfl) (by rfl) (by first | exact fun w h => St.row (by repeat (first | exact Sel.here | apply Sel.there)) h | exact fun w h => St.rowF (by repeat (first | exact List.Mem.head _ | apply List.Mem.tail)) h | exact fun w h => Hd.rowF (by repeat (first | exact List.Mem.head _ | apply List.Mem.tail)) h) (by omega) ?_
          | refine XL.iaR2 (by rfl) (by rfl) (by rfl) (by rfl) (by rfl) (by rfl) (by first | exact fun w h => St.row (by repeat (first | exact Sel.here | apply Sel.there)) h | exact fun w h => St.rowF (by repeat (first | exact List.Mem.head _ | apply List.Mem.tail)) h | exact fun w h => Hd.rowF (by repeat (first | exact List.Mem.head _ | apply List.Mem.tail)) h) (by rfl) (by omega) ?_
          | refine XL.faR (by rfl) (by rfl) (by rfl) (by rfl) (by rfl) (by rfl) (by first | exact fun w h => St.row (by repeat (first | exact Sel.here | apply Sel.there)) h | exact fun w h => St.rowF (by repeat (first | exact List.Mem.head _ | apply List.Mem.tail)) h | exact fun w h => Hd.rowF (by repeat (first | exact List.Mem.head _ | apply List.Mem.tail)) h) (by assumption) ?_
          | refine XL.ldR (by rfl) (by rfl) (by rfl) (by rfl) (by rfl) (by rfl) (by first | exact fun w h => St.row (by repeat (first | exact Sel.here | apply Sel.there)) h | exact fun w h => St.rowF (by repeat (first | exact List.Mem.head _ | apply List.Mem.tail)) h | exact fun w h => Hd.rowF (by repeat (first | exact List.Mem.head _ | apply List.Mem.tail)) h) (by assumption) ?_
          | refine XL.lenS (by rfl) (by rfl) (by rfl) (by rfl) (by rfl) (by rfl) (by rfl) ?_
          | refine XL.lenStr (by rfl) (by rfl) (by rfl) (by rfl) (by rfl) (by rfl) (by rfl) ?_
          | refine XL.succ (by rfl) (by rfl) (by rfl) (by rfl) (by rfl) (by rfl) (by omega) ?_
          | refine XL.addn (by rfl) (by rfl) (by rfl) (by rfl) (by rfl) (by rfl) (by omega) ?_
          | refine XL.add (by rfl) (by rfl) (by rfl) (by rfl) (by rfl) (by rfl) (by omega) ?_
          | refine XL.pred (by rfl) (by rfl) (by rfl) (by rfl) (by rfl) (by rfl) (by omega) ?_
          | refine XL.subn (by rfl) (by rfl) (by rfl) (by rfl) (by rfl) (by rfl) (by omega) ?_
          | refine XL.sub (by rfl) (by rfl) (by rfl) (by rfl) (by rfl) (by rfl) (by omega) ?_
          | refine XL.min2 (by rfl) (by rfl) (by rfl) (by rfl) (by rfl) (by rfl) ?_
          | refine XL.max2 (by rfl) (by rfl) (by rfl) (by rfl) (by rfl) (by rfl) ?_
          | refine XL.eqB (by rfl) (by rfl) (by rfl) (by rfl) (by rfl) (by rfl) (by rfl) ?_
          | refine XL.neB (by rfl) (by rfl) (by rfl) (by rfl) (by rfl) (by rfl) (by rfl) ?_
          | refine XL.psome (by rfl) (by rfl) (by rfl) (by rfl) (by rfl) (by rfl) (by rfl) ?_
          | refine XL.pnone (by rfl) (by rfl) (by rfl) (by rfl) (by rfl) (by rfl) (by rfl) ?_
          | refine XL.psome' (by rfl) (by rfl) (by rfl) (by rfl) (by rfl) (by rfl) (by rfl) ?_
          | refine XL.pnone' (by rfl) (by rfl) (by rfl) (by rfl) (by rfl) (by rfl) (by rfl) ?_
          | refine XL.conv64 (by rfl) (by rfl) (by rfl) (by rfl) (by rfl) (by rfl) (by rfl) (by omega) ?_))
      refine XA.done (by decide +kernel) ?_
      repeat' (first
        | refine XC.seq ?_
          | refine XC.region ?_
          | refine XC.block ?_
          | refine XC.skip ?_
          | refine XC.ret ?_
          | refine XC.exit ?_
          | (refine XC.cond_d (by rfl) (fun h => ?_) (fun h => ?_) <;> try (first | (exfalso; omega) | exact absurd rfl h | (exfalso; simp at h <;> omega)))
          | refine XC.cond_t (by rfl) ?_
          | refine XC.cond_f (by rfl) ?_
          | refine XQ.next ?_
          | refine XQ.blockN ?_
          | refine XQ.blockR ?_
          | refine XQ.blockE ?_
          | refine XQ.sqR ?_
          | refine XQ.sqE ?_
          | refine XQ.rdR ?_
          | refine XQ.rdE ?_
          | refine XQ.mtR ?_
          | refine XQ.mtE ?_
        | refine XL.nil ?_
          | (refine XL.guard_d (by rfl) (by rfl) (fun h => ?_) (fun h => ?_) <;> try (first | (exfalso; omega) | exact absurd rfl h | (exfalso; simp at h <;> omega)))
          | refine XL.pures (by rfl) (by rfl) (by rfl) (by rfl) (by rfl) ?_
          | refine XL.not_d (by rfl) (by rfl) (by rfl) (by rfl) (by rfl) ?_
          | refine XL.pure 1 (by rfl) ?_
          | refine XL.fa0 (by rfl) (by rfl) (by rfl) (by rfl) (by rfl) (by rfl) ?_
          | refine XL.ld (by rfl) (by rfl) (by rfl) (by rfl) (by rfl) (by rfl) (by repeat (first | exact Sel.here | apply Sel.there)) (by rfl) ?_
          | refine XL.fa (by rfl) (by rfl) (by rfl) (by rfl) (by rfl) (by rfl) ?_
          | refine XL.ia1 (by rfl) (by rfl) (by rfl) (by rfl) (by rfl) (by rfl) (by rfl) (by omega) ?_
          | refine XL.ldr (by rfl) (by rfl) (by rfl) (by rfl) (by rfl) (by rfl) (by repeat (first | exact Sel.here | apply Sel.there)) (by assumption) ?_
          | refine XL.stl (by rfl) (by rfl) (by rfl) (by rfl) (by rfl) (by rfl) (by rfl) (by repeat (first | exact Sel.here | apply Sel.there)) (by rfl) ?_
          | refine XL.lenR (by rfl) (by rfl) (by rfl) (by rfl) (by rfl) (by rfl) (by rfl) (by first | exact fun w h => St.row (by repeat (first | exact Sel.here | apply Sel.there)) h | exact fun w h => St.rowF (by repeat (first | exact List.Mem.head _ | apply List.Mem.tail)) h | exact fun w h => Hd.rowF (by repeat (first | exact List.Mem.head _ | apply List.Mem.tail)) h) ?_
          | refine XL.iaR1 (by rfl) (by rfl) (by rfl) (by rfl) (by rfl) (by rfl) (by rfl) (by first | exact fun w h => St.row (by repeat (first | exact Sel.here | apply Sel.there)) h | exact fun w h => St.rowF (by repeat (first | exact List.Mem.head _ | apply List.Mem.tail)) h | exact fun w h => Hd.rowF (by repeat (first | exact List.Mem.head _ | apply List.Mem.tail)) h) (by omega) ?_
          | refine XL.iaR2 (by rfl) (by rfl) (by rfl) (by rfl) (by rfl) (by rfl) (by first | exact fun w h => St.row (by repeat (first | exact Sel.here | apply Sel.there)) h | exact fun w h => St.rowF (by repeat (first | exact List.Mem.head _ | apply List.Mem.tail)) h | exact fun w h => Hd.rowF (by repeat (first | exact List.Mem.head _ | apply List.Mem.tail)) h) (by rfl) (by omega) ?_
          | refine XL.faR (by rfl) (by rfl) (by rfl) (by rfl) (by rfl) (by rfl) (by first | exact fun w h => St.row (by repeat (first | exact Sel.here | apply Sel.there)) h | exact fun w h => St.rowF (by repeat (first | exact List.Mem.head _ | apply List.Mem.tail)) h | exact fun w h => Hd.rowF (by repeat (first | exact List.Mem.head _ | apply List.Mem.tail)) h) (by assumption) ?_
          | refine XL.ldR (by rfl) (by rfl) (by rfl) (by rfl) (by rfl) (by rfl) (by first | exact fun w h => St.row (by repeat (first | exact Sel.here | apply Sel.there)) h | exact fun w h => St.rowF (by repeat (first | exact List.Mem.head _ | apply List.Mem.tail)) h | exact fun w h => Hd.rowF (by repeat (first | exact List.Mem.head _ | apply List.Mem.tail)) h) (by assumption) ?_
          | refine XL.lenS (by rfl) (by rfl) (by rfl) (by rfl) (by rfl) (by rfl) (by rfl) ?_
          | refine XL.lenStr (by rfl) (by rfl) (by rfl) (by rfl) (by rfl) (by rfl) (by rfl) ?_
          | refine XL.succ (by rfl) (by rfl) (by rfl) (by rfl) (by rfl) (by rfl) (by omega) ?_
          | refine XL.addn (by rfl) (by rfl) (by rfl) (by rfl) (by rfl) (by rfl) (by omega) ?_
          | refine XL.add (by rfl) (by rfl) (by rfl) (by rfl) (by rfl) (by rfl) (by omega) ?_
          | refine XL.pred (by rfl) (by rfl) (by rfl) (by rfl) (by rfl) (by rfl) (by omega) ?_
          | refine XL.subn (by rfl) (by rfl) (by rfl) (by rfl) (by rfl) (by rfl) (by omega) ?_
          | refine XL.sub (by rfl) (by rfl) (by rfl) (by rfl) (by rfl) (by rfl) (by omega) ?_
          | refine XL.min2 (by rfl) (by rfl) (by rfl) (by rfl) (by rfl) (by rfl) ?_
          | refine XL.max2 (by rfl) (by rfl) (by rfl) (by rfl) (by rfl) (by rfl) ?_
          | refine XL.eqB (by rfl) (by rfl) (by rfl) (by rfl) (by rfl) (by rfl) (by rfl) ?_
          | refine XL.neB (by rfl) (by rfl) (by rfl) (by rfl) (by rfl) (by rfl) (by rfl) ?_
          | refine XL.psome (by rfl) (by rfl) (by rfl) (by rfl) (by rfl) (by rfl) (by rfl) ?_
          | refine XL.pnone (by rfl) (by rfl) (by rfl) (by rfl) (by rfl) (by rfl) (by rfl) ?_
          | refine XL.psome' (by rfl) (by rfl) (by rfl) (by rfl) (by rfl) (by rfl) (by rfl) ?_
          | refine XL.pnone' (by rfl) (by rfl) (by rfl) (by rfl) (by rfl) (by rfl) (by rfl) ?_
          | refine XL.conv64 (by rfl) (by rfl) (by rfl) (by rfl) (by rfl) (by rfl) (by rfl) (by omega) ?_)
      refine XQ.round (k + 1) (by repeat (first | exact fits_nil | refine fits_cons (by rfl) ?_)) (fun w hw => ⟨by omega, hw.less (by repeat' (first | exact Sels.nil | exact Sel.here | apply Sels.cons | apply Sel.there)) (fun _ h => h)⟩) ?_
      exact (show m - (k + 1) < m - k by omega)
    · have e : k = m := by omega
      subst e
      rw [Nat.sub_self, List.replicate_zero, List.append_nil, List.append_nil]
      refine XQ.conv (fun w h => groups_shut h (UF.new k) (by repeat' (first | exact Sels.nil | exact Sel.here | apply Sels.cons | apply Sel.there))) (XQ.ret1 (by rfl) (by rfl) ?_)
      refine ⟨_, trivial, rfl, ?_, rfl⟩
      rfl
end Go.Proofs.Ytkhjnmhingdmoaa
