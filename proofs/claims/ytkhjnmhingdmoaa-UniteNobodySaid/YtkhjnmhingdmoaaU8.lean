/- Groups that are nil, without the document's answer: the law's walk and its row. -/
import Derived.Test.YtkhjnmhingdmoaaX9
import Derived.Test.YtkhjnmhingdmoaaU6
import Derived.Test.YtkhjnmhingdmoaaRows
namespace Go.Proofs.Ytkhjnmhingdmoaa
open Go X U
attribute [local irreducible] XC XL XQ Tri blk Shows Sq Rd Mt inBlockX
attribute [local irreducible] Row rowO
theorem own : ownKnob Try.prog.godebug = none := by kernel_rfl
theorem nlen_tri : Tri Try.prog 16 [.pointer none] [] [] fun e L Φ => e = .returned (.int .i64 0) ∧ L = [] ∧ Φ = [] := by
  refine Tri.of Try.func16 rfl fun c => ?_
  repeat' (first
    | refine XC.seq ?_
      | refine XC.region ?_
      | refine XC.block ?_
      | refine XC.skip ?_
      | refine XC.ret ?_
      | refine XC.exit ?_
      | (refine XC.cond_d (by rfl) (fun h => ?_) (fun h => ?_) <;> try (exfalso; omega))
      | refine XC.cond_t (by rfl) ?_
      | refine XC.cond_f (by rfl) ?_
      | refine XQ.next ?_
      | refine XQ.blockN ?_
      | refine XQ.blockR ?_
      | refine XQ.blockE ?_
      | refine XQ.sqR ?_
      | refine XQ.sqE ?_
      | refine XQ.rdR ?_
      | refine XQ.rdE ?_
      | refine XQ.mtR ?_
      | refine XQ.mtE ?_
    | refine XL.nil ?_
      | (refine XL.guard_d (by rfl) (by rfl) (fun h => ?_) (fun h => ?_) <;> try (exfalso; omega))
      | refine XL.pures (by rfl) (by rfl) (by rfl) (by rfl) (by rfl) ?_
      | refine XL.not_d (by rfl) (by rfl) (by rfl) (by rfl) (by rfl) ?_
      | refine XL.pure 1 (by rfl) ?_
      | refine XL.fa0 (by rfl) (by rfl) (by rfl) (by rfl) (by rfl) (by rfl) ?_
      | refine XL.ld (by rfl) (by rfl) (by rfl) (by rfl) (by rfl) (by rfl) (by repeat (first | exact Sel.here | apply Sel.there)) (by rfl) ?_
      | refine XL.fa (by rfl) (by rfl) (by rfl) (by rfl) (by rfl) (by rfl) ?_
      | refine XL.ia1 (by rfl) (by rfl) (by rfl) (by rfl) (by rfl) (by rfl) (by rfl) (by omega) ?_
      | refine XL.ldr (by rfl) (by rfl) (by rfl) (by rfl) (by rfl) (by rfl) (by repeat (first | exact Sel.here | apply Sel.there)) (by assumption) ?_
      | refine XL.stl (by rfl) (by rfl) (by rfl) (by rfl) (by rfl) (by rfl) (by rfl) (by repeat (first | exact Sel.here | apply Sel.there)) (by rfl) ?_
      | refine XL.lenR (by rfl) (by rfl) (by rfl) (by rfl) (by rfl) (by rfl) (by rfl) (by first | exact fun w h => St.row (by repeat (first | exact Sel.here | apply Sel.there)) h | exact fun w h => St.rowF (by repeat (first | exact List.Mem.head _ | apply List.Mem.tail)) h) ?_
      | refine XL.iaR1 (by rfl) (by rfl) (by rfl) (by rfl) (by rfl) (by rfl) (by rfl) (by first | exact fun w h => St.row (by repeat (first | exact Sel.here | apply Sel.there)) h | exact fun w h => St.rowF (by repeat (first | exact List.Mem.head _ | apply List.Mem.tail)) h) (by omega) ?_
      | refine XL.ldR (by rfl) (by rfl) (by rfl) (by rfl) (by rfl) (by rfl) (by first | exact fun w h => St.row (by repeat (first | exact Sel.here | apply Sel.there)) h | exact fun w h => St.rowF (by repeat (first | exact List.Mem.head _ | apply List.Mem.tail)) h) (by assumption) ?_
      | refine XL.lenS (by rfl) (by rfl) (by rfl) (by rfl) (by rfl) (by rfl) (by rfl) ?_
      | refine XL.lenStr (by rfl) (by rfl) (by rfl) (by rfl) (by rfl) (by rfl) (by rfl) ?_
      | refine XL.succ (by rfl) (by rfl) (by rfl) (by rfl) (by rfl) (by rfl) (by omega) ?_
      | refine XL.addn (by rfl) (by rfl) (by rfl) (by rfl) (by rfl) (by rfl) (by omega) ?_
      | refine XL.add (by rfl) (by rfl) (by rfl) (by rfl) (by rfl) (by rfl) (by omega) ?_
      | refine XL.pred (by rfl) (by rfl) (by rfl) (by rfl) (by rfl) (by rfl) (by omega) ?_
      | refine XL.sub (by rfl) (by rfl) (by rfl) (by rfl) (by rfl) (by rfl) (by omega) ?_
      | refine XL.min2 (by rfl) (by rfl) (by rfl) (by rfl) (by rfl) (by rfl) ?_
      | refine XL.max2 (by rfl) (by rfl) (by rfl) (by rfl) (by rfl) (by rfl) ?_
      | refine XL.eqB (by rfl) (by rfl) (by rfl) (by rfl) (by rfl) (by rfl) (by rfl) ?_
      | refine XL.neB (by rfl) (by rfl) (by rfl) (by rfl) (by rfl) (by rfl) (by rfl) ?_
      | refine XL.psome (by rfl) (by rfl) (by rfl) (by rfl) (by rfl) (by rfl) (by rfl) ?_
      | refine XL.pnone (by rfl) (by rfl) (by rfl) (by rfl) (by rfl) (by rfl) (by rfl) ?_
      | refine XL.psome' (by rfl) (by rfl) (by rfl) (by rfl) (by rfl) (by rfl) (by rfl) ?_
      | refine XL.pnone' (by rfl) (by rfl) (by rfl) (by rfl) (by rfl) (by rfl) (by rfl) ?_
      | refine XL.conv64 (by rfl) (by rfl) (by rfl) (by rfl) (by rfl) (by rfl) (by rfl) (by omega) ?_)
  exact XQ.ret1 (by rfl) (by rfl) ⟨rfl, rfl, rfl⟩
theorem ncount_tri : Tri Try.prog 17 [.pointer none] [] [] fun e L Φ => e = .returned (.int .i64 0) ∧ L = [] ∧ Φ = [] := by
  refine Tri.of Try.func17 rfl fun c => ?_
  repeat' (first
    | refine XC.seq ?_
      | refine XC.region ?_
      | refine XC.block ?_
      | refine XC.skip ?_
      | refine XC.ret ?_
      | refine XC.exit ?_
      | (refine XC.cond_d (by rfl) (fun h => ?_) (fun h => ?_) <;> try (exfalso; omega))
      | refine XC.cond_t (by rfl) ?_
      | refine XC.cond_f (by rfl) ?_
      | refine XQ.next ?_
      | refine XQ.blockN ?_
      | refine XQ.blockR ?_
      | refine XQ.blockE ?_
      | refine XQ.sqR ?_
      | refine XQ.sqE ?_
      | refine XQ.rdR ?_
      | refine XQ.rdE ?_
      | refine XQ.mtR ?_
      | refine XQ.mtE ?_
    | refine XL.nil ?_
      | (refine XL.guard_d (by rfl) (by rfl) (fun h => ?_) (fun h => ?_) <;> try (exfalso; omega))
      | refine XL.pures (by rfl) (by rfl) (by rfl) (by rfl) (by rfl) ?_
      | refine XL.not_d (by rfl) (by rfl) (by rfl) (by rfl) (by rfl) ?_
      | refine XL.pure 1 (by rfl) ?_
      | refine XL.fa0 (by rfl) (by rfl) (by rfl) (by rfl) (by rfl) (by rfl) ?_
      | refine XL.ld (by rfl) (by rfl) (by rfl) (by rfl) (by rfl) (by rfl) (by repeat (first | exact Sel.here | apply Sel.there)) (by rfl) ?_
      | refine XL.fa (by rfl) (by rfl) (by rfl) (by rfl) (by rfl) (by rfl) ?_
      | refine XL.ia1 (by rfl) (by rfl) (by rfl) (by rfl) (by rfl) (by rfl) (by rfl) (by omega) ?_
      | refine XL.ldr (by rfl) (by rfl) (by rfl) (by rfl) (by rfl) (by rfl) (by repeat (first | exact Sel.here | apply Sel.there)) (by assumption) ?_
      | refine XL.stl (by rfl) (by rfl) (by rfl) (by rfl) (by rfl) (by rfl) (by rfl) (by repeat (first | exact Sel.here | apply Sel.there)) (by rfl) ?_
      | refine XL.lenR (by rfl) (by rfl) (by rfl) (by rfl) (by rfl) (by rfl) (by rfl) (by first | exact fun w h => St.row (by repeat (first | exact Sel.here | apply Sel.there)) h | exact fun w h => St.rowF (by repeat (first | exact List.Mem.head _ | apply List.Mem.tail)) h) ?_
      | refine XL.iaR1 (by rfl) (by rfl) (by rfl) (by rfl) (by rfl) (by rfl) (by rfl) (by first | exact fun w h => St.row (by repeat (first | exact Sel.here | apply Sel.there)) h | exact fun w h => St.rowF (by repeat (first | exact List.Mem.head _ | apply List.Mem.tail)) h) (by omega) ?_
      | refine XL.ldR (by rfl) (by rfl) (by rfl) (by rfl) (by rfl) (by rfl) (by first | exact fun w h => St.row (by repeat (first | exact Sel.here | apply Sel.there)) h | exact fun w h => St.rowF (by repeat (first | exact List.Mem.head _ | apply List.Mem.tail)) h) (by assumption) ?_
      | refine XL.lenS (by rfl) (by rfl) (by rfl) (by rfl) (by rfl) (by rfl) (by rfl) ?_
      | refine XL.lenStr (by rfl) (by rfl) (by rfl) (by rfl) (by rfl) (by rfl) (by rfl) ?_
      | refine XL.succ (by rfl) (by rfl) (by rfl) (by rfl) (by rfl) (by rfl) (by omega) ?_
      | refine XL.addn (by rfl) (by rfl) (by rfl) (by rfl) (by rfl) (by rfl) (by omega) ?_
      | refine XL.add (by rfl) (by rfl) (by rfl) (by rfl) (by rfl) (by rfl) (by omega) ?_
      | refine XL.pred (by rfl) (by rfl) (by rfl) (by rfl) (by rfl) (by rfl) (by omega) ?_
      | refine XL.sub (by rfl) (by rfl) (by rfl) (by rfl) (by rfl) (by rfl) (by omega) ?_
      | refine XL.min2 (by rfl) (by rfl) (by rfl) (by rfl) (by rfl) (by rfl) ?_
      | refine XL.max2 (by rfl) (by rfl) (by rfl) (by rfl) (by rfl) (by rfl) ?_
      | refine XL.eqB (by rfl) (by rfl) (by rfl) (by rfl) (by rfl) (by rfl) (by rfl) ?_
      | refine XL.neB (by rfl) (by rfl) (by rfl) (by rfl) (by rfl) (by rfl) (by rfl) ?_
      | refine XL.psome (by rfl) (by rfl) (by rfl) (by rfl) (by rfl) (by rfl) (by rfl) ?_
      | refine XL.pnone (by rfl) (by rfl) (by rfl) (by rfl) (by rfl) (by rfl) (by rfl) ?_
      | refine XL.psome' (by rfl) (by rfl) (by rfl) (by rfl) (by rfl) (by rfl) (by rfl) ?_
      | refine XL.pnone' (by rfl) (by rfl) (by rfl) (by rfl) (by rfl) (by rfl) (by rfl) ?_
      | refine XL.conv64 (by rfl) (by rfl) (by rfl) (by rfl) (by rfl) (by rfl) (by rfl) (by omega) ?_)
  exact XQ.ret1 (by rfl) (by rfl) ⟨rfl, rfl, rfl⟩
theorem ntop_tri {i : Int} : Tri Try.prog 21 [.pointer none, .int .i64 i] [] [] fun e L Φ => e = .returned (.int .i64 (-1)) ∧ L = [] ∧ Φ = [] := by
  refine Tri.of Try.func21 rfl fun c => ?_
  repeat' (first
    | refine XC.seq ?_
      | refine XC.region ?_
      | refine XC.block ?_
      | refine XC.skip ?_
      | refine XC.ret ?_
      | refine XC.exit ?_
      | (refine XC.cond_d (by rfl) (fun h => ?_) (fun h => ?_) <;> try (exfalso; omega))
      | refine XC.cond_t (by rfl) ?_
      | refine XC.cond_f (by rfl) ?_
      | refine XQ.next ?_
      | refine XQ.blockN ?_
      | refine XQ.blockR ?_
      | refine XQ.blockE ?_
      | refine XQ.sqR ?_
      | refine XQ.sqE ?_
      | refine XQ.rdR ?_
      | refine XQ.rdE ?_
      | refine XQ.mtR ?_
      | refine XQ.mtE ?_
    | refine XL.nil ?_
      | (refine XL.guard_d (by rfl) (by rfl) (fun h => ?_) (fun h => ?_) <;> try (exfalso; omega))
      | refine XL.pures (by rfl) (by rfl) (by rfl) (by rfl) (by rfl) ?_
      | refine XL.not_d (by rfl) (by rfl) (by rfl) (by rfl) (by rfl) ?_
      | refine XL.pure 1 (by rfl) ?_
      | refine XL.fa0 (by rfl) (by rfl) (by rfl) (by rfl) (by rfl) (by rfl) ?_
      | refine XL.ld (by rfl) (by rfl) (by rfl) (by rfl) (by rfl) (by rfl) (by repeat (first | exact Sel.here | apply Sel.there)) (by rfl) ?_
      | refine XL.fa (by rfl) (by rfl) (by rfl) (by rfl) (by rfl) (by rfl) ?_
      | refine XL.ia1 (by rfl) (by rfl) (by rfl) (by rfl) (by rfl) (by rfl) (by rfl) (by omega) ?_
      | refine XL.ldr (by rfl) (by rfl) (by rfl) (by rfl) (by rfl) (by rfl) (by repeat (first | exact Sel.here | apply Sel.there)) (by assumption) ?_
      | refine XL.stl (by rfl) (by rfl) (by rfl) (by rfl) (by rfl) (by rfl) (by rfl) (by repeat (first | exact Sel.here | apply Sel.there)) (by rfl) ?_
      | refine XL.lenR (by rfl) (by rfl) (by rfl) (by rfl) (by rfl) (by rfl) (by rfl) (by first | exact fun w h => St.row (by repeat (first | exact Sel.here | apply Sel.there)) h | exact fun w h => St.rowF (by repeat (first | exact List.Mem.head _ | apply List.Mem.tail)) h) ?_
      | refine XL.iaR1 (by rfl) (by rfl) (by rfl) (by rfl) (by rfl) (by rfl) (by rfl) (by first | exact fun w h => St.row (by repeat (first | exact Sel.here | apply Sel.there)) h | exact fun w h => St.rowF (by repeat (first | exact List.Mem.head _ | apply List.Mem.tail)) h) (by omega) ?_
      | refine XL.ldR (by rfl) (by rfl) (by rfl) (by rfl) (by rfl) (by rfl) (by first | exact fun w h => St.row (by repeat (first | exact Sel.here | apply Sel.there)) h | exact fun w h => St.rowF (by repeat (first | exact List.Mem.head _ | apply List.Mem.tail)) h) (by assumption) ?_
      | refine XL.lenS (by rfl) (by rfl) (by rfl) (by rfl) (by rfl) (by rfl) (by rfl) ?_
      | refine XL.lenStr (by rfl) (by rfl) (by rfl) (by rfl) (by rfl) (by rfl) (by rfl) ?_
      | refine XL.succ (by rfl) (by rfl) (by rfl) (by rfl) (by rfl) (by rfl) (by omega) ?_
      | refine XL.addn (by rfl) (by rfl) (by rfl) (by rfl) (by rfl) (by rfl) (by omega) ?_
      | refine XL.add (by rfl) (by rfl) (by rfl) (by rfl) (by rfl) (by rfl) (by omega) ?_
      | refine XL.pred (by rfl) (by rfl) (by rfl) (by rfl) (by rfl) (by rfl) (by omega) ?_
      | refine XL.sub (by rfl) (by rfl) (by rfl) (by rfl) (by rfl) (by rfl) (by omega) ?_
      | refine XL.min2 (by rfl) (by rfl) (by rfl) (by rfl) (by rfl) (by rfl) ?_
      | refine XL.max2 (by rfl) (by rfl) (by rfl) (by rfl) (by rfl) (by rfl) ?_
      | refine XL.eqB (by rfl) (by rfl) (by rfl) (by rfl) (by rfl) (by rfl) (by rfl) ?_
      | refine XL.neB (by rfl) (by rfl) (by rfl) (by rfl) (by rfl) (by rfl) (by rfl) ?_
      | refine XL.psome (by rfl) (by rfl) (by rfl) (by rfl) (by rfl) (by rfl) (by rfl) ?_
      | refine XL.pnone (by rfl) (by rfl) (by rfl) (by rfl) (by rfl) (by rfl) (by rfl) ?_
      | refine XL.psome' (by rfl) (by rfl) (by rfl) (by rfl) (by rfl) (by rfl) (by rfl) ?_
      | refine XL.pnone' (by rfl) (by rfl) (by rfl) (by rfl) (by rfl) (by rfl) (by rfl) ?_
      | refine XL.conv64 (by rfl) (by rfl) (by rfl) (by rfl) (by rfl) (by rfl) (by rfl) (by omega) ?_)
  · exact XQ.ret1 (by rfl) (by rfl) ⟨rfl, rfl, rfl⟩
  · refine XL.triq (nlen_tri) (by rfl) (by rfl) (by rfl) (by rfl) (by rfl) (by rfl) (by rfl) (by repeat' (first | exact Sels.nil | exact Sel.here | apply Sels.cons | apply Sel.there)) (by repeat' (first | exact Sels.nil | exact Sel.here | apply Sels.cons | apply Sel.there)) (fun _ h => nomatch h) ?_
    repeat' (first
      | refine XC.seq ?_
        | refine XC.region ?_
        | refine XC.block ?_
        | refine XC.skip ?_
        | refine XC.ret ?_
        | refine XC.exit ?_
        | (refine XC.cond_d (by rfl) (fun h => ?_) (fun h => ?_) <;> try (exfalso; omega))
        | refine XC.cond_t (by rfl) ?_
        | refine XC.cond_f (by rfl) ?_
        | refine XQ.next ?_
        | refine XQ.blockN ?_
        | refine XQ.blockR ?_
        | refine XQ.blockE ?_
        | refine XQ.sqR ?_
        | refine XQ.sqE ?_
        | refine XQ.rdR ?_
        | refine XQ.rdE ?_
        | refine XQ.mtR ?_
        | refine XQ.mtE ?_
      | refine XL.nil ?_
        | (refine XL.guard_d (by rfl) (by rfl) (fun h => ?_) (fun h => ?_) <;> try (exfalso; omega))
        | refine XL.pures (by rfl) (by rfl) (by rfl) (by rfl) (by rfl) ?_
        | refine XL.not_d (by rfl) (by rfl) (by rfl) (by rfl) (by rfl) ?_
        | refine XL.pure 1 (by rfl) ?_
        | refine XL.fa0 (by rfl) (by rfl) (by rfl) (by rfl) (by rfl) (by rfl) ?_
        | refine XL.ld (by rfl) (by rfl) (by rfl) (by rfl) (by rfl) (by rfl) (by repeat (first | exact Sel.here | apply Sel.there)) (by rfl) ?_
        | refine XL.fa (by rfl) (by rfl) (by rfl) (by rfl) (by rfl) (by rfl) ?_
        | refine XL.ia1 (by rfl) (by rfl) (by rfl) (by rfl) (by rfl) (by rfl) (by rfl) (by omega) ?_
        | refine XL.ldr (by rfl) (by rfl) (by rfl) (by rfl) (by rfl) (by rfl) (by repeat (first | exact Sel.here | apply Sel.there)) (by assumption) ?_
        | refine XL.stl (by rfl) (by rfl) (by rfl) (by rfl) (by rfl) (by rfl) (by rfl) (by repeat (first | exact Sel.here | apply Sel.there)) (by rfl) ?_
        | refine XL.lenR (by rfl) (by rfl) (by rfl) (by rfl) (by rfl) (by rfl) (by rfl) (by first | exact fun w h => St.row (by repeat (first | exact Sel.here | apply Sel.there)) h | exact fun w h => St.rowF (by repeat (first | exact List.Mem.head _ | apply List.Mem.tail)) h) ?_
        | refine XL.iaR1 (by rfl) (by rfl) (by rfl) (by rfl) (by rfl) (by rfl) (by rfl) (by first | exact fun w h => St.row (by repeat (first | exact Sel.here | apply Sel.there)) h | exact fun w h => St.rowF (by repeat (first | exact List.Mem.head _ | apply List.Mem.tail)) h) (by omega) ?_
        | refine XL.ldR (by rfl) (by rfl) (by rfl) (by rfl) (by rfl) (by rfl) (by first | exact fun w h => St.row (by repeat (first | exact Sel.here | apply Sel.there)) h | exact fun w h => St.rowF (by repeat (first | exact List.Mem.head _ | apply List.Mem.tail)) h) (by assumption) ?_
        | refine XL.lenS (by rfl) (by rfl) (by rfl) (by rfl) (by rfl) (by rfl) (by rfl) ?_
        | refine XL.lenStr (by rfl) (by rfl) (by rfl) (by rfl) (by rfl) (by rfl) (by rfl) ?_
        | refine XL.succ (by rfl) (by rfl) (by rfl) (by rfl) (by rfl) (by rfl) (by omega) ?_
        | refine XL.addn (by rfl) (by rfl) (by rfl) (by rfl) (by rfl) (by rfl) (by omega) ?_
        | refine XL.add (by rfl) (by rfl) (by rfl) (by rfl) (by rfl) (by rfl) (by omega) ?_
        | refine XL.pred (by rfl) (by rfl) (by rfl) (by rfl) (by rfl) (by rfl) (by omega) ?_
        | refine XL.sub (by rfl) (by rfl) (by rfl) (by rfl) (by rfl) (by rfl) (by omega) ?_
        | refine XL.min2 (by rfl) (by rfl) (by rfl) (by rfl) (by rfl) (by rfl) ?_
        | refine XL.max2 (by rfl) (by rfl) (by rfl) (by rfl) (by rfl) (by rfl) ?_
        | refine XL.eqB (by rfl) (by rfl) (by rfl) (by rfl) (by rfl) (by rfl) (by rfl) ?_
        | refine XL.neB (by rfl) (by rfl) (by rfl) (by rfl) (by rfl) (by rfl) (by rfl) ?_
        | refine XL.psome (by rfl) (by rfl) (by rfl) (by rfl) (by rfl) (by rfl) (by rfl) ?_
        | refine XL.pnone (by rfl) (by rfl) (by rfl) (by rfl) (by rfl) (by rfl) (by rfl) ?_
        | refine XL.psome' (by rfl) (by rfl) (by rfl) (by rfl) (by rfl) (by rfl) (by rfl) ?_
        | refine XL.pnone' (by rfl) (by rfl) (by rfl) (by rfl) (by rfl) (by rfl) (by rfl) ?_
        | refine XL.conv64 (by rfl) (by rfl) (by rfl) (by rfl) (by rfl) (by rfl) (by rfl) (by omega) ?_)
    exact XQ.ret1 (by rfl) (by rfl) ⟨rfl, rfl, rfl⟩
theorem nfind_tri {i : Int} : Tri Try.prog 14 [.pointer none, .int .i64 i] [] [] fun e L Φ => e = .returned (.int .i64 (-1)) ∧ L = [] ∧ Φ = [] := by
  refine Tri.of Try.func14 rfl fun c => ?_
  repeat' (first
    | refine XC.seq ?_
      | refine XC.region ?_
      | refine XC.block ?_
      | refine XC.skip ?_
      | refine XC.ret ?_
      | refine XC.exit ?_
      | (refine XC.cond_d (by rfl) (fun h => ?_) (fun h => ?_) <;> try (exfalso; omega))
      | refine XC.cond_t (by rfl) ?_
      | refine XC.cond_f (by rfl) ?_
      | refine XQ.next ?_
      | refine XQ.blockN ?_
      | refine XQ.blockR ?_
      | refine XQ.blockE ?_
      | refine XQ.sqR ?_
      | refine XQ.sqE ?_
      | refine XQ.rdR ?_
      | refine XQ.rdE ?_
      | refine XQ.mtR ?_
      | refine XQ.mtE ?_
    | refine XL.nil ?_
      | (refine XL.guard_d (by rfl) (by rfl) (fun h => ?_) (fun h => ?_) <;> try (exfalso; omega))
      | refine XL.pures (by rfl) (by rfl) (by rfl) (by rfl) (by rfl) ?_
      | refine XL.not_d (by rfl) (by rfl) (by rfl) (by rfl) (by rfl) ?_
      | refine XL.pure 1 (by rfl) ?_
      | refine XL.fa0 (by rfl) (by rfl) (by rfl) (by rfl) (by rfl) (by rfl) ?_
      | refine XL.ld (by rfl) (by rfl) (by rfl) (by rfl) (by rfl) (by rfl) (by repeat (first | exact Sel.here | apply Sel.there)) (by rfl) ?_
      | refine XL.fa (by rfl) (by rfl) (by rfl) (by rfl) (by rfl) (by rfl) ?_
      | refine XL.ia1 (by rfl) (by rfl) (by rfl) (by rfl) (by rfl) (by rfl) (by rfl) (by omega) ?_
      | refine XL.ldr (by rfl) (by rfl) (by rfl) (by rfl) (by rfl) (by rfl) (by repeat (first | exact Sel.here | apply Sel.there)) (by assumption) ?_
      | refine XL.stl (by rfl) (by rfl) (by rfl) (by rfl) (by rfl) (by rfl) (by rfl) (by repeat (first | exact Sel.here | apply Sel.there)) (by rfl) ?_
      | refine XL.lenR (by rfl) (by rfl) (by rfl) (by rfl) (by rfl) (by rfl) (by rfl) (by first | exact fun w h => St.row (by repeat (first | exact Sel.here | apply Sel.there)) h | exact fun w h => St.rowF (by repeat (first | exact List.Mem.head _ | apply List.Mem.tail)) h) ?_
      | refine XL.iaR1 (by rfl) (by rfl) (by rfl) (by rfl) (by rfl) (by rfl) (by rfl) (by first | exact fun w h => St.row (by repeat (first | exact Sel.here | apply Sel.there)) h | exact fun w h => St.rowF (by repeat (first | exact List.Mem.head _ | apply List.Mem.tail)) h) (by omega) ?_
      | refine XL.ldR (by rfl) (by rfl) (by rfl) (by rfl) (by rfl) (by rfl) (by first | exact fun w h => St.row (by repeat (first | exact Sel.here | apply Sel.there)) h | exact fun w h => St.rowF (by repeat (first | exact List.Mem.head _ | apply List.Mem.tail)) h) (by assumption) ?_
      | refine XL.lenS (by rfl) (by rfl) (by rfl) (by rfl) (by rfl) (by rfl) (by rfl) ?_
      | refine XL.lenStr (by rfl) (by rfl) (by rfl) (by rfl) (by rfl) (by rfl) (by rfl) ?_
      | refine XL.succ (by rfl) (by rfl) (by rfl) (by rfl) (by rfl) (by rfl) (by omega) ?_
      | refine XL.addn (by rfl) (by rfl) (by rfl) (by rfl) (by rfl) (by rfl) (by omega) ?_
      | refine XL.add (by rfl) (by rfl) (by rfl) (by rfl) (by rfl) (by rfl) (by omega) ?_
      | refine XL.pred (by rfl) (by rfl) (by rfl) (by rfl) (by rfl) (by rfl) (by omega) ?_
      | refine XL.sub (by rfl) (by rfl) (by rfl) (by rfl) (by rfl) (by rfl) (by omega) ?_
      | refine XL.min2 (by rfl) (by rfl) (by rfl) (by rfl) (by rfl) (by rfl) ?_
      | refine XL.max2 (by rfl) (by rfl) (by rfl) (by rfl) (by rfl) (by rfl) ?_
      | refine XL.eqB (by rfl) (by rfl) (by rfl) (by rfl) (by rfl) (by rfl) (by rfl) ?_
      | refine XL.neB (by rfl) (by rfl) (by rfl) (by rfl) (by rfl) (by rfl) (by rfl) ?_
      | refine XL.psome (by rfl) (by rfl) (by rfl) (by rfl) (by rfl) (by rfl) (by rfl) ?_
      | refine XL.pnone (by rfl) (by rfl) (by rfl) (by rfl) (by rfl) (by rfl) (by rfl) ?_
      | refine XL.psome' (by rfl) (by rfl) (by rfl) (by rfl) (by rfl) (by rfl) (by rfl) ?_
      | refine XL.pnone' (by rfl) (by rfl) (by rfl) (by rfl) (by rfl) (by rfl) (by rfl) ?_
      | refine XL.conv64 (by rfl) (by rfl) (by rfl) (by rfl) (by rfl) (by rfl) (by rfl) (by omega) ?_)
  refine XL.triq (ntop_tri) (by rfl) (by rfl) (by rfl) (by rfl) (by rfl) (by rfl) (by rfl) (by repeat' (first | exact Sels.nil | exact Sel.here | apply Sels.cons | apply Sel.there)) (by repeat' (first | exact Sels.nil | exact Sel.here | apply Sels.cons | apply Sel.there)) (fun _ h => nomatch h) ?_
  repeat' (first
    | refine XC.seq ?_
      | refine XC.region ?_
      | refine XC.block ?_
      | refine XC.skip ?_
      | refine XC.ret ?_
      | refine XC.exit ?_
      | (refine XC.cond_d (by rfl) (fun h => ?_) (fun h => ?_) <;> try (exfalso; omega))
      | refine XC.cond_t (by rfl) ?_
      | refine XC.cond_f (by rfl) ?_
      | refine XQ.next ?_
      | refine XQ.blockN ?_
      | refine XQ.blockR ?_
      | refine XQ.blockE ?_
      | refine XQ.sqR ?_
      | refine XQ.sqE ?_
      | refine XQ.rdR ?_
      | refine XQ.rdE ?_
      | refine XQ.mtR ?_
      | refine XQ.mtE ?_
    | refine XL.nil ?_
      | (refine XL.guard_d (by rfl) (by rfl) (fun h => ?_) (fun h => ?_) <;> try (exfalso; omega))
      | refine XL.pures (by rfl) (by rfl) (by rfl) (by rfl) (by rfl) ?_
      | refine XL.not_d (by rfl) (by rfl) (by rfl) (by rfl) (by rfl) ?_
      | refine XL.pure 1 (by rfl) ?_
      | refine XL.fa0 (by rfl) (by rfl) (by rfl) (by rfl) (by rfl) (by rfl) ?_
      | refine XL.ld (by rfl) (by rfl) (by rfl) (by rfl) (by rfl) (by rfl) (by repeat (first | exact Sel.here | apply Sel.there)) (by rfl) ?_
      | refine XL.fa (by rfl) (by rfl) (by rfl) (by rfl) (by rfl) (by rfl) ?_
      | refine XL.ia1 (by rfl) (by rfl) (by rfl) (by rfl) (by rfl) (by rfl) (by rfl) (by omega) ?_
      | refine XL.ldr (by rfl) (by rfl) (by rfl) (by rfl) (by rfl) (by rfl) (by repeat (first | exact Sel.here | apply Sel.there)) (by assumption) ?_
      | refine XL.stl (by rfl) (by rfl) (by rfl) (by rfl) (by rfl) (by rfl) (by rfl) (by repeat (first | exact Sel.here | apply Sel.there)) (by rfl) ?_
      | refine XL.lenR (by rfl) (by rfl) (by rfl) (by rfl) (by rfl) (by rfl) (by rfl) (by first | exact fun w h => St.row (by repeat (first | exact Sel.here | apply Sel.there)) h | exact fun w h => St.rowF (by repeat (first | exact List.Mem.head _ | apply List.Mem.tail)) h) ?_
      | refine XL.iaR1 (by rfl) (by rfl) (by rfl) (by rfl) (by rfl) (by rfl) (by rfl) (by first | exact fun w h => St.row (by repeat (first | exact Sel.here | apply Sel.there)) h | exact fun w h => St.rowF (by repeat (first | exact List.Mem.head _ | apply List.Mem.tail)) h) (by omega) ?_
      | refine XL.ldR (by rfl) (by rfl) (by rfl) (by rfl) (by rfl) (by rfl) (by first | exact fun w h => St.row (by repeat (first | exact Sel.here | apply Sel.there)) h | exact fun w h => St.rowF (by repeat (first | exact List.Mem.head _ | apply List.Mem.tail)) h) (by assumption) ?_
      | refine XL.lenS (by rfl) (by rfl) (by rfl) (by rfl) (by rfl) (by rfl) (by rfl) ?_
      | refine XL.lenStr (by rfl) (by rfl) (by rfl) (by rfl) (by rfl) (by rfl) (by rfl) ?_
      | refine XL.succ (by rfl) (by rfl) (by rfl) (by rfl) (by rfl) (by rfl) (by omega) ?_
      | refine XL.addn (by rfl) (by rfl) (by rfl) (by rfl) (by rfl) (by rfl) (by omega) ?_
      | refine XL.add (by rfl) (by rfl) (by rfl) (by rfl) (by rfl) (by rfl) (by omega) ?_
      | refine XL.pred (by rfl) (by rfl) (by rfl) (by rfl) (by rfl) (by rfl) (by omega) ?_
      | refine XL.sub (by rfl) (by rfl) (by rfl) (by rfl) (by rfl) (by rfl) (by omega) ?_
      | refine XL.min2 (by rfl) (by rfl) (by rfl) (by rfl) (by rfl) (by rfl) ?_
      | refine XL.max2 (by rfl) (by rfl) (by rfl) (by rfl) (by rfl) (by rfl) ?_
      | refine XL.eqB (by rfl) (by rfl) (by rfl) (by rfl) (by rfl) (by rfl) (by rfl) ?_
      | refine XL.neB (by rfl) (by rfl) (by rfl) (by rfl) (by rfl) (by rfl) (by rfl) ?_
      | refine XL.psome (by rfl) (by rfl) (by rfl) (by rfl) (by rfl) (by rfl) (by rfl) ?_
      | refine XL.pnone (by rfl) (by rfl) (by rfl) (by rfl) (by rfl) (by rfl) (by rfl) ?_
      | refine XL.psome' (by rfl) (by rfl) (by rfl) (by rfl) (by rfl) (by rfl) (by rfl) ?_
      | refine XL.pnone' (by rfl) (by rfl) (by rfl) (by rfl) (by rfl) (by rfl) (by rfl) ?_
      | refine XL.conv64 (by rfl) (by rfl) (by rfl) (by rfl) (by rfl) (by rfl) (by rfl) (by omega) ?_)
  exact XQ.ret1 (by rfl) (by rfl) ⟨rfl, rfl, rfl⟩
theorem nsize_tri {i : Int} : Tri Try.prog 19 [.pointer none, .int .i64 i] [] [] fun e L Φ => e = .returned (.int .i64 0) ∧ L = [] ∧ Φ = [] := by
  refine Tri.of Try.func19 rfl fun c => ?_
  repeat' (first
    | refine XC.seq ?_
      | refine XC.region ?_
      | refine XC.block ?_
      | refine XC.skip ?_
      | refine XC.ret ?_
      | refine XC.exit ?_
      | (refine XC.cond_d (by rfl) (fun h => ?_) (fun h => ?_) <;> try (exfalso; omega))
      | refine XC.cond_t (by rfl) ?_
      | refine XC.cond_f (by rfl) ?_
      | refine XQ.next ?_
      | refine XQ.blockN ?_
      | refine XQ.blockR ?_
      | refine XQ.blockE ?_
      | refine XQ.sqR ?_
      | refine XQ.sqE ?_
      | refine XQ.rdR ?_
      | refine XQ.rdE ?_
      | refine XQ.mtR ?_
      | refine XQ.mtE ?_
    | refine XL.nil ?_
      | (refine XL.guard_d (by rfl) (by rfl) (fun h => ?_) (fun h => ?_) <;> try (exfalso; omega))
      | refine XL.pures (by rfl) (by rfl) (by rfl) (by rfl) (by rfl) ?_
      | refine XL.not_d (by rfl) (by rfl) (by rfl) (by rfl) (by rfl) ?_
      | refine XL.pure 1 (by rfl) ?_
      | refine XL.fa0 (by rfl) (by rfl) (by rfl) (by rfl) (by rfl) (by rfl) ?_
      | refine XL.ld (by rfl) (by rfl) (by rfl) (by rfl) (by rfl) (by rfl) (by repeat (first | exact Sel.here | apply Sel.there)) (by rfl) ?_
      | refine XL.fa (by rfl) (by rfl) (by rfl) (by rfl) (by rfl) (by rfl) ?_
      | refine XL.ia1 (by rfl) (by rfl) (by rfl) (by rfl) (by rfl) (by rfl) (by rfl) (by omega) ?_
      | refine XL.ldr (by rfl) (by rfl) (by rfl) (by rfl) (by rfl) (by rfl) (by repeat (first | exact Sel.here | apply Sel.there)) (by assumption) ?_
      | refine XL.stl (by rfl) (by rfl) (by rfl) (by rfl) (by rfl) (by rfl) (by rfl) (by repeat (first | exact Sel.here | apply Sel.there)) (by rfl) ?_
      | refine XL.lenR (by rfl) (by rfl) (by rfl) (by rfl) (by rfl) (by rfl) (by rfl) (by first | exact fun w h => St.row (by repeat (first | exact Sel.here | apply Sel.there)) h | exact fun w h => St.rowF (by repeat (first | exact List.Mem.head _ | apply List.Mem.tail)) h) ?_
      | refine XL.iaR1 (by rfl) (by rfl) (by rfl) (by rfl) (by rfl) (by rfl) (by rfl) (by first | exact fun w h => St.row (by repeat (first | exact Sel.here | apply Sel.there)) h | exact fun w h => St.rowF (by repeat (first | exact List.Mem.head _ | apply List.Mem.tail)) h) (by omega) ?_
      | refine XL.ldR (by rfl) (by rfl) (by rfl) (by rfl) (by rfl) (by rfl) (by first | exact fun w h => St.row (by repeat (first | exact Sel.here | apply Sel.there)) h | exact fun w h => St.rowF (by repeat (first | exact List.Mem.head _ | apply List.Mem.tail)) h) (by assumption) ?_
      | refine XL.lenS (by rfl) (by rfl) (by rfl) (by rfl) (by rfl) (by rfl) (by rfl) ?_
      | refine XL.lenStr (by rfl) (by rfl) (by rfl) (by rfl) (by rfl) (by rfl) (by rfl) ?_
      | refine XL.succ (by rfl) (by rfl) (by rfl) (by rfl) (by rfl) (by rfl) (by omega) ?_
      | refine XL.addn (by rfl) (by rfl) (by rfl) (by rfl) (by rfl) (by rfl) (by omega) ?_
      | refine XL.add (by rfl) (by rfl) (by rfl) (by rfl) (by rfl) (by rfl) (by omega) ?_
      | refine XL.pred (by rfl) (by rfl) (by rfl) (by rfl) (by rfl) (by rfl) (by omega) ?_
      | refine XL.sub (by rfl) (by rfl) (by rfl) (by rfl) (by rfl) (by rfl) (by omega) ?_
      | refine XL.min2 (by rfl) (by rfl) (by rfl) (by rfl) (by rfl) (by rfl) ?_
      | refine XL.max2 (by rfl) (by rfl) (by rfl) (by rfl) (by rfl) (by rfl) ?_
      | refine XL.eqB (by rfl) (by rfl) (by rfl) (by rfl) (by rfl) (by rfl) (by rfl) ?_
      | refine XL.neB (by rfl) (by rfl) (by rfl) (by rfl) (by rfl) (by rfl) (by rfl) ?_
      | refine XL.psome (by rfl) (by rfl) (by rfl) (by rfl) (by rfl) (by rfl) (by rfl) ?_
      | refine XL.pnone (by rfl) (by rfl) (by rfl) (by rfl) (by rfl) (by rfl) (by rfl) ?_
      | refine XL.psome' (by rfl) (by rfl) (by rfl) (by rfl) (by rfl) (by rfl) (by rfl) ?_
      | refine XL.pnone' (by rfl) (by rfl) (by rfl) (by rfl) (by rfl) (by rfl) (by rfl) ?_
      | refine XL.conv64 (by rfl) (by rfl) (by rfl) (by rfl) (by rfl) (by rfl) (by rfl) (by omega) ?_)
  refine XL.triq (ntop_tri) (by rfl) (by rfl) (by rfl) (by rfl) (by rfl) (by rfl) (by rfl) (by repeat' (first | exact Sels.nil | exact Sel.here | apply Sels.cons | apply Sel.there)) (by repeat' (first | exact Sels.nil | exact Sel.here | apply Sels.cons | apply Sel.there)) (fun _ h => nomatch h) ?_
  repeat' (first
    | refine XC.seq ?_
      | refine XC.region ?_
      | refine XC.block ?_
      | refine XC.skip ?_
      | refine XC.ret ?_
      | refine XC.exit ?_
      | (refine XC.cond_d (by rfl) (fun h => ?_) (fun h => ?_) <;> try (exfalso; omega))
      | refine XC.cond_t (by rfl) ?_
      | refine XC.cond_f (by rfl) ?_
      | refine XQ.next ?_
      | refine XQ.blockN ?_
      | refine XQ.blockR ?_
      | refine XQ.blockE ?_
      | refine XQ.sqR ?_
      | refine XQ.sqE ?_
      | refine XQ.rdR ?_
      | refine XQ.rdE ?_
      | refine XQ.mtR ?_
      | refine XQ.mtE ?_
    | refine XL.nil ?_
      | (refine XL.guard_d (by rfl) (by rfl) (fun h => ?_) (fun h => ?_) <;> try (exfalso; omega))
      | refine XL.pures (by rfl) (by rfl) (by rfl) (by rfl) (by rfl) ?_
      | refine XL.not_d (by rfl) (by rfl) (by rfl) (by rfl) (by rfl) ?_
      | refine XL.pure 1 (by rfl) ?_
      | refine XL.fa0 (by rfl) (by rfl) (by rfl) (by rfl) (by rfl) (by rfl) ?_
      | refine XL.ld (by rfl) (by rfl) (by rfl) (by rfl) (by rfl) (by rfl) (by repeat (first | exact Sel.here | apply Sel.there)) (by rfl) ?_
      | refine XL.fa (by rfl) (by rfl) (by rfl) (by rfl) (by rfl) (by rfl) ?_
      | refine XL.ia1 (by rfl) (by rfl) (by rfl) (by rfl) (by rfl) (by rfl) (by rfl) (by omega) ?_
      | refine XL.ldr (by rfl) (by rfl) (by rfl) (by rfl) (by rfl) (by rfl) (by repeat (first | exact Sel.here | apply Sel.there)) (by assumption) ?_
      | refine XL.stl (by rfl) (by rfl) (by rfl) (by rfl) (by rfl) (by rfl) (by rfl) (by repeat (first | exact Sel.here | apply Sel.there)) (by rfl) ?_
      | refine XL.lenR (by rfl) (by rfl) (by rfl) (by rfl) (by rfl) (by rfl) (by rfl) (by first | exact fun w h => St.row (by repeat (first | exact Sel.here | apply Sel.there)) h | exact fun w h => St.rowF (by repeat (first | exact List.Mem.head _ | apply List.Mem.tail)) h) ?_
      | refine XL.iaR1 (by rfl) (by rfl) (by rfl) (by rfl) (by rfl) (by rfl) (by rfl) (by first | exact fun w h => St.row (by repeat (first | exact Sel.here | apply Sel.there)) h | exact fun w h => St.rowF (by repeat (first | exact List.Mem.head _ | apply List.Mem.tail)) h) (by omega) ?_
      | refine XL.ldR (by rfl) (by rfl) (by rfl) (by rfl) (by rfl) (by rfl) (by first | exact fun w h => St.row (by repeat (first | exact Sel.here | apply Sel.there)) h | exact fun w h => St.rowF (by repeat (first | exact List.Mem.head _ | apply List.Mem.tail)) h) (by assumption) ?_
      | refine XL.lenS (by rfl) (by rfl) (by rfl) (by rfl) (by rfl) (by rfl) (by rfl) ?_
      | refine XL.lenStr (by rfl) (by rfl) (by rfl) (by rfl) (by rfl) (by rfl) (by rfl) ?_
      | refine XL.succ (by rfl) (by rfl) (by rfl) (by rfl) (by rfl) (by rfl) (by omega) ?_
      | refine XL.addn (by rfl) (by rfl) (by rfl) (by rfl) (by rfl) (by rfl) (by omega) ?_
      | refine XL.add (by rfl) (by rfl) (by rfl) (by rfl) (by rfl) (by rfl) (by omega) ?_
      | refine XL.pred (by rfl) (by rfl) (by rfl) (by rfl) (by rfl) (by rfl) (by omega) ?_
      | refine XL.sub (by rfl) (by rfl) (by rfl) (by rfl) (by rfl) (by rfl) (by omega) ?_
      | refine XL.min2 (by rfl) (by rfl) (by rfl) (by rfl) (by rfl) (by rfl) ?_
      | refine XL.max2 (by rfl) (by rfl) (by rfl) (by rfl) (by rfl) (by rfl) ?_
      | refine XL.eqB (by rfl) (by rfl) (by rfl) (by rfl) (by rfl) (by rfl) (by rfl) ?_
      | refine XL.neB (by rfl) (by rfl) (by rfl) (by rfl) (by rfl) (by rfl) (by rfl) ?_
      | refine XL.psome (by rfl) (by rfl) (by rfl) (by rfl) (by rfl) (by rfl) (by rfl) ?_
      | refine XL.pnone (by rfl) (by rfl) (by rfl) (by rfl) (by rfl) (by rfl) (by rfl) ?_
      | refine XL.psome' (by rfl) (by rfl) (by rfl) (by rfl) (by rfl) (by rfl) (by rfl) ?_
      | refine XL.pnone' (by rfl) (by rfl) (by rfl) (by rfl) (by rfl) (by rfl) (by rfl) ?_
      | refine XL.conv64 (by rfl) (by rfl) (by rfl) (by rfl) (by rfl) (by rfl) (by rfl) (by omega) ?_)
  exact XQ.ret1 (by rfl) (by rfl) ⟨rfl, rfl, rfl⟩
theorem njoin_tri {i j : Int} : Tri Try.prog 13 [.pointer none, .int .i64 i, .int .i64 j] [] [] fun e L Φ => e = .returned (.bool false) ∧ L = [] ∧ Φ = [] := by
  refine Tri.of Try.func13 rfl fun c => ?_
  repeat' (first
    | refine XC.seq ?_
      | refine XC.region ?_
      | refine XC.block ?_
      | refine XC.skip ?_
      | refine XC.ret ?_
      | refine XC.exit ?_
      | (refine XC.cond_d (by rfl) (fun h => ?_) (fun h => ?_) <;> try (exfalso; omega))
      | refine XC.cond_t (by rfl) ?_
      | refine XC.cond_f (by rfl) ?_
      | refine XQ.next ?_
      | refine XQ.blockN ?_
      | refine XQ.blockR ?_
      | refine XQ.blockE ?_
      | refine XQ.sqR ?_
      | refine XQ.sqE ?_
      | refine XQ.rdR ?_
      | refine XQ.rdE ?_
      | refine XQ.mtR ?_
      | refine XQ.mtE ?_
    | refine XL.nil ?_
      | (refine XL.guard_d (by rfl) (by rfl) (fun h => ?_) (fun h => ?_) <;> try (exfalso; omega))
      | refine XL.pures (by rfl) (by rfl) (by rfl) (by rfl) (by rfl) ?_
      | refine XL.not_d (by rfl) (by rfl) (by rfl) (by rfl) (by rfl) ?_
      | refine XL.pure 1 (by rfl) ?_
      | refine XL.fa0 (by rfl) (by rfl) (by rfl) (by rfl) (by rfl) (by rfl) ?_
      | refine XL.ld (by rfl) (by rfl) (by rfl) (by rfl) (by rfl) (by rfl) (by repeat (first | exact Sel.here | apply Sel.there)) (by rfl) ?_
      | refine XL.fa (by rfl) (by rfl) (by rfl) (by rfl) (by rfl) (by rfl) ?_
      | refine XL.ia1 (by rfl) (by rfl) (by rfl) (by rfl) (by rfl) (by rfl) (by rfl) (by omega) ?_
      | refine XL.ldr (by rfl) (by rfl) (by rfl) (by rfl) (by rfl) (by rfl) (by repeat (first | exact Sel.here | apply Sel.there)) (by assumption) ?_
      | refine XL.stl (by rfl) (by rfl) (by rfl) (by rfl) (by rfl) (by rfl) (by rfl) (by repeat (first | exact Sel.here | apply Sel.there)) (by rfl) ?_
      | refine XL.lenR (by rfl) (by rfl) (by rfl) (by rfl) (by rfl) (by rfl) (by rfl) (by first | exact fun w h => St.row (by repeat (first | exact Sel.here | apply Sel.there)) h | exact fun w h => St.rowF (by repeat (first | exact List.Mem.head _ | apply List.Mem.tail)) h) ?_
      | refine XL.iaR1 (by rfl) (by rfl) (by rfl) (by rfl) (by rfl) (by rfl) (by rfl) (by first | exact fun w h => St.row (by repeat (first | exact Sel.here | apply Sel.there)) h | exact fun w h => St.rowF (by repeat (first | exact List.Mem.head _ | apply List.Mem.tail)) h) (by omega) ?_
      | refine XL.ldR (by rfl) (by rfl) (by rfl) (by rfl) (by rfl) (by rfl) (by first | exact fun w h => St.row (by repeat (first | exact Sel.here | apply Sel.there)) h | exact fun w h => St.rowF (by repeat (first | exact List.Mem.head _ | apply List.Mem.tail)) h) (by assumption) ?_
      | refine XL.lenS (by rfl) (by rfl) (by rfl) (by rfl) (by rfl) (by rfl) (by rfl) ?_
      | refine XL.lenStr (by rfl) (by rfl) (by rfl) (by rfl) (by rfl) (by rfl) (by rfl) ?_
      | refine XL.succ (by rfl) (by rfl) (by rfl) (by rfl) (by rfl) (by rfl) (by omega) ?_
      | refine XL.addn (by rfl) (by rfl) (by rfl) (by rfl) (by rfl) (by rfl) (by omega) ?_
      | refine XL.add (by rfl) (by rfl) (by rfl) (by rfl) (by rfl) (by rfl) (by omega) ?_
      | refine XL.pred (by rfl) (by rfl) (by rfl) (by rfl) (by rfl) (by rfl) (by omega) ?_
      | refine XL.sub (by rfl) (by rfl) (by rfl) (by rfl) (by rfl) (by rfl) (by omega) ?_
      | refine XL.min2 (by rfl) (by rfl) (by rfl) (by rfl) (by rfl) (by rfl) ?_
      | refine XL.max2 (by rfl) (by rfl) (by rfl) (by rfl) (by rfl) (by rfl) ?_
      | refine XL.eqB (by rfl) (by rfl) (by rfl) (by rfl) (by rfl) (by rfl) (by rfl) ?_
      | refine XL.neB (by rfl) (by rfl) (by rfl) (by rfl) (by rfl) (by rfl) (by rfl) ?_
      | refine XL.psome (by rfl) (by rfl) (by rfl) (by rfl) (by rfl) (by rfl) (by rfl) ?_
      | refine XL.pnone (by rfl) (by rfl) (by rfl) (by rfl) (by rfl) (by rfl) (by rfl) ?_
      | refine XL.psome' (by rfl) (by rfl) (by rfl) (by rfl) (by rfl) (by rfl) (by rfl) ?_
      | refine XL.pnone' (by rfl) (by rfl) (by rfl) (by rfl) (by rfl) (by rfl) (by rfl) ?_
      | refine XL.conv64 (by rfl) (by rfl) (by rfl) (by rfl) (by rfl) (by rfl) (by rfl) (by omega) ?_)
  refine XL.triq (ntop_tri) (by rfl) (by rfl) (by rfl) (by rfl) (by rfl) (by rfl) (by rfl) (by repeat' (first | exact Sels.nil | exact Sel.here | apply Sels.cons | apply Sel.there)) (by repeat' (first | exact Sels.nil | exact Sel.here | apply Sels.cons | apply Sel.there)) (fun _ h => nomatch h) ?_
  repeat' (first
    | refine XC.seq ?_
      | refine XC.region ?_
      | refine XC.block ?_
      | refine XC.skip ?_
      | refine XC.ret ?_
      | refine XC.exit ?_
      | (refine XC.cond_d (by rfl) (fun h => ?_) (fun h => ?_) <;> try (exfalso; omega))
      | refine XC.cond_t (by rfl) ?_
      | refine XC.cond_f (by rfl) ?_
      | refine XQ.next ?_
      | refine XQ.blockN ?_
      | refine XQ.blockR ?_
      | refine XQ.blockE ?_
      | refine XQ.sqR ?_
      | refine XQ.sqE ?_
      | refine XQ.rdR ?_
      | refine XQ.rdE ?_
      | refine XQ.mtR ?_
      | refine XQ.mtE ?_
    | refine XL.nil ?_
      | (refine XL.guard_d (by rfl) (by rfl) (fun h => ?_) (fun h => ?_) <;> try (exfalso; omega))
      | refine XL.pures (by rfl) (by rfl) (by rfl) (by rfl) (by rfl) ?_
      | refine XL.not_d (by rfl) (by rfl) (by rfl) (by rfl) (by rfl) ?_
      | refine XL.pure 1 (by rfl) ?_
      | refine XL.fa0 (by rfl) (by rfl) (by rfl) (by rfl) (by rfl) (by rfl) ?_
      | refine XL.ld (by rfl) (by rfl) (by rfl) (by rfl) (by rfl) (by rfl) (by repeat (first | exact Sel.here | apply Sel.there)) (by rfl) ?_
      | refine XL.fa (by rfl) (by rfl) (by rfl) (by rfl) (by rfl) (by rfl) ?_
      | refine XL.ia1 (by rfl) (by rfl) (by rfl) (by rfl) (by rfl) (by rfl) (by rfl) (by omega) ?_
      | refine XL.ldr (by rfl) (by rfl) (by rfl) (by rfl) (by rfl) (by rfl) (by repeat (first | exact Sel.here | apply Sel.there)) (by assumption) ?_
      | refine XL.stl (by rfl) (by rfl) (by rfl) (by rfl) (by rfl) (by rfl) (by rfl) (by repeat (first | exact Sel.here | apply Sel.there)) (by rfl) ?_
      | refine XL.lenR (by rfl) (by rfl) (by rfl) (by rfl) (by rfl) (by rfl) (by rfl) (by first | exact fun w h => St.row (by repeat (first | exact Sel.here | apply Sel.there)) h | exact fun w h => St.rowF (by repeat (first | exact List.Mem.head _ | apply List.Mem.tail)) h) ?_
      | refine XL.iaR1 (by rfl) (by rfl) (by rfl) (by rfl) (by rfl) (by rfl) (by rfl) (by first | exact fun w h => St.row (by repeat (first | exact Sel.here | apply Sel.there)) h | exact fun w h => St.rowF (by repeat (first | exact List.Mem.head _ | apply List.Mem.tail)) h) (by omega) ?_
      | refine XL.ldR (by rfl) (by rfl) (by rfl) (by rfl) (by rfl) (by rfl) (by first | exact fun w h => St.row (by repeat (first | exact Sel.here | apply Sel.there)) h | exact fun w h => St.rowF (by repeat (first | exact List.Mem.head _ | apply List.Mem.tail)) h) (by assumption) ?_
      | refine XL.lenS (by rfl) (by rfl) (by rfl) (by rfl) (by rfl) (by rfl) (by rfl) ?_
      | refine XL.lenStr (by rfl) (by rfl) (by rfl) (by rfl) (by rfl) (by rfl) (by rfl) ?_
      | refine XL.succ (by rfl) (by rfl) (by rfl) (by rfl) (by rfl) (by rfl) (by omega) ?_
      | refine XL.addn (by rfl) (by rfl) (by rfl) (by rfl) (by rfl) (by rfl) (by omega) ?_
      | refine XL.add (by rfl) (by rfl) (by rfl) (by rfl) (by rfl) (by rfl) (by omega) ?_
      | refine XL.pred (by rfl) (by rfl) (by rfl) (by rfl) (by rfl) (by rfl) (by omega) ?_
      | refine XL.sub (by rfl) (by rfl) (by rfl) (by rfl) (by rfl) (by rfl) (by omega) ?_
      | refine XL.min2 (by rfl) (by rfl) (by rfl) (by rfl) (by rfl) (by rfl) ?_
      | refine XL.max2 (by rfl) (by rfl) (by rfl) (by rfl) (by rfl) (by rfl) ?_
      | refine XL.eqB (by rfl) (by rfl) (by rfl) (by rfl) (by rfl) (by rfl) (by rfl) ?_
      | refine XL.neB (by rfl) (by rfl) (by rfl) (by rfl) (by rfl) (by rfl) (by rfl) ?_
      | refine XL.psome (by rfl) (by rfl) (by rfl) (by rfl) (by rfl) (by rfl) (by rfl) ?_
      | refine XL.pnone (by rfl) (by rfl) (by rfl) (by rfl) (by rfl) (by rfl) (by rfl) ?_
      | refine XL.psome' (by rfl) (by rfl) (by rfl) (by rfl) (by rfl) (by rfl) (by rfl) ?_
      | refine XL.pnone' (by rfl) (by rfl) (by rfl) (by rfl) (by rfl) (by rfl) (by rfl) ?_
      | refine XL.conv64 (by rfl) (by rfl) (by rfl) (by rfl) (by rfl) (by rfl) (by rfl) (by omega) ?_)
  refine XL.triq (ntop_tri) (by rfl) (by rfl) (by rfl) (by rfl) (by rfl) (by rfl) (by rfl) (by repeat' (first | exact Sels.nil | exact Sel.here | apply Sels.cons | apply Sel.there)) (by repeat' (first | exact Sels.nil | exact Sel.here | apply Sels.cons | apply Sel.there)) (fun _ h => nomatch h) ?_
  repeat' (first
    | refine XC.seq ?_
      | refine XC.region ?_
      | refine XC.block ?_
      | refine XC.skip ?_
      | refine XC.ret ?_
      | refine XC.exit ?_
      | (refine XC.cond_d (by rfl) (fun h => ?_) (fun h => ?_) <;> try (exfalso; omega))
      | refine XC.cond_t (by rfl) ?_
      | refine XC.cond_f (by rfl) ?_
      | refine XQ.next ?_
      | refine XQ.blockN ?_
      | refine XQ.blockR ?_
      | refine XQ.blockE ?_
      | refine XQ.sqR ?_
      | refine XQ.sqE ?_
      | refine XQ.rdR ?_
      | refine XQ.rdE ?_
      | refine XQ.mtR ?_
      | refine XQ.mtE ?_
    | refine XL.nil ?_
      | (refine XL.guard_d (by rfl) (by rfl) (fun h => ?_) (fun h => ?_) <;> try (exfalso; omega))
      | refine XL.pures (by rfl) (by rfl) (by rfl) (by rfl) (by rfl) ?_
      | refine XL.not_d (by rfl) (by rfl) (by rfl) (by rfl) (by rfl) ?_
      | refine XL.pure 1 (by rfl) ?_
      | refine XL.fa0 (by rfl) (by rfl) (by rfl) (by rfl) (by rfl) (by rfl) ?_
      | refine XL.ld (by rfl) (by rfl) (by rfl) (by rfl) (by rfl) (by rfl) (by repeat (first | exact Sel.here | apply Sel.there)) (by rfl) ?_
      | refine XL.fa (by rfl) (by rfl) (by rfl) (by rfl) (by rfl) (by rfl) ?_
      | refine XL.ia1 (by rfl) (by rfl) (by rfl) (by rfl) (by rfl) (by rfl) (by rfl) (by omega) ?_
      | refine XL.ldr (by rfl) (by rfl) (by rfl) (by rfl) (by rfl) (by rfl) (by repeat (first | exact Sel.here | apply Sel.there)) (by assumption) ?_
      | refine XL.stl (by rfl) (by rfl) (by rfl) (by rfl) (by rfl) (by rfl) (by rfl) (by repeat (first | exact Sel.here | apply Sel.there)) (by rfl) ?_
      | refine XL.lenR (by rfl) (by rfl) (by rfl) (by rfl) (by rfl) (by rfl) (by rfl) (by first | exact fun w h => St.row (by repeat (first | exact Sel.here | apply Sel.there)) h | exact fun w h => St.rowF (by repeat (first | exact List.Mem.head _ | apply List.Mem.tail)) h) ?_
      | refine XL.iaR1 (by rfl) (by rfl) (by rfl) (by rfl) (by rfl) (by rfl) (by rfl) (by first | exact fun w h => St.row (by repeat (first | exact Sel.here | apply Sel.there)) h | exact fun w h => St.rowF (by repeat (first | exact List.Mem.head _ | apply List.Mem.tail)) h) (by omega) ?_
      | refine XL.ldR (by rfl) (by rfl) (by rfl) (by rfl) (by rfl) (by rfl) (by first | exact fun w h => St.row (by repeat (first | exact Sel.here | apply Sel.there)) h | exact fun w h => St.rowF (by repeat (first | exact List.Mem.head _ | apply List.Mem.tail)) h) (by assumption) ?_
      | refine XL.lenS (by rfl) (by rfl) (by rfl) (by rfl) (by rfl) (by rfl) (by rfl) ?_
      | refine XL.lenStr (by rfl) (by rfl) (by rfl) (by rfl) (by rfl) (by rfl) (by rfl) ?_
      | refine XL.succ (by rfl) (by rfl) (by rfl) (by rfl) (by rfl) (by rfl) (by omega) ?_
      | refine XL.addn (by rfl) (by rfl) (by rfl) (by rfl) (by rfl) (by rfl) (by omega) ?_
      | refine XL.add (by rfl) (by rfl) (by rfl) (by rfl) (by rfl) (by rfl) (by omega) ?_
      | refine XL.pred (by rfl) (by rfl) (by rfl) (by rfl) (by rfl) (by rfl) (by omega) ?_
      | refine XL.sub (by rfl) (by rfl) (by rfl) (by rfl) (by rfl) (by rfl) (by omega) ?_
      | refine XL.min2 (by rfl) (by rfl) (by rfl) (by rfl) (by rfl) (by rfl) ?_
      | refine XL.max2 (by rfl) (by rfl) (by rfl) (by rfl) (by rfl) (by rfl) ?_
      | refine XL.eqB (by rfl) (by rfl) (by rfl) (by rfl) (by rfl) (by rfl) (by rfl) ?_
      | refine XL.neB (by rfl) (by rfl) (by rfl) (by rfl) (by rfl) (by rfl) (by rfl) ?_
      | refine XL.psome (by rfl) (by rfl) (by rfl) (by rfl) (by rfl) (by rfl) (by rfl) ?_
      | refine XL.pnone (by rfl) (by rfl) (by rfl) (by rfl) (by rfl) (by rfl) (by rfl) ?_
      | refine XL.psome' (by rfl) (by rfl) (by rfl) (by rfl) (by rfl) (by rfl) (by rfl) ?_
      | refine XL.pnone' (by rfl) (by rfl) (by rfl) (by rfl) (by rfl) (by rfl) (by rfl) ?_
      | refine XL.conv64 (by rfl) (by rfl) (by rfl) (by rfl) (by rfl) (by rfl) (by rfl) (by omega) ?_)
  exact XQ.ret1 (by rfl) (by rfl) ⟨rfl, rfl, rfl⟩
theorem lenG_tri {p : Value} {n : Nat} {G : List Nat} : Tri Try.prog 16 [p] [groups p n G] [] fun e L Φ => e = .returned (.int .i64 (n : Int)) ∧ L = [groups p n G] ∧ Φ = [] := by
  refine Tri.of Try.func16 rfl fun c => XC.ex (fun w h => groups_open h .here) ?_
  rintro ⟨⟨gb, ub, sb, lb⟩, ⟨up, sz, ls⟩, cnt⟩
  refine XC.pure (fun ⟨hp, hU⟩ => ?_)
  subst hp
  dsimp only at *
  repeat' (first
    | refine XC.seq ?_
      | refine XC.region ?_
      | refine XC.block ?_
      | refine XC.skip ?_
      | refine XC.ret ?_
      | refine XC.exit ?_
      | (refine XC.cond_d (by rfl) (fun h => ?_) (fun h => ?_) <;> try (exfalso; omega))
      | refine XC.cond_t (by rfl) ?_
      | refine XC.cond_f (by rfl) ?_
      | refine XQ.next ?_
      | refine XQ.blockN ?_
      | refine XQ.blockR ?_
      | refine XQ.blockE ?_
      | refine XQ.sqR ?_
      | refine XQ.sqE ?_
      | refine XQ.rdR ?_
      | refine XQ.rdE ?_
      | refine XQ.mtR ?_
      | refine XQ.mtE ?_
    | refine XL.nil ?_
      | (refine XL.guard_d (by rfl) (by rfl) (fun h => ?_) (fun h => ?_) <;> try (exfalso; omega))
      | refine XL.pures (by rfl) (by rfl) (by rfl) (by rfl) (by rfl) ?_
      | refine XL.not_d (by rfl) (by rfl) (by rfl) (by rfl) (by rfl) ?_
      | refine XL.pure 1 (by rfl) ?_
      | refine XL.fa0 (by rfl) (by rfl) (by rfl) (by rfl) (by rfl) (by rfl) ?_
      | refine XL.ld (by rfl) (by rfl) (by rfl) (by rfl) (by rfl) (by rfl) (by repeat (first | exact Sel.here | apply Sel.there)) (by rfl) ?_
      | refine XL.fa (by rfl) (by rfl) (by rfl) (by rfl) (by rfl) (by rfl) ?_
      | refine XL.ia1 (by rfl) (by rfl) (by rfl) (by rfl) (by rfl) (by rfl) (by rfl) (by omega) ?_
      | refine XL.ldr (by rfl) (by rfl) (by rfl) (by rfl) (by rfl) (by rfl) (by repeat (first | exact Sel.here | apply Sel.there)) (by assumption) ?_
      | refine XL.stl (by rfl) (by rfl) (by rfl) (by rfl) (by rfl) (by rfl) (by rfl) (by repeat (first | exact Sel.here | apply Sel.there)) (by rfl) ?_
      | refine XL.lenR (by rfl) (by rfl) (by rfl) (by rfl) (by rfl) (by rfl) (by rfl) (by first | exact fun w h => St.row (by repeat (first | exact Sel.here | apply Sel.there)) h | exact fun w h => St.rowF (by repeat (first | exact List.Mem.head _ | apply List.Mem.tail)) h) ?_
      | refine XL.iaR1 (by rfl) (by rfl) (by rfl) (by rfl) (by rfl) (by rfl) (by rfl) (by first | exact fun w h => St.row (by repeat (first | exact Sel.here | apply Sel.there)) h | exact fun w h => St.rowF (by repeat (first | exact List.Mem.head _ | apply List.Mem.tail)) h) (by omega) ?_
      | refine XL.ldR (by rfl) (by rfl) (by rfl) (by rfl) (by rfl) (by rfl) (by first | exact fun w h => St.row (by repeat (first | exact Sel.here | apply Sel.there)) h | exact fun w h => St.rowF (by repeat (first | exact List.Mem.head _ | apply List.Mem.tail)) h) (by assumption) ?_
      | refine XL.lenS (by rfl) (by rfl) (by rfl) (by rfl) (by rfl) (by rfl) (by rfl) ?_
      | refine XL.lenStr (by rfl) (by rfl) (by rfl) (by rfl) (by rfl) (by rfl) (by rfl) ?_
      | refine XL.succ (by rfl) (by rfl) (by rfl) (by rfl) (by rfl) (by rfl) (by omega) ?_
      | refine XL.addn (by rfl) (by rfl) (by rfl) (by rfl) (by rfl) (by rfl) (by omega) ?_
      | refine XL.add (by rfl) (by rfl) (by rfl) (by rfl) (by rfl) (by rfl) (by omega) ?_
      | refine XL.pred (by rfl) (by rfl) (by rfl) (by rfl) (by rfl) (by rfl) (by omega) ?_
      | refine XL.sub (by rfl) (by rfl) (by rfl) (by rfl) (by rfl) (by rfl) (by omega) ?_
      | refine XL.min2 (by rfl) (by rfl) (by rfl) (by rfl) (by rfl) (by rfl) ?_
      | refine XL.max2 (by rfl) (by rfl) (by rfl) (by rfl) (by rfl) (by rfl) ?_
      | refine XL.eqB (by rfl) (by rfl) (by rfl) (by rfl) (by rfl) (by rfl) (by rfl) ?_
      | refine XL.neB (by rfl) (by rfl) (by rfl) (by rfl) (by rfl) (by rfl) (by rfl) ?_
      | refine XL.psome (by rfl) (by rfl) (by rfl) (by rfl) (by rfl) (by rfl) (by rfl) ?_
      | refine XL.pnone (by rfl) (by rfl) (by rfl) (by rfl) (by rfl) (by rfl) (by rfl) ?_
      | refine XL.psome' (by rfl) (by rfl) (by rfl) (by rfl) (by rfl) (by rfl) (by rfl) ?_
      | refine XL.pnone' (by rfl) (by rfl) (by rfl) (by rfl) (by rfl) (by rfl) (by rfl) ?_
      | refine XL.conv64 (by rfl) (by rfl) (by rfl) (by rfl) (by rfl) (by rfl) (by rfl) (by omega) ?_)
  refine XQ.conv (fun w h => groups_shut h hU (by repeat' (first | exact Sels.nil | exact Sel.here | apply Sels.cons | apply Sel.there))) (XQ.ret1 (by rfl) (by rfl) ?_)
  exact ⟨rfl, rfl, rfl⟩
theorem nobody_tri {i n : Int} (hn : -9223372036854775808 ≤ n ∧ n ≤ 9223372036854775807) : Tri Try.prog 6 [.int .i64 i, .int .i64 n] [] [] fun e L Φ => e = .returned (.bool true) ∧ L = [] ∧ Φ = [] := by
  refine Tri.of Try.func6 rfl fun c => ?_
  repeat' (first
    | refine XC.seq ?_
      | refine XC.region ?_
      | refine XC.block ?_
      | refine XC.skip ?_
      | refine XC.ret ?_
      | refine XC.exit ?_
      | (refine XC.cond_d (by rfl) (fun h => ?_) (fun h => ?_) <;> try (exfalso; omega))
      | refine XC.cond_t (by rfl) ?_
      | refine XC.cond_f (by rfl) ?_
      | refine XQ.next ?_
      | refine XQ.blockN ?_
      | refine XQ.blockR ?_
      | refine XQ.blockE ?_
      | refine XQ.sqR ?_
      | refine XQ.sqE ?_
      | refine XQ.rdR ?_
      | refine XQ.rdE ?_
      | refine XQ.mtR ?_
      | refine XQ.mtE ?_
    | refine XL.nil ?_
      | (refine XL.guard_d (by rfl) (by rfl) (fun h => ?_) (fun h => ?_) <;> try (exfalso; omega))
      | refine XL.pures (by rfl) (by rfl) (by rfl) (by rfl) (by rfl) ?_
      | refine XL.not_d (by rfl) (by rfl) (by rfl) (by rfl) (by rfl) ?_
      | refine XL.pure 1 (by rfl) ?_
      | refine XL.fa0 (by rfl) (by rfl) (by rfl) (by rfl) (by rfl) (by rfl) ?_
      | refine XL.ld (by rfl) (by rfl) (by rfl) (by rfl) (by rfl) (by rfl) (by repeat (first | exact Sel.here | apply Sel.there)) (by rfl) ?_
      | refine XL.fa (by rfl) (by rfl) (by rfl) (by rfl) (by rfl) (by rfl) ?_
      | refine XL.ia1 (by rfl) (by rfl) (by rfl) (by rfl) (by rfl) (by rfl) (by rfl) (by omega) ?_
      | refine XL.ldr (by rfl) (by rfl) (by rfl) (by rfl) (by rfl) (by rfl) (by repeat (first | exact Sel.here | apply Sel.there)) (by assumption) ?_
      | refine XL.stl (by rfl) (by rfl) (by rfl) (by rfl) (by rfl) (by rfl) (by rfl) (by repeat (first | exact Sel.here | apply Sel.there)) (by rfl) ?_
      | refine XL.lenR (by rfl) (by rfl) (by rfl) (by rfl) (by rfl) (by rfl) (by rfl) (by first | exact fun w h => St.row (by repeat (first | exact Sel.here | apply Sel.there)) h | exact fun w h => St.rowF (by repeat (first | exact List.Mem.head _ | apply List.Mem.tail)) h) ?_
      | refine XL.iaR1 (by rfl) (by rfl) (by rfl) (by rfl) (by rfl) (by rfl) (by rfl) (by first | exact fun w h => St.row (by repeat (first | exact Sel.here | apply Sel.there)) h | exact fun w h => St.rowF (by repeat (first | exact List.Mem.head _ | apply List.Mem.tail)) h) (by omega) ?_
      | refine XL.ldR (by rfl) (by rfl) (by rfl) (by rfl) (by rfl) (by rfl) (by first | exact fun w h => St.row (by repeat (first | exact Sel.here | apply Sel.there)) h | exact fun w h => St.rowF (by repeat (first | exact List.Mem.head _ | apply List.Mem.tail)) h) (by assumption) ?_
      | refine XL.lenS (by rfl) (by rfl) (by rfl) (by rfl) (by rfl) (by rfl) (by rfl) ?_
      | refine XL.lenStr (by rfl) (by rfl) (by rfl) (by rfl) (by rfl) (by rfl) (by rfl) ?_
      | refine XL.succ (by rfl) (by rfl) (by rfl) (by rfl) (by rfl) (by rfl) (by omega) ?_
      | refine XL.addn (by rfl) (by rfl) (by rfl) (by rfl) (by rfl) (by rfl) (by omega) ?_
      | refine XL.add (by rfl) (by rfl) (by rfl) (by rfl) (by rfl) (by rfl) (by omega) ?_
      | refine XL.pred (by rfl) (by rfl) (by rfl) (by rfl) (by rfl) (by rfl) (by omega) ?_
      | refine XL.sub (by rfl) (by rfl) (by rfl) (by rfl) (by rfl) (by rfl) (by omega) ?_
      | refine XL.min2 (by rfl) (by rfl) (by rfl) (by rfl) (by rfl) (by rfl) ?_
      | refine XL.max2 (by rfl) (by rfl) (by rfl) (by rfl) (by rfl) (by rfl) ?_
      | refine XL.eqB (by rfl) (by rfl) (by rfl) (by rfl) (by rfl) (by rfl) (by rfl) ?_
      | refine XL.neB (by rfl) (by rfl) (by rfl) (by rfl) (by rfl) (by rfl) (by rfl) ?_
      | refine XL.psome (by rfl) (by rfl) (by rfl) (by rfl) (by rfl) (by rfl) (by rfl) ?_
      | refine XL.pnone (by rfl) (by rfl) (by rfl) (by rfl) (by rfl) (by rfl) (by rfl) ?_
      | refine XL.psome' (by rfl) (by rfl) (by rfl) (by rfl) (by rfl) (by rfl) (by rfl) ?_
      | refine XL.pnone' (by rfl) (by rfl) (by rfl) (by rfl) (by rfl) (by rfl) (by rfl) ?_
      | refine XL.conv64 (by rfl) (by rfl) (by rfl) (by rfl) (by rfl) (by rfl) (by rfl) (by omega) ?_)
  refine XL.triq (shown_tri) (by rfl) (by rfl) (by rfl) (by rfl) (by rfl) (by rfl) (by rfl) (by repeat' (first | exact Sels.nil | exact Sel.here | apply Sels.cons | apply Sel.there)) (by repeat' (first | exact Sels.nil | exact Sel.here | apply Sels.cons | apply Sel.there)) (fun _ h => nomatch h) ?_
  repeat' (first
    | refine XC.seq ?_
      | refine XC.region ?_
      | refine XC.block ?_
      | refine XC.skip ?_
      | refine XC.ret ?_
      | refine XC.exit ?_
      | (refine XC.cond_d (by rfl) (fun h => ?_) (fun h => ?_) <;> try (exfalso; omega))
      | refine XC.cond_t (by rfl) ?_
      | refine XC.cond_f (by rfl) ?_
      | refine XQ.next ?_
      | refine XQ.blockN ?_
      | refine XQ.blockR ?_
      | refine XQ.blockE ?_
      | refine XQ.sqR ?_
      | refine XQ.sqE ?_
      | refine XQ.rdR ?_
      | refine XQ.rdE ?_
      | refine XQ.mtR ?_
      | refine XQ.mtE ?_
    | refine XL.nil ?_
      | (refine XL.guard_d (by rfl) (by rfl) (fun h => ?_) (fun h => ?_) <;> try (exfalso; omega))
      | refine XL.pures (by rfl) (by rfl) (by rfl) (by rfl) (by rfl) ?_
      | refine XL.not_d (by rfl) (by rfl) (by rfl) (by rfl) (by rfl) ?_
      | refine XL.pure 1 (by rfl) ?_
      | refine XL.fa0 (by rfl) (by rfl) (by rfl) (by rfl) (by rfl) (by rfl) ?_
      | refine XL.ld (by rfl) (by rfl) (by rfl) (by rfl) (by rfl) (by rfl) (by repeat (first | exact Sel.here | apply Sel.there)) (by rfl) ?_
      | refine XL.fa (by rfl) (by rfl) (by rfl) (by rfl) (by rfl) (by rfl) ?_
      | refine XL.ia1 (by rfl) (by rfl) (by rfl) (by rfl) (by rfl) (by rfl) (by rfl) (by omega) ?_
      | refine XL.ldr (by rfl) (by rfl) (by rfl) (by rfl) (by rfl) (by rfl) (by repeat (first | exact Sel.here | apply Sel.there)) (by assumption) ?_
      | refine XL.stl (by rfl) (by rfl) (by rfl) (by rfl) (by rfl) (by rfl) (by rfl) (by repeat (first | exact Sel.here | apply Sel.there)) (by rfl) ?_
      | refine XL.lenR (by rfl) (by rfl) (by rfl) (by rfl) (by rfl) (by rfl) (by rfl) (by first | exact fun w h => St.row (by repeat (first | exact Sel.here | apply Sel.there)) h | exact fun w h => St.rowF (by repeat (first | exact List.Mem.head _ | apply List.Mem.tail)) h) ?_
      | refine XL.iaR1 (by rfl) (by rfl) (by rfl) (by rfl) (by rfl) (by rfl) (by rfl) (by first | exact fun w h => St.row (by repeat (first | exact Sel.here | apply Sel.there)) h | exact fun w h => St.rowF (by repeat (first | exact List.Mem.head _ | apply List.Mem.tail)) h) (by omega) ?_
      | refine XL.ldR (by rfl) (by rfl) (by rfl) (by rfl) (by rfl) (by rfl) (by first | exact fun w h => St.row (by repeat (first | exact Sel.here | apply Sel.there)) h | exact fun w h => St.rowF (by repeat (first | exact List.Mem.head _ | apply List.Mem.tail)) h) (by assumption) ?_
      | refine XL.lenS (by rfl) (by rfl) (by rfl) (by rfl) (by rfl) (by rfl) (by rfl) ?_
      | refine XL.lenStr (by rfl) (by rfl) (by rfl) (by rfl) (by rfl) (by rfl) (by rfl) ?_
      | refine XL.succ (by rfl) (by rfl) (by rfl) (by rfl) (by rfl) (by rfl) (by omega) ?_
      | refine XL.addn (by rfl) (by rfl) (by rfl) (by rfl) (by rfl) (by rfl) (by omega) ?_
      | refine XL.add (by rfl) (by rfl) (by rfl) (by rfl) (by rfl) (by rfl) (by omega) ?_
      | refine XL.pred (by rfl) (by rfl) (by rfl) (by rfl) (by rfl) (by rfl) (by omega) ?_
      | refine XL.sub (by rfl) (by rfl) (by rfl) (by rfl) (by rfl) (by rfl) (by omega) ?_
      | refine XL.min2 (by rfl) (by rfl) (by rfl) (by rfl) (by rfl) (by rfl) ?_
      | refine XL.max2 (by rfl) (by rfl) (by rfl) (by rfl) (by rfl) (by rfl) ?_
      | refine XL.eqB (by rfl) (by rfl) (by rfl) (by rfl) (by rfl) (by rfl) (by rfl) ?_
      | refine XL.neB (by rfl) (by rfl) (by rfl) (by rfl) (by rfl) (by rfl) (by rfl) ?_
      | refine XL.psome (by rfl) (by rfl) (by rfl) (by rfl) (by rfl) (by rfl) (by rfl) ?_
      | refine XL.pnone (by rfl) (by rfl) (by rfl) (by rfl) (by rfl) (by rfl) (by rfl) ?_
      | refine XL.psome' (by rfl) (by rfl) (by rfl) (by rfl) (by rfl) (by rfl) (by rfl) ?_
      | refine XL.pnone' (by rfl) (by rfl) (by rfl) (by rfl) (by rfl) (by rfl) (by rfl) ?_
      | refine XL.conv64 (by rfl) (by rfl) (by rfl) (by rfl) (by rfl) (by rfl) (by rfl) (by omega) ?_)
  all_goals first
    | refine XL.trir (new_is (i := 0 - n) (n := 0) (by omega)) (by rfl) (by rfl) (by rfl) (by rfl) (by rfl) (by rfl) (by rfl) (by repeat' (first | exact Sels.nil | exact Sel.here | apply Sels.cons | apply Sel.there)) (fun _ h => nomatch h) ?_
    | refine XL.trir (new_is (i := n) (n := 0) (by omega)) (by rfl) (by rfl) (by rfl) (by rfl) (by rfl) (by rfl) (by rfl) (by repeat' (first | exact Sels.nil | exact Sel.here | apply Sels.cons | apply Sel.there)) (fun _ h => nomatch h) ?_
  all_goals rintro gb -
  all_goals conv => arg 9; dsimp only [List.cons_append, List.nil_append]
  try conv => arg 7; dsimp only
  all_goals repeat' (first
    | refine XC.seq ?_
      | refine XC.region ?_
      | refine XC.block ?_
      | refine XC.skip ?_
      | refine XC.ret ?_
      | refine XC.exit ?_
      | (refine XC.cond_d (by rfl) (fun h => ?_) (fun h => ?_) <;> try (exfalso; omega))
      | refine XC.cond_t (by rfl) ?_
      | refine XC.cond_f (by rfl) ?_
      | refine XQ.next ?_
      | refine XQ.blockN ?_
      | refine XQ.blockR ?_
      | refine XQ.blockE ?_
      | refine XQ.sqR ?_
      | refine XQ.sqE ?_
      | refine XQ.rdR ?_
      | refine XQ.rdE ?_
      | refine XQ.mtR ?_
      | refine XQ.mtE ?_
    | refine XL.nil ?_
      | (refine XL.guard_d (by rfl) (by rfl) (fun h => ?_) (fun h => ?_) <;> try (exfalso; omega))
      | refine XL.pures (by rfl) (by rfl) (by rfl) (by rfl) (by rfl) ?_
      | refine XL.not_d (by rfl) (by rfl) (by rfl) (by rfl) (by rfl) ?_
      | refine XL.pure 1 (by rfl) ?_
      | refine XL.fa0 (by rfl) (by rfl) (by rfl) (by rfl) (by rfl) (by rfl) ?_
      | refine XL.ld (by rfl) (by rfl) (by rfl) (by rfl) (by rfl) (by rfl) (by repeat (first | exact Sel.here | apply Sel.there)) (by rfl) ?_
      | refine XL.fa (by rfl) (by rfl) (by rfl) (by rfl) (by rfl) (by rfl) ?_
      | refine XL.ia1 (by rfl) (by rfl) (by rfl) (by rfl) (by rfl) (by rfl) (by rfl) (by omega) ?_
      | refine XL.ldr (by rfl) (by rfl) (by rfl) (by rfl) (by rfl) (by rfl) (by repeat (first | exact Sel.here | apply Sel.there)) (by assumption) ?_
      | refine XL.stl (by rfl) (by rfl) (by rfl) (by rfl) (by rfl) (by rfl) (by rfl) (by repeat (first | exact Sel.here | apply Sel.there)) (by rfl) ?_
      | refine XL.lenR (by rfl) (by rfl) (by rfl) (by rfl) (by rfl) (by rfl) (by rfl) (by first | exact fun w h => St.row (by repeat (first | exact Sel.here | apply Sel.there)) h | exact fun w h => St.rowF (by repeat (first | exact List.Mem.head _ | apply List.Mem.tail)) h) ?_
      | refine XL.iaR1 (by rfl) (by rfl) (by rfl) (by rfl) (by rfl) (by rfl) (by rfl) (by first | exact fun w h => St.row (by repeat (first | exact Sel.here | apply Sel.there)) h | exact fun w h => St.rowF (by repeat (first | exact List.Mem.head _ | apply List.Mem.tail)) h) (by omega) ?_
      | refine XL.ldR (by rfl) (by rfl) (by rfl) (by rfl) (by rfl) (by rfl) (by first | exact fun w h => St.row (by repeat (first | exact Sel.here | apply Sel.there)) h | exact fun w h => St.rowF (by repeat (first | exact List.Mem.head _ | apply List.Mem.tail)) h) (by assumption) ?_
      | refine XL.lenS (by rfl) (by rfl) (by rfl) (by rfl) (by rfl) (by rfl) (by rfl) ?_
      | refine XL.lenStr (by rfl) (by rfl) (by rfl) (by rfl) (by rfl) (by rfl) (by rfl) ?_
      | refine XL.succ (by rfl) (by rfl) (by rfl) (by rfl) (by rfl) (by rfl) (by omega) ?_
      | refine XL.addn (by rfl) (by rfl) (by rfl) (by rfl) (by rfl) (by rfl) (by omega) ?_
      | refine XL.add (by rfl) (by rfl) (by rfl) (by rfl) (by rfl) (by rfl) (by omega) ?_
      | refine XL.pred (by rfl) (by rfl) (by rfl) (by rfl) (by rfl) (by rfl) (by omega) ?_
      | refine XL.sub (by rfl) (by rfl) (by rfl) (by rfl) (by rfl) (by rfl) (by omega) ?_
      | refine XL.min2 (by rfl) (by rfl) (by rfl) (by rfl) (by rfl) (by rfl) ?_
      | refine XL.max2 (by rfl) (by rfl) (by rfl) (by rfl) (by rfl) (by rfl) ?_
      | refine XL.eqB (by rfl) (by rfl) (by rfl) (by rfl) (by rfl) (by rfl) (by rfl) ?_
      | refine XL.neB (by rfl) (by rfl) (by rfl) (by rfl) (by rfl) (by rfl) (by rfl) ?_
      | refine XL.psome (by rfl) (by rfl) (by rfl) (by rfl) (by rfl) (by rfl) (by rfl) ?_
      | refine XL.pnone (by rfl) (by rfl) (by rfl) (by rfl) (by rfl) (by rfl) (by rfl) ?_
      | refine XL.psome' (by rfl) (by rfl) (by rfl) (by rfl) (by rfl) (by rfl) (by rfl) ?_
      | refine XL.pnone' (by rfl) (by rfl) (by rfl) (by rfl) (by rfl) (by rfl) (by rfl) ?_
      | refine XL.conv64 (by rfl) (by rfl) (by rfl) (by rfl) (by rfl) (by rfl) (by rfl) (by omega) ?_)
  all_goals refine XL.triq (nfind_tri) (by rfl) (by rfl) (by rfl) (by rfl) (by rfl) (by rfl) (by rfl) (by repeat' (first | exact Sels.nil | exact Sel.here | apply Sels.cons | apply Sel.there)) (by repeat' (first | exact Sels.nil | exact Sel.here | apply Sels.cons | apply Sel.there)) (fun _ h => nomatch h) ?_
  all_goals repeat' (first
    | refine XC.seq ?_
      | refine XC.region ?_
      | refine XC.block ?_
      | refine XC.skip ?_
      | refine XC.ret ?_
      | refine XC.exit ?_
      | (refine XC.cond_d (by rfl) (fun h => ?_) (fun h => ?_) <;> try (exfalso; omega))
      | refine XC.cond_t (by rfl) ?_
      | refine XC.cond_f (by rfl) ?_
      | refine XQ.next ?_
      | refine XQ.blockN ?_
      | refine XQ.blockR ?_
      | refine XQ.blockE ?_
      | refine XQ.sqR ?_
      | refine XQ.sqE ?_
      | refine XQ.rdR ?_
      | refine XQ.rdE ?_
      | refine XQ.mtR ?_
      | refine XQ.mtE ?_
    | refine XL.nil ?_
      | (refine XL.guard_d (by rfl) (by rfl) (fun h => ?_) (fun h => ?_) <;> try (exfalso; omega))
      | refine XL.pures (by rfl) (by rfl) (by rfl) (by rfl) (by rfl) ?_
      | refine XL.not_d (by rfl) (by rfl) (by rfl) (by rfl) (by rfl) ?_
      | refine XL.pure 1 (by rfl) ?_
      | refine XL.fa0 (by rfl) (by rfl) (by rfl) (by rfl) (by rfl) (by rfl) ?_
      | refine XL.ld (by rfl) (by rfl) (by rfl) (by rfl) (by rfl) (by rfl) (by repeat (first | exact Sel.here | apply Sel.there)) (by rfl) ?_
      | refine XL.fa (by rfl) (by rfl) (by rfl) (by rfl) (by rfl) (by rfl) ?_
      | refine XL.ia1 (by rfl) (by rfl) (by rfl) (by rfl) (by rfl) (by rfl) (by rfl) (by omega) ?_
      | refine XL.ldr (by rfl) (by rfl) (by rfl) (by rfl) (by rfl) (by rfl) (by repeat (first | exact Sel.here | apply Sel.there)) (by assumption) ?_
      | refine XL.stl (by rfl) (by rfl) (by rfl) (by rfl) (by rfl) (by rfl) (by rfl) (by repeat (first | exact Sel.here | apply Sel.there)) (by rfl) ?_
      | refine XL.lenR (by rfl) (by rfl) (by rfl) (by rfl) (by rfl) (by rfl) (by rfl) (by first | exact fun w h => St.row (by repeat (first | exact Sel.here | apply Sel.there)) h | exact fun w h => St.rowF (by repeat (first | exact List.Mem.head _ | apply List.Mem.tail)) h) ?_
      | refine XL.iaR1 (by rfl) (by rfl) (by rfl) (by rfl) (by rfl) (by rfl) (by rfl) (by first | exact fun w h => St.row (by repeat (first | exact Sel.here | apply Sel.there)) h | exact fun w h => St.rowF (by repeat (first | exact List.Mem.head _ | apply List.Mem.tail)) h) (by omega) ?_
      | refine XL.ldR (by rfl) (by rfl) (by rfl) (by rfl) (by rfl) (by rfl) (by first | exact fun w h => St.row (by repeat (first | exact Sel.here | apply Sel.there)) h | exact fun w h => St.rowF (by repeat (first | exact List.Mem.head _ | apply List.Mem.tail)) h) (by assumption) ?_
      | refine XL.lenS (by rfl) (by rfl) (by rfl) (by rfl) (by rfl) (by rfl) (by rfl) ?_
      | refine XL.lenStr (by rfl) (by rfl) (by rfl) (by rfl) (by rfl) (by rfl) (by rfl) ?_
      | refine XL.succ (by rfl) (by rfl) (by rfl) (by rfl) (by rfl) (by rfl) (by omega) ?_
      | refine XL.addn (by rfl) (by rfl) (by rfl) (by rfl) (by rfl) (by rfl) (by omega) ?_
      | refine XL.add (by rfl) (by rfl) (by rfl) (by rfl) (by rfl) (by rfl) (by omega) ?_
      | refine XL.pred (by rfl) (by rfl) (by rfl) (by rfl) (by rfl) (by rfl) (by omega) ?_
      | refine XL.sub (by rfl) (by rfl) (by rfl) (by rfl) (by rfl) (by rfl) (by omega) ?_
      | refine XL.min2 (by rfl) (by rfl) (by rfl) (by rfl) (by rfl) (by rfl) ?_
      | refine XL.max2 (by rfl) (by rfl) (by rfl) (by rfl) (by rfl) (by rfl) ?_
      | refine XL.eqB (by rfl) (by rfl) (by rfl) (by rfl) (by rfl) (by rfl) (by rfl) ?_
      | refine XL.neB (by rfl) (by rfl) (by rfl) (by rfl) (by rfl) (by rfl) (by rfl) ?_
      | refine XL.psome (by rfl) (by rfl) (by rfl) (by rfl) (by rfl) (by rfl) (by rfl) ?_
      | refine XL.pnone (by rfl) (by rfl) (by rfl) (by rfl) (by rfl) (by rfl) (by rfl) ?_
      | refine XL.psome' (by rfl) (by rfl) (by rfl) (by rfl) (by rfl) (by rfl) (by rfl) ?_
      | refine XL.pnone' (by rfl) (by rfl) (by rfl) (by rfl) (by rfl) (by rfl) (by rfl) ?_
      | refine XL.conv64 (by rfl) (by rfl) (by rfl) (by rfl) (by rfl) (by rfl) (by rfl) (by omega) ?_)
  all_goals refine XL.triq (njoin_tri) (by rfl) (by rfl) (by rfl) (by rfl) (by rfl) (by rfl) (by rfl) (by repeat' (first | exact Sels.nil | exact Sel.here | apply Sels.cons | apply Sel.there)) (by repeat' (first | exact Sels.nil | exact Sel.here | apply Sels.cons | apply Sel.there)) (fun _ h => nomatch h) ?_
  all_goals repeat' (first
    | refine XC.seq ?_
      | refine XC.region ?_
      | refine XC.block ?_
      | refine XC.skip ?_
      | refine XC.ret ?_
      | refine XC.exit ?_
      | (refine XC.cond_d (by rfl) (fun h => ?_) (fun h => ?_) <;> try (exfalso; omega))
      | refine XC.cond_t (by rfl) ?_
      | refine XC.cond_f (by rfl) ?_
      | refine XQ.next ?_
      | refine XQ.blockN ?_
      | refine XQ.blockR ?_
      | refine XQ.blockE ?_
      | refine XQ.sqR ?_
      | refine XQ.sqE ?_
      | refine XQ.rdR ?_
      | refine XQ.rdE ?_
      | refine XQ.mtR ?_
      | refine XQ.mtE ?_
    | refine XL.nil ?_
      | (refine XL.guard_d (by rfl) (by rfl) (fun h => ?_) (fun h => ?_) <;> try (exfalso; omega))
      | refine XL.pures (by rfl) (by rfl) (by rfl) (by rfl) (by rfl) ?_
      | refine XL.not_d (by rfl) (by rfl) (by rfl) (by rfl) (by rfl) ?_
      | refine XL.pure 1 (by rfl) ?_
      | refine XL.fa0 (by rfl) (by rfl) (by rfl) (by rfl) (by rfl) (by rfl) ?_
      | refine XL.ld (by rfl) (by rfl) (by rfl) (by rfl) (by rfl) (by rfl) (by repeat (first | exact Sel.here | apply Sel.there)) (by rfl) ?_
      | refine XL.fa (by rfl) (by rfl) (by rfl) (by rfl) (by rfl) (by rfl) ?_
      | refine XL.ia1 (by rfl) (by rfl) (by rfl) (by rfl) (by rfl) (by rfl) (by rfl) (by omega) ?_
      | refine XL.ldr (by rfl) (by rfl) (by rfl) (by rfl) (by rfl) (by rfl) (by repeat (first | exact Sel.here | apply Sel.there)) (by assumption) ?_
      | refine XL.stl (by rfl) (by rfl) (by rfl) (by rfl) (by rfl) (by rfl) (by rfl) (by repeat (first | exact Sel.here | apply Sel.there)) (by rfl) ?_
      | refine XL.lenR (by rfl) (by rfl) (by rfl) (by rfl) (by rfl) (by rfl) (by rfl) (by first | exact fun w h => St.row (by repeat (first | exact Sel.here | apply Sel.there)) h | exact fun w h => St.rowF (by repeat (first | exact List.Mem.head _ | apply List.Mem.tail)) h) ?_
      | refine XL.iaR1 (by rfl) (by rfl) (by rfl) (by rfl) (by rfl) (by rfl) (by rfl) (by first | exact fun w h => St.row (by repeat (first | exact Sel.here | apply Sel.there)) h | exact fun w h => St.rowF (by repeat (first | exact List.Mem.head _ | apply List.Mem.tail)) h) (by omega) ?_
      | refine XL.ldR (by rfl) (by rfl) (by rfl) (by rfl) (by rfl) (by rfl) (by first | exact fun w h => St.row (by repeat (first | exact Sel.here | apply Sel.there)) h | exact fun w h => St.rowF (by repeat (first | exact List.Mem.head _ | apply List.Mem.tail)) h) (by assumption) ?_
      | refine XL.lenS (by rfl) (by rfl) (by rfl) (by rfl) (by rfl) (by rfl) (by rfl) ?_
      | refine XL.lenStr (by rfl) (by rfl) (by rfl) (by rfl) (by rfl) (by rfl) (by rfl) ?_
      | refine XL.succ (by rfl) (by rfl) (by rfl) (by rfl) (by rfl) (by rfl) (by omega) ?_
      | refine XL.addn (by rfl) (by rfl) (by rfl) (by rfl) (by rfl) (by rfl) (by omega) ?_
      | refine XL.add (by rfl) (by rfl) (by rfl) (by rfl) (by rfl) (by rfl) (by omega) ?_
      | refine XL.pred (by rfl) (by rfl) (by rfl) (by rfl) (by rfl) (by rfl) (by omega) ?_
      | refine XL.sub (by rfl) (by rfl) (by rfl) (by rfl) (by rfl) (by rfl) (by omega) ?_
      | refine XL.min2 (by rfl) (by rfl) (by rfl) (by rfl) (by rfl) (by rfl) ?_
      | refine XL.max2 (by rfl) (by rfl) (by rfl) (by rfl) (by rfl) (by rfl) ?_
      | refine XL.eqB (by rfl) (by rfl) (by rfl) (by rfl) (by rfl) (by rfl) (by rfl) ?_
      | refine XL.neB (by rfl) (by rfl) (by rfl) (by rfl) (by rfl) (by rfl) (by rfl) ?_
      | refine XL.psome (by rfl) (by rfl) (by rfl) (by rfl) (by rfl) (by rfl) (by rfl) ?_
      | refine XL.pnone (by rfl) (by rfl) (by rfl) (by rfl) (by rfl) (by rfl) (by rfl) ?_
      | refine XL.psome' (by rfl) (by rfl) (by rfl) (by rfl) (by rfl) (by rfl) (by rfl) ?_
      | refine XL.pnone' (by rfl) (by rfl) (by rfl) (by rfl) (by rfl) (by rfl) (by rfl) ?_
      | refine XL.conv64 (by rfl) (by rfl) (by rfl) (by rfl) (by rfl) (by rfl) (by rfl) (by omega) ?_)
  all_goals refine XL.triq (nsize_tri) (by rfl) (by rfl) (by rfl) (by rfl) (by rfl) (by rfl) (by rfl) (by repeat' (first | exact Sels.nil | exact Sel.here | apply Sels.cons | apply Sel.there)) (by repeat' (first | exact Sels.nil | exact Sel.here | apply Sels.cons | apply Sel.there)) (fun _ h => nomatch h) ?_
  all_goals repeat' (first
    | refine XC.seq ?_
      | refine XC.region ?_
      | refine XC.block ?_
      | refine XC.skip ?_
      | refine XC.ret ?_
      | refine XC.exit ?_
      | (refine XC.cond_d (by rfl) (fun h => ?_) (fun h => ?_) <;> try (exfalso; omega))
      | refine XC.cond_t (by rfl) ?_
      | refine XC.cond_f (by rfl) ?_
      | refine XQ.next ?_
      | refine XQ.blockN ?_
      | refine XQ.blockR ?_
      | refine XQ.blockE ?_
      | refine XQ.sqR ?_
      | refine XQ.sqE ?_
      | refine XQ.rdR ?_
      | refine XQ.rdE ?_
      | refine XQ.mtR ?_
      | refine XQ.mtE ?_
    | refine XL.nil ?_
      | (refine XL.guard_d (by rfl) (by rfl) (fun h => ?_) (fun h => ?_) <;> try (exfalso; omega))
      | refine XL.pures (by rfl) (by rfl) (by rfl) (by rfl) (by rfl) ?_
      | refine XL.not_d (by rfl) (by rfl) (by rfl) (by rfl) (by rfl) ?_
      | refine XL.pure 1 (by rfl) ?_
      | refine XL.fa0 (by rfl) (by rfl) (by rfl) (by rfl) (by rfl) (by rfl) ?_
      | refine XL.ld (by rfl) (by rfl) (by rfl) (by rfl) (by rfl) (by rfl) (by repeat (first | exact Sel.here | apply Sel.there)) (by rfl) ?_
      | refine XL.fa (by rfl) (by rfl) (by rfl) (by rfl) (by rfl) (by rfl) ?_
      | refine XL.ia1 (by rfl) (by rfl) (by rfl) (by rfl) (by rfl) (by rfl) (by rfl) (by omega) ?_
      | refine XL.ldr (by rfl) (by rfl) (by rfl) (by rfl) (by rfl) (by rfl) (by repeat (first | exact Sel.here | apply Sel.there)) (by assumption) ?_
      | refine XL.stl (by rfl) (by rfl) (by rfl) (by rfl) (by rfl) (by rfl) (by rfl) (by repeat (first | exact Sel.here | apply Sel.there)) (by rfl) ?_
      | refine XL.lenR (by rfl) (by rfl) (by rfl) (by rfl) (by rfl) (by rfl) (by rfl) (by first | exact fun w h => St.row (by repeat (first | exact Sel.here | apply Sel.there)) h | exact fun w h => St.rowF (by repeat (first | exact List.Mem.head _ | apply List.Mem.tail)) h) ?_
      | refine XL.iaR1 (by rfl) (by rfl) (by rfl) (by rfl) (by rfl) (by rfl) (by rfl) (by first | exact fun w h => St.row (by repeat (first | exact Sel.here | apply Sel.there)) h | exact fun w h => St.rowF (by repeat (first | exact List.Mem.head _ | apply List.Mem.tail)) h) (by omega) ?_
      | refine XL.ldR (by rfl) (by rfl) (by rfl) (by rfl) (by rfl) (by rfl) (by first | exact fun w h => St.row (by repeat (first | exact Sel.here | apply Sel.there)) h | exact fun w h => St.rowF (by repeat (first | exact List.Mem.head _ | apply List.Mem.tail)) h) (by assumption) ?_
      | refine XL.lenS (by rfl) (by rfl) (by rfl) (by rfl) (by rfl) (by rfl) (by rfl) ?_
      | refine XL.lenStr (by rfl) (by rfl) (by rfl) (by rfl) (by rfl) (by rfl) (by rfl) ?_
      | refine XL.succ (by rfl) (by rfl) (by rfl) (by rfl) (by rfl) (by rfl) (by omega) ?_
      | refine XL.addn (by rfl) (by rfl) (by rfl) (by rfl) (by rfl) (by rfl) (by omega) ?_
      | refine XL.add (by rfl) (by rfl) (by rfl) (by rfl) (by rfl) (by rfl) (by omega) ?_
      | refine XL.pred (by rfl) (by rfl) (by rfl) (by rfl) (by rfl) (by rfl) (by omega) ?_
      | refine XL.sub (by rfl) (by rfl) (by rfl) (by rfl) (by rfl) (by rfl) (by omega) ?_
      | refine XL.min2 (by rfl) (by rfl) (by rfl) (by rfl) (by rfl) (by rfl) ?_
      | refine XL.max2 (by rfl) (by rfl) (by rfl) (by rfl) (by rfl) (by rfl) ?_
      | refine XL.eqB (by rfl) (by rfl) (by rfl) (by rfl) (by rfl) (by rfl) (by rfl) ?_
      | refine XL.neB (by rfl) (by rfl) (by rfl) (by rfl) (by rfl) (by rfl) (by rfl) ?_
      | refine XL.psome (by rfl) (by rfl) (by rfl) (by rfl) (by rfl) (by rfl) (by rfl) ?_
      | refine XL.pnone (by rfl) (by rfl) (by rfl) (by rfl) (by rfl) (by rfl) (by rfl) ?_
      | refine XL.psome' (by rfl) (by rfl) (by rfl) (by rfl) (by rfl) (by rfl) (by rfl) ?_
      | refine XL.pnone' (by rfl) (by rfl) (by rfl) (by rfl) (by rfl) (by rfl) (by rfl) ?_
      | refine XL.conv64 (by rfl) (by rfl) (by rfl) (by rfl) (by rfl) (by rfl) (by rfl) (by omega) ?_)
  all_goals refine XL.triq (ncount_tri) (by rfl) (by rfl) (by rfl) (by rfl) (by rfl) (by rfl) (by rfl) (by repeat' (first | exact Sels.nil | exact Sel.here | apply Sels.cons | apply Sel.there)) (by repeat' (first | exact Sels.nil | exact Sel.here | apply Sels.cons | apply Sel.there)) (fun _ h => nomatch h) ?_
  all_goals repeat' (first
    | refine XC.seq ?_
      | refine XC.region ?_
      | refine XC.block ?_
      | refine XC.skip ?_
      | refine XC.ret ?_
      | refine XC.exit ?_
      | (refine XC.cond_d (by rfl) (fun h => ?_) (fun h => ?_) <;> try (exfalso; omega))
      | refine XC.cond_t (by rfl) ?_
      | refine XC.cond_f (by rfl) ?_
      | refine XQ.next ?_
      | refine XQ.blockN ?_
      | refine XQ.blockR ?_
      | refine XQ.blockE ?_
      | refine XQ.sqR ?_
      | refine XQ.sqE ?_
      | refine XQ.rdR ?_
      | refine XQ.rdE ?_
      | refine XQ.mtR ?_
      | refine XQ.mtE ?_
    | refine XL.nil ?_
      | (refine XL.guard_d (by rfl) (by rfl) (fun h => ?_) (fun h => ?_) <;> try (exfalso; omega))
      | refine XL.pures (by rfl) (by rfl) (by rfl) (by rfl) (by rfl) ?_
      | refine XL.not_d (by rfl) (by rfl) (by rfl) (by rfl) (by rfl) ?_
      | refine XL.pure 1 (by rfl) ?_
      | refine XL.fa0 (by rfl) (by rfl) (by rfl) (by rfl) (by rfl) (by rfl) ?_
      | refine XL.ld (by rfl) (by rfl) (by rfl) (by rfl) (by rfl) (by rfl) (by repeat (first | exact Sel.here | apply Sel.there)) (by rfl) ?_
      | refine XL.fa (by rfl) (by rfl) (by rfl) (by rfl) (by rfl) (by rfl) ?_
      | refine XL.ia1 (by rfl) (by rfl) (by rfl) (by rfl) (by rfl) (by rfl) (by rfl) (by omega) ?_
      | refine XL.ldr (by rfl) (by rfl) (by rfl) (by rfl) (by rfl) (by rfl) (by repeat (first | exact Sel.here | apply Sel.there)) (by assumption) ?_
      | refine XL.stl (by rfl) (by rfl) (by rfl) (by rfl) (by rfl) (by rfl) (by rfl) (by repeat (first | exact Sel.here | apply Sel.there)) (by rfl) ?_
      | refine XL.lenR (by rfl) (by rfl) (by rfl) (by rfl) (by rfl) (by rfl) (by rfl) (by first | exact fun w h => St.row (by repeat (first | exact Sel.here | apply Sel.there)) h | exact fun w h => St.rowF (by repeat (first | exact List.Mem.head _ | apply List.Mem.tail)) h) ?_
      | refine XL.iaR1 (by rfl) (by rfl) (by rfl) (by rfl) (by rfl) (by rfl) (by rfl) (by first | exact fun w h => St.row (by repeat (first | exact Sel.here | apply Sel.there)) h | exact fun w h => St.rowF (by repeat (first | exact List.Mem.head _ | apply List.Mem.tail)) h) (by omega) ?_
      | refine XL.ldR (by rfl) (by rfl) (by rfl) (by rfl) (by rfl) (by rfl) (by first | exact fun w h => St.row (by repeat (first | exact Sel.here | apply Sel.there)) h | exact fun w h => St.rowF (by repeat (first | exact List.Mem.head _ | apply List.Mem.tail)) h) (by assumption) ?_
      | refine XL.lenS (by rfl) (by rfl) (by rfl) (by rfl) (by rfl) (by rfl) (by rfl) ?_
      | refine XL.lenStr (by rfl) (by rfl) (by rfl) (by rfl) (by rfl) (by rfl) (by rfl) ?_
      | refine XL.succ (by rfl) (by rfl) (by rfl) (by rfl) (by rfl) (by rfl) (by omega) ?_
      | refine XL.addn (by rfl) (by rfl) (by rfl) (by rfl) (by rfl) (by rfl) (by omega) ?_
      | refine XL.add (by rfl) (by rfl) (by rfl) (by rfl) (by rfl) (by rfl) (by omega) ?_
      | refine XL.pred (by rfl) (by rfl) (by rfl) (by rfl) (by rfl) (by rfl) (by omega) ?_
      | refine XL.sub (by rfl) (by rfl) (by rfl) (by rfl) (by rfl) (by rfl) (by omega) ?_
      | refine XL.min2 (by rfl) (by rfl) (by rfl) (by rfl) (by rfl) (by rfl) ?_
      | refine XL.max2 (by rfl) (by rfl) (by rfl) (by rfl) (by rfl) (by rfl) ?_
      | refine XL.eqB (by rfl) (by rfl) (by rfl) (by rfl) (by rfl) (by rfl) (by rfl) ?_
      | refine XL.neB (by rfl) (by rfl) (by rfl) (by rfl) (by rfl) (by rfl) (by rfl) ?_
      | refine XL.psome (by rfl) (by rfl) (by rfl) (by rfl) (by rfl) (by rfl) (by rfl) ?_
      | refine XL.pnone (by rfl) (by rfl) (by rfl) (by rfl) (by rfl) (by rfl) (by rfl) ?_
      | refine XL.psome' (by rfl) (by rfl) (by rfl) (by rfl) (by rfl) (by rfl) (by rfl) ?_
      | refine XL.pnone' (by rfl) (by rfl) (by rfl) (by rfl) (by rfl) (by rfl) (by rfl) ?_
      | refine XL.conv64 (by rfl) (by rfl) (by rfl) (by rfl) (by rfl) (by rfl) (by rfl) (by omega) ?_)
  all_goals refine XL.triq (nlen_tri) (by rfl) (by rfl) (by rfl) (by rfl) (by rfl) (by rfl) (by rfl) (by repeat' (first | exact Sels.nil | exact Sel.here | apply Sels.cons | apply Sel.there)) (by repeat' (first | exact Sels.nil | exact Sel.here | apply Sels.cons | apply Sel.there)) (fun _ h => nomatch h) ?_
  all_goals repeat' (first
    | refine XC.seq ?_
      | refine XC.region ?_
      | refine XC.block ?_
      | refine XC.skip ?_
      | refine XC.ret ?_
      | refine XC.exit ?_
      | (refine XC.cond_d (by rfl) (fun h => ?_) (fun h => ?_) <;> try (exfalso; omega))
      | refine XC.cond_t (by rfl) ?_
      | refine XC.cond_f (by rfl) ?_
      | refine XQ.next ?_
      | refine XQ.blockN ?_
      | refine XQ.blockR ?_
      | refine XQ.blockE ?_
      | refine XQ.sqR ?_
      | refine XQ.sqE ?_
      | refine XQ.rdR ?_
      | refine XQ.rdE ?_
      | refine XQ.mtR ?_
      | refine XQ.mtE ?_
    | refine XL.nil ?_
      | (refine XL.guard_d (by rfl) (by rfl) (fun h => ?_) (fun h => ?_) <;> try (exfalso; omega))
      | refine XL.pures (by rfl) (by rfl) (by rfl) (by rfl) (by rfl) ?_
      | refine XL.not_d (by rfl) (by rfl) (by rfl) (by rfl) (by rfl) ?_
      | refine XL.pure 1 (by rfl) ?_
      | refine XL.fa0 (by rfl) (by rfl) (by rfl) (by rfl) (by rfl) (by rfl) ?_
      | refine XL.ld (by rfl) (by rfl) (by rfl) (by rfl) (by rfl) (by rfl) (by repeat (first | exact Sel.here | apply Sel.there)) (by rfl) ?_
      | refine XL.fa (by rfl) (by rfl) (by rfl) (by rfl) (by rfl) (by rfl) ?_
      | refine XL.ia1 (by rfl) (by rfl) (by rfl) (by rfl) (by rfl) (by rfl) (by rfl) (by omega) ?_
      | refine XL.ldr (by rfl) (by rfl) (by rfl) (by rfl) (by rfl) (by rfl) (by repeat (first | exact Sel.here | apply Sel.there)) (by assumption) ?_
      | refine XL.stl (by rfl) (by rfl) (by rfl) (by rfl) (by rfl) (by rfl) (by rfl) (by repeat (first | exact Sel.here | apply Sel.there)) (by rfl) ?_
      | refine XL.lenR (by rfl) (by rfl) (by rfl) (by rfl) (by rfl) (by rfl) (by rfl) (by first | exact fun w h => St.row (by repeat (first | exact Sel.here | apply Sel.there)) h | exact fun w h => St.rowF (by repeat (first | exact List.Mem.head _ | apply List.Mem.tail)) h) ?_
      | refine XL.iaR1 (by rfl) (by rfl) (by rfl) (by rfl) (by rfl) (by rfl) (by rfl) (by first | exact fun w h => St.row (by repeat (first | exact Sel.here | apply Sel.there)) h | exact fun w h => St.rowF (by repeat (first | exact List.Mem.head _ | apply List.Mem.tail)) h) (by omega) ?_
      | refine XL.ldR (by rfl) (by rfl) (by rfl) (by rfl) (by rfl) (by rfl) (by first | exact fun w h => St.row (by repeat (first | exact Sel.here | apply Sel.there)) h | exact fun w h => St.rowF (by repeat (first | exact List.Mem.head _ | apply List.Mem.tail)) h) (by assumption) ?_
      | refine XL.lenS (by rfl) (by rfl) (by rfl) (by rfl) (by rfl) (by rfl) (by rfl) ?_
      | refine XL.lenStr (by rfl) (by rfl) (by rfl) (by rfl) (by rfl) (by rfl) (by rfl) ?_
      | refine XL.succ (by rfl) (by rfl) (by rfl) (by rfl) (by rfl) (by rfl) (by omega) ?_
      | refine XL.addn (by rfl) (by rfl) (by rfl) (by rfl) (by rfl) (by rfl) (by omega) ?_
      | refine XL.add (by rfl) (by rfl) (by rfl) (by rfl) (by rfl) (by rfl) (by omega) ?_
      | refine XL.pred (by rfl) (by rfl) (by rfl) (by rfl) (by rfl) (by rfl) (by omega) ?_
      | refine XL.sub (by rfl) (by rfl) (by rfl) (by rfl) (by rfl) (by rfl) (by omega) ?_
      | refine XL.min2 (by rfl) (by rfl) (by rfl) (by rfl) (by rfl) (by rfl) ?_
      | refine XL.max2 (by rfl) (by rfl) (by rfl) (by rfl) (by rfl) (by rfl) ?_
      | refine XL.eqB (by rfl) (by rfl) (by rfl) (by rfl) (by rfl) (by rfl) (by rfl) ?_
      | refine XL.neB (by rfl) (by rfl) (by rfl) (by rfl) (by rfl) (by rfl) (by rfl) ?_
      | refine XL.psome (by rfl) (by rfl) (by rfl) (by rfl) (by rfl) (by rfl) (by rfl) ?_
      | refine XL.pnone (by rfl) (by rfl) (by rfl) (by rfl) (by rfl) (by rfl) (by rfl) ?_
      | refine XL.psome' (by rfl) (by rfl) (by rfl) (by rfl) (by rfl) (by rfl) (by rfl) ?_
      | refine XL.pnone' (by rfl) (by rfl) (by rfl) (by rfl) (by rfl) (by rfl) (by rfl) ?_
      | refine XL.conv64 (by rfl) (by rfl) (by rfl) (by rfl) (by rfl) (by rfl) (by rfl) (by omega) ?_)
  all_goals refine XL.triq (lenG_tri) (by rfl) (by rfl) (by rfl) (by rfl) (by rfl) (by rfl) (by rfl) (by repeat' (first | exact Sels.nil | exact Sel.here | apply Sels.cons | apply Sel.there)) (by repeat' (first | exact Sels.nil | exact Sel.here | apply Sels.cons | apply Sel.there)) (fun _ h => nomatch h) ?_
  all_goals repeat' (first
    | refine XC.seq ?_
      | refine XC.region ?_
      | refine XC.block ?_
      | refine XC.skip ?_
      | refine XC.ret ?_
      | refine XC.exit ?_
      | (refine XC.cond_d (by rfl) (fun h => ?_) (fun h => ?_) <;> try (exfalso; omega))
      | refine XC.cond_t (by rfl) ?_
      | refine XC.cond_f (by rfl) ?_
      | refine XQ.next ?_
      | refine XQ.blockN ?_
      | refine XQ.blockR ?_
      | refine XQ.blockE ?_
      | refine XQ.sqR ?_
      | refine XQ.sqE ?_
      | refine XQ.rdR ?_
      | refine XQ.rdE ?_
      | refine XQ.mtR ?_
      | refine XQ.mtE ?_
    | refine XL.nil ?_
      | (refine XL.guard_d (by rfl) (by rfl) (fun h => ?_) (fun h => ?_) <;> try (exfalso; omega))
      | refine XL.pures (by rfl) (by rfl) (by rfl) (by rfl) (by rfl) ?_
      | refine XL.not_d (by rfl) (by rfl) (by rfl) (by rfl) (by rfl) ?_
      | refine XL.pure 1 (by rfl) ?_
      | refine XL.fa0 (by rfl) (by rfl) (by rfl) (by rfl) (by rfl) (by rfl) ?_
      | refine XL.ld (by rfl) (by rfl) (by rfl) (by rfl) (by rfl) (by rfl) (by repeat (first | exact Sel.here | apply Sel.there)) (by rfl) ?_
      | refine XL.fa (by rfl) (by rfl) (by rfl) (by rfl) (by rfl) (by rfl) ?_
      | refine XL.ia1 (by rfl) (by rfl) (by rfl) (by rfl) (by rfl) (by rfl) (by rfl) (by omega) ?_
      | refine XL.ldr (by rfl) (by rfl) (by rfl) (by rfl) (by rfl) (by rfl) (by repeat (first | exact Sel.here | apply Sel.there)) (by assumption) ?_
      | refine XL.stl (by rfl) (by rfl) (by rfl) (by rfl) (by rfl) (by rfl) (by rfl) (by repeat (first | exact Sel.here | apply Sel.there)) (by rfl) ?_
      | refine XL.lenR (by rfl) (by rfl) (by rfl) (by rfl) (by rfl) (by rfl) (by rfl) (by first | exact fun w h => St.row (by repeat (first | exact Sel.here | apply Sel.there)) h | exact fun w h => St.rowF (by repeat (first | exact List.Mem.head _ | apply List.Mem.tail)) h) ?_
      | refine XL.iaR1 (by rfl) (by rfl) (by rfl) (by rfl) (by rfl) (by rfl) (by rfl) (by first | exact fun w h => St.row (by repeat (first | exact Sel.here | apply Sel.there)) h | exact fun w h => St.rowF (by repeat (first | exact List.Mem.head _ | apply List.Mem.tail)) h) (by omega) ?_
      | refine XL.ldR (by rfl) (by rfl) (by rfl) (by rfl) (by rfl) (by rfl) (by first | exact fun w h => St.row (by repeat (first | exact Sel.here | apply Sel.there)) h | exact fun w h => St.rowF (by repeat (first | exact List.Mem.head _ | apply List.Mem.tail)) h) (by assumption) ?_
      | refine XL.lenS (by rfl) (by rfl) (by rfl) (by rfl) (by rfl) (by rfl) (by rfl) ?_
      | refine XL.lenStr (by rfl) (by rfl) (by rfl) (by rfl) (by rfl) (by rfl) (by rfl) ?_
      | refine XL.succ (by rfl) (by rfl) (by rfl) (by rfl) (by rfl) (by rfl) (by omega) ?_
      | refine XL.addn (by rfl) (by rfl) (by rfl) (by rfl) (by rfl) (by rfl) (by omega) ?_
      | refine XL.add (by rfl) (by rfl) (by rfl) (by rfl) (by rfl) (by rfl) (by omega) ?_
      | refine XL.pred (by rfl) (by rfl) (by rfl) (by rfl) (by rfl) (by rfl) (by omega) ?_
      | refine XL.sub (by rfl) (by rfl) (by rfl) (by rfl) (by rfl) (by rfl) (by omega) ?_
      | refine XL.min2 (by rfl) (by rfl) (by rfl) (by rfl) (by rfl) (by rfl) ?_
      | refine XL.max2 (by rfl) (by rfl) (by rfl) (by rfl) (by rfl) (by rfl) ?_
      | refine XL.eqB (by rfl) (by rfl) (by rfl) (by rfl) (by rfl) (by rfl) (by rfl) ?_
      | refine XL.neB (by rfl) (by rfl) (by rfl) (by rfl) (by rfl) (by rfl) (by rfl) ?_
      | refine XL.psome (by rfl) (by rfl) (by rfl) (by rfl) (by rfl) (by rfl) (by rfl) ?_
      | refine XL.pnone (by rfl) (by rfl) (by rfl) (by rfl) (by rfl) (by rfl) (by rfl) ?_
      | refine XL.psome' (by rfl) (by rfl) (by rfl) (by rfl) (by rfl) (by rfl) (by rfl) ?_
      | refine XL.pnone' (by rfl) (by rfl) (by rfl) (by rfl) (by rfl) (by rfl) (by rfl) ?_
      | refine XL.conv64 (by rfl) (by rfl) (by rfl) (by rfl) (by rfl) (by rfl) (by rfl) (by omega) ?_)
  all_goals refine XL.triq (count_is (n := 0) (x := 0) (by decide) (by rfl)) (by rfl) (by rfl) (by rfl) (by rfl) (by rfl) (by rfl) (by rfl) (by repeat' (first | exact Sels.nil | exact Sel.here | apply Sels.cons | apply Sel.there)) (by repeat' (first | exact Sels.nil | exact Sel.here | apply Sels.cons | apply Sel.there)) (fun _ h => nomatch h) ?_
  all_goals repeat' (first
    | refine XC.seq ?_
      | refine XC.region ?_
      | refine XC.block ?_
      | refine XC.skip ?_
      | refine XC.ret ?_
      | refine XC.exit ?_
      | (refine XC.cond_d (by rfl) (fun h => ?_) (fun h => ?_) <;> try (exfalso; omega))
      | refine XC.cond_t (by rfl) ?_
      | refine XC.cond_f (by rfl) ?_
      | refine XQ.next ?_
      | refine XQ.blockN ?_
      | refine XQ.blockR ?_
      | refine XQ.blockE ?_
      | refine XQ.sqR ?_
      | refine XQ.sqE ?_
      | refine XQ.rdR ?_
      | refine XQ.rdE ?_
      | refine XQ.mtR ?_
      | refine XQ.mtE ?_
    | refine XL.nil ?_
      | (refine XL.guard_d (by rfl) (by rfl) (fun h => ?_) (fun h => ?_) <;> try (exfalso; omega))
      | refine XL.pures (by rfl) (by rfl) (by rfl) (by rfl) (by rfl) ?_
      | refine XL.not_d (by rfl) (by rfl) (by rfl) (by rfl) (by rfl) ?_
      | refine XL.pure 1 (by rfl) ?_
      | refine XL.fa0 (by rfl) (by rfl) (by rfl) (by rfl) (by rfl) (by rfl) ?_
      | refine XL.ld (by rfl) (by rfl) (by rfl) (by rfl) (by rfl) (by rfl) (by repeat (first | exact Sel.here | apply Sel.there)) (by rfl) ?_
      | refine XL.fa (by rfl) (by rfl) (by rfl) (by rfl) (by rfl) (by rfl) ?_
      | refine XL.ia1 (by rfl) (by rfl) (by rfl) (by rfl) (by rfl) (by rfl) (by rfl) (by omega) ?_
      | refine XL.ldr (by rfl) (by rfl) (by rfl) (by rfl) (by rfl) (by rfl) (by repeat (first | exact Sel.here | apply Sel.there)) (by assumption) ?_
      | refine XL.stl (by rfl) (by rfl) (by rfl) (by rfl) (by rfl) (by rfl) (by rfl) (by repeat (first | exact Sel.here | apply Sel.there)) (by rfl) ?_
      | refine XL.lenR (by rfl) (by rfl) (by rfl) (by rfl) (by rfl) (by rfl) (by rfl) (by first | exact fun w h => St.row (by repeat (first | exact Sel.here | apply Sel.there)) h | exact fun w h => St.rowF (by repeat (first | exact List.Mem.head _ | apply List.Mem.tail)) h) ?_
      | refine XL.iaR1 (by rfl) (by rfl) (by rfl) (by rfl) (by rfl) (by rfl) (by rfl) (by first | exact fun w h => St.row (by repeat (first | exact Sel.here | apply Sel.there)) h | exact fun w h => St.rowF (by repeat (first | exact List.Mem.head _ | apply List.Mem.tail)) h) (by omega) ?_
      | refine XL.ldR (by rfl) (by rfl) (by rfl) (by rfl) (by rfl) (by rfl) (by first | exact fun w h => St.row (by repeat (first | exact Sel.here | apply Sel.there)) h | exact fun w h => St.rowF (by repeat (first | exact List.Mem.head _ | apply List.Mem.tail)) h) (by assumption) ?_
      | refine XL.lenS (by rfl) (by rfl) (by rfl) (by rfl) (by rfl) (by rfl) (by rfl) ?_
      | refine XL.lenStr (by rfl) (by rfl) (by rfl) (by rfl) (by rfl) (by rfl) (by rfl) ?_
      | refine XL.succ (by rfl) (by rfl) (by rfl) (by rfl) (by rfl) (by rfl) (by omega) ?_
      | refine XL.addn (by rfl) (by rfl) (by rfl) (by rfl) (by rfl) (by rfl) (by omega) ?_
      | refine XL.add (by rfl) (by rfl) (by rfl) (by rfl) (by rfl) (by rfl) (by omega) ?_
      | refine XL.pred (by rfl) (by rfl) (by rfl) (by rfl) (by rfl) (by rfl) (by omega) ?_
      | refine XL.sub (by rfl) (by rfl) (by rfl) (by rfl) (by rfl) (by rfl) (by omega) ?_
      | refine XL.min2 (by rfl) (by rfl) (by rfl) (by rfl) (by rfl) (by rfl) ?_
      | refine XL.max2 (by rfl) (by rfl) (by rfl) (by rfl) (by rfl) (by rfl) ?_
      | refine XL.eqB (by rfl) (by rfl) (by rfl) (by rfl) (by rfl) (by rfl) (by rfl) ?_
      | refine XL.neB (by rfl) (by rfl) (by rfl) (by rfl) (by rfl) (by rfl) (by rfl) ?_
      | refine XL.psome (by rfl) (by rfl) (by rfl) (by rfl) (by rfl) (by rfl) (by rfl) ?_
      | refine XL.pnone (by rfl) (by rfl) (by rfl) (by rfl) (by rfl) (by rfl) (by rfl) ?_
      | refine XL.psome' (by rfl) (by rfl) (by rfl) (by rfl) (by rfl) (by rfl) (by rfl) ?_
      | refine XL.pnone' (by rfl) (by rfl) (by rfl) (by rfl) (by rfl) (by rfl) (by rfl) ?_
      | refine XL.conv64 (by rfl) (by rfl) (by rfl) (by rfl) (by rfl) (by rfl) (by rfl) (by omega) ?_)
  all_goals exact XQ.conv (fun w h => h.drop .here) (XQ.ret1 (by rfl) (by rfl) ⟨rfl, rfl, rfl⟩)
theorem uniteNobody_walk (a0 a1 : Int) (_ : (Lit.int .i64 a0).wf = true) (w1 : (Lit.int .i64 a1).wf = true) (w : World) : Calls Try.prog 6 #[.int .i64 a0, .int .i64 a1] w fun e w' => e = .returned (.bool true) ∧ RowKit.Below w.heap.size w w' := by
  have hx : -9223372036854775808 ≤ a1 ∧ a1 ≤ 9223372036854775807 := by simpa [Lit.wf, IntKind.min, IntKind.max, IntKind.signed, IntKind.bits] using w1
  exact Tri.top (nobody_tri hx) (fun _ h => nomatch h)
namespace uniteNobody
open Go.ChangeShapes Go.WideShapes Go.ChangeAt Go.RowKit
set_option maxRecDepth 100000 in
theorem lifted (os : Os) (started : os.Started) (H : Type) (enc : TypeId × Value → H) :
    ReturnsInHanded {} Try.checked os 6 .any (Rows.uniteNobodySpec.pre6 enc Try.prog Try.f6 Rows.uniteNobodyRow.domain false) (Rows.uniteNobodySpec.post enc Try.prog Try.f6 false true false false) := by
  refine returnsInHanded_of_change (C := Try.checked) own started (by kernel_rfl) Try.func6
    (ChangeSpec.witness6 (enc := enc) (C := Try.checked) false ⟨#[], #[.int .i64 0, .int .i64 0], []⟩ 8 (by kernel_rfl) (by kernel_rfl) (by kernel_rfl) (by kernel_rfl)) ?_
  intro W base args ds gs before hval0 hW hcnd _
  have hval : ∀ (j : Nat) t v, Try.f6.params[j]? = some t → args[j]? = some v → Value.okWide Try.prog W .any base t v := hval0
  have hW' := hW
  obtain ⟨p, q, hA0, hV, rfl, hfz, hnd⟩ := hW
  have hA : DataW.TrodAll enc Try.prog W 0 (fun _ => true) true Try.f6.params.toList args.toList ds p := hA0
  rw [Try.params6] at hA hval
  obtain ⟨v0, vs0, d0, ds0, p0, q0, hargs, rfl, rfl, h0, r0⟩ := trodAll_cons hA
  obtain ⟨v1, vs1, d1, ds1, p1, q1, rfl, rfl, rfl, h1, r1⟩ := trodAll_cons r0
  obtain ⟨rfl, rfl, rfl⟩ := trodAll_nil r1
  obtain rfl : args = #[v0, v1] := by cases args; simp_all
  obtain ⟨a0, rfl, rfl, rfl, w0⟩ := open_int Try.underlying3 (hval 0 3 v0 rfl rfl) h0
  obtain ⟨a1, rfl, rfl, rfl, w1⟩ := open_int Try.underlying3 (hval 1 3 v1 rfl rfl) h1
  refine (uniteNobody_walk a0 a1 w0 w1 W).mono fun e W' ⟨he, hg⟩ => ?_
  subst he
  exact ⟨_, rfl, law_post hW' rfl (by kernel_rfl) (by rw [Try.params6]; intro t ht; simp at ht; rcases ht with rfl <;> exact ⟨by kernel_rfl, of_decide_eq_true (by kernel_rfl)⟩) (T := 4) (by rfl) Try.underlying4
    (fun ds hl => by match ds, hl with | [e0, e1], _ => exact ⟨rfl, rfl, rfl⟩) hg⟩
theorem over : Rows.uniteNobodyRow.holds Try.pinned (OpenSpec.ofChange Rows.uniteNobodySpec) :=
  OpenClaim.holds_of_wide 6 Try.f6 rfl rfl rfl rfl rfl rfl rfl ⟨rfl, rfl, rfl, rfl, rfl⟩ rfl rfl rfl rfl rfl (by kernel_rfl) Try.func6 (by kernel_rfl)
    (of_decide_eq_true (by kernel_rfl)) (by unfold Func.isWrapper; first | (rw [if_pos (by decide +kernel)]; kernel_rfl) | (rw [if_neg (by decide +kernel)]; exact ⟨rfl, rfl⟩))
    (fun os started H enc _ => lifted os started H enc)
theorem proved : Rows.UniteNobodySaid := over
end uniteNobody
#print axioms uniteNobody.proved
end Go.Proofs.Ytkhjnmhingdmoaa
