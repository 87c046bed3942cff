/- The maker of constraints: its small functions. -/
import Derived.Test.YtafochlcnjeanaaGreatG6
namespace Go.Proofs.YtafochlcnjeanaaGreat
open Go X
set_option maxRecDepth 100000
set_option maxHeartbeats 4000000
attribute [local irreducible] XC XL XQ Tri blk Shows Sq Rd Mt inBlockX
attribute [local irreducible] rowO
/-- The maker, as it lies. -/
abbrev mkB (p : ProgM) (mb : Nat) (fv : Value) (fn : Nat) : SP := cel mb #[p.sites, p.fns, .int .i64 p.main, fv, .int .i64 (fn : Int)] 61
/-- The first variables, as they lie. -/
abbrev fF (p : ProgM) (fv : Value) : FP := Row.fp 1 fv p.fnL.length (ints (firsts p p.fnL.length))
theorem reg_tri {p : ProgM} {mb fn : Nat} {fv : Value} {x : Int} (hfn : fn < p.fnL.length) : Tri Tryz.prog 29 [.pointer (some ⟨mb, 0, none⟩), .int .i64 x] [mkB p mb fv fn] [fF p fv] fun e L Φ =>
    e = .returned (.int .i64 (w64 (first p fn + x))) ∧ L = [mkB p mb fv fn] ∧ Φ = [] := by
  refine Tri.of Tryz.func29 rfl fun c => ?_
  have gf := firsts_get (p := p) hfn
  repeat' (first
    | refine W82 ?_
    | refine W83 ?_
    | refine W84 ?_
    | refine W85 ?_
    | refine W86 ?_
    | refine W87 ?_
    | (refine W89 (fun h => ?_) (fun h => ?_) <;> try (first | (exfalso; omega) | exact absurd rfl h | (exfalso; simp at h <;> omega)))
    | refine W90 ?_
    | refine W91 ?_
    | refine W94 ?_
    | refine W98 ?_
    | refine W99 ?_
    | refine W100 ?_
    | refine W101 ?_
    | refine W102 ?_
    | refine W103 ?_
    | refine W104 ?_
    | refine W105 ?_
    | refine W106 ?_
    | refine W1 ?_
    | (refine W2 (fun h => ?_) (fun h => ?_) <;> try (first | (exfalso; omega) | exact absurd rfl h | (exfalso; simp at h <;> omega)))
    | refine W3 ?_
    | refine W32 ?_
    | refine XL.pure 1 (by rfl) ?_
    | refine W13 ?_
    | refine W5 ?_
    | refine W14 ?_
    | refine W18 ?_
    | refine W6 ?_
    | refine W24 ?_
    | refine W27 ?_
    | refine W19 ?_
    | refine W20 ?_
    | refine W15 ?_
    | refine W7 ?_
    | refine W28 ?_
    | refine W29 ?_
    | refine W34 ?_
    | refine W35 ?_
    | refine W36 ?_
    | refine W37 ?_
    | refine W38 ?_
    | refine W39 ?_
    | refine W30 ?_
    | refine W31 ?_
    | refine W40 ?_
    | refine W41 ?_
    | refine W42 ?_
    | refine W43 ?_
    | refine W44 ?_
    | refine W45 ?_
    | refine W47 ?_
    | refine W108 ?_
    | refine W109 ?_
    | refine W8 ?_
    | refine W21 ?_
    | refine W22 ?_
    | refine W16 ?_
    | refine W9 ?_
    | refine W10 ?_
    | refine W48 ?_
    | (refine W49 (fun b => ?_))
    | (refine W50 (fun b => ?_))
    | (refine W51 (fun b => ?_))
    | refine W25 ?_)
  first | refine XL.addw (by rfl) (by rfl) (by rfl) (by rfl) (by rfl) (by rfl) ?_ | refine XL.subw (by rfl) (by rfl) (by rfl) (by rfl) (by rfl) (by rfl) ?_
  repeat' (first
    | refine W82 ?_
    | refine W83 ?_
    | refine W84 ?_
    | refine W85 ?_
    | refine W86 ?_
    | refine W87 ?_
    | (refine W89 (fun h => ?_) (fun h => ?_) <;> try (first | (exfalso; omega) | exact absurd rfl h | (exfalso; simp at h <;> omega)))
    | refine W90 ?_
    | refine W91 ?_
    | refine W94 ?_
    | refine W98 ?_
    | refine W99 ?_
    | refine W100 ?_
    | refine W101 ?_
    | refine W102 ?_
    | refine W103 ?_
    | refine W104 ?_
    | refine W105 ?_
    | refine W106 ?_
    | refine W1 ?_
    | (refine W2 (fun h => ?_) (fun h => ?_) <;> try (first | (exfalso; omega) | exact absurd rfl h | (exfalso; simp at h <;> omega)))
    | refine W3 ?_
    | refine W32 ?_
    | refine XL.pure 1 (by rfl) ?_
    | refine W13 ?_
    | refine W5 ?_
    | refine W14 ?_
    | refine W18 ?_
    | refine W6 ?_
    | refine W24 ?_
    | refine W27 ?_
    | refine W19 ?_
    | refine W20 ?_
    | refine W15 ?_
    | refine W7 ?_
    | refine W28 ?_
    | refine W29 ?_
    | refine W34 ?_
    | refine W35 ?_
    | refine W36 ?_
    | refine W37 ?_
    | refine W38 ?_
    | refine W39 ?_
    | refine W30 ?_
    | refine W31 ?_
    | refine W40 ?_
    | refine W41 ?_
    | refine W42 ?_
    | refine W43 ?_
    | refine W44 ?_
    | refine W45 ?_
    | refine W47 ?_
    | refine W108 ?_
    | refine W109 ?_
    | refine W8 ?_
    | refine W21 ?_
    | refine W22 ?_
    | refine W16 ?_
    | refine W9 ?_
    | refine W10 ?_
    | refine W48 ?_
    | (refine W49 (fun b => ?_))
    | (refine W50 (fun b => ?_))
    | (refine W51 (fun b => ?_))
    | refine W25 ?_)
  refine XQ.done1 (by rfl) (by rfl) (⟨rfl, rfl, rfl⟩) (by (repeat' (first | exact Sels.nil | exact Sel.here | apply Sels.cons | apply Sel.there)); done) (by (repeat (first | exact sub0 | refine subC (by repeat (first | exact List.Mem.head _ | apply List.Mem.tail)) ?_)); done)
theorem told_m_tri {p : ProgM} (hp : p.OK) {mb fn : Nat} {fv : Value} {k : Int} (h0 : 0 ≤ k) (h1 : k < p.fnL.length) : Tri Tryz.prog 33 [.pointer (some ⟨mb, 0, none⟩), .int .i64 k] [mkB p mb fv fn] [progFP p, fF p fv] fun e L Φ =>
    e = .returned (.int .i64 (told p k)) ∧ L = [mkB p mb fv fn] ∧ Φ = [] := by
  refine Tri.of Tryz.func33 rfl fun c => ?_
  obtain ⟨m, rfl⟩ := Int.eq_ofNat_of_zero_le h0
  obtain ⟨F, hF, mF⟩ := get_of_lt (l := p.fnL) (i := m) (by omega)
  have gf := firsts_get (p := p) (k := p.fnL.length) (i := m) (by omega)
  have aF := fn_at hF
  have e : told p (m : Int) = first p m + F.regs := by rw [told, Int.toNat_natCast, first_succ hF]; omega
  have h3 := hp.first m
  have h4 := hp.regs F mF
  repeat' (first
    | refine W82 ?_
    | refine W83 ?_
    | refine W84 ?_
    | refine W85 ?_
    | refine W86 ?_
    | refine W87 ?_
    | (refine W89 (fun h => ?_) (fun h => ?_) <;> try (first | (exfalso; omega) | exact absurd rfl h | (exfalso; simp at h <;> omega)))
    | refine W90 ?_
    | refine W91 ?_
    | refine W94 ?_
    | refine W98 ?_
    | refine W99 ?_
    | refine W100 ?_
    | refine W101 ?_
    | refine W102 ?_
    | refine W103 ?_
    | refine W104 ?_
    | refine W105 ?_
    | refine W106 ?_
    | refine W1 ?_
    | (refine W2 (fun h => ?_) (fun h => ?_) <;> try (first | (exfalso; omega) | exact absurd rfl h | (exfalso; simp at h <;> omega)))
    | refine W3 ?_
    | refine W32 ?_
    | refine XL.pure 1 (by rfl) ?_
    | refine W13 ?_
    | refine W5 ?_
    | refine W14 ?_
    | refine W18 ?_
    | refine W6 ?_
    | refine W24 ?_
    | refine W27 ?_
    | refine W19 ?_
    | refine W20 ?_
    | refine W15 ?_
    | refine W7 ?_
    | refine W28 ?_
    | refine W29 ?_
    | refine W34 ?_
    | refine W35 ?_
    | refine W36 ?_
    | refine W37 ?_
    | refine W38 ?_
    | refine W39 ?_
    | refine W30 ?_
    | refine W31 ?_
    | refine W40 ?_
    | refine W41 ?_
    | refine W42 ?_
    | refine W43 ?_
    | refine W44 ?_
    | refine W45 ?_
    | refine W47 ?_
    | refine W108 ?_
    | refine W109 ?_
    | refine W8 ?_
    | refine W21 ?_
    | refine W22 ?_
    | refine W16 ?_
    | refine W9 ?_
    | refine W10 ?_
    | refine W48 ?_
    | (refine W49 (fun b => ?_))
    | (refine W50 (fun b => ?_))
    | (refine W51 (fun b => ?_))
    | refine W25 ?_)
  rw [e]
  refine XQ.done1 (by rfl) (by rfl) (⟨rfl, rfl, rfl⟩) (by (repeat' (first | exact Sels.nil | exact Sel.here | apply Sels.cons | apply Sel.there)); done) (by (repeat (first | exact sub0 | refine subC (by repeat (first | exact List.Mem.head _ | apply List.Mem.tail)) ?_)); done)
theorem some_tri {v : Value} : Tri Tryz.prog 31 [v] [] [] fun e L Φ => e = .returned v ∧ L = [] ∧ Φ = [] := by
  refine Tri.of Tryz.func31 rfl fun c => ?_
  repeat' (first
    | refine W82 ?_
    | refine W83 ?_
    | refine W84 ?_
    | refine W85 ?_
    | refine W86 ?_
    | refine W87 ?_
    | (refine W89 (fun h => ?_) (fun h => ?_) <;> try (first | (exfalso; omega) | exact absurd rfl h | (exfalso; simp at h <;> omega)))
    | refine W90 ?_
    | refine W91 ?_
    | refine W94 ?_
    | refine W98 ?_
    | refine W99 ?_
    | refine W100 ?_
    | refine W101 ?_
    | refine W102 ?_
    | refine W103 ?_
    | refine W104 ?_
    | refine W105 ?_
    | refine W106 ?_
    | refine W1 ?_
    | (refine W2 (fun h => ?_) (fun h => ?_) <;> try (first | (exfalso; omega) | exact absurd rfl h | (exfalso; simp at h <;> omega)))
    | refine W3 ?_
    | refine W32 ?_
    | refine XL.pure 1 (by rfl) ?_
    | refine W13 ?_
    | refine W5 ?_
    | refine W14 ?_
    | refine W18 ?_
    | refine W6 ?_
    | refine W24 ?_
    | refine W27 ?_
    | refine W19 ?_
    | refine W20 ?_
    | refine W15 ?_
    | refine W7 ?_
    | refine W28 ?_
    | refine W29 ?_
    | refine W34 ?_
    | refine W35 ?_
    | refine W36 ?_
    | refine W37 ?_
    | refine W38 ?_
    | refine W39 ?_
    | refine W30 ?_
    | refine W31 ?_
    | refine W40 ?_
    | refine W41 ?_
    | refine W42 ?_
    | refine W43 ?_
    | refine W44 ?_
    | refine W45 ?_
    | refine W47 ?_
    | refine W108 ?_
    | refine W109 ?_
    | refine W8 ?_
    | refine W21 ?_
    | refine W22 ?_
    | refine W16 ?_
    | refine W9 ?_
    | refine W10 ?_
    | refine W48 ?_
    | (refine W49 (fun b => ?_))
    | (refine W50 (fun b => ?_))
    | (refine W51 (fun b => ?_))
    | refine W25 ?_)
  refine XQ.done1 (by rfl) (by rfl) (⟨rfl, rfl, rfl⟩) (by (repeat' (first | exact Sels.nil | exact Sel.here | apply Sels.cons | apply Sel.there)); done) (by (repeat (first | exact sub0 | refine subC (by repeat (first | exact List.Mem.head _ | apply List.Mem.tail)) ?_)); done)
theorem con_tri {p : ProgM} {mb fn b2 b3 : Nat} {fv : Value} {I : InsnM} {k n : Int} (hfn : fn < p.fnL.length) :
    Tri Tryz.prog 28 ([] ++ [.int .i64 k, .int .i64 n] ++ [.pointer (some ⟨b2, 0, none⟩), .pointer (some ⟨b3, 0, none⟩)]) [cel b2 #[.pointer (some ⟨mb, 0, none⟩)] 59, cel b3 I.cells.toArray 36, mkB p mb fv fn] [fF p fv] fun e L Φ =>
      e = .returned (ConM.v ⟨two k (w64 (first p fn + I.a)) (w64 (first p fn + I.b)) n, .slice none 0 0⟩) ∧ L = [cel b2 #[.pointer (some ⟨mb, 0, none⟩)] 59, cel b3 I.cells.toArray 36, mkB p mb fv fn] ∧ Φ = [] := by
  refine Tri.of Tryz.func28 rfl fun c => ?_
  repeat' (first
    | refine W82 ?_
    | refine W83 ?_
    | refine W84 ?_
    | refine W85 ?_
    | refine W86 ?_
    | refine W87 ?_
    | (refine W89 (fun h => ?_) (fun h => ?_) <;> try (first | (exfalso; omega) | exact absurd rfl h | (exfalso; simp at h <;> omega)))
    | refine W90 ?_
    | refine W91 ?_
    | refine W94 ?_
    | refine W98 ?_
    | refine W99 ?_
    | refine W100 ?_
    | refine W101 ?_
    | refine W102 ?_
    | refine W103 ?_
    | refine W104 ?_
    | refine W105 ?_
    | refine W106 ?_
    | refine W1 ?_
    | (refine W2 (fun h => ?_) (fun h => ?_) <;> try (first | (exfalso; omega) | exact absurd rfl h | (exfalso; simp at h <;> omega)))
    | refine W3 ?_
    | refine W32 ?_
    | refine XL.pure 1 (by rfl) ?_
    | refine W13 ?_
    | refine W5 ?_
    | refine W14 ?_
    | refine W18 ?_
    | refine W6 ?_
    | refine W24 ?_
    | refine W27 ?_
    | refine W19 ?_
    | refine W20 ?_
    | refine W15 ?_
    | refine W7 ?_
    | refine W28 ?_
    | refine W29 ?_
    | refine W34 ?_
    | refine W35 ?_
    | refine W36 ?_
    | refine W37 ?_
    | refine W38 ?_
    | refine W39 ?_
    | refine W30 ?_
    | refine W31 ?_
    | refine W40 ?_
    | refine W41 ?_
    | refine W42 ?_
    | refine W43 ?_
    | refine W44 ?_
    | refine W45 ?_
    | refine W47 ?_
    | refine W108 ?_
    | refine W109 ?_
    | refine W8 ?_
    | refine W21 ?_
    | refine W22 ?_
    | refine W16 ?_
    | refine W9 ?_
    | refine W10 ?_
    | refine W48 ?_
    | (refine W49 (fun b => ?_))
    | (refine W50 (fun b => ?_))
    | (refine W51 (fun b => ?_))
    | refine W25 ?_)
  refine XC.tail 11 (by kernel_rfl) (by decide +kernel) (fun _ m h => h.drewn m) ?_
  repeat' (first
    | refine W82 ?_
    | refine W83 ?_
    | refine W84 ?_
    | refine W85 ?_
    | refine W86 ?_
    | refine W87 ?_
    | (refine W89 (fun h => ?_) (fun h => ?_) <;> try (first | (exfalso; omega) | exact absurd rfl h | (exfalso; simp at h <;> omega)))
    | refine W90 ?_
    | refine W91 ?_
    | refine W94 ?_
    | refine W98 ?_
    | refine W99 ?_
    | refine W100 ?_
    | refine W101 ?_
    | refine W102 ?_
    | refine W103 ?_
    | refine W104 ?_
    | refine W105 ?_
    | refine W106 ?_
    | refine W1 ?_
    | (refine W2 (fun h => ?_) (fun h => ?_) <;> try (first | (exfalso; omega) | exact absurd rfl h | (exfalso; simp at h <;> omega)))
    | refine W3 ?_
    | refine W32 ?_
    | refine XL.pure 1 (by rfl) ?_
    | refine W13 ?_
    | refine W5 ?_
    | refine W14 ?_
    | refine W18 ?_
    | refine W6 ?_
    | refine W24 ?_
    | refine W27 ?_
    | refine W19 ?_
    | refine W20 ?_
    | refine W15 ?_
    | refine W7 ?_
    | refine W28 ?_
    | refine W29 ?_
    | refine W34 ?_
    | refine W35 ?_
    | refine W36 ?_
    | refine W37 ?_
    | refine W38 ?_
    | refine W39 ?_
    | refine W30 ?_
    | refine W31 ?_
    | refine W40 ?_
    | refine W41 ?_
    | refine W42 ?_
    | refine W43 ?_
    | refine W44 ?_
    | refine W45 ?_
    | refine W47 ?_
    | refine W108 ?_
    | refine W109 ?_
    | refine W8 ?_
    | refine W21 ?_
    | refine W22 ?_
    | refine W16 ?_
    | refine W9 ?_
    | refine W10 ?_
    | refine W48 ?_
    | (refine W49 (fun b => ?_))
    | (refine W50 (fun b => ?_))
    | (refine W51 (fun b => ?_))
    | refine W25 ?_)
  refine XL.triq (reg_tri (p := p) (x := I.a) hfn) (by rfl) (by rfl) (by rfl) (by rfl) (by rfl) (by rfl) (by rfl) (by (repeat' (first | exact Sels.nil | exact Sel.here | apply Sels.cons | apply Sel.there)); done) (by (repeat' (first | exact Sels.nil | exact Sel.here | apply Sels.cons | apply Sel.there)); done) (by (repeat (first | exact sub0 | refine subC (by repeat (first | exact List.Mem.head _ | apply List.Mem.tail)) ?_)); done) ?_
  repeat' (first
    | refine W82 ?_
    | refine W83 ?_
    | refine W84 ?_
    | refine W85 ?_
    | refine W86 ?_
    | refine W87 ?_
    | (refine W89 (fun h => ?_) (fun h => ?_) <;> try (first | (exfalso; omega) | exact absurd rfl h | (exfalso; simp at h <;> omega)))
    | refine W90 ?_
    | refine W91 ?_
    | refine W94 ?_
    | refine W98 ?_
    | refine W99 ?_
    | refine W100 ?_
    | refine W101 ?_
    | refine W102 ?_
    | refine W103 ?_
    | refine W104 ?_
    | refine W105 ?_
    | refine W106 ?_
    | refine W1 ?_
    | (refine W2 (fun h => ?_) (fun h => ?_) <;> try (first | (exfalso; omega) | exact absurd rfl h | (exfalso; simp at h <;> omega)))
    | refine W3 ?_
    | refine W32 ?_
    | refine XL.pure 1 (by rfl) ?_
    | refine W13 ?_
    | refine W5 ?_
    | refine W14 ?_
    | refine W18 ?_
    | refine W6 ?_
    | refine W24 ?_
    | refine W27 ?_
    | refine W19 ?_
    | refine W20 ?_
    | refine W15 ?_
    | refine W7 ?_
    | refine W28 ?_
    | refine W29 ?_
    | refine W34 ?_
    | refine W35 ?_
    | refine W36 ?_
    | refine W37 ?_
    | refine W38 ?_
    | refine W39 ?_
    | refine W30 ?_
    | refine W31 ?_
    | refine W40 ?_
    | refine W41 ?_
    | refine W42 ?_
    | refine W43 ?_
    | refine W44 ?_
    | refine W45 ?_
    | refine W47 ?_
    | refine W108 ?_
    | refine W109 ?_
    | refine W8 ?_
    | refine W21 ?_
    | refine W22 ?_
    | refine W16 ?_
    | refine W9 ?_
    | refine W10 ?_
    | refine W48 ?_
    | (refine W49 (fun b => ?_))
    | (refine W50 (fun b => ?_))
    | (refine W51 (fun b => ?_))
    | refine W25 ?_)
  refine XL.triq (reg_tri (p := p) (x := I.b) hfn) (by rfl) (by rfl) (by rfl) (by rfl) (by rfl) (by rfl) (by rfl) (by (repeat' (first | exact Sels.nil | exact Sel.here | apply Sels.cons | apply Sel.there)); done) (by (repeat' (first | exact Sels.nil | exact Sel.here | apply Sels.cons | apply Sel.there)); done) (by (repeat (first | exact sub0 | refine subC (by repeat (first | exact List.Mem.head _ | apply List.Mem.tail)) ?_)); done) ?_
  repeat' (first
    | refine W82 ?_
    | refine W83 ?_
    | refine W84 ?_
    | refine W85 ?_
    | refine W86 ?_
    | refine W87 ?_
    | (refine W89 (fun h => ?_) (fun h => ?_) <;> try (first | (exfalso; omega) | exact absurd rfl h | (exfalso; simp at h <;> omega)))
    | refine W90 ?_
    | refine W91 ?_
    | refine W94 ?_
    | refine W98 ?_
    | refine W99 ?_
    | refine W100 ?_
    | refine W101 ?_
    | refine W102 ?_
    | refine W103 ?_
    | refine W104 ?_
    | refine W105 ?_
    | refine W106 ?_
    | refine W1 ?_
    | (refine W2 (fun h => ?_) (fun h => ?_) <;> try (first | (exfalso; omega) | exact absurd rfl h | (exfalso; simp at h <;> omega)))
    | refine W3 ?_
    | refine W32 ?_
    | refine XL.pure 1 (by rfl) ?_
    | refine W13 ?_
    | refine W5 ?_
    | refine W14 ?_
    | refine W18 ?_
    | refine W6 ?_
    | refine W24 ?_
    | refine W27 ?_
    | refine W19 ?_
    | refine W20 ?_
    | refine W15 ?_
    | refine W7 ?_
    | refine W28 ?_
    | refine W29 ?_
    | refine W34 ?_
    | refine W35 ?_
    | refine W36 ?_
    | refine W37 ?_
    | refine W38 ?_
    | refine W39 ?_
    | refine W30 ?_
    | refine W31 ?_
    | refine W40 ?_
    | refine W41 ?_
    | refine W42 ?_
    | refine W43 ?_
    | refine W44 ?_
    | refine W45 ?_
    | refine W47 ?_
    | refine W108 ?_
    | refine W109 ?_
    | refine W8 ?_
    | refine W21 ?_
    | refine W22 ?_
    | refine W16 ?_
    | refine W9 ?_
    | refine W10 ?_
    | refine W48 ?_
    | (refine W49 (fun b => ?_))
    | (refine W50 (fun b => ?_))
    | (refine W51 (fun b => ?_))
    | refine W25 ?_)
  exact XQ.doneC (by rfl) (by rfl) (by rfl) (by rfl) .here (by rfl) ⟨rfl, rfl, rfl⟩ (by (repeat' (first | exact Sels.nil | exact Sel.here | apply Sels.cons | apply Sel.there)); done) (by (repeat (first | exact sub0 | refine subC (by repeat (first | exact List.Mem.head _ | apply List.Mem.tail)) ?_)); done)
theorem base_tri {p : ProgM} {mb fn b2 b3 : Nat} {fv : Value} {I : InsnM} {s : Int} (hfn : fn < p.fnL.length) :
    Tri Tryz.prog 30 ([] ++ [.int .i64 s] ++ [.pointer (some ⟨b2, 0, none⟩), .pointer (some ⟨b3, 0, none⟩)]) [cel b2 #[.pointer (some ⟨mb, 0, none⟩)] 59, cel b3 I.cells.toArray 36, mkB p mb fv fn] [fF p fv] fun e L Φ =>
      e = .returned (ConM.v ⟨{ kind := 1, a := w64 (first p fn + I.a), site := s }, .slice none 0 0⟩) ∧ L = [cel b2 #[.pointer (some ⟨mb, 0, none⟩)] 59, cel b3 I.cells.toArray 36, mkB p mb fv fn] ∧ Φ = [] := by
  refine Tri.of Tryz.func30 rfl fun c => ?_
  repeat' (first
    | refine W82 ?_
    | refine W83 ?_
    | refine W84 ?_
    | refine W85 ?_
    | refine W86 ?_
    | refine W87 ?_
    | (refine W89 (fun h => ?_) (fun h => ?_) <;> try (first | (exfalso; omega) | exact absurd rfl h | (exfalso; simp at h <;> omega)))
    | refine W90 ?_
    | refine W91 ?_
    | refine W94 ?_
    | refine W98 ?_
    | refine W99 ?_
    | refine W100 ?_
    | refine W101 ?_
    | refine W102 ?_
    | refine W103 ?_
    | refine W104 ?_
    | refine W105 ?_
    | refine W106 ?_
    | refine W1 ?_
    | (refine W2 (fun h => ?_) (fun h => ?_) <;> try (first | (exfalso; omega) | exact absurd rfl h | (exfalso; simp at h <;> omega)))
    | refine W3 ?_
    | refine W32 ?_
    | refine XL.pure 1 (by rfl) ?_
    | refine W13 ?_
    | refine W5 ?_
    | refine W14 ?_
    | refine W18 ?_
    | refine W6 ?_
    | refine W24 ?_
    | refine W27 ?_
    | refine W19 ?_
    | refine W20 ?_
    | refine W15 ?_
    | refine W7 ?_
    | refine W28 ?_
    | refine W29 ?_
    | refine W34 ?_
    | refine W35 ?_
    | refine W36 ?_
    | refine W37 ?_
    | refine W38 ?_
    | refine W39 ?_
    | refine W30 ?_
    | refine W31 ?_
    | refine W40 ?_
    | refine W41 ?_
    | refine W42 ?_
    | refine W43 ?_
    | refine W44 ?_
    | refine W45 ?_
    | refine W47 ?_
    | refine W108 ?_
    | refine W109 ?_
    | refine W8 ?_
    | refine W21 ?_
    | refine W22 ?_
    | refine W16 ?_
    | refine W9 ?_
    | refine W10 ?_
    | refine W48 ?_
    | (refine W49 (fun b => ?_))
    | (refine W50 (fun b => ?_))
    | (refine W51 (fun b => ?_))
    | refine W25 ?_)
  refine XL.triq (reg_tri (p := p) (x := I.a) hfn) (by rfl) (by rfl) (by rfl) (by rfl) (by rfl) (by rfl) (by rfl) (by (repeat' (first | exact Sels.nil | exact Sel.here | apply Sels.cons | apply Sel.there)); done) (by (repeat' (first | exact Sels.nil | exact Sel.here | apply Sels.cons | apply Sel.there)); done) (by (repeat (first | exact sub0 | refine subC (by repeat (first | exact List.Mem.head _ | apply List.Mem.tail)) ?_)); done) ?_
  repeat' (first
    | refine W82 ?_
    | refine W83 ?_
    | refine W84 ?_
    | refine W85 ?_
    | refine W86 ?_
    | refine W87 ?_
    | (refine W89 (fun h => ?_) (fun h => ?_) <;> try (first | (exfalso; omega) | exact absurd rfl h | (exfalso; simp at h <;> omega)))
    | refine W90 ?_
    | refine W91 ?_
    | refine W94 ?_
    | refine W98 ?_
    | refine W99 ?_
    | refine W100 ?_
    | refine W101 ?_
    | refine W102 ?_
    | refine W103 ?_
    | refine W104 ?_
    | refine W105 ?_
    | refine W106 ?_
    | refine W1 ?_
    | (refine W2 (fun h => ?_) (fun h => ?_) <;> try (first | (exfalso; omega) | exact absurd rfl h | (exfalso; simp at h <;> omega)))
    | refine W3 ?_
    | refine W32 ?_
    | refine XL.pure 1 (by rfl) ?_
    | refine W13 ?_
    | refine W5 ?_
    | refine W14 ?_
    | refine W18 ?_
    | refine W6 ?_
    | refine W24 ?_
    | refine W27 ?_
    | refine W19 ?_
    | refine W20 ?_
    | refine W15 ?_
    | refine W7 ?_
    | refine W28 ?_
    | refine W29 ?_
    | refine W34 ?_
    | refine W35 ?_
    | refine W36 ?_
    | refine W37 ?_
    | refine W38 ?_
    | refine W39 ?_
    | refine W30 ?_
    | refine W31 ?_
    | refine W40 ?_
    | refine W41 ?_
    | refine W42 ?_
    | refine W43 ?_
    | refine W44 ?_
    | refine W45 ?_
    | refine W47 ?_
    | refine W108 ?_
    | refine W109 ?_
    | refine W8 ?_
    | refine W21 ?_
    | refine W22 ?_
    | refine W16 ?_
    | refine W9 ?_
    | refine W10 ?_
    | refine W48 ?_
    | (refine W49 (fun b => ?_))
    | (refine W50 (fun b => ?_))
    | (refine W51 (fun b => ?_))
    | refine W25 ?_)
  exact XQ.doneC (by rfl) (by rfl) (by rfl) (by rfl) .here (by rfl) ⟨rfl, rfl, rfl⟩ (by (repeat' (first | exact Sels.nil | exact Sel.here | apply Sels.cons | apply Sel.there)); done) (by (repeat (first | exact sub0 | refine subC (by repeat (first | exact List.Mem.head _ | apply List.Mem.tail)) ?_)); done)
end Go.Proofs.YtafochlcnjeanaaGreat
