/- .. an instruction's check, whole. -/
import Derived.Test.YtafochlcnjeanaaGreatG4
namespace Go.Proofs.YtafochlcnjeanaaGreat
open Go X
set_option maxRecDepth 100000
set_option maxHeartbeats 4000000
attribute [local irreducible] XC XL XQ Tri blk Shows Sq Rd Mt inBlockX
attribute [local irreducible] rowO
theorem insn8_tri {p : ProgM} (hw : p.WF) {F : FnM} (mF : F ∈ p.fnL) {I : InsnM} {k : Nat} (hI : F.codeL[k]? = some I) :
    Tri Tryz.prog 27 [p.v, F.v, .int .i64 (k : Int)] [] [progFP p] (Ret (fun r : Int => .int .i64 r) (fun _ => []) (fun _ => []) fun r => r = 0 → okI p I) := by
  refine Tri.of Tryz.func27 rfl fun c => ?_
  have mI := List.mem_of_getElem? hI
  have hk := (List.getElem?_eq_some_iff.1 hI).1
  have hc := hw.code F mF
  have aI := code_at hI
  have o1 := hw.oneI F mF I mI
  simp only [maxLen] at hc
  repeat' (first
    | refine W82 ?_
    | refine W83 ?_
    | refine W84 ?_
    | refine W85 ?_
    | refine W86 ?_
    | refine W87 ?_
    | (refine W89 (fun h => ?_) (fun h => ?_) <;> try (first | (exfalso; omega) | exact absurd rfl h | (exfalso; simp at h <;> omega)))
    | refine W90 ?_
    | refine W91 ?_
    | refine W94 ?_
    | refine W98 ?_
    | refine W99 ?_
    | refine W100 ?_
    | refine W101 ?_
    | refine W102 ?_
    | refine W103 ?_
    | refine W104 ?_
    | refine W105 ?_
    | refine W106 ?_
    | refine W1 ?_
    | (refine W2 (fun h => ?_) (fun h => ?_) <;> try (first | (exfalso; omega) | exact absurd rfl h | (exfalso; simp at h <;> omega)))
    | refine W3 ?_
    | refine W32 ?_
    | refine XL.pure 1 (by rfl) ?_
    | refine W13 ?_
    | refine W5 ?_
    | refine W14 ?_
    | refine W18 ?_
    | refine W6 ?_
    | refine W24 ?_
    | refine W27 ?_
    | refine W19 ?_
    | refine W20 ?_
    | refine W15 ?_
    | refine W7 ?_
    | refine W28 ?_
    | refine W29 ?_
    | refine W34 ?_
    | refine W35 ?_
    | refine W36 ?_
    | refine W37 ?_
    | refine W38 ?_
    | refine W39 ?_
    | refine W30 ?_
    | refine W31 ?_
    | refine W40 ?_
    | refine W41 ?_
    | refine W42 ?_
    | refine W43 ?_
    | refine W44 ?_
    | refine W45 ?_
    | refine W47 ?_
    | refine W108 ?_
    | refine W109 ?_
    | refine W8 ?_
    | refine W21 ?_
    | refine W22 ?_
    | refine W16 ?_
    | refine W9 ?_
    | refine W10 ?_
    | refine W48 ?_
    | (refine W49 (fun b => ?_))
    | (refine W50 (fun b => ?_))
    | (refine W51 (fun b => ?_))
    | refine W25 ?_)
  · exact XQ.done1 (by rfl) (by rfl) ⟨1, fun h => by simp at h, rfl, rfl, rfl⟩ (by (repeat' (first | exact Sels.nil | exact Sel.here | apply Sels.cons | apply Sel.there)); done) (by (repeat (first | exact sub0 | refine subC (by repeat (first | exact List.Mem.head _ | apply List.Mem.tail)) ?_)); done)
  · exact XQ.done1 (by rfl) (by rfl) ⟨1, fun h => by simp at h, rfl, rfl, rfl⟩ (by (repeat' (first | exact Sels.nil | exact Sel.here | apply Sels.cons | apply Sel.there)); done) (by (repeat (first | exact sub0 | refine subC (by repeat (first | exact List.Mem.head _ | apply List.Mem.tail)) ?_)); done)
  refine XL.trir (reads_tri hw mF mI) (by rfl) (by rfl) (by rfl) (by rfl) (by rfl) (by rfl) (by rfl) (by (repeat' (first | exact Sels.nil | exact Sel.here | apply Sels.cons | apply Sel.there)); done) (by (repeat (first | exact sub0 | refine subC (by repeat (first | exact List.Mem.head _ | apply List.Mem.tail)) ?_)); done) ?_
  rintro ⟨v, l⟩ hl
  dsimp only at hl
  conv => arg 9; dsimp only [List.cons_append, List.nil_append]
  try conv => arg 7; dsimp only
  repeat' (first
    | refine W82 ?_
    | refine W83 ?_
    | refine W84 ?_
    | refine W85 ?_
    | refine W86 ?_
    | refine W87 ?_
    | (refine W89 (fun h => ?_) (fun h => ?_) <;> try (first | (exfalso; omega) | exact absurd rfl h | (exfalso; simp at h <;> omega)))
    | refine W90 ?_
    | refine W91 ?_
    | refine W94 ?_
    | refine W98 ?_
    | refine W99 ?_
    | refine W100 ?_
    | refine W101 ?_
    | refine W102 ?_
    | refine W103 ?_
    | refine W104 ?_
    | refine W105 ?_
    | refine W106 ?_
    | refine W1 ?_
    | (refine W2 (fun h => ?_) (fun h => ?_) <;> try (first | (exfalso; omega) | exact absurd rfl h | (exfalso; simp at h <;> omega)))
    | refine W3 ?_
    | refine W32 ?_
    | refine XL.pure 1 (by rfl) ?_
    | refine W13 ?_
    | refine W5 ?_
    | refine W14 ?_
    | refine W18 ?_
    | refine W6 ?_
    | refine W24 ?_
    | refine W27 ?_
    | refine W19 ?_
    | refine W20 ?_
    | refine W15 ?_
    | refine W7 ?_
    | refine W28 ?_
    | refine W29 ?_
    | refine W34 ?_
    | refine W35 ?_
    | refine W36 ?_
    | refine W37 ?_
    | refine W38 ?_
    | refine W39 ?_
    | refine W30 ?_
    | refine W31 ?_
    | refine W40 ?_
    | refine W41 ?_
    | refine W42 ?_
    | refine W43 ?_
    | refine W44 ?_
    | refine W45 ?_
    | refine W47 ?_
    | refine W108 ?_
    | refine W109 ?_
    | refine W8 ?_
    | refine W21 ?_
    | refine W22 ?_
    | refine W16 ?_
    | refine W9 ?_
    | refine W10 ?_
    | refine W48 ?_
    | (refine W49 (fun b => ?_))
    | (refine W50 (fun b => ?_))
    | (refine W51 (fun b => ?_))
    | refine W25 ?_)
  refine XL.trir (writes_tri (op := I.op)) (by rfl) (by rfl) (by rfl) (by rfl) (by rfl) (by rfl) (by rfl) (by (repeat' (first | exact Sels.nil | exact Sel.here | apply Sels.cons | apply Sel.there)); done) (by (repeat (first | exact sub0 | refine subC (by repeat (first | exact List.Mem.head _ | apply List.Mem.tail)) ?_)); done) ?_
  rintro b0 -
  conv => arg 9; dsimp only [List.cons_append, List.nil_append]
  try conv => arg 7; dsimp only
  repeat' (first
    | refine W82 ?_
    | refine W85 ?_
    | refine W83 ?_
    | refine W94 ?_
    | refine W98 ?_
    | refine W1 ?_
    | (refine W2 (fun h => ?_) (fun h => ?_) <;> try (first | (exfalso; omega) | exact absurd rfl h | (exfalso; simp at h <;> omega)))
    | refine W3 ?_
    | refine W32 ?_
    | refine XL.pure 1 (by rfl) ?_
    | refine W13 ?_
    | refine W5 ?_
    | refine W14 ?_
    | refine W18 ?_
    | refine W6 ?_
    | refine W24 ?_
    | refine W27 ?_
    | refine W19 ?_
    | refine W20 ?_
    | refine W15 ?_
    | refine W7 ?_
    | refine W28 ?_
    | refine W29 ?_
    | refine W34 ?_
    | refine W35 ?_
    | refine W36 ?_
    | refine W37 ?_
    | refine W38 ?_
    | refine W39 ?_
    | refine W30 ?_
    | refine W31 ?_
    | refine W40 ?_
    | refine W41 ?_
    | refine W42 ?_
    | refine W43 ?_
    | refine W44 ?_
    | refine W45 ?_
    | refine W47 ?_
    | refine W8 ?_
    | refine W21 ?_
    | refine W22 ?_
    | refine W16 ?_
    | refine W9 ?_
    | refine W10 ?_
    | refine W48 ?_
    | (refine W49 (fun b => ?_))
    | (refine W50 (fun b => ?_))
    | (refine W51 (fun b => ?_))
    | refine W25 ?_)
  rename_i bp bF h1
  refine XC.cutS (fun x : Value × List Int => [(2, .int .i64 (k : Int)), (3, .pointer (some ⟨bp, 0, none⟩)), (4, .pointer (some ⟨bF, 0, none⟩)), (7, .pointer (some ⟨b, 0, none⟩)), (8, x.1)])
    (fun x w => x.2.length ≤ 17592186044001 ∧ St c [rowO 3 1 x.1 x.2.length (ints x.2), cel b I.cells.toArray 36, cel bF F.cells.toArray 39, cel bp #[p.sites, p.fns, .int .i64 p.main] 25] [progFP p] w) ?_ ?_
  · cases b0
    · repeat' (first
      | refine W82 ?_
      | refine W83 ?_
      | refine W84 ?_
      | refine W85 ?_
      | refine W86 ?_
      | refine W87 ?_
      | (refine W89 (fun h => ?_) (fun h => ?_) <;> try (first | (exfalso; omega) | exact absurd rfl h | (exfalso; simp at h <;> omega)))
      | refine W90 ?_
      | refine W91 ?_
      | refine W94 ?_
      | refine W98 ?_
      | refine W99 ?_
      | refine W100 ?_
      | refine W101 ?_
      | refine W102 ?_
      | refine W103 ?_
      | refine W104 ?_
      | refine W105 ?_
      | refine W106 ?_
      | refine W1 ?_
      | (refine W2 (fun h => ?_) (fun h => ?_) <;> try (first | (exfalso; omega) | exact absurd rfl h | (exfalso; simp at h <;> omega)))
      | refine W3 ?_
      | refine W32 ?_
      | refine XL.pure 1 (by rfl) ?_
      | refine W13 ?_
      | refine W5 ?_
      | refine W14 ?_
      | refine W18 ?_
      | refine W6 ?_
      | refine W24 ?_
      | refine W27 ?_
      | refine W19 ?_
      | refine W20 ?_
      | refine W15 ?_
      | refine W7 ?_
      | refine W28 ?_
      | refine W29 ?_
      | refine W34 ?_
      | refine W35 ?_
      | refine W36 ?_
      | refine W37 ?_
      | refine W38 ?_
      | refine W39 ?_
      | refine W30 ?_
      | refine W31 ?_
      | refine W40 ?_
      | refine W41 ?_
      | refine W42 ?_
      | refine W43 ?_
      | refine W44 ?_
      | refine W45 ?_
      | refine W47 ?_
      | refine W108 ?_
      | refine W109 ?_
      | refine W8 ?_
      | refine W21 ?_
      | refine W22 ?_
      | refine W16 ?_
      | refine W9 ?_
      | refine W10 ?_
      | refine W48 ?_
      | (refine W49 (fun b => ?_))
      | (refine W50 (fun b => ?_))
      | (refine W51 (fun b => ?_))
      | refine W25 ?_)
      exact XQ.meet (v, l) (by (repeat (first | exact fits_nil | refine fits_cons (by rfl) ?_)); done) (fun w h => ⟨by dsimp only; omega, h⟩)
    · repeat' (first
      | refine W82 ?_
      | refine W83 ?_
      | refine W84 ?_
      | refine W85 ?_
      | refine W86 ?_
      | refine W87 ?_
      | (refine W89 (fun h => ?_) (fun h => ?_) <;> try (first | (exfalso; omega) | exact absurd rfl h | (exfalso; simp at h <;> omega)))
      | refine W90 ?_
      | refine W91 ?_
      | refine W94 ?_
      | refine W98 ?_
      | refine W99 ?_
      | refine W100 ?_
      | refine W101 ?_
      | refine W102 ?_
      | refine W103 ?_
      | refine W104 ?_
      | refine W105 ?_
      | refine W106 ?_
      | refine W1 ?_
      | (refine W2 (fun h => ?_) (fun h => ?_) <;> try (first | (exfalso; omega) | exact absurd rfl h | (exfalso; simp at h <;> omega)))
      | refine W3 ?_
      | refine W32 ?_
      | refine XL.pure 1 (by rfl) ?_
      | refine W13 ?_
      | refine W5 ?_
      | refine W14 ?_
      | refine W18 ?_
      | refine W6 ?_
      | refine W24 ?_
      | refine W27 ?_
      | refine W19 ?_
      | refine W20 ?_
      | refine W15 ?_
      | refine W7 ?_
      | refine W28 ?_
      | refine W29 ?_
      | refine W34 ?_
      | refine W35 ?_
      | refine W36 ?_
      | refine W37 ?_
      | refine W38 ?_
      | refine W39 ?_
      | refine W30 ?_
      | refine W31 ?_
      | refine W40 ?_
      | refine W41 ?_
      | refine W42 ?_
      | refine W43 ?_
      | refine W44 ?_
      | refine W45 ?_
      | refine W47 ?_
      | refine W108 ?_
      | refine W109 ?_
      | refine W8 ?_
      | refine W21 ?_
      | refine W22 ?_
      | refine W16 ?_
      | refine W9 ?_
      | refine W10 ?_
      | refine W48 ?_
      | (refine W49 (fun b => ?_))
      | (refine W50 (fun b => ?_))
      | (refine W51 (fun b => ?_))
      | refine W25 ?_)
      refine XL.lit (by rfl) (by rfl) (by rfl) (by rfl) (by rfl) (by rfl) fun b2 => ?_
      repeat' (first
        | refine W82 ?_
        | refine W83 ?_
        | refine W84 ?_
        | refine W85 ?_
        | refine W86 ?_
        | refine W87 ?_
        | (refine W89 (fun h => ?_) (fun h => ?_) <;> try (first | (exfalso; omega) | exact absurd rfl h | (exfalso; simp at h <;> omega)))
        | refine W90 ?_
        | refine W91 ?_
        | refine W94 ?_
        | refine W98 ?_
        | refine W99 ?_
        | refine W100 ?_
        | refine W101 ?_
        | refine W102 ?_
        | refine W103 ?_
        | refine W104 ?_
        | refine W105 ?_
        | refine W106 ?_
        | refine W1 ?_
        | (refine W2 (fun h => ?_) (fun h => ?_) <;> try (first | (exfalso; omega) | exact absurd rfl h | (exfalso; simp at h <;> omega)))
        | refine W3 ?_
        | refine W32 ?_
        | refine XL.pure 1 (by rfl) ?_
        | refine W13 ?_
        | refine W5 ?_
        | refine W14 ?_
        | refine W18 ?_
        | refine W6 ?_
        | refine W24 ?_
        | refine W27 ?_
        | refine W19 ?_
        | refine W20 ?_
        | refine W15 ?_
        | refine W7 ?_
        | refine W28 ?_
        | refine W29 ?_
        | refine W34 ?_
        | refine W35 ?_
        | refine W36 ?_
        | refine W37 ?_
        | refine W38 ?_
        | refine W39 ?_
        | refine W30 ?_
        | refine W31 ?_
        | refine W40 ?_
        | refine W41 ?_
        | refine W42 ?_
        | refine W43 ?_
        | refine W44 ?_
        | refine W45 ?_
        | refine W47 ?_
        | refine W108 ?_
        | refine W109 ?_
        | refine W8 ?_
        | refine W21 ?_
        | refine W22 ?_
        | refine W16 ?_
        | refine W9 ?_
        | refine W10 ?_
        | refine W48 ?_
        | (refine W49 (fun b => ?_))
        | (refine W50 (fun b => ?_))
        | (refine W51 (fun b => ?_))
        | refine W25 ?_)
      refine XL.appendB (xs := ints l) (news := ints [I.a]) (by rfl) (by rfl) (by rfl) (by rfl) (by rfl) (by rfl) (by rfl) (by repeat (first | exact Sel.here | apply Sel.there)) (by rfl) (fun w h => St.rowC (m := 1) (cs := ints [I.a]) .here rfl (by decide) h) (ints_one _) (by simp only [maxLen]; omega) (by show (_ + _) * 8 ≤ _; omega) (fun v' => ?_)
      repeat' (first
        | refine W82 ?_
        | refine W83 ?_
        | refine W84 ?_
        | refine W85 ?_
        | refine W86 ?_
        | refine W87 ?_
        | (refine W89 (fun h => ?_) (fun h => ?_) <;> try (first | (exfalso; omega) | exact absurd rfl h | (exfalso; simp at h <;> omega)))
        | refine W90 ?_
        | refine W91 ?_
        | refine W94 ?_
        | refine W98 ?_
        | refine W99 ?_
        | refine W100 ?_
        | refine W101 ?_
        | refine W102 ?_
        | refine W103 ?_
        | refine W104 ?_
        | refine W105 ?_
        | refine W106 ?_
        | refine W1 ?_
        | (refine W2 (fun h => ?_) (fun h => ?_) <;> try (first | (exfalso; omega) | exact absurd rfl h | (exfalso; simp at h <;> omega)))
        | refine W3 ?_
        | refine W32 ?_
        | refine XL.pure 1 (by rfl) ?_
        | refine W13 ?_
        | refine W5 ?_
        | refine W14 ?_
        | refine W18 ?_
        | refine W6 ?_
        | refine W24 ?_
        | refine W27 ?_
        | refine W19 ?_
        | refine W20 ?_
        | refine W15 ?_
        | refine W7 ?_
        | refine W28 ?_
        | refine W29 ?_
        | refine W34 ?_
        | refine W35 ?_
        | refine W36 ?_
        | refine W37 ?_
        | refine W38 ?_
        | refine W39 ?_
        | refine W30 ?_
        | refine W31 ?_
        | refine W40 ?_
        | refine W41 ?_
        | refine W42 ?_
        | refine W43 ?_
        | refine W44 ?_
        | refine W45 ?_
        | refine W47 ?_
        | refine W108 ?_
        | refine W109 ?_
        | refine W8 ?_
        | refine W21 ?_
        | refine W22 ?_
        | refine W16 ?_
        | refine W9 ?_
        | refine W10 ?_
        | refine W48 ?_
        | (refine W49 (fun b => ?_))
        | (refine W50 (fun b => ?_))
        | (refine W51 (fun b => ?_))
        | refine W25 ?_)
      refine XQ.meet (v', l ++ [I.a]) (by (repeat (first | exact fits_nil | refine fits_cons (by rfl) ?_)); done) (fun w h => ⟨by simp; omega, ?_⟩)
      have e : ints l ++ ints [I.a] = ints (l ++ [I.a]) := by simp [ints]
      have e2 : l.length + 1 = (l ++ [I.a]).length := by simp
      rw [e, e2] at h
      exact h.less (by (repeat' (first | exact Sels.nil | exact Sel.here | apply Sels.cons | apply Sel.there)); done) (by (repeat (first | exact sub0 | refine subC (by repeat (first | exact List.Mem.head _ | apply List.Mem.tail)) ?_)); done)
  clear hl v l
  rintro ⟨v, l⟩
  dsimp only
  refine XC.pure (fun hl => ?_)
  repeat' (first
    | refine W82 ?_
    | refine W83 ?_
    | refine W84 ?_
    | refine W85 ?_
    | refine W86 ?_
    | refine W87 ?_
    | (refine W89 (fun h => ?_) (fun h => ?_) <;> try (first | (exfalso; omega) | exact absurd rfl h | (exfalso; simp at h <;> omega)))
    | refine W90 ?_
    | refine W91 ?_
    | refine W94 ?_
    | refine W98 ?_
    | refine W99 ?_
    | refine W100 ?_
    | refine W101 ?_
    | refine W102 ?_
    | refine W103 ?_
    | refine W104 ?_
    | refine W105 ?_
    | refine W106 ?_
    | refine W1 ?_
    | (refine W2 (fun h => ?_) (fun h => ?_) <;> try (first | (exfalso; omega) | exact absurd rfl h | (exfalso; simp at h <;> omega)))
    | refine W3 ?_
    | refine W32 ?_
    | refine XL.pure 1 (by rfl) ?_
    | refine W13 ?_
    | refine W5 ?_
    | refine W14 ?_
    | refine W18 ?_
    | refine W6 ?_
    | refine W24 ?_
    | refine W27 ?_
    | refine W19 ?_
    | refine W20 ?_
    | refine W15 ?_
    | refine W7 ?_
    | refine W28 ?_
    | refine W29 ?_
    | refine W34 ?_
    | refine W35 ?_
    | refine W36 ?_
    | refine W37 ?_
    | refine W38 ?_
    | refine W39 ?_
    | refine W30 ?_
    | refine W31 ?_
    | refine W40 ?_
    | refine W41 ?_
    | refine W42 ?_
    | refine W43 ?_
    | refine W44 ?_
    | refine W45 ?_
    | refine W47 ?_
    | refine W108 ?_
    | refine W109 ?_
    | refine W8 ?_
    | refine W21 ?_
    | refine W22 ?_
    | refine W16 ?_
    | refine W9 ?_
    | refine W10 ?_
    | refine W48 ?_
    | (refine W49 (fun b => ?_))
    | (refine W50 (fun b => ?_))
    | (refine W51 (fun b => ?_))
    | refine W25 ?_)
  refine XC.loop (fun i : Nat => [(2, .int .i64 (k : Int)), (3, .pointer (some ⟨bp, 0, none⟩)), (4, .pointer (some ⟨bF, 0, none⟩)), (7, .pointer (some ⟨b, 0, none⟩)), (8, v), (9, .int .i64 (i : Int))])
    (fun i w => i ≤ l.length ∧ St c [rowO 3 1 v l.length (ints l), cel b I.cells.toArray 36, cel bF F.cells.toArray 39, cel bp #[p.sites, p.fns, .int .i64 p.main] 25] [progFP p] w) (fun i => l.length - i) 0 (by (repeat (first | exact fits_nil | refine fits_cons (by rfl) ?_)); done) (fun w h => ⟨by omega, h⟩) ?_
  intro i
  refine XC.pure (fun hi => ?_)
  by_cases hlt : i < l.length
  · obtain ⟨x, hx, -⟩ := get_of_lt hlt
    have gx := ints_get hx
    repeat' (first
      | refine W82 ?_
      | refine W83 ?_
      | refine W84 ?_
      | refine W85 ?_
      | refine W86 ?_
      | refine W87 ?_
      | (refine W89 (fun h => ?_) (fun h => ?_) <;> try (first | (exfalso; omega) | exact absurd rfl h | (exfalso; simp at h <;> omega)))
      | refine W90 ?_
      | refine W91 ?_
      | refine W94 ?_
      | refine W98 ?_
      | refine W99 ?_
      | refine W100 ?_
      | refine W101 ?_
      | refine W102 ?_
      | refine W103 ?_
      | refine W104 ?_
      | refine W105 ?_
      | refine W106 ?_
      | refine W1 ?_
      | (refine W2 (fun h => ?_) (fun h => ?_) <;> try (first | (exfalso; omega) | exact absurd rfl h | (exfalso; simp at h <;> omega)))
      | refine W3 ?_
      | refine W32 ?_
      | refine XL.pure 1 (by rfl) ?_
      | refine W13 ?_
      | refine W5 ?_
      | refine W14 ?_
      | refine W18 ?_
      | refine W6 ?_
      | refine W24 ?_
      | refine W27 ?_
      | refine W19 ?_
      | refine W20 ?_
      | refine W15 ?_
      | refine W7 ?_
      | refine W28 ?_
      | refine W29 ?_
      | refine W34 ?_
      | refine W35 ?_
      | refine W36 ?_
      | refine W37 ?_
      | refine W38 ?_
      | refine W39 ?_
      | refine W30 ?_
      | refine W31 ?_
      | refine W40 ?_
      | refine W41 ?_
      | refine W42 ?_
      | refine W43 ?_
      | refine W44 ?_
      | refine W45 ?_
      | refine W47 ?_
      | refine W108 ?_
      | refine W109 ?_
      | refine W8 ?_
      | refine W21 ?_
      | refine W22 ?_
      | refine W16 ?_
      | refine W9 ?_
      | refine W10 ?_
      | refine W48 ?_
      | (refine W49 (fun b => ?_))
      | (refine W50 (fun b => ?_))
      | (refine W51 (fun b => ?_))
      | refine W25 ?_)
    · exact XQ.done1 (by rfl) (by rfl) ⟨8, fun h => by simp at h, rfl, rfl, rfl⟩ (by (repeat' (first | exact Sels.nil | exact Sel.here | apply Sels.cons | apply Sel.there)); done) (by (repeat (first | exact sub0 | refine subC (by repeat (first | exact List.Mem.head _ | apply List.Mem.tail)) ?_)); done)
    · exact XQ.done1 (by rfl) (by rfl) ⟨8, fun h => by simp at h, rfl, rfl, rfl⟩ (by (repeat' (first | exact Sels.nil | exact Sel.here | apply Sels.cons | apply Sel.there)); done) (by (repeat (first | exact sub0 | refine subC (by repeat (first | exact List.Mem.head _ | apply List.Mem.tail)) ?_)); done)
    · exact XQ.round (i + 1) (by (repeat (first | exact fits_nil | refine fits_cons (by rfl) ?_)); done) (fun w hw => ⟨by omega, hw⟩) (by omega)
  have e : i = l.length := by omega
  subst e
  repeat' (first
    | refine W82 ?_
    | refine W83 ?_
    | refine W84 ?_
    | refine W85 ?_
    | refine W86 ?_
    | refine W87 ?_
    | (refine W89 (fun h => ?_) (fun h => ?_) <;> try (first | (exfalso; omega) | exact absurd rfl h | (exfalso; simp at h <;> omega)))
    | refine W90 ?_
    | refine W91 ?_
    | refine W94 ?_
    | refine W98 ?_
    | refine W99 ?_
    | refine W100 ?_
    | refine W101 ?_
    | refine W102 ?_
    | refine W103 ?_
    | refine W104 ?_
    | refine W105 ?_
    | refine W106 ?_
    | refine W1 ?_
    | (refine W2 (fun h => ?_) (fun h => ?_) <;> try (first | (exfalso; omega) | exact absurd rfl h | (exfalso; simp at h <;> omega)))
    | refine W3 ?_
    | refine W32 ?_
    | refine XL.pure 1 (by rfl) ?_
    | refine W13 ?_
    | refine W5 ?_
    | refine W14 ?_
    | refine W18 ?_
    | refine W6 ?_
    | refine W24 ?_
    | refine W27 ?_
    | refine W19 ?_
    | refine W20 ?_
    | refine W15 ?_
    | refine W7 ?_
    | refine W28 ?_
    | refine W29 ?_
    | refine W34 ?_
    | refine W35 ?_
    | refine W36 ?_
    | refine W37 ?_
    | refine W38 ?_
    | refine W39 ?_
    | refine W30 ?_
    | refine W31 ?_
    | refine W40 ?_
    | refine W41 ?_
    | refine W42 ?_
    | refine W43 ?_
    | refine W44 ?_
    | refine W45 ?_
    | refine W47 ?_
    | refine W108 ?_
    | refine W109 ?_
    | refine W8 ?_
    | refine W21 ?_
    | refine W22 ?_
    | refine W16 ?_
    | refine W9 ?_
    | refine W10 ?_
    | refine W48 ?_
    | (refine W49 (fun b => ?_))
    | (refine W50 (fun b => ?_))
    | (refine W51 (fun b => ?_))
    | refine W25 ?_)
  refine XL.trir (others_tri mF mI) (by rfl) (by rfl) (by rfl) (by rfl) (by rfl) (by rfl) (by rfl) (by (repeat' (first | exact Sels.nil | exact Sel.here | apply Sels.cons | apply Sel.there)); done) (by (repeat (first | exact sub0 | refine subC (by repeat (first | exact List.Mem.head _ | apply List.Mem.tail)) ?_)); done) ?_
  rintro b1 hok
  conv => arg 9; dsimp only [List.cons_append, List.nil_append]
  try conv => arg 7; dsimp only
  cases b1
  · refine XL.pure 1 (by rfl) ?_
    repeat' (first
      | refine W82 ?_
      | refine W83 ?_
      | refine W84 ?_
      | refine W85 ?_
      | refine W86 ?_
      | refine W87 ?_
      | (refine W89 (fun h => ?_) (fun h => ?_) <;> try (first | (exfalso; omega) | exact absurd rfl h | (exfalso; simp at h <;> omega)))
      | refine W90 ?_
      | refine W91 ?_
      | refine W94 ?_
      | refine W98 ?_
      | refine W99 ?_
      | refine W100 ?_
      | refine W101 ?_
      | refine W102 ?_
      | refine W103 ?_
      | refine W104 ?_
      | refine W105 ?_
      | refine W106 ?_
      | refine W1 ?_
      | (refine W2 (fun h => ?_) (fun h => ?_) <;> try (first | (exfalso; omega) | exact absurd rfl h | (exfalso; simp at h <;> omega)))
      | refine W3 ?_
      | refine W32 ?_
      | refine XL.pure 1 (by rfl) ?_
      | refine W13 ?_
      | refine W5 ?_
      | refine W14 ?_
      | refine W18 ?_
      | refine W6 ?_
      | refine W24 ?_
      | refine W27 ?_
      | refine W19 ?_
      | refine W20 ?_
      | refine W15 ?_
      | refine W7 ?_
      | refine W28 ?_
      | refine W29 ?_
      | refine W34 ?_
      | refine W35 ?_
      | refine W36 ?_
      | refine W37 ?_
      | refine W38 ?_
      | refine W39 ?_
      | refine W30 ?_
      | refine W31 ?_
      | refine W40 ?_
      | refine W41 ?_
      | refine W42 ?_
      | refine W43 ?_
      | refine W44 ?_
      | refine W45 ?_
      | refine W47 ?_
      | refine W108 ?_
      | refine W109 ?_
      | refine W8 ?_
      | refine W21 ?_
      | refine W22 ?_
      | refine W16 ?_
      | refine W9 ?_
      | refine W10 ?_
      | refine W48 ?_
      | (refine W49 (fun b => ?_))
      | (refine W50 (fun b => ?_))
      | (refine W51 (fun b => ?_))
      | refine W25 ?_)
    exact XQ.done1 (by rfl) (by rfl) ⟨8, fun h => by simp at h, rfl, rfl, rfl⟩ (by (repeat' (first | exact Sels.nil | exact Sel.here | apply Sels.cons | apply Sel.there)); done) (by (repeat (first | exact sub0 | refine subC (by repeat (first | exact List.Mem.head _ | apply List.Mem.tail)) ?_)); done)
  refine XL.pure 1 (by rfl) ?_
  repeat' (first
    | refine W82 ?_
    | refine W83 ?_
    | refine W84 ?_
    | refine W85 ?_
    | refine W86 ?_
    | refine W87 ?_
    | (refine W89 (fun h => ?_) (fun h => ?_) <;> try (first | (exfalso; omega) | exact absurd rfl h | (exfalso; simp at h <;> omega)))
    | refine W90 ?_
    | refine W91 ?_
    | refine W94 ?_
    | refine W98 ?_
    | refine W99 ?_
    | refine W100 ?_
    | refine W101 ?_
    | refine W102 ?_
    | refine W103 ?_
    | refine W104 ?_
    | refine W105 ?_
    | refine W106 ?_
    | refine W1 ?_
    | (refine W2 (fun h => ?_) (fun h => ?_) <;> try (first | (exfalso; omega) | exact absurd rfl h | (exfalso; simp at h <;> omega)))
    | refine W3 ?_
    | refine W32 ?_
    | refine XL.pure 1 (by rfl) ?_
    | refine W13 ?_
    | refine W5 ?_
    | refine W14 ?_
    | refine W18 ?_
    | refine W6 ?_
    | refine W24 ?_
    | refine W27 ?_
    | refine W19 ?_
    | refine W20 ?_
    | refine W15 ?_
    | refine W7 ?_
    | refine W28 ?_
    | refine W29 ?_
    | refine W34 ?_
    | refine W35 ?_
    | refine W36 ?_
    | refine W37 ?_
    | refine W38 ?_
    | refine W39 ?_
    | refine W30 ?_
    | refine W31 ?_
    | refine W40 ?_
    | refine W41 ?_
    | refine W42 ?_
    | refine W43 ?_
    | refine W44 ?_
    | refine W45 ?_
    | refine W47 ?_
    | refine W108 ?_
    | refine W109 ?_
    | refine W8 ?_
    | refine W21 ?_
    | refine W22 ?_
    | refine W16 ?_
    | refine W9 ?_
    | refine W10 ?_
    | refine W48 ?_
    | (refine W49 (fun b => ?_))
    | (refine W50 (fun b => ?_))
    | (refine W51 (fun b => ?_))
    | refine W25 ?_)
  refine XL.trir (next_tri (I := I) (k := k) (by omega)) (by rfl) (by rfl) (by rfl) (by rfl) (by rfl) (by rfl) (by rfl) (by (repeat' (first | exact Sels.nil | exact Sel.here | apply Sels.cons | apply Sel.there)); done) (by (repeat (first | exact sub0 | refine subC (by repeat (first | exact List.Mem.head _ | apply List.Mem.tail)) ?_)); done) ?_
  rintro ⟨v2, l2⟩ hl2
  dsimp only at hl2
  conv => arg 9; dsimp only [List.cons_append, List.nil_append]
  try conv => arg 7; dsimp only
  repeat' (first
    | refine W82 ?_
    | refine W83 ?_
    | refine W84 ?_
    | refine W85 ?_
    | refine W86 ?_
    | refine W87 ?_
    | (refine W89 (fun h => ?_) (fun h => ?_) <;> try (first | (exfalso; omega) | exact absurd rfl h | (exfalso; simp at h <;> omega)))
    | refine W90 ?_
    | refine W91 ?_
    | refine W94 ?_
    | refine W98 ?_
    | refine W99 ?_
    | refine W100 ?_
    | refine W101 ?_
    | refine W102 ?_
    | refine W103 ?_
    | refine W104 ?_
    | refine W105 ?_
    | refine W106 ?_
    | refine W1 ?_
    | (refine W2 (fun h => ?_) (fun h => ?_) <;> try (first | (exfalso; omega) | exact absurd rfl h | (exfalso; simp at h <;> omega)))
    | refine W3 ?_
    | refine W32 ?_
    | refine XL.pure 1 (by rfl) ?_
    | refine W13 ?_
    | refine W5 ?_
    | refine W14 ?_
    | refine W18 ?_
    | refine W6 ?_
    | refine W24 ?_
    | refine W27 ?_
    | refine W19 ?_
    | refine W20 ?_
    | refine W15 ?_
    | refine W7 ?_
    | refine W28 ?_
    | refine W29 ?_
    | refine W34 ?_
    | refine W35 ?_
    | refine W36 ?_
    | refine W37 ?_
    | refine W38 ?_
    | refine W39 ?_
    | refine W30 ?_
    | refine W31 ?_
    | refine W40 ?_
    | refine W41 ?_
    | refine W42 ?_
    | refine W43 ?_
    | refine W44 ?_
    | refine W45 ?_
    | refine W47 ?_
    | refine W108 ?_
    | refine W109 ?_
    | refine W8 ?_
    | refine W21 ?_
    | refine W22 ?_
    | refine W16 ?_
    | refine W9 ?_
    | refine W10 ?_
    | refine W48 ?_
    | (refine W49 (fun b => ?_))
    | (refine W50 (fun b => ?_))
    | (refine W51 (fun b => ?_))
    | refine W25 ?_)
  refine XC.loop (fun i : Nat => [(2, .int .i64 (k : Int)), (3, .pointer (some ⟨bp, 0, none⟩)), (4, .pointer (some ⟨bF, 0, none⟩)), (7, .pointer (some ⟨b, 0, none⟩)), (8, v2), (10, .int .i64 (i : Int))])
    (fun i w => i ≤ l2.length ∧ St c [rowO 3 1 v2 l2.length (ints l2), cel b I.cells.toArray 36, cel bF F.cells.toArray 39, cel bp #[p.sites, p.fns, .int .i64 p.main] 25] [progFP p] w) (fun i => l2.length - i) 0 (by (repeat (first | exact fits_nil | refine fits_cons (by rfl) ?_)); done) (fun w h => ⟨by omega, h.less (by (repeat' (first | exact Sels.nil | exact Sel.here | apply Sels.cons | apply Sel.there)); done) (by (repeat (first | exact sub0 | refine subC (by repeat (first | exact List.Mem.head _ | apply List.Mem.tail)) ?_)); done)⟩) ?_
  intro i
  refine XC.pure (fun hi => ?_)
  by_cases hlt : i < l2.length
  · obtain ⟨x, hx, -⟩ := get_of_lt hlt
    have gx := ints_get hx
    repeat' (first
      | refine W82 ?_
      | refine W83 ?_
      | refine W84 ?_
      | refine W85 ?_
      | refine W86 ?_
      | refine W87 ?_
      | (refine W89 (fun h => ?_) (fun h => ?_) <;> try (first | (exfalso; omega) | exact absurd rfl h | (exfalso; simp at h <;> omega)))
      | refine W90 ?_
      | refine W91 ?_
      | refine W94 ?_
      | refine W98 ?_
      | refine W99 ?_
      | refine W100 ?_
      | refine W101 ?_
      | refine W102 ?_
      | refine W103 ?_
      | refine W104 ?_
      | refine W105 ?_
      | refine W106 ?_
      | refine W1 ?_
      | (refine W2 (fun h => ?_) (fun h => ?_) <;> try (first | (exfalso; omega) | exact absurd rfl h | (exfalso; simp at h <;> omega)))
      | refine W3 ?_
      | refine W32 ?_
      | refine XL.pure 1 (by rfl) ?_
      | refine W13 ?_
      | refine W5 ?_
      | refine W14 ?_
      | refine W18 ?_
      | refine W6 ?_
      | refine W24 ?_
      | refine W27 ?_
      | refine W19 ?_
      | refine W20 ?_
      | refine W15 ?_
      | refine W7 ?_
      | refine W28 ?_
      | refine W29 ?_
      | refine W34 ?_
      | refine W35 ?_
      | refine W36 ?_
      | refine W37 ?_
      | refine W38 ?_
      | refine W39 ?_
      | refine W30 ?_
      | refine W31 ?_
      | refine W40 ?_
      | refine W41 ?_
      | refine W42 ?_
      | refine W43 ?_
      | refine W44 ?_
      | refine W45 ?_
      | refine W47 ?_
      | refine W108 ?_
      | refine W109 ?_
      | refine W8 ?_
      | refine W21 ?_
      | refine W22 ?_
      | refine W16 ?_
      | refine W9 ?_
      | refine W10 ?_
      | refine W48 ?_
      | (refine W49 (fun b => ?_))
      | (refine W50 (fun b => ?_))
      | (refine W51 (fun b => ?_))
      | refine W25 ?_)
    · exact XQ.done1 (by rfl) (by rfl) ⟨8, fun h => by simp at h, rfl, rfl, rfl⟩ (by (repeat' (first | exact Sels.nil | exact Sel.here | apply Sels.cons | apply Sel.there)); done) (by (repeat (first | exact sub0 | refine subC (by repeat (first | exact List.Mem.head _ | apply List.Mem.tail)) ?_)); done)
    · exact XQ.done1 (by rfl) (by rfl) ⟨8, fun h => by simp at h, rfl, rfl, rfl⟩ (by (repeat' (first | exact Sels.nil | exact Sel.here | apply Sels.cons | apply Sel.there)); done) (by (repeat (first | exact sub0 | refine subC (by repeat (first | exact List.Mem.head _ | apply List.Mem.tail)) ?_)); done)
    · exact XQ.round (i + 1) (by (repeat (first | exact fits_nil | refine fits_cons (by rfl) ?_)); done) (fun w hw => ⟨by omega, hw⟩) (by omega)
  have e : i = l2.length := by omega
  subst e
  repeat' (first
    | refine W82 ?_
    | refine W83 ?_
    | refine W84 ?_
    | refine W85 ?_
    | refine W86 ?_
    | refine W87 ?_
    | (refine W89 (fun h => ?_) (fun h => ?_) <;> try (first | (exfalso; omega) | exact absurd rfl h | (exfalso; simp at h <;> omega)))
    | refine W90 ?_
    | refine W91 ?_
    | refine W94 ?_
    | refine W98 ?_
    | refine W99 ?_
    | refine W100 ?_
    | refine W101 ?_
    | refine W102 ?_
    | refine W103 ?_
    | refine W104 ?_
    | refine W105 ?_
    | refine W106 ?_
    | refine W1 ?_
    | (refine W2 (fun h => ?_) (fun h => ?_) <;> try (first | (exfalso; omega) | exact absurd rfl h | (exfalso; simp at h <;> omega)))
    | refine W3 ?_
    | refine W32 ?_
    | refine XL.pure 1 (by rfl) ?_
    | refine W13 ?_
    | refine W5 ?_
    | refine W14 ?_
    | refine W18 ?_
    | refine W6 ?_
    | refine W24 ?_
    | refine W27 ?_
    | refine W19 ?_
    | refine W20 ?_
    | refine W15 ?_
    | refine W7 ?_
    | refine W28 ?_
    | refine W29 ?_
    | refine W34 ?_
    | refine W35 ?_
    | refine W36 ?_
    | refine W37 ?_
    | refine W38 ?_
    | refine W39 ?_
    | refine W30 ?_
    | refine W31 ?_
    | refine W40 ?_
    | refine W41 ?_
    | refine W42 ?_
    | refine W43 ?_
    | refine W44 ?_
    | refine W45 ?_
    | refine W47 ?_
    | refine W108 ?_
    | refine W109 ?_
    | refine W8 ?_
    | refine W21 ?_
    | refine W22 ?_
    | refine W16 ?_
    | refine W9 ?_
    | refine W10 ?_
    | refine W48 ?_
    | (refine W49 (fun b => ?_))
    | (refine W50 (fun b => ?_))
    | (refine W51 (fun b => ?_))
    | refine W25 ?_)
  exact XQ.done1 (by rfl) (by rfl) ⟨0, fun _ => hok rfl, rfl, rfl, rfl⟩ (by (repeat' (first | exact Sels.nil | exact Sel.here | apply Sels.cons | apply Sel.there)); done) (by (repeat (first | exact sub0 | refine subC (by repeat (first | exact List.Mem.head _ | apply List.Mem.tail)) ?_)); done)
end Go.Proofs.YtafochlcnjeanaaGreat
