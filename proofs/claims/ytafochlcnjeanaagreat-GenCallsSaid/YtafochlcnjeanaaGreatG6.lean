/- .. a program's check; which programs may be. -/
import Derived.Test.YtafochlcnjeanaaGreatG5
namespace Go.Proofs.YtafochlcnjeanaaGreat
open Go X
set_option maxRecDepth 100000
set_option maxHeartbeats 4000000
attribute [local irreducible] XC XL XQ Tri blk Shows Sq Rd Mt inBlockX
attribute [local irreducible] rowO
/-- What is known of a function that the check lets by. -/
def okF (p : ProgM) (F : FnM) : Prop := (0 ≤ F.regs ∧ F.regs ≤ 4000) ∧ F.params ≤ F.regs ∧ F.codeL.length ≤ 4000 ∧ ∀ I ∈ F.codeL, okI p I
theorem kindOf_in {p : ProgM} {n k : Int} (h : kindOf p n = k) (hk : k ≠ 0) : 0 ≤ n ∧ n < p.siteL.length := by
  unfold kindOf at h
  split at h
  · assumption
  · exact absurd h.symm hk
set_option maxHeartbeats 4000000 in
theorem check_tri {p : ProgM} (hw : p.WF) : Tri Tryz.prog 18 [p.v] [] [progFP p] (Ret (fun r : Int × Int × Int => .tuple #[.int .i64 r.1, .int .i64 r.2.1, .int .i64 r.2.2]) (fun _ => []) (fun _ => []) fun r => r.2.2 = 0 → p.OK) := by
  refine Tri.of Tryz.func18 rfl fun c => ?_
  have w1 := hw.sites
  have w2 := hw.fns
  simp only [maxLen] at w1 w2
  repeat' (first
    | refine W82 ?_
    | refine W83 ?_
    | refine W84 ?_
    | refine W85 ?_
    | refine W86 ?_
    | refine W87 ?_
    | (refine W89 (fun h => ?_) (fun h => ?_) <;> try (first | (exfalso; omega) | exact absurd rfl h | (exfalso; simp at h <;> omega)))
    | refine W90 ?_
    | refine W91 ?_
    | refine W94 ?_
    | refine W98 ?_
    | refine W99 ?_
    | refine W100 ?_
    | refine W101 ?_
    | refine W102 ?_
    | refine W103 ?_
    | refine W104 ?_
    | refine W105 ?_
    | refine W106 ?_
    | refine W1 ?_
    | (refine W2 (fun h => ?_) (fun h => ?_) <;> try (first | (exfalso; omega) | exact absurd rfl h | (exfalso; simp at h <;> omega)))
    | refine W3 ?_
    | refine W32 ?_
    | refine XL.pure 1 (by rfl) ?_
    | refine W13 ?_
    | refine W5 ?_
    | refine W14 ?_
    | refine W18 ?_
    | refine W6 ?_
    | refine W24 ?_
    | refine W27 ?_
    | refine W19 ?_
    | refine W20 ?_
    | refine W15 ?_
    | refine W7 ?_
    | refine W28 ?_
    | refine W29 ?_
    | refine W34 ?_
    | refine W35 ?_
    | refine W36 ?_
    | refine W37 ?_
    | refine W38 ?_
    | refine W39 ?_
    | refine W30 ?_
    | refine W31 ?_
    | refine W40 ?_
    | refine W41 ?_
    | refine W42 ?_
    | refine W43 ?_
    | refine W44 ?_
    | refine W45 ?_
    | refine W47 ?_
    | refine W108 ?_
    | refine W109 ?_
    | refine W8 ?_
    | refine W21 ?_
    | refine W22 ?_
    | refine W16 ?_
    | refine W9 ?_
    | refine W10 ?_
    | refine W48 ?_
    | (refine W49 (fun b => ?_))
    | (refine W50 (fun b => ?_))
    | (refine W51 (fun b => ?_))
    | refine W25 ?_)
  · exact XQ.done3 (by rfl) (by rfl) (by rfl) (by rfl) ⟨(_, _, _), fun h => by simp at h, rfl, rfl, rfl⟩ (by (repeat' (first | exact Sels.nil | exact Sel.here | apply Sels.cons | apply Sel.there)); done) (by (repeat (first | exact sub0 | refine subC (by repeat (first | exact List.Mem.head _ | apply List.Mem.tail)) ?_)); done)
  · exact XQ.done3 (by rfl) (by rfl) (by rfl) (by rfl) ⟨(_, _, _), fun h => by simp at h, rfl, rfl, rfl⟩ (by (repeat' (first | exact Sels.nil | exact Sel.here | apply Sels.cons | apply Sel.there)); done) (by (repeat (first | exact sub0 | refine subC (by repeat (first | exact List.Mem.head _ | apply List.Mem.tail)) ?_)); done)
  · exact XQ.done3 (by rfl) (by rfl) (by rfl) (by rfl) ⟨(_, _, _), fun h => by simp at h, rfl, rfl, rfl⟩ (by (repeat' (first | exact Sels.nil | exact Sel.here | apply Sels.cons | apply Sel.there)); done) (by (repeat (first | exact sub0 | refine subC (by repeat (first | exact List.Mem.head _ | apply List.Mem.tail)) ?_)); done)
  · exact XQ.done3 (by rfl) (by rfl) (by rfl) (by rfl) ⟨(_, _, _), fun h => by simp at h, rfl, rfl, rfl⟩ (by (repeat' (first | exact Sels.nil | exact Sel.here | apply Sels.cons | apply Sel.there)); done) (by (repeat (first | exact sub0 | refine subC (by repeat (first | exact List.Mem.head _ | apply List.Mem.tail)) ?_)); done)
  · exact XQ.done3 (by rfl) (by rfl) (by rfl) (by rfl) ⟨(_, _, _), fun h => by simp at h, rfl, rfl, rfl⟩ (by (repeat' (first | exact Sels.nil | exact Sel.here | apply Sels.cons | apply Sel.there)); done) (by (repeat (first | exact sub0 | refine subC (by repeat (first | exact List.Mem.head _ | apply List.Mem.tail)) ?_)); done)
  have few : p.fnL.length ≤ 200 := by omega
  obtain ⟨bp, rfl⟩ : ∃ x, x = b := ⟨b, rfl⟩
  refine XC.loop (fun i : Nat => [(1, .pointer (some ⟨bp, 0, none⟩)), (5, .int .i64 (i : Int))])
    (fun i w => i ≤ p.siteL.length ∧ St c [cel bp #[p.sites, p.fns, .int .i64 p.main] 25] [progFP p] w) (fun i => p.siteL.length - i) 0 (by (repeat (first | exact fits_nil | refine fits_cons (by rfl) ?_)); done) (fun w h => ⟨by omega, h⟩) ?_
  intro i
  refine XC.pure (fun hi => ?_)
  by_cases hlt : i < p.siteL.length
  · obtain ⟨S, hS, -⟩ := get_of_lt hlt
    have aS := site_at hS
    repeat' (first
      | refine W82 ?_
      | refine W83 ?_
      | refine W84 ?_
      | refine W85 ?_
      | refine W86 ?_
      | refine W87 ?_
      | (refine W89 (fun h => ?_) (fun h => ?_) <;> try (first | (exfalso; omega) | exact absurd rfl h | (exfalso; simp at h <;> omega)))
      | refine W90 ?_
      | refine W91 ?_
      | refine W94 ?_
      | refine W98 ?_
      | refine W99 ?_
      | refine W100 ?_
      | refine W101 ?_
      | refine W102 ?_
      | refine W103 ?_
      | refine W104 ?_
      | refine W105 ?_
      | refine W106 ?_
      | refine W1 ?_
      | (refine W2 (fun h => ?_) (fun h => ?_) <;> try (first | (exfalso; omega) | exact absurd rfl h | (exfalso; simp at h <;> omega)))
      | refine W3 ?_
      | refine W32 ?_
      | refine XL.pure 1 (by rfl) ?_
      | refine W13 ?_
      | refine W5 ?_
      | refine W14 ?_
      | refine W18 ?_
      | refine W6 ?_
      | refine W24 ?_
      | refine W27 ?_
      | refine W19 ?_
      | refine W20 ?_
      | refine W15 ?_
      | refine W7 ?_
      | refine W28 ?_
      | refine W29 ?_
      | refine W34 ?_
      | refine W35 ?_
      | refine W36 ?_
      | refine W37 ?_
      | refine W38 ?_
      | refine W39 ?_
      | refine W30 ?_
      | refine W31 ?_
      | refine W40 ?_
      | refine W41 ?_
      | refine W42 ?_
      | refine W43 ?_
      | refine W44 ?_
      | refine W45 ?_
      | refine W47 ?_
      | refine W108 ?_
      | refine W109 ?_
      | refine W8 ?_
      | refine W21 ?_
      | refine W22 ?_
      | refine W16 ?_
      | refine W9 ?_
      | refine W10 ?_
      | refine W48 ?_
      | (refine W49 (fun b => ?_))
      | (refine W50 (fun b => ?_))
      | (refine W51 (fun b => ?_))
      | refine W25 ?_)
    · exact XQ.done3 (by rfl) (by rfl) (by rfl) (by rfl) ⟨(_, _, _), fun h => by simp at h, rfl, rfl, rfl⟩ (by (repeat' (first | exact Sels.nil | exact Sel.here | apply Sels.cons | apply Sel.there)); done) (by (repeat (first | exact sub0 | refine subC (by repeat (first | exact List.Mem.head _ | apply List.Mem.tail)) ?_)); done)
    · exact XQ.round (i + 1) (by (repeat (first | exact fits_nil | refine fits_cons (by rfl) ?_)); done) (fun w hw => ⟨by omega, hw⟩) (by omega)
  have e : i = p.siteL.length := by omega
  subst e
  repeat' (first
    | refine W82 ?_
    | refine W83 ?_
    | refine W84 ?_
    | refine W85 ?_
    | refine W86 ?_
    | refine W87 ?_
    | (refine W89 (fun h => ?_) (fun h => ?_) <;> try (first | (exfalso; omega) | exact absurd rfl h | (exfalso; simp at h <;> omega)))
    | refine W90 ?_
    | refine W91 ?_
    | refine W94 ?_
    | refine W98 ?_
    | refine W99 ?_
    | refine W100 ?_
    | refine W101 ?_
    | refine W102 ?_
    | refine W103 ?_
    | refine W104 ?_
    | refine W105 ?_
    | refine W106 ?_
    | refine W1 ?_
    | (refine W2 (fun h => ?_) (fun h => ?_) <;> try (first | (exfalso; omega) | exact absurd rfl h | (exfalso; simp at h <;> omega)))
    | refine W3 ?_
    | refine W32 ?_
    | refine XL.pure 1 (by rfl) ?_
    | refine W13 ?_
    | refine W5 ?_
    | refine W14 ?_
    | refine W18 ?_
    | refine W6 ?_
    | refine W24 ?_
    | refine W27 ?_
    | refine W19 ?_
    | refine W20 ?_
    | refine W15 ?_
    | refine W7 ?_
    | refine W28 ?_
    | refine W29 ?_
    | refine W34 ?_
    | refine W35 ?_
    | refine W36 ?_
    | refine W37 ?_
    | refine W38 ?_
    | refine W39 ?_
    | refine W30 ?_
    | refine W31 ?_
    | refine W40 ?_
    | refine W41 ?_
    | refine W42 ?_
    | refine W43 ?_
    | refine W44 ?_
    | refine W45 ?_
    | refine W47 ?_
    | refine W108 ?_
    | refine W109 ?_
    | refine W8 ?_
    | refine W21 ?_
    | refine W22 ?_
    | refine W16 ?_
    | refine W9 ?_
    | refine W10 ?_
    | refine W48 ?_
    | (refine W49 (fun b => ?_))
    | (refine W50 (fun b => ?_))
    | (refine W51 (fun b => ?_))
    | refine W25 ?_)
  refine XC.loop (fun i : Nat => [(1, .pointer (some ⟨bp, 0, none⟩)), (6, .int .i64 (i : Int))])
    (fun i w => (i ≤ p.fnL.length ∧ ∀ j F, j < i → p.fnL[j]? = some F → okF p F) ∧ St c [cel bp #[p.sites, p.fns, .int .i64 p.main] 25] [progFP p] w) (fun i => p.fnL.length - i) 0 (by (repeat (first | exact fits_nil | refine fits_cons (by rfl) ?_)); done) (fun w h => ⟨⟨by omega, fun j F hj => absurd hj (by omega)⟩, h⟩) ?_
  intro i
  refine XC.pure (fun ⟨hi, hok⟩ => ?_)
  by_cases hlt : i < p.fnL.length
  · obtain ⟨F, hF, mF⟩ := get_of_lt hlt
    have aF := fn_at hF
    have o1 := hw.oneF F mF
    have w3 := hw.code F mF
    have w4 := hw.locs F mF
    simp only [maxLen] at w3 w4
    repeat' (first
      | refine W82 ?_
      | refine W83 ?_
      | refine W84 ?_
      | refine W85 ?_
      | refine W86 ?_
      | refine W87 ?_
      | (refine W89 (fun h => ?_) (fun h => ?_) <;> try (first | (exfalso; omega) | exact absurd rfl h | (exfalso; simp at h <;> omega)))
      | refine W90 ?_
      | refine W91 ?_
      | refine W94 ?_
      | refine W98 ?_
      | refine W99 ?_
      | refine W100 ?_
      | refine W101 ?_
      | refine W102 ?_
      | refine W103 ?_
      | refine W104 ?_
      | refine W105 ?_
      | refine W106 ?_
      | refine W1 ?_
      | (refine W2 (fun h => ?_) (fun h => ?_) <;> try (first | (exfalso; omega) | exact absurd rfl h | (exfalso; simp at h <;> omega)))
      | refine W3 ?_
      | refine W32 ?_
      | refine XL.pure 1 (by rfl) ?_
      | refine W13 ?_
      | refine W5 ?_
      | refine W14 ?_
      | refine W18 ?_
      | refine W6 ?_
      | refine W24 ?_
      | refine W27 ?_
      | refine W19 ?_
      | refine W20 ?_
      | refine W15 ?_
      | refine W7 ?_
      | refine W28 ?_
      | refine W29 ?_
      | refine W34 ?_
      | refine W35 ?_
      | refine W36 ?_
      | refine W37 ?_
      | refine W38 ?_
      | refine W39 ?_
      | refine W30 ?_
      | refine W31 ?_
      | refine W40 ?_
      | refine W41 ?_
      | refine W42 ?_
      | refine W43 ?_
      | refine W44 ?_
      | refine W45 ?_
      | refine W47 ?_
      | refine W108 ?_
      | refine W109 ?_
      | refine W8 ?_
      | refine W21 ?_
      | refine W22 ?_
      | refine W16 ?_
      | refine W9 ?_
      | refine W10 ?_
      | refine W48 ?_
      | (refine W49 (fun b => ?_))
      | (refine W50 (fun b => ?_))
      | (refine W51 (fun b => ?_))
      | refine W25 ?_)
    · exact XQ.done3 (by rfl) (by rfl) (by rfl) (by rfl) ⟨(_, _, _), fun h => by simp at h, rfl, rfl, rfl⟩ (by (repeat' (first | exact Sels.nil | exact Sel.here | apply Sels.cons | apply Sel.there)); done) (by (repeat (first | exact sub0 | refine subC (by repeat (first | exact List.Mem.head _ | apply List.Mem.tail)) ?_)); done)
    · exact XQ.done3 (by rfl) (by rfl) (by rfl) (by rfl) ⟨(_, _, _), fun h => by simp at h, rfl, rfl, rfl⟩ (by (repeat' (first | exact Sels.nil | exact Sel.here | apply Sels.cons | apply Sel.there)); done) (by (repeat (first | exact sub0 | refine subC (by repeat (first | exact List.Mem.head _ | apply List.Mem.tail)) ?_)); done)
    · exact XQ.done3 (by rfl) (by rfl) (by rfl) (by rfl) ⟨(_, _, _), fun h => by simp at h, rfl, rfl, rfl⟩ (by (repeat' (first | exact Sels.nil | exact Sel.here | apply Sels.cons | apply Sel.there)); done) (by (repeat (first | exact sub0 | refine subC (by repeat (first | exact List.Mem.head _ | apply List.Mem.tail)) ?_)); done)
    · exact XQ.done3 (by rfl) (by rfl) (by rfl) (by rfl) ⟨(_, _, _), fun h => by simp at h, rfl, rfl, rfl⟩ (by (repeat' (first | exact Sels.nil | exact Sel.here | apply Sels.cons | apply Sel.there)); done) (by (repeat (first | exact sub0 | refine subC (by repeat (first | exact List.Mem.head _ | apply List.Mem.tail)) ?_)); done)
    · exact XQ.done3 (by rfl) (by rfl) (by rfl) (by rfl) ⟨(_, _, _), fun h => by simp at h, rfl, rfl, rfl⟩ (by (repeat' (first | exact Sels.nil | exact Sel.here | apply Sels.cons | apply Sel.there)); done) (by (repeat (first | exact sub0 | refine subC (by repeat (first | exact List.Mem.head _ | apply List.Mem.tail)) ?_)); done)
    refine XC.loop (fun j : Nat => [(1, .pointer (some ⟨bp, 0, none⟩)), (6, .int .i64 (i : Int)), (7, .pointer (some ⟨b, 0, none⟩)), (8, .int .i64 (j : Int))])
      (fun j w => j ≤ F.locL.length ∧ St c [cel b F.cells.toArray 39, cel bp #[p.sites, p.fns, .int .i64 p.main] 25] [progFP p] w) (fun j => F.locL.length - j) 0 (by (repeat (first | exact fits_nil | refine fits_cons (by rfl) ?_)); done) (fun w h => ⟨by omega, h⟩) ?_
    intro j
    refine XC.pure (fun hj => ?_)
    by_cases hlt2 : j < F.locL.length
    · obtain ⟨x, hx, -⟩ := get_of_lt hlt2
      have gx := ints_get hx
      repeat' (first
        | refine W82 ?_
        | refine W83 ?_
        | refine W84 ?_
        | refine W85 ?_
        | refine W86 ?_
        | refine W87 ?_
        | (refine W89 (fun h => ?_) (fun h => ?_) <;> try (first | (exfalso; omega) | exact absurd rfl h | (exfalso; simp at h <;> omega)))
        | refine W90 ?_
        | refine W91 ?_
        | refine W94 ?_
        | refine W98 ?_
        | refine W99 ?_
        | refine W100 ?_
        | refine W101 ?_
        | refine W102 ?_
        | refine W103 ?_
        | refine W104 ?_
        | refine W105 ?_
        | refine W106 ?_
        | refine W1 ?_
        | (refine W2 (fun h => ?_) (fun h => ?_) <;> try (first | (exfalso; omega) | exact absurd rfl h | (exfalso; simp at h <;> omega)))
        | refine W3 ?_
        | refine W32 ?_
        | refine XL.pure 1 (by rfl) ?_
        | refine W13 ?_
        | refine W5 ?_
        | refine W14 ?_
        | refine W18 ?_
        | refine W6 ?_
        | refine W24 ?_
        | refine W27 ?_
        | refine W19 ?_
        | refine W20 ?_
        | refine W15 ?_
        | refine W7 ?_
        | refine W28 ?_
        | refine W29 ?_
        | refine W34 ?_
        | refine W35 ?_
        | refine W36 ?_
        | refine W37 ?_
        | refine W38 ?_
        | refine W39 ?_
        | refine W30 ?_
        | refine W31 ?_
        | refine W40 ?_
        | refine W41 ?_
        | refine W42 ?_
        | refine W43 ?_
        | refine W44 ?_
        | refine W45 ?_
        | refine W47 ?_
        | refine W108 ?_
        | refine W109 ?_
        | refine W8 ?_
        | refine W21 ?_
        | refine W22 ?_
        | refine W16 ?_
        | refine W9 ?_
        | refine W10 ?_
        | refine W48 ?_
        | (refine W49 (fun b => ?_))
        | (refine W50 (fun b => ?_))
        | (refine W51 (fun b => ?_))
        | refine W25 ?_)
      refine XL.triq (kind_tri (p := p) (n := x)) (by rfl) (by rfl) (by rfl) (by rfl) (by rfl) (by rfl) (by rfl) (by (repeat' (first | exact Sels.nil | exact Sel.here | apply Sels.cons | apply Sel.there)); done) (by (repeat' (first | exact Sels.nil | exact Sel.here | apply Sels.cons | apply Sel.there)); done) (by (repeat (first | exact sub0 | refine subC (by repeat (first | exact List.Mem.head _ | apply List.Mem.tail)) ?_)); done) ?_
      repeat' (first
        | refine W82 ?_
        | refine W83 ?_
        | refine W84 ?_
        | refine W85 ?_
        | refine W86 ?_
        | refine W87 ?_
        | (refine W89 (fun h => ?_) (fun h => ?_) <;> try (first | (exfalso; omega) | exact absurd rfl h | (exfalso; simp at h <;> omega)))
        | refine W90 ?_
        | refine W91 ?_
        | refine W94 ?_
        | refine W98 ?_
        | refine W99 ?_
        | refine W100 ?_
        | refine W101 ?_
        | refine W102 ?_
        | refine W103 ?_
        | refine W104 ?_
        | refine W105 ?_
        | refine W106 ?_
        | refine W1 ?_
        | (refine W2 (fun h => ?_) (fun h => ?_) <;> try (first | (exfalso; omega) | exact absurd rfl h | (exfalso; simp at h <;> omega)))
        | refine W3 ?_
        | refine W32 ?_
        | refine XL.pure 1 (by rfl) ?_
        | refine W13 ?_
        | refine W5 ?_
        | refine W14 ?_
        | refine W18 ?_
        | refine W6 ?_
        | refine W24 ?_
        | refine W27 ?_
        | refine W19 ?_
        | refine W20 ?_
        | refine W15 ?_
        | refine W7 ?_
        | refine W28 ?_
        | refine W29 ?_
        | refine W34 ?_
        | refine W35 ?_
        | refine W36 ?_
        | refine W37 ?_
        | refine W38 ?_
        | refine W39 ?_
        | refine W30 ?_
        | refine W31 ?_
        | refine W40 ?_
        | refine W41 ?_
        | refine W42 ?_
        | refine W43 ?_
        | refine W44 ?_
        | refine W45 ?_
        | refine W47 ?_
        | refine W108 ?_
        | refine W109 ?_
        | refine W8 ?_
        | refine W21 ?_
        | refine W22 ?_
        | refine W16 ?_
        | refine W9 ?_
        | refine W10 ?_
        | refine W48 ?_
        | (refine W49 (fun b => ?_))
        | (refine W50 (fun b => ?_))
        | (refine W51 (fun b => ?_))
        | refine W25 ?_)
      · exact XQ.done3 (by rfl) (by rfl) (by rfl) (by rfl) ⟨(_, _, _), fun h => by simp at h, rfl, rfl, rfl⟩ (by (repeat' (first | exact Sels.nil | exact Sel.here | apply Sels.cons | apply Sel.there)); done) (by (repeat (first | exact sub0 | refine subC (by repeat (first | exact List.Mem.head _ | apply List.Mem.tail)) ?_)); done)
      have hk2 : kindOf p x = 2 := by omega
      obtain ⟨hx0, hx1⟩ := kindOf_in hk2 (by decide)
      obtain ⟨S, hS, -⟩ := get_of_lt (l := p.siteL) (i := x.toNat) (by omega)
      have aS := site_at hS
      repeat' (first
        | refine W82 ?_
        | refine W83 ?_
        | refine W84 ?_
        | refine W85 ?_
        | refine W86 ?_
        | refine W87 ?_
        | (refine W89 (fun h => ?_) (fun h => ?_) <;> try (first | (exfalso; omega) | exact absurd rfl h | (exfalso; simp at h <;> omega)))
        | refine W90 ?_
        | refine W91 ?_
        | refine W94 ?_
        | refine W98 ?_
        | refine W99 ?_
        | refine W100 ?_
        | refine W101 ?_
        | refine W102 ?_
        | refine W103 ?_
        | refine W104 ?_
        | refine W105 ?_
        | refine W106 ?_
        | refine W1 ?_
        | (refine W2 (fun h => ?_) (fun h => ?_) <;> try (first | (exfalso; omega) | exact absurd rfl h | (exfalso; simp at h <;> omega)))
        | refine W3 ?_
        | refine W32 ?_
        | refine XL.pure 1 (by rfl) ?_
        | refine W13 ?_
        | refine W5 ?_
        | refine W14 ?_
        | refine W18 ?_
        | refine W6 ?_
        | refine W24 ?_
        | refine W27 ?_
        | refine W19 ?_
        | refine W20 ?_
        | refine W15 ?_
        | refine W7 ?_
        | refine W28 ?_
        | refine W29 ?_
        | refine W34 ?_
        | refine W35 ?_
        | refine W36 ?_
        | refine W37 ?_
        | refine W38 ?_
        | refine W39 ?_
        | refine W30 ?_
        | refine W31 ?_
        | refine W40 ?_
        | refine W41 ?_
        | refine W42 ?_
        | refine W43 ?_
        | refine W44 ?_
        | refine W45 ?_
        | refine W47 ?_
        | refine W108 ?_
        | refine W109 ?_
        | refine W8 ?_
        | refine W21 ?_
        | refine W22 ?_
        | refine W16 ?_
        | refine W9 ?_
        | refine W10 ?_
        | refine W48 ?_
        | (refine W49 (fun b => ?_))
        | (refine W50 (fun b => ?_))
        | (refine W51 (fun b => ?_))
        | refine W25 ?_)
      · exact XQ.done3 (by rfl) (by rfl) (by rfl) (by rfl) ⟨(_, _, _), fun h => by simp at h, rfl, rfl, rfl⟩ (by (repeat' (first | exact Sels.nil | exact Sel.here | apply Sels.cons | apply Sel.there)); done) (by (repeat (first | exact sub0 | refine subC (by repeat (first | exact List.Mem.head _ | apply List.Mem.tail)) ?_)); done)
      · exact XQ.round (j + 1) (by (repeat (first | exact fits_nil | refine fits_cons (by rfl) ?_)); done) (fun w hw => ⟨by omega, hw⟩) (by omega)
    have e : j = F.locL.length := by omega
    subst e
    repeat' (first
      | refine W82 ?_
      | refine W83 ?_
      | refine W84 ?_
      | refine W85 ?_
      | refine W86 ?_
      | refine W87 ?_
      | (refine W89 (fun h => ?_) (fun h => ?_) <;> try (first | (exfalso; omega) | exact absurd rfl h | (exfalso; simp at h <;> omega)))
      | refine W90 ?_
      | refine W91 ?_
      | refine W94 ?_
      | refine W98 ?_
      | refine W99 ?_
      | refine W100 ?_
      | refine W101 ?_
      | refine W102 ?_
      | refine W103 ?_
      | refine W104 ?_
      | refine W105 ?_
      | refine W106 ?_
      | refine W1 ?_
      | (refine W2 (fun h => ?_) (fun h => ?_) <;> try (first | (exfalso; omega) | exact absurd rfl h | (exfalso; simp at h <;> omega)))
      | refine W3 ?_
      | refine W32 ?_
      | refine XL.pure 1 (by rfl) ?_
      | refine W13 ?_
      | refine W5 ?_
      | refine W14 ?_
      | refine W18 ?_
      | refine W6 ?_
      | refine W24 ?_
      | refine W27 ?_
      | refine W19 ?_
      | refine W20 ?_
      | refine W15 ?_
      | refine W7 ?_
      | refine W28 ?_
      | refine W29 ?_
      | refine W34 ?_
      | refine W35 ?_
      | refine W36 ?_
      | refine W37 ?_
      | refine W38 ?_
      | refine W39 ?_
      | refine W30 ?_
      | refine W31 ?_
      | refine W40 ?_
      | refine W41 ?_
      | refine W42 ?_
      | refine W43 ?_
      | refine W44 ?_
      | refine W45 ?_
      | refine W47 ?_
      | refine W108 ?_
      | refine W109 ?_
      | refine W8 ?_
      | refine W21 ?_
      | refine W22 ?_
      | refine W16 ?_
      | refine W9 ?_
      | refine W10 ?_
      | refine W48 ?_
      | (refine W49 (fun b => ?_))
      | (refine W50 (fun b => ?_))
      | (refine W51 (fun b => ?_))
      | refine W25 ?_)
    refine XC.loop (fun j : Nat => [(1, .pointer (some ⟨bp, 0, none⟩)), (6, .int .i64 (i : Int)), (7, .pointer (some ⟨b, 0, none⟩)), (9, .int .i64 (j : Int))])
      (fun j w => (j ≤ F.codeL.length ∧ ∀ k I, k < j → F.codeL[k]? = some I → okI p I) ∧ St c [cel b F.cells.toArray 39, cel bp #[p.sites, p.fns, .int .i64 p.main] 25] [progFP p] w) (fun j => F.codeL.length - j) 0 (by (repeat (first | exact fits_nil | refine fits_cons (by rfl) ?_)); done) (fun w h => ⟨⟨by omega, fun k I hk => absurd hk (by omega)⟩, h⟩) ?_
    intro j
    refine XC.pure (fun ⟨hj, hoj⟩ => ?_)
    by_cases hlt2 : j < F.codeL.length
    · obtain ⟨I, hI, -⟩ := get_of_lt hlt2
      repeat' (first
        | refine W82 ?_
        | refine W83 ?_
        | refine W84 ?_
        | refine W85 ?_
        | refine W86 ?_
        | refine W87 ?_
        | (refine W89 (fun h => ?_) (fun h => ?_) <;> try (first | (exfalso; omega) | exact absurd rfl h | (exfalso; simp at h <;> omega)))
        | refine W90 ?_
        | refine W91 ?_
        | refine W94 ?_
        | refine W98 ?_
        | refine W99 ?_
        | refine W100 ?_
        | refine W101 ?_
        | refine W102 ?_
        | refine W103 ?_
        | refine W104 ?_
        | refine W105 ?_
        | refine W106 ?_
        | refine W1 ?_
        | (refine W2 (fun h => ?_) (fun h => ?_) <;> try (first | (exfalso; omega) | exact absurd rfl h | (exfalso; simp at h <;> omega)))
        | refine W3 ?_
        | refine W32 ?_
        | refine XL.pure 1 (by rfl) ?_
        | refine W13 ?_
        | refine W5 ?_
        | refine W14 ?_
        | refine W18 ?_
        | refine W6 ?_
        | refine W24 ?_
        | refine W27 ?_
        | refine W19 ?_
        | refine W20 ?_
        | refine W15 ?_
        | refine W7 ?_
        | refine W28 ?_
        | refine W29 ?_
        | refine W34 ?_
        | refine W35 ?_
        | refine W36 ?_
        | refine W37 ?_
        | refine W38 ?_
        | refine W39 ?_
        | refine W30 ?_
        | refine W31 ?_
        | refine W40 ?_
        | refine W41 ?_
        | refine W42 ?_
        | refine W43 ?_
        | refine W44 ?_
        | refine W45 ?_
        | refine W47 ?_
        | refine W108 ?_
        | refine W109 ?_
        | refine W8 ?_
        | refine W21 ?_
        | refine W22 ?_
        | refine W16 ?_
        | refine W9 ?_
        | refine W10 ?_
        | refine W48 ?_
        | (refine W49 (fun b => ?_))
        | (refine W50 (fun b => ?_))
        | (refine W51 (fun b => ?_))
        | refine W25 ?_)
      refine XL.trir (insn8_tri hw mF hI) (by rfl) (by rfl) (by rfl) (by rfl) (by rfl) (by rfl) (by rfl) (by (repeat' (first | exact Sels.nil | exact Sel.here | apply Sels.cons | apply Sel.there)); done) (by (repeat (first | exact sub0 | refine subC (by repeat (first | exact List.Mem.head _ | apply List.Mem.tail)) ?_)); done) ?_
      rintro r hr
      conv => arg 9; dsimp only [List.cons_append, List.nil_append]
      try conv => arg 7; dsimp only
      repeat' (first
        | refine W82 ?_
        | refine W83 ?_
        | refine W84 ?_
        | refine W85 ?_
        | refine W86 ?_
        | refine W87 ?_
        | (refine W89 (fun h => ?_) (fun h => ?_) <;> try (first | (exfalso; omega) | exact absurd rfl h | (exfalso; simp at h <;> omega)))
        | refine W90 ?_
        | refine W91 ?_
        | refine W94 ?_
        | refine W98 ?_
        | refine W99 ?_
        | refine W100 ?_
        | refine W101 ?_
        | refine W102 ?_
        | refine W103 ?_
        | refine W104 ?_
        | refine W105 ?_
        | refine W106 ?_
        | refine W1 ?_
        | (refine W2 (fun h => ?_) (fun h => ?_) <;> try (first | (exfalso; omega) | exact absurd rfl h | (exfalso; simp at h <;> omega)))
        | refine W3 ?_
        | refine W32 ?_
        | refine XL.pure 1 (by rfl) ?_
        | refine W13 ?_
        | refine W5 ?_
        | refine W14 ?_
        | refine W18 ?_
        | refine W6 ?_
        | refine W24 ?_
        | refine W27 ?_
        | refine W19 ?_
        | refine W20 ?_
        | refine W15 ?_
        | refine W7 ?_
        | refine W28 ?_
        | refine W29 ?_
        | refine W34 ?_
        | refine W35 ?_
        | refine W36 ?_
        | refine W37 ?_
        | refine W38 ?_
        | refine W39 ?_
        | refine W30 ?_
        | refine W31 ?_
        | refine W40 ?_
        | refine W41 ?_
        | refine W42 ?_
        | refine W43 ?_
        | refine W44 ?_
        | refine W45 ?_
        | refine W47 ?_
        | refine W108 ?_
        | refine W109 ?_
        | refine W8 ?_
        | refine W21 ?_
        | refine W22 ?_
        | refine W16 ?_
        | refine W9 ?_
        | refine W10 ?_
        | refine W48 ?_
        | (refine W49 (fun b => ?_))
        | (refine W50 (fun b => ?_))
        | (refine W51 (fun b => ?_))
        | refine W25 ?_)
      · exact XQ.done3 (by rfl) (by rfl) (by rfl) (by rfl) ⟨(_, _, _), fun h0 => by dsimp only at h0; omega, rfl, rfl, rfl⟩ (by (repeat' (first | exact Sels.nil | exact Sel.here | apply Sels.cons | apply Sel.there)); done) (by (repeat (first | exact sub0 | refine subC (by repeat (first | exact List.Mem.head _ | apply List.Mem.tail)) ?_)); done)
      · refine XQ.round (j + 1) (by (repeat (first | exact fits_nil | refine fits_cons (by rfl) ?_)); done) (fun w hw => ⟨⟨by omega, fun k I' hk hI' => ?_⟩, hw⟩) (by omega)
        by_cases hkj : k < j
        · exact hoj k I' hkj hI'
        · have : k = j := by omega
          subst this
          rw [hI] at hI'
          cases hI'
          exact hr (by omega)
    have e : j = F.codeL.length := by omega
    subst e
    repeat' (first
      | refine W82 ?_
      | refine W83 ?_
      | refine W84 ?_
      | refine W85 ?_
      | refine W86 ?_
      | refine W87 ?_
      | (refine W89 (fun h => ?_) (fun h => ?_) <;> try (first | (exfalso; omega) | exact absurd rfl h | (exfalso; simp at h <;> omega)))
      | refine W90 ?_
      | refine W91 ?_
      | refine W94 ?_
      | refine W98 ?_
      | refine W99 ?_
      | refine W100 ?_
      | refine W101 ?_
      | refine W102 ?_
      | refine W103 ?_
      | refine W104 ?_
      | refine W105 ?_
      | refine W106 ?_
      | refine W1 ?_
      | (refine W2 (fun h => ?_) (fun h => ?_) <;> try (first | (exfalso; omega) | exact absurd rfl h | (exfalso; simp at h <;> omega)))
      | refine W3 ?_
      | refine W32 ?_
      | refine XL.pure 1 (by rfl) ?_
      | refine W13 ?_
      | refine W5 ?_
      | refine W14 ?_
      | refine W18 ?_
      | refine W6 ?_
      | refine W24 ?_
      | refine W27 ?_
      | refine W19 ?_
      | refine W20 ?_
      | refine W15 ?_
      | refine W7 ?_
      | refine W28 ?_
      | refine W29 ?_
      | refine W34 ?_
      | refine W35 ?_
      | refine W36 ?_
      | refine W37 ?_
      | refine W38 ?_
      | refine W39 ?_
      | refine W30 ?_
      | refine W31 ?_
      | refine W40 ?_
      | refine W41 ?_
      | refine W42 ?_
      | refine W43 ?_
      | refine W44 ?_
      | refine W45 ?_
      | refine W47 ?_
      | refine W108 ?_
      | refine W109 ?_
      | refine W8 ?_
      | refine W21 ?_
      | refine W22 ?_
      | refine W16 ?_
      | refine W9 ?_
      | refine W10 ?_
      | refine W48 ?_
      | (refine W49 (fun b => ?_))
      | (refine W50 (fun b => ?_))
      | (refine W51 (fun b => ?_))
      | refine W25 ?_)
    refine XQ.round (i + 1) (by (repeat (first | exact fits_nil | refine fits_cons (by rfl) ?_)); done) (fun w hw => ⟨⟨by omega, fun k G hk hG => ?_⟩, hw.less (by (repeat' (first | exact Sels.nil | exact Sel.here | apply Sels.cons | apply Sel.there)); done) (by (repeat (first | exact sub0 | refine subC (by repeat (first | exact List.Mem.head _ | apply List.Mem.tail)) ?_)); done)⟩) (by omega)
    by_cases hki : k < i
    · exact hok k G hki hG
    · have : k = i := by omega
      subst this
      rw [hF] at hG
      cases hG
      refine ⟨by omega, by omega, by omega, fun I mI => ?_⟩
      obtain ⟨k, hk, rfl⟩ := List.getElem_of_mem mI
      exact hoj k _ hk (List.getElem?_eq_getElem hk)
  have e : i = p.fnL.length := by omega
  subst e
  repeat' (first
    | refine W82 ?_
    | refine W83 ?_
    | refine W84 ?_
    | refine W85 ?_
    | refine W86 ?_
    | refine W87 ?_
    | (refine W89 (fun h => ?_) (fun h => ?_) <;> try (first | (exfalso; omega) | exact absurd rfl h | (exfalso; simp at h <;> omega)))
    | refine W90 ?_
    | refine W91 ?_
    | refine W94 ?_
    | refine W98 ?_
    | refine W99 ?_
    | refine W100 ?_
    | refine W101 ?_
    | refine W102 ?_
    | refine W103 ?_
    | refine W104 ?_
    | refine W105 ?_
    | refine W106 ?_
    | refine W1 ?_
    | (refine W2 (fun h => ?_) (fun h => ?_) <;> try (first | (exfalso; omega) | exact absurd rfl h | (exfalso; simp at h <;> omega)))
    | refine W3 ?_
    | refine W32 ?_
    | refine XL.pure 1 (by rfl) ?_
    | refine W13 ?_
    | refine W5 ?_
    | refine W14 ?_
    | refine W18 ?_
    | refine W6 ?_
    | refine W24 ?_
    | refine W27 ?_
    | refine W19 ?_
    | refine W20 ?_
    | refine W15 ?_
    | refine W7 ?_
    | refine W28 ?_
    | refine W29 ?_
    | refine W34 ?_
    | refine W35 ?_
    | refine W36 ?_
    | refine W37 ?_
    | refine W38 ?_
    | refine W39 ?_
    | refine W30 ?_
    | refine W31 ?_
    | refine W40 ?_
    | refine W41 ?_
    | refine W42 ?_
    | refine W43 ?_
    | refine W44 ?_
    | refine W45 ?_
    | refine W47 ?_
    | refine W108 ?_
    | refine W109 ?_
    | refine W8 ?_
    | refine W21 ?_
    | refine W22 ?_
    | refine W16 ?_
    | refine W9 ?_
    | refine W10 ?_
    | refine W48 ?_
    | (refine W49 (fun b => ?_))
    | (refine W50 (fun b => ?_))
    | (refine W51 (fun b => ?_))
    | refine W25 ?_)
  refine XQ.done3 (by rfl) (by rfl) (by rfl) (by rfl) ⟨(0, 0, 0), fun _ => ⟨few, fun F mF => ?_, fun F mF => ?_, fun F mF => ?_, fun F mF => ?_⟩, rfl, rfl, rfl⟩ (by (repeat' (first | exact Sels.nil | exact Sel.here | apply Sels.cons | apply Sel.there)); done) (by (repeat (first | exact sub0 | refine subC (by repeat (first | exact List.Mem.head _ | apply List.Mem.tail)) ?_)); done)
  all_goals
    obtain ⟨j, hj, rfl⟩ := List.getElem_of_mem mF
    have := hok j _ hj (List.getElem?_eq_getElem hj)
  · exact this.1
  · exact this.2.1
  · exact this.2.2.1
  · exact this.2.2.2
theorem may_tri {p : ProgM} (hw : p.WF) : Tri Tryz.prog 9 [p.v] [] [progFP p] (Ret (fun b : Bool => .bool b) (fun _ => []) (fun _ => []) fun b => b = true → p.OK) := by
  refine Tri.of Tryz.func9 rfl fun c => ?_
  have w2 := hw.fns
  simp only [maxLen] at w2
  repeat' (first
    | refine W82 ?_
    | refine W83 ?_
    | refine W84 ?_
    | refine W85 ?_
    | refine W86 ?_
    | refine W87 ?_
    | (refine W89 (fun h => ?_) (fun h => ?_) <;> try (first | (exfalso; omega) | exact absurd rfl h | (exfalso; simp at h <;> omega)))
    | refine W90 ?_
    | refine W91 ?_
    | refine W94 ?_
    | refine W98 ?_
    | refine W99 ?_
    | refine W100 ?_
    | refine W101 ?_
    | refine W102 ?_
    | refine W103 ?_
    | refine W104 ?_
    | refine W105 ?_
    | refine W106 ?_
    | refine W1 ?_
    | (refine W2 (fun h => ?_) (fun h => ?_) <;> try (first | (exfalso; omega) | exact absurd rfl h | (exfalso; simp at h <;> omega)))
    | refine W3 ?_
    | refine W32 ?_
    | refine XL.pure 1 (by rfl) ?_
    | refine W13 ?_
    | refine W5 ?_
    | refine W14 ?_
    | refine W18 ?_
    | refine W6 ?_
    | refine W24 ?_
    | refine W27 ?_
    | refine W19 ?_
    | refine W20 ?_
    | refine W15 ?_
    | refine W7 ?_
    | refine W28 ?_
    | refine W29 ?_
    | refine W34 ?_
    | refine W35 ?_
    | refine W36 ?_
    | refine W37 ?_
    | refine W38 ?_
    | refine W39 ?_
    | refine W30 ?_
    | refine W31 ?_
    | refine W40 ?_
    | refine W41 ?_
    | refine W42 ?_
    | refine W43 ?_
    | refine W44 ?_
    | refine W45 ?_
    | refine W47 ?_
    | refine W108 ?_
    | refine W109 ?_
    | refine W8 ?_
    | refine W21 ?_
    | refine W22 ?_
    | refine W16 ?_
    | refine W9 ?_
    | refine W10 ?_
    | refine W48 ?_
    | (refine W49 (fun b => ?_))
    | (refine W50 (fun b => ?_))
    | (refine W51 (fun b => ?_))
    | refine W25 ?_)
  refine XL.trir (check_tri hw) (by rfl) (by rfl) (by rfl) (by rfl) (by rfl) (by rfl) (by rfl) (by (repeat' (first | exact Sels.nil | exact Sel.here | apply Sels.cons | apply Sel.there)); done) (by (repeat (first | exact sub0 | refine subC (by repeat (first | exact List.Mem.head _ | apply List.Mem.tail)) ?_)); done) ?_
  rintro ⟨r1, r2, r3⟩ hr
  dsimp only at hr
  conv => arg 9; dsimp only [List.cons_append, List.nil_append]
  try conv => arg 7; dsimp only
  repeat' (first
    | refine W82 ?_
    | refine W83 ?_
    | refine W84 ?_
    | refine W85 ?_
    | refine W86 ?_
    | refine W87 ?_
    | (refine W89 (fun h => ?_) (fun h => ?_) <;> try (first | (exfalso; omega) | exact absurd rfl h | (exfalso; simp at h <;> omega)))
    | refine W90 ?_
    | refine W91 ?_
    | refine W94 ?_
    | refine W98 ?_
    | refine W99 ?_
    | refine W100 ?_
    | refine W101 ?_
    | refine W102 ?_
    | refine W103 ?_
    | refine W104 ?_
    | refine W105 ?_
    | refine W106 ?_
    | refine W1 ?_
    | (refine W2 (fun h => ?_) (fun h => ?_) <;> try (first | (exfalso; omega) | exact absurd rfl h | (exfalso; simp at h <;> omega)))
    | refine W3 ?_
    | refine W32 ?_
    | refine XL.pure 1 (by rfl) ?_
    | refine W13 ?_
    | refine W5 ?_
    | refine W14 ?_
    | refine W18 ?_
    | refine W6 ?_
    | refine W24 ?_
    | refine W27 ?_
    | refine W19 ?_
    | refine W20 ?_
    | refine W15 ?_
    | refine W7 ?_
    | refine W28 ?_
    | refine W29 ?_
    | refine W34 ?_
    | refine W35 ?_
    | refine W36 ?_
    | refine W37 ?_
    | refine W38 ?_
    | refine W39 ?_
    | refine W30 ?_
    | refine W31 ?_
    | refine W40 ?_
    | refine W41 ?_
    | refine W42 ?_
    | refine W43 ?_
    | refine W44 ?_
    | refine W45 ?_
    | refine W47 ?_
    | refine W108 ?_
    | refine W109 ?_
    | refine W8 ?_
    | refine W21 ?_
    | refine W22 ?_
    | refine W16 ?_
    | refine W9 ?_
    | refine W10 ?_
    | refine W48 ?_
    | (refine W49 (fun b => ?_))
    | (refine W50 (fun b => ?_))
    | (refine W51 (fun b => ?_))
    | refine W25 ?_)
  refine XC.loop (fun s : Nat × Int => [(1, .pointer (some ⟨b, 0, none⟩)), (5, .int .i64 r3), (6, .int .i64 s.2), (7, .int .i64 (s.1 : Int))])
    (fun s w => s.1 ≤ p.fnL.length ∧ St c [cel b #[p.sites, p.fns, .int .i64 p.main] 25] [progFP p] w) (fun s => p.fnL.length - s.1) (0, 0) (by (repeat (first | exact fits_nil | refine fits_cons (by rfl) ?_)); done) (fun w h => ⟨by omega, h⟩) ?_
  rintro ⟨i, m⟩
  dsimp only
  refine XC.pure (fun hi => ?_)
  by_cases hlt : i < p.fnL.length
  · obtain ⟨F, hF, mF⟩ := get_of_lt hlt
    have aF := fn_at hF
    repeat' (first
      | refine W82 ?_
      | refine W83 ?_
      | refine W84 ?_
      | refine W85 ?_
      | refine W86 ?_
      | refine W87 ?_
      | (refine W89 (fun h => ?_) (fun h => ?_) <;> try (first | (exfalso; omega) | exact absurd rfl h | (exfalso; simp at h <;> omega)))
      | refine W90 ?_
      | refine W91 ?_
      | refine W94 ?_
      | refine W98 ?_
      | refine W99 ?_
      | refine W100 ?_
      | refine W101 ?_
      | refine W102 ?_
      | refine W103 ?_
      | refine W104 ?_
      | refine W105 ?_
      | refine W106 ?_
      | refine W1 ?_
      | (refine W2 (fun h => ?_) (fun h => ?_) <;> try (first | (exfalso; omega) | exact absurd rfl h | (exfalso; simp at h <;> omega)))
      | refine W3 ?_
      | refine W32 ?_
      | refine XL.pure 1 (by rfl) ?_
      | refine W13 ?_
      | refine W5 ?_
      | refine W14 ?_
      | refine W18 ?_
      | refine W6 ?_
      | refine W24 ?_
      | refine W27 ?_
      | refine W19 ?_
      | refine W20 ?_
      | refine W15 ?_
      | refine W7 ?_
      | refine W28 ?_
      | refine W29 ?_
      | refine W34 ?_
      | refine W35 ?_
      | refine W36 ?_
      | refine W37 ?_
      | refine W38 ?_
      | refine W39 ?_
      | refine W30 ?_
      | refine W31 ?_
      | refine W40 ?_
      | refine W41 ?_
      | refine W42 ?_
      | refine W43 ?_
      | refine W44 ?_
      | refine W45 ?_
      | refine W47 ?_
      | refine W108 ?_
      | refine W109 ?_
      | refine W8 ?_
      | refine W21 ?_
      | refine W22 ?_
      | refine W16 ?_
      | refine W9 ?_
      | refine W10 ?_
      | refine W48 ?_
      | (refine W49 (fun b => ?_))
      | (refine W50 (fun b => ?_))
      | (refine W51 (fun b => ?_))
      | refine W25 ?_)
    first | refine XL.addw (by rfl) (by rfl) (by rfl) (by rfl) (by rfl) (by rfl) ?_ | refine XL.subw (by rfl) (by rfl) (by rfl) (by rfl) (by rfl) (by rfl) ?_
    repeat' (first
      | refine W82 ?_
      | refine W83 ?_
      | refine W84 ?_
      | refine W85 ?_
      | refine W86 ?_
      | refine W87 ?_
      | (refine W89 (fun h => ?_) (fun h => ?_) <;> try (first | (exfalso; omega) | exact absurd rfl h | (exfalso; simp at h <;> omega)))
      | refine W90 ?_
      | refine W91 ?_
      | refine W94 ?_
      | refine W98 ?_
      | refine W99 ?_
      | refine W100 ?_
      | refine W101 ?_
      | refine W102 ?_
      | refine W103 ?_
      | refine W104 ?_
      | refine W105 ?_
      | refine W106 ?_
      | refine W1 ?_
      | (refine W2 (fun h => ?_) (fun h => ?_) <;> try (first | (exfalso; omega) | exact absurd rfl h | (exfalso; simp at h <;> omega)))
      | refine W3 ?_
      | refine W32 ?_
      | refine XL.pure 1 (by rfl) ?_
      | refine W13 ?_
      | refine W5 ?_
      | refine W14 ?_
      | refine W18 ?_
      | refine W6 ?_
      | refine W24 ?_
      | refine W27 ?_
      | refine W19 ?_
      | refine W20 ?_
      | refine W15 ?_
      | refine W7 ?_
      | refine W28 ?_
      | refine W29 ?_
      | refine W34 ?_
      | refine W35 ?_
      | refine W36 ?_
      | refine W37 ?_
      | refine W38 ?_
      | refine W39 ?_
      | refine W30 ?_
      | refine W31 ?_
      | refine W40 ?_
      | refine W41 ?_
      | refine W42 ?_
      | refine W43 ?_
      | refine W44 ?_
      | refine W45 ?_
      | refine W47 ?_
      | refine W108 ?_
      | refine W109 ?_
      | refine W8 ?_
      | refine W21 ?_
      | refine W22 ?_
      | refine W16 ?_
      | refine W9 ?_
      | refine W10 ?_
      | refine W48 ?_
      | (refine W49 (fun b => ?_))
      | (refine W50 (fun b => ?_))
      | (refine W51 (fun b => ?_))
      | refine W25 ?_)
    exact XQ.round (i + 1, w64 (m + F.codeL.length)) (by (repeat (first | exact fits_nil | refine fits_cons (by rfl) ?_)); done) (fun w hw => ⟨by dsimp only; omega, hw⟩) (by dsimp only; omega)
  · have e : i = p.fnL.length := by omega
    subst e
    repeat' (first
      | refine W82 ?_
      | refine W83 ?_
      | refine W84 ?_
      | refine W85 ?_
      | refine W86 ?_
      | refine W87 ?_
      | (refine W89 (fun h => ?_) (fun h => ?_) <;> try (first | (exfalso; omega) | exact absurd rfl h | (exfalso; simp at h <;> omega)))
      | refine W90 ?_
      | refine W91 ?_
      | refine W94 ?_
      | refine W98 ?_
      | refine W99 ?_
      | refine W100 ?_
      | refine W101 ?_
      | refine W102 ?_
      | refine W103 ?_
      | refine W104 ?_
      | refine W105 ?_
      | refine W106 ?_
      | refine W1 ?_
      | (refine W2 (fun h => ?_) (fun h => ?_) <;> try (first | (exfalso; omega) | exact absurd rfl h | (exfalso; simp at h <;> omega)))
      | refine W3 ?_
      | refine W32 ?_
      | refine XL.pure 1 (by rfl) ?_
      | refine W13 ?_
      | refine W5 ?_
      | refine W14 ?_
      | refine W18 ?_
      | refine W6 ?_
      | refine W24 ?_
      | refine W27 ?_
      | refine W19 ?_
      | refine W20 ?_
      | refine W15 ?_
      | refine W7 ?_
      | refine W28 ?_
      | refine W29 ?_
      | refine W34 ?_
      | refine W35 ?_
      | refine W36 ?_
      | refine W37 ?_
      | refine W38 ?_
      | refine W39 ?_
      | refine W30 ?_
      | refine W31 ?_
      | refine W40 ?_
      | refine W41 ?_
      | refine W42 ?_
      | refine W43 ?_
      | refine W44 ?_
      | refine W45 ?_
      | refine W47 ?_
      | refine W108 ?_
      | refine W109 ?_
      | refine W8 ?_
      | refine W21 ?_
      | refine W22 ?_
      | refine W16 ?_
      | refine W9 ?_
      | refine W10 ?_
      | refine W48 ?_
      | (refine W49 (fun b => ?_))
      | (refine W50 (fun b => ?_))
      | (refine W51 (fun b => ?_))
      | refine W25 ?_)
    all_goals exact XQ.done1 (by rfl) (by rfl) ⟨_, fun hb => by first | (exfalso; simp at hb; done) | exact hr (by omega), rfl, rfl, rfl⟩ (by (repeat' (first | exact Sels.nil | exact Sel.here | apply Sels.cons | apply Sel.there)); done) (by (repeat (first | exact sub0 | refine subC (by repeat (first | exact List.Mem.head _ | apply List.Mem.tail)) ?_)); done)
end Go.Proofs.YtafochlcnjeanaaGreat
