/- The reader of tokens: blanks and notes; numbers. -/
import Derived.Test.YtjnineeeffecaaaP20
import Derived.Scope
namespace Go.Proofs.Ytjnineeeffecaaa
open Go X
set_option maxRecDepth 100000
set_option maxHeartbeats 4000000
namespace X
/-- A function's body with labels to which nothing jumps. -/
theorem XC.scopeB {P : Program} {n : Nat} {ρ : Env} {ds : List Deferred} {A : World → Prop} {fn : Func} {R : Ending → World → Prop} {y : Code} (h : XC P n y (bodyX P fn R) ρ ds A) : XC P n (.scope y) (bodyX P fn R) ρ ds A := fun σ w hσ hA a h1 h2 h3 =>
  wp_scope_straight (wp_mono (h σ w hσ hA a h1 h2 h3) fun e a' w' ⟨hn, hq⟩ => by
    cases e <;> first
      | exact ⟨hn, hq⟩
      | exact (hq : False).elim)
end X
attribute [local irreducible] XC XL XQ Tri blk Shows Sq Rd Mt inBlockX XS XG XG0 TkS AnS rowO tyFP tysFP ndFP ndsFP Row.fp FP.all
theorem blankC_eq (a : UInt8) : blankC a = decide (0 ≤ Lib.indexByte [32, 9, 10, 13] a) := by
  unfold blankC
  exact Lib.contains_iff_indexByte _ _
theorem blank_tri {l : List UInt8} (hl : l.length ≤ 20000) : Tri Try.prog 22 [.string (tx l)] [] [gF] fun e L Φ => e = .returned (.tuple #[.int .i64 (blankP l).1, .int .i64 (blankP l).2]) ∧ L = [] ∧ Φ = [] := by
  refine Tri.of Try.func22 rfl fun c => ?_
  repeat' (first
    | refine W100 ?_
    | refine W101 ?_
    | refine W102 ?_
    | refine W103 ?_
    | refine W104 ?_
    | refine W105 ?_
    | (refine W107 (fun h => ?_) (fun h => ?_) <;> try (first | (exfalso; omega) | exact absurd rfl h | (exfalso; simp at h <;> omega)))
    | refine W108 ?_
    | refine W109 ?_
    | refine W112 ?_
    | refine W116 ?_
    | refine W117 ?_
    | refine W118 ?_
    | refine W119 ?_
    | refine W120 ?_
    | refine W121 ?_
    | refine W122 ?_
    | refine W123 ?_
    | refine W124 ?_
    | refine W1 ?_
    | (refine W2 (fun h => ?_) (fun h => ?_) <;> try (first | (exfalso; omega) | exact absurd rfl h | (exfalso; simp at h <;> omega)))
    | refine W3 ?_
    | refine W33 ?_
    | refine XL.pure 1 (by rfl) ?_
    | refine W13 ?_
    | refine W5 ?_
    | refine W14 ?_
    | refine W18 ?_
    | refine W6 ?_
    | refine W24 ?_
    | refine W27 ?_
    | refine W19 ?_
    | refine W20 ?_
    | refine W15 ?_
    | refine W7 ?_
    | refine W28 ?_
    | refine W30 ?_
    | refine W35 ?_
    | refine W36 ?_
    | refine W37 ?_
    | refine W38 ?_
    | refine W39 ?_
    | refine W40 ?_
    | refine W31 ?_
    | refine W32 ?_
    | refine W41 ?_
    | refine W42 ?_
    | refine W43 ?_
    | refine W44 ?_
    | refine W45 ?_
    | refine W46 ?_
    | refine W47 ?_
    | refine W126 ?_
    | refine W132 ?_
    | refine W8 ?_
    | refine W21 ?_
    | refine W22 ?_
    | refine W16 ?_
    | refine W9 ?_
    | refine W10 ?_
    | refine W48 ?_
    | (refine W49 (fun b => ?_))
    | (refine W50 (fun b => ?_))
    | (refine W51 (fun b => ?_))
    | refine W25 ?_)
  refine XC.scopeB ?_
  repeat' (first
    | refine W100 ?_
    | refine W101 ?_
    | refine W102 ?_
    | refine W103 ?_
    | refine W104 ?_
    | refine W105 ?_
    | (refine W107 (fun h => ?_) (fun h => ?_) <;> try (first | (exfalso; omega) | exact absurd rfl h | (exfalso; simp at h <;> omega)))
    | refine W108 ?_
    | refine W109 ?_
    | refine W112 ?_
    | refine W116 ?_
    | refine W117 ?_
    | refine W118 ?_
    | refine W119 ?_
    | refine W120 ?_
    | refine W121 ?_
    | refine W122 ?_
    | refine W123 ?_
    | refine W124 ?_
    | refine W1 ?_
    | (refine W2 (fun h => ?_) (fun h => ?_) <;> try (first | (exfalso; omega) | exact absurd rfl h | (exfalso; simp at h <;> omega)))
    | refine W3 ?_
    | refine W33 ?_
    | refine XL.pure 1 (by rfl) ?_
    | refine W13 ?_
    | refine W5 ?_
    | refine W14 ?_
    | refine W18 ?_
    | refine W6 ?_
    | refine W24 ?_
    | refine W27 ?_
    | refine W19 ?_
    | refine W20 ?_
    | refine W15 ?_
    | refine W7 ?_
    | refine W28 ?_
    | refine W30 ?_
    | refine W35 ?_
    | refine W36 ?_
    | refine W37 ?_
    | refine W38 ?_
    | refine W39 ?_
    | refine W40 ?_
    | refine W31 ?_
    | refine W32 ?_
    | refine W41 ?_
    | refine W42 ?_
    | refine W43 ?_
    | refine W44 ?_
    | refine W45 ?_
    | refine W46 ?_
    | refine W47 ?_
    | refine W126 ?_
    | refine W132 ?_
    | refine W8 ?_
    | refine W21 ?_
    | refine W22 ?_
    | refine W16 ?_
    | refine W9 ?_
    | refine W10 ?_
    | refine W48 ?_
    | (refine W49 (fun b => ?_))
    | (refine W50 (fun b => ?_))
    | (refine W51 (fun b => ?_))
    | refine W25 ?_)
  refine XC.label ?_
  repeat' (first
    | refine W100 ?_
    | refine W101 ?_
    | refine W102 ?_
    | refine W103 ?_
    | refine W104 ?_
    | refine W105 ?_
    | (refine W107 (fun h => ?_) (fun h => ?_) <;> try (first | (exfalso; omega) | exact absurd rfl h | (exfalso; simp at h <;> omega)))
    | refine W108 ?_
    | refine W109 ?_
    | refine W112 ?_
    | refine W116 ?_
    | refine W117 ?_
    | refine W118 ?_
    | refine W119 ?_
    | refine W120 ?_
    | refine W121 ?_
    | refine W122 ?_
    | refine W123 ?_
    | refine W124 ?_
    | refine W1 ?_
    | (refine W2 (fun h => ?_) (fun h => ?_) <;> try (first | (exfalso; omega) | exact absurd rfl h | (exfalso; simp at h <;> omega)))
    | refine W3 ?_
    | refine W33 ?_
    | refine XL.pure 1 (by rfl) ?_
    | refine W13 ?_
    | refine W5 ?_
    | refine W14 ?_
    | refine W18 ?_
    | refine W6 ?_
    | refine W24 ?_
    | refine W27 ?_
    | refine W19 ?_
    | refine W20 ?_
    | refine W15 ?_
    | refine W7 ?_
    | refine W28 ?_
    | refine W30 ?_
    | refine W35 ?_
    | refine W36 ?_
    | refine W37 ?_
    | refine W38 ?_
    | refine W39 ?_
    | refine W40 ?_
    | refine W31 ?_
    | refine W32 ?_
    | refine W41 ?_
    | refine W42 ?_
    | refine W43 ?_
    | refine W44 ?_
    | refine W45 ?_
    | refine W46 ?_
    | refine W47 ?_
    | refine W126 ?_
    | refine W132 ?_
    | refine W8 ?_
    | refine W21 ?_
    | refine W22 ?_
    | refine W16 ?_
    | refine W9 ?_
    | refine W10 ?_
    | refine W48 ?_
    | (refine W49 (fun b => ?_))
    | (refine W50 (fun b => ?_))
    | (refine W51 (fun b => ?_))
    | refine W25 ?_)
  refine XC.loop (fun z : Nat × Nat => [(0, .string (tx l)), (4, .int .i64 (z.2 : Int))])
    (fun z w => (z.2 ≤ l.length ∧ l.length < z.1 + z.2 ∧ blankP l = blankF l z.1 z.2) ∧ St c [] [gF] w) (fun z => z.1) (l.length + 1, 0) (by (repeat (first | exact fits_nil | refine fits_cons (by rfl) ?_)); done) (fun w h => ⟨⟨by dsimp only; omega, by dsimp only; omega, rfl⟩, h⟩) ?_
  rintro ⟨f, a⟩
  dsimp only
  refine XC.pure (fun hi => ?_)
  obtain ⟨h1, h2, h3⟩ := hi
  obtain ⟨f, rfl⟩ : ∃ g, f = g + 1 := ⟨f - 1, by omega⟩
  rw [blankF_succ] at h3
  by_cases hlt : a < l.length
  · rw [if_pos hlt] at h3
    have hd : (l.drop a).getD 0 0 = l.getD a 0 := by rw [getD_drop, Nat.add_zero]
    have hlen : (l.drop a).length = l.length - a := List.length_drop
    generalize hr : l.drop a = r at *
    repeat' (first
      | refine XStep ?_
      | refine Fa.mk fun b => ?_
      | refine Fb.mk fun b2 => ?_
      | refine Fz.mk fun z => ?_
      | (refine Gd.mk (fun h => ?_) (fun h => ?_) <;> try (first | (exfalso; omega) | exact absurd rfl h | (exfalso; simp at h <;> omega)))
      | refine Ands.mk ?_ ?_
      | (refine XC.is ?_; refine W110 ?_; refine XC.planG (by kernel_rfl) (fun _ m h => h.drewn m) ?_; (conv => arg 5; reduce); refine XG0.of ?_; (conv => arg 5; reduce); (conv => arg 6; reduce); refine XG.go (by decide +kernel) ?_))
    refine XL.triq (indexByte_tri (l := [32, 9, 10, 13])) (by rfl) (by rfl) (by rfl) (by rfl) (by rfl) (by rfl) (by rfl) (by (repeat' (first | exact Sels.nil | exact Sel.here | apply Sels.cons | apply Sel.there)); done) (by (repeat' (first | exact Sels.nil | exact Sel.here | apply Sels.cons | apply Sel.there)); done) (by (repeat (first | exact sub0 | refine subC (by repeat (first | exact List.Mem.head _ | apply List.Mem.tail)) ?_)); done) ?_
    repeat' (first
      | refine XStep ?_
      | refine Fa.mk fun b => ?_
      | refine Fb.mk fun b2 => ?_
      | refine Fz.mk fun z => ?_
      | (refine Gd.mk (fun h => ?_) (fun h => ?_) <;> try (first | (exfalso; omega) | exact absurd rfl h | (exfalso; simp at h <;> omega)))
      | refine Ands.mk ?_ ?_
      | (refine XC.is ?_; refine W110 ?_; refine XC.planG (by kernel_rfl) (fun _ m h => h.drewn m) ?_; (conv => arg 5; reduce); refine XG0.of ?_; (conv => arg 5; reduce); (conv => arg 6; reduce); refine XG.go (by decide +kernel) ?_))
    · have hs : blankS r = .go 1 := by rw [blankS, if_pos (by rw [hd, blankC_eq]; exact decide_eq_true (by assumption))]
      rw [hs] at h3
      exact XQ.round (f, a + 1) (by (repeat (first | exact fits_nil | refine fits_cons (by rfl) ?_)); done) (fun w hw => ⟨⟨by dsimp only; omega, by dsimp only; omega, h3⟩, hw⟩) (by dsimp only; omega)
    · have hc : blankC (r.getD 0 0) ≠ true := by
        rw [hd, blankC_eq]
        intro h
        exact absurd (of_decide_eq_true h) (by assumption)
      rw [hr]
      have hp := hasPrefix_tri (l := r) (p := [47, 47])
      cases hx : Lib.hasPrefix r [47, 47] with
      | true =>
        rw [hx] at hp
        refine XL.triq (hp) (by rfl) (by rfl) (by rfl) (by rfl) (by rfl) (by rfl) (by rfl) (by (repeat' (first | exact Sels.nil | exact Sel.here | apply Sels.cons | apply Sel.there)); done) (by (repeat' (first | exact Sels.nil | exact Sel.here | apply Sels.cons | apply Sel.there)); done) (by (repeat (first | exact sub0 | refine subC (by repeat (first | exact List.Mem.head _ | apply List.Mem.tail)) ?_)); done) ?_
        repeat' (first
          | refine XStep ?_
          | refine Fa.mk fun b => ?_
          | refine Fb.mk fun b2 => ?_
          | refine Fz.mk fun z => ?_
          | (refine Gd.mk (fun h => ?_) (fun h => ?_) <;> try (first | (exfalso; omega) | exact absurd rfl h | (exfalso; simp at h <;> omega)))
          | refine Ands.mk ?_ ?_
          | (refine XC.is ?_; refine W110 ?_; refine XC.planG (by kernel_rfl) (fun _ m h => h.drewn m) ?_; (conv => arg 5; reduce); refine XG0.of ?_; (conv => arg 5; reduce); (conv => arg 6; reduce); refine XG.go (by decide +kernel) ?_))
        have hp2 := indexByte_tri (l := r) (c := 10)
        rcases (show Lib.indexByte r 10 < 0 ∨ 0 ≤ Lib.indexByte r 10 by omega) with hi | hi
        · have hs : blankS r = .all := by rw [blankS, if_neg hc, if_pos hx, if_pos hi]
          rw [hs] at h3
          refine XL.triq (hp2) (by rfl) (by rfl) (by rfl) (by rfl) (by rfl) (by rfl) (by rfl) (by (repeat' (first | exact Sels.nil | exact Sel.here | apply Sels.cons | apply Sel.there)); done) (by (repeat' (first | exact Sels.nil | exact Sel.here | apply Sels.cons | apply Sel.there)); done) (by (repeat (first | exact sub0 | refine subC (by repeat (first | exact List.Mem.head _ | apply List.Mem.tail)) ?_)); done) ?_
          repeat' (first
            | refine XStep ?_
            | refine Fa.mk fun b => ?_
            | refine Fb.mk fun b2 => ?_
            | refine Fz.mk fun z => ?_
            | (refine Gd.mk (fun h => ?_) (fun h => ?_) <;> try (first | (exfalso; omega) | exact absurd rfl h | (exfalso; simp at h <;> omega)))
            | refine Ands.mk ?_ ?_
            | (refine XC.is ?_; refine W110 ?_; refine XC.planG (by kernel_rfl) (fun _ m h => h.drewn m) ?_; (conv => arg 5; reduce); refine XG0.of ?_; (conv => arg 5; reduce); (conv => arg 6; reduce); refine XG.go (by decide +kernel) ?_))
          exact XQ.done2 (by rfl) (by rfl) (by rfl) ⟨by rw [h3], rfl, rfl⟩ (by (repeat' (first | exact Sels.nil | exact Sel.here | apply Sels.cons | apply Sel.there)); done) (by (repeat (first | exact sub0 | refine subC (by repeat (first | exact List.Mem.head _ | apply List.Mem.tail)) ?_)); done)
        · have hs : blankS r = .go (Lib.indexByte r 10).toNat := by rw [blankS, if_neg hc, if_pos hx, if_neg (by omega)]
          rw [hs] at h3
          have h4 := blankS_go (by omega) hs
          obtain ⟨m, hm⟩ := Int.eq_ofNat_of_zero_le hi
          rw [hm] at hp2 h3 h4
          simp only [Int.toNat_natCast] at h3 h4
          refine XL.triq (hp2) (by rfl) (by rfl) (by rfl) (by rfl) (by rfl) (by rfl) (by rfl) (by (repeat' (first | exact Sels.nil | exact Sel.here | apply Sels.cons | apply Sel.there)); done) (by (repeat' (first | exact Sels.nil | exact Sel.here | apply Sels.cons | apply Sel.there)); done) (by (repeat (first | exact sub0 | refine subC (by repeat (first | exact List.Mem.head _ | apply List.Mem.tail)) ?_)); done) ?_
          repeat' (first
            | refine XStep ?_
            | refine Fa.mk fun b => ?_
            | refine Fb.mk fun b2 => ?_
            | refine Fz.mk fun z => ?_
            | (refine Gd.mk (fun h => ?_) (fun h => ?_) <;> try (first | (exfalso; omega) | exact absurd rfl h | (exfalso; simp at h <;> omega)))
            | refine Ands.mk ?_ ?_
            | (refine XC.is ?_; refine W110 ?_; refine XC.planG (by kernel_rfl) (fun _ m h => h.drewn m) ?_; (conv => arg 5; reduce); refine XG0.of ?_; (conv => arg 5; reduce); (conv => arg 6; reduce); refine XG.go (by decide +kernel) ?_))
          exact XQ.round (f, a + m) (by (repeat (first | exact fits_nil | refine fits_cons (by rfl) ?_)); done) (fun w hw => ⟨⟨by dsimp only; omega, by dsimp only; omega, h3⟩, hw⟩) (by dsimp only; omega)
      | false =>
        rw [hx] at hp
        refine XL.triq (hp) (by rfl) (by rfl) (by rfl) (by rfl) (by rfl) (by rfl) (by rfl) (by (repeat' (first | exact Sels.nil | exact Sel.here | apply Sels.cons | apply Sel.there)); done) (by (repeat' (first | exact Sels.nil | exact Sel.here | apply Sels.cons | apply Sel.there)); done) (by (repeat (first | exact sub0 | refine subC (by repeat (first | exact List.Mem.head _ | apply List.Mem.tail)) ?_)); done) ?_
        repeat' (first
          | refine XStep ?_
          | refine Fa.mk fun b => ?_
          | refine Fb.mk fun b2 => ?_
          | refine Fz.mk fun z => ?_
          | (refine Gd.mk (fun h => ?_) (fun h => ?_) <;> try (first | (exfalso; omega) | exact absurd rfl h | (exfalso; simp at h <;> omega)))
          | refine Ands.mk ?_ ?_
          | (refine XC.is ?_; refine W110 ?_; refine XC.planG (by kernel_rfl) (fun _ m h => h.drewn m) ?_; (conv => arg 5; reduce); refine XG0.of ?_; (conv => arg 5; reduce); (conv => arg 6; reduce); refine XG.go (by decide +kernel) ?_))
        have hx' : ¬ Lib.hasPrefix r [47, 47] = true := by rw [hx]; decide
        have hp := hasPrefix_tri (l := r) (p := [47, 42])
        cases hy : Lib.hasPrefix r [47, 42] with
        | true =>
          rw [hy] at hp
          have hl2 := hasPrefix_len hy
          have hl2 : 2 ≤ r.length := hl2
          refine XL.triq (hp) (by rfl) (by rfl) (by rfl) (by rfl) (by rfl) (by rfl) (by rfl) (by (repeat' (first | exact Sels.nil | exact Sel.here | apply Sels.cons | apply Sel.there)); done) (by (repeat' (first | exact Sels.nil | exact Sel.here | apply Sels.cons | apply Sel.there)); done) (by (repeat (first | exact sub0 | refine subC (by repeat (first | exact List.Mem.head _ | apply List.Mem.tail)) ?_)); done) ?_
          repeat' (first
            | refine XStep ?_
            | refine Fa.mk fun b => ?_
            | refine Fb.mk fun b2 => ?_
            | refine Fz.mk fun z => ?_
            | (refine Gd.mk (fun h => ?_) (fun h => ?_) <;> try (first | (exfalso; omega) | exact absurd rfl h | (exfalso; simp at h <;> omega)))
            | refine Ands.mk ?_ ?_
            | (refine XC.is ?_; refine W110 ?_; refine XC.planG (by kernel_rfl) (fun _ m h => h.drewn m) ?_; (conv => arg 5; reduce); refine XG0.of ?_; (conv => arg 5; reduce); (conv => arg 6; reduce); refine XG.go (by decide +kernel) ?_))
          have hp2 := stIndex_tri (l := r.drop 2) (p := [42, 47]) (by simp; omega)
          rcases (show Lib.index (r.drop 2) [42, 47] < 0 ∨ 0 ≤ Lib.index (r.drop 2) [42, 47] by omega) with hi | hi
          · have hs : blankS r = .opn := by rw [blankS, if_neg hc, if_neg hx', if_pos hy, if_pos hi]
            rw [hs] at h3
            refine XL.triq (hp2) (by rfl) (by rfl) (by rfl) (by rfl) (by rfl) (by rfl) (by rfl) (by (repeat' (first | exact Sels.nil | exact Sel.here | apply Sels.cons | apply Sel.there)); done) (by (repeat' (first | exact Sels.nil | exact Sel.here | apply Sels.cons | apply Sel.there)); done) (by (repeat (first | exact sub0 | refine subC (by repeat (first | exact List.Mem.head _ | apply List.Mem.tail)) ?_)); done) ?_
            repeat' (first
              | refine XStep ?_
              | refine Fa.mk fun b => ?_
              | refine Fb.mk fun b2 => ?_
              | refine Fz.mk fun z => ?_
              | (refine Gd.mk (fun h => ?_) (fun h => ?_) <;> try (first | (exfalso; omega) | exact absurd rfl h | (exfalso; simp at h <;> omega)))
              | refine Ands.mk ?_ ?_
              | (refine XC.is ?_; refine W110 ?_; refine XC.planG (by kernel_rfl) (fun _ m h => h.drewn m) ?_; (conv => arg 5; reduce); refine XG0.of ?_; (conv => arg 5; reduce); (conv => arg 6; reduce); refine XG.go (by decide +kernel) ?_))
            exact XQ.done2 (by rfl) (by rfl) (by rfl) ⟨by rw [h3], rfl, rfl⟩ (by (repeat' (first | exact Sels.nil | exact Sel.here | apply Sels.cons | apply Sel.there)); done) (by (repeat (first | exact sub0 | refine subC (by repeat (first | exact List.Mem.head _ | apply List.Mem.tail)) ?_)); done)
          · have hs : blankS r = .go ((Lib.index (r.drop 2) [42, 47]).toNat + 4) := by rw [blankS, if_neg hc, if_neg hx', if_pos hy, if_neg (by omega)]
            rw [hs] at h3
            have h4 := blankS_go (by omega) hs
            obtain ⟨m, hm⟩ := Int.eq_ofNat_of_zero_le hi
            rw [hm] at hp2 h3 h4
            simp only [Int.toNat_natCast] at h3 h4
            refine XL.triq (hp2) (by rfl) (by rfl) (by rfl) (by rfl) (by rfl) (by rfl) (by rfl) (by (repeat' (first | exact Sels.nil | exact Sel.here | apply Sels.cons | apply Sel.there)); done) (by (repeat' (first | exact Sels.nil | exact Sel.here | apply Sels.cons | apply Sel.there)); done) (by (repeat (first | exact sub0 | refine subC (by repeat (first | exact List.Mem.head _ | apply List.Mem.tail)) ?_)); done) ?_
            repeat' (first
              | refine XStep ?_
              | refine Fa.mk fun b => ?_
              | refine Fb.mk fun b2 => ?_
              | refine Fz.mk fun z => ?_
              | (refine Gd.mk (fun h => ?_) (fun h => ?_) <;> try (first | (exfalso; omega) | exact absurd rfl h | (exfalso; simp at h <;> omega)))
              | refine Ands.mk ?_ ?_
              | (refine XC.is ?_; refine W110 ?_; refine XC.planG (by kernel_rfl) (fun _ m h => h.drewn m) ?_; (conv => arg 5; reduce); refine XG0.of ?_; (conv => arg 5; reduce); (conv => arg 6; reduce); refine XG.go (by decide +kernel) ?_))
            exact XQ.round (f, a + (m + 4)) (by (repeat (first | exact fits_nil | refine fits_cons (by rfl) ?_)); done) (fun w hw => ⟨⟨by dsimp only; omega, by dsimp only; omega, h3⟩, hw⟩) (by dsimp only; omega)
        | false =>
          rw [hy] at hp
          have hs : blankS r = .stop := by rw [blankS, if_neg hc, if_neg hx', if_neg (by rw [hy]; decide)]
          rw [hs] at h3
          refine XL.triq (hp) (by rfl) (by rfl) (by rfl) (by rfl) (by rfl) (by rfl) (by rfl) (by (repeat' (first | exact Sels.nil | exact Sel.here | apply Sels.cons | apply Sel.there)); done) (by (repeat' (first | exact Sels.nil | exact Sel.here | apply Sels.cons | apply Sel.there)); done) (by (repeat (first | exact sub0 | refine subC (by repeat (first | exact List.Mem.head _ | apply List.Mem.tail)) ?_)); done) ?_
          repeat' (first
            | refine XStep ?_
            | refine Fa.mk fun b => ?_
            | refine Fb.mk fun b2 => ?_
            | refine Fz.mk fun z => ?_
            | (refine Gd.mk (fun h => ?_) (fun h => ?_) <;> try (first | (exfalso; omega) | exact absurd rfl h | (exfalso; simp at h <;> omega)))
            | refine Ands.mk ?_ ?_
            | (refine XC.is ?_; refine W110 ?_; refine XC.planG (by kernel_rfl) (fun _ m h => h.drewn m) ?_; (conv => arg 5; reduce); refine XG0.of ?_; (conv => arg 5; reduce); (conv => arg 6; reduce); refine XG.go (by decide +kernel) ?_))
          exact XQ.done2 (by rfl) (by rfl) (by rfl) ⟨by rw [h3], rfl, rfl⟩ (by (repeat' (first | exact Sels.nil | exact Sel.here | apply Sels.cons | apply Sel.there)); done) (by (repeat (first | exact sub0 | refine subC (by repeat (first | exact List.Mem.head _ | apply List.Mem.tail)) ?_)); done)
  · rw [if_neg hlt] at h3
    repeat' (first
      | refine XStep ?_
      | refine Fa.mk fun b => ?_
      | refine Fb.mk fun b2 => ?_
      | refine Fz.mk fun z => ?_
      | (refine Gd.mk (fun h => ?_) (fun h => ?_) <;> try (first | (exfalso; omega) | exact absurd rfl h | (exfalso; simp at h <;> omega)))
      | refine Ands.mk ?_ ?_
      | (refine XC.is ?_; refine W110 ?_; refine XC.planG (by kernel_rfl) (fun _ m h => h.drewn m) ?_; (conv => arg 5; reduce); refine XG0.of ?_; (conv => arg 5; reduce); (conv => arg 6; reduce); refine XG.go (by decide +kernel) ?_))
    exact XQ.done2 (by rfl) (by rfl) (by rfl) ⟨by rw [h3], rfl, rfl⟩ (by (repeat' (first | exact Sels.nil | exact Sel.here | apply Sels.cons | apply Sel.there)); done) (by (repeat (first | exact sub0 | refine subC (by repeat (first | exact List.Mem.head _ | apply List.Mem.tail)) ?_)); done)
theorem figure_eq {l : List UInt8} {b : Int} {fr : Nat} (h : figure l = figOf l b fr) : figure l = figOf l b fr := h
theorem figL_cons {b n e : Int} {bl : List UInt8} {i : Nat} (hlt : i < bl.length) : figL b (bl.drop i) n e = if worthN (bl.getD i 0) ≥ b then none else
    if (if n > (9223372036854775807 - worthN (bl.getD i 0)) / b then 5 else e) = 0 then figL b (bl.drop (i + 1)) (n * b + worthN (bl.getD i 0)) (if n > (9223372036854775807 - worthN (bl.getD i 0)) / b then 5 else e)
    else figL b (bl.drop (i + 1)) n (if n > (9223372036854775807 - worthN (bl.getD i 0)) / b then 5 else e) := by
  rw [List.drop_eq_getElem_cons hlt, List.getD_eq_getElem?_getD, List.getElem?_eq_getElem hlt]
  rfl
theorem mul_room {n w b : Int} (hb : b = 10 ∨ b = 16) (h0 : 0 ≤ n) (h : ¬ (9223372036854775807 - w) / b < n) : 0 ≤ n * b ∧ n * b ≤ 9223372036854775807 - w := by
  rcases hb with rfl | rfl <;> omega
theorem byte_at {c : Cx} {L : List SP} {Φ : List FP} {w : World} {b cap m i : Nat} {xs : List Value} {v : Value} (h : St c L (Row.fp 1 (.slice (some ⟨b, 0, none⟩) m cap) m xs :: Φ) w) (hv : xs[i]? = some v) : w.cell? ⟨b, i, none⟩ = some v := by
  have h1 := h.rowF (.head _)
  rcases h1.2 with ⟨h2 | ⟨_, _, _, h2⟩, _⟩ | ⟨b', off, cap', h2, _, h3⟩
  · cases h2
  · cases h2
  · cases h2
    simpa using h3 i v hv
/-- A number's bytes, read. -/
theorem figOf_none {l : List UInt8} {b : Int} {fr : Nat} (h : figL b ((l.take (wordN l)).drop fr) 0 0 = none) : figOf l b fr = (0, 0, 2) := by
  unfold figOf
  rw [h]
theorem figOf_some {l : List UInt8} {b n e : Int} {fr : Nat} (h : figL b ((l.take (wordN l)).drop fr) 0 0 = some (n, e)) : figOf l b fr = if wordN l = fr ∨ (b = 16 ∧ 18 < wordN l) ∨ (b = 10 ∧ 1 < wordN l ∧ (l.getD 0 0).toNat = 48) then (0, 0, 2) else if e ≠ 0 then (0, 0, e) else (n, (wordN l : Int), 0) := by
  unfold figOf
  rw [h]
theorem figure_tri {l : List UInt8} (hl : l.length ≤ 20000) (h0 : 0 < l.length) : Tri Try.prog 39 [.string (tx l)] [] [] fun e L Φ => e = .returned (.tuple #[.int .i64 (figure l).1, .int .i64 (figure l).2.1, .int .i64 (figure l).2.2]) ∧ L = [] ∧ Φ = [] := by
  have hw := wordN_le l
  refine Tri.of Try.func39 rfl fun c => ?_
  repeat' (first
    | refine XStep ?_
    | refine Fa.mk fun b => ?_
    | refine Fb.mk fun b2 => ?_
    | refine Fz.mk fun z => ?_
    | (refine Gd.mk (fun h => ?_) (fun h => ?_) <;> try (first | (exfalso; omega) | exact absurd rfl h | (exfalso; simp at h <;> omega)))
    | refine Ands.mk ?_ ?_
    | (refine XC.is ?_; refine W110 ?_; refine XC.planG (by kernel_rfl) (fun _ m h => h.drewn m) ?_; (conv => arg 5; reduce); refine XG0.of ?_; (conv => arg 5; reduce); (conv => arg 6; reduce); refine XG.go (by decide +kernel) ?_))
  refine XL.triq (wordly_tri (l := l) (by omega)) (by rfl) (by rfl) (by rfl) (by rfl) (by rfl) (by rfl) (by rfl) (by (repeat' (first | exact Sels.nil | exact Sel.here | apply Sels.cons | apply Sel.there)); done) (by (repeat' (first | exact Sels.nil | exact Sel.here | apply Sels.cons | apply Sel.there)); done) (by (repeat (first | exact sub0 | refine subC (by repeat (first | exact List.Mem.head _ | apply List.Mem.tail)) ?_)); done) ?_
  repeat' (first
    | refine W100 ?_
    | refine W101 ?_
    | refine W102 ?_
    | refine W103 ?_
    | refine W104 ?_
    | refine W105 ?_
    | (refine W107 (fun h => ?_) (fun h => ?_) <;> try (first | (exfalso; omega) | exact absurd rfl h | (exfalso; simp at h <;> omega)))
    | refine W108 ?_
    | refine W109 ?_
    | refine W112 ?_
    | refine W116 ?_
    | refine W117 ?_
    | refine W118 ?_
    | refine W119 ?_
    | refine W120 ?_
    | refine W121 ?_
    | refine W122 ?_
    | refine W123 ?_
    | refine W124 ?_
    | refine W1 ?_
    | (refine W2 (fun h => ?_) (fun h => ?_) <;> try (first | (exfalso; omega) | exact absurd rfl h | (exfalso; simp at h <;> omega)))
    | refine W3 ?_
    | refine W33 ?_
    | refine XL.pure 1 (by rfl) ?_
    | refine W13 ?_
    | refine W5 ?_
    | refine W14 ?_
    | refine W18 ?_
    | refine W6 ?_
    | refine W24 ?_
    | refine W27 ?_
    | refine W19 ?_
    | refine W20 ?_
    | refine W15 ?_
    | refine W7 ?_
    | refine W28 ?_
    | refine W30 ?_
    | refine W35 ?_
    | refine W36 ?_
    | refine W37 ?_
    | refine W38 ?_
    | refine W39 ?_
    | refine W40 ?_
    | refine W31 ?_
    | refine W32 ?_
    | refine W41 ?_
    | refine W42 ?_
    | refine W43 ?_
    | refine W44 ?_
    | refine W45 ?_
    | refine W46 ?_
    | refine W47 ?_
    | refine W126 ?_
    | refine W132 ?_
    | refine W8 ?_
    | refine W21 ?_
    | refine W22 ?_
    | refine W16 ?_
    | refine W9 ?_
    | refine W10 ?_
    | refine W48 ?_
    | (refine W49 (fun b => ?_))
    | (refine W50 (fun b => ?_))
    | (refine W51 (fun b => ?_))
    | refine W25 ?_)
  refine XL.triq (hasPrefix_tri (l := l) (p := [48, 120])) (by rfl) (by rfl) (by rfl) (by rfl) (by rfl) (by rfl) (by rfl) (by (repeat' (first | exact Sels.nil | exact Sel.here | apply Sels.cons | apply Sel.there)); done) (by (repeat' (first | exact Sels.nil | exact Sel.here | apply Sels.cons | apply Sel.there)); done) (by (repeat (first | exact sub0 | refine subC (by repeat (first | exact List.Mem.head _ | apply List.Mem.tail)) ?_)); done) ?_
  repeat' (first
    | refine W100 ?_
    | refine W103 ?_
    | refine W101 ?_
    | refine W112 ?_
    | refine W116 ?_
    | refine W1 ?_
    | (refine W2 (fun h => ?_) (fun h => ?_) <;> try (first | (exfalso; omega) | exact absurd rfl h | (exfalso; simp at h <;> omega)))
    | refine W3 ?_
    | refine W33 ?_
    | refine XL.pure 1 (by rfl) ?_
    | refine W13 ?_
    | refine W5 ?_
    | refine W14 ?_
    | refine W18 ?_
    | refine W6 ?_
    | refine W24 ?_
    | refine W27 ?_
    | refine W19 ?_
    | refine W20 ?_
    | refine W15 ?_
    | refine W7 ?_
    | refine W28 ?_
    | refine W30 ?_
    | refine W35 ?_
    | refine W36 ?_
    | refine W37 ?_
    | refine W38 ?_
    | refine W39 ?_
    | refine W40 ?_
    | refine W31 ?_
    | refine W32 ?_
    | refine W41 ?_
    | refine W42 ?_
    | refine W43 ?_
    | refine W44 ?_
    | refine W45 ?_
    | refine W46 ?_
    | refine W47 ?_
    | refine W8 ?_
    | refine W21 ?_
    | refine W22 ?_
    | refine W16 ?_
    | refine W9 ?_
    | refine W10 ?_
    | refine W48 ?_
    | (refine W49 (fun b => ?_))
    | (refine W50 (fun b => ?_))
    | (refine W51 (fun b => ?_))
    | refine W25 ?_)
  refine XC.cutS (fun z : Int × Nat => [(0, .string (tx l)), (5, .int .i64 (wordN l : Int)), (6, .int .i64 z.1), (7, .int .i64 (z.2 : Int))])
    (fun z w => (figure l = figOf l z.1 z.2 ∧ z.2 ≤ wordN l ∧ (z.1 = 10 ∨ z.1 = 16)) ∧ St c [] [] w) ?_ ?_
  · cases hx : Lib.hasPrefix l [48, 120] with
    | true =>
      repeat' (first
        | refine W100 ?_
        | refine W101 ?_
        | refine W102 ?_
        | refine W103 ?_
        | refine W104 ?_
        | refine W105 ?_
        | (refine W107 (fun h => ?_) (fun h => ?_) <;> try (first | (exfalso; omega) | exact absurd rfl h | (exfalso; simp at h <;> omega)))
        | refine W108 ?_
        | refine W109 ?_
        | refine W112 ?_
        | refine W116 ?_
        | refine W117 ?_
        | refine W118 ?_
        | refine W119 ?_
        | refine W120 ?_
        | refine W121 ?_
        | refine W122 ?_
        | refine W123 ?_
        | refine W124 ?_
        | refine W1 ?_
        | (refine W2 (fun h => ?_) (fun h => ?_) <;> try (first | (exfalso; omega) | exact absurd rfl h | (exfalso; simp at h <;> omega)))
        | refine W3 ?_
        | refine W33 ?_
        | refine XL.pure 1 (by rfl) ?_
        | refine W13 ?_
        | refine W5 ?_
        | refine W14 ?_
        | refine W18 ?_
        | refine W6 ?_
        | refine W24 ?_
        | refine W27 ?_
        | refine W19 ?_
        | refine W20 ?_
        | refine W15 ?_
        | refine W7 ?_
        | refine W28 ?_
        | refine W30 ?_
        | refine W35 ?_
        | refine W36 ?_
        | refine W37 ?_
        | refine W38 ?_
        | refine W39 ?_
        | refine W40 ?_
        | refine W31 ?_
        | refine W32 ?_
        | refine W41 ?_
        | refine W42 ?_
        | refine W43 ?_
        | refine W44 ?_
        | refine W45 ?_
        | refine W46 ?_
        | refine W47 ?_
        | refine W126 ?_
        | refine W132 ?_
        | refine W8 ?_
        | refine W21 ?_
        | refine W22 ?_
        | refine W16 ?_
        | refine W9 ?_
        | refine W10 ?_
        | refine W48 ?_
        | (refine W49 (fun b => ?_))
        | (refine W50 (fun b => ?_))
        | (refine W51 (fun b => ?_))
        | refine W25 ?_)
      exact XQ.meet (16, 2) (by (repeat (first | exact fits_nil | refine fits_cons (by rfl) ?_)); done) (fun w h => ⟨⟨by rw [figure, if_pos hx], hex_word hx, .inr rfl⟩, h⟩)
    | false =>
      repeat' (first
        | refine W100 ?_
        | refine W101 ?_
        | refine W102 ?_
        | refine W103 ?_
        | refine W104 ?_
        | refine W105 ?_
        | (refine W107 (fun h => ?_) (fun h => ?_) <;> try (first | (exfalso; omega) | exact absurd rfl h | (exfalso; simp at h <;> omega)))
        | refine W108 ?_
        | refine W109 ?_
        | refine W112 ?_
        | refine W116 ?_
        | refine W117 ?_
        | refine W118 ?_
        | refine W119 ?_
        | refine W120 ?_
        | refine W121 ?_
        | refine W122 ?_
        | refine W123 ?_
        | refine W124 ?_
        | refine W1 ?_
        | (refine W2 (fun h => ?_) (fun h => ?_) <;> try (first | (exfalso; omega) | exact absurd rfl h | (exfalso; simp at h <;> omega)))
        | refine W3 ?_
        | refine W33 ?_
        | refine XL.pure 1 (by rfl) ?_
        | refine W13 ?_
        | refine W5 ?_
        | refine W14 ?_
        | refine W18 ?_
        | refine W6 ?_
        | refine W24 ?_
        | refine W27 ?_
        | refine W19 ?_
        | refine W20 ?_
        | refine W15 ?_
        | refine W7 ?_
        | refine W28 ?_
        | refine W30 ?_
        | refine W35 ?_
        | refine W36 ?_
        | refine W37 ?_
        | refine W38 ?_
        | refine W39 ?_
        | refine W40 ?_
        | refine W31 ?_
        | refine W32 ?_
        | refine W41 ?_
        | refine W42 ?_
        | refine W43 ?_
        | refine W44 ?_
        | refine W45 ?_
        | refine W46 ?_
        | refine W47 ?_
        | refine W126 ?_
        | refine W132 ?_
        | refine W8 ?_
        | refine W21 ?_
        | refine W22 ?_
        | refine W16 ?_
        | refine W9 ?_
        | refine W10 ?_
        | refine W48 ?_
        | (refine W49 (fun b => ?_))
        | (refine W50 (fun b => ?_))
        | (refine W51 (fun b => ?_))
        | refine W25 ?_)
      exact XQ.meet (10, 0) (by (repeat (first | exact fits_nil | refine fits_cons (by rfl) ?_)); done) (fun w h => ⟨⟨by rw [figure, if_neg (by rw [hx]; decide)], Nat.zero_le _, .inl rfl⟩, h⟩)
  rintro ⟨bs, fr⟩
  dsimp only
  refine XC.pure (fun hz => ?_)
  obtain ⟨hf, hfr, hbs⟩ := hz
  repeat' (first
    | refine XStep ?_
    | refine Fa.mk fun b => ?_
    | refine Fb.mk fun b2 => ?_
    | refine Fz.mk fun z => ?_
    | (refine Gd.mk (fun h => ?_) (fun h => ?_) <;> try (first | (exfalso; omega) | exact absurd rfl h | (exfalso; simp at h <;> omega)))
    | refine Ands.mk ?_ ?_
    | (refine XC.is ?_; refine W110 ?_; refine XC.planG (by kernel_rfl) (fun _ m h => h.drewn m) ?_; (conv => arg 5; reduce); refine XG0.of ?_; (conv => arg 5; reduce); (conv => arg 6; reduce); refine XG.go (by decide +kernel) ?_))
  have hbn : ((l.take (wordN l)).drop fr).length ≤ 20000 := by simp; omega
  rw [hf]
  generalize hbl : (l.take (wordN l)).drop fr = bl at hbn ⊢
  refine XC.loop (fun y : Nat × Int × Int => [(0, .string (tx l)), (5, .int .i64 (wordN l : Int)), (6, .int .i64 bs), (7, .int .i64 (fr : Int)), (8, .int .i64 y.2.1), (9, .int .i64 y.2.2), (21, .slice (some ⟨z.1, 0, none⟩) bl.length z.2), (22, .int .i64 (bl.length : Int)), (23, .int .i64 (y.1 : Int))])
    (fun y w => (y.1 ≤ bl.length ∧ 0 ≤ y.2.1 ∧ y.2.1 ≤ 9223372036854775807 ∧ (y.2.2 = 0 ∨ y.2.2 = 5) ∧ figL bs bl 0 0 = figL bs (bl.drop y.1) y.2.1 y.2.2) ∧ St c [] [Row.fp 1 (.slice (some ⟨z.1, 0, none⟩) bl.length z.2) bl.length (bytV bl)] w)
    (fun y => bl.length - y.1) (0, 0, 0) (by (repeat (first | exact fits_nil | refine fits_cons (by rfl) ?_)); done) (fun w h => ⟨⟨by dsimp only; omega, by dsimp only; omega, by dsimp only; omega, .inl rfl, rfl⟩, h⟩) ?_
  rintro ⟨i, n, e⟩
  dsimp only
  refine XC.pure (fun hh => ?_)
  obtain ⟨h1, h2, h3, h4, h5⟩ := hh
  by_cases hlt : i < bl.length
  · have gx : (bytV bl)[i]? = some (.int .u8 ((bl.getD i 0).toNat : Int)) := by
      rw [bytV, List.getElem?_map, List.getElem?_eq_getElem hlt, List.getD_eq_getElem?_getD, List.getElem?_eq_getElem hlt]
      rfl
    repeat' (first
      | refine XStep ?_
      | refine Fa.mk fun b => ?_
      | refine Fb.mk fun b2 => ?_
      | refine Fz.mk fun z => ?_
      | (refine Gd.mk (fun h => ?_) (fun h => ?_) <;> try (first | (exfalso; omega) | exact absurd rfl h | (exfalso; simp at h <;> omega)))
      | refine Ands.mk ?_ ?_
      | (refine XC.is ?_; refine W110 ?_; refine XC.planG (by kernel_rfl) (fun _ m h => h.drewn m) ?_; (conv => arg 5; reduce); refine XG0.of ?_; (conv => arg 5; reduce); (conv => arg 6; reduce); refine XG.go (by decide +kernel) ?_))
    refine XL.ldv (by rfl) (by rfl) (by rfl) (by rfl) (by rfl) (by rfl) (fun w h => byte_at h gx) ?_
    repeat' (first
      | refine XStep ?_
      | refine Fa.mk fun b => ?_
      | refine Fb.mk fun b2 => ?_
      | refine Fz.mk fun z => ?_
      | (refine Gd.mk (fun h => ?_) (fun h => ?_) <;> try (first | (exfalso; omega) | exact absurd rfl h | (exfalso; simp at h <;> omega)))
      | refine Ands.mk ?_ ?_
      | (refine XC.is ?_; refine W110 ?_; refine XC.planG (by kernel_rfl) (fun _ m h => h.drewn m) ?_; (conv => arg 5; reduce); refine XG0.of ?_; (conv => arg 5; reduce); (conv => arg 6; reduce); refine XG.go (by decide +kernel) ?_))
    refine XL.triq (worth_tri (a := bl.getD i 0)) (by rfl) (by rfl) (by rfl) (by rfl) (by rfl) (by rfl) (by rfl) (by (repeat' (first | exact Sels.nil | exact Sel.here | apply Sels.cons | apply Sel.there)); done) (by (repeat' (first | exact Sels.nil | exact Sel.here | apply Sels.cons | apply Sel.there)); done) (by (repeat (first | exact sub0 | refine subC (by repeat (first | exact List.Mem.head _ | apply List.Mem.tail)) ?_)); done) ?_
    have hwb := worth_bound (bl.getD i 0)
    rw [figL_cons hlt] at h5
    generalize worthN (bl.getD i 0) = wv at hwb h5 ⊢
    rcases h4 with rfl | rfl
    · repeat' (first
        | refine XStep ?_
        | refine Fa.mk fun b => ?_
        | refine Fb.mk fun b2 => ?_
        | refine Fz.mk fun z => ?_
        | (refine Gd.mk (fun h => ?_) (fun h => ?_) <;> try (first | (exfalso; omega) | exact absurd rfl h | (exfalso; simp at h <;> omega)))
        | refine Ands.mk ?_ ?_
        | (refine XC.is ?_; refine W110 ?_; refine XC.planG (by kernel_rfl) (fun _ m h => h.drewn m) ?_; (conv => arg 5; reduce); refine XG0.of ?_; (conv => arg 5; reduce); (conv => arg 6; reduce); refine XG.go (by decide +kernel) ?_))
      · rw [if_pos (by assumption)] at h5
        exact XQ.done3 (by rfl) (by rfl) (by rfl) (by rfl) ⟨by rw [figOf_none (by rw [hbl]; exact h5)], rfl, rfl⟩ (by (repeat' (first | exact Sels.nil | exact Sel.here | apply Sels.cons | apply Sel.there)); done) (by (repeat (first | exact sub0 | refine subC (by repeat (first | exact List.Mem.head _ | apply List.Mem.tail)) ?_)); done)
      · rw [if_neg (show ¬ wv ≥ bs by assumption), if_pos (show n > (9223372036854775807 - wv) / bs by assumption), if_neg (by decide)] at h5
        exact XQ.round (i + 1, n, 5) (by (repeat (first | exact fits_nil | refine fits_cons (by rfl) ?_)); done) (fun w hw => ⟨⟨by dsimp only; omega, h2, h3, .inr rfl, h5⟩, hw⟩) (by dsimp only; omega)
      · have hm := mul_room hbs h2 (show ¬ (9223372036854775807 - wv) / bs < n by assumption)
        rw [if_neg (show ¬ wv ≥ bs by assumption), if_neg (show ¬ n > (9223372036854775807 - wv) / bs by assumption), if_pos rfl] at h5
        refine XL.mul (by rfl) (by rfl) (by rfl) (by rfl) (by rfl) (by rfl) (by omega) ?_
        repeat' (first
          | refine XStep ?_
          | refine Fa.mk fun b => ?_
          | refine Fb.mk fun b2 => ?_
          | refine Fz.mk fun z => ?_
          | (refine Gd.mk (fun h => ?_) (fun h => ?_) <;> try (first | (exfalso; omega) | exact absurd rfl h | (exfalso; simp at h <;> omega)))
          | refine Ands.mk ?_ ?_
          | (refine XC.is ?_; refine W110 ?_; refine XC.planG (by kernel_rfl) (fun _ m h => h.drewn m) ?_; (conv => arg 5; reduce); refine XG0.of ?_; (conv => arg 5; reduce); (conv => arg 6; reduce); refine XG.go (by decide +kernel) ?_))
        exact XQ.round (i + 1, n * bs + wv, 0) (by (repeat (first | exact fits_nil | refine fits_cons (by rfl) ?_)); done) (fun w hw => ⟨⟨by dsimp only; omega, by dsimp only; omega, by dsimp only; omega, .inl rfl, h5⟩, hw⟩) (by dsimp only; omega)
    · repeat' (first
        | refine XStep ?_
        | refine Fa.mk fun b => ?_
        | refine Fb.mk fun b2 => ?_
        | refine Fz.mk fun z => ?_
        | (refine Gd.mk (fun h => ?_) (fun h => ?_) <;> try (first | (exfalso; omega) | exact absurd rfl h | (exfalso; simp at h <;> omega)))
        | refine Ands.mk ?_ ?_
        | (refine XC.is ?_; refine W110 ?_; refine XC.planG (by kernel_rfl) (fun _ m h => h.drewn m) ?_; (conv => arg 5; reduce); refine XG0.of ?_; (conv => arg 5; reduce); (conv => arg 6; reduce); refine XG.go (by decide +kernel) ?_))
      · rw [if_pos (by assumption)] at h5
        exact XQ.done3 (by rfl) (by rfl) (by rfl) (by rfl) ⟨by rw [figOf_none (by rw [hbl]; exact h5)], rfl, rfl⟩ (by (repeat' (first | exact Sels.nil | exact Sel.here | apply Sels.cons | apply Sel.there)); done) (by (repeat (first | exact sub0 | refine subC (by repeat (first | exact List.Mem.head _ | apply List.Mem.tail)) ?_)); done)
      all_goals first
        | (rw [if_neg (show ¬ wv ≥ bs by assumption), if_pos (show n > (9223372036854775807 - wv) / bs by assumption), if_neg (by decide)] at h5
           exact XQ.round (i + 1, n, 5) (by (repeat (first | exact fits_nil | refine fits_cons (by rfl) ?_)); done) (fun w hw => ⟨⟨by dsimp only; omega, h2, h3, .inr rfl, h5⟩, hw⟩) (by dsimp only; omega))
        | (rw [if_neg (show ¬ wv ≥ bs by assumption), if_neg (show ¬ n > (9223372036854775807 - wv) / bs by assumption), if_neg (by decide)] at h5
           exact XQ.round (i + 1, n, 5) (by (repeat (first | exact fits_nil | refine fits_cons (by rfl) ?_)); done) (fun w hw => ⟨⟨by dsimp only; omega, h2, h3, .inr rfl, h5⟩, hw⟩) (by dsimp only; omega))
  · rw [show bl.drop i = [] from List.drop_eq_nil_of_le (by omega)] at h5
    have h6 := figOf_some (l := l) (b := bs) (fr := fr) (by rw [hbl]; exact h5)
    repeat' (first
      | refine XStep ?_
      | refine Fa.mk fun b => ?_
      | refine Fb.mk fun b2 => ?_
      | refine Fz.mk fun z => ?_
      | (refine Gd.mk (fun h => ?_) (fun h => ?_) <;> try (first | (exfalso; omega) | exact absurd rfl h | (exfalso; simp at h <;> omega)))
      | refine Ands.mk ?_ ?_
      | (refine XC.is ?_; refine W110 ?_; refine XC.planG (by kernel_rfl) (fun _ m h => h.drewn m) ?_; (conv => arg 5; reduce); refine XG0.of ?_; (conv => arg 5; reduce); (conv => arg 6; reduce); refine XG.go (by decide +kernel) ?_))
    all_goals first
      | exact XQ.done3 (by rfl) (by rfl) (by rfl) (by rfl) ⟨by rw [h6, if_pos (by omega)], rfl, rfl⟩ (by (repeat' (first | exact Sels.nil | exact Sel.here | apply Sels.cons | apply Sel.there)); done) (by (repeat (first | exact sub0 | refine subC (by repeat (first | exact List.Mem.head _ | apply List.Mem.tail)) ?_)); done)
      | exact XQ.done3 (by rfl) (by rfl) (by rfl) (by rfl) ⟨by rw [h6, if_neg (by omega), if_pos (by omega)], rfl, rfl⟩ (by (repeat' (first | exact Sels.nil | exact Sel.here | apply Sels.cons | apply Sel.there)); done) (by (repeat (first | exact sub0 | refine subC (by repeat (first | exact List.Mem.head _ | apply List.Mem.tail)) ?_)); done)
      | exact XQ.done3 (by rfl) (by rfl) (by rfl) (by rfl) ⟨by rw [h6, if_neg (by omega), if_neg (by omega)], rfl, rfl⟩ (by (repeat' (first | exact Sels.nil | exact Sel.here | apply Sels.cons | apply Sel.there)); done) (by (repeat (first | exact sub0 | refine subC (by repeat (first | exact List.Mem.head _ | apply List.Mem.tail)) ?_)); done)
      | exact XQ.done3 (by rfl) (by rfl) (by rfl) (by rfl) ⟨by rw [h6, if_pos (.inr (.inr ⟨by assumption, by omega, Int.ofNat.inj (by assumption)⟩))], rfl, rfl⟩ (by (repeat' (first | exact Sels.nil | exact Sel.here | apply Sels.cons | apply Sel.there)); done) (by (repeat (first | exact sub0 | refine subC (by repeat (first | exact List.Mem.head _ | apply List.Mem.tail)) ?_)); done)
      | exact XQ.done3 (by rfl) (by rfl) (by rfl) (by rfl) ⟨by rw [h6, if_neg (fun hh => by
          rcases hh with hh | ⟨hh, _⟩ | ⟨_, _, hh⟩
          · omega
          · omega
          · exact absurd (congrArg Int.ofNat hh) (by assumption)), if_pos (by omega)], rfl, rfl⟩ (by (repeat' (first | exact Sels.nil | exact Sel.here | apply Sels.cons | apply Sel.there)); done) (by (repeat (first | exact sub0 | refine subC (by repeat (first | exact List.Mem.head _ | apply List.Mem.tail)) ?_)); done)
      | exact XQ.done3 (by rfl) (by rfl) (by rfl) (by rfl) ⟨by rw [h6, if_neg (fun hh => by
          rcases hh with hh | ⟨hh, _⟩ | ⟨_, _, hh⟩
          · omega
          · omega
          · exact absurd (congrArg Int.ofNat hh) (by assumption)), if_neg (by omega)], rfl, rfl⟩ (by (repeat' (first | exact Sels.nil | exact Sel.here | apply Sels.cons | apply Sel.there)); done) (by (repeat (first | exact sub0 | refine subC (by repeat (first | exact List.Mem.head _ | apply List.Mem.tail)) ?_)); done)
end Go.Proofs.Ytjnineeeffecaaa
