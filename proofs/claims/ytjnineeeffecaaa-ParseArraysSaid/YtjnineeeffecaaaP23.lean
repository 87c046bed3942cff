/- The reader of tokens, whole. -/
import Derived.Test.YtjnineeeffecaaaP22
import Derived.Test.YtjnineeeffecaaaP17
namespace Go.Proofs.Ytjnineeeffecaaa
open Go X
set_option maxRecDepth 100000
set_option maxHeartbeats 4000000
theorem tokT_iff (h : ∀ s : List UInt8, Tri Try.prog 16 [.string (tx s)] [] [gF]
  (Ret (fun x : Value × LexO => match x.2 with | .ok _ => .tuple #[x.1, .int .i64 0, .int .i64 0] | .bad t k => .tuple #[.slice none 0 0, .int .i64 t, .int .i64 k]) (fun x => match x.2 with | .ok T => [rowO 60 4 x.1 T.length (tokC T)] | .bad _ _ => []) (fun _ => [])
    fun x => x.2 = lexS s)) : TokT := h
attribute [local irreducible] XC XL XQ Tri blk Shows Sq Rd Mt inBlockX XS XG XG0 TkS AnS rowO tyFP tysFP ndFP ndsFP Row.fp FP.all
theorem tokC_app (T : List Tok) (t : Tok) : tokC T ++ t.cells = tokC (T ++ [t]) := by simp [tokC]
theorem tokens_tri : TokT := tokT_iff fun l => by
  refine Tri.of Try.func16 rfl fun c => ?_
  by_cases h0 : 20000 < l.length
  · have hx : lexS l = .bad 0 5 := by rw [lexS, if_pos h0]
    repeat' (first
      | refine XStep ?_
      | refine Fa.mk fun b => ?_
      | refine Fb.mk fun b2 => ?_
      | refine Fz.mk fun z => ?_
      | (refine Gd.mk (fun h => ?_) (fun h => ?_) <;> try (first | (exfalso; omega) | exact absurd rfl h | (exfalso; simp at h <;> omega)))
      | refine Ands.mk ?_ ?_
      | (refine XC.is ?_; refine W110 ?_; refine XC.planG (by kernel_rfl) (fun _ m h => h.drewn m) ?_; (conv => arg 5; reduce); refine XG0.of ?_; (conv => arg 5; reduce); (conv => arg 6; reduce); refine XG.go (by decide +kernel) ?_))
    exact XQ.done3 (by rfl) (by rfl) (by rfl) (by rfl) ⟨(.slice none 0 0, .bad 0 5), hx.symm, rfl, rfl, rfl⟩ (by (repeat' (first | exact Sels.nil | exact Sel.here | apply Sels.cons | apply Sel.there)); done) (by (repeat (first | exact sub0 | refine subC (by repeat (first | exact List.Mem.head _ | apply List.Mem.tail)) ?_)); done)
  · have hx : lexS l = lexF l (l.length + 1) 0 [] := by rw [lexS, if_neg h0]
    repeat' (first
      | refine XStep ?_
      | refine Fa.mk fun b => ?_
      | refine Fb.mk fun b2 => ?_
      | refine Fz.mk fun z => ?_
      | (refine Gd.mk (fun h => ?_) (fun h => ?_) <;> try (first | (exfalso; omega) | exact absurd rfl h | (exfalso; simp at h <;> omega)))
      | refine Ands.mk ?_ ?_
      | (refine XC.is ?_; refine W110 ?_; refine XC.planG (by kernel_rfl) (fun _ m h => h.drewn m) ?_; (conv => arg 5; reduce); refine XG0.of ?_; (conv => arg 5; reduce); (conv => arg 6; reduce); refine XG.go (by decide +kernel) ?_))
    refine XC.loop (fun z : Nat × Nat × Value × List Tok => [(0, .string (tx l)), (5, z.2.2.1), (6, .int .i64 (z.2.1 : Int))])
      (fun z w => (z.2.1 ≤ l.length ∧ l.length < z.1 + z.2.1 ∧ z.2.2.2.length ≤ z.2.1 ∧ lexS l = lexF l z.1 z.2.1 z.2.2.2) ∧ St c [rowO 60 4 z.2.2.1 z.2.2.2.length (tokC z.2.2.2)] [gF] w) (fun z => z.1)
      (l.length + 1, 0, .slice none 0 0, []) (by (repeat (first | exact fits_nil | refine fits_cons (by rfl) ?_)); done) (fun w h => ⟨⟨by dsimp only; omega, by dsimp only; omega, by simp, hx⟩, h.nilRow 60 4⟩) ?_
    rintro ⟨f, a, v, T⟩
    dsimp only
    refine XC.pure (fun hi => ?_)
    obtain ⟨h1, h2, h3, h4⟩ := hi
    obtain ⟨f, rfl⟩ : ∃ g, f = g + 1 := ⟨f - 1, by omega⟩
    rw [lexF_succ (f := f)] at h4
    have hb := blankP_bound (l.drop a)
    have hlen : (l.drop a).length = l.length - a := List.length_drop
    have hbt := blank_tri (l := l.drop a) (by omega)
    repeat' (first
      | refine XStep ?_
      | refine Fa.mk fun b => ?_
      | refine Fb.mk fun b2 => ?_
      | refine Fz.mk fun z => ?_
      | (refine Gd.mk (fun h => ?_) (fun h => ?_) <;> try (first | (exfalso; omega) | exact absurd rfl h | (exfalso; simp at h <;> omega)))
      | refine Ands.mk ?_ ?_
      | (refine XC.is ?_; refine W110 ?_; refine XC.planG (by kernel_rfl) (fun _ m h => h.drewn m) ?_; (conv => arg 5; reduce); refine XG0.of ?_; (conv => arg 5; reduce); (conv => arg 6; reduce); refine XG.go (by decide +kernel) ?_))
    by_cases hn : (blankP (l.drop a)).1 < 0
    · rw [if_pos hn] at h4
      refine XL.triq (hbt) (by rfl) (by rfl) (by rfl) (by rfl) (by rfl) (by rfl) (by rfl) (by (repeat' (first | exact Sels.nil | exact Sel.here | apply Sels.cons | apply Sel.there)); done) (by (repeat' (first | exact Sels.nil | exact Sel.here | apply Sels.cons | apply Sel.there)); done) (by (repeat (first | exact sub0 | refine subC (by repeat (first | exact List.Mem.head _ | apply List.Mem.tail)) ?_)); done) ?_
      repeat' (first
        | refine XStep ?_
        | refine Fa.mk fun b => ?_
        | refine Fb.mk fun b2 => ?_
        | refine Fz.mk fun z => ?_
        | (refine Gd.mk (fun h => ?_) (fun h => ?_) <;> try (first | (exfalso; omega) | exact absurd rfl h | (exfalso; simp at h <;> omega)))
        | refine Ands.mk ?_ ?_
        | (refine XC.is ?_; refine W110 ?_; refine XC.planG (by kernel_rfl) (fun _ m h => h.drewn m) ?_; (conv => arg 5; reduce); refine XG0.of ?_; (conv => arg 5; reduce); (conv => arg 6; reduce); refine XG.go (by decide +kernel) ?_))
      exact XQ.done3 (by rfl) (by rfl) (by rfl) (by rfl) ⟨(.slice none 0 0, .bad (a + (blankP (l.drop a)).2) 2), h4.symm, rfl, rfl, rfl⟩ (by (repeat' (first | exact Sels.nil | exact Sel.here | apply Sels.cons | apply Sel.there)); done) (by (repeat (first | exact sub0 | refine subC (by repeat (first | exact List.Mem.head _ | apply List.Mem.tail)) ?_)); done)
    · rw [if_neg hn] at h4
      obtain ⟨m, hm⟩ := Int.eq_ofNat_of_zero_le (show 0 ≤ (blankP (l.drop a)).1 by omega)
      rw [hm] at hbt h4 hb
      simp only [Int.toNat_natCast] at h4
      refine XL.triq (hbt) (by rfl) (by rfl) (by rfl) (by rfl) (by rfl) (by rfl) (by rfl) (by (repeat' (first | exact Sels.nil | exact Sel.here | apply Sels.cons | apply Sel.there)); done) (by (repeat' (first | exact Sels.nil | exact Sel.here | apply Sels.cons | apply Sel.there)); done) (by (repeat (first | exact sub0 | refine subC (by repeat (first | exact List.Mem.head _ | apply List.Mem.tail)) ?_)); done) ?_
      repeat' (first
        | refine XStep ?_
        | refine Fa.mk fun b => ?_
        | refine Fb.mk fun b2 => ?_
        | refine Fz.mk fun z => ?_
        | (refine Gd.mk (fun h => ?_) (fun h => ?_) <;> try (first | (exfalso; omega) | exact absurd rfl h | (exfalso; simp at h <;> omega)))
        | refine Ands.mk ?_ ?_
        | (refine XC.is ?_; refine W110 ?_; refine XC.planG (by kernel_rfl) (fun _ m h => h.drewn m) ?_; (conv => arg 5; reduce); refine XG0.of ?_; (conv => arg 5; reduce); (conv => arg 6; reduce); refine XG.go (by decide +kernel) ?_))
      · rw [if_pos (by omega)] at h4
        exact XQ.done3 (by rfl) (by rfl) (by rfl) (by rfl) ⟨(v, .ok T), h4.symm, rfl, rfl, rfl⟩ (by (repeat' (first | exact Sels.nil | exact Sel.here | apply Sels.cons | apply Sel.there)); done) (by (repeat (first | exact sub0 | refine subC (by repeat (first | exact List.Mem.head _ | apply List.Mem.tail)) ?_)); done)
      · have hne : ¬ a + m = l.length := by omega
        rw [if_neg hne] at h4
        have ham : a + m < l.length := by omega
        have hlen2 : (l.drop (a + m)).length = l.length - (a + m) := List.length_drop
        have htk := token_tri (l := l.drop (a + m)) (by omega) (by omega)
        have htl := tokOf_len (l := l.drop (a + m)) (by omega)
        generalize tokOf (l.drop (a + m)) = tk at h4 htk htl
        obtain ⟨tkk, tkx, tkv, tke⟩ := tk
        dsimp only [tokV] at h4 htk htl
        refine XL.triq (htk) (by rfl) (by rfl) (by rfl) (by rfl) (by rfl) (by rfl) (by rfl) (by (repeat' (first | exact Sels.nil | exact Sel.here | apply Sels.cons | apply Sel.there)); done) (by (repeat' (first | exact Sels.nil | exact Sel.here | apply Sels.cons | apply Sel.there)); done) (by (repeat (first | exact sub0 | refine subC (by repeat (first | exact List.Mem.head _ | apply List.Mem.tail)) ?_)); done) ?_
        repeat' (first
          | refine XStep ?_
          | refine Fa.mk fun b => ?_
          | refine Fb.mk fun b2 => ?_
          | refine Fz.mk fun z => ?_
          | (refine Gd.mk (fun h => ?_) (fun h => ?_) <;> try (first | (exfalso; omega) | exact absurd rfl h | (exfalso; simp at h <;> omega)))
          | refine Ands.mk ?_ ?_
          | (refine XC.is ?_; refine W110 ?_; refine XC.planG (by kernel_rfl) (fun _ m h => h.drewn m) ?_; (conv => arg 5; reduce); refine XG0.of ?_; (conv => arg 5; reduce); (conv => arg 6; reduce); refine XG.go (by decide +kernel) ?_))
        · rw [if_pos (by assumption)] at h4
          exact XQ.done3 (by rfl) (by rfl) (by rfl) (by rfl) ⟨(.slice none 0 0, .bad ((a + m : Nat) : Int) tke), h4.symm, rfl, rfl, rfl⟩ (by (repeat' (first | exact Sels.nil | exact Sel.here | apply Sels.cons | apply Sel.there)); done) (by (repeat (first | exact sub0 | refine subC (by repeat (first | exact List.Mem.head _ | apply List.Mem.tail)) ?_)); done)
        · have he : ¬ tke ≠ 0 := by assumption
          rw [if_neg he] at h4
          have htl := htl (Decidable.not_not.1 he)
          refine XL.appendS (e := 60) (size := 4) (us := Tok.cells ⟨tkk, ((a + m : Nat) : Int), tx tkx, tkv⟩) (xs' := tokC (T ++ [⟨tkk, ((a + m : Nat) : Int), tx tkx, tkv⟩])) (by rfl) (by rfl) (by rfl) (by rfl) (by rfl) (by rfl) (by rfl) (by repeat (first | exact Sel.here | apply Sel.there)) (by repeat (first | exact Sel.here | apply Sel.there)) ⟨_, (by repeat (first | exact Sel.here | apply Sel.there))⟩ (by rfl) (Nat.le_refl _) rfl rfl (by rfl) (by omega) rfl (tokC_app T ⟨tkk, ((a + m : Nat) : Int), tx tkx, tkv⟩) (fun v' => ?_)
          repeat' (first
            | refine XStep ?_
            | refine Fa.mk fun b => ?_
            | refine Fb.mk fun b2 => ?_
            | refine Fz.mk fun z => ?_
            | (refine Gd.mk (fun h => ?_) (fun h => ?_) <;> try (first | (exfalso; omega) | exact absurd rfl h | (exfalso; simp at h <;> omega)))
            | refine Ands.mk ?_ ?_
            | (refine XC.is ?_; refine W110 ?_; refine XC.planG (by kernel_rfl) (fun _ m h => h.drewn m) ?_; (conv => arg 5; reduce); refine XG0.of ?_; (conv => arg 5; reduce); (conv => arg 6; reduce); refine XG.go (by decide +kernel) ?_))
          refine XQ.round (f, a + m + tkx.length, v', T ++ [⟨tkk, ((a + m : Nat) : Int), tx tkx, tkv⟩]) (by (repeat (first | exact fits_nil | refine fits_cons (by rfl) ?_)); done) (fun w hw => ⟨⟨by dsimp only; omega, by dsimp only; omega, by simp; omega, h4⟩, ?_⟩) (by dsimp only; omega)
          have e2 : (T ++ [(⟨tkk, ((a + m : Nat) : Int), tx tkx, tkv⟩ : Tok)]).length = T.length + 1 := by simp
          dsimp only
          rw [e2]
          exact hw.less (by (repeat' (first | exact Sels.nil | exact Sel.here | apply Sels.cons | apply Sel.there)); done) (by (repeat (first | exact sub0 | refine subC (by repeat (first | exact List.Mem.head _ | apply List.Mem.tail)) ?_)); done)
end Go.Proofs.Ytjnineeeffecaaa
