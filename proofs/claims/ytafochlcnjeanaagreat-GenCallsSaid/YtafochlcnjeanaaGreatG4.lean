/- .. an instruction's check. -/
import Derived.Test.YtafochlcnjeanaaGreatG3
namespace Go.Proofs.YtafochlcnjeanaaGreat
open Go X
set_option maxRecDepth 100000
set_option maxHeartbeats 4000000
attribute [local irreducible] XC XL XQ Tri blk Shows Sq Rd Mt inBlockX
attribute [local irreducible] rowO
theorem okI_other {p : ProgM} {I : InsnM} (h1 : ¬ I.op = 15) (h2 : ¬ I.op = 7) (h3 : ¬ I.op = 16) : okI p I := ⟨fun h => absurd h h1, fun h => absurd h h2, fun h => absurd h h3⟩
theorem others_tri {p : ProgM} {F : FnM} (mF : F ∈ p.fnL) {I : InsnM} (mI : I ∈ F.codeL) :
    Tri Tryz.prog 53 [p.v, F.v, I.v] [] [progFP p] (Ret (fun b : Bool => .bool b) (fun _ => []) (fun _ => []) fun b => b = true → okI p I) := by
  refine Tri.of Tryz.func53 rfl fun c => ?_
  repeat' (first
    | refine W82 ?_
    | refine W83 ?_
    | refine W84 ?_
    | refine W85 ?_
    | refine W86 ?_
    | refine W87 ?_
    | (refine W89 (fun h => ?_) (fun h => ?_) <;> try (first | (exfalso; omega) | exact absurd rfl h | (exfalso; simp at h <;> omega)))
    | refine W90 ?_
    | refine W91 ?_
    | refine W94 ?_
    | refine W98 ?_
    | refine W99 ?_
    | refine W100 ?_
    | refine W101 ?_
    | refine W102 ?_
    | refine W103 ?_
    | refine W104 ?_
    | refine W105 ?_
    | refine W106 ?_
    | refine W1 ?_
    | (refine W2 (fun h => ?_) (fun h => ?_) <;> try (first | (exfalso; omega) | exact absurd rfl h | (exfalso; simp at h <;> omega)))
    | refine W3 ?_
    | refine W32 ?_
    | refine XL.pure 1 (by rfl) ?_
    | refine W13 ?_
    | refine W5 ?_
    | refine W14 ?_
    | refine W18 ?_
    | refine W6 ?_
    | refine W24 ?_
    | refine W27 ?_
    | refine W19 ?_
    | refine W20 ?_
    | refine W15 ?_
    | refine W7 ?_
    | refine W28 ?_
    | refine W29 ?_
    | refine W34 ?_
    | refine W35 ?_
    | refine W36 ?_
    | refine W37 ?_
    | refine W38 ?_
    | refine W39 ?_
    | refine W30 ?_
    | refine W31 ?_
    | refine W40 ?_
    | refine W41 ?_
    | refine W42 ?_
    | refine W43 ?_
    | refine W44 ?_
    | refine W45 ?_
    | refine W47 ?_
    | refine W108 ?_
    | refine W109 ?_
    | refine W8 ?_
    | refine W21 ?_
    | refine W22 ?_
    | refine W16 ?_
    | refine W9 ?_
    | refine W10 ?_
    | refine W48 ?_
    | (refine W49 (fun b => ?_))
    | (refine W50 (fun b => ?_))
    | (refine W51 (fun b => ?_))
    | refine W25 ?_)
  · refine XL.triq (kind_tri (p := p) (n := I.b)) (by rfl) (by rfl) (by rfl) (by rfl) (by rfl) (by rfl) (by rfl) (by (repeat' (first | exact Sels.nil | exact Sel.here | apply Sels.cons | apply Sel.there)); done) (by (repeat' (first | exact Sels.nil | exact Sel.here | apply Sels.cons | apply Sel.there)); done) (by (repeat (first | exact sub0 | refine subC (by repeat (first | exact List.Mem.head _ | apply List.Mem.tail)) ?_)); done) ?_
    repeat' (first
      | refine W82 ?_
      | refine W83 ?_
      | refine W84 ?_
      | refine W85 ?_
      | refine W86 ?_
      | refine W87 ?_
      | (refine W89 (fun h => ?_) (fun h => ?_) <;> try (first | (exfalso; omega) | exact absurd rfl h | (exfalso; simp at h <;> omega)))
      | refine W90 ?_
      | refine W91 ?_
      | refine W94 ?_
      | refine W98 ?_
      | refine W99 ?_
      | refine W100 ?_
      | refine W101 ?_
      | refine W102 ?_
      | refine W103 ?_
      | refine W104 ?_
      | refine W105 ?_
      | refine W106 ?_
      | refine W1 ?_
      | (refine W2 (fun h => ?_) (fun h => ?_) <;> try (first | (exfalso; omega) | exact absurd rfl h | (exfalso; simp at h <;> omega)))
      | refine W3 ?_
      | refine W32 ?_
      | refine XL.pure 1 (by rfl) ?_
      | refine W13 ?_
      | refine W5 ?_
      | refine W14 ?_
      | refine W18 ?_
      | refine W6 ?_
      | refine W24 ?_
      | refine W27 ?_
      | refine W19 ?_
      | refine W20 ?_
      | refine W15 ?_
      | refine W7 ?_
      | refine W28 ?_
      | refine W29 ?_
      | refine W34 ?_
      | refine W35 ?_
      | refine W36 ?_
      | refine W37 ?_
      | refine W38 ?_
      | refine W39 ?_
      | refine W30 ?_
      | refine W31 ?_
      | refine W40 ?_
      | refine W41 ?_
      | refine W42 ?_
      | refine W43 ?_
      | refine W44 ?_
      | refine W45 ?_
      | refine W47 ?_
      | refine W108 ?_
      | refine W109 ?_
      | refine W8 ?_
      | refine W21 ?_
      | refine W22 ?_
      | refine W16 ?_
      | refine W9 ?_
      | refine W10 ?_
      | refine W48 ?_
      | (refine W49 (fun b => ?_))
      | (refine W50 (fun b => ?_))
      | (refine W51 (fun b => ?_))
      | refine W25 ?_)
    exact XQ.done1 (by rfl) (by rfl) ⟨_, fun _ => okI_other (by omega) (by omega) (by omega), rfl, rfl, rfl⟩ (by (repeat' (first | exact Sels.nil | exact Sel.here | apply Sels.cons | apply Sel.there)); done) (by (repeat (first | exact sub0 | refine subC (by repeat (first | exact List.Mem.head _ | apply List.Mem.tail)) ?_)); done)
  · refine XL.lit (by rfl) (by rfl) (by rfl) (by rfl) (by rfl) (by rfl) fun b2 => ?_
    repeat' (first
      | refine W82 ?_
      | refine W83 ?_
      | refine W84 ?_
      | refine W85 ?_
      | refine W86 ?_
      | refine W87 ?_
      | (refine W89 (fun h => ?_) (fun h => ?_) <;> try (first | (exfalso; omega) | exact absurd rfl h | (exfalso; simp at h <;> omega)))
      | refine W90 ?_
      | refine W91 ?_
      | refine W94 ?_
      | refine W98 ?_
      | refine W99 ?_
      | refine W100 ?_
      | refine W101 ?_
      | refine W102 ?_
      | refine W103 ?_
      | refine W104 ?_
      | refine W105 ?_
      | refine W106 ?_
      | refine W1 ?_
      | (refine W2 (fun h => ?_) (fun h => ?_) <;> try (first | (exfalso; omega) | exact absurd rfl h | (exfalso; simp at h <;> omega)))
      | refine W3 ?_
      | refine W32 ?_
      | refine XL.pure 1 (by rfl) ?_
      | refine W13 ?_
      | refine W5 ?_
      | refine W14 ?_
      | refine W18 ?_
      | refine W6 ?_
      | refine W24 ?_
      | refine W27 ?_
      | refine W19 ?_
      | refine W20 ?_
      | refine W15 ?_
      | refine W7 ?_
      | refine W28 ?_
      | refine W29 ?_
      | refine W34 ?_
      | refine W35 ?_
      | refine W36 ?_
      | refine W37 ?_
      | refine W38 ?_
      | refine W39 ?_
      | refine W30 ?_
      | refine W31 ?_
      | refine W40 ?_
      | refine W41 ?_
      | refine W42 ?_
      | refine W43 ?_
      | refine W44 ?_
      | refine W45 ?_
      | refine W47 ?_
      | refine W108 ?_
      | refine W109 ?_
      | refine W8 ?_
      | refine W21 ?_
      | refine W22 ?_
      | refine W16 ?_
      | refine W9 ?_
      | refine W10 ?_
      | refine W48 ?_
      | (refine W49 (fun b => ?_))
      | (refine W50 (fun b => ?_))
      | (refine W51 (fun b => ?_))
      | refine W25 ?_)
    refine XL.conv (fun w h => St.celFreeze (m := 16) (cap := 16) (size := 1) .here rfl (by decide) h) ?_
    refine XL.trir (sign_tri (s := I.sign) ?_ ?_) (by rfl) (by rfl) (by rfl) (by rfl) (by rfl) (by rfl) (by rfl) (by (repeat' (first | exact Sels.nil | exact Sel.here | apply Sels.cons | apply Sel.there)); done) (by (repeat (first | exact sub0 | refine subC (by repeat (first | exact List.Mem.head _ | apply List.Mem.tail)) ?_)); done) ?_
    · decide
    · rfl
    rintro r -
    conv => arg 9; dsimp only [List.cons_append, List.nil_append]
    try conv => arg 7; dsimp only
    repeat' (first
      | refine W82 ?_
      | refine W83 ?_
      | refine W84 ?_
      | refine W85 ?_
      | refine W86 ?_
      | refine W87 ?_
      | (refine W89 (fun h => ?_) (fun h => ?_) <;> try (first | (exfalso; omega) | exact absurd rfl h | (exfalso; simp at h <;> omega)))
      | refine W90 ?_
      | refine W91 ?_
      | refine W94 ?_
      | refine W98 ?_
      | refine W99 ?_
      | refine W100 ?_
      | refine W101 ?_
      | refine W102 ?_
      | refine W103 ?_
      | refine W104 ?_
      | refine W105 ?_
      | refine W106 ?_
      | refine W1 ?_
      | (refine W2 (fun h => ?_) (fun h => ?_) <;> try (first | (exfalso; omega) | exact absurd rfl h | (exfalso; simp at h <;> omega)))
      | refine W3 ?_
      | refine W32 ?_
      | refine XL.pure 1 (by rfl) ?_
      | refine W13 ?_
      | refine W5 ?_
      | refine W14 ?_
      | refine W18 ?_
      | refine W6 ?_
      | refine W24 ?_
      | refine W27 ?_
      | refine W19 ?_
      | refine W20 ?_
      | refine W15 ?_
      | refine W7 ?_
      | refine W28 ?_
      | refine W29 ?_
      | refine W34 ?_
      | refine W35 ?_
      | refine W36 ?_
      | refine W37 ?_
      | refine W38 ?_
      | refine W39 ?_
      | refine W30 ?_
      | refine W31 ?_
      | refine W40 ?_
      | refine W41 ?_
      | refine W42 ?_
      | refine W43 ?_
      | refine W44 ?_
      | refine W45 ?_
      | refine W47 ?_
      | refine W108 ?_
      | refine W109 ?_
      | refine W8 ?_
      | refine W21 ?_
      | refine W22 ?_
      | refine W16 ?_
      | refine W9 ?_
      | refine W10 ?_
      | refine W48 ?_
      | (refine W49 (fun b => ?_))
      | (refine W50 (fun b => ?_))
      | (refine W51 (fun b => ?_))
      | refine W25 ?_)
    exact XQ.done1 (by rfl) (by rfl) ⟨_, fun _ => okI_other (by omega) (by omega) (by omega), rfl, rfl, rfl⟩ (by (repeat' (first | exact Sels.nil | exact Sel.here | apply Sels.cons | apply Sel.there)); done) (by (repeat (first | exact sub0 | refine subC (by repeat (first | exact List.Mem.head _ | apply List.Mem.tail)) ?_)); done)
  · refine XL.lit (by rfl) (by rfl) (by rfl) (by rfl) (by rfl) (by rfl) fun b2 => ?_
    repeat' (first
      | refine W82 ?_
      | refine W83 ?_
      | refine W84 ?_
      | refine W85 ?_
      | refine W86 ?_
      | refine W87 ?_
      | (refine W89 (fun h => ?_) (fun h => ?_) <;> try (first | (exfalso; omega) | exact absurd rfl h | (exfalso; simp at h <;> omega)))
      | refine W90 ?_
      | refine W91 ?_
      | refine W94 ?_
      | refine W98 ?_
      | refine W99 ?_
      | refine W100 ?_
      | refine W101 ?_
      | refine W102 ?_
      | refine W103 ?_
      | refine W104 ?_
      | refine W105 ?_
      | refine W106 ?_
      | refine W1 ?_
      | (refine W2 (fun h => ?_) (fun h => ?_) <;> try (first | (exfalso; omega) | exact absurd rfl h | (exfalso; simp at h <;> omega)))
      | refine W3 ?_
      | refine W32 ?_
      | refine XL.pure 1 (by rfl) ?_
      | refine W13 ?_
      | refine W5 ?_
      | refine W14 ?_
      | refine W18 ?_
      | refine W6 ?_
      | refine W24 ?_
      | refine W27 ?_
      | refine W19 ?_
      | refine W20 ?_
      | refine W15 ?_
      | refine W7 ?_
      | refine W28 ?_
      | refine W29 ?_
      | refine W34 ?_
      | refine W35 ?_
      | refine W36 ?_
      | refine W37 ?_
      | refine W38 ?_
      | refine W39 ?_
      | refine W30 ?_
      | refine W31 ?_
      | refine W40 ?_
      | refine W41 ?_
      | refine W42 ?_
      | refine W43 ?_
      | refine W44 ?_
      | refine W45 ?_
      | refine W47 ?_
      | refine W108 ?_
      | refine W109 ?_
      | refine W8 ?_
      | refine W21 ?_
      | refine W22 ?_
      | refine W16 ?_
      | refine W9 ?_
      | refine W10 ?_
      | refine W48 ?_
      | (refine W49 (fun b => ?_))
      | (refine W50 (fun b => ?_))
      | (refine W51 (fun b => ?_))
      | refine W25 ?_)
    refine XL.conv (fun w h => St.celFreeze (m := 2) (cap := 2) (size := 1) .here rfl (by decide) h) ?_
    refine XL.trir (sign_tri (s := I.sign) ?_ ?_) (by rfl) (by rfl) (by rfl) (by rfl) (by rfl) (by rfl) (by rfl) (by (repeat' (first | exact Sels.nil | exact Sel.here | apply Sels.cons | apply Sel.there)); done) (by (repeat (first | exact sub0 | refine subC (by repeat (first | exact List.Mem.head _ | apply List.Mem.tail)) ?_)); done) ?_
    · decide
    · rfl
    rintro r -
    conv => arg 9; dsimp only [List.cons_append, List.nil_append]
    try conv => arg 7; dsimp only
    repeat' (first
      | refine W82 ?_
      | refine W83 ?_
      | refine W84 ?_
      | refine W85 ?_
      | refine W86 ?_
      | refine W87 ?_
      | (refine W89 (fun h => ?_) (fun h => ?_) <;> try (first | (exfalso; omega) | exact absurd rfl h | (exfalso; simp at h <;> omega)))
      | refine W90 ?_
      | refine W91 ?_
      | refine W94 ?_
      | refine W98 ?_
      | refine W99 ?_
      | refine W100 ?_
      | refine W101 ?_
      | refine W102 ?_
      | refine W103 ?_
      | refine W104 ?_
      | refine W105 ?_
      | refine W106 ?_
      | refine W1 ?_
      | (refine W2 (fun h => ?_) (fun h => ?_) <;> try (first | (exfalso; omega) | exact absurd rfl h | (exfalso; simp at h <;> omega)))
      | refine W3 ?_
      | refine W32 ?_
      | refine XL.pure 1 (by rfl) ?_
      | refine W13 ?_
      | refine W5 ?_
      | refine W14 ?_
      | refine W18 ?_
      | refine W6 ?_
      | refine W24 ?_
      | refine W27 ?_
      | refine W19 ?_
      | refine W20 ?_
      | refine W15 ?_
      | refine W7 ?_
      | refine W28 ?_
      | refine W29 ?_
      | refine W34 ?_
      | refine W35 ?_
      | refine W36 ?_
      | refine W37 ?_
      | refine W38 ?_
      | refine W39 ?_
      | refine W30 ?_
      | refine W31 ?_
      | refine W40 ?_
      | refine W41 ?_
      | refine W42 ?_
      | refine W43 ?_
      | refine W44 ?_
      | refine W45 ?_
      | refine W47 ?_
      | refine W108 ?_
      | refine W109 ?_
      | refine W8 ?_
      | refine W21 ?_
      | refine W22 ?_
      | refine W16 ?_
      | refine W9 ?_
      | refine W10 ?_
      | refine W48 ?_
      | (refine W49 (fun b => ?_))
      | (refine W50 (fun b => ?_))
      | (refine W51 (fun b => ?_))
      | refine W25 ?_)
    exact XQ.done1 (by rfl) (by rfl) ⟨_, fun _ => okI_other (by omega) (by omega) (by omega), rfl, rfl, rfl⟩ (by (repeat' (first | exact Sels.nil | exact Sel.here | apply Sels.cons | apply Sel.there)); done) (by (repeat (first | exact sub0 | refine subC (by repeat (first | exact List.Mem.head _ | apply List.Mem.tail)) ?_)); done)
  all_goals first
    | exact XQ.done1 (by rfl) (by rfl) ⟨_, fun hb => by first | (exfalso; simp at hb; done) | (try simp at hb); exact ⟨fun h => absurd h (by omega), fun h => by omega, fun h => by omega⟩, rfl, rfl, rfl⟩ (by (repeat' (first | exact Sels.nil | exact Sel.here | apply Sels.cons | apply Sel.there)); done) (by (repeat (first | exact sub0 | refine subC (by repeat (first | exact List.Mem.head _ | apply List.Mem.tail)) ?_)); done)
    | skip
  · refine XL.triq (kind_tri (p := p) (n := I.n)) (by rfl) (by rfl) (by rfl) (by rfl) (by rfl) (by rfl) (by rfl) (by (repeat' (first | exact Sels.nil | exact Sel.here | apply Sels.cons | apply Sel.there)); done) (by (repeat' (first | exact Sels.nil | exact Sel.here | apply Sels.cons | apply Sel.there)); done) (by (repeat (first | exact sub0 | refine subC (by repeat (first | exact List.Mem.head _ | apply List.Mem.tail)) ?_)); done) ?_
    repeat' (first
      | refine W82 ?_
      | refine W83 ?_
      | refine W84 ?_
      | refine W85 ?_
      | refine W86 ?_
      | refine W87 ?_
      | (refine W89 (fun h => ?_) (fun h => ?_) <;> try (first | (exfalso; omega) | exact absurd rfl h | (exfalso; simp at h <;> omega)))
      | refine W90 ?_
      | refine W91 ?_
      | refine W94 ?_
      | refine W98 ?_
      | refine W99 ?_
      | refine W100 ?_
      | refine W101 ?_
      | refine W102 ?_
      | refine W103 ?_
      | refine W104 ?_
      | refine W105 ?_
      | refine W106 ?_
      | refine W1 ?_
      | (refine W2 (fun h => ?_) (fun h => ?_) <;> try (first | (exfalso; omega) | exact absurd rfl h | (exfalso; simp at h <;> omega)))
      | refine W3 ?_
      | refine W32 ?_
      | refine XL.pure 1 (by rfl) ?_
      | refine W13 ?_
      | refine W5 ?_
      | refine W14 ?_
      | refine W18 ?_
      | refine W6 ?_
      | refine W24 ?_
      | refine W27 ?_
      | refine W19 ?_
      | refine W20 ?_
      | refine W15 ?_
      | refine W7 ?_
      | refine W28 ?_
      | refine W29 ?_
      | refine W34 ?_
      | refine W35 ?_
      | refine W36 ?_
      | refine W37 ?_
      | refine W38 ?_
      | refine W39 ?_
      | refine W30 ?_
      | refine W31 ?_
      | refine W40 ?_
      | refine W41 ?_
      | refine W42 ?_
      | refine W43 ?_
      | refine W44 ?_
      | refine W45 ?_
      | refine W47 ?_
      | refine W108 ?_
      | refine W109 ?_
      | refine W8 ?_
      | refine W21 ?_
      | refine W22 ?_
      | refine W16 ?_
      | refine W9 ?_
      | refine W10 ?_
      | refine W48 ?_
      | (refine W49 (fun b => ?_))
      | (refine W50 (fun b => ?_))
      | (refine W51 (fun b => ?_))
      | refine W25 ?_)
    exact XQ.done1 (by rfl) (by rfl) ⟨_, fun _ => okI_other (by omega) (by omega) (by omega), rfl, rfl, rfl⟩ (by (repeat' (first | exact Sels.nil | exact Sel.here | apply Sels.cons | apply Sel.there)); done) (by (repeat (first | exact sub0 | refine subC (by repeat (first | exact List.Mem.head _ | apply List.Mem.tail)) ?_)); done)
  · obtain ⟨F2, hF2, mF2⟩ := get_of_lt (l := p.fnL) (i := I.n.toNat) (by omega)
    have aF2 := fn_at hF2
    repeat' (first
      | refine W82 ?_
      | refine W83 ?_
      | refine W84 ?_
      | refine W85 ?_
      | refine W86 ?_
      | refine W87 ?_
      | (refine W89 (fun h => ?_) (fun h => ?_) <;> try (first | (exfalso; omega) | exact absurd rfl h | (exfalso; simp at h <;> omega)))
      | refine W90 ?_
      | refine W91 ?_
      | refine W94 ?_
      | refine W98 ?_
      | refine W99 ?_
      | refine W100 ?_
      | refine W101 ?_
      | refine W102 ?_
      | refine W103 ?_
      | refine W104 ?_
      | refine W105 ?_
      | refine W106 ?_
      | refine W1 ?_
      | (refine W2 (fun h => ?_) (fun h => ?_) <;> try (first | (exfalso; omega) | exact absurd rfl h | (exfalso; simp at h <;> omega)))
      | refine W3 ?_
      | refine W32 ?_
      | refine XL.pure 1 (by rfl) ?_
      | refine W13 ?_
      | refine W5 ?_
      | refine W14 ?_
      | refine W18 ?_
      | refine W6 ?_
      | refine W24 ?_
      | refine W27 ?_
      | refine W19 ?_
      | refine W20 ?_
      | refine W15 ?_
      | refine W7 ?_
      | refine W28 ?_
      | refine W29 ?_
      | refine W34 ?_
      | refine W35 ?_
      | refine W36 ?_
      | refine W37 ?_
      | refine W38 ?_
      | refine W39 ?_
      | refine W30 ?_
      | refine W31 ?_
      | refine W40 ?_
      | refine W41 ?_
      | refine W42 ?_
      | refine W43 ?_
      | refine W44 ?_
      | refine W45 ?_
      | refine W47 ?_
      | refine W108 ?_
      | refine W109 ?_
      | refine W8 ?_
      | refine W21 ?_
      | refine W22 ?_
      | refine W16 ?_
      | refine W9 ?_
      | refine W10 ?_
      | refine W48 ?_
      | (refine W49 (fun b => ?_))
      | (refine W50 (fun b => ?_))
      | (refine W51 (fun b => ?_))
      | refine W25 ?_)
    exact XQ.done1 (by rfl) (by rfl) ⟨_, fun hb => ⟨fun _ => ⟨by omega, fun G hG => by rw [hF2] at hG; cases hG; simpa using hb⟩, fun h => by omega, fun h => by omega⟩, rfl, rfl, rfl⟩ (by (repeat' (first | exact Sels.nil | exact Sel.here | apply Sels.cons | apply Sel.there)); done) (by (repeat (first | exact sub0 | refine subC (by repeat (first | exact List.Mem.head _ | apply List.Mem.tail)) ?_)); done)
end Go.Proofs.YtafochlcnjeanaaGreat
