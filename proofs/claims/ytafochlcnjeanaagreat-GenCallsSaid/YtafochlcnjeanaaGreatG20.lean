/- GenCalls: walked; its row. -/
import Derived.Test.YtafochlcnjeanaaGreatG0
import Derived.Test.YtafochlcnjeanaaGreatG12
import Derived.Test.YtafochlcnjeanaaGreatG24
import Derived.Test.YtafochlcnjeanaaGreatG16
import Derived.Test.YtafochlcnjeanaaGreatG19
import Derived.Test.YtafochlcnjeanaaGreatRows
import Derived.Test.YtafochlcnjeanaaGreatX9
namespace Go.Proofs.YtafochlcnjeanaaGreat
open Go X
set_option maxRecDepth 100000
theorem kind8 {p : ProgM} {fn : Nat} {I : InsnM} {Q : ConP} (hQ : Q ∈ insnS p fn I) (h8 : Q.kind = 8) : I.op = 16 ∧ Q.args.length = I.argL.length := by
  have h1 : (insnS p fn I).countP (isK 8) = w8 I := count8
  have h2 : 0 < (insnS p fn I).countP (isK 8) := List.countP_pos_iff.2 ⟨Q, hQ, by simp [isK, h8]⟩
  have h16 : I.op = 16 := by
    unfold w8 at h1
    split at h1
    · assumption
    · omega
  refine ⟨h16, ?_⟩
  simp [insnS, h16] at hQ
  rw [hQ]
  simp
theorem w8_le (I : InsnM) : w8 I ≤ 1 := by unfold w8; split <;> omega
theorem w1_le (I : InsnM) : w1 I ≤ 1 := by unfold w1; split <;> omega
/-- How many of a kind are among the first. -/
def cnt (l : List ConP) (k : Int) (i : Nat) : Nat := (l.take i).countP (isK k)
theorem cnt_succ {l : List ConP} {k : Int} {i : Nat} {P : ConP} (h : l[i]? = some P) : cnt l k (i + 1) = cnt l k i + (if P.kind = k then 1 else 0) := by
  unfold cnt
  rw [List.take_add_one, h, List.countP_append]
  simp [isK, List.countP_cons]
theorem cnt_le (l : List ConP) (k : Int) (i : Nat) : cnt l k i ≤ l.length := Nat.le_trans (List.countP_le_length) (by simp; omega)
/-- How many of a kind are left. -/
def sv (l : List ConP) (k : Int) (i : Nat) : Int := (l.countP (isK k) : Int) - (cnt l k i : Int)
theorem sv_zero (l : List ConP) (k : Int) : sv l k 0 = (l.countP (isK k) : Nat) := by simp [sv, cnt]
theorem sv_end (l : List ConP) (k : Int) : sv l k l.length = 0 := by simp [sv, cnt]
theorem sv_succ {l : List ConP} {k : Int} {i : Nat} {P : ConP} (h : l[i]? = some P) : sv l k (i + 1) = if P.kind = k then sv l k i - 1 else sv l k i := by
  unfold sv
  rw [cnt_succ h]
  split <;> omega
theorem sv_le (l : List ConP) (k : Int) (i : Nat) : -(l.length : Int) ≤ sv l k i ∧ sv l k i ≤ l.length := by
  have h1 := cnt_le l k i
  have h2 := List.countP_le_length (p := isK k) (l := l)
  unfold sv
  omega
section
attribute [local irreducible] XC XL XQ Tri blk Shows Sq Rd Mt inBlockX XS XG XG0 TkS AnS rowO
set_option maxHeartbeats 16000000 in
theorem genCalls_tri {p : ProgM} (hw : p.WF) : Tri Tryz.prog 7 [p.v] [] [progFP p] fun e L Φ => e = .returned (.bool true) ∧ L = [] ∧ Φ = [] := by
  refine Tri.of Tryz.func7 rfl fun c => ?_
  repeat' (first
    | (refine XL.is ?_; first
      | refine W1 ?_
      | (refine W2 (fun h => ?_) (fun h => ?_) <;> try (first | (exfalso; omega) | exact absurd rfl h | (exfalso; simp at h <;> omega)))
      | refine W3 ?_
      | (refine W4 ?_; first
        | refine W5 ?_
        | refine W6 ?_
        | refine W7 ?_
        | refine W8 ?_
        | refine W9 ?_
        | refine W10 ?_
        | refine W11 ?_)
      | (refine W12 ?_; first
        | refine W13 ?_
        | refine W14 ?_
        | refine W15 ?_
        | refine W16 ?_
        | refine W11 ?_)
      | (refine W17 ?_; first
        | refine W18 ?_
        | refine W19 ?_
        | refine W20 ?_
        | refine W21 ?_
        | refine W22 ?_
        | refine W11 ?_)
      | (refine W23 ?_; first
        | refine W24 ?_
        | refine W25 ?_)
      | (refine W26 ?_; first
        | refine W27 ?_
        | refine W28 ?_
        | refine W29 ?_
        | refine W30 ?_
        | refine W31 ?_)
      | refine XL.pure 1 (by rfl) ?_
      | refine W32 ?_
      | (refine W33 ?_; first
        | refine W34 ?_
        | refine W35 ?_
        | refine W36 ?_
        | refine W37 ?_
        | refine W38 ?_
        | refine W39 ?_
        | refine W40 ?_
        | refine W41 ?_
        | refine W42 ?_
        | refine W43 ?_
        | refine W44 ?_
        | refine W45 ?_
        | refine W46 ?_)
      | refine W47 ?_
      | refine W48 ?_
      | (refine W49 (fun b => ?_))
      | (refine W50 (fun b => ?_))
      | (refine W51 (fun b => ?_))
      | (refine W52 (fun b2 => ?_)))
    | (refine XC.is ?_; first
      | refine W82 ?_
      | refine W83 ?_
      | refine W84 ?_
      | refine W85 ?_
      | refine W86 ?_
      | refine W87 ?_
      | (refine W88 ?_; first
        | (refine W89 (fun h => ?_) (fun h => ?_) <;> try (first | (exfalso; omega) | exact absurd rfl h | (exfalso; simp at h <;> omega)))
        | refine W90 ?_
        | refine W91 ?_)
      | (refine W92 ?_; first
        | refine W93 ?_
        | (refine XC.planG (by kernel_rfl) (fun _ m h => h.drewn m) ?_; (conv => arg 5; reduce); refine XG0.of ?_; (conv => arg 5; reduce); (conv => arg 6; reduce); refine XG.go (by decide +kernel) ?_)))
    | (refine XQ.is ?_; first
      | refine W94 ?_
      | refine W95 ?_
      | (refine W96 ?_; refine W97 ?_)
      | refine W98 ?_
      | refine W99 ?_
      | refine W100 ?_
      | refine W101 ?_
      | refine W102 ?_
      | refine W103 ?_
      | refine W104 ?_
      | refine W105 ?_
      | refine W106 ?_
      | (refine W107 ?_; refine W108 ?_))
    | (refine XS.is ?_; first
      | (refine W53 ?_; refine W54 ?_)
      | (refine W55 ?_; first
        | refine W56 ?_
        | (refine W57 (fun h => ?_) (fun h => ?_) <;> try (first | (exfalso; omega) | exact absurd rfl h | (exfalso; simp at h <;> omega)))
        | refine W58 ?_
        | (refine W59 ?_; first
          | refine W60 ?_
          | refine W61 ?_
          | refine W62 ?_
          | refine W63 ?_
          | refine W64 ?_
          | refine W65 ?_)
        | (refine W66 ?_; first
          | refine W67 ?_
          | refine W68 ?_
          | refine W69 ?_)
        | (refine W70 ?_; first
          | refine W71 ?_
          | refine W72 ?_
          | refine W73 ?_
          | refine W74 ?_
          | refine W69 ?_)
        | (refine W75 ?_; first
          | refine W76 ?_
          | refine W69 ?_)
        | refine W69 ?_)
      | refine W77 ?_
      | (refine W78 ?_; refine W79 ?_ ?_)
      | (refine W80 ?_; refine W81 ?_ ?_ ?_)))
  refine XL.triq (shown_tri) (by rfl) (by rfl) (by rfl) (by rfl) (by rfl) (by rfl) (by rfl) (by (repeat' (first | exact Sels.nil | exact Sel.here | apply Sels.cons | apply Sel.there)); done) (by (repeat' (first | exact Sels.nil | exact Sel.here | apply Sels.cons | apply Sel.there)); done) (by (repeat (first | exact sub0 | refine subC (by repeat (first | exact List.Mem.head _ | apply List.Mem.tail)) ?_)); done) ?_
  repeat' (first
    | (refine XL.is ?_; first
      | refine W1 ?_
      | (refine W2 (fun h => ?_) (fun h => ?_) <;> try (first | (exfalso; omega) | exact absurd rfl h | (exfalso; simp at h <;> omega)))
      | refine W3 ?_
      | (refine W4 ?_; first
        | refine W5 ?_
        | refine W6 ?_
        | refine W7 ?_
        | refine W8 ?_
        | refine W9 ?_
        | refine W10 ?_
        | refine W11 ?_)
      | (refine W12 ?_; first
        | refine W13 ?_
        | refine W14 ?_
        | refine W15 ?_
        | refine W16 ?_
        | refine W11 ?_)
      | (refine W17 ?_; first
        | refine W18 ?_
        | refine W19 ?_
        | refine W20 ?_
        | refine W21 ?_
        | refine W22 ?_
        | refine W11 ?_)
      | (refine W23 ?_; first
        | refine W24 ?_
        | refine W25 ?_)
      | (refine W26 ?_; first
        | refine W27 ?_
        | refine W28 ?_
        | refine W29 ?_
        | refine W30 ?_
        | refine W31 ?_)
      | refine XL.pure 1 (by rfl) ?_
      | refine W32 ?_
      | (refine W33 ?_; first
        | refine W34 ?_
        | refine W35 ?_
        | refine W36 ?_
        | refine W37 ?_
        | refine W38 ?_
        | refine W39 ?_
        | refine W40 ?_
        | refine W41 ?_
        | refine W42 ?_
        | refine W43 ?_
        | refine W44 ?_
        | refine W45 ?_
        | refine W46 ?_)
      | refine W47 ?_
      | refine W48 ?_
      | (refine W49 (fun b => ?_))
      | (refine W50 (fun b => ?_))
      | (refine W51 (fun b => ?_))
      | (refine W52 (fun b2 => ?_)))
    | (refine XC.is ?_; first
      | refine W82 ?_
      | refine W83 ?_
      | refine W84 ?_
      | refine W85 ?_
      | refine W86 ?_
      | refine W87 ?_
      | (refine W88 ?_; first
        | (refine W89 (fun h => ?_) (fun h => ?_) <;> try (first | (exfalso; omega) | exact absurd rfl h | (exfalso; simp at h <;> omega)))
        | refine W90 ?_
        | refine W91 ?_)
      | (refine W92 ?_; first
        | refine W93 ?_
        | (refine XC.planG (by kernel_rfl) (fun _ m h => h.drewn m) ?_; (conv => arg 5; reduce); refine XG0.of ?_; (conv => arg 5; reduce); (conv => arg 6; reduce); refine XG.go (by decide +kernel) ?_)))
    | (refine XQ.is ?_; first
      | refine W94 ?_
      | refine W95 ?_
      | (refine W96 ?_; refine W97 ?_)
      | refine W98 ?_
      | refine W99 ?_
      | refine W100 ?_
      | refine W101 ?_
      | refine W102 ?_
      | refine W103 ?_
      | refine W104 ?_
      | refine W105 ?_
      | refine W106 ?_
      | (refine W107 ?_; refine W108 ?_))
    | (refine XS.is ?_; first
      | (refine W53 ?_; refine W54 ?_)
      | (refine W55 ?_; first
        | refine W56 ?_
        | (refine W57 (fun h => ?_) (fun h => ?_) <;> try (first | (exfalso; omega) | exact absurd rfl h | (exfalso; simp at h <;> omega)))
        | refine W58 ?_
        | (refine W59 ?_; first
          | refine W60 ?_
          | refine W61 ?_
          | refine W62 ?_
          | refine W63 ?_
          | refine W64 ?_
          | refine W65 ?_)
        | (refine W66 ?_; first
          | refine W67 ?_
          | refine W68 ?_
          | refine W69 ?_)
        | (refine W70 ?_; first
          | refine W71 ?_
          | refine W72 ?_
          | refine W73 ?_
          | refine W74 ?_
          | refine W69 ?_)
        | (refine W75 ?_; first
          | refine W76 ?_
          | refine W69 ?_)
        | refine W69 ?_)
      | refine W77 ?_
      | (refine W78 ?_; refine W79 ?_ ?_)
      | (refine W80 ?_; refine W81 ?_ ?_ ?_)))
  refine XL.trir (may_tri hw) (by rfl) (by rfl) (by rfl) (by rfl) (by rfl) (by rfl) (by rfl) (by (repeat' (first | exact Sels.nil | exact Sel.here | apply Sels.cons | apply Sel.there)); done) (by (repeat (first | exact sub0 | refine subC (by repeat (first | exact List.Mem.head _ | apply List.Mem.tail)) ?_)); done) ?_
  rintro b1 hb
  conv => arg 9; dsimp only [List.cons_append, List.nil_append]
  try conv => arg 7; dsimp only
  cases b1
  · refine XL.pure 1 (by rfl) ?_
    repeat' (first
      | (refine XL.is ?_; first
        | refine W1 ?_
        | (refine W2 (fun h => ?_) (fun h => ?_) <;> try (first | (exfalso; omega) | exact absurd rfl h | (exfalso; simp at h <;> omega)))
        | refine W3 ?_
        | (refine W4 ?_; first
          | refine W5 ?_
          | refine W6 ?_
          | refine W7 ?_
          | refine W8 ?_
          | refine W9 ?_
          | refine W10 ?_
          | refine W11 ?_)
        | (refine W12 ?_; first
          | refine W13 ?_
          | refine W14 ?_
          | refine W15 ?_
          | refine W16 ?_
          | refine W11 ?_)
        | (refine W17 ?_; first
          | refine W18 ?_
          | refine W19 ?_
          | refine W20 ?_
          | refine W21 ?_
          | refine W22 ?_
          | refine W11 ?_)
        | (refine W23 ?_; first
          | refine W24 ?_
          | refine W25 ?_)
        | (refine W26 ?_; first
          | refine W27 ?_
          | refine W28 ?_
          | refine W29 ?_
          | refine W30 ?_
          | refine W31 ?_)
        | refine XL.pure 1 (by rfl) ?_
        | refine W32 ?_
        | (refine W33 ?_; first
          | refine W34 ?_
          | refine W35 ?_
          | refine W36 ?_
          | refine W37 ?_
          | refine W38 ?_
          | refine W39 ?_
          | refine W40 ?_
          | refine W41 ?_
          | refine W42 ?_
          | refine W43 ?_
          | refine W44 ?_
          | refine W45 ?_
          | refine W46 ?_)
        | refine W47 ?_
        | refine W48 ?_
        | (refine W49 (fun b => ?_))
        | (refine W50 (fun b => ?_))
        | (refine W51 (fun b => ?_))
        | (refine W52 (fun b2 => ?_)))
      | (refine XC.is ?_; first
        | refine W82 ?_
        | refine W83 ?_
        | refine W84 ?_
        | refine W85 ?_
        | refine W86 ?_
        | refine W87 ?_
        | (refine W88 ?_; first
          | (refine W89 (fun h => ?_) (fun h => ?_) <;> try (first | (exfalso; omega) | exact absurd rfl h | (exfalso; simp at h <;> omega)))
          | refine W90 ?_
          | refine W91 ?_)
        | (refine W92 ?_; first
          | refine W93 ?_
          | (refine XC.planG (by kernel_rfl) (fun _ m h => h.drewn m) ?_; (conv => arg 5; reduce); refine XG0.of ?_; (conv => arg 5; reduce); (conv => arg 6; reduce); refine XG.go (by decide +kernel) ?_)))
      | (refine XQ.is ?_; first
        | refine W94 ?_
        | refine W95 ?_
        | (refine W96 ?_; refine W97 ?_)
        | refine W98 ?_
        | refine W99 ?_
        | refine W100 ?_
        | refine W101 ?_
        | refine W102 ?_
        | refine W103 ?_
        | refine W104 ?_
        | refine W105 ?_
        | refine W106 ?_
        | (refine W107 ?_; refine W108 ?_))
      | (refine XS.is ?_; first
        | (refine W53 ?_; refine W54 ?_)
        | (refine W55 ?_; first
          | refine W56 ?_
          | (refine W57 (fun h => ?_) (fun h => ?_) <;> try (first | (exfalso; omega) | exact absurd rfl h | (exfalso; simp at h <;> omega)))
          | refine W58 ?_
          | (refine W59 ?_; first
            | refine W60 ?_
            | refine W61 ?_
            | refine W62 ?_
            | refine W63 ?_
            | refine W64 ?_
            | refine W65 ?_)
          | (refine W66 ?_; first
            | refine W67 ?_
            | refine W68 ?_
            | refine W69 ?_)
          | (refine W70 ?_; first
            | refine W71 ?_
            | refine W72 ?_
            | refine W73 ?_
            | refine W74 ?_
            | refine W69 ?_)
          | (refine W75 ?_; first
            | refine W76 ?_
            | refine W69 ?_)
          | refine W69 ?_)
        | refine W77 ?_
        | (refine W78 ?_; refine W79 ?_ ?_)
        | (refine W80 ?_; refine W81 ?_ ?_ ?_)))
    refine XQ.done1 (by rfl) (by rfl) (⟨rfl, rfl, rfl⟩) (by (repeat' (first | exact Sels.nil | exact Sel.here | apply Sels.cons | apply Sel.there)); done) (by (repeat (first | exact sub0 | refine subC (by repeat (first | exact List.Mem.head _ | apply List.Mem.tail)) ?_)); done)
  have hp := hb rfl
  have h200 := hp.few
  refine XL.pure 1 (by rfl) ?_
  repeat' (first
    | (refine XL.is ?_; first
      | refine W1 ?_
      | (refine W2 (fun h => ?_) (fun h => ?_) <;> try (first | (exfalso; omega) | exact absurd rfl h | (exfalso; simp at h <;> omega)))
      | refine W3 ?_
      | (refine W4 ?_; first
        | refine W5 ?_
        | refine W6 ?_
        | refine W7 ?_
        | refine W8 ?_
        | refine W9 ?_
        | refine W10 ?_
        | refine W11 ?_)
      | (refine W12 ?_; first
        | refine W13 ?_
        | refine W14 ?_
        | refine W15 ?_
        | refine W16 ?_
        | refine W11 ?_)
      | (refine W17 ?_; first
        | refine W18 ?_
        | refine W19 ?_
        | refine W20 ?_
        | refine W21 ?_
        | refine W22 ?_
        | refine W11 ?_)
      | (refine W23 ?_; first
        | refine W24 ?_
        | refine W25 ?_)
      | (refine W26 ?_; first
        | refine W27 ?_
        | refine W28 ?_
        | refine W29 ?_
        | refine W30 ?_
        | refine W31 ?_)
      | refine XL.pure 1 (by rfl) ?_
      | refine W32 ?_
      | (refine W33 ?_; first
        | refine W34 ?_
        | refine W35 ?_
        | refine W36 ?_
        | refine W37 ?_
        | refine W38 ?_
        | refine W39 ?_
        | refine W40 ?_
        | refine W41 ?_
        | refine W42 ?_
        | refine W43 ?_
        | refine W44 ?_
        | refine W45 ?_
        | refine W46 ?_)
      | refine W47 ?_
      | refine W48 ?_
      | (refine W49 (fun b => ?_))
      | (refine W50 (fun b => ?_))
      | (refine W51 (fun b => ?_))
      | (refine W52 (fun b2 => ?_)))
    | (refine XC.is ?_; first
      | refine W82 ?_
      | refine W83 ?_
      | refine W84 ?_
      | refine W85 ?_
      | refine W86 ?_
      | refine W87 ?_
      | (refine W88 ?_; first
        | (refine W89 (fun h => ?_) (fun h => ?_) <;> try (first | (exfalso; omega) | exact absurd rfl h | (exfalso; simp at h <;> omega)))
        | refine W90 ?_
        | refine W91 ?_)
      | (refine W92 ?_; first
        | refine W93 ?_
        | (refine XC.planG (by kernel_rfl) (fun _ m h => h.drewn m) ?_; (conv => arg 5; reduce); refine XG0.of ?_; (conv => arg 5; reduce); (conv => arg 6; reduce); refine XG.go (by decide +kernel) ?_)))
    | (refine XQ.is ?_; first
      | refine W94 ?_
      | refine W95 ?_
      | (refine W96 ?_; refine W97 ?_)
      | refine W98 ?_
      | refine W99 ?_
      | refine W100 ?_
      | refine W101 ?_
      | refine W102 ?_
      | refine W103 ?_
      | refine W104 ?_
      | refine W105 ?_
      | refine W106 ?_
      | (refine W107 ?_; refine W108 ?_))
    | (refine XS.is ?_; first
      | (refine W53 ?_; refine W54 ?_)
      | (refine W55 ?_; first
        | refine W56 ?_
        | (refine W57 (fun h => ?_) (fun h => ?_) <;> try (first | (exfalso; omega) | exact absurd rfl h | (exfalso; simp at h <;> omega)))
        | refine W58 ?_
        | (refine W59 ?_; first
          | refine W60 ?_
          | refine W61 ?_
          | refine W62 ?_
          | refine W63 ?_
          | refine W64 ?_
          | refine W65 ?_)
        | (refine W66 ?_; first
          | refine W67 ?_
          | refine W68 ?_
          | refine W69 ?_)
        | (refine W70 ?_; first
          | refine W71 ?_
          | refine W72 ?_
          | refine W73 ?_
          | refine W74 ?_
          | refine W69 ?_)
        | (refine W75 ?_; first
          | refine W76 ?_
          | refine W69 ?_)
        | refine W69 ?_)
      | refine W77 ?_
      | (refine W78 ?_; refine W79 ?_ ?_)
      | (refine W80 ?_; refine W81 ?_ ?_ ?_)))
  refine XL.trir (gen14_tri hp hw) (by rfl) (by rfl) (by rfl) (by rfl) (by rfl) (by rfl) (by rfl) (by (repeat' (first | exact Sels.nil | exact Sel.here | apply Sels.cons | apply Sel.there)); done) (by (repeat (first | exact sub0 | refine subC (by repeat (first | exact List.Mem.head _ | apply List.Mem.tail)) ?_)); done) ?_
  rintro ⟨v1, l1⟩ h1
  dsimp only at h1
  conv => arg 9; dsimp only [List.cons_append, List.nil_append]
  try conv => arg 7; dsimp only
  repeat' (first
    | (refine XL.is ?_; first
      | refine W1 ?_
      | (refine W2 (fun h => ?_) (fun h => ?_) <;> try (first | (exfalso; omega) | exact absurd rfl h | (exfalso; simp at h <;> omega)))
      | refine W3 ?_
      | (refine W4 ?_; first
        | refine W5 ?_
        | refine W6 ?_
        | refine W7 ?_
        | refine W8 ?_
        | refine W9 ?_
        | refine W10 ?_
        | refine W11 ?_)
      | (refine W12 ?_; first
        | refine W13 ?_
        | refine W14 ?_
        | refine W15 ?_
        | refine W16 ?_
        | refine W11 ?_)
      | (refine W17 ?_; first
        | refine W18 ?_
        | refine W19 ?_
        | refine W20 ?_
        | refine W21 ?_
        | refine W22 ?_
        | refine W11 ?_)
      | (refine W23 ?_; first
        | refine W24 ?_
        | refine W25 ?_)
      | (refine W26 ?_; first
        | refine W27 ?_
        | refine W28 ?_
        | refine W29 ?_
        | refine W30 ?_
        | refine W31 ?_)
      | refine XL.pure 1 (by rfl) ?_
      | refine W32 ?_
      | (refine W33 ?_; first
        | refine W34 ?_
        | refine W35 ?_
        | refine W36 ?_
        | refine W37 ?_
        | refine W38 ?_
        | refine W39 ?_
        | refine W40 ?_
        | refine W41 ?_
        | refine W42 ?_
        | refine W43 ?_
        | refine W44 ?_
        | refine W45 ?_
        | refine W46 ?_)
      | refine W47 ?_
      | refine W48 ?_
      | (refine W49 (fun b => ?_))
      | (refine W50 (fun b => ?_))
      | (refine W51 (fun b => ?_))
      | (refine W52 (fun b2 => ?_)))
    | (refine XC.is ?_; first
      | refine W82 ?_
      | refine W83 ?_
      | refine W84 ?_
      | refine W85 ?_
      | refine W86 ?_
      | refine W87 ?_
      | (refine W88 ?_; first
        | (refine W89 (fun h => ?_) (fun h => ?_) <;> try (first | (exfalso; omega) | exact absurd rfl h | (exfalso; simp at h <;> omega)))
        | refine W90 ?_
        | refine W91 ?_)
      | (refine W92 ?_; first
        | refine W93 ?_
        | (refine XC.planG (by kernel_rfl) (fun _ m h => h.drewn m) ?_; (conv => arg 5; reduce); refine XG0.of ?_; (conv => arg 5; reduce); (conv => arg 6; reduce); refine XG.go (by decide +kernel) ?_)))
    | (refine XQ.is ?_; first
      | refine W94 ?_
      | refine W95 ?_
      | (refine W96 ?_; refine W97 ?_)
      | refine W98 ?_
      | refine W99 ?_
      | refine W100 ?_
      | refine W101 ?_
      | refine W102 ?_
      | refine W103 ?_
      | refine W104 ?_
      | refine W105 ?_
      | refine W106 ?_
      | (refine W107 ?_; refine W108 ?_))
    | (refine XS.is ?_; first
      | (refine W53 ?_; refine W54 ?_)
      | (refine W55 ?_; first
        | refine W56 ?_
        | (refine W57 (fun h => ?_) (fun h => ?_) <;> try (first | (exfalso; omega) | exact absurd rfl h | (exfalso; simp at h <;> omega)))
        | refine W58 ?_
        | (refine W59 ?_; first
          | refine W60 ?_
          | refine W61 ?_
          | refine W62 ?_
          | refine W63 ?_
          | refine W64 ?_
          | refine W65 ?_)
        | (refine W66 ?_; first
          | refine W67 ?_
          | refine W68 ?_
          | refine W69 ?_)
        | (refine W70 ?_; first
          | refine W71 ?_
          | refine W72 ?_
          | refine W73 ?_
          | refine W74 ?_
          | refine W69 ?_)
        | (refine W75 ?_; first
          | refine W76 ?_
          | refine W69 ?_)
        | refine W69 ?_)
      | refine W77 ?_
      | (refine W78 ?_; refine W79 ?_ ?_)
      | (refine W80 ?_; refine W81 ?_ ?_ ?_)))
  have hbig : l1.length ≤ 10000000000 := by have := genS_len hp; rw [← h1, List.length_map] at this; exact this
  have c8 : (genS p).countP (isK 8) = wsum (fsum w8) p.fnL p.fnL.length := count_genS fun F hF I hI fn => count8
  have c1 : (genS p).countP (isK 1) = wsum (fsum w1) p.fnL p.fnL.length := count_genS fun F hF I hI fn => count1
  have f8 := wsum_le (fsum_le hp (w := w8) (m := 1) fun F hF I hI => w8_le I)
  have f1 := wsum_le (fsum_le hp (w := w1) (m := 1) fun F hF I hI => w1_le I)
  obtain ⟨bp, rfl⟩ : ∃ x, x = b := ⟨b, rfl⟩
  refine XC.loop (fun i : Nat => [(1, .pointer (some ⟨bp, 0, none⟩)), (3, .bool true), (4, v1), (5, .int .i64 (wsum (fsum w8) p.fnL i : Nat)), (6, .int .i64 (wsum (fsum w1) p.fnL i : Nat)), (7, .int .i64 (i : Int))])
    (fun i w => i ≤ p.fnL.length ∧ St c [cel bp #[p.sites, p.fns, .int .i64 p.main] 25] [consFP v1 l1, progFP p] w) (fun i => p.fnL.length - i) 0 (by rw [wsum_zero, wsum_zero]; exact (by (repeat (first | exact fits_nil | refine fits_cons (by rfl) ?_)); done)) (fun w h => ⟨by omega, h.less (by (repeat' (first | exact Sels.nil | exact Sel.here | apply Sels.cons | apply Sel.there)); done) (by (repeat (first | exact sub0 | refine subC (by repeat (first | exact List.Mem.head _ | apply List.Mem.tail)) ?_)); done)⟩) ?_
  intro i
  refine XC.pure (fun hi => ?_)
  by_cases hlt : i < p.fnL.length
  · obtain ⟨F, hF, mF⟩ := get_of_lt hlt
    have aF := fn_at hF
    have hcl := hp.code F mF
    have g8 := f8 i hi
    have g1 := f1 i hi
    have q8 := wsum_le (w := w8) (l := F.codeL) (m := 1) fun I hI => w8_le I
    have q1 := wsum_le (w := w1) (l := F.codeL) (m := 1) fun I hI => w1_le I
    repeat' (first
      | (refine XL.is ?_; first
        | refine W1 ?_
        | (refine W2 (fun h => ?_) (fun h => ?_) <;> try (first | (exfalso; omega) | exact absurd rfl h | (exfalso; simp at h <;> omega)))
        | refine W3 ?_
        | (refine W4 ?_; first
          | refine W5 ?_
          | refine W6 ?_
          | refine W7 ?_
          | refine W8 ?_
          | refine W9 ?_
          | refine W10 ?_
          | refine W11 ?_)
        | (refine W12 ?_; first
          | refine W13 ?_
          | refine W14 ?_
          | refine W15 ?_
          | refine W16 ?_
          | refine W11 ?_)
        | (refine W17 ?_; first
          | refine W18 ?_
          | refine W19 ?_
          | refine W20 ?_
          | refine W21 ?_
          | refine W22 ?_
          | refine W11 ?_)
        | (refine W23 ?_; first
          | refine W24 ?_
          | refine W25 ?_)
        | (refine W26 ?_; first
          | refine W27 ?_
          | refine W28 ?_
          | refine W29 ?_
          | refine W30 ?_
          | refine W31 ?_)
        | refine XL.pure 1 (by rfl) ?_
        | refine W32 ?_
        | (refine W33 ?_; first
          | refine W34 ?_
          | refine W35 ?_
          | refine W36 ?_
          | refine W37 ?_
          | refine W38 ?_
          | refine W39 ?_
          | refine W40 ?_
          | refine W41 ?_
          | refine W42 ?_
          | refine W43 ?_
          | refine W44 ?_
          | refine W45 ?_
          | refine W46 ?_)
        | refine W47 ?_
        | refine W48 ?_
        | (refine W49 (fun b => ?_))
        | (refine W50 (fun b => ?_))
        | (refine W51 (fun b => ?_))
        | (refine W52 (fun b2 => ?_)))
      | (refine XC.is ?_; first
        | refine W82 ?_
        | refine W83 ?_
        | refine W84 ?_
        | refine W85 ?_
        | refine W86 ?_
        | refine W87 ?_
        | (refine W88 ?_; first
          | (refine W89 (fun h => ?_) (fun h => ?_) <;> try (first | (exfalso; omega) | exact absurd rfl h | (exfalso; simp at h <;> omega)))
          | refine W90 ?_
          | refine W91 ?_)
        | (refine W92 ?_; first
          | refine W93 ?_
          | (refine XC.planG (by kernel_rfl) (fun _ m h => h.drewn m) ?_; (conv => arg 5; reduce); refine XG0.of ?_; (conv => arg 5; reduce); (conv => arg 6; reduce); refine XG.go (by decide +kernel) ?_)))
      | (refine XQ.is ?_; first
        | refine W94 ?_
        | refine W95 ?_
        | (refine W96 ?_; refine W97 ?_)
        | refine W98 ?_
        | refine W99 ?_
        | refine W100 ?_
        | refine W101 ?_
        | refine W102 ?_
        | refine W103 ?_
        | refine W104 ?_
        | refine W105 ?_
        | refine W106 ?_
        | (refine W107 ?_; refine W108 ?_))
      | (refine XS.is ?_; first
        | (refine W53 ?_; refine W54 ?_)
        | (refine W55 ?_; first
          | refine W56 ?_
          | (refine W57 (fun h => ?_) (fun h => ?_) <;> try (first | (exfalso; omega) | exact absurd rfl h | (exfalso; simp at h <;> omega)))
          | refine W58 ?_
          | (refine W59 ?_; first
            | refine W60 ?_
            | refine W61 ?_
            | refine W62 ?_
            | refine W63 ?_
            | refine W64 ?_
            | refine W65 ?_)
          | (refine W66 ?_; first
            | refine W67 ?_
            | refine W68 ?_
            | refine W69 ?_)
          | (refine W70 ?_; first
            | refine W71 ?_
            | refine W72 ?_
            | refine W73 ?_
            | refine W74 ?_
            | refine W69 ?_)
          | (refine W75 ?_; first
            | refine W76 ?_
            | refine W69 ?_)
          | refine W69 ?_)
        | refine W77 ?_
        | (refine W78 ?_; refine W79 ?_ ?_)
        | (refine W80 ?_; refine W81 ?_ ?_ ?_)))
    refine XC.loop (fun j : Nat => [(1, .pointer (some ⟨bp, 0, none⟩)), (3, .bool true), (4, v1), (5, .int .i64 (wsum (fsum w8) p.fnL i + wsum w8 F.codeL j : Nat)), (6, .int .i64 (wsum (fsum w1) p.fnL i + wsum w1 F.codeL j : Nat)), (7, .int .i64 (i : Int)), (8, .int .i64 (j : Int))])
      (fun j w => j ≤ F.codeL.length ∧ St c [cel bp #[p.sites, p.fns, .int .i64 p.main] 25] [consFP v1 l1, progFP p] w) (fun j => F.codeL.length - j) 0 (by rw [wsum_zero, wsum_zero]; exact (by (repeat (first | exact fits_nil | refine fits_cons (by rfl) ?_)); done)) (fun w h => ⟨by omega, h⟩) ?_
    intro j
    refine XC.pure (fun hj => ?_)
    have r8 := q8 j hj
    have r1 := q1 j hj
    by_cases hlt2 : j < F.codeL.length
    · obtain ⟨I, hI, mI⟩ := get_of_lt hlt2
      have aI := code_at hI
      have o2 := hw.oneI F mF I mI
      by_cases h16 : I.op = 16
      · have e8 : w8 I = 1 := by simp [w8, h16]
        have e1 : w1 I = 0 := by simp [w1, h16]
        repeat' (first
          | (refine XL.is ?_; first
            | refine W1 ?_
            | (refine W2 (fun h => ?_) (fun h => ?_) <;> try (first | (exfalso; omega) | exact absurd rfl h | (exfalso; simp at h <;> omega)))
            | refine W3 ?_
            | (refine W4 ?_; first
              | refine W5 ?_
              | refine W6 ?_
              | refine W7 ?_
              | refine W8 ?_
              | refine W9 ?_
              | refine W10 ?_
              | refine W11 ?_)
            | (refine W12 ?_; first
              | refine W13 ?_
              | refine W14 ?_
              | refine W15 ?_
              | refine W16 ?_
              | refine W11 ?_)
            | (refine W17 ?_; first
              | refine W18 ?_
              | refine W19 ?_
              | refine W20 ?_
              | refine W21 ?_
              | refine W22 ?_
              | refine W11 ?_)
            | (refine W23 ?_; first
              | refine W24 ?_
              | refine W25 ?_)
            | (refine W26 ?_; first
              | refine W27 ?_
              | refine W28 ?_
              | refine W29 ?_
              | refine W30 ?_
              | refine W31 ?_)
            | refine XL.pure 1 (by rfl) ?_
            | refine W32 ?_
            | (refine W33 ?_; first
              | refine W34 ?_
              | refine W35 ?_
              | refine W36 ?_
              | refine W37 ?_
              | refine W38 ?_
              | refine W39 ?_
              | refine W40 ?_
              | refine W41 ?_
              | refine W42 ?_
              | refine W43 ?_
              | refine W44 ?_
              | refine W45 ?_
              | refine W46 ?_)
            | refine W47 ?_
            | refine W48 ?_
            | (refine W49 (fun b => ?_))
            | (refine W50 (fun b => ?_))
            | (refine W51 (fun b => ?_))
            | (refine W52 (fun b2 => ?_)))
          | (refine XC.is ?_; first
            | refine W82 ?_
            | refine W83 ?_
            | refine W84 ?_
            | refine W85 ?_
            | refine W86 ?_
            | refine W87 ?_
            | (refine W88 ?_; first
              | (refine W89 (fun h => ?_) (fun h => ?_) <;> try (first | (exfalso; omega) | exact absurd rfl h | (exfalso; simp at h <;> omega)))
              | refine W90 ?_
              | refine W91 ?_)
            | (refine W92 ?_; first
              | refine W93 ?_
              | (refine XC.planG (by kernel_rfl) (fun _ m h => h.drewn m) ?_; (conv => arg 5; reduce); refine XG0.of ?_; (conv => arg 5; reduce); (conv => arg 6; reduce); refine XG.go (by decide +kernel) ?_)))
          | (refine XQ.is ?_; first
            | refine W94 ?_
            | refine W95 ?_
            | (refine W96 ?_; refine W97 ?_)
            | refine W98 ?_
            | refine W99 ?_
            | refine W100 ?_
            | refine W101 ?_
            | refine W102 ?_
            | refine W103 ?_
            | refine W104 ?_
            | refine W105 ?_
            | refine W106 ?_
            | (refine W107 ?_; refine W108 ?_))
          | (refine XS.is ?_; first
            | (refine W53 ?_; refine W54 ?_)
            | (refine W55 ?_; first
              | refine W56 ?_
              | (refine W57 (fun h => ?_) (fun h => ?_) <;> try (first | (exfalso; omega) | exact absurd rfl h | (exfalso; simp at h <;> omega)))
              | refine W58 ?_
              | (refine W59 ?_; first
                | refine W60 ?_
                | refine W61 ?_
                | refine W62 ?_
                | refine W63 ?_
                | refine W64 ?_
                | refine W65 ?_)
              | (refine W66 ?_; first
                | refine W67 ?_
                | refine W68 ?_
                | refine W69 ?_)
              | (refine W70 ?_; first
                | refine W71 ?_
                | refine W72 ?_
                | refine W73 ?_
                | refine W74 ?_
                | refine W69 ?_)
              | (refine W75 ?_; first
                | refine W76 ?_
                | refine W69 ?_)
              | refine W69 ?_)
            | refine W77 ?_
            | (refine W78 ?_; refine W79 ?_ ?_)
            | (refine W80 ?_; refine W81 ?_ ?_ ?_)))
        refine XQ.round (j + 1) ?_ (fun w hw => ⟨by omega, hw.less (by (repeat' (first | exact Sels.nil | exact Sel.here | apply Sels.cons | apply Sel.there)); done) (by (repeat (first | exact sub0 | refine subC (by repeat (first | exact List.Mem.head _ | apply List.Mem.tail)) ?_)); done)⟩) (by omega)
        rw [wsum_succ hI, wsum_succ hI, e8, e1]
        exact (by (repeat (first | exact fits_nil | refine fits_cons (by rfl) ?_)); done)
      · have e8 : w8 I = 0 := by simp [w8, h16]
        by_cases h2 : I.op = 2
        · have e1 : w1 I = 1 := by simp [w1, h2]
          repeat' (first
            | (refine XL.is ?_; first
              | refine W1 ?_
              | (refine W2 (fun h => ?_) (fun h => ?_) <;> try (first | (exfalso; omega) | exact absurd rfl h | (exfalso; simp at h <;> omega)))
              | refine W3 ?_
              | (refine W4 ?_; first
                | refine W5 ?_
                | refine W6 ?_
                | refine W7 ?_
                | refine W8 ?_
                | refine W9 ?_
                | refine W10 ?_
                | refine W11 ?_)
              | (refine W12 ?_; first
                | refine W13 ?_
                | refine W14 ?_
                | refine W15 ?_
                | refine W16 ?_
                | refine W11 ?_)
              | (refine W17 ?_; first
                | refine W18 ?_
                | refine W19 ?_
                | refine W20 ?_
                | refine W21 ?_
                | refine W22 ?_
                | refine W11 ?_)
              | (refine W23 ?_; first
                | refine W24 ?_
                | refine W25 ?_)
              | (refine W26 ?_; first
                | refine W27 ?_
                | refine W28 ?_
                | refine W29 ?_
                | refine W30 ?_
                | refine W31 ?_)
              | refine XL.pure 1 (by rfl) ?_
              | refine W32 ?_
              | (refine W33 ?_; first
                | refine W34 ?_
                | refine W35 ?_
                | refine W36 ?_
                | refine W37 ?_
                | refine W38 ?_
                | refine W39 ?_
                | refine W40 ?_
                | refine W41 ?_
                | refine W42 ?_
                | refine W43 ?_
                | refine W44 ?_
                | refine W45 ?_
                | refine W46 ?_)
              | refine W47 ?_
              | refine W48 ?_
              | (refine W49 (fun b => ?_))
              | (refine W50 (fun b => ?_))
              | (refine W51 (fun b => ?_))
              | (refine W52 (fun b2 => ?_)))
            | (refine XC.is ?_; first
              | refine W82 ?_
              | refine W83 ?_
              | refine W84 ?_
              | refine W85 ?_
              | refine W86 ?_
              | refine W87 ?_
              | (refine W88 ?_; first
                | (refine W89 (fun h => ?_) (fun h => ?_) <;> try (first | (exfalso; omega) | exact absurd rfl h | (exfalso; simp at h <;> omega)))
                | refine W90 ?_
                | refine W91 ?_)
              | (refine W92 ?_; first
                | refine W93 ?_
                | (refine XC.planG (by kernel_rfl) (fun _ m h => h.drewn m) ?_; (conv => arg 5; reduce); refine XG0.of ?_; (conv => arg 5; reduce); (conv => arg 6; reduce); refine XG.go (by decide +kernel) ?_)))
            | (refine XQ.is ?_; first
              | refine W94 ?_
              | refine W95 ?_
              | (refine W96 ?_; refine W97 ?_)
              | refine W98 ?_
              | refine W99 ?_
              | refine W100 ?_
              | refine W101 ?_
              | refine W102 ?_
              | refine W103 ?_
              | refine W104 ?_
              | refine W105 ?_
              | refine W106 ?_
              | (refine W107 ?_; refine W108 ?_))
            | (refine XS.is ?_; first
              | (refine W53 ?_; refine W54 ?_)
              | (refine W55 ?_; first
                | refine W56 ?_
                | (refine W57 (fun h => ?_) (fun h => ?_) <;> try (first | (exfalso; omega) | exact absurd rfl h | (exfalso; simp at h <;> omega)))
                | refine W58 ?_
                | (refine W59 ?_; first
                  | refine W60 ?_
                  | refine W61 ?_
                  | refine W62 ?_
                  | refine W63 ?_
                  | refine W64 ?_
                  | refine W65 ?_)
                | (refine W66 ?_; first
                  | refine W67 ?_
                  | refine W68 ?_
                  | refine W69 ?_)
                | (refine W70 ?_; first
                  | refine W71 ?_
                  | refine W72 ?_
                  | refine W73 ?_
                  | refine W74 ?_
                  | refine W69 ?_)
                | (refine W75 ?_; first
                  | refine W76 ?_
                  | refine W69 ?_)
                | refine W69 ?_)
              | refine W77 ?_
              | (refine W78 ?_; refine W79 ?_ ?_)
              | (refine W80 ?_; refine W81 ?_ ?_ ?_)))
          refine XQ.round (j + 1) ?_ (fun w hw => ⟨by omega, hw.less (by (repeat' (first | exact Sels.nil | exact Sel.here | apply Sels.cons | apply Sel.there)); done) (by (repeat (first | exact sub0 | refine subC (by repeat (first | exact List.Mem.head _ | apply List.Mem.tail)) ?_)); done)⟩) (by omega)
          rw [wsum_succ hI, wsum_succ hI, e8, e1]
          exact (by (repeat (first | exact fits_nil | refine fits_cons (by rfl) ?_)); done)
        · by_cases h13 : I.op = 13
          · have e1 : w1 I = 1 := by simp [w1, h13]
            repeat' (first
              | (refine XL.is ?_; first
                | refine W1 ?_
                | (refine W2 (fun h => ?_) (fun h => ?_) <;> try (first | (exfalso; omega) | exact absurd rfl h | (exfalso; simp at h <;> omega)))
                | refine W3 ?_
                | (refine W4 ?_; first
                  | refine W5 ?_
                  | refine W6 ?_
                  | refine W7 ?_
                  | refine W8 ?_
                  | refine W9 ?_
                  | refine W10 ?_
                  | refine W11 ?_)
                | (refine W12 ?_; first
                  | refine W13 ?_
                  | refine W14 ?_
                  | refine W15 ?_
                  | refine W16 ?_
                  | refine W11 ?_)
                | (refine W17 ?_; first
                  | refine W18 ?_
                  | refine W19 ?_
                  | refine W20 ?_
                  | refine W21 ?_
                  | refine W22 ?_
                  | refine W11 ?_)
                | (refine W23 ?_; first
                  | refine W24 ?_
                  | refine W25 ?_)
                | (refine W26 ?_; first
                  | refine W27 ?_
                  | refine W28 ?_
                  | refine W29 ?_
                  | refine W30 ?_
                  | refine W31 ?_)
                | refine XL.pure 1 (by rfl) ?_
                | refine W32 ?_
                | (refine W33 ?_; first
                  | refine W34 ?_
                  | refine W35 ?_
                  | refine W36 ?_
                  | refine W37 ?_
                  | refine W38 ?_
                  | refine W39 ?_
                  | refine W40 ?_
                  | refine W41 ?_
                  | refine W42 ?_
                  | refine W43 ?_
                  | refine W44 ?_
                  | refine W45 ?_
                  | refine W46 ?_)
                | refine W47 ?_
                | refine W48 ?_
                | (refine W49 (fun b => ?_))
                | (refine W50 (fun b => ?_))
                | (refine W51 (fun b => ?_))
                | (refine W52 (fun b2 => ?_)))
              | (refine XC.is ?_; first
                | refine W82 ?_
                | refine W83 ?_
                | refine W84 ?_
                | refine W85 ?_
                | refine W86 ?_
                | refine W87 ?_
                | (refine W88 ?_; first
                  | (refine W89 (fun h => ?_) (fun h => ?_) <;> try (first | (exfalso; omega) | exact absurd rfl h | (exfalso; simp at h <;> omega)))
                  | refine W90 ?_
                  | refine W91 ?_)
                | (refine W92 ?_; first
                  | refine W93 ?_
                  | (refine XC.planG (by kernel_rfl) (fun _ m h => h.drewn m) ?_; (conv => arg 5; reduce); refine XG0.of ?_; (conv => arg 5; reduce); (conv => arg 6; reduce); refine XG.go (by decide +kernel) ?_)))
              | (refine XQ.is ?_; first
                | refine W94 ?_
                | refine W95 ?_
                | (refine W96 ?_; refine W97 ?_)
                | refine W98 ?_
                | refine W99 ?_
                | refine W100 ?_
                | refine W101 ?_
                | refine W102 ?_
                | refine W103 ?_
                | refine W104 ?_
                | refine W105 ?_
                | refine W106 ?_
                | (refine W107 ?_; refine W108 ?_))
              | (refine XS.is ?_; first
                | (refine W53 ?_; refine W54 ?_)
                | (refine W55 ?_; first
                  | refine W56 ?_
                  | (refine W57 (fun h => ?_) (fun h => ?_) <;> try (first | (exfalso; omega) | exact absurd rfl h | (exfalso; simp at h <;> omega)))
                  | refine W58 ?_
                  | (refine W59 ?_; first
                    | refine W60 ?_
                    | refine W61 ?_
                    | refine W62 ?_
                    | refine W63 ?_
                    | refine W64 ?_
                    | refine W65 ?_)
                  | (refine W66 ?_; first
                    | refine W67 ?_
                    | refine W68 ?_
                    | refine W69 ?_)
                  | (refine W70 ?_; first
                    | refine W71 ?_
                    | refine W72 ?_
                    | refine W73 ?_
                    | refine W74 ?_
                    | refine W69 ?_)
                  | (refine W75 ?_; first
                    | refine W76 ?_
                    | refine W69 ?_)
                  | refine W69 ?_)
                | refine W77 ?_
                | (refine W78 ?_; refine W79 ?_ ?_)
                | (refine W80 ?_; refine W81 ?_ ?_ ?_)))
            refine XQ.round (j + 1) ?_ (fun w hw => ⟨by omega, hw.less (by (repeat' (first | exact Sels.nil | exact Sel.here | apply Sels.cons | apply Sel.there)); done) (by (repeat (first | exact sub0 | refine subC (by repeat (first | exact List.Mem.head _ | apply List.Mem.tail)) ?_)); done)⟩) (by omega)
            rw [wsum_succ hI, wsum_succ hI, e8, e1]
            exact (by (repeat (first | exact fits_nil | refine fits_cons (by rfl) ?_)); done)
          · have e1 : w1 I = 0 := by simp [w1, h2, h13]
            repeat' (first
              | (refine XL.is ?_; first
                | refine W1 ?_
                | (refine W2 (fun h => ?_) (fun h => ?_) <;> try (first | (exfalso; omega) | exact absurd rfl h | (exfalso; simp at h <;> omega)))
                | refine W3 ?_
                | (refine W4 ?_; first
                  | refine W5 ?_
                  | refine W6 ?_
                  | refine W7 ?_
                  | refine W8 ?_
                  | refine W9 ?_
                  | refine W10 ?_
                  | refine W11 ?_)
                | (refine W12 ?_; first
                  | refine W13 ?_
                  | refine W14 ?_
                  | refine W15 ?_
                  | refine W16 ?_
                  | refine W11 ?_)
                | (refine W17 ?_; first
                  | refine W18 ?_
                  | refine W19 ?_
                  | refine W20 ?_
                  | refine W21 ?_
                  | refine W22 ?_
                  | refine W11 ?_)
                | (refine W23 ?_; first
                  | refine W24 ?_
                  | refine W25 ?_)
                | (refine W26 ?_; first
                  | refine W27 ?_
                  | refine W28 ?_
                  | refine W29 ?_
                  | refine W30 ?_
                  | refine W31 ?_)
                | refine XL.pure 1 (by rfl) ?_
                | refine W32 ?_
                | (refine W33 ?_; first
                  | refine W34 ?_
                  | refine W35 ?_
                  | refine W36 ?_
                  | refine W37 ?_
                  | refine W38 ?_
                  | refine W39 ?_
                  | refine W40 ?_
                  | refine W41 ?_
                  | refine W42 ?_
                  | refine W43 ?_
                  | refine W44 ?_
                  | refine W45 ?_
                  | refine W46 ?_)
                | refine W47 ?_
                | refine W48 ?_
                | (refine W49 (fun b => ?_))
                | (refine W50 (fun b => ?_))
                | (refine W51 (fun b => ?_))
                | (refine W52 (fun b2 => ?_)))
              | (refine XC.is ?_; first
                | refine W82 ?_
                | refine W83 ?_
                | refine W84 ?_
                | refine W85 ?_
                | refine W86 ?_
                | refine W87 ?_
                | (refine W88 ?_; first
                  | (refine W89 (fun h => ?_) (fun h => ?_) <;> try (first | (exfalso; omega) | exact absurd rfl h | (exfalso; simp at h <;> omega)))
                  | refine W90 ?_
                  | refine W91 ?_)
                | (refine W92 ?_; first
                  | refine W93 ?_
                  | (refine XC.planG (by kernel_rfl) (fun _ m h => h.drewn m) ?_; (conv => arg 5; reduce); refine XG0.of ?_; (conv => arg 5; reduce); (conv => arg 6; reduce); refine XG.go (by decide +kernel) ?_)))
              | (refine XQ.is ?_; first
                | refine W94 ?_
                | refine W95 ?_
                | (refine W96 ?_; refine W97 ?_)
                | refine W98 ?_
                | refine W99 ?_
                | refine W100 ?_
                | refine W101 ?_
                | refine W102 ?_
                | refine W103 ?_
                | refine W104 ?_
                | refine W105 ?_
                | refine W106 ?_
                | (refine W107 ?_; refine W108 ?_))
              | (refine XS.is ?_; first
                | (refine W53 ?_; refine W54 ?_)
                | (refine W55 ?_; first
                  | refine W56 ?_
                  | (refine W57 (fun h => ?_) (fun h => ?_) <;> try (first | (exfalso; omega) | exact absurd rfl h | (exfalso; simp at h <;> omega)))
                  | refine W58 ?_
                  | (refine W59 ?_; first
                    | refine W60 ?_
                    | refine W61 ?_
                    | refine W62 ?_
                    | refine W63 ?_
                    | refine W64 ?_
                    | refine W65 ?_)
                  | (refine W66 ?_; first
                    | refine W67 ?_
                    | refine W68 ?_
                    | refine W69 ?_)
                  | (refine W70 ?_; first
                    | refine W71 ?_
                    | refine W72 ?_
                    | refine W73 ?_
                    | refine W74 ?_
                    | refine W69 ?_)
                  | (refine W75 ?_; first
                    | refine W76 ?_
                    | refine W69 ?_)
                  | refine W69 ?_)
                | refine W77 ?_
                | (refine W78 ?_; refine W79 ?_ ?_)
                | (refine W80 ?_; refine W81 ?_ ?_ ?_)))
            refine XQ.round (j + 1) ?_ (fun w hw => ⟨by omega, hw.less (by (repeat' (first | exact Sels.nil | exact Sel.here | apply Sels.cons | apply Sel.there)); done) (by (repeat (first | exact sub0 | refine subC (by repeat (first | exact List.Mem.head _ | apply List.Mem.tail)) ?_)); done)⟩) (by omega)
            rw [wsum_succ hI, wsum_succ hI, e8, e1]
            exact (by (repeat (first | exact fits_nil | refine fits_cons (by rfl) ?_)); done)
    have e : j = F.codeL.length := by omega
    subst e
    repeat' (first
      | (refine XL.is ?_; first
        | refine W1 ?_
        | (refine W2 (fun h => ?_) (fun h => ?_) <;> try (first | (exfalso; omega) | exact absurd rfl h | (exfalso; simp at h <;> omega)))
        | refine W3 ?_
        | (refine W4 ?_; first
          | refine W5 ?_
          | refine W6 ?_
          | refine W7 ?_
          | refine W8 ?_
          | refine W9 ?_
          | refine W10 ?_
          | refine W11 ?_)
        | (refine W12 ?_; first
          | refine W13 ?_
          | refine W14 ?_
          | refine W15 ?_
          | refine W16 ?_
          | refine W11 ?_)
        | (refine W17 ?_; first
          | refine W18 ?_
          | refine W19 ?_
          | refine W20 ?_
          | refine W21 ?_
          | refine W22 ?_
          | refine W11 ?_)
        | (refine W23 ?_; first
          | refine W24 ?_
          | refine W25 ?_)
        | (refine W26 ?_; first
          | refine W27 ?_
          | refine W28 ?_
          | refine W29 ?_
          | refine W30 ?_
          | refine W31 ?_)
        | refine XL.pure 1 (by rfl) ?_
        | refine W32 ?_
        | (refine W33 ?_; first
          | refine W34 ?_
          | refine W35 ?_
          | refine W36 ?_
          | refine W37 ?_
          | refine W38 ?_
          | refine W39 ?_
          | refine W40 ?_
          | refine W41 ?_
          | refine W42 ?_
          | refine W43 ?_
          | refine W44 ?_
          | refine W45 ?_
          | refine W46 ?_)
        | refine W47 ?_
        | refine W48 ?_
        | (refine W49 (fun b => ?_))
        | (refine W50 (fun b => ?_))
        | (refine W51 (fun b => ?_))
        | (refine W52 (fun b2 => ?_)))
      | (refine XC.is ?_; first
        | refine W82 ?_
        | refine W83 ?_
        | refine W84 ?_
        | refine W85 ?_
        | refine W86 ?_
        | refine W87 ?_
        | (refine W88 ?_; first
          | (refine W89 (fun h => ?_) (fun h => ?_) <;> try (first | (exfalso; omega) | exact absurd rfl h | (exfalso; simp at h <;> omega)))
          | refine W90 ?_
          | refine W91 ?_)
        | (refine W92 ?_; first
          | refine W93 ?_
          | (refine XC.planG (by kernel_rfl) (fun _ m h => h.drewn m) ?_; (conv => arg 5; reduce); refine XG0.of ?_; (conv => arg 5; reduce); (conv => arg 6; reduce); refine XG.go (by decide +kernel) ?_)))
      | (refine XQ.is ?_; first
        | refine W94 ?_
        | refine W95 ?_
        | (refine W96 ?_; refine W97 ?_)
        | refine W98 ?_
        | refine W99 ?_
        | refine W100 ?_
        | refine W101 ?_
        | refine W102 ?_
        | refine W103 ?_
        | refine W104 ?_
        | refine W105 ?_
        | refine W106 ?_
        | (refine W107 ?_; refine W108 ?_))
      | (refine XS.is ?_; first
        | (refine W53 ?_; refine W54 ?_)
        | (refine W55 ?_; first
          | refine W56 ?_
          | (refine W57 (fun h => ?_) (fun h => ?_) <;> try (first | (exfalso; omega) | exact absurd rfl h | (exfalso; simp at h <;> omega)))
          | refine W58 ?_
          | (refine W59 ?_; first
            | refine W60 ?_
            | refine W61 ?_
            | refine W62 ?_
            | refine W63 ?_
            | refine W64 ?_
            | refine W65 ?_)
          | (refine W66 ?_; first
            | refine W67 ?_
            | refine W68 ?_
            | refine W69 ?_)
          | (refine W70 ?_; first
            | refine W71 ?_
            | refine W72 ?_
            | refine W73 ?_
            | refine W74 ?_
            | refine W69 ?_)
          | (refine W75 ?_; first
            | refine W76 ?_
            | refine W69 ?_)
          | refine W69 ?_)
        | refine W77 ?_
        | (refine W78 ?_; refine W79 ?_ ?_)
        | (refine W80 ?_; refine W81 ?_ ?_ ?_)))
    refine XQ.round (i + 1) ?_ (fun w hw => ⟨by omega, hw⟩) (by omega)
    rw [wsum_succ hF, wsum_succ hF]
    exact (by (repeat (first | exact fits_nil | refine fits_cons (by rfl) ?_)); done)
  have e : i = p.fnL.length := by omega
  subst e
  rw [← c8, ← c1, ← h1]
  repeat' (first
    | (refine XL.is ?_; first
      | refine W1 ?_
      | (refine W2 (fun h => ?_) (fun h => ?_) <;> try (first | (exfalso; omega) | exact absurd rfl h | (exfalso; simp at h <;> omega)))
      | refine W3 ?_
      | (refine W4 ?_; first
        | refine W5 ?_
        | refine W6 ?_
        | refine W7 ?_
        | refine W8 ?_
        | refine W9 ?_
        | refine W10 ?_
        | refine W11 ?_)
      | (refine W12 ?_; first
        | refine W13 ?_
        | refine W14 ?_
        | refine W15 ?_
        | refine W16 ?_
        | refine W11 ?_)
      | (refine W17 ?_; first
        | refine W18 ?_
        | refine W19 ?_
        | refine W20 ?_
        | refine W21 ?_
        | refine W22 ?_
        | refine W11 ?_)
      | (refine W23 ?_; first
        | refine W24 ?_
        | refine W25 ?_)
      | (refine W26 ?_; first
        | refine W27 ?_
        | refine W28 ?_
        | refine W29 ?_
        | refine W30 ?_
        | refine W31 ?_)
      | refine XL.pure 1 (by rfl) ?_
      | refine W32 ?_
      | (refine W33 ?_; first
        | refine W34 ?_
        | refine W35 ?_
        | refine W36 ?_
        | refine W37 ?_
        | refine W38 ?_
        | refine W39 ?_
        | refine W40 ?_
        | refine W41 ?_
        | refine W42 ?_
        | refine W43 ?_
        | refine W44 ?_
        | refine W45 ?_
        | refine W46 ?_)
      | refine W47 ?_
      | refine W48 ?_
      | (refine W49 (fun b => ?_))
      | (refine W50 (fun b => ?_))
      | (refine W51 (fun b => ?_))
      | (refine W52 (fun b2 => ?_)))
    | (refine XC.is ?_; first
      | refine W82 ?_
      | refine W83 ?_
      | refine W84 ?_
      | refine W85 ?_
      | refine W86 ?_
      | refine W87 ?_
      | (refine W88 ?_; first
        | (refine W89 (fun h => ?_) (fun h => ?_) <;> try (first | (exfalso; omega) | exact absurd rfl h | (exfalso; simp at h <;> omega)))
        | refine W90 ?_
        | refine W91 ?_)
      | (refine W92 ?_; first
        | refine W93 ?_
        | (refine XC.planG (by kernel_rfl) (fun _ m h => h.drewn m) ?_; (conv => arg 5; reduce); refine XG0.of ?_; (conv => arg 5; reduce); (conv => arg 6; reduce); refine XG.go (by decide +kernel) ?_)))
    | (refine XQ.is ?_; first
      | refine W94 ?_
      | refine W95 ?_
      | (refine W96 ?_; refine W97 ?_)
      | refine W98 ?_
      | refine W99 ?_
      | refine W100 ?_
      | refine W101 ?_
      | refine W102 ?_
      | refine W103 ?_
      | refine W104 ?_
      | refine W105 ?_
      | refine W106 ?_
      | (refine W107 ?_; refine W108 ?_))
    | (refine XS.is ?_; first
      | (refine W53 ?_; refine W54 ?_)
      | (refine W55 ?_; first
        | refine W56 ?_
        | (refine W57 (fun h => ?_) (fun h => ?_) <;> try (first | (exfalso; omega) | exact absurd rfl h | (exfalso; simp at h <;> omega)))
        | refine W58 ?_
        | (refine W59 ?_; first
          | refine W60 ?_
          | refine W61 ?_
          | refine W62 ?_
          | refine W63 ?_
          | refine W64 ?_
          | refine W65 ?_)
        | (refine W66 ?_; first
          | refine W67 ?_
          | refine W68 ?_
          | refine W69 ?_)
        | (refine W70 ?_; first
          | refine W71 ?_
          | refine W72 ?_
          | refine W73 ?_
          | refine W74 ?_
          | refine W69 ?_)
        | (refine W75 ?_; first
          | refine W76 ?_
          | refine W69 ?_)
        | refine W69 ?_)
      | refine W77 ?_
      | (refine W78 ?_; refine W79 ?_ ?_)
      | (refine W80 ?_; refine W81 ?_ ?_ ?_)))
  refine XC.loop (fun i : Nat => [(1, .pointer (some ⟨bp, 0, none⟩)), (3, .bool true), (4, v1), (5, .int .i64 (sv (l1.map (·.p)) 8 i)), (6, .int .i64 (sv (l1.map (·.p)) 1 i)), (10, .int .i64 (i : Int))])
    (fun i w => i ≤ l1.length ∧ St c [cel bp #[p.sites, p.fns, .int .i64 p.main] 25] [consFP v1 l1, progFP p] w) (fun i => l1.length - i) 0 (by rw [sv_zero, sv_zero]; exact (by (repeat (first | exact fits_nil | refine fits_cons (by rfl) ?_)); done)) (fun w h => ⟨by omega, h⟩) ?_
  intro i
  refine XC.pure (fun hi => ?_)
  by_cases hlt : i < l1.length
  · obtain ⟨C, hC, mC⟩ := get_of_lt hlt
    have hPi : (l1.map (·.p))[i]? = some C.p := by rw [List.getElem?_map, hC]; rfl
    have b8 := sv_le (l1.map (·.p)) 8 i
    have b1 := sv_le (l1.map (·.p)) 1 i
    rw [List.length_map] at b8 b1
    have t8 := sv_succ (k := 8) hPi
    have t1 := sv_succ (k := 1) hPi
    obtain ⟨fn, F, pc, I, Q, hF, hI, hQ, hP⟩ := mem_genS (p := p) (P := C.p) (by rw [← h1]; exact List.mem_map.2 ⟨C, mC, rfl⟩)
    obtain ⟨P, a1⟩ := C
    dsimp only at hP
    subst hP
    have aC := con_at hC
    have mF := List.mem_of_getElem? hF
    have mI := List.mem_of_getElem? hI
    have aF := fn_at hF
    have aI := code_at hI
    have hlf := (List.getElem?_eq_some_iff.1 hF).1
    have hlc := (List.getElem?_eq_some_iff.1 hI).1
    have o2 := hw.oneI F mF I mI
    by_cases h8 : Q.kind = 8
    · obtain ⟨h16, hal⟩ := kind8 hQ h8
      have h8' : (ConM.mk (place fn pc Q) a1).p.kind = 8 := h8
      have hal' : ((ConM.mk (place fn pc Q) a1).p.args.length : Int) = (I.argL.length : Int) := by exact_mod_cast hal
      rw [if_pos h8'] at t8
      rw [if_neg (by rw [h8']; decide)] at t1
      repeat' (first
        | (refine XL.is ?_; first
          | refine W1 ?_
          | (refine W2 (fun h => ?_) (fun h => ?_) <;> try (first | (exfalso; omega) | exact absurd rfl h | (exfalso; simp at h <;> omega)))
          | refine W3 ?_
          | (refine W4 ?_; first
            | refine W5 ?_
            | refine W6 ?_
            | refine W7 ?_
            | refine W8 ?_
            | refine W9 ?_
            | refine W10 ?_
            | refine W11 ?_)
          | (refine W12 ?_; first
            | refine W13 ?_
            | refine W14 ?_
            | refine W15 ?_
            | refine W16 ?_
            | refine W11 ?_)
          | (refine W17 ?_; first
            | refine W18 ?_
            | refine W19 ?_
            | refine W20 ?_
            | refine W21 ?_
            | refine W22 ?_
            | refine W11 ?_)
          | (refine W23 ?_; first
            | refine W24 ?_
            | refine W25 ?_)
          | (refine W26 ?_; first
            | refine W27 ?_
            | refine W28 ?_
            | refine W29 ?_
            | refine W30 ?_
            | refine W31 ?_)
          | refine XL.pure 1 (by rfl) ?_
          | refine W32 ?_
          | (refine W33 ?_; first
            | refine W34 ?_
            | refine W35 ?_
            | refine W36 ?_
            | refine W37 ?_
            | refine W38 ?_
            | refine W39 ?_
            | refine W40 ?_
            | refine W41 ?_
            | refine W42 ?_
            | refine W43 ?_
            | refine W44 ?_
            | refine W45 ?_
            | refine W46 ?_)
          | refine W47 ?_
          | refine W48 ?_
          | (refine W49 (fun b => ?_))
          | (refine W50 (fun b => ?_))
          | (refine W51 (fun b => ?_))
          | (refine W52 (fun b2 => ?_)))
        | (refine XC.is ?_; first
          | refine W82 ?_
          | refine W83 ?_
          | refine W84 ?_
          | refine W85 ?_
          | refine W86 ?_
          | refine W87 ?_
          | (refine W88 ?_; first
            | (refine W89 (fun h => ?_) (fun h => ?_) <;> try (first | (exfalso; omega) | exact absurd rfl h | (exfalso; simp at h <;> omega)))
            | refine W90 ?_
            | refine W91 ?_)
          | (refine W92 ?_; first
            | refine W93 ?_
            | (refine XC.planG (by kernel_rfl) (fun _ m h => h.drewn m) ?_; (conv => arg 5; reduce); refine XG0.of ?_; (conv => arg 5; reduce); (conv => arg 6; reduce); refine XG.go (by decide +kernel) ?_)))
        | (refine XQ.is ?_; first
          | refine W94 ?_
          | refine W95 ?_
          | (refine W96 ?_; refine W97 ?_)
          | refine W98 ?_
          | refine W99 ?_
          | refine W100 ?_
          | refine W101 ?_
          | refine W102 ?_
          | refine W103 ?_
          | refine W104 ?_
          | refine W105 ?_
          | refine W106 ?_
          | (refine W107 ?_; refine W108 ?_))
        | (refine XS.is ?_; first
          | (refine W53 ?_; refine W54 ?_)
          | (refine W55 ?_; first
            | refine W56 ?_
            | (refine W57 (fun h => ?_) (fun h => ?_) <;> try (first | (exfalso; omega) | exact absurd rfl h | (exfalso; simp at h <;> omega)))
            | refine W58 ?_
            | (refine W59 ?_; first
              | refine W60 ?_
              | refine W61 ?_
              | refine W62 ?_
              | refine W63 ?_
              | refine W64 ?_
              | refine W65 ?_)
            | (refine W66 ?_; first
              | refine W67 ?_
              | refine W68 ?_
              | refine W69 ?_)
            | (refine W70 ?_; first
              | refine W71 ?_
              | refine W72 ?_
              | refine W73 ?_
              | refine W74 ?_
              | refine W69 ?_)
            | (refine W75 ?_; first
              | refine W76 ?_
              | refine W69 ?_)
            | refine W69 ?_)
          | refine W77 ?_
          | (refine W78 ?_; refine W79 ?_ ?_)
          | (refine W80 ?_; refine W81 ?_ ?_ ?_)))
      refine XQ.round (i + 1) ?_ (fun w hw => ⟨by omega, hw.less (by (repeat' (first | exact Sels.nil | exact Sel.here | apply Sels.cons | apply Sel.there)); done) (by (repeat (first | exact sub0 | refine subC (by repeat (first | exact List.Mem.head _ | apply List.Mem.tail)) ?_)); done)⟩) (by omega)
      rw [t8, t1]
      exact (by (repeat (first | exact fits_nil | refine fits_cons (by rfl) ?_)); done)
    · have h8' : ¬ (ConM.mk (place fn pc Q) a1).p.kind = 8 := h8
      rw [if_neg h8'] at t8
      by_cases h1k : Q.kind = 1
      · have h1' : (ConM.mk (place fn pc Q) a1).p.kind = 1 := h1k
        rw [if_pos h1'] at t1
        repeat' (first
          | (refine XL.is ?_; first
            | refine W1 ?_
            | (refine W2 (fun h => ?_) (fun h => ?_) <;> try (first | (exfalso; omega) | exact absurd rfl h | (exfalso; simp at h <;> omega)))
            | refine W3 ?_
            | (refine W4 ?_; first
              | refine W5 ?_
              | refine W6 ?_
              | refine W7 ?_
              | refine W8 ?_
              | refine W9 ?_
              | refine W10 ?_
              | refine W11 ?_)
            | (refine W12 ?_; first
              | refine W13 ?_
              | refine W14 ?_
              | refine W15 ?_
              | refine W16 ?_
              | refine W11 ?_)
            | (refine W17 ?_; first
              | refine W18 ?_
              | refine W19 ?_
              | refine W20 ?_
              | refine W21 ?_
              | refine W22 ?_
              | refine W11 ?_)
            | (refine W23 ?_; first
              | refine W24 ?_
              | refine W25 ?_)
            | (refine W26 ?_; first
              | refine W27 ?_
              | refine W28 ?_
              | refine W29 ?_
              | refine W30 ?_
              | refine W31 ?_)
            | refine XL.pure 1 (by rfl) ?_
            | refine W32 ?_
            | (refine W33 ?_; first
              | refine W34 ?_
              | refine W35 ?_
              | refine W36 ?_
              | refine W37 ?_
              | refine W38 ?_
              | refine W39 ?_
              | refine W40 ?_
              | refine W41 ?_
              | refine W42 ?_
              | refine W43 ?_
              | refine W44 ?_
              | refine W45 ?_
              | refine W46 ?_)
            | refine W47 ?_
            | refine W48 ?_
            | (refine W49 (fun b => ?_))
            | (refine W50 (fun b => ?_))
            | (refine W51 (fun b => ?_))
            | (refine W52 (fun b2 => ?_)))
          | (refine XC.is ?_; first
            | refine W82 ?_
            | refine W83 ?_
            | refine W84 ?_
            | refine W85 ?_
            | refine W86 ?_
            | refine W87 ?_
            | (refine W88 ?_; first
              | (refine W89 (fun h => ?_) (fun h => ?_) <;> try (first | (exfalso; omega) | exact absurd rfl h | (exfalso; simp at h <;> omega)))
              | refine W90 ?_
              | refine W91 ?_)
            | (refine W92 ?_; first
              | refine W93 ?_
              | (refine XC.planG (by kernel_rfl) (fun _ m h => h.drewn m) ?_; (conv => arg 5; reduce); refine XG0.of ?_; (conv => arg 5; reduce); (conv => arg 6; reduce); refine XG.go (by decide +kernel) ?_)))
          | (refine XQ.is ?_; first
            | refine W94 ?_
            | refine W95 ?_
            | (refine W96 ?_; refine W97 ?_)
            | refine W98 ?_
            | refine W99 ?_
            | refine W100 ?_
            | refine W101 ?_
            | refine W102 ?_
            | refine W103 ?_
            | refine W104 ?_
            | refine W105 ?_
            | refine W106 ?_
            | (refine W107 ?_; refine W108 ?_))
          | (refine XS.is ?_; first
            | (refine W53 ?_; refine W54 ?_)
            | (refine W55 ?_; first
              | refine W56 ?_
              | (refine W57 (fun h => ?_) (fun h => ?_) <;> try (first | (exfalso; omega) | exact absurd rfl h | (exfalso; simp at h <;> omega)))
              | refine W58 ?_
              | (refine W59 ?_; first
                | refine W60 ?_
                | refine W61 ?_
                | refine W62 ?_
                | refine W63 ?_
                | refine W64 ?_
                | refine W65 ?_)
              | (refine W66 ?_; first
                | refine W67 ?_
                | refine W68 ?_
                | refine W69 ?_)
              | (refine W70 ?_; first
                | refine W71 ?_
                | refine W72 ?_
                | refine W73 ?_
                | refine W74 ?_
                | refine W69 ?_)
              | (refine W75 ?_; first
                | refine W76 ?_
                | refine W69 ?_)
              | refine W69 ?_)
            | refine W77 ?_
            | (refine W78 ?_; refine W79 ?_ ?_)
            | (refine W80 ?_; refine W81 ?_ ?_ ?_)))
        refine XQ.round (i + 1) ?_ (fun w hw => ⟨by omega, hw.less (by (repeat' (first | exact Sels.nil | exact Sel.here | apply Sels.cons | apply Sel.there)); done) (by (repeat (first | exact sub0 | refine subC (by repeat (first | exact List.Mem.head _ | apply List.Mem.tail)) ?_)); done)⟩) (by omega)
        rw [t8, t1]
        exact (by (repeat (first | exact fits_nil | refine fits_cons (by rfl) ?_)); done)
      · have h1' : ¬ (ConM.mk (place fn pc Q) a1).p.kind = 1 := h1k
        rw [if_neg h1'] at t1
        repeat' (first
          | (refine XL.is ?_; first
            | refine W1 ?_
            | (refine W2 (fun h => ?_) (fun h => ?_) <;> try (first | (exfalso; omega) | exact absurd rfl h | (exfalso; simp at h <;> omega)))
            | refine W3 ?_
            | (refine W4 ?_; first
              | refine W5 ?_
              | refine W6 ?_
              | refine W7 ?_
              | refine W8 ?_
              | refine W9 ?_
              | refine W10 ?_
              | refine W11 ?_)
            | (refine W12 ?_; first
              | refine W13 ?_
              | refine W14 ?_
              | refine W15 ?_
              | refine W16 ?_
              | refine W11 ?_)
            | (refine W17 ?_; first
              | refine W18 ?_
              | refine W19 ?_
              | refine W20 ?_
              | refine W21 ?_
              | refine W22 ?_
              | refine W11 ?_)
            | (refine W23 ?_; first
              | refine W24 ?_
              | refine W25 ?_)
            | (refine W26 ?_; first
              | refine W27 ?_
              | refine W28 ?_
              | refine W29 ?_
              | refine W30 ?_
              | refine W31 ?_)
            | refine XL.pure 1 (by rfl) ?_
            | refine W32 ?_
            | (refine W33 ?_; first
              | refine W34 ?_
              | refine W35 ?_
              | refine W36 ?_
              | refine W37 ?_
              | refine W38 ?_
              | refine W39 ?_
              | refine W40 ?_
              | refine W41 ?_
              | refine W42 ?_
              | refine W43 ?_
              | refine W44 ?_
              | refine W45 ?_
              | refine W46 ?_)
            | refine W47 ?_
            | refine W48 ?_
            | (refine W49 (fun b => ?_))
            | (refine W50 (fun b => ?_))
            | (refine W51 (fun b => ?_))
            | (refine W52 (fun b2 => ?_)))
          | (refine XC.is ?_; first
            | refine W82 ?_
            | refine W83 ?_
            | refine W84 ?_
            | refine W85 ?_
            | refine W86 ?_
            | refine W87 ?_
            | (refine W88 ?_; first
              | (refine W89 (fun h => ?_) (fun h => ?_) <;> try (first | (exfalso; omega) | exact absurd rfl h | (exfalso; simp at h <;> omega)))
              | refine W90 ?_
              | refine W91 ?_)
            | (refine W92 ?_; first
              | refine W93 ?_
              | (refine XC.planG (by kernel_rfl) (fun _ m h => h.drewn m) ?_; (conv => arg 5; reduce); refine XG0.of ?_; (conv => arg 5; reduce); (conv => arg 6; reduce); refine XG.go (by decide +kernel) ?_)))
          | (refine XQ.is ?_; first
            | refine W94 ?_
            | refine W95 ?_
            | (refine W96 ?_; refine W97 ?_)
            | refine W98 ?_
            | refine W99 ?_
            | refine W100 ?_
            | refine W101 ?_
            | refine W102 ?_
            | refine W103 ?_
            | refine W104 ?_
            | refine W105 ?_
            | refine W106 ?_
            | (refine W107 ?_; refine W108 ?_))
          | (refine XS.is ?_; first
            | (refine W53 ?_; refine W54 ?_)
            | (refine W55 ?_; first
              | refine W56 ?_
              | (refine W57 (fun h => ?_) (fun h => ?_) <;> try (first | (exfalso; omega) | exact absurd rfl h | (exfalso; simp at h <;> omega)))
              | refine W58 ?_
              | (refine W59 ?_; first
                | refine W60 ?_
                | refine W61 ?_
                | refine W62 ?_
                | refine W63 ?_
                | refine W64 ?_
                | refine W65 ?_)
              | (refine W66 ?_; first
                | refine W67 ?_
                | refine W68 ?_
                | refine W69 ?_)
              | (refine W70 ?_; first
                | refine W71 ?_
                | refine W72 ?_
                | refine W73 ?_
                | refine W74 ?_
                | refine W69 ?_)
              | (refine W75 ?_; first
                | refine W76 ?_
                | refine W69 ?_)
              | refine W69 ?_)
            | refine W77 ?_
            | (refine W78 ?_; refine W79 ?_ ?_)
            | (refine W80 ?_; refine W81 ?_ ?_ ?_)))
        refine XQ.round (i + 1) ?_ (fun w hw => ⟨by omega, hw.less (by (repeat' (first | exact Sels.nil | exact Sel.here | apply Sels.cons | apply Sel.there)); done) (by (repeat (first | exact sub0 | refine subC (by repeat (first | exact List.Mem.head _ | apply List.Mem.tail)) ?_)); done)⟩) (by omega)
        rw [t8, t1]
        exact (by (repeat (first | exact fits_nil | refine fits_cons (by rfl) ?_)); done)
  have e : i = l1.length := by omega
  subst e
  have z8 := sv_end (l1.map (·.p)) 8
  have z1 := sv_end (l1.map (·.p)) 1
  rw [List.length_map] at z8 z1
  repeat' (first
    | (refine XL.is ?_; first
      | refine W1 ?_
      | (refine W2 (fun h => ?_) (fun h => ?_) <;> try (first | (exfalso; omega) | exact absurd rfl h | (exfalso; simp at h <;> omega)))
      | refine W3 ?_
      | (refine W4 ?_; first
        | refine W5 ?_
        | refine W6 ?_
        | refine W7 ?_
        | refine W8 ?_
        | refine W9 ?_
        | refine W10 ?_
        | refine W11 ?_)
      | (refine W12 ?_; first
        | refine W13 ?_
        | refine W14 ?_
        | refine W15 ?_
        | refine W16 ?_
        | refine W11 ?_)
      | (refine W17 ?_; first
        | refine W18 ?_
        | refine W19 ?_
        | refine W20 ?_
        | refine W21 ?_
        | refine W22 ?_
        | refine W11 ?_)
      | (refine W23 ?_; first
        | refine W24 ?_
        | refine W25 ?_)
      | (refine W26 ?_; first
        | refine W27 ?_
        | refine W28 ?_
        | refine W29 ?_
        | refine W30 ?_
        | refine W31 ?_)
      | refine XL.pure 1 (by rfl) ?_
      | refine W32 ?_
      | (refine W33 ?_; first
        | refine W34 ?_
        | refine W35 ?_
        | refine W36 ?_
        | refine W37 ?_
        | refine W38 ?_
        | refine W39 ?_
        | refine W40 ?_
        | refine W41 ?_
        | refine W42 ?_
        | refine W43 ?_
        | refine W44 ?_
        | refine W45 ?_
        | refine W46 ?_)
      | refine W47 ?_
      | refine W48 ?_
      | (refine W49 (fun b => ?_))
      | (refine W50 (fun b => ?_))
      | (refine W51 (fun b => ?_))
      | (refine W52 (fun b2 => ?_)))
    | (refine XC.is ?_; first
      | refine W82 ?_
      | refine W83 ?_
      | refine W84 ?_
      | refine W85 ?_
      | refine W86 ?_
      | refine W87 ?_
      | (refine W88 ?_; first
        | (refine W89 (fun h => ?_) (fun h => ?_) <;> try (first | (exfalso; omega) | exact absurd rfl h | (exfalso; simp at h <;> omega)))
        | refine W90 ?_
        | refine W91 ?_)
      | (refine W92 ?_; first
        | refine W93 ?_
        | (refine XC.planG (by kernel_rfl) (fun _ m h => h.drewn m) ?_; (conv => arg 5; reduce); refine XG0.of ?_; (conv => arg 5; reduce); (conv => arg 6; reduce); refine XG.go (by decide +kernel) ?_)))
    | (refine XQ.is ?_; first
      | refine W94 ?_
      | refine W95 ?_
      | (refine W96 ?_; refine W97 ?_)
      | refine W98 ?_
      | refine W99 ?_
      | refine W100 ?_
      | refine W101 ?_
      | refine W102 ?_
      | refine W103 ?_
      | refine W104 ?_
      | refine W105 ?_
      | refine W106 ?_
      | (refine W107 ?_; refine W108 ?_))
    | (refine XS.is ?_; first
      | (refine W53 ?_; refine W54 ?_)
      | (refine W55 ?_; first
        | refine W56 ?_
        | (refine W57 (fun h => ?_) (fun h => ?_) <;> try (first | (exfalso; omega) | exact absurd rfl h | (exfalso; simp at h <;> omega)))
        | refine W58 ?_
        | (refine W59 ?_; first
          | refine W60 ?_
          | refine W61 ?_
          | refine W62 ?_
          | refine W63 ?_
          | refine W64 ?_
          | refine W65 ?_)
        | (refine W66 ?_; first
          | refine W67 ?_
          | refine W68 ?_
          | refine W69 ?_)
        | (refine W70 ?_; first
          | refine W71 ?_
          | refine W72 ?_
          | refine W73 ?_
          | refine W74 ?_
          | refine W69 ?_)
        | (refine W75 ?_; first
          | refine W76 ?_
          | refine W69 ?_)
        | refine W69 ?_)
      | refine W77 ?_
      | (refine W78 ?_; refine W79 ?_ ?_)
      | (refine W80 ?_; refine W81 ?_ ?_ ?_)))
  refine XQ.done1 (v := .bool (decide (sv (l1.map (·.p)) 1 l1.length = 0))) (by rfl) (by rfl) ⟨by rw [z1]; rfl, rfl, rfl⟩ (by (repeat' (first | exact Sels.nil | exact Sel.here | apply Sels.cons | apply Sel.there)); done) (by (repeat (first | exact sub0 | refine subC (by repeat (first | exact List.Mem.head _ | apply List.Mem.tail)) ?_)); done)
end
theorem own : ownKnob Tryz.prog.godebug = none := by kernel_rfl
theorem genCalls_walk {p : ProgM} (hw : p.WF) (W : World) (hΦ : (progFP p).h (fun _ => False) W) : Calls Tryz.prog 7 #[p.v] W fun e W' => e = .returned (.bool true) ∧ RowKit.Below W.heap.size W W' :=
  Tri.top (genCalls_tri hw) (fun φ hφ => by rw [List.mem_singleton.1 hφ]; exact hΦ)
namespace genCalls
open Go.ChangeShapes Go.WideShapes Go.ChangeAt Go.RowKit
set_option maxRecDepth 100000 in
theorem lifted (os : Os) (started : os.Started) (H : Type) (enc : TypeId × Value → H) :
    ReturnsInHanded {} Tryz.checked os 7 .any (Rows.genCallsSpec.pre6 enc Tryz.prog Tryz.f7 Rows.genCallsRow.domain false) (Rows.genCallsSpec.post enc Tryz.prog Tryz.f7 false true false false) := by
  refine returnsInHanded_of_change_sized (C := Tryz.checked) own started (by kernel_rfl) Tryz.func7
    (ChangeSpec.witness6 (enc := enc) (C := Tryz.checked) false ⟨#[], #[.agg #[.slice none 0 0, .slice none 0 0, .int .i64 0]], []⟩ 8 (by kernel_rfl) (by kernel_rfl) (by kernel_rfl) (by kernel_rfl)) ?_
  intro W base args ds gs before hval0 hW hcnd hwt _
  have hval : ∀ (j : Nat) t v, Tryz.f7.params[j]? = some t → args[j]? = some v → Value.okWide Tryz.prog W .any base t v := hval0
  have hW' := hW
  obtain ⟨p, q, hA0, hV, rfl, hfz, hnd⟩ := hW
  have hA : DataW.TrodAll enc Tryz.prog W 0 (fun _ => true) true Tryz.f7.params.toList args.toList ds p := hA0
  have hwt2 : (DataW.weightsEach Tryz.prog (Tryz.f7.params.toList ++ Rows.genCallsSpec.plain.varTypes Tryz.prog) (ds ++ gs)).all (· ≤ reachBytes) = true := hwt
  rw [Tryz.params7] at hA hval hwt2
  obtain ⟨v0, vs0, d0, ds0, p0, q0, hargs, rfl, rfl, h0, r0⟩ := trodAll_cons hA
  obtain ⟨rfl, rfl, rfl⟩ := trodAll_nil r0
  obtain rfl : args = #[v0] := by cases args; simp_all
  obtain ⟨cs, hcs, _⟩ := okWide_struct Tryz.underlying25 (hval 0 25 v0 rfl rfl)
  obtain ⟨p, rfl, hwf, hΦ⟩ := openProg h0 ⟨cs, hcs⟩ (Wt.of_each hwt2 (j := 0) rfl rfl)
  refine (genCalls_walk hwf W hΦ).mono fun e W' ⟨he, hg⟩ => ?_
  subst he
  exact ⟨_, rfl, law_post hW' rfl (by kernel_rfl) (fun t ht => by have ht : t ∈ [25] := ht; simp only [List.mem_cons, List.not_mem_nil, or_false] at ht; rcases ht with rfl <;> exact ⟨by kernel_rfl, of_decide_eq_true (by kernel_rfl)⟩) (T := 4) (by rfl) Tryz.underlying4
    (fun ds hl => by match ds, hl with | [e0], _ => exact ⟨rfl, rfl, rfl⟩) hg⟩
theorem over : Rows.genCallsRow.holds Tryz.pinned (OpenSpec.ofChange Rows.genCallsSpec) :=
  OpenClaim.holds_of_wide 7 Tryz.f7 rfl rfl rfl rfl rfl rfl rfl ⟨rfl, rfl, rfl, rfl, rfl⟩ rfl rfl rfl rfl rfl (by kernel_rfl) Tryz.func7 (by kernel_rfl)
    (of_decide_eq_true (by kernel_rfl)) (by unfold Func.isWrapper; first | (rw [if_pos (by decide +kernel)]; kernel_rfl) | (rw [if_neg (by decide +kernel)]; exact ⟨rfl, rfl⟩))
    (fun os started H enc _ => lifted os started H enc)
theorem proved : Rows.GenCallsSaid := over
end genCalls
#print axioms genCalls.proved
end Go.Proofs.YtafochlcnjeanaaGreat
