/- An instruction's constraints: the document's. -/
import Derived.Test.YtafochlcnjeanaaGreatG8
import Derived.Test.YtafochlcnjeanaaGreatX14
namespace Go.Proofs.YtafochlcnjeanaaGreat
open Go X
set_option maxRecDepth 100000
attribute [local irreducible] XC XL XQ Tri blk Shows Sq Rd Mt inBlockX XS XG XG0 TkS AnS rowO
theorem two_tri {k a b n : Int} : Tri Tryz.prog 34 [.int .i64 k, .int .i64 a, .int .i64 b, .int .i64 n] [] [] (Ret (fun v : Value => v) (fun v => [rowO 43 9 v 1 (conC [conN (two k a b n)])]) (fun _ => []) fun _ => True) := by
  refine Tri.of Tryz.func34 rfl fun c => ?_
  repeat' (first
    | (refine XL.is ?_; first
      | refine W1 ?_
      | (refine W2 (fun h => ?_) (fun h => ?_) <;> try (first | (exfalso; omega) | exact absurd rfl h | (exfalso; simp at h <;> omega)))
      | refine W3 ?_
      | (refine W4 ?_; first
        | refine W5 ?_
        | refine W6 ?_
        | refine W7 ?_
        | refine W8 ?_
        | refine W9 ?_
        | refine W10 ?_
        | refine W11 ?_)
      | (refine W12 ?_; first
        | refine W13 ?_
        | refine W14 ?_
        | refine W15 ?_
        | refine W16 ?_
        | refine W11 ?_)
      | (refine W17 ?_; first
        | refine W18 ?_
        | refine W19 ?_
        | refine W20 ?_
        | refine W21 ?_
        | refine W22 ?_
        | refine W11 ?_)
      | (refine W23 ?_; first
        | refine W24 ?_
        | refine W25 ?_)
      | (refine W26 ?_; first
        | refine W27 ?_
        | refine W28 ?_
        | refine W29 ?_
        | refine W30 ?_
        | refine W31 ?_)
      | refine XL.pure 1 (by rfl) ?_
      | refine W32 ?_
      | (refine W33 ?_; first
        | refine W34 ?_
        | refine W35 ?_
        | refine W36 ?_
        | refine W37 ?_
        | refine W38 ?_
        | refine W39 ?_
        | refine W40 ?_
        | refine W41 ?_
        | refine W42 ?_
        | refine W43 ?_
        | refine W44 ?_
        | refine W45 ?_
        | refine W46 ?_)
      | refine W47 ?_
      | refine W48 ?_
      | (refine W49 (fun b => ?_))
      | (refine W50 (fun b => ?_))
      | (refine W51 (fun b => ?_))
      | (refine W52 (fun b2 => ?_)))
    | (refine XC.is ?_; first
      | refine W82 ?_
      | refine W83 ?_
      | refine W84 ?_
      | refine W85 ?_
      | refine W86 ?_
      | refine W87 ?_
      | (refine W88 ?_; first
        | (refine W89 (fun h => ?_) (fun h => ?_) <;> try (first | (exfalso; omega) | exact absurd rfl h | (exfalso; simp at h <;> omega)))
        | refine W90 ?_
        | refine W91 ?_)
      | (refine W92 ?_; first
        | refine W93 ?_
        | (refine XC.planG (by kernel_rfl) (fun _ m h => h.drewn m) ?_; (conv => arg 5; reduce); refine XG0.of ?_; (conv => arg 5; reduce); (conv => arg 6; reduce); refine XG.go (by decide +kernel) ?_)))
    | (refine XQ.is ?_; first
      | refine W94 ?_
      | refine W95 ?_
      | (refine W96 ?_; refine W97 ?_)
      | refine W98 ?_
      | refine W99 ?_
      | refine W100 ?_
      | refine W101 ?_
      | refine W102 ?_
      | refine W103 ?_
      | refine W104 ?_
      | refine W105 ?_
      | refine W106 ?_
      | (refine W107 ?_; refine W108 ?_))
    | (refine XS.is ?_; first
      | (refine W53 ?_; refine W54 ?_)
      | (refine W55 ?_; first
        | refine W56 ?_
        | (refine W57 (fun h => ?_) (fun h => ?_) <;> try (first | (exfalso; omega) | exact absurd rfl h | (exfalso; simp at h <;> omega)))
        | refine W58 ?_
        | (refine W59 ?_; first
          | refine W60 ?_
          | refine W61 ?_
          | refine W62 ?_
          | refine W63 ?_
          | refine W64 ?_
          | refine W65 ?_)
        | (refine W66 ?_; first
          | refine W67 ?_
          | refine W68 ?_
          | refine W69 ?_)
        | (refine W70 ?_; first
          | refine W71 ?_
          | refine W72 ?_
          | refine W73 ?_
          | refine W74 ?_
          | refine W69 ?_)
        | (refine W75 ?_; first
          | refine W76 ?_
          | refine W69 ?_)
        | refine W69 ?_)
      | refine W77 ?_
      | (refine W78 ?_; refine W79 ?_ ?_)
      | (refine W80 ?_; refine W81 ?_ ?_ ?_)))
  exact XQ.conv (fun w h => St.celRow (m := 1) (size := 9) (cs := conC [conN (two k a b n)]) .here rfl rfl h) (XQ.ret1 (by rfl) (by rfl) ⟨_, trivial, rfl, rfl, rfl⟩)
theorem first_triI {p : ProgM} (hp : p.OK) {x : Int} (h0 : 0 ≤ x) (h1 : x ≤ p.fnL.length) : Tri Tryz.prog 19 [p.v, .int .i64 x] [] [progFP p] fun e L Φ => e = .returned (.int .i64 (first p x.toNat)) ∧ L = [] ∧ Φ = [] := by
  obtain ⟨k, rfl⟩ := Int.eq_ofNat_of_zero_le h0
  exact first_tri hp (by omega)
theorem told_triI {p : ProgM} (hp : p.OK) {x : Int} (h0 : 0 ≤ x) (h1 : x < p.fnL.length) : Tri Tryz.prog 35 [p.v, .int .i64 x] [] [progFP p] fun e L Φ => e = .returned (.int .i64 (told p x)) ∧ L = [] ∧ Φ = [] := by
  obtain ⟨k, rfl⟩ := Int.eq_ofNat_of_zero_le h0
  exact told_tri hp (by omega)
set_option maxHeartbeats 8000000 in
theorem insn21_tri {p : ProgM} (hp : p.OK) (hw : p.WF) {F : FnM} (mF : F ∈ p.fnL) {I : InsnM} (mI : I ∈ F.codeL) {fn : Nat} (hfn : fn < p.fnL.length) (hok : okI p I) :
    Tri Tryz.prog 21 [p.v, .int .i64 (fn : Int), I.v] [] [progFP p] (ConsRet [] (insnS p fn I)) := by
  refine Tri.of Tryz.func21 rfl fun c => ?_
  repeat' (first
    | (refine XL.is ?_; first
      | refine W1 ?_
      | (refine W2 (fun h => ?_) (fun h => ?_) <;> try (first | (exfalso; omega) | exact absurd rfl h | (exfalso; simp at h <;> omega)))
      | refine W3 ?_
      | (refine W4 ?_; first
        | refine W5 ?_
        | refine W6 ?_
        | refine W7 ?_
        | refine W8 ?_
        | refine W9 ?_
        | refine W10 ?_
        | refine W11 ?_)
      | (refine W12 ?_; first
        | refine W13 ?_
        | refine W14 ?_
        | refine W15 ?_
        | refine W16 ?_
        | refine W11 ?_)
      | (refine W17 ?_; first
        | refine W18 ?_
        | refine W19 ?_
        | refine W20 ?_
        | refine W21 ?_
        | refine W22 ?_
        | refine W11 ?_)
      | (refine W23 ?_; first
        | refine W24 ?_
        | refine W25 ?_)
      | (refine W26 ?_; first
        | refine W27 ?_
        | refine W28 ?_
        | refine W29 ?_
        | refine W30 ?_
        | refine W31 ?_)
      | refine XL.pure 1 (by rfl) ?_
      | refine W32 ?_
      | (refine W33 ?_; first
        | refine W34 ?_
        | refine W35 ?_
        | refine W36 ?_
        | refine W37 ?_
        | refine W38 ?_
        | refine W39 ?_
        | refine W40 ?_
        | refine W41 ?_
        | refine W42 ?_
        | refine W43 ?_
        | refine W44 ?_
        | refine W45 ?_
        | refine W46 ?_)
      | refine W47 ?_
      | refine W48 ?_
      | (refine W49 (fun b => ?_))
      | (refine W50 (fun b => ?_))
      | (refine W51 (fun b => ?_))
      | (refine W52 (fun b2 => ?_)))
    | (refine XC.is ?_; first
      | refine W82 ?_
      | refine W83 ?_
      | refine W84 ?_
      | refine W85 ?_
      | refine W86 ?_
      | refine W87 ?_
      | (refine W88 ?_; first
        | (refine W89 (fun h => ?_) (fun h => ?_) <;> try (first | (exfalso; omega) | exact absurd rfl h | (exfalso; simp at h <;> omega)))
        | refine W90 ?_
        | refine W91 ?_)
      | (refine W92 ?_; first
        | refine W93 ?_
        | (refine XC.planG (by kernel_rfl) (fun _ m h => h.drewn m) ?_; (conv => arg 5; reduce); refine XG0.of ?_; (conv => arg 5; reduce); (conv => arg 6; reduce); refine XG.go (by decide +kernel) ?_)))
    | (refine XQ.is ?_; first
      | refine W94 ?_
      | refine W95 ?_
      | (refine W96 ?_; refine W97 ?_)
      | refine W98 ?_
      | refine W99 ?_
      | refine W100 ?_
      | refine W101 ?_
      | refine W102 ?_
      | refine W103 ?_
      | refine W104 ?_
      | refine W105 ?_
      | refine W106 ?_
      | (refine W107 ?_; refine W108 ?_))
    | (refine XS.is ?_; first
      | (refine W53 ?_; refine W54 ?_)
      | (refine W55 ?_; first
        | refine W56 ?_
        | (refine W57 (fun h => ?_) (fun h => ?_) <;> try (first | (exfalso; omega) | exact absurd rfl h | (exfalso; simp at h <;> omega)))
        | refine W58 ?_
        | (refine W59 ?_; first
          | refine W60 ?_
          | refine W61 ?_
          | refine W62 ?_
          | refine W63 ?_
          | refine W64 ?_
          | refine W65 ?_)
        | (refine W66 ?_; first
          | refine W67 ?_
          | refine W68 ?_
          | refine W69 ?_)
        | (refine W70 ?_; first
          | refine W71 ?_
          | refine W72 ?_
          | refine W73 ?_
          | refine W74 ?_
          | refine W69 ?_)
        | (refine W75 ?_; first
          | refine W76 ?_
          | refine W69 ?_)
        | refine W69 ?_)
      | refine W77 ?_
      | (refine W78 ?_; refine W79 ?_ ?_)
      | (refine W80 ?_; refine W81 ?_ ?_ ?_)))
  rename_i bp
  refine XL.triq (first_tri hp (k := fn) (by omega)) (by rfl) (by rfl) (by rfl) (by rfl) (by rfl) (by rfl) (by rfl) (by (repeat' (first | exact Sels.nil | exact Sel.here | apply Sels.cons | apply Sel.there)); done) (by (repeat' (first | exact Sels.nil | exact Sel.here | apply Sels.cons | apply Sel.there)); done) (by (repeat (first | exact sub0 | refine subC (by repeat (first | exact List.Mem.head _ | apply List.Mem.tail)) ?_)); done) ?_
  repeat' (first
    | (refine XL.is ?_; first
      | refine W1 ?_
      | (refine W2 (fun h => ?_) (fun h => ?_) <;> try (first | (exfalso; omega) | exact absurd rfl h | (exfalso; simp at h <;> omega)))
      | refine W3 ?_
      | (refine W4 ?_; first
        | refine W5 ?_
        | refine W6 ?_
        | refine W7 ?_
        | refine W8 ?_
        | refine W9 ?_
        | refine W10 ?_
        | refine W11 ?_)
      | (refine W12 ?_; first
        | refine W13 ?_
        | refine W14 ?_
        | refine W15 ?_
        | refine W16 ?_
        | refine W11 ?_)
      | (refine W17 ?_; first
        | refine W18 ?_
        | refine W19 ?_
        | refine W20 ?_
        | refine W21 ?_
        | refine W22 ?_
        | refine W11 ?_)
      | (refine W23 ?_; first
        | refine W24 ?_
        | refine W25 ?_)
      | (refine W26 ?_; first
        | refine W27 ?_
        | refine W28 ?_
        | refine W29 ?_
        | refine W30 ?_
        | refine W31 ?_)
      | refine XL.pure 1 (by rfl) ?_
      | refine W32 ?_
      | (refine W33 ?_; first
        | refine W34 ?_
        | refine W35 ?_
        | refine W36 ?_
        | refine W37 ?_
        | refine W38 ?_
        | refine W39 ?_
        | refine W40 ?_
        | refine W41 ?_
        | refine W42 ?_
        | refine W43 ?_
        | refine W44 ?_
        | refine W45 ?_
        | refine W46 ?_)
      | refine W47 ?_
      | refine W48 ?_
      | (refine W49 (fun b => ?_))
      | (refine W50 (fun b => ?_))
      | (refine W51 (fun b => ?_))
      | (refine W52 (fun b2 => ?_)))
    | (refine XC.is ?_; first
      | refine W82 ?_
      | refine W83 ?_
      | refine W84 ?_
      | refine W85 ?_
      | refine W86 ?_
      | refine W87 ?_
      | (refine W88 ?_; first
        | (refine W89 (fun h => ?_) (fun h => ?_) <;> try (first | (exfalso; omega) | exact absurd rfl h | (exfalso; simp at h <;> omega)))
        | refine W90 ?_
        | refine W91 ?_)
      | (refine W92 ?_; first
        | refine W93 ?_
        | (refine XC.planG (by kernel_rfl) (fun _ m h => h.drewn m) ?_; (conv => arg 5; reduce); refine XG0.of ?_; (conv => arg 5; reduce); (conv => arg 6; reduce); refine XG.go (by decide +kernel) ?_)))
    | (refine XQ.is ?_; first
      | refine W94 ?_
      | refine W95 ?_
      | (refine W96 ?_; refine W97 ?_)
      | refine W98 ?_
      | refine W99 ?_
      | refine W100 ?_
      | refine W101 ?_
      | refine W102 ?_
      | refine W103 ?_
      | refine W104 ?_
      | refine W105 ?_
      | refine W106 ?_
      | (refine W107 ?_; refine W108 ?_))
    | (refine XS.is ?_; first
      | (refine W53 ?_; refine W54 ?_)
      | (refine W55 ?_; first
        | refine W56 ?_
        | (refine W57 (fun h => ?_) (fun h => ?_) <;> try (first | (exfalso; omega) | exact absurd rfl h | (exfalso; simp at h <;> omega)))
        | refine W58 ?_
        | (refine W59 ?_; first
          | refine W60 ?_
          | refine W61 ?_
          | refine W62 ?_
          | refine W63 ?_
          | refine W64 ?_
          | refine W65 ?_)
        | (refine W66 ?_; first
          | refine W67 ?_
          | refine W68 ?_
          | refine W69 ?_)
        | (refine W70 ?_; first
          | refine W71 ?_
          | refine W72 ?_
          | refine W73 ?_
          | refine W74 ?_
          | refine W69 ?_)
        | (refine W75 ?_; first
          | refine W76 ?_
          | refine W69 ?_)
        | refine W69 ?_)
      | refine W77 ?_
      | (refine W78 ?_; refine W79 ?_ ?_)
      | (refine W80 ?_; refine W81 ?_ ?_ ?_)))
  first | refine XL.addw (by rfl) (by rfl) (by rfl) (by rfl) (by rfl) (by rfl) ?_ | refine XL.subw (by rfl) (by rfl) (by rfl) (by rfl) (by rfl) (by rfl) ?_
  repeat' (first
    | (refine XL.is ?_; first
      | refine W1 ?_
      | (refine W2 (fun h => ?_) (fun h => ?_) <;> try (first | (exfalso; omega) | exact absurd rfl h | (exfalso; simp at h <;> omega)))
      | refine W3 ?_
      | (refine W4 ?_; first
        | refine W5 ?_
        | refine W6 ?_
        | refine W7 ?_
        | refine W8 ?_
        | refine W9 ?_
        | refine W10 ?_
        | refine W11 ?_)
      | (refine W12 ?_; first
        | refine W13 ?_
        | refine W14 ?_
        | refine W15 ?_
        | refine W16 ?_
        | refine W11 ?_)
      | (refine W17 ?_; first
        | refine W18 ?_
        | refine W19 ?_
        | refine W20 ?_
        | refine W21 ?_
        | refine W22 ?_
        | refine W11 ?_)
      | (refine W23 ?_; first
        | refine W24 ?_
        | refine W25 ?_)
      | (refine W26 ?_; first
        | refine W27 ?_
        | refine W28 ?_
        | refine W29 ?_
        | refine W30 ?_
        | refine W31 ?_)
      | refine XL.pure 1 (by rfl) ?_
      | refine W32 ?_
      | (refine W33 ?_; first
        | refine W34 ?_
        | refine W35 ?_
        | refine W36 ?_
        | refine W37 ?_
        | refine W38 ?_
        | refine W39 ?_
        | refine W40 ?_
        | refine W41 ?_
        | refine W42 ?_
        | refine W43 ?_
        | refine W44 ?_
        | refine W45 ?_
        | refine W46 ?_)
      | refine W47 ?_
      | refine W48 ?_
      | (refine W49 (fun b => ?_))
      | (refine W50 (fun b => ?_))
      | (refine W51 (fun b => ?_))
      | (refine W52 (fun b2 => ?_)))
    | (refine XC.is ?_; first
      | refine W82 ?_
      | refine W83 ?_
      | refine W84 ?_
      | refine W85 ?_
      | refine W86 ?_
      | refine W87 ?_
      | (refine W88 ?_; first
        | (refine W89 (fun h => ?_) (fun h => ?_) <;> try (first | (exfalso; omega) | exact absurd rfl h | (exfalso; simp at h <;> omega)))
        | refine W90 ?_
        | refine W91 ?_)
      | (refine W92 ?_; first
        | refine W93 ?_
        | (refine XC.planG (by kernel_rfl) (fun _ m h => h.drewn m) ?_; (conv => arg 5; reduce); refine XG0.of ?_; (conv => arg 5; reduce); (conv => arg 6; reduce); refine XG.go (by decide +kernel) ?_)))
    | (refine XQ.is ?_; first
      | refine W94 ?_
      | refine W95 ?_
      | (refine W96 ?_; refine W97 ?_)
      | refine W98 ?_
      | refine W99 ?_
      | refine W100 ?_
      | refine W101 ?_
      | refine W102 ?_
      | refine W103 ?_
      | refine W104 ?_
      | refine W105 ?_
      | refine W106 ?_
      | (refine W107 ?_; refine W108 ?_))
    | (refine XS.is ?_; first
      | (refine W53 ?_; refine W54 ?_)
      | (refine W55 ?_; first
        | refine W56 ?_
        | (refine W57 (fun h => ?_) (fun h => ?_) <;> try (first | (exfalso; omega) | exact absurd rfl h | (exfalso; simp at h <;> omega)))
        | refine W58 ?_
        | (refine W59 ?_; first
          | refine W60 ?_
          | refine W61 ?_
          | refine W62 ?_
          | refine W63 ?_
          | refine W64 ?_
          | refine W65 ?_)
        | (refine W66 ?_; first
          | refine W67 ?_
          | refine W68 ?_
          | refine W69 ?_)
        | (refine W70 ?_; first
          | refine W71 ?_
          | refine W72 ?_
          | refine W73 ?_
          | refine W74 ?_
          | refine W69 ?_)
        | (refine W75 ?_; first
          | refine W76 ?_
          | refine W69 ?_)
        | refine W69 ?_)
      | refine W77 ?_
      | (refine W78 ?_; refine W79 ?_ ?_)
      | (refine W80 ?_; refine W81 ?_ ?_ ?_)))
  first | refine XL.addw (by rfl) (by rfl) (by rfl) (by rfl) (by rfl) (by rfl) ?_ | refine XL.subw (by rfl) (by rfl) (by rfl) (by rfl) (by rfl) (by rfl) ?_
  repeat' (first
    | (refine XL.is ?_; first
      | refine W1 ?_
      | (refine W2 (fun h => ?_) (fun h => ?_) <;> try (first | (exfalso; omega) | exact absurd rfl h | (exfalso; simp at h <;> omega)))
      | refine W3 ?_
      | (refine W4 ?_; first
        | refine W5 ?_
        | refine W6 ?_
        | refine W7 ?_
        | refine W8 ?_
        | refine W9 ?_
        | refine W10 ?_
        | refine W11 ?_)
      | (refine W12 ?_; first
        | refine W13 ?_
        | refine W14 ?_
        | refine W15 ?_
        | refine W16 ?_
        | refine W11 ?_)
      | (refine W17 ?_; first
        | refine W18 ?_
        | refine W19 ?_
        | refine W20 ?_
        | refine W21 ?_
        | refine W22 ?_
        | refine W11 ?_)
      | (refine W23 ?_; first
        | refine W24 ?_
        | refine W25 ?_)
      | (refine W26 ?_; first
        | refine W27 ?_
        | refine W28 ?_
        | refine W29 ?_
        | refine W30 ?_
        | refine W31 ?_)
      | refine XL.pure 1 (by rfl) ?_
      | refine W32 ?_
      | (refine W33 ?_; first
        | refine W34 ?_
        | refine W35 ?_
        | refine W36 ?_
        | refine W37 ?_
        | refine W38 ?_
        | refine W39 ?_
        | refine W40 ?_
        | refine W41 ?_
        | refine W42 ?_
        | refine W43 ?_
        | refine W44 ?_
        | refine W45 ?_
        | refine W46 ?_)
      | refine W47 ?_
      | refine W48 ?_
      | (refine W49 (fun b => ?_))
      | (refine W50 (fun b => ?_))
      | (refine W51 (fun b => ?_))
      | (refine W52 (fun b2 => ?_)))
    | (refine XC.is ?_; first
      | refine W82 ?_
      | refine W83 ?_
      | refine W84 ?_
      | refine W85 ?_
      | refine W86 ?_
      | refine W87 ?_
      | (refine W88 ?_; first
        | (refine W89 (fun h => ?_) (fun h => ?_) <;> try (first | (exfalso; omega) | exact absurd rfl h | (exfalso; simp at h <;> omega)))
        | refine W90 ?_
        | refine W91 ?_)
      | (refine W92 ?_; first
        | refine W93 ?_
        | (refine XC.planG (by kernel_rfl) (fun _ m h => h.drewn m) ?_; (conv => arg 5; reduce); refine XG0.of ?_; (conv => arg 5; reduce); (conv => arg 6; reduce); refine XG.go (by decide +kernel) ?_)))
    | (refine XQ.is ?_; first
      | refine W94 ?_
      | refine W95 ?_
      | (refine W96 ?_; refine W97 ?_)
      | refine W98 ?_
      | refine W99 ?_
      | refine W100 ?_
      | refine W101 ?_
      | refine W102 ?_
      | refine W103 ?_
      | refine W104 ?_
      | refine W105 ?_
      | refine W106 ?_
      | (refine W107 ?_; refine W108 ?_))
    | (refine XS.is ?_; first
      | (refine W53 ?_; refine W54 ?_)
      | (refine W55 ?_; first
        | refine W56 ?_
        | (refine W57 (fun h => ?_) (fun h => ?_) <;> try (first | (exfalso; omega) | exact absurd rfl h | (exfalso; simp at h <;> omega)))
        | refine W58 ?_
        | (refine W59 ?_; first
          | refine W60 ?_
          | refine W61 ?_
          | refine W62 ?_
          | refine W63 ?_
          | refine W64 ?_
          | refine W65 ?_)
        | (refine W66 ?_; first
          | refine W67 ?_
          | refine W68 ?_
          | refine W69 ?_)
        | (refine W70 ?_; first
          | refine W71 ?_
          | refine W72 ?_
          | refine W73 ?_
          | refine W74 ?_
          | refine W69 ?_)
        | (refine W75 ?_; first
          | refine W76 ?_
          | refine W69 ?_)
        | refine W69 ?_)
      | refine W77 ?_
      | (refine W78 ?_; refine W79 ?_ ?_)
      | (refine W80 ?_; refine W81 ?_ ?_ ?_)))
  first | refine XL.addw (by rfl) (by rfl) (by rfl) (by rfl) (by rfl) (by rfl) ?_ | refine XL.subw (by rfl) (by rfl) (by rfl) (by rfl) (by rfl) (by rfl) ?_
  repeat' (first
    | (refine XL.is ?_; first
      | refine W1 ?_
      | (refine W2 (fun h => ?_) (fun h => ?_) <;> try (first | (exfalso; omega) | exact absurd rfl h | (exfalso; simp at h <;> omega)))
      | refine W3 ?_
      | (refine W4 ?_; first
        | refine W5 ?_
        | refine W6 ?_
        | refine W7 ?_
        | refine W8 ?_
        | refine W9 ?_
        | refine W10 ?_
        | refine W11 ?_)
      | (refine W12 ?_; first
        | refine W13 ?_
        | refine W14 ?_
        | refine W15 ?_
        | refine W16 ?_
        | refine W11 ?_)
      | (refine W17 ?_; first
        | refine W18 ?_
        | refine W19 ?_
        | refine W20 ?_
        | refine W21 ?_
        | refine W22 ?_
        | refine W11 ?_)
      | (refine W23 ?_; first
        | refine W24 ?_
        | refine W25 ?_)
      | (refine W26 ?_; first
        | refine W27 ?_
        | refine W28 ?_
        | refine W29 ?_
        | refine W30 ?_
        | refine W31 ?_)
      | refine XL.pure 1 (by rfl) ?_
      | refine W32 ?_
      | (refine W33 ?_; first
        | refine W34 ?_
        | refine W35 ?_
        | refine W36 ?_
        | refine W37 ?_
        | refine W38 ?_
        | refine W39 ?_
        | refine W40 ?_
        | refine W41 ?_
        | refine W42 ?_
        | refine W43 ?_
        | refine W44 ?_
        | refine W45 ?_
        | refine W46 ?_)
      | refine W47 ?_
      | refine W48 ?_
      | (refine W49 (fun b => ?_))
      | (refine W50 (fun b => ?_))
      | (refine W51 (fun b => ?_))
      | (refine W52 (fun b2 => ?_)))
    | (refine XC.is ?_; first
      | refine W82 ?_
      | refine W83 ?_
      | refine W84 ?_
      | refine W85 ?_
      | refine W86 ?_
      | refine W87 ?_
      | (refine W88 ?_; first
        | (refine W89 (fun h => ?_) (fun h => ?_) <;> try (first | (exfalso; omega) | exact absurd rfl h | (exfalso; simp at h <;> omega)))
        | refine W90 ?_
        | refine W91 ?_)
      | (refine W92 ?_; first
        | refine W93 ?_
        | (refine XC.planG (by kernel_rfl) (fun _ m h => h.drewn m) ?_; (conv => arg 5; reduce); refine XG0.of ?_; (conv => arg 5; reduce); (conv => arg 6; reduce); refine XG.go (by decide +kernel) ?_)))
    | (refine XQ.is ?_; first
      | refine W94 ?_
      | refine W95 ?_
      | (refine W96 ?_; refine W97 ?_)
      | refine W98 ?_
      | refine W99 ?_
      | refine W100 ?_
      | refine W101 ?_
      | refine W102 ?_
      | refine W103 ?_
      | refine W104 ?_
      | refine W105 ?_
      | refine W106 ?_
      | (refine W107 ?_; refine W108 ?_))
    | (refine XS.is ?_; first
      | (refine W53 ?_; refine W54 ?_)
      | (refine W55 ?_; first
        | refine W56 ?_
        | (refine W57 (fun h => ?_) (fun h => ?_) <;> try (first | (exfalso; omega) | exact absurd rfl h | (exfalso; simp at h <;> omega)))
        | refine W58 ?_
        | (refine W59 ?_; first
          | refine W60 ?_
          | refine W61 ?_
          | refine W62 ?_
          | refine W63 ?_
          | refine W64 ?_
          | refine W65 ?_)
        | (refine W66 ?_; first
          | refine W67 ?_
          | refine W68 ?_
          | refine W69 ?_)
        | (refine W70 ?_; first
          | refine W71 ?_
          | refine W72 ?_
          | refine W73 ?_
          | refine W74 ?_
          | refine W69 ?_)
        | (refine W75 ?_; first
          | refine W76 ?_
          | refine W69 ?_)
        | refine W69 ?_)
      | refine W77 ?_
      | (refine W78 ?_; refine W79 ?_ ?_)
      | (refine W80 ?_; refine W81 ?_ ?_ ?_)))
  all_goals first
    | exact XQ.consNil (by rfl) (by rfl) (by simp [insnS, plus, minus, *]) (by (repeat' (first | exact Sels.nil | exact Sel.here | apply Sels.cons | apply Sel.there)); done)
    | exact XQ.consLit [conN ({ kind := 1, a := w64 (first p fn + I.a), site := I.b })] (by rfl) (by rfl) .here rfl (fun C hC => by rw [List.mem_singleton.1 hC]; exact ⟨rfl, rfl⟩) (by simp [insnS, *]) (by (repeat' (first | exact Sels.nil | exact Sel.here | apply Sels.cons | apply Sel.there)); done)
    | exact XQ.consLit [conN ({ kind := 1, a := w64 (first p fn + I.a), site := I.n })] (by rfl) (by rfl) .here rfl (fun C hC => by rw [List.mem_singleton.1 hC]; exact ⟨rfl, rfl⟩) (by simp [insnS, *]) (by (repeat' (first | exact Sels.nil | exact Sel.here | apply Sels.cons | apply Sel.there)); done)
    | (refine XL.trir (two_tri (k := 3) (a := w64 (first p fn + I.a)) (b := w64 (first p fn + I.b)) (n := I.n)) (by rfl) (by rfl) (by rfl) (by rfl) (by rfl) (by rfl) (by rfl) (by (repeat' (first | exact Sels.nil | exact Sel.here | apply Sels.cons | apply Sel.there)); done) (by (repeat (first | exact sub0 | refine subC (by repeat (first | exact List.Mem.head _ | apply List.Mem.tail)) ?_)); done) ?_
       rintro v -
       conv => arg 9; dsimp only [List.cons_append, List.nil_append]
       try conv => arg 7; dsimp only
       repeat' (first
         | (refine XL.is ?_; first
           | refine W1 ?_
           | (refine W2 (fun h => ?_) (fun h => ?_) <;> try (first | (exfalso; omega) | exact absurd rfl h | (exfalso; simp at h <;> omega)))
           | refine W3 ?_
           | (refine W4 ?_; first
             | refine W5 ?_
             | refine W6 ?_
             | refine W7 ?_
             | refine W8 ?_
             | refine W9 ?_
             | refine W10 ?_
             | refine W11 ?_)
           | (refine W12 ?_; first
             | refine W13 ?_
             | refine W14 ?_
             | refine W15 ?_
             | refine W16 ?_
             | refine W11 ?_)
           | (refine W17 ?_; first
             | refine W18 ?_
             | refine W19 ?_
             | refine W20 ?_
             | refine W21 ?_
             | refine W22 ?_
             | refine W11 ?_)
           | (refine W23 ?_; first
             | refine W24 ?_
             | refine W25 ?_)
           | (refine W26 ?_; first
             | refine W27 ?_
             | refine W28 ?_
             | refine W29 ?_
             | refine W30 ?_
             | refine W31 ?_)
           | refine XL.pure 1 (by rfl) ?_
           | refine W32 ?_
           | (refine W33 ?_; first
             | refine W34 ?_
             | refine W35 ?_
             | refine W36 ?_
             | refine W37 ?_
             | refine W38 ?_
             | refine W39 ?_
             | refine W40 ?_
             | refine W41 ?_
             | refine W42 ?_
             | refine W43 ?_
             | refine W44 ?_
             | refine W45 ?_
             | refine W46 ?_)
           | refine W47 ?_
           | refine W48 ?_
           | (refine W49 (fun b => ?_))
           | (refine W50 (fun b => ?_))
           | (refine W51 (fun b => ?_))
           | (refine W52 (fun b2 => ?_)))
         | (refine XC.is ?_; first
           | refine W82 ?_
           | refine W83 ?_
           | refine W84 ?_
           | refine W85 ?_
           | refine W86 ?_
           | refine W87 ?_
           | (refine W88 ?_; first
             | (refine W89 (fun h => ?_) (fun h => ?_) <;> try (first | (exfalso; omega) | exact absurd rfl h | (exfalso; simp at h <;> omega)))
             | refine W90 ?_
             | refine W91 ?_)
           | (refine W92 ?_; first
             | refine W93 ?_
             | (refine XC.planG (by kernel_rfl) (fun _ m h => h.drewn m) ?_; (conv => arg 5; reduce); refine XG0.of ?_; (conv => arg 5; reduce); (conv => arg 6; reduce); refine XG.go (by decide +kernel) ?_)))
         | (refine XQ.is ?_; first
           | refine W94 ?_
           | refine W95 ?_
           | (refine W96 ?_; refine W97 ?_)
           | refine W98 ?_
           | refine W99 ?_
           | refine W100 ?_
           | refine W101 ?_
           | refine W102 ?_
           | refine W103 ?_
           | refine W104 ?_
           | refine W105 ?_
           | refine W106 ?_
           | (refine W107 ?_; refine W108 ?_))
         | (refine XS.is ?_; first
           | (refine W53 ?_; refine W54 ?_)
           | (refine W55 ?_; first
             | refine W56 ?_
             | (refine W57 (fun h => ?_) (fun h => ?_) <;> try (first | (exfalso; omega) | exact absurd rfl h | (exfalso; simp at h <;> omega)))
             | refine W58 ?_
             | (refine W59 ?_; first
               | refine W60 ?_
               | refine W61 ?_
               | refine W62 ?_
               | refine W63 ?_
               | refine W64 ?_
               | refine W65 ?_)
             | (refine W66 ?_; first
               | refine W67 ?_
               | refine W68 ?_
               | refine W69 ?_)
             | (refine W70 ?_; first
               | refine W71 ?_
               | refine W72 ?_
               | refine W73 ?_
               | refine W74 ?_
               | refine W69 ?_)
             | (refine W75 ?_; first
               | refine W76 ?_
               | refine W69 ?_)
             | refine W69 ?_)
           | refine W77 ?_
           | (refine W78 ?_; refine W79 ?_ ?_)
           | (refine W80 ?_; refine W81 ?_ ?_ ?_)))
       exact XQ.consRow [conN (two 3 (w64 (first p fn + I.a)) (w64 (first p fn + I.b)) I.n)] (by rfl) (by rfl) .here rfl rfl (fun C hC => by rw [List.mem_singleton.1 hC]; exact ⟨rfl, rfl⟩) (by simp [insnS, plus, minus, *]) (by (repeat' (first | exact Sels.nil | exact Sel.here | apply Sels.cons | apply Sel.there)); done))
    | (refine XL.trir (two_tri (k := 4) (a := w64 (first p fn + I.a)) (b := w64 (first p fn + I.b)) (n := I.n)) (by rfl) (by rfl) (by rfl) (by rfl) (by rfl) (by rfl) (by rfl) (by (repeat' (first | exact Sels.nil | exact Sel.here | apply Sels.cons | apply Sel.there)); done) (by (repeat (first | exact sub0 | refine subC (by repeat (first | exact List.Mem.head _ | apply List.Mem.tail)) ?_)); done) ?_
       rintro v -
       conv => arg 9; dsimp only [List.cons_append, List.nil_append]
       try conv => arg 7; dsimp only
       repeat' (first
         | (refine XL.is ?_; first
           | refine W1 ?_
           | (refine W2 (fun h => ?_) (fun h => ?_) <;> try (first | (exfalso; omega) | exact absurd rfl h | (exfalso; simp at h <;> omega)))
           | refine W3 ?_
           | (refine W4 ?_; first
             | refine W5 ?_
             | refine W6 ?_
             | refine W7 ?_
             | refine W8 ?_
             | refine W9 ?_
             | refine W10 ?_
             | refine W11 ?_)
           | (refine W12 ?_; first
             | refine W13 ?_
             | refine W14 ?_
             | refine W15 ?_
             | refine W16 ?_
             | refine W11 ?_)
           | (refine W17 ?_; first
             | refine W18 ?_
             | refine W19 ?_
             | refine W20 ?_
             | refine W21 ?_
             | refine W22 ?_
             | refine W11 ?_)
           | (refine W23 ?_; first
             | refine W24 ?_
             | refine W25 ?_)
           | (refine W26 ?_; first
             | refine W27 ?_
             | refine W28 ?_
             | refine W29 ?_
             | refine W30 ?_
             | refine W31 ?_)
           | refine XL.pure 1 (by rfl) ?_
           | refine W32 ?_
           | (refine W33 ?_; first
             | refine W34 ?_
             | refine W35 ?_
             | refine W36 ?_
             | refine W37 ?_
             | refine W38 ?_
             | refine W39 ?_
             | refine W40 ?_
             | refine W41 ?_
             | refine W42 ?_
             | refine W43 ?_
             | refine W44 ?_
             | refine W45 ?_
             | refine W46 ?_)
           | refine W47 ?_
           | refine W48 ?_
           | (refine W49 (fun b => ?_))
           | (refine W50 (fun b => ?_))
           | (refine W51 (fun b => ?_))
           | (refine W52 (fun b2 => ?_)))
         | (refine XC.is ?_; first
           | refine W82 ?_
           | refine W83 ?_
           | refine W84 ?_
           | refine W85 ?_
           | refine W86 ?_
           | refine W87 ?_
           | (refine W88 ?_; first
             | (refine W89 (fun h => ?_) (fun h => ?_) <;> try (first | (exfalso; omega) | exact absurd rfl h | (exfalso; simp at h <;> omega)))
             | refine W90 ?_
             | refine W91 ?_)
           | (refine W92 ?_; first
             | refine W93 ?_
             | (refine XC.planG (by kernel_rfl) (fun _ m h => h.drewn m) ?_; (conv => arg 5; reduce); refine XG0.of ?_; (conv => arg 5; reduce); (conv => arg 6; reduce); refine XG.go (by decide +kernel) ?_)))
         | (refine XQ.is ?_; first
           | refine W94 ?_
           | refine W95 ?_
           | (refine W96 ?_; refine W97 ?_)
           | refine W98 ?_
           | refine W99 ?_
           | refine W100 ?_
           | refine W101 ?_
           | refine W102 ?_
           | refine W103 ?_
           | refine W104 ?_
           | refine W105 ?_
           | refine W106 ?_
           | (refine W107 ?_; refine W108 ?_))
         | (refine XS.is ?_; first
           | (refine W53 ?_; refine W54 ?_)
           | (refine W55 ?_; first
             | refine W56 ?_
             | (refine W57 (fun h => ?_) (fun h => ?_) <;> try (first | (exfalso; omega) | exact absurd rfl h | (exfalso; simp at h <;> omega)))
             | refine W58 ?_
             | (refine W59 ?_; first
               | refine W60 ?_
               | refine W61 ?_
               | refine W62 ?_
               | refine W63 ?_
               | refine W64 ?_
               | refine W65 ?_)
             | (refine W66 ?_; first
               | refine W67 ?_
               | refine W68 ?_
               | refine W69 ?_)
             | (refine W70 ?_; first
               | refine W71 ?_
               | refine W72 ?_
               | refine W73 ?_
               | refine W74 ?_
               | refine W69 ?_)
             | (refine W75 ?_; first
               | refine W76 ?_
               | refine W69 ?_)
             | refine W69 ?_)
           | refine W77 ?_
           | (refine W78 ?_; refine W79 ?_ ?_)
           | (refine W80 ?_; refine W81 ?_ ?_ ?_)))
       exact XQ.consRow [conN (two 4 (w64 (first p fn + I.a)) (w64 (first p fn + I.b)) I.n)] (by rfl) (by rfl) .here rfl rfl (fun C hC => by rw [List.mem_singleton.1 hC]; exact ⟨rfl, rfl⟩) (by simp [insnS, plus, minus, *]) (by (repeat' (first | exact Sels.nil | exact Sel.here | apply Sels.cons | apply Sel.there)); done))
    | (refine XL.trir (two_tri (k := 4) (a := w64 (first p fn + I.a)) (b := w64 (first p fn + I.b)) (n := 1)) (by rfl) (by rfl) (by rfl) (by rfl) (by rfl) (by rfl) (by rfl) (by (repeat' (first | exact Sels.nil | exact Sel.here | apply Sels.cons | apply Sel.there)); done) (by (repeat (first | exact sub0 | refine subC (by repeat (first | exact List.Mem.head _ | apply List.Mem.tail)) ?_)); done) ?_
       rintro v -
       conv => arg 9; dsimp only [List.cons_append, List.nil_append]
       try conv => arg 7; dsimp only
       repeat' (first
         | (refine XL.is ?_; first
           | refine W1 ?_
           | (refine W2 (fun h => ?_) (fun h => ?_) <;> try (first | (exfalso; omega) | exact absurd rfl h | (exfalso; simp at h <;> omega)))
           | refine W3 ?_
           | (refine W4 ?_; first
             | refine W5 ?_
             | refine W6 ?_
             | refine W7 ?_
             | refine W8 ?_
             | refine W9 ?_
             | refine W10 ?_
             | refine W11 ?_)
           | (refine W12 ?_; first
             | refine W13 ?_
             | refine W14 ?_
             | refine W15 ?_
             | refine W16 ?_
             | refine W11 ?_)
           | (refine W17 ?_; first
             | refine W18 ?_
             | refine W19 ?_
             | refine W20 ?_
             | refine W21 ?_
             | refine W22 ?_
             | refine W11 ?_)
           | (refine W23 ?_; first
             | refine W24 ?_
             | refine W25 ?_)
           | (refine W26 ?_; first
             | refine W27 ?_
             | refine W28 ?_
             | refine W29 ?_
             | refine W30 ?_
             | refine W31 ?_)
           | refine XL.pure 1 (by rfl) ?_
           | refine W32 ?_
           | (refine W33 ?_; first
             | refine W34 ?_
             | refine W35 ?_
             | refine W36 ?_
             | refine W37 ?_
             | refine W38 ?_
             | refine W39 ?_
             | refine W40 ?_
             | refine W41 ?_
             | refine W42 ?_
             | refine W43 ?_
             | refine W44 ?_
             | refine W45 ?_
             | refine W46 ?_)
           | refine W47 ?_
           | refine W48 ?_
           | (refine W49 (fun b => ?_))
           | (refine W50 (fun b => ?_))
           | (refine W51 (fun b => ?_))
           | (refine W52 (fun b2 => ?_)))
         | (refine XC.is ?_; first
           | refine W82 ?_
           | refine W83 ?_
           | refine W84 ?_
           | refine W85 ?_
           | refine W86 ?_
           | refine W87 ?_
           | (refine W88 ?_; first
             | (refine W89 (fun h => ?_) (fun h => ?_) <;> try (first | (exfalso; omega) | exact absurd rfl h | (exfalso; simp at h <;> omega)))
             | refine W90 ?_
             | refine W91 ?_)
           | (refine W92 ?_; first
             | refine W93 ?_
             | (refine XC.planG (by kernel_rfl) (fun _ m h => h.drewn m) ?_; (conv => arg 5; reduce); refine XG0.of ?_; (conv => arg 5; reduce); (conv => arg 6; reduce); refine XG.go (by decide +kernel) ?_)))
         | (refine XQ.is ?_; first
           | refine W94 ?_
           | refine W95 ?_
           | (refine W96 ?_; refine W97 ?_)
           | refine W98 ?_
           | refine W99 ?_
           | refine W100 ?_
           | refine W101 ?_
           | refine W102 ?_
           | refine W103 ?_
           | refine W104 ?_
           | refine W105 ?_
           | refine W106 ?_
           | (refine W107 ?_; refine W108 ?_))
         | (refine XS.is ?_; first
           | (refine W53 ?_; refine W54 ?_)
           | (refine W55 ?_; first
             | refine W56 ?_
             | (refine W57 (fun h => ?_) (fun h => ?_) <;> try (first | (exfalso; omega) | exact absurd rfl h | (exfalso; simp at h <;> omega)))
             | refine W58 ?_
             | (refine W59 ?_; first
               | refine W60 ?_
               | refine W61 ?_
               | refine W62 ?_
               | refine W63 ?_
               | refine W64 ?_
               | refine W65 ?_)
             | (refine W66 ?_; first
               | refine W67 ?_
               | refine W68 ?_
               | refine W69 ?_)
             | (refine W70 ?_; first
               | refine W71 ?_
               | refine W72 ?_
               | refine W73 ?_
               | refine W74 ?_
               | refine W69 ?_)
             | (refine W75 ?_; first
               | refine W76 ?_
               | refine W69 ?_)
             | refine W69 ?_)
           | refine W77 ?_
           | (refine W78 ?_; refine W79 ?_ ?_)
           | (refine W80 ?_; refine W81 ?_ ?_ ?_)))
       exact XQ.consRow [conN (two 4 (w64 (first p fn + I.a)) (w64 (first p fn + I.b)) 1)] (by rfl) (by rfl) .here rfl rfl (fun C hC => by rw [List.mem_singleton.1 hC]; exact ⟨rfl, rfl⟩) (by simp [insnS, plus, minus, *]) (by (repeat' (first | exact Sels.nil | exact Sel.here | apply Sels.cons | apply Sel.there)); done))
    | (refine XL.trir (two_tri (k := 2) (a := w64 (first p fn + I.a)) (b := w64 (first p fn + I.b)) (n := 0)) (by rfl) (by rfl) (by rfl) (by rfl) (by rfl) (by rfl) (by rfl) (by (repeat' (first | exact Sels.nil | exact Sel.here | apply Sels.cons | apply Sel.there)); done) (by (repeat (first | exact sub0 | refine subC (by repeat (first | exact List.Mem.head _ | apply List.Mem.tail)) ?_)); done) ?_
       rintro v -
       conv => arg 9; dsimp only [List.cons_append, List.nil_append]
       try conv => arg 7; dsimp only
       repeat' (first
         | (refine XL.is ?_; first
           | refine W1 ?_
           | (refine W2 (fun h => ?_) (fun h => ?_) <;> try (first | (exfalso; omega) | exact absurd rfl h | (exfalso; simp at h <;> omega)))
           | refine W3 ?_
           | (refine W4 ?_; first
             | refine W5 ?_
             | refine W6 ?_
             | refine W7 ?_
             | refine W8 ?_
             | refine W9 ?_
             | refine W10 ?_
             | refine W11 ?_)
           | (refine W12 ?_; first
             | refine W13 ?_
             | refine W14 ?_
             | refine W15 ?_
             | refine W16 ?_
             | refine W11 ?_)
           | (refine W17 ?_; first
             | refine W18 ?_
             | refine W19 ?_
             | refine W20 ?_
             | refine W21 ?_
             | refine W22 ?_
             | refine W11 ?_)
           | (refine W23 ?_; first
             | refine W24 ?_
             | refine W25 ?_)
           | (refine W26 ?_; first
             | refine W27 ?_
             | refine W28 ?_
             | refine W29 ?_
             | refine W30 ?_
             | refine W31 ?_)
           | refine XL.pure 1 (by rfl) ?_
           | refine W32 ?_
           | (refine W33 ?_; first
             | refine W34 ?_
             | refine W35 ?_
             | refine W36 ?_
             | refine W37 ?_
             | refine W38 ?_
             | refine W39 ?_
             | refine W40 ?_
             | refine W41 ?_
             | refine W42 ?_
             | refine W43 ?_
             | refine W44 ?_
             | refine W45 ?_
             | refine W46 ?_)
           | refine W47 ?_
           | refine W48 ?_
           | (refine W49 (fun b => ?_))
           | (refine W50 (fun b => ?_))
           | (refine W51 (fun b => ?_))
           | (refine W52 (fun b2 => ?_)))
         | (refine XC.is ?_; first
           | refine W82 ?_
           | refine W83 ?_
           | refine W84 ?_
           | refine W85 ?_
           | refine W86 ?_
           | refine W87 ?_
           | (refine W88 ?_; first
             | (refine W89 (fun h => ?_) (fun h => ?_) <;> try (first | (exfalso; omega) | exact absurd rfl h | (exfalso; simp at h <;> omega)))
             | refine W90 ?_
             | refine W91 ?_)
           | (refine W92 ?_; first
             | refine W93 ?_
             | (refine XC.planG (by kernel_rfl) (fun _ m h => h.drewn m) ?_; (conv => arg 5; reduce); refine XG0.of ?_; (conv => arg 5; reduce); (conv => arg 6; reduce); refine XG.go (by decide +kernel) ?_)))
         | (refine XQ.is ?_; first
           | refine W94 ?_
           | refine W95 ?_
           | (refine W96 ?_; refine W97 ?_)
           | refine W98 ?_
           | refine W99 ?_
           | refine W100 ?_
           | refine W101 ?_
           | refine W102 ?_
           | refine W103 ?_
           | refine W104 ?_
           | refine W105 ?_
           | refine W106 ?_
           | (refine W107 ?_; refine W108 ?_))
         | (refine XS.is ?_; first
           | (refine W53 ?_; refine W54 ?_)
           | (refine W55 ?_; first
             | refine W56 ?_
             | (refine W57 (fun h => ?_) (fun h => ?_) <;> try (first | (exfalso; omega) | exact absurd rfl h | (exfalso; simp at h <;> omega)))
             | refine W58 ?_
             | (refine W59 ?_; first
               | refine W60 ?_
               | refine W61 ?_
               | refine W62 ?_
               | refine W63 ?_
               | refine W64 ?_
               | refine W65 ?_)
             | (refine W66 ?_; first
               | refine W67 ?_
               | refine W68 ?_
               | refine W69 ?_)
             | (refine W70 ?_; first
               | refine W71 ?_
               | refine W72 ?_
               | refine W73 ?_
               | refine W74 ?_
               | refine W69 ?_)
             | (refine W75 ?_; first
               | refine W76 ?_
               | refine W69 ?_)
             | refine W69 ?_)
           | refine W77 ?_
           | (refine W78 ?_; refine W79 ?_ ?_)
           | (refine W80 ?_; refine W81 ?_ ?_ ?_)))
       exact XQ.consRow [conN (two 2 (w64 (first p fn + I.a)) (w64 (first p fn + I.b)) 0)] (by rfl) (by rfl) .here rfl rfl (fun C hC => by rw [List.mem_singleton.1 hC]; exact ⟨rfl, rfl⟩) (by simp [insnS, plus, minus, *]) (by (repeat' (first | exact Sels.nil | exact Sel.here | apply Sels.cons | apply Sel.there)); done))
    | (refine XL.trir (two_tri (k := 5) (a := w64 (first p fn + I.a)) (b := w64 (first p fn + I.b)) (n := I.w)) (by rfl) (by rfl) (by rfl) (by rfl) (by rfl) (by rfl) (by rfl) (by (repeat' (first | exact Sels.nil | exact Sel.here | apply Sels.cons | apply Sel.there)); done) (by (repeat (first | exact sub0 | refine subC (by repeat (first | exact List.Mem.head _ | apply List.Mem.tail)) ?_)); done) ?_
       rintro v -
       conv => arg 9; dsimp only [List.cons_append, List.nil_append]
       try conv => arg 7; dsimp only
       repeat' (first
         | (refine XL.is ?_; first
           | refine W1 ?_
           | (refine W2 (fun h => ?_) (fun h => ?_) <;> try (first | (exfalso; omega) | exact absurd rfl h | (exfalso; simp at h <;> omega)))
           | refine W3 ?_
           | (refine W4 ?_; first
             | refine W5 ?_
             | refine W6 ?_
             | refine W7 ?_
             | refine W8 ?_
             | refine W9 ?_
             | refine W10 ?_
             | refine W11 ?_)
           | (refine W12 ?_; first
             | refine W13 ?_
             | refine W14 ?_
             | refine W15 ?_
             | refine W16 ?_
             | refine W11 ?_)
           | (refine W17 ?_; first
             | refine W18 ?_
             | refine W19 ?_
             | refine W20 ?_
             | refine W21 ?_
             | refine W22 ?_
             | refine W11 ?_)
           | (refine W23 ?_; first
             | refine W24 ?_
             | refine W25 ?_)
           | (refine W26 ?_; first
             | refine W27 ?_
             | refine W28 ?_
             | refine W29 ?_
             | refine W30 ?_
             | refine W31 ?_)
           | refine XL.pure 1 (by rfl) ?_
           | refine W32 ?_
           | (refine W33 ?_; first
             | refine W34 ?_
             | refine W35 ?_
             | refine W36 ?_
             | refine W37 ?_
             | refine W38 ?_
             | refine W39 ?_
             | refine W40 ?_
             | refine W41 ?_
             | refine W42 ?_
             | refine W43 ?_
             | refine W44 ?_
             | refine W45 ?_
             | refine W46 ?_)
           | refine W47 ?_
           | refine W48 ?_
           | (refine W49 (fun b => ?_))
           | (refine W50 (fun b => ?_))
           | (refine W51 (fun b => ?_))
           | (refine W52 (fun b2 => ?_)))
         | (refine XC.is ?_; first
           | refine W82 ?_
           | refine W83 ?_
           | refine W84 ?_
           | refine W85 ?_
           | refine W86 ?_
           | refine W87 ?_
           | (refine W88 ?_; first
             | (refine W89 (fun h => ?_) (fun h => ?_) <;> try (first | (exfalso; omega) | exact absurd rfl h | (exfalso; simp at h <;> omega)))
             | refine W90 ?_
             | refine W91 ?_)
           | (refine W92 ?_; first
             | refine W93 ?_
             | (refine XC.planG (by kernel_rfl) (fun _ m h => h.drewn m) ?_; (conv => arg 5; reduce); refine XG0.of ?_; (conv => arg 5; reduce); (conv => arg 6; reduce); refine XG.go (by decide +kernel) ?_)))
         | (refine XQ.is ?_; first
           | refine W94 ?_
           | refine W95 ?_
           | (refine W96 ?_; refine W97 ?_)
           | refine W98 ?_
           | refine W99 ?_
           | refine W100 ?_
           | refine W101 ?_
           | refine W102 ?_
           | refine W103 ?_
           | refine W104 ?_
           | refine W105 ?_
           | refine W106 ?_
           | (refine W107 ?_; refine W108 ?_))
         | (refine XS.is ?_; first
           | (refine W53 ?_; refine W54 ?_)
           | (refine W55 ?_; first
             | refine W56 ?_
             | (refine W57 (fun h => ?_) (fun h => ?_) <;> try (first | (exfalso; omega) | exact absurd rfl h | (exfalso; simp at h <;> omega)))
             | refine W58 ?_
             | (refine W59 ?_; first
               | refine W60 ?_
               | refine W61 ?_
               | refine W62 ?_
               | refine W63 ?_
               | refine W64 ?_
               | refine W65 ?_)
             | (refine W66 ?_; first
               | refine W67 ?_
               | refine W68 ?_
               | refine W69 ?_)
             | (refine W70 ?_; first
               | refine W71 ?_
               | refine W72 ?_
               | refine W73 ?_
               | refine W74 ?_
               | refine W69 ?_)
             | (refine W75 ?_; first
               | refine W76 ?_
               | refine W69 ?_)
             | refine W69 ?_)
           | refine W77 ?_
           | (refine W78 ?_; refine W79 ?_ ?_)
           | (refine W80 ?_; refine W81 ?_ ?_ ?_)))
       exact XQ.consRow [conN (two 5 (w64 (first p fn + I.a)) (w64 (first p fn + I.b)) I.w)] (by rfl) (by rfl) .here rfl rfl (fun C hC => by rw [List.mem_singleton.1 hC]; exact ⟨rfl, rfl⟩) (by simp [insnS, plus, minus, *]) (by (repeat' (first | exact Sels.nil | exact Sel.here | apply Sels.cons | apply Sel.there)); done))
    | (refine XL.trir (two_tri (k := 6) (a := w64 (first p fn + I.a)) (b := w64 (first p fn + I.b)) (n := I.w)) (by rfl) (by rfl) (by rfl) (by rfl) (by rfl) (by rfl) (by rfl) (by (repeat' (first | exact Sels.nil | exact Sel.here | apply Sels.cons | apply Sel.there)); done) (by (repeat (first | exact sub0 | refine subC (by repeat (first | exact List.Mem.head _ | apply List.Mem.tail)) ?_)); done) ?_
       rintro v -
       conv => arg 9; dsimp only [List.cons_append, List.nil_append]
       try conv => arg 7; dsimp only
       repeat' (first
         | (refine XL.is ?_; first
           | refine W1 ?_
           | (refine W2 (fun h => ?_) (fun h => ?_) <;> try (first | (exfalso; omega) | exact absurd rfl h | (exfalso; simp at h <;> omega)))
           | refine W3 ?_
           | (refine W4 ?_; first
             | refine W5 ?_
             | refine W6 ?_
             | refine W7 ?_
             | refine W8 ?_
             | refine W9 ?_
             | refine W10 ?_
             | refine W11 ?_)
           | (refine W12 ?_; first
             | refine W13 ?_
             | refine W14 ?_
             | refine W15 ?_
             | refine W16 ?_
             | refine W11 ?_)
           | (refine W17 ?_; first
             | refine W18 ?_
             | refine W19 ?_
             | refine W20 ?_
             | refine W21 ?_
             | refine W22 ?_
             | refine W11 ?_)
           | (refine W23 ?_; first
             | refine W24 ?_
             | refine W25 ?_)
           | (refine W26 ?_; first
             | refine W27 ?_
             | refine W28 ?_
             | refine W29 ?_
             | refine W30 ?_
             | refine W31 ?_)
           | refine XL.pure 1 (by rfl) ?_
           | refine W32 ?_
           | (refine W33 ?_; first
             | refine W34 ?_
             | refine W35 ?_
             | refine W36 ?_
             | refine W37 ?_
             | refine W38 ?_
             | refine W39 ?_
             | refine W40 ?_
             | refine W41 ?_
             | refine W42 ?_
             | refine W43 ?_
             | refine W44 ?_
             | refine W45 ?_
             | refine W46 ?_)
           | refine W47 ?_
           | refine W48 ?_
           | (refine W49 (fun b => ?_))
           | (refine W50 (fun b => ?_))
           | (refine W51 (fun b => ?_))
           | (refine W52 (fun b2 => ?_)))
         | (refine XC.is ?_; first
           | refine W82 ?_
           | refine W83 ?_
           | refine W84 ?_
           | refine W85 ?_
           | refine W86 ?_
           | refine W87 ?_
           | (refine W88 ?_; first
             | (refine W89 (fun h => ?_) (fun h => ?_) <;> try (first | (exfalso; omega) | exact absurd rfl h | (exfalso; simp at h <;> omega)))
             | refine W90 ?_
             | refine W91 ?_)
           | (refine W92 ?_; first
             | refine W93 ?_
             | (refine XC.planG (by kernel_rfl) (fun _ m h => h.drewn m) ?_; (conv => arg 5; reduce); refine XG0.of ?_; (conv => arg 5; reduce); (conv => arg 6; reduce); refine XG.go (by decide +kernel) ?_)))
         | (refine XQ.is ?_; first
           | refine W94 ?_
           | refine W95 ?_
           | (refine W96 ?_; refine W97 ?_)
           | refine W98 ?_
           | refine W99 ?_
           | refine W100 ?_
           | refine W101 ?_
           | refine W102 ?_
           | refine W103 ?_
           | refine W104 ?_
           | refine W105 ?_
           | refine W106 ?_
           | (refine W107 ?_; refine W108 ?_))
         | (refine XS.is ?_; first
           | (refine W53 ?_; refine W54 ?_)
           | (refine W55 ?_; first
             | refine W56 ?_
             | (refine W57 (fun h => ?_) (fun h => ?_) <;> try (first | (exfalso; omega) | exact absurd rfl h | (exfalso; simp at h <;> omega)))
             | refine W58 ?_
             | (refine W59 ?_; first
               | refine W60 ?_
               | refine W61 ?_
               | refine W62 ?_
               | refine W63 ?_
               | refine W64 ?_
               | refine W65 ?_)
             | (refine W66 ?_; first
               | refine W67 ?_
               | refine W68 ?_
               | refine W69 ?_)
             | (refine W70 ?_; first
               | refine W71 ?_
               | refine W72 ?_
               | refine W73 ?_
               | refine W74 ?_
               | refine W69 ?_)
             | (refine W75 ?_; first
               | refine W76 ?_
               | refine W69 ?_)
             | refine W69 ?_)
           | refine W77 ?_
           | (refine W78 ?_; refine W79 ?_ ?_)
           | (refine W80 ?_; refine W81 ?_ ?_ ?_)))
       exact XQ.consRow [conN (two 6 (w64 (first p fn + I.a)) (w64 (first p fn + I.b)) I.w)] (by rfl) (by rfl) .here rfl rfl (fun C hC => by rw [List.mem_singleton.1 hC]; exact ⟨rfl, rfl⟩) (by simp [insnS, plus, minus, *]) (by (repeat' (first | exact Sels.nil | exact Sel.here | apply Sels.cons | apply Sel.there)); done))
    | (refine XL.trir (two_tri (k := 7) (a := w64 (first p fn + I.a)) (b := w64 (first p fn + I.b)) (n := I.n)) (by rfl) (by rfl) (by rfl) (by rfl) (by rfl) (by rfl) (by rfl) (by (repeat' (first | exact Sels.nil | exact Sel.here | apply Sels.cons | apply Sel.there)); done) (by (repeat (first | exact sub0 | refine subC (by repeat (first | exact List.Mem.head _ | apply List.Mem.tail)) ?_)); done) ?_
       rintro v -
       conv => arg 9; dsimp only [List.cons_append, List.nil_append]
       try conv => arg 7; dsimp only
       repeat' (first
         | (refine XL.is ?_; first
           | refine W1 ?_
           | (refine W2 (fun h => ?_) (fun h => ?_) <;> try (first | (exfalso; omega) | exact absurd rfl h | (exfalso; simp at h <;> omega)))
           | refine W3 ?_
           | (refine W4 ?_; first
             | refine W5 ?_
             | refine W6 ?_
             | refine W7 ?_
             | refine W8 ?_
             | refine W9 ?_
             | refine W10 ?_
             | refine W11 ?_)
           | (refine W12 ?_; first
             | refine W13 ?_
             | refine W14 ?_
             | refine W15 ?_
             | refine W16 ?_
             | refine W11 ?_)
           | (refine W17 ?_; first
             | refine W18 ?_
             | refine W19 ?_
             | refine W20 ?_
             | refine W21 ?_
             | refine W22 ?_
             | refine W11 ?_)
           | (refine W23 ?_; first
             | refine W24 ?_
             | refine W25 ?_)
           | (refine W26 ?_; first
             | refine W27 ?_
             | refine W28 ?_
             | refine W29 ?_
             | refine W30 ?_
             | refine W31 ?_)
           | refine XL.pure 1 (by rfl) ?_
           | refine W32 ?_
           | (refine W33 ?_; first
             | refine W34 ?_
             | refine W35 ?_
             | refine W36 ?_
             | refine W37 ?_
             | refine W38 ?_
             | refine W39 ?_
             | refine W40 ?_
             | refine W41 ?_
             | refine W42 ?_
             | refine W43 ?_
             | refine W44 ?_
             | refine W45 ?_
             | refine W46 ?_)
           | refine W47 ?_
           | refine W48 ?_
           | (refine W49 (fun b => ?_))
           | (refine W50 (fun b => ?_))
           | (refine W51 (fun b => ?_))
           | (refine W52 (fun b2 => ?_)))
         | (refine XC.is ?_; first
           | refine W82 ?_
           | refine W83 ?_
           | refine W84 ?_
           | refine W85 ?_
           | refine W86 ?_
           | refine W87 ?_
           | (refine W88 ?_; first
             | (refine W89 (fun h => ?_) (fun h => ?_) <;> try (first | (exfalso; omega) | exact absurd rfl h | (exfalso; simp at h <;> omega)))
             | refine W90 ?_
             | refine W91 ?_)
           | (refine W92 ?_; first
             | refine W93 ?_
             | (refine XC.planG (by kernel_rfl) (fun _ m h => h.drewn m) ?_; (conv => arg 5; reduce); refine XG0.of ?_; (conv => arg 5; reduce); (conv => arg 6; reduce); refine XG.go (by decide +kernel) ?_)))
         | (refine XQ.is ?_; first
           | refine W94 ?_
           | refine W95 ?_
           | (refine W96 ?_; refine W97 ?_)
           | refine W98 ?_
           | refine W99 ?_
           | refine W100 ?_
           | refine W101 ?_
           | refine W102 ?_
           | refine W103 ?_
           | refine W104 ?_
           | refine W105 ?_
           | refine W106 ?_
           | (refine W107 ?_; refine W108 ?_))
         | (refine XS.is ?_; first
           | (refine W53 ?_; refine W54 ?_)
           | (refine W55 ?_; first
             | refine W56 ?_
             | (refine W57 (fun h => ?_) (fun h => ?_) <;> try (first | (exfalso; omega) | exact absurd rfl h | (exfalso; simp at h <;> omega)))
             | refine W58 ?_
             | (refine W59 ?_; first
               | refine W60 ?_
               | refine W61 ?_
               | refine W62 ?_
               | refine W63 ?_
               | refine W64 ?_
               | refine W65 ?_)
             | (refine W66 ?_; first
               | refine W67 ?_
               | refine W68 ?_
               | refine W69 ?_)
             | (refine W70 ?_; first
               | refine W71 ?_
               | refine W72 ?_
               | refine W73 ?_
               | refine W74 ?_
               | refine W69 ?_)
             | (refine W75 ?_; first
               | refine W76 ?_
               | refine W69 ?_)
             | refine W69 ?_)
           | refine W77 ?_
           | (refine W78 ?_; refine W79 ?_ ?_)
           | (refine W80 ?_; refine W81 ?_ ?_ ?_)))
       exact XQ.consRow [conN (two 7 (w64 (first p fn + I.a)) (w64 (first p fn + I.b)) I.n)] (by rfl) (by rfl) .here rfl rfl (fun C hC => by rw [List.mem_singleton.1 hC]; exact ⟨rfl, rfl⟩) (by simp [insnS, plus, minus, *]) (by (repeat' (first | exact Sels.nil | exact Sel.here | apply Sels.cons | apply Sel.there)); done))
    | (refine XL.trir (two_tri (k := 7) (a := w64 (first p fn + I.a)) (b := w64 (first p fn + I.b)) (n := (-1))) (by rfl) (by rfl) (by rfl) (by rfl) (by rfl) (by rfl) (by rfl) (by (repeat' (first | exact Sels.nil | exact Sel.here | apply Sels.cons | apply Sel.there)); done) (by (repeat (first | exact sub0 | refine subC (by repeat (first | exact List.Mem.head _ | apply List.Mem.tail)) ?_)); done) ?_
       rintro v -
       conv => arg 9; dsimp only [List.cons_append, List.nil_append]
       try conv => arg 7; dsimp only
       repeat' (first
         | (refine XL.is ?_; first
           | refine W1 ?_
           | (refine W2 (fun h => ?_) (fun h => ?_) <;> try (first | (exfalso; omega) | exact absurd rfl h | (exfalso; simp at h <;> omega)))
           | refine W3 ?_
           | (refine W4 ?_; first
             | refine W5 ?_
             | refine W6 ?_
             | refine W7 ?_
             | refine W8 ?_
             | refine W9 ?_
             | refine W10 ?_
             | refine W11 ?_)
           | (refine W12 ?_; first
             | refine W13 ?_
             | refine W14 ?_
             | refine W15 ?_
             | refine W16 ?_
             | refine W11 ?_)
           | (refine W17 ?_; first
             | refine W18 ?_
             | refine W19 ?_
             | refine W20 ?_
             | refine W21 ?_
             | refine W22 ?_
             | refine W11 ?_)
           | (refine W23 ?_; first
             | refine W24 ?_
             | refine W25 ?_)
           | (refine W26 ?_; first
             | refine W27 ?_
             | refine W28 ?_
             | refine W29 ?_
             | refine W30 ?_
             | refine W31 ?_)
           | refine XL.pure 1 (by rfl) ?_
           | refine W32 ?_
           | (refine W33 ?_; first
             | refine W34 ?_
             | refine W35 ?_
             | refine W36 ?_
             | refine W37 ?_
             | refine W38 ?_
             | refine W39 ?_
             | refine W40 ?_
             | refine W41 ?_
             | refine W42 ?_
             | refine W43 ?_
             | refine W44 ?_
             | refine W45 ?_
             | refine W46 ?_)
           | refine W47 ?_
           | refine W48 ?_
           | (refine W49 (fun b => ?_))
           | (refine W50 (fun b => ?_))
           | (refine W51 (fun b => ?_))
           | (refine W52 (fun b2 => ?_)))
         | (refine XC.is ?_; first
           | refine W82 ?_
           | refine W83 ?_
           | refine W84 ?_
           | refine W85 ?_
           | refine W86 ?_
           | refine W87 ?_
           | (refine W88 ?_; first
             | (refine W89 (fun h => ?_) (fun h => ?_) <;> try (first | (exfalso; omega) | exact absurd rfl h | (exfalso; simp at h <;> omega)))
             | refine W90 ?_
             | refine W91 ?_)
           | (refine W92 ?_; first
             | refine W93 ?_
             | (refine XC.planG (by kernel_rfl) (fun _ m h => h.drewn m) ?_; (conv => arg 5; reduce); refine XG0.of ?_; (conv => arg 5; reduce); (conv => arg 6; reduce); refine XG.go (by decide +kernel) ?_)))
         | (refine XQ.is ?_; first
           | refine W94 ?_
           | refine W95 ?_
           | (refine W96 ?_; refine W97 ?_)
           | refine W98 ?_
           | refine W99 ?_
           | refine W100 ?_
           | refine W101 ?_
           | refine W102 ?_
           | refine W103 ?_
           | refine W104 ?_
           | refine W105 ?_
           | refine W106 ?_
           | (refine W107 ?_; refine W108 ?_))
         | (refine XS.is ?_; first
           | (refine W53 ?_; refine W54 ?_)
           | (refine W55 ?_; first
             | refine W56 ?_
             | (refine W57 (fun h => ?_) (fun h => ?_) <;> try (first | (exfalso; omega) | exact absurd rfl h | (exfalso; simp at h <;> omega)))
             | refine W58 ?_
             | (refine W59 ?_; first
               | refine W60 ?_
               | refine W61 ?_
               | refine W62 ?_
               | refine W63 ?_
               | refine W64 ?_
               | refine W65 ?_)
             | (refine W66 ?_; first
               | refine W67 ?_
               | refine W68 ?_
               | refine W69 ?_)
             | (refine W70 ?_; first
               | refine W71 ?_
               | refine W72 ?_
               | refine W73 ?_
               | refine W74 ?_
               | refine W69 ?_)
             | (refine W75 ?_; first
               | refine W76 ?_
               | refine W69 ?_)
             | refine W69 ?_)
           | refine W77 ?_
           | (refine W78 ?_; refine W79 ?_ ?_)
           | (refine W80 ?_; refine W81 ?_ ?_ ?_)))
       exact XQ.consRow [conN (two 7 (w64 (first p fn + I.a)) (w64 (first p fn + I.b)) (-1))] (by rfl) (by rfl) .here rfl rfl (fun C hC => by rw [List.mem_singleton.1 hC]; exact ⟨rfl, rfl⟩) (by simp [insnS, plus, minus, *]) (by (repeat' (first | exact Sels.nil | exact Sel.here | apply Sels.cons | apply Sel.there)); done))
    | (refine XL.triq (told_tri hp (k := fn) (by omega)) (by rfl) (by rfl) (by rfl) (by rfl) (by rfl) (by rfl) (by rfl) (by (repeat' (first | exact Sels.nil | exact Sel.here | apply Sels.cons | apply Sel.there)); done) (by (repeat' (first | exact Sels.nil | exact Sel.here | apply Sels.cons | apply Sel.there)); done) (by (repeat (first | exact sub0 | refine subC (by repeat (first | exact List.Mem.head _ | apply List.Mem.tail)) ?_)); done) ?_
       repeat' (first
         | (refine XL.is ?_; first
           | refine W1 ?_
           | (refine W2 (fun h => ?_) (fun h => ?_) <;> try (first | (exfalso; omega) | exact absurd rfl h | (exfalso; simp at h <;> omega)))
           | refine W3 ?_
           | (refine W4 ?_; first
             | refine W5 ?_
             | refine W6 ?_
             | refine W7 ?_
             | refine W8 ?_
             | refine W9 ?_
             | refine W10 ?_
             | refine W11 ?_)
           | (refine W12 ?_; first
             | refine W13 ?_
             | refine W14 ?_
             | refine W15 ?_
             | refine W16 ?_
             | refine W11 ?_)
           | (refine W17 ?_; first
             | refine W18 ?_
             | refine W19 ?_
             | refine W20 ?_
             | refine W21 ?_
             | refine W22 ?_
             | refine W11 ?_)
           | (refine W23 ?_; first
             | refine W24 ?_
             | refine W25 ?_)
           | (refine W26 ?_; first
             | refine W27 ?_
             | refine W28 ?_
             | refine W29 ?_
             | refine W30 ?_
             | refine W31 ?_)
           | refine XL.pure 1 (by rfl) ?_
           | refine W32 ?_
           | (refine W33 ?_; first
             | refine W34 ?_
             | refine W35 ?_
             | refine W36 ?_
             | refine W37 ?_
             | refine W38 ?_
             | refine W39 ?_
             | refine W40 ?_
             | refine W41 ?_
             | refine W42 ?_
             | refine W43 ?_
             | refine W44 ?_
             | refine W45 ?_
             | refine W46 ?_)
           | refine W47 ?_
           | refine W48 ?_
           | (refine W49 (fun b => ?_))
           | (refine W50 (fun b => ?_))
           | (refine W51 (fun b => ?_))
           | (refine W52 (fun b2 => ?_)))
         | (refine XC.is ?_; first
           | refine W82 ?_
           | refine W83 ?_
           | refine W84 ?_
           | refine W85 ?_
           | refine W86 ?_
           | refine W87 ?_
           | (refine W88 ?_; first
             | (refine W89 (fun h => ?_) (fun h => ?_) <;> try (first | (exfalso; omega) | exact absurd rfl h | (exfalso; simp at h <;> omega)))
             | refine W90 ?_
             | refine W91 ?_)
           | (refine W92 ?_; first
             | refine W93 ?_
             | (refine XC.planG (by kernel_rfl) (fun _ m h => h.drewn m) ?_; (conv => arg 5; reduce); refine XG0.of ?_; (conv => arg 5; reduce); (conv => arg 6; reduce); refine XG.go (by decide +kernel) ?_)))
         | (refine XQ.is ?_; first
           | refine W94 ?_
           | refine W95 ?_
           | (refine W96 ?_; refine W97 ?_)
           | refine W98 ?_
           | refine W99 ?_
           | refine W100 ?_
           | refine W101 ?_
           | refine W102 ?_
           | refine W103 ?_
           | refine W104 ?_
           | refine W105 ?_
           | refine W106 ?_
           | (refine W107 ?_; refine W108 ?_))
         | (refine XS.is ?_; first
           | (refine W53 ?_; refine W54 ?_)
           | (refine W55 ?_; first
             | refine W56 ?_
             | (refine W57 (fun h => ?_) (fun h => ?_) <;> try (first | (exfalso; omega) | exact absurd rfl h | (exfalso; simp at h <;> omega)))
             | refine W58 ?_
             | (refine W59 ?_; first
               | refine W60 ?_
               | refine W61 ?_
               | refine W62 ?_
               | refine W63 ?_
               | refine W64 ?_
               | refine W65 ?_)
             | (refine W66 ?_; first
               | refine W67 ?_
               | refine W68 ?_
               | refine W69 ?_)
             | (refine W70 ?_; first
               | refine W71 ?_
               | refine W72 ?_
               | refine W73 ?_
               | refine W74 ?_
               | refine W69 ?_)
             | (refine W75 ?_; first
               | refine W76 ?_
               | refine W69 ?_)
             | refine W69 ?_)
           | refine W77 ?_
           | (refine W78 ?_; refine W79 ?_ ?_)
           | (refine W80 ?_; refine W81 ?_ ?_ ?_)))
       refine XL.trir (two_tri) (by rfl) (by rfl) (by rfl) (by rfl) (by rfl) (by rfl) (by rfl) (by (repeat' (first | exact Sels.nil | exact Sel.here | apply Sels.cons | apply Sel.there)); done) (by (repeat (first | exact sub0 | refine subC (by repeat (first | exact List.Mem.head _ | apply List.Mem.tail)) ?_)); done) ?_
       rintro v -
       conv => arg 9; dsimp only [List.cons_append, List.nil_append]
       try conv => arg 7; dsimp only
       repeat' (first
         | (refine XL.is ?_; first
           | refine W1 ?_
           | (refine W2 (fun h => ?_) (fun h => ?_) <;> try (first | (exfalso; omega) | exact absurd rfl h | (exfalso; simp at h <;> omega)))
           | refine W3 ?_
           | (refine W4 ?_; first
             | refine W5 ?_
             | refine W6 ?_
             | refine W7 ?_
             | refine W8 ?_
             | refine W9 ?_
             | refine W10 ?_
             | refine W11 ?_)
           | (refine W12 ?_; first
             | refine W13 ?_
             | refine W14 ?_
             | refine W15 ?_
             | refine W16 ?_
             | refine W11 ?_)
           | (refine W17 ?_; first
             | refine W18 ?_
             | refine W19 ?_
             | refine W20 ?_
             | refine W21 ?_
             | refine W22 ?_
             | refine W11 ?_)
           | (refine W23 ?_; first
             | refine W24 ?_
             | refine W25 ?_)
           | (refine W26 ?_; first
             | refine W27 ?_
             | refine W28 ?_
             | refine W29 ?_
             | refine W30 ?_
             | refine W31 ?_)
           | refine XL.pure 1 (by rfl) ?_
           | refine W32 ?_
           | (refine W33 ?_; first
             | refine W34 ?_
             | refine W35 ?_
             | refine W36 ?_
             | refine W37 ?_
             | refine W38 ?_
             | refine W39 ?_
             | refine W40 ?_
             | refine W41 ?_
             | refine W42 ?_
             | refine W43 ?_
             | refine W44 ?_
             | refine W45 ?_
             | refine W46 ?_)
           | refine W47 ?_
           | refine W48 ?_
           | (refine W49 (fun b => ?_))
           | (refine W50 (fun b => ?_))
           | (refine W51 (fun b => ?_))
           | (refine W52 (fun b2 => ?_)))
         | (refine XC.is ?_; first
           | refine W82 ?_
           | refine W83 ?_
           | refine W84 ?_
           | refine W85 ?_
           | refine W86 ?_
           | refine W87 ?_
           | (refine W88 ?_; first
             | (refine W89 (fun h => ?_) (fun h => ?_) <;> try (first | (exfalso; omega) | exact absurd rfl h | (exfalso; simp at h <;> omega)))
             | refine W90 ?_
             | refine W91 ?_)
           | (refine W92 ?_; first
             | refine W93 ?_
             | (refine XC.planG (by kernel_rfl) (fun _ m h => h.drewn m) ?_; (conv => arg 5; reduce); refine XG0.of ?_; (conv => arg 5; reduce); (conv => arg 6; reduce); refine XG.go (by decide +kernel) ?_)))
         | (refine XQ.is ?_; first
           | refine W94 ?_
           | refine W95 ?_
           | (refine W96 ?_; refine W97 ?_)
           | refine W98 ?_
           | refine W99 ?_
           | refine W100 ?_
           | refine W101 ?_
           | refine W102 ?_
           | refine W103 ?_
           | refine W104 ?_
           | refine W105 ?_
           | refine W106 ?_
           | (refine W107 ?_; refine W108 ?_))
         | (refine XS.is ?_; first
           | (refine W53 ?_; refine W54 ?_)
           | (refine W55 ?_; first
             | refine W56 ?_
             | (refine W57 (fun h => ?_) (fun h => ?_) <;> try (first | (exfalso; omega) | exact absurd rfl h | (exfalso; simp at h <;> omega)))
             | refine W58 ?_
             | (refine W59 ?_; first
               | refine W60 ?_
               | refine W61 ?_
               | refine W62 ?_
               | refine W63 ?_
               | refine W64 ?_
               | refine W65 ?_)
             | (refine W66 ?_; first
               | refine W67 ?_
               | refine W68 ?_
               | refine W69 ?_)
             | (refine W70 ?_; first
               | refine W71 ?_
               | refine W72 ?_
               | refine W73 ?_
               | refine W74 ?_
               | refine W69 ?_)
             | (refine W75 ?_; first
               | refine W76 ?_
               | refine W69 ?_)
             | refine W69 ?_)
           | refine W77 ?_
           | (refine W78 ?_; refine W79 ?_ ?_)
           | (refine W80 ?_; refine W81 ?_ ?_ ?_)))
       exact XQ.consRow [conN (two 2 (told p fn) (w64 (first p fn + I.a)) 0)] (by rfl) (by rfl) .here rfl rfl (fun C hC => by rw [List.mem_singleton.1 hC]; exact ⟨rfl, rfl⟩) (by simp [insnS, *]) (by (repeat' (first | exact Sels.nil | exact Sel.here | apply Sels.cons | apply Sel.there)); done))
    | (have ho : I.op = 5 := by assumption
       refine XL.trir (two_tri (k := 4) (a := w64 (first p fn + I.a)) (b := w64 (first p fn + I.b)) (n := 1)) (by rfl) (by rfl) (by rfl) (by rfl) (by rfl) (by rfl) (by rfl) (by (repeat' (first | exact Sels.nil | exact Sel.here | apply Sels.cons | apply Sel.there)); done) (by (repeat (first | exact sub0 | refine subC (by repeat (first | exact List.Mem.head _ | apply List.Mem.tail)) ?_)); done) ?_
       rintro v1 -
       conv => arg 9; dsimp only [List.cons_append, List.nil_append]
       try conv => arg 7; dsimp only
       repeat' (first
         | (refine XL.is ?_; first
           | refine W1 ?_
           | (refine W2 (fun h => ?_) (fun h => ?_) <;> try (first | (exfalso; omega) | exact absurd rfl h | (exfalso; simp at h <;> omega)))
           | refine W3 ?_
           | (refine W4 ?_; first
             | refine W5 ?_
             | refine W6 ?_
             | refine W7 ?_
             | refine W8 ?_
             | refine W9 ?_
             | refine W10 ?_
             | refine W11 ?_)
           | (refine W12 ?_; first
             | refine W13 ?_
             | refine W14 ?_
             | refine W15 ?_
             | refine W16 ?_
             | refine W11 ?_)
           | (refine W17 ?_; first
             | refine W18 ?_
             | refine W19 ?_
             | refine W20 ?_
             | refine W21 ?_
             | refine W22 ?_
             | refine W11 ?_)
           | (refine W23 ?_; first
             | refine W24 ?_
             | refine W25 ?_)
           | (refine W26 ?_; first
             | refine W27 ?_
             | refine W28 ?_
             | refine W29 ?_
             | refine W30 ?_
             | refine W31 ?_)
           | refine XL.pure 1 (by rfl) ?_
           | refine W32 ?_
           | (refine W33 ?_; first
             | refine W34 ?_
             | refine W35 ?_
             | refine W36 ?_
             | refine W37 ?_
             | refine W38 ?_
             | refine W39 ?_
             | refine W40 ?_
             | refine W41 ?_
             | refine W42 ?_
             | refine W43 ?_
             | refine W44 ?_
             | refine W45 ?_
             | refine W46 ?_)
           | refine W47 ?_
           | refine W48 ?_
           | (refine W49 (fun b => ?_))
           | (refine W50 (fun b => ?_))
           | (refine W51 (fun b => ?_))
           | (refine W52 (fun b2 => ?_)))
         | (refine XC.is ?_; first
           | refine W82 ?_
           | refine W83 ?_
           | refine W84 ?_
           | refine W85 ?_
           | refine W86 ?_
           | refine W87 ?_
           | (refine W88 ?_; first
             | (refine W89 (fun h => ?_) (fun h => ?_) <;> try (first | (exfalso; omega) | exact absurd rfl h | (exfalso; simp at h <;> omega)))
             | refine W90 ?_
             | refine W91 ?_)
           | (refine W92 ?_; first
             | refine W93 ?_
             | (refine XC.planG (by kernel_rfl) (fun _ m h => h.drewn m) ?_; (conv => arg 5; reduce); refine XG0.of ?_; (conv => arg 5; reduce); (conv => arg 6; reduce); refine XG.go (by decide +kernel) ?_)))
         | (refine XQ.is ?_; first
           | refine W94 ?_
           | refine W95 ?_
           | (refine W96 ?_; refine W97 ?_)
           | refine W98 ?_
           | refine W99 ?_
           | refine W100 ?_
           | refine W101 ?_
           | refine W102 ?_
           | refine W103 ?_
           | refine W104 ?_
           | refine W105 ?_
           | refine W106 ?_
           | (refine W107 ?_; refine W108 ?_))
         | (refine XS.is ?_; first
           | (refine W53 ?_; refine W54 ?_)
           | (refine W55 ?_; first
             | refine W56 ?_
             | (refine W57 (fun h => ?_) (fun h => ?_) <;> try (first | (exfalso; omega) | exact absurd rfl h | (exfalso; simp at h <;> omega)))
             | refine W58 ?_
             | (refine W59 ?_; first
               | refine W60 ?_
               | refine W61 ?_
               | refine W62 ?_
               | refine W63 ?_
               | refine W64 ?_
               | refine W65 ?_)
             | (refine W66 ?_; first
               | refine W67 ?_
               | refine W68 ?_
               | refine W69 ?_)
             | (refine W70 ?_; first
               | refine W71 ?_
               | refine W72 ?_
               | refine W73 ?_
               | refine W74 ?_
               | refine W69 ?_)
             | (refine W75 ?_; first
               | refine W76 ?_
               | refine W69 ?_)
             | refine W69 ?_)
           | refine W77 ?_
           | (refine W78 ?_; refine W79 ?_ ?_)
           | (refine W80 ?_; refine W81 ?_ ?_ ?_)))
       refine XL.trir (two_tri (k := 4) (a := w64 (first p fn + I.a)) (b := w64 (first p fn + I.c)) (n := 1)) (by rfl) (by rfl) (by rfl) (by rfl) (by rfl) (by rfl) (by rfl) (by (repeat' (first | exact Sels.nil | exact Sel.here | apply Sels.cons | apply Sel.there)); done) (by (repeat (first | exact sub0 | refine subC (by repeat (first | exact List.Mem.head _ | apply List.Mem.tail)) ?_)); done) ?_
       rintro v2 -
       conv => arg 9; dsimp only [List.cons_append, List.nil_append]
       try conv => arg 7; dsimp only
       repeat' (first
         | (refine XL.is ?_; first
           | refine W1 ?_
           | (refine W2 (fun h => ?_) (fun h => ?_) <;> try (first | (exfalso; omega) | exact absurd rfl h | (exfalso; simp at h <;> omega)))
           | refine W3 ?_
           | (refine W4 ?_; first
             | refine W5 ?_
             | refine W6 ?_
             | refine W7 ?_
             | refine W8 ?_
             | refine W9 ?_
             | refine W10 ?_
             | refine W11 ?_)
           | (refine W12 ?_; first
             | refine W13 ?_
             | refine W14 ?_
             | refine W15 ?_
             | refine W16 ?_
             | refine W11 ?_)
           | (refine W17 ?_; first
             | refine W18 ?_
             | refine W19 ?_
             | refine W20 ?_
             | refine W21 ?_
             | refine W22 ?_
             | refine W11 ?_)
           | (refine W23 ?_; first
             | refine W24 ?_
             | refine W25 ?_)
           | (refine W26 ?_; first
             | refine W27 ?_
             | refine W28 ?_
             | refine W29 ?_
             | refine W30 ?_
             | refine W31 ?_)
           | refine XL.pure 1 (by rfl) ?_
           | refine W32 ?_
           | (refine W33 ?_; first
             | refine W34 ?_
             | refine W35 ?_
             | refine W36 ?_
             | refine W37 ?_
             | refine W38 ?_
             | refine W39 ?_
             | refine W40 ?_
             | refine W41 ?_
             | refine W42 ?_
             | refine W43 ?_
             | refine W44 ?_
             | refine W45 ?_
             | refine W46 ?_)
           | refine W47 ?_
           | refine W48 ?_
           | (refine W49 (fun b => ?_))
           | (refine W50 (fun b => ?_))
           | (refine W51 (fun b => ?_))
           | (refine W52 (fun b2 => ?_)))
         | (refine XC.is ?_; first
           | refine W82 ?_
           | refine W83 ?_
           | refine W84 ?_
           | refine W85 ?_
           | refine W86 ?_
           | refine W87 ?_
           | (refine W88 ?_; first
             | (refine W89 (fun h => ?_) (fun h => ?_) <;> try (first | (exfalso; omega) | exact absurd rfl h | (exfalso; simp at h <;> omega)))
             | refine W90 ?_
             | refine W91 ?_)
           | (refine W92 ?_; first
             | refine W93 ?_
             | (refine XC.planG (by kernel_rfl) (fun _ m h => h.drewn m) ?_; (conv => arg 5; reduce); refine XG0.of ?_; (conv => arg 5; reduce); (conv => arg 6; reduce); refine XG.go (by decide +kernel) ?_)))
         | (refine XQ.is ?_; first
           | refine W94 ?_
           | refine W95 ?_
           | (refine W96 ?_; refine W97 ?_)
           | refine W98 ?_
           | refine W99 ?_
           | refine W100 ?_
           | refine W101 ?_
           | refine W102 ?_
           | refine W103 ?_
           | refine W104 ?_
           | refine W105 ?_
           | refine W106 ?_
           | (refine W107 ?_; refine W108 ?_))
         | (refine XS.is ?_; first
           | (refine W53 ?_; refine W54 ?_)
           | (refine W55 ?_; first
             | refine W56 ?_
             | (refine W57 (fun h => ?_) (fun h => ?_) <;> try (first | (exfalso; omega) | exact absurd rfl h | (exfalso; simp at h <;> omega)))
             | refine W58 ?_
             | (refine W59 ?_; first
               | refine W60 ?_
               | refine W61 ?_
               | refine W62 ?_
               | refine W63 ?_
               | refine W64 ?_
               | refine W65 ?_)
             | (refine W66 ?_; first
               | refine W67 ?_
               | refine W68 ?_
               | refine W69 ?_)
             | (refine W70 ?_; first
               | refine W71 ?_
               | refine W72 ?_
               | refine W73 ?_
               | refine W74 ?_
               | refine W69 ?_)
             | (refine W75 ?_; first
               | refine W76 ?_
               | refine W69 ?_)
             | refine W69 ?_)
           | refine W77 ?_
           | (refine W78 ?_; refine W79 ?_ ?_)
           | (refine W80 ?_; refine W81 ?_ ?_ ?_)))
       refine XL.appendB (m := 1) (k0 := 1) (news := conC [conN (two 4 (w64 (first p fn + I.a)) (w64 (first p fn + I.c)) 1)]) (by rfl) (by rfl) (by rfl) (by rfl) (by rfl) (by rfl) (by rfl) (by repeat (first | exact Sel.here | apply Sel.there)) (by rfl) (by first | exact fun w h => St.row (by repeat (first | exact Sel.here | apply Sel.there)) h | exact fun w h => St.rowF (by repeat (first | exact List.Mem.head _ | apply List.Mem.tail)) h | exact fun w h => Hd.rowF (by repeat (first | exact List.Mem.head _ | apply List.Mem.tail)) h | exact fun w h => St.fnsRow (by repeat (first | exact List.Mem.head _ | apply List.Mem.tail)) h | exact fun w h => St.sitesRow (by repeat (first | exact List.Mem.head _ | apply List.Mem.tail)) h | exact fun w h => St.codeRow (by assumption) (by repeat (first | exact List.Mem.head _ | apply List.Mem.tail)) h | exact fun w h => St.argRow (by assumption) (by assumption) (by repeat (first | exact List.Mem.head _ | apply List.Mem.tail)) h | exact fun w h => St.locRow (by assumption) (by repeat (first | exact List.Mem.head _ | apply List.Mem.tail)) h | exact fun w h => St.consRow (by repeat (first | exact List.Mem.head _ | apply List.Mem.tail)) h | exact fun w h => St.conArgs (by assumption) (by repeat (first | exact List.Mem.head _ | apply List.Mem.tail)) h | exact fun w h => Hd.to (St.fnsRow (by repeat (first | exact List.Mem.head _ | apply List.Mem.tail))) h | exact fun w h => Hd.to (St.sitesRow (by repeat (first | exact List.Mem.head _ | apply List.Mem.tail))) h | exact fun w h => Hd.to (St.codeRow (by assumption) (by repeat (first | exact List.Mem.head _ | apply List.Mem.tail))) h | exact fun w h => Hd.to (St.argRow (by assumption) (by assumption) (by repeat (first | exact List.Mem.head _ | apply List.Mem.tail))) h | exact fun w h => Hd.to (St.consRow (by repeat (first | exact List.Mem.head _ | apply List.Mem.tail))) h) (onesL_spec (by rfl)) (by decide) (by decide) (fun v' => ?_)
       repeat' (first
         | (refine XL.is ?_; first
           | refine W1 ?_
           | (refine W2 (fun h => ?_) (fun h => ?_) <;> try (first | (exfalso; omega) | exact absurd rfl h | (exfalso; simp at h <;> omega)))
           | refine W3 ?_
           | (refine W4 ?_; first
             | refine W5 ?_
             | refine W6 ?_
             | refine W7 ?_
             | refine W8 ?_
             | refine W9 ?_
             | refine W10 ?_
             | refine W11 ?_)
           | (refine W12 ?_; first
             | refine W13 ?_
             | refine W14 ?_
             | refine W15 ?_
             | refine W16 ?_
             | refine W11 ?_)
           | (refine W17 ?_; first
             | refine W18 ?_
             | refine W19 ?_
             | refine W20 ?_
             | refine W21 ?_
             | refine W22 ?_
             | refine W11 ?_)
           | (refine W23 ?_; first
             | refine W24 ?_
             | refine W25 ?_)
           | (refine W26 ?_; first
             | refine W27 ?_
             | refine W28 ?_
             | refine W29 ?_
             | refine W30 ?_
             | refine W31 ?_)
           | refine XL.pure 1 (by rfl) ?_
           | refine W32 ?_
           | (refine W33 ?_; first
             | refine W34 ?_
             | refine W35 ?_
             | refine W36 ?_
             | refine W37 ?_
             | refine W38 ?_
             | refine W39 ?_
             | refine W40 ?_
             | refine W41 ?_
             | refine W42 ?_
             | refine W43 ?_
             | refine W44 ?_
             | refine W45 ?_
             | refine W46 ?_)
           | refine W47 ?_
           | refine W48 ?_
           | (refine W49 (fun b => ?_))
           | (refine W50 (fun b => ?_))
           | (refine W51 (fun b => ?_))
           | (refine W52 (fun b2 => ?_)))
         | (refine XC.is ?_; first
           | refine W82 ?_
           | refine W83 ?_
           | refine W84 ?_
           | refine W85 ?_
           | refine W86 ?_
           | refine W87 ?_
           | (refine W88 ?_; first
             | (refine W89 (fun h => ?_) (fun h => ?_) <;> try (first | (exfalso; omega) | exact absurd rfl h | (exfalso; simp at h <;> omega)))
             | refine W90 ?_
             | refine W91 ?_)
           | (refine W92 ?_; first
             | refine W93 ?_
             | (refine XC.planG (by kernel_rfl) (fun _ m h => h.drewn m) ?_; (conv => arg 5; reduce); refine XG0.of ?_; (conv => arg 5; reduce); (conv => arg 6; reduce); refine XG.go (by decide +kernel) ?_)))
         | (refine XQ.is ?_; first
           | refine W94 ?_
           | refine W95 ?_
           | (refine W96 ?_; refine W97 ?_)
           | refine W98 ?_
           | refine W99 ?_
           | refine W100 ?_
           | refine W101 ?_
           | refine W102 ?_
           | refine W103 ?_
           | refine W104 ?_
           | refine W105 ?_
           | refine W106 ?_
           | (refine W107 ?_; refine W108 ?_))
         | (refine XS.is ?_; first
           | (refine W53 ?_; refine W54 ?_)
           | (refine W55 ?_; first
             | refine W56 ?_
             | (refine W57 (fun h => ?_) (fun h => ?_) <;> try (first | (exfalso; omega) | exact absurd rfl h | (exfalso; simp at h <;> omega)))
             | refine W58 ?_
             | (refine W59 ?_; first
               | refine W60 ?_
               | refine W61 ?_
               | refine W62 ?_
               | refine W63 ?_
               | refine W64 ?_
               | refine W65 ?_)
             | (refine W66 ?_; first
               | refine W67 ?_
               | refine W68 ?_
               | refine W69 ?_)
             | (refine W70 ?_; first
               | refine W71 ?_
               | refine W72 ?_
               | refine W73 ?_
               | refine W74 ?_
               | refine W69 ?_)
             | (refine W75 ?_; first
               | refine W76 ?_
               | refine W69 ?_)
             | refine W69 ?_)
           | refine W77 ?_
           | (refine W78 ?_; refine W79 ?_ ?_)
           | (refine W80 ?_; refine W81 ?_ ?_ ?_)))
       exact XQ.consRow [conN (two 4 (w64 (first p fn + I.a)) (w64 (first p fn + I.b)) 1), conN (two 4 (w64 (first p fn + I.a)) (w64 (first p fn + I.c)) 1)] (by rfl) (by rfl) .here rfl rfl (fun C hC => by simp at hC; rcases hC with rfl | rfl <;> exact ⟨rfl, rfl⟩) (by simp [insnS, plus, minus, *]) (by (repeat' (first | exact Sels.nil | exact Sel.here | apply Sels.cons | apply Sel.there)); done))
    | (have ho : I.op = 16 := by assumption
       have hal := hp.args hok (.inr ho)
       refine XC.loop (fun s : Nat × Value => [(3, .pointer (some ⟨bp, 0, none⟩)), (5, .pointer (some ⟨b, 0, none⟩)), (7, .int .i64 (first p fn)), (8, .int .i64 (w64 (first p fn + I.a))), (9, .int .i64 (w64 (first p fn + I.b))), (14, s.2), (15, .int .i64 (s.1 : Int))])
         (fun s w => s.1 ≤ I.argL.length ∧ St c [rowO 3 1 s.2 s.1 (ints (regs p fn (I.argL.take s.1))), cel b I.cells.toArray 36, cel bp #[p.sites, p.fns, .int .i64 p.main] 25] [progFP p] w) (fun s => I.argL.length - s.1) (0, .slice none 0 0) (by (repeat (first | exact fits_nil | refine fits_cons (by rfl) ?_)); done) (fun w h => ⟨by omega, (h.nilRow 3 1).less (by (repeat' (first | exact Sels.nil | exact Sel.here | apply Sels.cons | apply Sel.there)); done) (by (repeat (first | exact sub0 | refine subC (by repeat (first | exact List.Mem.head _ | apply List.Mem.tail)) ?_)); done)⟩) ?_
       rintro ⟨i, v⟩
       dsimp only
       refine XC.pure (fun hi => ?_)
       by_cases hlt : i < I.argL.length
       · obtain ⟨x, hx, -⟩ := get_of_lt hlt
         have gx := ints_get hx
         repeat' (first
           | (refine XL.is ?_; first
             | refine W1 ?_
             | (refine W2 (fun h => ?_) (fun h => ?_) <;> try (first | (exfalso; omega) | exact absurd rfl h | (exfalso; simp at h <;> omega)))
             | refine W3 ?_
             | (refine W4 ?_; first
               | refine W5 ?_
               | refine W6 ?_
               | refine W7 ?_
               | refine W8 ?_
               | refine W9 ?_
               | refine W10 ?_
               | refine W11 ?_)
             | (refine W12 ?_; first
               | refine W13 ?_
               | refine W14 ?_
               | refine W15 ?_
               | refine W16 ?_
               | refine W11 ?_)
             | (refine W17 ?_; first
               | refine W18 ?_
               | refine W19 ?_
               | refine W20 ?_
               | refine W21 ?_
               | refine W22 ?_
               | refine W11 ?_)
             | (refine W23 ?_; first
               | refine W24 ?_
               | refine W25 ?_)
             | (refine W26 ?_; first
               | refine W27 ?_
               | refine W28 ?_
               | refine W29 ?_
               | refine W30 ?_
               | refine W31 ?_)
             | refine XL.pure 1 (by rfl) ?_
             | refine W32 ?_
             | (refine W33 ?_; first
               | refine W34 ?_
               | refine W35 ?_
               | refine W36 ?_
               | refine W37 ?_
               | refine W38 ?_
               | refine W39 ?_
               | refine W40 ?_
               | refine W41 ?_
               | refine W42 ?_
               | refine W43 ?_
               | refine W44 ?_
               | refine W45 ?_
               | refine W46 ?_)
             | refine W47 ?_
             | refine W48 ?_
             | (refine W49 (fun b => ?_))
             | (refine W50 (fun b => ?_))
             | (refine W51 (fun b => ?_))
             | (refine W52 (fun b2 => ?_)))
           | (refine XC.is ?_; first
             | refine W82 ?_
             | refine W83 ?_
             | refine W84 ?_
             | refine W85 ?_
             | refine W86 ?_
             | refine W87 ?_
             | (refine W88 ?_; first
               | (refine W89 (fun h => ?_) (fun h => ?_) <;> try (first | (exfalso; omega) | exact absurd rfl h | (exfalso; simp at h <;> omega)))
               | refine W90 ?_
               | refine W91 ?_)
             | (refine W92 ?_; first
               | refine W93 ?_
               | (refine XC.planG (by kernel_rfl) (fun _ m h => h.drewn m) ?_; (conv => arg 5; reduce); refine XG0.of ?_; (conv => arg 5; reduce); (conv => arg 6; reduce); refine XG.go (by decide +kernel) ?_)))
           | (refine XQ.is ?_; first
             | refine W94 ?_
             | refine W95 ?_
             | (refine W96 ?_; refine W97 ?_)
             | refine W98 ?_
             | refine W99 ?_
             | refine W100 ?_
             | refine W101 ?_
             | refine W102 ?_
             | refine W103 ?_
             | refine W104 ?_
             | refine W105 ?_
             | refine W106 ?_
             | (refine W107 ?_; refine W108 ?_))
           | (refine XS.is ?_; first
             | (refine W53 ?_; refine W54 ?_)
             | (refine W55 ?_; first
               | refine W56 ?_
               | (refine W57 (fun h => ?_) (fun h => ?_) <;> try (first | (exfalso; omega) | exact absurd rfl h | (exfalso; simp at h <;> omega)))
               | refine W58 ?_
               | (refine W59 ?_; first
                 | refine W60 ?_
                 | refine W61 ?_
                 | refine W62 ?_
                 | refine W63 ?_
                 | refine W64 ?_
                 | refine W65 ?_)
               | (refine W66 ?_; first
                 | refine W67 ?_
                 | refine W68 ?_
                 | refine W69 ?_)
               | (refine W70 ?_; first
                 | refine W71 ?_
                 | refine W72 ?_
                 | refine W73 ?_
                 | refine W74 ?_
                 | refine W69 ?_)
               | (refine W75 ?_; first
                 | refine W76 ?_
                 | refine W69 ?_)
               | refine W69 ?_)
             | refine W77 ?_
             | (refine W78 ?_; refine W79 ?_ ?_)
             | (refine W80 ?_; refine W81 ?_ ?_ ?_)))
         first | refine XL.addw (by rfl) (by rfl) (by rfl) (by rfl) (by rfl) (by rfl) ?_ | refine XL.subw (by rfl) (by rfl) (by rfl) (by rfl) (by rfl) (by rfl) ?_
         repeat' (first
           | (refine XL.is ?_; first
             | refine W1 ?_
             | (refine W2 (fun h => ?_) (fun h => ?_) <;> try (first | (exfalso; omega) | exact absurd rfl h | (exfalso; simp at h <;> omega)))
             | refine W3 ?_
             | (refine W4 ?_; first
               | refine W5 ?_
               | refine W6 ?_
               | refine W7 ?_
               | refine W8 ?_
               | refine W9 ?_
               | refine W10 ?_
               | refine W11 ?_)
             | (refine W12 ?_; first
               | refine W13 ?_
               | refine W14 ?_
               | refine W15 ?_
               | refine W16 ?_
               | refine W11 ?_)
             | (refine W17 ?_; first
               | refine W18 ?_
               | refine W19 ?_
               | refine W20 ?_
               | refine W21 ?_
               | refine W22 ?_
               | refine W11 ?_)
             | (refine W23 ?_; first
               | refine W24 ?_
               | refine W25 ?_)
             | (refine W26 ?_; first
               | refine W27 ?_
               | refine W28 ?_
               | refine W29 ?_
               | refine W30 ?_
               | refine W31 ?_)
             | refine XL.pure 1 (by rfl) ?_
             | refine W32 ?_
             | (refine W33 ?_; first
               | refine W34 ?_
               | refine W35 ?_
               | refine W36 ?_
               | refine W37 ?_
               | refine W38 ?_
               | refine W39 ?_
               | refine W40 ?_
               | refine W41 ?_
               | refine W42 ?_
               | refine W43 ?_
               | refine W44 ?_
               | refine W45 ?_
               | refine W46 ?_)
             | refine W47 ?_
             | refine W48 ?_
             | (refine W49 (fun b => ?_))
             | (refine W50 (fun b => ?_))
             | (refine W51 (fun b => ?_))
             | (refine W52 (fun b2 => ?_)))
           | (refine XC.is ?_; first
             | refine W82 ?_
             | refine W83 ?_
             | refine W84 ?_
             | refine W85 ?_
             | refine W86 ?_
             | refine W87 ?_
             | (refine W88 ?_; first
               | (refine W89 (fun h => ?_) (fun h => ?_) <;> try (first | (exfalso; omega) | exact absurd rfl h | (exfalso; simp at h <;> omega)))
               | refine W90 ?_
               | refine W91 ?_)
             | (refine W92 ?_; first
               | refine W93 ?_
               | (refine XC.planG (by kernel_rfl) (fun _ m h => h.drewn m) ?_; (conv => arg 5; reduce); refine XG0.of ?_; (conv => arg 5; reduce); (conv => arg 6; reduce); refine XG.go (by decide +kernel) ?_)))
           | (refine XQ.is ?_; first
             | refine W94 ?_
             | refine W95 ?_
             | (refine W96 ?_; refine W97 ?_)
             | refine W98 ?_
             | refine W99 ?_
             | refine W100 ?_
             | refine W101 ?_
             | refine W102 ?_
             | refine W103 ?_
             | refine W104 ?_
             | refine W105 ?_
             | refine W106 ?_
             | (refine W107 ?_; refine W108 ?_))
           | (refine XS.is ?_; first
             | (refine W53 ?_; refine W54 ?_)
             | (refine W55 ?_; first
               | refine W56 ?_
               | (refine W57 (fun h => ?_) (fun h => ?_) <;> try (first | (exfalso; omega) | exact absurd rfl h | (exfalso; simp at h <;> omega)))
               | refine W58 ?_
               | (refine W59 ?_; first
                 | refine W60 ?_
                 | refine W61 ?_
                 | refine W62 ?_
                 | refine W63 ?_
                 | refine W64 ?_
                 | refine W65 ?_)
               | (refine W66 ?_; first
                 | refine W67 ?_
                 | refine W68 ?_
                 | refine W69 ?_)
               | (refine W70 ?_; first
                 | refine W71 ?_
                 | refine W72 ?_
                 | refine W73 ?_
                 | refine W74 ?_
                 | refine W69 ?_)
               | (refine W75 ?_; first
                 | refine W76 ?_
                 | refine W69 ?_)
               | refine W69 ?_)
             | refine W77 ?_
             | (refine W78 ?_; refine W79 ?_ ?_)
             | (refine W80 ?_; refine W81 ?_ ?_ ?_)))
         refine XL.append1 (by rfl) (by rfl) (by rfl) (by rfl) (by rfl) (by rfl) (by rfl) (by repeat (first | exact Sel.here | apply Sel.there)) (by repeat (first | exact Sel.here | apply Sel.there)) ⟨_, (by repeat (first | exact Sel.here | apply Sel.there))⟩ (by rfl) (Nat.le_refl _) (by rfl) (by rfl) (by omega) (rfl) (regs_next hx) (fun v' => ?_)
         repeat' (first
           | (refine XL.is ?_; first
             | refine W1 ?_
             | (refine W2 (fun h => ?_) (fun h => ?_) <;> try (first | (exfalso; omega) | exact absurd rfl h | (exfalso; simp at h <;> omega)))
             | refine W3 ?_
             | (refine W4 ?_; first
               | refine W5 ?_
               | refine W6 ?_
               | refine W7 ?_
               | refine W8 ?_
               | refine W9 ?_
               | refine W10 ?_
               | refine W11 ?_)
             | (refine W12 ?_; first
               | refine W13 ?_
               | refine W14 ?_
               | refine W15 ?_
               | refine W16 ?_
               | refine W11 ?_)
             | (refine W17 ?_; first
               | refine W18 ?_
               | refine W19 ?_
               | refine W20 ?_
               | refine W21 ?_
               | refine W22 ?_
               | refine W11 ?_)
             | (refine W23 ?_; first
               | refine W24 ?_
               | refine W25 ?_)
             | (refine W26 ?_; first
               | refine W27 ?_
               | refine W28 ?_
               | refine W29 ?_
               | refine W30 ?_
               | refine W31 ?_)
             | refine XL.pure 1 (by rfl) ?_
             | refine W32 ?_
             | (refine W33 ?_; first
               | refine W34 ?_
               | refine W35 ?_
               | refine W36 ?_
               | refine W37 ?_
               | refine W38 ?_
               | refine W39 ?_
               | refine W40 ?_
               | refine W41 ?_
               | refine W42 ?_
               | refine W43 ?_
               | refine W44 ?_
               | refine W45 ?_
               | refine W46 ?_)
             | refine W47 ?_
             | refine W48 ?_
             | (refine W49 (fun b => ?_))
             | (refine W50 (fun b => ?_))
             | (refine W51 (fun b => ?_))
             | (refine W52 (fun b2 => ?_)))
           | (refine XC.is ?_; first
             | refine W82 ?_
             | refine W83 ?_
             | refine W84 ?_
             | refine W85 ?_
             | refine W86 ?_
             | refine W87 ?_
             | (refine W88 ?_; first
               | (refine W89 (fun h => ?_) (fun h => ?_) <;> try (first | (exfalso; omega) | exact absurd rfl h | (exfalso; simp at h <;> omega)))
               | refine W90 ?_
               | refine W91 ?_)
             | (refine W92 ?_; first
               | refine W93 ?_
               | (refine XC.planG (by kernel_rfl) (fun _ m h => h.drewn m) ?_; (conv => arg 5; reduce); refine XG0.of ?_; (conv => arg 5; reduce); (conv => arg 6; reduce); refine XG.go (by decide +kernel) ?_)))
           | (refine XQ.is ?_; first
             | refine W94 ?_
             | refine W95 ?_
             | (refine W96 ?_; refine W97 ?_)
             | refine W98 ?_
             | refine W99 ?_
             | refine W100 ?_
             | refine W101 ?_
             | refine W102 ?_
             | refine W103 ?_
             | refine W104 ?_
             | refine W105 ?_
             | refine W106 ?_
             | (refine W107 ?_; refine W108 ?_))
           | (refine XS.is ?_; first
             | (refine W53 ?_; refine W54 ?_)
             | (refine W55 ?_; first
               | refine W56 ?_
               | (refine W57 (fun h => ?_) (fun h => ?_) <;> try (first | (exfalso; omega) | exact absurd rfl h | (exfalso; simp at h <;> omega)))
               | refine W58 ?_
               | (refine W59 ?_; first
                 | refine W60 ?_
                 | refine W61 ?_
                 | refine W62 ?_
                 | refine W63 ?_
                 | refine W64 ?_
                 | refine W65 ?_)
               | (refine W66 ?_; first
                 | refine W67 ?_
                 | refine W68 ?_
                 | refine W69 ?_)
               | (refine W70 ?_; first
                 | refine W71 ?_
                 | refine W72 ?_
                 | refine W73 ?_
                 | refine W74 ?_
                 | refine W69 ?_)
               | (refine W75 ?_; first
                 | refine W76 ?_
                 | refine W69 ?_)
               | refine W69 ?_)
             | refine W77 ?_
             | (refine W78 ?_; refine W79 ?_ ?_)
             | (refine W80 ?_; refine W81 ?_ ?_ ?_)))
         exact XQ.round (i + 1, v') (by (repeat (first | exact fits_nil | refine fits_cons (by rfl) ?_)); done) (fun w hw => ⟨by dsimp only; omega, hw.less (by (repeat' (first | exact Sels.nil | exact Sel.here | apply Sels.cons | apply Sel.there)); done) (by (repeat (first | exact sub0 | refine subC (by repeat (first | exact List.Mem.head _ | apply List.Mem.tail)) ?_)); done)⟩) (by dsimp only; omega)
       have e : i = I.argL.length := by omega
       subst e
       refine XC.conv (fun w h => by rw [List.take_length] at h; exact h) ?_
       refine XC.ex (fun w h => h.sliced .here) ?_
       rintro ⟨vp, vc⟩
       refine XC.pure (fun ev => ?_)
       dsimp only at ev
       subst ev
       repeat' (first
         | (refine XL.is ?_; first
           | refine W1 ?_
           | (refine W2 (fun h => ?_) (fun h => ?_) <;> try (first | (exfalso; omega) | exact absurd rfl h | (exfalso; simp at h <;> omega)))
           | refine W3 ?_
           | (refine W4 ?_; first
             | refine W5 ?_
             | refine W6 ?_
             | refine W7 ?_
             | refine W8 ?_
             | refine W9 ?_
             | refine W10 ?_
             | refine W11 ?_)
           | (refine W12 ?_; first
             | refine W13 ?_
             | refine W14 ?_
             | refine W15 ?_
             | refine W16 ?_
             | refine W11 ?_)
           | (refine W17 ?_; first
             | refine W18 ?_
             | refine W19 ?_
             | refine W20 ?_
             | refine W21 ?_
             | refine W22 ?_
             | refine W11 ?_)
           | (refine W23 ?_; first
             | refine W24 ?_
             | refine W25 ?_)
           | (refine W26 ?_; first
             | refine W27 ?_
             | refine W28 ?_
             | refine W29 ?_
             | refine W30 ?_
             | refine W31 ?_)
           | refine XL.pure 1 (by rfl) ?_
           | refine W32 ?_
           | (refine W33 ?_; first
             | refine W34 ?_
             | refine W35 ?_
             | refine W36 ?_
             | refine W37 ?_
             | refine W38 ?_
             | refine W39 ?_
             | refine W40 ?_
             | refine W41 ?_
             | refine W42 ?_
             | refine W43 ?_
             | refine W44 ?_
             | refine W45 ?_
             | refine W46 ?_)
           | refine W47 ?_
           | refine W48 ?_
           | (refine W49 (fun b => ?_))
           | (refine W50 (fun b => ?_))
           | (refine W51 (fun b => ?_))
           | (refine W52 (fun b2 => ?_)))
         | (refine XC.is ?_; first
           | refine W82 ?_
           | refine W83 ?_
           | refine W84 ?_
           | refine W85 ?_
           | refine W86 ?_
           | refine W87 ?_
           | (refine W88 ?_; first
             | (refine W89 (fun h => ?_) (fun h => ?_) <;> try (first | (exfalso; omega) | exact absurd rfl h | (exfalso; simp at h <;> omega)))
             | refine W90 ?_
             | refine W91 ?_)
           | (refine W92 ?_; first
             | refine W93 ?_
             | (refine XC.planG (by kernel_rfl) (fun _ m h => h.drewn m) ?_; (conv => arg 5; reduce); refine XG0.of ?_; (conv => arg 5; reduce); (conv => arg 6; reduce); refine XG.go (by decide +kernel) ?_)))
         | (refine XQ.is ?_; first
           | refine W94 ?_
           | refine W95 ?_
           | (refine W96 ?_; refine W97 ?_)
           | refine W98 ?_
           | refine W99 ?_
           | refine W100 ?_
           | refine W101 ?_
           | refine W102 ?_
           | refine W103 ?_
           | refine W104 ?_
           | refine W105 ?_
           | refine W106 ?_
           | (refine W107 ?_; refine W108 ?_))
         | (refine XS.is ?_; first
           | (refine W53 ?_; refine W54 ?_)
           | (refine W55 ?_; first
             | refine W56 ?_
             | (refine W57 (fun h => ?_) (fun h => ?_) <;> try (first | (exfalso; omega) | exact absurd rfl h | (exfalso; simp at h <;> omega)))
             | refine W58 ?_
             | (refine W59 ?_; first
               | refine W60 ?_
               | refine W61 ?_
               | refine W62 ?_
               | refine W63 ?_
               | refine W64 ?_
               | refine W65 ?_)
             | (refine W66 ?_; first
               | refine W67 ?_
               | refine W68 ?_
               | refine W69 ?_)
             | (refine W70 ?_; first
               | refine W71 ?_
               | refine W72 ?_
               | refine W73 ?_
               | refine W74 ?_
               | refine W69 ?_)
             | (refine W75 ?_; first
               | refine W76 ?_
               | refine W69 ?_)
             | refine W69 ?_)
           | refine W77 ?_
           | (refine W78 ?_; refine W79 ?_ ?_)
           | (refine W80 ?_; refine W81 ?_ ?_ ?_)))
       refine XQ.consLitA [⟨{ kind := 8, a := w64 (first p fn + I.a), b := w64 (first p fn + I.b), args := regs p fn I.argL }, .slice vp I.argL.length vc⟩] (by rfl) (by rfl) (fun w hw => St.argsOf rfl (by rw [regs_len]; exact List.Mem.head _) (hw.rowFreeze (.there .here))) .here rfl ?_ (by (repeat' (first | exact Sels.nil | exact Sel.here | apply Sels.cons | apply Sel.there)); done)
       simp [insnS, *, regs])
    | skip
  all_goals
    have ho : I.op = 15 := by assumption
    have hal := hp.args hok (.inl ho)
    obtain ⟨⟨n0, n1⟩, -⟩ := hok.1 ho
    refine XC.loop (fun s : Nat × Value => [(3, .pointer (some ⟨bp, 0, none⟩)), (5, .pointer (some ⟨b, 0, none⟩)), (7, .int .i64 (first p fn)), (8, .int .i64 (w64 (first p fn + I.a))), (9, .int .i64 (w64 (first p fn + I.b))), (12, s.2), (13, .int .i64 (s.1 : Int))])
      (fun s w => s.1 ≤ I.argL.length ∧ St c [rowO 43 9 s.2 s.1 (conC (copies p fn I.n.toNat (I.argL.take s.1))), cel b I.cells.toArray 36, cel bp #[p.sites, p.fns, .int .i64 p.main] 25] [progFP p] w) (fun s => I.argL.length - s.1) (0, .slice none 0 0) (by (repeat (first | exact fits_nil | refine fits_cons (by rfl) ?_)); done) (fun w h => ⟨by omega, (h.nilRow 43 9).less (by (repeat' (first | exact Sels.nil | exact Sel.here | apply Sels.cons | apply Sel.there)); done) (by (repeat (first | exact sub0 | refine subC (by repeat (first | exact List.Mem.head _ | apply List.Mem.tail)) ?_)); done)⟩) ?_
    rintro ⟨i, v⟩
    dsimp only
    refine XC.pure (fun hi => ?_)
    by_cases hlt : i < I.argL.length
    · obtain ⟨x, hx, -⟩ := get_of_lt hlt
      have gx := ints_get hx
      repeat' (first
        | (refine XL.is ?_; first
          | refine W1 ?_
          | (refine W2 (fun h => ?_) (fun h => ?_) <;> try (first | (exfalso; omega) | exact absurd rfl h | (exfalso; simp at h <;> omega)))
          | refine W3 ?_
          | (refine W4 ?_; first
            | refine W5 ?_
            | refine W6 ?_
            | refine W7 ?_
            | refine W8 ?_
            | refine W9 ?_
            | refine W10 ?_
            | refine W11 ?_)
          | (refine W12 ?_; first
            | refine W13 ?_
            | refine W14 ?_
            | refine W15 ?_
            | refine W16 ?_
            | refine W11 ?_)
          | (refine W17 ?_; first
            | refine W18 ?_
            | refine W19 ?_
            | refine W20 ?_
            | refine W21 ?_
            | refine W22 ?_
            | refine W11 ?_)
          | (refine W23 ?_; first
            | refine W24 ?_
            | refine W25 ?_)
          | (refine W26 ?_; first
            | refine W27 ?_
            | refine W28 ?_
            | refine W29 ?_
            | refine W30 ?_
            | refine W31 ?_)
          | refine XL.pure 1 (by rfl) ?_
          | refine W32 ?_
          | (refine W33 ?_; first
            | refine W34 ?_
            | refine W35 ?_
            | refine W36 ?_
            | refine W37 ?_
            | refine W38 ?_
            | refine W39 ?_
            | refine W40 ?_
            | refine W41 ?_
            | refine W42 ?_
            | refine W43 ?_
            | refine W44 ?_
            | refine W45 ?_
            | refine W46 ?_)
          | refine W47 ?_
          | refine W48 ?_
          | (refine W49 (fun b => ?_))
          | (refine W50 (fun b => ?_))
          | (refine W51 (fun b => ?_))
          | (refine W52 (fun b2 => ?_)))
        | (refine XC.is ?_; first
          | refine W82 ?_
          | refine W83 ?_
          | refine W84 ?_
          | refine W85 ?_
          | refine W86 ?_
          | refine W87 ?_
          | (refine W88 ?_; first
            | (refine W89 (fun h => ?_) (fun h => ?_) <;> try (first | (exfalso; omega) | exact absurd rfl h | (exfalso; simp at h <;> omega)))
            | refine W90 ?_
            | refine W91 ?_)
          | (refine W92 ?_; first
            | refine W93 ?_
            | (refine XC.planG (by kernel_rfl) (fun _ m h => h.drewn m) ?_; (conv => arg 5; reduce); refine XG0.of ?_; (conv => arg 5; reduce); (conv => arg 6; reduce); refine XG.go (by decide +kernel) ?_)))
        | (refine XQ.is ?_; first
          | refine W94 ?_
          | refine W95 ?_
          | (refine W96 ?_; refine W97 ?_)
          | refine W98 ?_
          | refine W99 ?_
          | refine W100 ?_
          | refine W101 ?_
          | refine W102 ?_
          | refine W103 ?_
          | refine W104 ?_
          | refine W105 ?_
          | refine W106 ?_
          | (refine W107 ?_; refine W108 ?_))
        | (refine XS.is ?_; first
          | (refine W53 ?_; refine W54 ?_)
          | (refine W55 ?_; first
            | refine W56 ?_
            | (refine W57 (fun h => ?_) (fun h => ?_) <;> try (first | (exfalso; omega) | exact absurd rfl h | (exfalso; simp at h <;> omega)))
            | refine W58 ?_
            | (refine W59 ?_; first
              | refine W60 ?_
              | refine W61 ?_
              | refine W62 ?_
              | refine W63 ?_
              | refine W64 ?_
              | refine W65 ?_)
            | (refine W66 ?_; first
              | refine W67 ?_
              | refine W68 ?_
              | refine W69 ?_)
            | (refine W70 ?_; first
              | refine W71 ?_
              | refine W72 ?_
              | refine W73 ?_
              | refine W74 ?_
              | refine W69 ?_)
            | (refine W75 ?_; first
              | refine W76 ?_
              | refine W69 ?_)
            | refine W69 ?_)
          | refine W77 ?_
          | (refine W78 ?_; refine W79 ?_ ?_)
          | (refine W80 ?_; refine W81 ?_ ?_ ?_)))
      first | refine XL.addw (by rfl) (by rfl) (by rfl) (by rfl) (by rfl) (by rfl) ?_ | refine XL.subw (by rfl) (by rfl) (by rfl) (by rfl) (by rfl) (by rfl) ?_
      repeat' (first
        | (refine XL.is ?_; first
          | refine W1 ?_
          | (refine W2 (fun h => ?_) (fun h => ?_) <;> try (first | (exfalso; omega) | exact absurd rfl h | (exfalso; simp at h <;> omega)))
          | refine W3 ?_
          | (refine W4 ?_; first
            | refine W5 ?_
            | refine W6 ?_
            | refine W7 ?_
            | refine W8 ?_
            | refine W9 ?_
            | refine W10 ?_
            | refine W11 ?_)
          | (refine W12 ?_; first
            | refine W13 ?_
            | refine W14 ?_
            | refine W15 ?_
            | refine W16 ?_
            | refine W11 ?_)
          | (refine W17 ?_; first
            | refine W18 ?_
            | refine W19 ?_
            | refine W20 ?_
            | refine W21 ?_
            | refine W22 ?_
            | refine W11 ?_)
          | (refine W23 ?_; first
            | refine W24 ?_
            | refine W25 ?_)
          | (refine W26 ?_; first
            | refine W27 ?_
            | refine W28 ?_
            | refine W29 ?_
            | refine W30 ?_
            | refine W31 ?_)
          | refine XL.pure 1 (by rfl) ?_
          | refine W32 ?_
          | (refine W33 ?_; first
            | refine W34 ?_
            | refine W35 ?_
            | refine W36 ?_
            | refine W37 ?_
            | refine W38 ?_
            | refine W39 ?_
            | refine W40 ?_
            | refine W41 ?_
            | refine W42 ?_
            | refine W43 ?_
            | refine W44 ?_
            | refine W45 ?_
            | refine W46 ?_)
          | refine W47 ?_
          | refine W48 ?_
          | (refine W49 (fun b => ?_))
          | (refine W50 (fun b => ?_))
          | (refine W51 (fun b => ?_))
          | (refine W52 (fun b2 => ?_)))
        | (refine XC.is ?_; first
          | refine W82 ?_
          | refine W83 ?_
          | refine W84 ?_
          | refine W85 ?_
          | refine W86 ?_
          | refine W87 ?_
          | (refine W88 ?_; first
            | (refine W89 (fun h => ?_) (fun h => ?_) <;> try (first | (exfalso; omega) | exact absurd rfl h | (exfalso; simp at h <;> omega)))
            | refine W90 ?_
            | refine W91 ?_)
          | (refine W92 ?_; first
            | refine W93 ?_
            | (refine XC.planG (by kernel_rfl) (fun _ m h => h.drewn m) ?_; (conv => arg 5; reduce); refine XG0.of ?_; (conv => arg 5; reduce); (conv => arg 6; reduce); refine XG.go (by decide +kernel) ?_)))
        | (refine XQ.is ?_; first
          | refine W94 ?_
          | refine W95 ?_
          | (refine W96 ?_; refine W97 ?_)
          | refine W98 ?_
          | refine W99 ?_
          | refine W100 ?_
          | refine W101 ?_
          | refine W102 ?_
          | refine W103 ?_
          | refine W104 ?_
          | refine W105 ?_
          | refine W106 ?_
          | (refine W107 ?_; refine W108 ?_))
        | (refine XS.is ?_; first
          | (refine W53 ?_; refine W54 ?_)
          | (refine W55 ?_; first
            | refine W56 ?_
            | (refine W57 (fun h => ?_) (fun h => ?_) <;> try (first | (exfalso; omega) | exact absurd rfl h | (exfalso; simp at h <;> omega)))
            | refine W58 ?_
            | (refine W59 ?_; first
              | refine W60 ?_
              | refine W61 ?_
              | refine W62 ?_
              | refine W63 ?_
              | refine W64 ?_
              | refine W65 ?_)
            | (refine W66 ?_; first
              | refine W67 ?_
              | refine W68 ?_
              | refine W69 ?_)
            | (refine W70 ?_; first
              | refine W71 ?_
              | refine W72 ?_
              | refine W73 ?_
              | refine W74 ?_
              | refine W69 ?_)
            | (refine W75 ?_; first
              | refine W76 ?_
              | refine W69 ?_)
            | refine W69 ?_)
          | refine W77 ?_
          | (refine W78 ?_; refine W79 ?_ ?_)
          | (refine W80 ?_; refine W81 ?_ ?_ ?_)))
      refine XL.triq (first_triI hp n0 (by omega)) (by rfl) (by rfl) (by rfl) (by rfl) (by rfl) (by rfl) (by rfl) (by (repeat' (first | exact Sels.nil | exact Sel.here | apply Sels.cons | apply Sel.there)); done) (by (repeat' (first | exact Sels.nil | exact Sel.here | apply Sels.cons | apply Sel.there)); done) (by (repeat (first | exact sub0 | refine subC (by repeat (first | exact List.Mem.head _ | apply List.Mem.tail)) ?_)); done) ?_
      repeat' (first
        | (refine XL.is ?_; first
          | refine W1 ?_
          | (refine W2 (fun h => ?_) (fun h => ?_) <;> try (first | (exfalso; omega) | exact absurd rfl h | (exfalso; simp at h <;> omega)))
          | refine W3 ?_
          | (refine W4 ?_; first
            | refine W5 ?_
            | refine W6 ?_
            | refine W7 ?_
            | refine W8 ?_
            | refine W9 ?_
            | refine W10 ?_
            | refine W11 ?_)
          | (refine W12 ?_; first
            | refine W13 ?_
            | refine W14 ?_
            | refine W15 ?_
            | refine W16 ?_
            | refine W11 ?_)
          | (refine W17 ?_; first
            | refine W18 ?_
            | refine W19 ?_
            | refine W20 ?_
            | refine W21 ?_
            | refine W22 ?_
            | refine W11 ?_)
          | (refine W23 ?_; first
            | refine W24 ?_
            | refine W25 ?_)
          | (refine W26 ?_; first
            | refine W27 ?_
            | refine W28 ?_
            | refine W29 ?_
            | refine W30 ?_
            | refine W31 ?_)
          | refine XL.pure 1 (by rfl) ?_
          | refine W32 ?_
          | (refine W33 ?_; first
            | refine W34 ?_
            | refine W35 ?_
            | refine W36 ?_
            | refine W37 ?_
            | refine W38 ?_
            | refine W39 ?_
            | refine W40 ?_
            | refine W41 ?_
            | refine W42 ?_
            | refine W43 ?_
            | refine W44 ?_
            | refine W45 ?_
            | refine W46 ?_)
          | refine W47 ?_
          | refine W48 ?_
          | (refine W49 (fun b => ?_))
          | (refine W50 (fun b => ?_))
          | (refine W51 (fun b => ?_))
          | (refine W52 (fun b2 => ?_)))
        | (refine XC.is ?_; first
          | refine W82 ?_
          | refine W83 ?_
          | refine W84 ?_
          | refine W85 ?_
          | refine W86 ?_
          | refine W87 ?_
          | (refine W88 ?_; first
            | (refine W89 (fun h => ?_) (fun h => ?_) <;> try (first | (exfalso; omega) | exact absurd rfl h | (exfalso; simp at h <;> omega)))
            | refine W90 ?_
            | refine W91 ?_)
          | (refine W92 ?_; first
            | refine W93 ?_
            | (refine XC.planG (by kernel_rfl) (fun _ m h => h.drewn m) ?_; (conv => arg 5; reduce); refine XG0.of ?_; (conv => arg 5; reduce); (conv => arg 6; reduce); refine XG.go (by decide +kernel) ?_)))
        | (refine XQ.is ?_; first
          | refine W94 ?_
          | refine W95 ?_
          | (refine W96 ?_; refine W97 ?_)
          | refine W98 ?_
          | refine W99 ?_
          | refine W100 ?_
          | refine W101 ?_
          | refine W102 ?_
          | refine W103 ?_
          | refine W104 ?_
          | refine W105 ?_
          | refine W106 ?_
          | (refine W107 ?_; refine W108 ?_))
        | (refine XS.is ?_; first
          | (refine W53 ?_; refine W54 ?_)
          | (refine W55 ?_; first
            | refine W56 ?_
            | (refine W57 (fun h => ?_) (fun h => ?_) <;> try (first | (exfalso; omega) | exact absurd rfl h | (exfalso; simp at h <;> omega)))
            | refine W58 ?_
            | (refine W59 ?_; first
              | refine W60 ?_
              | refine W61 ?_
              | refine W62 ?_
              | refine W63 ?_
              | refine W64 ?_
              | refine W65 ?_)
            | (refine W66 ?_; first
              | refine W67 ?_
              | refine W68 ?_
              | refine W69 ?_)
            | (refine W70 ?_; first
              | refine W71 ?_
              | refine W72 ?_
              | refine W73 ?_
              | refine W74 ?_
              | refine W69 ?_)
            | (refine W75 ?_; first
              | refine W76 ?_
              | refine W69 ?_)
            | refine W69 ?_)
          | refine W77 ?_
          | (refine W78 ?_; refine W79 ?_ ?_)
          | (refine W80 ?_; refine W81 ?_ ?_ ?_)))
      first | refine XL.addw (by rfl) (by rfl) (by rfl) (by rfl) (by rfl) (by rfl) ?_ | refine XL.subw (by rfl) (by rfl) (by rfl) (by rfl) (by rfl) (by rfl) ?_
      repeat' (first
        | (refine XL.is ?_; first
          | refine W1 ?_
          | (refine W2 (fun h => ?_) (fun h => ?_) <;> try (first | (exfalso; omega) | exact absurd rfl h | (exfalso; simp at h <;> omega)))
          | refine W3 ?_
          | (refine W4 ?_; first
            | refine W5 ?_
            | refine W6 ?_
            | refine W7 ?_
            | refine W8 ?_
            | refine W9 ?_
            | refine W10 ?_
            | refine W11 ?_)
          | (refine W12 ?_; first
            | refine W13 ?_
            | refine W14 ?_
            | refine W15 ?_
            | refine W16 ?_
            | refine W11 ?_)
          | (refine W17 ?_; first
            | refine W18 ?_
            | refine W19 ?_
            | refine W20 ?_
            | refine W21 ?_
            | refine W22 ?_
            | refine W11 ?_)
          | (refine W23 ?_; first
            | refine W24 ?_
            | refine W25 ?_)
          | (refine W26 ?_; first
            | refine W27 ?_
            | refine W28 ?_
            | refine W29 ?_
            | refine W30 ?_
            | refine W31 ?_)
          | refine XL.pure 1 (by rfl) ?_
          | refine W32 ?_
          | (refine W33 ?_; first
            | refine W34 ?_
            | refine W35 ?_
            | refine W36 ?_
            | refine W37 ?_
            | refine W38 ?_
            | refine W39 ?_
            | refine W40 ?_
            | refine W41 ?_
            | refine W42 ?_
            | refine W43 ?_
            | refine W44 ?_
            | refine W45 ?_
            | refine W46 ?_)
          | refine W47 ?_
          | refine W48 ?_
          | (refine W49 (fun b => ?_))
          | (refine W50 (fun b => ?_))
          | (refine W51 (fun b => ?_))
          | (refine W52 (fun b2 => ?_)))
        | (refine XC.is ?_; first
          | refine W82 ?_
          | refine W83 ?_
          | refine W84 ?_
          | refine W85 ?_
          | refine W86 ?_
          | refine W87 ?_
          | (refine W88 ?_; first
            | (refine W89 (fun h => ?_) (fun h => ?_) <;> try (first | (exfalso; omega) | exact absurd rfl h | (exfalso; simp at h <;> omega)))
            | refine W90 ?_
            | refine W91 ?_)
          | (refine W92 ?_; first
            | refine W93 ?_
            | (refine XC.planG (by kernel_rfl) (fun _ m h => h.drewn m) ?_; (conv => arg 5; reduce); refine XG0.of ?_; (conv => arg 5; reduce); (conv => arg 6; reduce); refine XG.go (by decide +kernel) ?_)))
        | (refine XQ.is ?_; first
          | refine W94 ?_
          | refine W95 ?_
          | (refine W96 ?_; refine W97 ?_)
          | refine W98 ?_
          | refine W99 ?_
          | refine W100 ?_
          | refine W101 ?_
          | refine W102 ?_
          | refine W103 ?_
          | refine W104 ?_
          | refine W105 ?_
          | refine W106 ?_
          | (refine W107 ?_; refine W108 ?_))
        | (refine XS.is ?_; first
          | (refine W53 ?_; refine W54 ?_)
          | (refine W55 ?_; first
            | refine W56 ?_
            | (refine W57 (fun h => ?_) (fun h => ?_) <;> try (first | (exfalso; omega) | exact absurd rfl h | (exfalso; simp at h <;> omega)))
            | refine W58 ?_
            | (refine W59 ?_; first
              | refine W60 ?_
              | refine W61 ?_
              | refine W62 ?_
              | refine W63 ?_
              | refine W64 ?_
              | refine W65 ?_)
            | (refine W66 ?_; first
              | refine W67 ?_
              | refine W68 ?_
              | refine W69 ?_)
            | (refine W70 ?_; first
              | refine W71 ?_
              | refine W72 ?_
              | refine W73 ?_
              | refine W74 ?_
              | refine W69 ?_)
            | (refine W75 ?_; first
              | refine W76 ?_
              | refine W69 ?_)
            | refine W69 ?_)
          | refine W77 ?_
          | (refine W78 ?_; refine W79 ?_ ?_)
          | (refine W80 ?_; refine W81 ?_ ?_ ?_)))
      refine XL.trir (two_tri (k := 2) (a := w64 (first p I.n.toNat + i)) (b := w64 (first p fn + x)) (n := 0)) (by rfl) (by rfl) (by rfl) (by rfl) (by rfl) (by rfl) (by rfl) (by (repeat' (first | exact Sels.nil | exact Sel.here | apply Sels.cons | apply Sel.there)); done) (by (repeat (first | exact sub0 | refine subC (by repeat (first | exact List.Mem.head _ | apply List.Mem.tail)) ?_)); done) ?_
      rintro v2 -
      conv => arg 9; dsimp only [List.cons_append, List.nil_append]
      try conv => arg 7; dsimp only
      repeat' (first
        | (refine XL.is ?_; first
          | refine W1 ?_
          | (refine W2 (fun h => ?_) (fun h => ?_) <;> try (first | (exfalso; omega) | exact absurd rfl h | (exfalso; simp at h <;> omega)))
          | refine W3 ?_
          | (refine W4 ?_; first
            | refine W5 ?_
            | refine W6 ?_
            | refine W7 ?_
            | refine W8 ?_
            | refine W9 ?_
            | refine W10 ?_
            | refine W11 ?_)
          | (refine W12 ?_; first
            | refine W13 ?_
            | refine W14 ?_
            | refine W15 ?_
            | refine W16 ?_
            | refine W11 ?_)
          | (refine W17 ?_; first
            | refine W18 ?_
            | refine W19 ?_
            | refine W20 ?_
            | refine W21 ?_
            | refine W22 ?_
            | refine W11 ?_)
          | (refine W23 ?_; first
            | refine W24 ?_
            | refine W25 ?_)
          | (refine W26 ?_; first
            | refine W27 ?_
            | refine W28 ?_
            | refine W29 ?_
            | refine W30 ?_
            | refine W31 ?_)
          | refine XL.pure 1 (by rfl) ?_
          | refine W32 ?_
          | (refine W33 ?_; first
            | refine W34 ?_
            | refine W35 ?_
            | refine W36 ?_
            | refine W37 ?_
            | refine W38 ?_
            | refine W39 ?_
            | refine W40 ?_
            | refine W41 ?_
            | refine W42 ?_
            | refine W43 ?_
            | refine W44 ?_
            | refine W45 ?_
            | refine W46 ?_)
          | refine W47 ?_
          | refine W48 ?_
          | (refine W49 (fun b => ?_))
          | (refine W50 (fun b => ?_))
          | (refine W51 (fun b => ?_))
          | (refine W52 (fun b2 => ?_)))
        | (refine XC.is ?_; first
          | refine W82 ?_
          | refine W83 ?_
          | refine W84 ?_
          | refine W85 ?_
          | refine W86 ?_
          | refine W87 ?_
          | (refine W88 ?_; first
            | (refine W89 (fun h => ?_) (fun h => ?_) <;> try (first | (exfalso; omega) | exact absurd rfl h | (exfalso; simp at h <;> omega)))
            | refine W90 ?_
            | refine W91 ?_)
          | (refine W92 ?_; first
            | refine W93 ?_
            | (refine XC.planG (by kernel_rfl) (fun _ m h => h.drewn m) ?_; (conv => arg 5; reduce); refine XG0.of ?_; (conv => arg 5; reduce); (conv => arg 6; reduce); refine XG.go (by decide +kernel) ?_)))
        | (refine XQ.is ?_; first
          | refine W94 ?_
          | refine W95 ?_
          | (refine W96 ?_; refine W97 ?_)
          | refine W98 ?_
          | refine W99 ?_
          | refine W100 ?_
          | refine W101 ?_
          | refine W102 ?_
          | refine W103 ?_
          | refine W104 ?_
          | refine W105 ?_
          | refine W106 ?_
          | (refine W107 ?_; refine W108 ?_))
        | (refine XS.is ?_; first
          | (refine W53 ?_; refine W54 ?_)
          | (refine W55 ?_; first
            | refine W56 ?_
            | (refine W57 (fun h => ?_) (fun h => ?_) <;> try (first | (exfalso; omega) | exact absurd rfl h | (exfalso; simp at h <;> omega)))
            | refine W58 ?_
            | (refine W59 ?_; first
              | refine W60 ?_
              | refine W61 ?_
              | refine W62 ?_
              | refine W63 ?_
              | refine W64 ?_
              | refine W65 ?_)
            | (refine W66 ?_; first
              | refine W67 ?_
              | refine W68 ?_
              | refine W69 ?_)
            | (refine W70 ?_; first
              | refine W71 ?_
              | refine W72 ?_
              | refine W73 ?_
              | refine W74 ?_
              | refine W69 ?_)
            | (refine W75 ?_; first
              | refine W76 ?_
              | refine W69 ?_)
            | refine W69 ?_)
          | refine W77 ?_
          | (refine W78 ?_; refine W79 ?_ ?_)
          | (refine W80 ?_; refine W81 ?_ ?_ ?_)))
      refine XL.appendB (m := i) (k0 := 1) (news := conC [conN (two 2 (w64 (first p I.n.toNat + i)) (w64 (first p fn + x)) 0)]) (by rfl) (by rfl) (by rfl) (by rfl) (by rfl) (by rfl) (by rfl) (by repeat (first | exact Sel.here | apply Sel.there)) (by rfl) (by first | exact fun w h => St.row (by repeat (first | exact Sel.here | apply Sel.there)) h | exact fun w h => St.rowF (by repeat (first | exact List.Mem.head _ | apply List.Mem.tail)) h | exact fun w h => Hd.rowF (by repeat (first | exact List.Mem.head _ | apply List.Mem.tail)) h | exact fun w h => St.fnsRow (by repeat (first | exact List.Mem.head _ | apply List.Mem.tail)) h | exact fun w h => St.sitesRow (by repeat (first | exact List.Mem.head _ | apply List.Mem.tail)) h | exact fun w h => St.codeRow (by assumption) (by repeat (first | exact List.Mem.head _ | apply List.Mem.tail)) h | exact fun w h => St.argRow (by assumption) (by assumption) (by repeat (first | exact List.Mem.head _ | apply List.Mem.tail)) h | exact fun w h => St.locRow (by assumption) (by repeat (first | exact List.Mem.head _ | apply List.Mem.tail)) h | exact fun w h => St.consRow (by repeat (first | exact List.Mem.head _ | apply List.Mem.tail)) h | exact fun w h => St.conArgs (by assumption) (by repeat (first | exact List.Mem.head _ | apply List.Mem.tail)) h | exact fun w h => Hd.to (St.fnsRow (by repeat (first | exact List.Mem.head _ | apply List.Mem.tail))) h | exact fun w h => Hd.to (St.sitesRow (by repeat (first | exact List.Mem.head _ | apply List.Mem.tail))) h | exact fun w h => Hd.to (St.codeRow (by assumption) (by repeat (first | exact List.Mem.head _ | apply List.Mem.tail))) h | exact fun w h => Hd.to (St.argRow (by assumption) (by assumption) (by repeat (first | exact List.Mem.head _ | apply List.Mem.tail))) h | exact fun w h => Hd.to (St.consRow (by repeat (first | exact List.Mem.head _ | apply List.Mem.tail))) h) (onesL_spec (by rfl)) (by simp only [maxLen]; omega) (by show (_ + _) * 88 ≤ 140737488355328; omega) (fun v' => ?_)
      repeat' (first
        | (refine XL.is ?_; first
          | refine W1 ?_
          | (refine W2 (fun h => ?_) (fun h => ?_) <;> try (first | (exfalso; omega) | exact absurd rfl h | (exfalso; simp at h <;> omega)))
          | refine W3 ?_
          | (refine W4 ?_; first
            | refine W5 ?_
            | refine W6 ?_
            | refine W7 ?_
            | refine W8 ?_
            | refine W9 ?_
            | refine W10 ?_
            | refine W11 ?_)
          | (refine W12 ?_; first
            | refine W13 ?_
            | refine W14 ?_
            | refine W15 ?_
            | refine W16 ?_
            | refine W11 ?_)
          | (refine W17 ?_; first
            | refine W18 ?_
            | refine W19 ?_
            | refine W20 ?_
            | refine W21 ?_
            | refine W22 ?_
            | refine W11 ?_)
          | (refine W23 ?_; first
            | refine W24 ?_
            | refine W25 ?_)
          | (refine W26 ?_; first
            | refine W27 ?_
            | refine W28 ?_
            | refine W29 ?_
            | refine W30 ?_
            | refine W31 ?_)
          | refine XL.pure 1 (by rfl) ?_
          | refine W32 ?_
          | (refine W33 ?_; first
            | refine W34 ?_
            | refine W35 ?_
            | refine W36 ?_
            | refine W37 ?_
            | refine W38 ?_
            | refine W39 ?_
            | refine W40 ?_
            | refine W41 ?_
            | refine W42 ?_
            | refine W43 ?_
            | refine W44 ?_
            | refine W45 ?_
            | refine W46 ?_)
          | refine W47 ?_
          | refine W48 ?_
          | (refine W49 (fun b => ?_))
          | (refine W50 (fun b => ?_))
          | (refine W51 (fun b => ?_))
          | (refine W52 (fun b2 => ?_)))
        | (refine XC.is ?_; first
          | refine W82 ?_
          | refine W83 ?_
          | refine W84 ?_
          | refine W85 ?_
          | refine W86 ?_
          | refine W87 ?_
          | (refine W88 ?_; first
            | (refine W89 (fun h => ?_) (fun h => ?_) <;> try (first | (exfalso; omega) | exact absurd rfl h | (exfalso; simp at h <;> omega)))
            | refine W90 ?_
            | refine W91 ?_)
          | (refine W92 ?_; first
            | refine W93 ?_
            | (refine XC.planG (by kernel_rfl) (fun _ m h => h.drewn m) ?_; (conv => arg 5; reduce); refine XG0.of ?_; (conv => arg 5; reduce); (conv => arg 6; reduce); refine XG.go (by decide +kernel) ?_)))
        | (refine XQ.is ?_; first
          | refine W94 ?_
          | refine W95 ?_
          | (refine W96 ?_; refine W97 ?_)
          | refine W98 ?_
          | refine W99 ?_
          | refine W100 ?_
          | refine W101 ?_
          | refine W102 ?_
          | refine W103 ?_
          | refine W104 ?_
          | refine W105 ?_
          | refine W106 ?_
          | (refine W107 ?_; refine W108 ?_))
        | (refine XS.is ?_; first
          | (refine W53 ?_; refine W54 ?_)
          | (refine W55 ?_; first
            | refine W56 ?_
            | (refine W57 (fun h => ?_) (fun h => ?_) <;> try (first | (exfalso; omega) | exact absurd rfl h | (exfalso; simp at h <;> omega)))
            | refine W58 ?_
            | (refine W59 ?_; first
              | refine W60 ?_
              | refine W61 ?_
              | refine W62 ?_
              | refine W63 ?_
              | refine W64 ?_
              | refine W65 ?_)
            | (refine W66 ?_; first
              | refine W67 ?_
              | refine W68 ?_
              | refine W69 ?_)
            | (refine W70 ?_; first
              | refine W71 ?_
              | refine W72 ?_
              | refine W73 ?_
              | refine W74 ?_
              | refine W69 ?_)
            | (refine W75 ?_; first
              | refine W76 ?_
              | refine W69 ?_)
            | refine W69 ?_)
          | refine W77 ?_
          | (refine W78 ?_; refine W79 ?_ ?_)
          | (refine W80 ?_; refine W81 ?_ ?_ ?_)))
      exact XQ.round (i + 1, v') (by (repeat (first | exact fits_nil | refine fits_cons (by rfl) ?_)); done) (fun w hw => ⟨by dsimp only; omega, by rw [← copies_next hx]; unfold conC at hw ⊢; rw [List.map_append, List.flatten_append]; exact hw.less (by (repeat' (first | exact Sels.nil | exact Sel.here | apply Sels.cons | apply Sel.there)); done) (by (repeat (first | exact sub0 | refine subC (by repeat (first | exact List.Mem.head _ | apply List.Mem.tail)) ?_)); done)⟩) (by dsimp only; omega)
    have e : i = I.argL.length := by omega
    subst e
    refine XC.conv (fun w h => by rw [List.take_length] at h; exact h) ?_
    repeat' (first
      | (refine XL.is ?_; first
        | refine W1 ?_
        | (refine W2 (fun h => ?_) (fun h => ?_) <;> try (first | (exfalso; omega) | exact absurd rfl h | (exfalso; simp at h <;> omega)))
        | refine W3 ?_
        | (refine W4 ?_; first
          | refine W5 ?_
          | refine W6 ?_
          | refine W7 ?_
          | refine W8 ?_
          | refine W9 ?_
          | refine W10 ?_
          | refine W11 ?_)
        | (refine W12 ?_; first
          | refine W13 ?_
          | refine W14 ?_
          | refine W15 ?_
          | refine W16 ?_
          | refine W11 ?_)
        | (refine W17 ?_; first
          | refine W18 ?_
          | refine W19 ?_
          | refine W20 ?_
          | refine W21 ?_
          | refine W22 ?_
          | refine W11 ?_)
        | (refine W23 ?_; first
          | refine W24 ?_
          | refine W25 ?_)
        | (refine W26 ?_; first
          | refine W27 ?_
          | refine W28 ?_
          | refine W29 ?_
          | refine W30 ?_
          | refine W31 ?_)
        | refine XL.pure 1 (by rfl) ?_
        | refine W32 ?_
        | (refine W33 ?_; first
          | refine W34 ?_
          | refine W35 ?_
          | refine W36 ?_
          | refine W37 ?_
          | refine W38 ?_
          | refine W39 ?_
          | refine W40 ?_
          | refine W41 ?_
          | refine W42 ?_
          | refine W43 ?_
          | refine W44 ?_
          | refine W45 ?_
          | refine W46 ?_)
        | refine W47 ?_
        | refine W48 ?_
        | (refine W49 (fun b => ?_))
        | (refine W50 (fun b => ?_))
        | (refine W51 (fun b => ?_))
        | (refine W52 (fun b2 => ?_)))
      | (refine XC.is ?_; first
        | refine W82 ?_
        | refine W83 ?_
        | refine W84 ?_
        | refine W85 ?_
        | refine W86 ?_
        | refine W87 ?_
        | (refine W88 ?_; first
          | (refine W89 (fun h => ?_) (fun h => ?_) <;> try (first | (exfalso; omega) | exact absurd rfl h | (exfalso; simp at h <;> omega)))
          | refine W90 ?_
          | refine W91 ?_)
        | (refine W92 ?_; first
          | refine W93 ?_
          | (refine XC.planG (by kernel_rfl) (fun _ m h => h.drewn m) ?_; (conv => arg 5; reduce); refine XG0.of ?_; (conv => arg 5; reduce); (conv => arg 6; reduce); refine XG.go (by decide +kernel) ?_)))
      | (refine XQ.is ?_; first
        | refine W94 ?_
        | refine W95 ?_
        | (refine W96 ?_; refine W97 ?_)
        | refine W98 ?_
        | refine W99 ?_
        | refine W100 ?_
        | refine W101 ?_
        | refine W102 ?_
        | refine W103 ?_
        | refine W104 ?_
        | refine W105 ?_
        | refine W106 ?_
        | (refine W107 ?_; refine W108 ?_))
      | (refine XS.is ?_; first
        | (refine W53 ?_; refine W54 ?_)
        | (refine W55 ?_; first
          | refine W56 ?_
          | (refine W57 (fun h => ?_) (fun h => ?_) <;> try (first | (exfalso; omega) | exact absurd rfl h | (exfalso; simp at h <;> omega)))
          | refine W58 ?_
          | (refine W59 ?_; first
            | refine W60 ?_
            | refine W61 ?_
            | refine W62 ?_
            | refine W63 ?_
            | refine W64 ?_
            | refine W65 ?_)
          | (refine W66 ?_; first
            | refine W67 ?_
            | refine W68 ?_
            | refine W69 ?_)
          | (refine W70 ?_; first
            | refine W71 ?_
            | refine W72 ?_
            | refine W73 ?_
            | refine W74 ?_
            | refine W69 ?_)
          | (refine W75 ?_; first
            | refine W76 ?_
            | refine W69 ?_)
          | refine W69 ?_)
        | refine W77 ?_
        | (refine W78 ?_; refine W79 ?_ ?_)
        | (refine W80 ?_; refine W81 ?_ ?_ ?_)))
    refine XL.triq (told_triI hp n0 n1) (by rfl) (by rfl) (by rfl) (by rfl) (by rfl) (by rfl) (by rfl) (by (repeat' (first | exact Sels.nil | exact Sel.here | apply Sels.cons | apply Sel.there)); done) (by (repeat' (first | exact Sels.nil | exact Sel.here | apply Sels.cons | apply Sel.there)); done) (by (repeat (first | exact sub0 | refine subC (by repeat (first | exact List.Mem.head _ | apply List.Mem.tail)) ?_)); done) ?_
    repeat' (first
      | (refine XL.is ?_; first
        | refine W1 ?_
        | (refine W2 (fun h => ?_) (fun h => ?_) <;> try (first | (exfalso; omega) | exact absurd rfl h | (exfalso; simp at h <;> omega)))
        | refine W3 ?_
        | (refine W4 ?_; first
          | refine W5 ?_
          | refine W6 ?_
          | refine W7 ?_
          | refine W8 ?_
          | refine W9 ?_
          | refine W10 ?_
          | refine W11 ?_)
        | (refine W12 ?_; first
          | refine W13 ?_
          | refine W14 ?_
          | refine W15 ?_
          | refine W16 ?_
          | refine W11 ?_)
        | (refine W17 ?_; first
          | refine W18 ?_
          | refine W19 ?_
          | refine W20 ?_
          | refine W21 ?_
          | refine W22 ?_
          | refine W11 ?_)
        | (refine W23 ?_; first
          | refine W24 ?_
          | refine W25 ?_)
        | (refine W26 ?_; first
          | refine W27 ?_
          | refine W28 ?_
          | refine W29 ?_
          | refine W30 ?_
          | refine W31 ?_)
        | refine XL.pure 1 (by rfl) ?_
        | refine W32 ?_
        | (refine W33 ?_; first
          | refine W34 ?_
          | refine W35 ?_
          | refine W36 ?_
          | refine W37 ?_
          | refine W38 ?_
          | refine W39 ?_
          | refine W40 ?_
          | refine W41 ?_
          | refine W42 ?_
          | refine W43 ?_
          | refine W44 ?_
          | refine W45 ?_
          | refine W46 ?_)
        | refine W47 ?_
        | refine W48 ?_
        | (refine W49 (fun b => ?_))
        | (refine W50 (fun b => ?_))
        | (refine W51 (fun b => ?_))
        | (refine W52 (fun b2 => ?_)))
      | (refine XC.is ?_; first
        | refine W82 ?_
        | refine W83 ?_
        | refine W84 ?_
        | refine W85 ?_
        | refine W86 ?_
        | refine W87 ?_
        | (refine W88 ?_; first
          | (refine W89 (fun h => ?_) (fun h => ?_) <;> try (first | (exfalso; omega) | exact absurd rfl h | (exfalso; simp at h <;> omega)))
          | refine W90 ?_
          | refine W91 ?_)
        | (refine W92 ?_; first
          | refine W93 ?_
          | (refine XC.planG (by kernel_rfl) (fun _ m h => h.drewn m) ?_; (conv => arg 5; reduce); refine XG0.of ?_; (conv => arg 5; reduce); (conv => arg 6; reduce); refine XG.go (by decide +kernel) ?_)))
      | (refine XQ.is ?_; first
        | refine W94 ?_
        | refine W95 ?_
        | (refine W96 ?_; refine W97 ?_)
        | refine W98 ?_
        | refine W99 ?_
        | refine W100 ?_
        | refine W101 ?_
        | refine W102 ?_
        | refine W103 ?_
        | refine W104 ?_
        | refine W105 ?_
        | refine W106 ?_
        | (refine W107 ?_; refine W108 ?_))
      | (refine XS.is ?_; first
        | (refine W53 ?_; refine W54 ?_)
        | (refine W55 ?_; first
          | refine W56 ?_
          | (refine W57 (fun h => ?_) (fun h => ?_) <;> try (first | (exfalso; omega) | exact absurd rfl h | (exfalso; simp at h <;> omega)))
          | refine W58 ?_
          | (refine W59 ?_; first
            | refine W60 ?_
            | refine W61 ?_
            | refine W62 ?_
            | refine W63 ?_
            | refine W64 ?_
            | refine W65 ?_)
          | (refine W66 ?_; first
            | refine W67 ?_
            | refine W68 ?_
            | refine W69 ?_)
          | (refine W70 ?_; first
            | refine W71 ?_
            | refine W72 ?_
            | refine W73 ?_
            | refine W74 ?_
            | refine W69 ?_)
          | (refine W75 ?_; first
            | refine W76 ?_
            | refine W69 ?_)
          | refine W69 ?_)
        | refine W77 ?_
        | (refine W78 ?_; refine W79 ?_ ?_)
        | (refine W80 ?_; refine W81 ?_ ?_ ?_)))
    refine XL.trir (two_tri (k := 2) (a := w64 (first p fn + I.a)) (b := told p I.n) (n := 0)) (by rfl) (by rfl) (by rfl) (by rfl) (by rfl) (by rfl) (by rfl) (by (repeat' (first | exact Sels.nil | exact Sel.here | apply Sels.cons | apply Sel.there)); done) (by (repeat (first | exact sub0 | refine subC (by repeat (first | exact List.Mem.head _ | apply List.Mem.tail)) ?_)); done) ?_
    rintro v2 -
    conv => arg 9; dsimp only [List.cons_append, List.nil_append]
    try conv => arg 7; dsimp only
    repeat' (first
      | (refine XL.is ?_; first
        | refine W1 ?_
        | (refine W2 (fun h => ?_) (fun h => ?_) <;> try (first | (exfalso; omega) | exact absurd rfl h | (exfalso; simp at h <;> omega)))
        | refine W3 ?_
        | (refine W4 ?_; first
          | refine W5 ?_
          | refine W6 ?_
          | refine W7 ?_
          | refine W8 ?_
          | refine W9 ?_
          | refine W10 ?_
          | refine W11 ?_)
        | (refine W12 ?_; first
          | refine W13 ?_
          | refine W14 ?_
          | refine W15 ?_
          | refine W16 ?_
          | refine W11 ?_)
        | (refine W17 ?_; first
          | refine W18 ?_
          | refine W19 ?_
          | refine W20 ?_
          | refine W21 ?_
          | refine W22 ?_
          | refine W11 ?_)
        | (refine W23 ?_; first
          | refine W24 ?_
          | refine W25 ?_)
        | (refine W26 ?_; first
          | refine W27 ?_
          | refine W28 ?_
          | refine W29 ?_
          | refine W30 ?_
          | refine W31 ?_)
        | refine XL.pure 1 (by rfl) ?_
        | refine W32 ?_
        | (refine W33 ?_; first
          | refine W34 ?_
          | refine W35 ?_
          | refine W36 ?_
          | refine W37 ?_
          | refine W38 ?_
          | refine W39 ?_
          | refine W40 ?_
          | refine W41 ?_
          | refine W42 ?_
          | refine W43 ?_
          | refine W44 ?_
          | refine W45 ?_
          | refine W46 ?_)
        | refine W47 ?_
        | refine W48 ?_
        | (refine W49 (fun b => ?_))
        | (refine W50 (fun b => ?_))
        | (refine W51 (fun b => ?_))
        | (refine W52 (fun b2 => ?_)))
      | (refine XC.is ?_; first
        | refine W82 ?_
        | refine W83 ?_
        | refine W84 ?_
        | refine W85 ?_
        | refine W86 ?_
        | refine W87 ?_
        | (refine W88 ?_; first
          | (refine W89 (fun h => ?_) (fun h => ?_) <;> try (first | (exfalso; omega) | exact absurd rfl h | (exfalso; simp at h <;> omega)))
          | refine W90 ?_
          | refine W91 ?_)
        | (refine W92 ?_; first
          | refine W93 ?_
          | (refine XC.planG (by kernel_rfl) (fun _ m h => h.drewn m) ?_; (conv => arg 5; reduce); refine XG0.of ?_; (conv => arg 5; reduce); (conv => arg 6; reduce); refine XG.go (by decide +kernel) ?_)))
      | (refine XQ.is ?_; first
        | refine W94 ?_
        | refine W95 ?_
        | (refine W96 ?_; refine W97 ?_)
        | refine W98 ?_
        | refine W99 ?_
        | refine W100 ?_
        | refine W101 ?_
        | refine W102 ?_
        | refine W103 ?_
        | refine W104 ?_
        | refine W105 ?_
        | refine W106 ?_
        | (refine W107 ?_; refine W108 ?_))
      | (refine XS.is ?_; first
        | (refine W53 ?_; refine W54 ?_)
        | (refine W55 ?_; first
          | refine W56 ?_
          | (refine W57 (fun h => ?_) (fun h => ?_) <;> try (first | (exfalso; omega) | exact absurd rfl h | (exfalso; simp at h <;> omega)))
          | refine W58 ?_
          | (refine W59 ?_; first
            | refine W60 ?_
            | refine W61 ?_
            | refine W62 ?_
            | refine W63 ?_
            | refine W64 ?_
            | refine W65 ?_)
          | (refine W66 ?_; first
            | refine W67 ?_
            | refine W68 ?_
            | refine W69 ?_)
          | (refine W70 ?_; first
            | refine W71 ?_
            | refine W72 ?_
            | refine W73 ?_
            | refine W74 ?_
            | refine W69 ?_)
          | (refine W75 ?_; first
            | refine W76 ?_
            | refine W69 ?_)
          | refine W69 ?_)
        | refine W77 ?_
        | (refine W78 ?_; refine W79 ?_ ?_)
        | (refine W80 ?_; refine W81 ?_ ?_ ?_)))
    refine XL.appendB (m := I.argL.length) (k0 := 1) (news := conC [conN (two 2 (w64 (first p fn + I.a)) (told p I.n) 0)]) (by rfl) (by rfl) (by rfl) (by rfl) (by rfl) (by rfl) (by rfl) (by repeat (first | exact Sel.here | apply Sel.there)) (by rfl) (by first | exact fun w h => St.row (by repeat (first | exact Sel.here | apply Sel.there)) h | exact fun w h => St.rowF (by repeat (first | exact List.Mem.head _ | apply List.Mem.tail)) h | exact fun w h => Hd.rowF (by repeat (first | exact List.Mem.head _ | apply List.Mem.tail)) h | exact fun w h => St.fnsRow (by repeat (first | exact List.Mem.head _ | apply List.Mem.tail)) h | exact fun w h => St.sitesRow (by repeat (first | exact List.Mem.head _ | apply List.Mem.tail)) h | exact fun w h => St.codeRow (by assumption) (by repeat (first | exact List.Mem.head _ | apply List.Mem.tail)) h | exact fun w h => St.argRow (by assumption) (by assumption) (by repeat (first | exact List.Mem.head _ | apply List.Mem.tail)) h | exact fun w h => St.locRow (by assumption) (by repeat (first | exact List.Mem.head _ | apply List.Mem.tail)) h | exact fun w h => St.consRow (by repeat (first | exact List.Mem.head _ | apply List.Mem.tail)) h | exact fun w h => St.conArgs (by assumption) (by repeat (first | exact List.Mem.head _ | apply List.Mem.tail)) h | exact fun w h => Hd.to (St.fnsRow (by repeat (first | exact List.Mem.head _ | apply List.Mem.tail))) h | exact fun w h => Hd.to (St.sitesRow (by repeat (first | exact List.Mem.head _ | apply List.Mem.tail))) h | exact fun w h => Hd.to (St.codeRow (by assumption) (by repeat (first | exact List.Mem.head _ | apply List.Mem.tail))) h | exact fun w h => Hd.to (St.argRow (by assumption) (by assumption) (by repeat (first | exact List.Mem.head _ | apply List.Mem.tail))) h | exact fun w h => Hd.to (St.consRow (by repeat (first | exact List.Mem.head _ | apply List.Mem.tail))) h) (onesL_spec (by rfl)) (by simp only [maxLen]; omega) (by show (_ + _) * 88 ≤ 140737488355328; omega) (fun v' => ?_)
    repeat' (first
      | (refine XL.is ?_; first
        | refine W1 ?_
        | (refine W2 (fun h => ?_) (fun h => ?_) <;> try (first | (exfalso; omega) | exact absurd rfl h | (exfalso; simp at h <;> omega)))
        | refine W3 ?_
        | (refine W4 ?_; first
          | refine W5 ?_
          | refine W6 ?_
          | refine W7 ?_
          | refine W8 ?_
          | refine W9 ?_
          | refine W10 ?_
          | refine W11 ?_)
        | (refine W12 ?_; first
          | refine W13 ?_
          | refine W14 ?_
          | refine W15 ?_
          | refine W16 ?_
          | refine W11 ?_)
        | (refine W17 ?_; first
          | refine W18 ?_
          | refine W19 ?_
          | refine W20 ?_
          | refine W21 ?_
          | refine W22 ?_
          | refine W11 ?_)
        | (refine W23 ?_; first
          | refine W24 ?_
          | refine W25 ?_)
        | (refine W26 ?_; first
          | refine W27 ?_
          | refine W28 ?_
          | refine W29 ?_
          | refine W30 ?_
          | refine W31 ?_)
        | refine XL.pure 1 (by rfl) ?_
        | refine W32 ?_
        | (refine W33 ?_; first
          | refine W34 ?_
          | refine W35 ?_
          | refine W36 ?_
          | refine W37 ?_
          | refine W38 ?_
          | refine W39 ?_
          | refine W40 ?_
          | refine W41 ?_
          | refine W42 ?_
          | refine W43 ?_
          | refine W44 ?_
          | refine W45 ?_
          | refine W46 ?_)
        | refine W47 ?_
        | refine W48 ?_
        | (refine W49 (fun b => ?_))
        | (refine W50 (fun b => ?_))
        | (refine W51 (fun b => ?_))
        | (refine W52 (fun b2 => ?_)))
      | (refine XC.is ?_; first
        | refine W82 ?_
        | refine W83 ?_
        | refine W84 ?_
        | refine W85 ?_
        | refine W86 ?_
        | refine W87 ?_
        | (refine W88 ?_; first
          | (refine W89 (fun h => ?_) (fun h => ?_) <;> try (first | (exfalso; omega) | exact absurd rfl h | (exfalso; simp at h <;> omega)))
          | refine W90 ?_
          | refine W91 ?_)
        | (refine W92 ?_; first
          | refine W93 ?_
          | (refine XC.planG (by kernel_rfl) (fun _ m h => h.drewn m) ?_; (conv => arg 5; reduce); refine XG0.of ?_; (conv => arg 5; reduce); (conv => arg 6; reduce); refine XG.go (by decide +kernel) ?_)))
      | (refine XQ.is ?_; first
        | refine W94 ?_
        | refine W95 ?_
        | (refine W96 ?_; refine W97 ?_)
        | refine W98 ?_
        | refine W99 ?_
        | refine W100 ?_
        | refine W101 ?_
        | refine W102 ?_
        | refine W103 ?_
        | refine W104 ?_
        | refine W105 ?_
        | refine W106 ?_
        | (refine W107 ?_; refine W108 ?_))
      | (refine XS.is ?_; first
        | (refine W53 ?_; refine W54 ?_)
        | (refine W55 ?_; first
          | refine W56 ?_
          | (refine W57 (fun h => ?_) (fun h => ?_) <;> try (first | (exfalso; omega) | exact absurd rfl h | (exfalso; simp at h <;> omega)))
          | refine W58 ?_
          | (refine W59 ?_; first
            | refine W60 ?_
            | refine W61 ?_
            | refine W62 ?_
            | refine W63 ?_
            | refine W64 ?_
            | refine W65 ?_)
          | (refine W66 ?_; first
            | refine W67 ?_
            | refine W68 ?_
            | refine W69 ?_)
          | (refine W70 ?_; first
            | refine W71 ?_
            | refine W72 ?_
            | refine W73 ?_
            | refine W74 ?_
            | refine W69 ?_)
          | (refine W75 ?_; first
            | refine W76 ?_
            | refine W69 ?_)
          | refine W69 ?_)
        | refine W77 ?_
        | (refine W78 ?_; refine W79 ?_ ?_)
        | (refine W80 ?_; refine W81 ?_ ?_ ?_)))
    refine XQ.consRow (copies p fn I.n.toNat I.argL ++ [conN (two 2 (w64 (first p fn + I.a)) (told p I.n) 0)]) (by rfl) (by rfl) .here (by simp [copies_len]) (by simp [conC]) (fun C hC => ?_) ?_ (by (repeat' (first | exact Sels.nil | exact Sel.here | apply Sels.cons | apply Sel.there)); done)
    · rcases List.mem_append.1 hC with hC | hC
      · exact copies_nil C hC
      · rw [List.mem_singleton.1 hC]; exact ⟨rfl, rfl⟩
    · simp only [insnS, ho, copies, conN]
      rw [List.map_append, List.mapIdx_eq_zipIdx_map, List.mapIdx_eq_zipIdx_map, List.map_map]
      rfl
end Go.Proofs.YtafochlcnjeanaaGreat
