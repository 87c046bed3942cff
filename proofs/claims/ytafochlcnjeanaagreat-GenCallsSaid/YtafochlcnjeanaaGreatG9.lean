/- An instruction's constraints: the maker's. -/
import Derived.Test.YtafochlcnjeanaaGreatG8
import Derived.Test.YtafochlcnjeanaaGreatX14
namespace Go.Proofs.YtafochlcnjeanaaGreat
open Go X
set_option maxRecDepth 100000
attribute [local irreducible] XC XL XQ Tri blk Shows Sq Rd Mt inBlockX XS XG XG0 TkS AnS rowO
set_option maxHeartbeats 4000000 in
theorem insn20_tri {p : ProgM} (hp : p.OK) (hw : p.WF) {F : FnM} (mF : F ∈ p.fnL) {I : InsnM} (mI : I ∈ F.codeL) {mb fn : Nat} {fv : Value} (hfn : fn < p.fnL.length) (hok : okI p I) :
    Tri Tryz.prog 20 [.pointer (some ⟨mb, 0, none⟩), I.v] [mkB p mb fv fn] [progFP p, fF p fv] (ConsRet [mkB p mb fv fn] (insnS p fn I)) := by
  refine Tri.of Tryz.func20 rfl fun c => ?_
  repeat' (first
    | (refine XL.is ?_; first
      | refine W1 ?_
      | (refine W2 (fun h => ?_) (fun h => ?_) <;> try (first | (exfalso; omega) | exact absurd rfl h | (exfalso; simp at h <;> omega)))
      | refine W3 ?_
      | (refine W4 ?_; first
        | refine W5 ?_
        | refine W6 ?_
        | refine W7 ?_
        | refine W8 ?_
        | refine W9 ?_
        | refine W10 ?_
        | refine W11 ?_)
      | (refine W12 ?_; first
        | refine W13 ?_
        | refine W14 ?_
        | refine W15 ?_
        | refine W16 ?_
        | refine W11 ?_)
      | (refine W17 ?_; first
        | refine W18 ?_
        | refine W19 ?_
        | refine W20 ?_
        | refine W21 ?_
        | refine W22 ?_
        | refine W11 ?_)
      | (refine W23 ?_; first
        | refine W24 ?_
        | refine W25 ?_)
      | (refine W26 ?_; first
        | refine W27 ?_
        | refine W28 ?_
        | refine W29 ?_
        | refine W30 ?_
        | refine W31 ?_)
      | refine XL.pure 1 (by rfl) ?_
      | refine W32 ?_
      | (refine W33 ?_; first
        | refine W34 ?_
        | refine W35 ?_
        | refine W36 ?_
        | refine W37 ?_
        | refine W38 ?_
        | refine W39 ?_
        | refine W40 ?_
        | refine W41 ?_
        | refine W42 ?_
        | refine W43 ?_
        | refine W44 ?_
        | refine W45 ?_
        | refine W46 ?_)
      | refine W47 ?_
      | refine W48 ?_
      | (refine W49 (fun b => ?_))
      | (refine W50 (fun b => ?_))
      | (refine W51 (fun b => ?_))
      | (refine W52 (fun b2 => ?_)))
    | (refine XC.is ?_; first
      | refine W82 ?_
      | refine W83 ?_
      | refine W84 ?_
      | refine W85 ?_
      | refine W86 ?_
      | refine W87 ?_
      | (refine W88 ?_; first
        | (refine W89 (fun h => ?_) (fun h => ?_) <;> try (first | (exfalso; omega) | exact absurd rfl h | (exfalso; simp at h <;> omega)))
        | refine W90 ?_
        | refine W91 ?_)
      | (refine W92 ?_; first
        | refine W93 ?_
        | (refine XC.planG (by kernel_rfl) (fun _ m h => h.drewn m) ?_; (conv => arg 5; reduce); refine XG0.of ?_; (conv => arg 5; reduce); (conv => arg 6; reduce); refine XG.go (by decide +kernel) ?_)))
    | (refine XQ.is ?_; first
      | refine W94 ?_
      | refine W95 ?_
      | (refine W96 ?_; refine W97 ?_)
      | refine W98 ?_
      | refine W99 ?_
      | refine W100 ?_
      | refine W101 ?_
      | refine W102 ?_
      | refine W103 ?_
      | refine W104 ?_
      | refine W105 ?_
      | refine W106 ?_
      | (refine W107 ?_; refine W108 ?_))
    | (refine XS.is ?_; first
      | (refine W53 ?_; refine W54 ?_)
      | (refine W55 ?_; first
        | refine W56 ?_
        | (refine W57 (fun h => ?_) (fun h => ?_) <;> try (first | (exfalso; omega) | exact absurd rfl h | (exfalso; simp at h <;> omega)))
        | refine W58 ?_
        | (refine W59 ?_; first
          | refine W60 ?_
          | refine W61 ?_
          | refine W62 ?_
          | refine W63 ?_
          | refine W64 ?_
          | refine W65 ?_)
        | (refine W66 ?_; first
          | refine W67 ?_
          | refine W68 ?_
          | refine W69 ?_)
        | (refine W70 ?_; first
          | refine W71 ?_
          | refine W72 ?_
          | refine W73 ?_
          | refine W74 ?_
          | refine W69 ?_)
        | (refine W75 ?_; first
          | refine W76 ?_
          | refine W69 ?_)
        | refine W69 ?_)
      | refine W77 ?_
      | (refine W78 ?_; refine W79 ?_ ?_)
      | (refine W80 ?_; refine W81 ?_ ?_ ?_)))
  all_goals first
    | exact XQ.consNil (by rfl) (by rfl) (by simp [insnS, *]) (by (repeat' (first | exact Sels.nil | exact Sel.here | apply Sels.cons | apply Sel.there)); done)
    | (refine XL.triqF (base_tri (p := p) (s := I.b) hfn) (by rfl) (by rfl) (by rfl) (by rfl) (by rfl) (by rfl) (by rfl) (by rfl) (by (repeat' (first | exact Sels.nil | exact Sel.here | apply Sels.cons | apply Sel.there)); done) (by (repeat' (first | exact Sels.nil | exact Sel.here | apply Sels.cons | apply Sel.there)); done) (by (repeat (first | exact sub0 | refine subC (by repeat (first | exact List.Mem.head _ | apply List.Mem.tail)) ?_)); done) ?_
       repeat' (first
         | (refine XL.is ?_; first
           | refine W1 ?_
           | (refine W2 (fun h => ?_) (fun h => ?_) <;> try (first | (exfalso; omega) | exact absurd rfl h | (exfalso; simp at h <;> omega)))
           | refine W3 ?_
           | (refine W4 ?_; first
             | refine W5 ?_
             | refine W6 ?_
             | refine W7 ?_
             | refine W8 ?_
             | refine W9 ?_
             | refine W10 ?_
             | refine W11 ?_)
           | (refine W12 ?_; first
             | refine W13 ?_
             | refine W14 ?_
             | refine W15 ?_
             | refine W16 ?_
             | refine W11 ?_)
           | (refine W17 ?_; first
             | refine W18 ?_
             | refine W19 ?_
             | refine W20 ?_
             | refine W21 ?_
             | refine W22 ?_
             | refine W11 ?_)
           | (refine W23 ?_; first
             | refine W24 ?_
             | refine W25 ?_)
           | (refine W26 ?_; first
             | refine W27 ?_
             | refine W28 ?_
             | refine W29 ?_
             | refine W30 ?_
             | refine W31 ?_)
           | refine XL.pure 1 (by rfl) ?_
           | refine W32 ?_
           | (refine W33 ?_; first
             | refine W34 ?_
             | refine W35 ?_
             | refine W36 ?_
             | refine W37 ?_
             | refine W38 ?_
             | refine W39 ?_
             | refine W40 ?_
             | refine W41 ?_
             | refine W42 ?_
             | refine W43 ?_
             | refine W44 ?_
             | refine W45 ?_
             | refine W46 ?_)
           | refine W47 ?_
           | refine W48 ?_
           | (refine W49 (fun b => ?_))
           | (refine W50 (fun b => ?_))
           | (refine W51 (fun b => ?_))
           | (refine W52 (fun b2 => ?_)))
         | (refine XC.is ?_; first
           | refine W82 ?_
           | refine W83 ?_
           | refine W84 ?_
           | refine W85 ?_
           | refine W86 ?_
           | refine W87 ?_
           | (refine W88 ?_; first
             | (refine W89 (fun h => ?_) (fun h => ?_) <;> try (first | (exfalso; omega) | exact absurd rfl h | (exfalso; simp at h <;> omega)))
             | refine W90 ?_
             | refine W91 ?_)
           | (refine W92 ?_; first
             | refine W93 ?_
             | (refine XC.planG (by kernel_rfl) (fun _ m h => h.drewn m) ?_; (conv => arg 5; reduce); refine XG0.of ?_; (conv => arg 5; reduce); (conv => arg 6; reduce); refine XG.go (by decide +kernel) ?_)))
         | (refine XQ.is ?_; first
           | refine W94 ?_
           | refine W95 ?_
           | (refine W96 ?_; refine W97 ?_)
           | refine W98 ?_
           | refine W99 ?_
           | refine W100 ?_
           | refine W101 ?_
           | refine W102 ?_
           | refine W103 ?_
           | refine W104 ?_
           | refine W105 ?_
           | refine W106 ?_
           | (refine W107 ?_; refine W108 ?_))
         | (refine XS.is ?_; first
           | (refine W53 ?_; refine W54 ?_)
           | (refine W55 ?_; first
             | refine W56 ?_
             | (refine W57 (fun h => ?_) (fun h => ?_) <;> try (first | (exfalso; omega) | exact absurd rfl h | (exfalso; simp at h <;> omega)))
             | refine W58 ?_
             | (refine W59 ?_; first
               | refine W60 ?_
               | refine W61 ?_
               | refine W62 ?_
               | refine W63 ?_
               | refine W64 ?_
               | refine W65 ?_)
             | (refine W66 ?_; first
               | refine W67 ?_
               | refine W68 ?_
               | refine W69 ?_)
             | (refine W70 ?_; first
               | refine W71 ?_
               | refine W72 ?_
               | refine W73 ?_
               | refine W74 ?_
               | refine W69 ?_)
             | (refine W75 ?_; first
               | refine W76 ?_
               | refine W69 ?_)
             | refine W69 ?_)
           | refine W77 ?_
           | (refine W78 ?_; refine W79 ?_ ?_)
           | (refine W80 ?_; refine W81 ?_ ?_ ?_)))
       refine XL.triq (some_tri) (by rfl) (by rfl) (by rfl) (by rfl) (by rfl) (by rfl) (by rfl) (by (repeat' (first | exact Sels.nil | exact Sel.here | apply Sels.cons | apply Sel.there)); done) (by (repeat' (first | exact Sels.nil | exact Sel.here | apply Sels.cons | apply Sel.there)); done) (by (repeat (first | exact sub0 | refine subC (by repeat (first | exact List.Mem.head _ | apply List.Mem.tail)) ?_)); done) ?_
       repeat' (first
         | (refine XL.is ?_; first
           | refine W1 ?_
           | (refine W2 (fun h => ?_) (fun h => ?_) <;> try (first | (exfalso; omega) | exact absurd rfl h | (exfalso; simp at h <;> omega)))
           | refine W3 ?_
           | (refine W4 ?_; first
             | refine W5 ?_
             | refine W6 ?_
             | refine W7 ?_
             | refine W8 ?_
             | refine W9 ?_
             | refine W10 ?_
             | refine W11 ?_)
           | (refine W12 ?_; first
             | refine W13 ?_
             | refine W14 ?_
             | refine W15 ?_
             | refine W16 ?_
             | refine W11 ?_)
           | (refine W17 ?_; first
             | refine W18 ?_
             | refine W19 ?_
             | refine W20 ?_
             | refine W21 ?_
             | refine W22 ?_
             | refine W11 ?_)
           | (refine W23 ?_; first
             | refine W24 ?_
             | refine W25 ?_)
           | (refine W26 ?_; first
             | refine W27 ?_
             | refine W28 ?_
             | refine W29 ?_
             | refine W30 ?_
             | refine W31 ?_)
           | refine XL.pure 1 (by rfl) ?_
           | refine W32 ?_
           | (refine W33 ?_; first
             | refine W34 ?_
             | refine W35 ?_
             | refine W36 ?_
             | refine W37 ?_
             | refine W38 ?_
             | refine W39 ?_
             | refine W40 ?_
             | refine W41 ?_
             | refine W42 ?_
             | refine W43 ?_
             | refine W44 ?_
             | refine W45 ?_
             | refine W46 ?_)
           | refine W47 ?_
           | refine W48 ?_
           | (refine W49 (fun b => ?_))
           | (refine W50 (fun b => ?_))
           | (refine W51 (fun b => ?_))
           | (refine W52 (fun b2 => ?_)))
         | (refine XC.is ?_; first
           | refine W82 ?_
           | refine W83 ?_
           | refine W84 ?_
           | refine W85 ?_
           | refine W86 ?_
           | refine W87 ?_
           | (refine W88 ?_; first
             | (refine W89 (fun h => ?_) (fun h => ?_) <;> try (first | (exfalso; omega) | exact absurd rfl h | (exfalso; simp at h <;> omega)))
             | refine W90 ?_
             | refine W91 ?_)
           | (refine W92 ?_; first
             | refine W93 ?_
             | (refine XC.planG (by kernel_rfl) (fun _ m h => h.drewn m) ?_; (conv => arg 5; reduce); refine XG0.of ?_; (conv => arg 5; reduce); (conv => arg 6; reduce); refine XG.go (by decide +kernel) ?_)))
         | (refine XQ.is ?_; first
           | refine W94 ?_
           | refine W95 ?_
           | (refine W96 ?_; refine W97 ?_)
           | refine W98 ?_
           | refine W99 ?_
           | refine W100 ?_
           | refine W101 ?_
           | refine W102 ?_
           | refine W103 ?_
           | refine W104 ?_
           | refine W105 ?_
           | refine W106 ?_
           | (refine W107 ?_; refine W108 ?_))
         | (refine XS.is ?_; first
           | (refine W53 ?_; refine W54 ?_)
           | (refine W55 ?_; first
             | refine W56 ?_
             | (refine W57 (fun h => ?_) (fun h => ?_) <;> try (first | (exfalso; omega) | exact absurd rfl h | (exfalso; simp at h <;> omega)))
             | refine W58 ?_
             | (refine W59 ?_; first
               | refine W60 ?_
               | refine W61 ?_
               | refine W62 ?_
               | refine W63 ?_
               | refine W64 ?_
               | refine W65 ?_)
             | (refine W66 ?_; first
               | refine W67 ?_
               | refine W68 ?_
               | refine W69 ?_)
             | (refine W70 ?_; first
               | refine W71 ?_
               | refine W72 ?_
               | refine W73 ?_
               | refine W74 ?_
               | refine W69 ?_)
             | (refine W75 ?_; first
               | refine W76 ?_
               | refine W69 ?_)
             | refine W69 ?_)
           | refine W77 ?_
           | (refine W78 ?_; refine W79 ?_ ?_)
           | (refine W80 ?_; refine W81 ?_ ?_ ?_)))
       exact XQ.consLit [conN ({ kind := 1, a := w64 (first p fn + I.a), site := I.b })] (by rfl) (by rfl) .here rfl (fun C hC => by rw [List.mem_singleton.1 hC]; exact ⟨rfl, rfl⟩) (by simp [insnS, *]) (by (repeat' (first | exact Sels.nil | exact Sel.here | apply Sels.cons | apply Sel.there)); done))
    | (refine XL.triqF (base_tri (p := p) (s := I.n) hfn) (by rfl) (by rfl) (by rfl) (by rfl) (by rfl) (by rfl) (by rfl) (by rfl) (by (repeat' (first | exact Sels.nil | exact Sel.here | apply Sels.cons | apply Sel.there)); done) (by (repeat' (first | exact Sels.nil | exact Sel.here | apply Sels.cons | apply Sel.there)); done) (by (repeat (first | exact sub0 | refine subC (by repeat (first | exact List.Mem.head _ | apply List.Mem.tail)) ?_)); done) ?_
       repeat' (first
         | (refine XL.is ?_; first
           | refine W1 ?_
           | (refine W2 (fun h => ?_) (fun h => ?_) <;> try (first | (exfalso; omega) | exact absurd rfl h | (exfalso; simp at h <;> omega)))
           | refine W3 ?_
           | (refine W4 ?_; first
             | refine W5 ?_
             | refine W6 ?_
             | refine W7 ?_
             | refine W8 ?_
             | refine W9 ?_
             | refine W10 ?_
             | refine W11 ?_)
           | (refine W12 ?_; first
             | refine W13 ?_
             | refine W14 ?_
             | refine W15 ?_
             | refine W16 ?_
             | refine W11 ?_)
           | (refine W17 ?_; first
             | refine W18 ?_
             | refine W19 ?_
             | refine W20 ?_
             | refine W21 ?_
             | refine W22 ?_
             | refine W11 ?_)
           | (refine W23 ?_; first
             | refine W24 ?_
             | refine W25 ?_)
           | (refine W26 ?_; first
             | refine W27 ?_
             | refine W28 ?_
             | refine W29 ?_
             | refine W30 ?_
             | refine W31 ?_)
           | refine XL.pure 1 (by rfl) ?_
           | refine W32 ?_
           | (refine W33 ?_; first
             | refine W34 ?_
             | refine W35 ?_
             | refine W36 ?_
             | refine W37 ?_
             | refine W38 ?_
             | refine W39 ?_
             | refine W40 ?_
             | refine W41 ?_
             | refine W42 ?_
             | refine W43 ?_
             | refine W44 ?_
             | refine W45 ?_
             | refine W46 ?_)
           | refine W47 ?_
           | refine W48 ?_
           | (refine W49 (fun b => ?_))
           | (refine W50 (fun b => ?_))
           | (refine W51 (fun b => ?_))
           | (refine W52 (fun b2 => ?_)))
         | (refine XC.is ?_; first
           | refine W82 ?_
           | refine W83 ?_
           | refine W84 ?_
           | refine W85 ?_
           | refine W86 ?_
           | refine W87 ?_
           | (refine W88 ?_; first
             | (refine W89 (fun h => ?_) (fun h => ?_) <;> try (first | (exfalso; omega) | exact absurd rfl h | (exfalso; simp at h <;> omega)))
             | refine W90 ?_
             | refine W91 ?_)
           | (refine W92 ?_; first
             | refine W93 ?_
             | (refine XC.planG (by kernel_rfl) (fun _ m h => h.drewn m) ?_; (conv => arg 5; reduce); refine XG0.of ?_; (conv => arg 5; reduce); (conv => arg 6; reduce); refine XG.go (by decide +kernel) ?_)))
         | (refine XQ.is ?_; first
           | refine W94 ?_
           | refine W95 ?_
           | (refine W96 ?_; refine W97 ?_)
           | refine W98 ?_
           | refine W99 ?_
           | refine W100 ?_
           | refine W101 ?_
           | refine W102 ?_
           | refine W103 ?_
           | refine W104 ?_
           | refine W105 ?_
           | refine W106 ?_
           | (refine W107 ?_; refine W108 ?_))
         | (refine XS.is ?_; first
           | (refine W53 ?_; refine W54 ?_)
           | (refine W55 ?_; first
             | refine W56 ?_
             | (refine W57 (fun h => ?_) (fun h => ?_) <;> try (first | (exfalso; omega) | exact absurd rfl h | (exfalso; simp at h <;> omega)))
             | refine W58 ?_
             | (refine W59 ?_; first
               | refine W60 ?_
               | refine W61 ?_
               | refine W62 ?_
               | refine W63 ?_
               | refine W64 ?_
               | refine W65 ?_)
             | (refine W66 ?_; first
               | refine W67 ?_
               | refine W68 ?_
               | refine W69 ?_)
             | (refine W70 ?_; first
               | refine W71 ?_
               | refine W72 ?_
               | refine W73 ?_
               | refine W74 ?_
               | refine W69 ?_)
             | (refine W75 ?_; first
               | refine W76 ?_
               | refine W69 ?_)
             | refine W69 ?_)
           | refine W77 ?_
           | (refine W78 ?_; refine W79 ?_ ?_)
           | (refine W80 ?_; refine W81 ?_ ?_ ?_)))
       refine XL.triq (some_tri) (by rfl) (by rfl) (by rfl) (by rfl) (by rfl) (by rfl) (by rfl) (by (repeat' (first | exact Sels.nil | exact Sel.here | apply Sels.cons | apply Sel.there)); done) (by (repeat' (first | exact Sels.nil | exact Sel.here | apply Sels.cons | apply Sel.there)); done) (by (repeat (first | exact sub0 | refine subC (by repeat (first | exact List.Mem.head _ | apply List.Mem.tail)) ?_)); done) ?_
       repeat' (first
         | (refine XL.is ?_; first
           | refine W1 ?_
           | (refine W2 (fun h => ?_) (fun h => ?_) <;> try (first | (exfalso; omega) | exact absurd rfl h | (exfalso; simp at h <;> omega)))
           | refine W3 ?_
           | (refine W4 ?_; first
             | refine W5 ?_
             | refine W6 ?_
             | refine W7 ?_
             | refine W8 ?_
             | refine W9 ?_
             | refine W10 ?_
             | refine W11 ?_)
           | (refine W12 ?_; first
             | refine W13 ?_
             | refine W14 ?_
             | refine W15 ?_
             | refine W16 ?_
             | refine W11 ?_)
           | (refine W17 ?_; first
             | refine W18 ?_
             | refine W19 ?_
             | refine W20 ?_
             | refine W21 ?_
             | refine W22 ?_
             | refine W11 ?_)
           | (refine W23 ?_; first
             | refine W24 ?_
             | refine W25 ?_)
           | (refine W26 ?_; first
             | refine W27 ?_
             | refine W28 ?_
             | refine W29 ?_
             | refine W30 ?_
             | refine W31 ?_)
           | refine XL.pure 1 (by rfl) ?_
           | refine W32 ?_
           | (refine W33 ?_; first
             | refine W34 ?_
             | refine W35 ?_
             | refine W36 ?_
             | refine W37 ?_
             | refine W38 ?_
             | refine W39 ?_
             | refine W40 ?_
             | refine W41 ?_
             | refine W42 ?_
             | refine W43 ?_
             | refine W44 ?_
             | refine W45 ?_
             | refine W46 ?_)
           | refine W47 ?_
           | refine W48 ?_
           | (refine W49 (fun b => ?_))
           | (refine W50 (fun b => ?_))
           | (refine W51 (fun b => ?_))
           | (refine W52 (fun b2 => ?_)))
         | (refine XC.is ?_; first
           | refine W82 ?_
           | refine W83 ?_
           | refine W84 ?_
           | refine W85 ?_
           | refine W86 ?_
           | refine W87 ?_
           | (refine W88 ?_; first
             | (refine W89 (fun h => ?_) (fun h => ?_) <;> try (first | (exfalso; omega) | exact absurd rfl h | (exfalso; simp at h <;> omega)))
             | refine W90 ?_
             | refine W91 ?_)
           | (refine W92 ?_; first
             | refine W93 ?_
             | (refine XC.planG (by kernel_rfl) (fun _ m h => h.drewn m) ?_; (conv => arg 5; reduce); refine XG0.of ?_; (conv => arg 5; reduce); (conv => arg 6; reduce); refine XG.go (by decide +kernel) ?_)))
         | (refine XQ.is ?_; first
           | refine W94 ?_
           | refine W95 ?_
           | (refine W96 ?_; refine W97 ?_)
           | refine W98 ?_
           | refine W99 ?_
           | refine W100 ?_
           | refine W101 ?_
           | refine W102 ?_
           | refine W103 ?_
           | refine W104 ?_
           | refine W105 ?_
           | refine W106 ?_
           | (refine W107 ?_; refine W108 ?_))
         | (refine XS.is ?_; first
           | (refine W53 ?_; refine W54 ?_)
           | (refine W55 ?_; first
             | refine W56 ?_
             | (refine W57 (fun h => ?_) (fun h => ?_) <;> try (first | (exfalso; omega) | exact absurd rfl h | (exfalso; simp at h <;> omega)))
             | refine W58 ?_
             | (refine W59 ?_; first
               | refine W60 ?_
               | refine W61 ?_
               | refine W62 ?_
               | refine W63 ?_
               | refine W64 ?_
               | refine W65 ?_)
             | (refine W66 ?_; first
               | refine W67 ?_
               | refine W68 ?_
               | refine W69 ?_)
             | (refine W70 ?_; first
               | refine W71 ?_
               | refine W72 ?_
               | refine W73 ?_
               | refine W74 ?_
               | refine W69 ?_)
             | (refine W75 ?_; first
               | refine W76 ?_
               | refine W69 ?_)
             | refine W69 ?_)
           | refine W77 ?_
           | (refine W78 ?_; refine W79 ?_ ?_)
           | (refine W80 ?_; refine W81 ?_ ?_ ?_)))
       exact XQ.consLit [conN ({ kind := 1, a := w64 (first p fn + I.a), site := I.n })] (by rfl) (by rfl) .here rfl (fun C hC => by rw [List.mem_singleton.1 hC]; exact ⟨rfl, rfl⟩) (by simp [insnS, *]) (by (repeat' (first | exact Sels.nil | exact Sel.here | apply Sels.cons | apply Sel.there)); done))
    | (refine XL.triqF (con_tri (p := p) (k := 3) (n := I.n) hfn) (by rfl) (by rfl) (by rfl) (by rfl) (by rfl) (by rfl) (by rfl) (by rfl) (by (repeat' (first | exact Sels.nil | exact Sel.here | apply Sels.cons | apply Sel.there)); done) (by (repeat' (first | exact Sels.nil | exact Sel.here | apply Sels.cons | apply Sel.there)); done) (by (repeat (first | exact sub0 | refine subC (by repeat (first | exact List.Mem.head _ | apply List.Mem.tail)) ?_)); done) ?_
       repeat' (first
         | (refine XL.is ?_; first
           | refine W1 ?_
           | (refine W2 (fun h => ?_) (fun h => ?_) <;> try (first | (exfalso; omega) | exact absurd rfl h | (exfalso; simp at h <;> omega)))
           | refine W3 ?_
           | (refine W4 ?_; first
             | refine W5 ?_
             | refine W6 ?_
             | refine W7 ?_
             | refine W8 ?_
             | refine W9 ?_
             | refine W10 ?_
             | refine W11 ?_)
           | (refine W12 ?_; first
             | refine W13 ?_
             | refine W14 ?_
             | refine W15 ?_
             | refine W16 ?_
             | refine W11 ?_)
           | (refine W17 ?_; first
             | refine W18 ?_
             | refine W19 ?_
             | refine W20 ?_
             | refine W21 ?_
             | refine W22 ?_
             | refine W11 ?_)
           | (refine W23 ?_; first
             | refine W24 ?_
             | refine W25 ?_)
           | (refine W26 ?_; first
             | refine W27 ?_
             | refine W28 ?_
             | refine W29 ?_
             | refine W30 ?_
             | refine W31 ?_)
           | refine XL.pure 1 (by rfl) ?_
           | refine W32 ?_
           | (refine W33 ?_; first
             | refine W34 ?_
             | refine W35 ?_
             | refine W36 ?_
             | refine W37 ?_
             | refine W38 ?_
             | refine W39 ?_
             | refine W40 ?_
             | refine W41 ?_
             | refine W42 ?_
             | refine W43 ?_
             | refine W44 ?_
             | refine W45 ?_
             | refine W46 ?_)
           | refine W47 ?_
           | refine W48 ?_
           | (refine W49 (fun b => ?_))
           | (refine W50 (fun b => ?_))
           | (refine W51 (fun b => ?_))
           | (refine W52 (fun b2 => ?_)))
         | (refine XC.is ?_; first
           | refine W82 ?_
           | refine W83 ?_
           | refine W84 ?_
           | refine W85 ?_
           | refine W86 ?_
           | refine W87 ?_
           | (refine W88 ?_; first
             | (refine W89 (fun h => ?_) (fun h => ?_) <;> try (first | (exfalso; omega) | exact absurd rfl h | (exfalso; simp at h <;> omega)))
             | refine W90 ?_
             | refine W91 ?_)
           | (refine W92 ?_; first
             | refine W93 ?_
             | (refine XC.planG (by kernel_rfl) (fun _ m h => h.drewn m) ?_; (conv => arg 5; reduce); refine XG0.of ?_; (conv => arg 5; reduce); (conv => arg 6; reduce); refine XG.go (by decide +kernel) ?_)))
         | (refine XQ.is ?_; first
           | refine W94 ?_
           | refine W95 ?_
           | (refine W96 ?_; refine W97 ?_)
           | refine W98 ?_
           | refine W99 ?_
           | refine W100 ?_
           | refine W101 ?_
           | refine W102 ?_
           | refine W103 ?_
           | refine W104 ?_
           | refine W105 ?_
           | refine W106 ?_
           | (refine W107 ?_; refine W108 ?_))
         | (refine XS.is ?_; first
           | (refine W53 ?_; refine W54 ?_)
           | (refine W55 ?_; first
             | refine W56 ?_
             | (refine W57 (fun h => ?_) (fun h => ?_) <;> try (first | (exfalso; omega) | exact absurd rfl h | (exfalso; simp at h <;> omega)))
             | refine W58 ?_
             | (refine W59 ?_; first
               | refine W60 ?_
               | refine W61 ?_
               | refine W62 ?_
               | refine W63 ?_
               | refine W64 ?_
               | refine W65 ?_)
             | (refine W66 ?_; first
               | refine W67 ?_
               | refine W68 ?_
               | refine W69 ?_)
             | (refine W70 ?_; first
               | refine W71 ?_
               | refine W72 ?_
               | refine W73 ?_
               | refine W74 ?_
               | refine W69 ?_)
             | (refine W75 ?_; first
               | refine W76 ?_
               | refine W69 ?_)
             | refine W69 ?_)
           | refine W77 ?_
           | (refine W78 ?_; refine W79 ?_ ?_)
           | (refine W80 ?_; refine W81 ?_ ?_ ?_)))
       refine XL.triq (some_tri) (by rfl) (by rfl) (by rfl) (by rfl) (by rfl) (by rfl) (by rfl) (by (repeat' (first | exact Sels.nil | exact Sel.here | apply Sels.cons | apply Sel.there)); done) (by (repeat' (first | exact Sels.nil | exact Sel.here | apply Sels.cons | apply Sel.there)); done) (by (repeat (first | exact sub0 | refine subC (by repeat (first | exact List.Mem.head _ | apply List.Mem.tail)) ?_)); done) ?_
       repeat' (first
         | (refine XL.is ?_; first
           | refine W1 ?_
           | (refine W2 (fun h => ?_) (fun h => ?_) <;> try (first | (exfalso; omega) | exact absurd rfl h | (exfalso; simp at h <;> omega)))
           | refine W3 ?_
           | (refine W4 ?_; first
             | refine W5 ?_
             | refine W6 ?_
             | refine W7 ?_
             | refine W8 ?_
             | refine W9 ?_
             | refine W10 ?_
             | refine W11 ?_)
           | (refine W12 ?_; first
             | refine W13 ?_
             | refine W14 ?_
             | refine W15 ?_
             | refine W16 ?_
             | refine W11 ?_)
           | (refine W17 ?_; first
             | refine W18 ?_
             | refine W19 ?_
             | refine W20 ?_
             | refine W21 ?_
             | refine W22 ?_
             | refine W11 ?_)
           | (refine W23 ?_; first
             | refine W24 ?_
             | refine W25 ?_)
           | (refine W26 ?_; first
             | refine W27 ?_
             | refine W28 ?_
             | refine W29 ?_
             | refine W30 ?_
             | refine W31 ?_)
           | refine XL.pure 1 (by rfl) ?_
           | refine W32 ?_
           | (refine W33 ?_; first
             | refine W34 ?_
             | refine W35 ?_
             | refine W36 ?_
             | refine W37 ?_
             | refine W38 ?_
             | refine W39 ?_
             | refine W40 ?_
             | refine W41 ?_
             | refine W42 ?_
             | refine W43 ?_
             | refine W44 ?_
             | refine W45 ?_
             | refine W46 ?_)
           | refine W47 ?_
           | refine W48 ?_
           | (refine W49 (fun b => ?_))
           | (refine W50 (fun b => ?_))
           | (refine W51 (fun b => ?_))
           | (refine W52 (fun b2 => ?_)))
         | (refine XC.is ?_; first
           | refine W82 ?_
           | refine W83 ?_
           | refine W84 ?_
           | refine W85 ?_
           | refine W86 ?_
           | refine W87 ?_
           | (refine W88 ?_; first
             | (refine W89 (fun h => ?_) (fun h => ?_) <;> try (first | (exfalso; omega) | exact absurd rfl h | (exfalso; simp at h <;> omega)))
             | refine W90 ?_
             | refine W91 ?_)
           | (refine W92 ?_; first
             | refine W93 ?_
             | (refine XC.planG (by kernel_rfl) (fun _ m h => h.drewn m) ?_; (conv => arg 5; reduce); refine XG0.of ?_; (conv => arg 5; reduce); (conv => arg 6; reduce); refine XG.go (by decide +kernel) ?_)))
         | (refine XQ.is ?_; first
           | refine W94 ?_
           | refine W95 ?_
           | (refine W96 ?_; refine W97 ?_)
           | refine W98 ?_
           | refine W99 ?_
           | refine W100 ?_
           | refine W101 ?_
           | refine W102 ?_
           | refine W103 ?_
           | refine W104 ?_
           | refine W105 ?_
           | refine W106 ?_
           | (refine W107 ?_; refine W108 ?_))
         | (refine XS.is ?_; first
           | (refine W53 ?_; refine W54 ?_)
           | (refine W55 ?_; first
             | refine W56 ?_
             | (refine W57 (fun h => ?_) (fun h => ?_) <;> try (first | (exfalso; omega) | exact absurd rfl h | (exfalso; simp at h <;> omega)))
             | refine W58 ?_
             | (refine W59 ?_; first
               | refine W60 ?_
               | refine W61 ?_
               | refine W62 ?_
               | refine W63 ?_
               | refine W64 ?_
               | refine W65 ?_)
             | (refine W66 ?_; first
               | refine W67 ?_
               | refine W68 ?_
               | refine W69 ?_)
             | (refine W70 ?_; first
               | refine W71 ?_
               | refine W72 ?_
               | refine W73 ?_
               | refine W74 ?_
               | refine W69 ?_)
             | (refine W75 ?_; first
               | refine W76 ?_
               | refine W69 ?_)
             | refine W69 ?_)
           | refine W77 ?_
           | (refine W78 ?_; refine W79 ?_ ?_)
           | (refine W80 ?_; refine W81 ?_ ?_ ?_)))
       exact XQ.consLit [conN (two 3 (w64 (first p fn + I.a)) (w64 (first p fn + I.b)) I.n)] (by rfl) (by rfl) .here rfl (fun C hC => by rw [List.mem_singleton.1 hC]; exact ⟨rfl, rfl⟩) (by simp [insnS, *]) (by (repeat' (first | exact Sels.nil | exact Sel.here | apply Sels.cons | apply Sel.there)); done))
    | (refine XL.triqF (con_tri (p := p) (k := 4) (n := I.n) hfn) (by rfl) (by rfl) (by rfl) (by rfl) (by rfl) (by rfl) (by rfl) (by rfl) (by (repeat' (first | exact Sels.nil | exact Sel.here | apply Sels.cons | apply Sel.there)); done) (by (repeat' (first | exact Sels.nil | exact Sel.here | apply Sels.cons | apply Sel.there)); done) (by (repeat (first | exact sub0 | refine subC (by repeat (first | exact List.Mem.head _ | apply List.Mem.tail)) ?_)); done) ?_
       repeat' (first
         | (refine XL.is ?_; first
           | refine W1 ?_
           | (refine W2 (fun h => ?_) (fun h => ?_) <;> try (first | (exfalso; omega) | exact absurd rfl h | (exfalso; simp at h <;> omega)))
           | refine W3 ?_
           | (refine W4 ?_; first
             | refine W5 ?_
             | refine W6 ?_
             | refine W7 ?_
             | refine W8 ?_
             | refine W9 ?_
             | refine W10 ?_
             | refine W11 ?_)
           | (refine W12 ?_; first
             | refine W13 ?_
             | refine W14 ?_
             | refine W15 ?_
             | refine W16 ?_
             | refine W11 ?_)
           | (refine W17 ?_; first
             | refine W18 ?_
             | refine W19 ?_
             | refine W20 ?_
             | refine W21 ?_
             | refine W22 ?_
             | refine W11 ?_)
           | (refine W23 ?_; first
             | refine W24 ?_
             | refine W25 ?_)
           | (refine W26 ?_; first
             | refine W27 ?_
             | refine W28 ?_
             | refine W29 ?_
             | refine W30 ?_
             | refine W31 ?_)
           | refine XL.pure 1 (by rfl) ?_
           | refine W32 ?_
           | (refine W33 ?_; first
             | refine W34 ?_
             | refine W35 ?_
             | refine W36 ?_
             | refine W37 ?_
             | refine W38 ?_
             | refine W39 ?_
             | refine W40 ?_
             | refine W41 ?_
             | refine W42 ?_
             | refine W43 ?_
             | refine W44 ?_
             | refine W45 ?_
             | refine W46 ?_)
           | refine W47 ?_
           | refine W48 ?_
           | (refine W49 (fun b => ?_))
           | (refine W50 (fun b => ?_))
           | (refine W51 (fun b => ?_))
           | (refine W52 (fun b2 => ?_)))
         | (refine XC.is ?_; first
           | refine W82 ?_
           | refine W83 ?_
           | refine W84 ?_
           | refine W85 ?_
           | refine W86 ?_
           | refine W87 ?_
           | (refine W88 ?_; first
             | (refine W89 (fun h => ?_) (fun h => ?_) <;> try (first | (exfalso; omega) | exact absurd rfl h | (exfalso; simp at h <;> omega)))
             | refine W90 ?_
             | refine W91 ?_)
           | (refine W92 ?_; first
             | refine W93 ?_
             | (refine XC.planG (by kernel_rfl) (fun _ m h => h.drewn m) ?_; (conv => arg 5; reduce); refine XG0.of ?_; (conv => arg 5; reduce); (conv => arg 6; reduce); refine XG.go (by decide +kernel) ?_)))
         | (refine XQ.is ?_; first
           | refine W94 ?_
           | refine W95 ?_
           | (refine W96 ?_; refine W97 ?_)
           | refine W98 ?_
           | refine W99 ?_
           | refine W100 ?_
           | refine W101 ?_
           | refine W102 ?_
           | refine W103 ?_
           | refine W104 ?_
           | refine W105 ?_
           | refine W106 ?_
           | (refine W107 ?_; refine W108 ?_))
         | (refine XS.is ?_; first
           | (refine W53 ?_; refine W54 ?_)
           | (refine W55 ?_; first
             | refine W56 ?_
             | (refine W57 (fun h => ?_) (fun h => ?_) <;> try (first | (exfalso; omega) | exact absurd rfl h | (exfalso; simp at h <;> omega)))
             | refine W58 ?_
             | (refine W59 ?_; first
               | refine W60 ?_
               | refine W61 ?_
               | refine W62 ?_
               | refine W63 ?_
               | refine W64 ?_
               | refine W65 ?_)
             | (refine W66 ?_; first
               | refine W67 ?_
               | refine W68 ?_
               | refine W69 ?_)
             | (refine W70 ?_; first
               | refine W71 ?_
               | refine W72 ?_
               | refine W73 ?_
               | refine W74 ?_
               | refine W69 ?_)
             | (refine W75 ?_; first
               | refine W76 ?_
               | refine W69 ?_)
             | refine W69 ?_)
           | refine W77 ?_
           | (refine W78 ?_; refine W79 ?_ ?_)
           | (refine W80 ?_; refine W81 ?_ ?_ ?_)))
       refine XL.triq (some_tri) (by rfl) (by rfl) (by rfl) (by rfl) (by rfl) (by rfl) (by rfl) (by (repeat' (first | exact Sels.nil | exact Sel.here | apply Sels.cons | apply Sel.there)); done) (by (repeat' (first | exact Sels.nil | exact Sel.here | apply Sels.cons | apply Sel.there)); done) (by (repeat (first | exact sub0 | refine subC (by repeat (first | exact List.Mem.head _ | apply List.Mem.tail)) ?_)); done) ?_
       repeat' (first
         | (refine XL.is ?_; first
           | refine W1 ?_
           | (refine W2 (fun h => ?_) (fun h => ?_) <;> try (first | (exfalso; omega) | exact absurd rfl h | (exfalso; simp at h <;> omega)))
           | refine W3 ?_
           | (refine W4 ?_; first
             | refine W5 ?_
             | refine W6 ?_
             | refine W7 ?_
             | refine W8 ?_
             | refine W9 ?_
             | refine W10 ?_
             | refine W11 ?_)
           | (refine W12 ?_; first
             | refine W13 ?_
             | refine W14 ?_
             | refine W15 ?_
             | refine W16 ?_
             | refine W11 ?_)
           | (refine W17 ?_; first
             | refine W18 ?_
             | refine W19 ?_
             | refine W20 ?_
             | refine W21 ?_
             | refine W22 ?_
             | refine W11 ?_)
           | (refine W23 ?_; first
             | refine W24 ?_
             | refine W25 ?_)
           | (refine W26 ?_; first
             | refine W27 ?_
             | refine W28 ?_
             | refine W29 ?_
             | refine W30 ?_
             | refine W31 ?_)
           | refine XL.pure 1 (by rfl) ?_
           | refine W32 ?_
           | (refine W33 ?_; first
             | refine W34 ?_
             | refine W35 ?_
             | refine W36 ?_
             | refine W37 ?_
             | refine W38 ?_
             | refine W39 ?_
             | refine W40 ?_
             | refine W41 ?_
             | refine W42 ?_
             | refine W43 ?_
             | refine W44 ?_
             | refine W45 ?_
             | refine W46 ?_)
           | refine W47 ?_
           | refine W48 ?_
           | (refine W49 (fun b => ?_))
           | (refine W50 (fun b => ?_))
           | (refine W51 (fun b => ?_))
           | (refine W52 (fun b2 => ?_)))
         | (refine XC.is ?_; first
           | refine W82 ?_
           | refine W83 ?_
           | refine W84 ?_
           | refine W85 ?_
           | refine W86 ?_
           | refine W87 ?_
           | (refine W88 ?_; first
             | (refine W89 (fun h => ?_) (fun h => ?_) <;> try (first | (exfalso; omega) | exact absurd rfl h | (exfalso; simp at h <;> omega)))
             | refine W90 ?_
             | refine W91 ?_)
           | (refine W92 ?_; first
             | refine W93 ?_
             | (refine XC.planG (by kernel_rfl) (fun _ m h => h.drewn m) ?_; (conv => arg 5; reduce); refine XG0.of ?_; (conv => arg 5; reduce); (conv => arg 6; reduce); refine XG.go (by decide +kernel) ?_)))
         | (refine XQ.is ?_; first
           | refine W94 ?_
           | refine W95 ?_
           | (refine W96 ?_; refine W97 ?_)
           | refine W98 ?_
           | refine W99 ?_
           | refine W100 ?_
           | refine W101 ?_
           | refine W102 ?_
           | refine W103 ?_
           | refine W104 ?_
           | refine W105 ?_
           | refine W106 ?_
           | (refine W107 ?_; refine W108 ?_))
         | (refine XS.is ?_; first
           | (refine W53 ?_; refine W54 ?_)
           | (refine W55 ?_; first
             | refine W56 ?_
             | (refine W57 (fun h => ?_) (fun h => ?_) <;> try (first | (exfalso; omega) | exact absurd rfl h | (exfalso; simp at h <;> omega)))
             | refine W58 ?_
             | (refine W59 ?_; first
               | refine W60 ?_
               | refine W61 ?_
               | refine W62 ?_
               | refine W63 ?_
               | refine W64 ?_
               | refine W65 ?_)
             | (refine W66 ?_; first
               | refine W67 ?_
               | refine W68 ?_
               | refine W69 ?_)
             | (refine W70 ?_; first
               | refine W71 ?_
               | refine W72 ?_
               | refine W73 ?_
               | refine W74 ?_
               | refine W69 ?_)
             | (refine W75 ?_; first
               | refine W76 ?_
               | refine W69 ?_)
             | refine W69 ?_)
           | refine W77 ?_
           | (refine W78 ?_; refine W79 ?_ ?_)
           | (refine W80 ?_; refine W81 ?_ ?_ ?_)))
       exact XQ.consLit [conN (two 4 (w64 (first p fn + I.a)) (w64 (first p fn + I.b)) I.n)] (by rfl) (by rfl) .here rfl (fun C hC => by rw [List.mem_singleton.1 hC]; exact ⟨rfl, rfl⟩) (by simp [insnS, *]) (by (repeat' (first | exact Sels.nil | exact Sel.here | apply Sels.cons | apply Sel.there)); done))
    | (refine XL.triqF (con_tri (p := p) (k := 2) (n := 0) hfn) (by rfl) (by rfl) (by rfl) (by rfl) (by rfl) (by rfl) (by rfl) (by rfl) (by (repeat' (first | exact Sels.nil | exact Sel.here | apply Sels.cons | apply Sel.there)); done) (by (repeat' (first | exact Sels.nil | exact Sel.here | apply Sels.cons | apply Sel.there)); done) (by (repeat (first | exact sub0 | refine subC (by repeat (first | exact List.Mem.head _ | apply List.Mem.tail)) ?_)); done) ?_
       repeat' (first
         | (refine XL.is ?_; first
           | refine W1 ?_
           | (refine W2 (fun h => ?_) (fun h => ?_) <;> try (first | (exfalso; omega) | exact absurd rfl h | (exfalso; simp at h <;> omega)))
           | refine W3 ?_
           | (refine W4 ?_; first
             | refine W5 ?_
             | refine W6 ?_
             | refine W7 ?_
             | refine W8 ?_
             | refine W9 ?_
             | refine W10 ?_
             | refine W11 ?_)
           | (refine W12 ?_; first
             | refine W13 ?_
             | refine W14 ?_
             | refine W15 ?_
             | refine W16 ?_
             | refine W11 ?_)
           | (refine W17 ?_; first
             | refine W18 ?_
             | refine W19 ?_
             | refine W20 ?_
             | refine W21 ?_
             | refine W22 ?_
             | refine W11 ?_)
           | (refine W23 ?_; first
             | refine W24 ?_
             | refine W25 ?_)
           | (refine W26 ?_; first
             | refine W27 ?_
             | refine W28 ?_
             | refine W29 ?_
             | refine W30 ?_
             | refine W31 ?_)
           | refine XL.pure 1 (by rfl) ?_
           | refine W32 ?_
           | (refine W33 ?_; first
             | refine W34 ?_
             | refine W35 ?_
             | refine W36 ?_
             | refine W37 ?_
             | refine W38 ?_
             | refine W39 ?_
             | refine W40 ?_
             | refine W41 ?_
             | refine W42 ?_
             | refine W43 ?_
             | refine W44 ?_
             | refine W45 ?_
             | refine W46 ?_)
           | refine W47 ?_
           | refine W48 ?_
           | (refine W49 (fun b => ?_))
           | (refine W50 (fun b => ?_))
           | (refine W51 (fun b => ?_))
           | (refine W52 (fun b2 => ?_)))
         | (refine XC.is ?_; first
           | refine W82 ?_
           | refine W83 ?_
           | refine W84 ?_
           | refine W85 ?_
           | refine W86 ?_
           | refine W87 ?_
           | (refine W88 ?_; first
             | (refine W89 (fun h => ?_) (fun h => ?_) <;> try (first | (exfalso; omega) | exact absurd rfl h | (exfalso; simp at h <;> omega)))
             | refine W90 ?_
             | refine W91 ?_)
           | (refine W92 ?_; first
             | refine W93 ?_
             | (refine XC.planG (by kernel_rfl) (fun _ m h => h.drewn m) ?_; (conv => arg 5; reduce); refine XG0.of ?_; (conv => arg 5; reduce); (conv => arg 6; reduce); refine XG.go (by decide +kernel) ?_)))
         | (refine XQ.is ?_; first
           | refine W94 ?_
           | refine W95 ?_
           | (refine W96 ?_; refine W97 ?_)
           | refine W98 ?_
           | refine W99 ?_
           | refine W100 ?_
           | refine W101 ?_
           | refine W102 ?_
           | refine W103 ?_
           | refine W104 ?_
           | refine W105 ?_
           | refine W106 ?_
           | (refine W107 ?_; refine W108 ?_))
         | (refine XS.is ?_; first
           | (refine W53 ?_; refine W54 ?_)
           | (refine W55 ?_; first
             | refine W56 ?_
             | (refine W57 (fun h => ?_) (fun h => ?_) <;> try (first | (exfalso; omega) | exact absurd rfl h | (exfalso; simp at h <;> omega)))
             | refine W58 ?_
             | (refine W59 ?_; first
               | refine W60 ?_
               | refine W61 ?_
               | refine W62 ?_
               | refine W63 ?_
               | refine W64 ?_
               | refine W65 ?_)
             | (refine W66 ?_; first
               | refine W67 ?_
               | refine W68 ?_
               | refine W69 ?_)
             | (refine W70 ?_; first
               | refine W71 ?_
               | refine W72 ?_
               | refine W73 ?_
               | refine W74 ?_
               | refine W69 ?_)
             | (refine W75 ?_; first
               | refine W76 ?_
               | refine W69 ?_)
             | refine W69 ?_)
           | refine W77 ?_
           | (refine W78 ?_; refine W79 ?_ ?_)
           | (refine W80 ?_; refine W81 ?_ ?_ ?_)))
       refine XL.triq (some_tri) (by rfl) (by rfl) (by rfl) (by rfl) (by rfl) (by rfl) (by rfl) (by (repeat' (first | exact Sels.nil | exact Sel.here | apply Sels.cons | apply Sel.there)); done) (by (repeat' (first | exact Sels.nil | exact Sel.here | apply Sels.cons | apply Sel.there)); done) (by (repeat (first | exact sub0 | refine subC (by repeat (first | exact List.Mem.head _ | apply List.Mem.tail)) ?_)); done) ?_
       repeat' (first
         | (refine XL.is ?_; first
           | refine W1 ?_
           | (refine W2 (fun h => ?_) (fun h => ?_) <;> try (first | (exfalso; omega) | exact absurd rfl h | (exfalso; simp at h <;> omega)))
           | refine W3 ?_
           | (refine W4 ?_; first
             | refine W5 ?_
             | refine W6 ?_
             | refine W7 ?_
             | refine W8 ?_
             | refine W9 ?_
             | refine W10 ?_
             | refine W11 ?_)
           | (refine W12 ?_; first
             | refine W13 ?_
             | refine W14 ?_
             | refine W15 ?_
             | refine W16 ?_
             | refine W11 ?_)
           | (refine W17 ?_; first
             | refine W18 ?_
             | refine W19 ?_
             | refine W20 ?_
             | refine W21 ?_
             | refine W22 ?_
             | refine W11 ?_)
           | (refine W23 ?_; first
             | refine W24 ?_
             | refine W25 ?_)
           | (refine W26 ?_; first
             | refine W27 ?_
             | refine W28 ?_
             | refine W29 ?_
             | refine W30 ?_
             | refine W31 ?_)
           | refine XL.pure 1 (by rfl) ?_
           | refine W32 ?_
           | (refine W33 ?_; first
             | refine W34 ?_
             | refine W35 ?_
             | refine W36 ?_
             | refine W37 ?_
             | refine W38 ?_
             | refine W39 ?_
             | refine W40 ?_
             | refine W41 ?_
             | refine W42 ?_
             | refine W43 ?_
             | refine W44 ?_
             | refine W45 ?_
             | refine W46 ?_)
           | refine W47 ?_
           | refine W48 ?_
           | (refine W49 (fun b => ?_))
           | (refine W50 (fun b => ?_))
           | (refine W51 (fun b => ?_))
           | (refine W52 (fun b2 => ?_)))
         | (refine XC.is ?_; first
           | refine W82 ?_
           | refine W83 ?_
           | refine W84 ?_
           | refine W85 ?_
           | refine W86 ?_
           | refine W87 ?_
           | (refine W88 ?_; first
             | (refine W89 (fun h => ?_) (fun h => ?_) <;> try (first | (exfalso; omega) | exact absurd rfl h | (exfalso; simp at h <;> omega)))
             | refine W90 ?_
             | refine W91 ?_)
           | (refine W92 ?_; first
             | refine W93 ?_
             | (refine XC.planG (by kernel_rfl) (fun _ m h => h.drewn m) ?_; (conv => arg 5; reduce); refine XG0.of ?_; (conv => arg 5; reduce); (conv => arg 6; reduce); refine XG.go (by decide +kernel) ?_)))
         | (refine XQ.is ?_; first
           | refine W94 ?_
           | refine W95 ?_
           | (refine W96 ?_; refine W97 ?_)
           | refine W98 ?_
           | refine W99 ?_
           | refine W100 ?_
           | refine W101 ?_
           | refine W102 ?_
           | refine W103 ?_
           | refine W104 ?_
           | refine W105 ?_
           | refine W106 ?_
           | (refine W107 ?_; refine W108 ?_))
         | (refine XS.is ?_; first
           | (refine W53 ?_; refine W54 ?_)
           | (refine W55 ?_; first
             | refine W56 ?_
             | (refine W57 (fun h => ?_) (fun h => ?_) <;> try (first | (exfalso; omega) | exact absurd rfl h | (exfalso; simp at h <;> omega)))
             | refine W58 ?_
             | (refine W59 ?_; first
               | refine W60 ?_
               | refine W61 ?_
               | refine W62 ?_
               | refine W63 ?_
               | refine W64 ?_
               | refine W65 ?_)
             | (refine W66 ?_; first
               | refine W67 ?_
               | refine W68 ?_
               | refine W69 ?_)
             | (refine W70 ?_; first
               | refine W71 ?_
               | refine W72 ?_
               | refine W73 ?_
               | refine W74 ?_
               | refine W69 ?_)
             | (refine W75 ?_; first
               | refine W76 ?_
               | refine W69 ?_)
             | refine W69 ?_)
           | refine W77 ?_
           | (refine W78 ?_; refine W79 ?_ ?_)
           | (refine W80 ?_; refine W81 ?_ ?_ ?_)))
       exact XQ.consLit [conN (two 2 (w64 (first p fn + I.a)) (w64 (first p fn + I.b)) 0)] (by rfl) (by rfl) .here rfl (fun C hC => by rw [List.mem_singleton.1 hC]; exact ⟨rfl, rfl⟩) (by simp [insnS, *]) (by (repeat' (first | exact Sels.nil | exact Sel.here | apply Sels.cons | apply Sel.there)); done))
    | (refine XL.triqF (con_tri (p := p) (k := 5) (n := I.w) hfn) (by rfl) (by rfl) (by rfl) (by rfl) (by rfl) (by rfl) (by rfl) (by rfl) (by (repeat' (first | exact Sels.nil | exact Sel.here | apply Sels.cons | apply Sel.there)); done) (by (repeat' (first | exact Sels.nil | exact Sel.here | apply Sels.cons | apply Sel.there)); done) (by (repeat (first | exact sub0 | refine subC (by repeat (first | exact List.Mem.head _ | apply List.Mem.tail)) ?_)); done) ?_
       repeat' (first
         | (refine XL.is ?_; first
           | refine W1 ?_
           | (refine W2 (fun h => ?_) (fun h => ?_) <;> try (first | (exfalso; omega) | exact absurd rfl h | (exfalso; simp at h <;> omega)))
           | refine W3 ?_
           | (refine W4 ?_; first
             | refine W5 ?_
             | refine W6 ?_
             | refine W7 ?_
             | refine W8 ?_
             | refine W9 ?_
             | refine W10 ?_
             | refine W11 ?_)
           | (refine W12 ?_; first
             | refine W13 ?_
             | refine W14 ?_
             | refine W15 ?_
             | refine W16 ?_
             | refine W11 ?_)
           | (refine W17 ?_; first
             | refine W18 ?_
             | refine W19 ?_
             | refine W20 ?_
             | refine W21 ?_
             | refine W22 ?_
             | refine W11 ?_)
           | (refine W23 ?_; first
             | refine W24 ?_
             | refine W25 ?_)
           | (refine W26 ?_; first
             | refine W27 ?_
             | refine W28 ?_
             | refine W29 ?_
             | refine W30 ?_
             | refine W31 ?_)
           | refine XL.pure 1 (by rfl) ?_
           | refine W32 ?_
           | (refine W33 ?_; first
             | refine W34 ?_
             | refine W35 ?_
             | refine W36 ?_
             | refine W37 ?_
             | refine W38 ?_
             | refine W39 ?_
             | refine W40 ?_
             | refine W41 ?_
             | refine W42 ?_
             | refine W43 ?_
             | refine W44 ?_
             | refine W45 ?_
             | refine W46 ?_)
           | refine W47 ?_
           | refine W48 ?_
           | (refine W49 (fun b => ?_))
           | (refine W50 (fun b => ?_))
           | (refine W51 (fun b => ?_))
           | (refine W52 (fun b2 => ?_)))
         | (refine XC.is ?_; first
           | refine W82 ?_
           | refine W83 ?_
           | refine W84 ?_
           | refine W85 ?_
           | refine W86 ?_
           | refine W87 ?_
           | (refine W88 ?_; first
             | (refine W89 (fun h => ?_) (fun h => ?_) <;> try (first | (exfalso; omega) | exact absurd rfl h | (exfalso; simp at h <;> omega)))
             | refine W90 ?_
             | refine W91 ?_)
           | (refine W92 ?_; first
             | refine W93 ?_
             | (refine XC.planG (by kernel_rfl) (fun _ m h => h.drewn m) ?_; (conv => arg 5; reduce); refine XG0.of ?_; (conv => arg 5; reduce); (conv => arg 6; reduce); refine XG.go (by decide +kernel) ?_)))
         | (refine XQ.is ?_; first
           | refine W94 ?_
           | refine W95 ?_
           | (refine W96 ?_; refine W97 ?_)
           | refine W98 ?_
           | refine W99 ?_
           | refine W100 ?_
           | refine W101 ?_
           | refine W102 ?_
           | refine W103 ?_
           | refine W104 ?_
           | refine W105 ?_
           | refine W106 ?_
           | (refine W107 ?_; refine W108 ?_))
         | (refine XS.is ?_; first
           | (refine W53 ?_; refine W54 ?_)
           | (refine W55 ?_; first
             | refine W56 ?_
             | (refine W57 (fun h => ?_) (fun h => ?_) <;> try (first | (exfalso; omega) | exact absurd rfl h | (exfalso; simp at h <;> omega)))
             | refine W58 ?_
             | (refine W59 ?_; first
               | refine W60 ?_
               | refine W61 ?_
               | refine W62 ?_
               | refine W63 ?_
               | refine W64 ?_
               | refine W65 ?_)
             | (refine W66 ?_; first
               | refine W67 ?_
               | refine W68 ?_
               | refine W69 ?_)
             | (refine W70 ?_; first
               | refine W71 ?_
               | refine W72 ?_
               | refine W73 ?_
               | refine W74 ?_
               | refine W69 ?_)
             | (refine W75 ?_; first
               | refine W76 ?_
               | refine W69 ?_)
             | refine W69 ?_)
           | refine W77 ?_
           | (refine W78 ?_; refine W79 ?_ ?_)
           | (refine W80 ?_; refine W81 ?_ ?_ ?_)))
       refine XL.triq (some_tri) (by rfl) (by rfl) (by rfl) (by rfl) (by rfl) (by rfl) (by rfl) (by (repeat' (first | exact Sels.nil | exact Sel.here | apply Sels.cons | apply Sel.there)); done) (by (repeat' (first | exact Sels.nil | exact Sel.here | apply Sels.cons | apply Sel.there)); done) (by (repeat (first | exact sub0 | refine subC (by repeat (first | exact List.Mem.head _ | apply List.Mem.tail)) ?_)); done) ?_
       repeat' (first
         | (refine XL.is ?_; first
           | refine W1 ?_
           | (refine W2 (fun h => ?_) (fun h => ?_) <;> try (first | (exfalso; omega) | exact absurd rfl h | (exfalso; simp at h <;> omega)))
           | refine W3 ?_
           | (refine W4 ?_; first
             | refine W5 ?_
             | refine W6 ?_
             | refine W7 ?_
             | refine W8 ?_
             | refine W9 ?_
             | refine W10 ?_
             | refine W11 ?_)
           | (refine W12 ?_; first
             | refine W13 ?_
             | refine W14 ?_
             | refine W15 ?_
             | refine W16 ?_
             | refine W11 ?_)
           | (refine W17 ?_; first
             | refine W18 ?_
             | refine W19 ?_
             | refine W20 ?_
             | refine W21 ?_
             | refine W22 ?_
             | refine W11 ?_)
           | (refine W23 ?_; first
             | refine W24 ?_
             | refine W25 ?_)
           | (refine W26 ?_; first
             | refine W27 ?_
             | refine W28 ?_
             | refine W29 ?_
             | refine W30 ?_
             | refine W31 ?_)
           | refine XL.pure 1 (by rfl) ?_
           | refine W32 ?_
           | (refine W33 ?_; first
             | refine W34 ?_
             | refine W35 ?_
             | refine W36 ?_
             | refine W37 ?_
             | refine W38 ?_
             | refine W39 ?_
             | refine W40 ?_
             | refine W41 ?_
             | refine W42 ?_
             | refine W43 ?_
             | refine W44 ?_
             | refine W45 ?_
             | refine W46 ?_)
           | refine W47 ?_
           | refine W48 ?_
           | (refine W49 (fun b => ?_))
           | (refine W50 (fun b => ?_))
           | (refine W51 (fun b => ?_))
           | (refine W52 (fun b2 => ?_)))
         | (refine XC.is ?_; first
           | refine W82 ?_
           | refine W83 ?_
           | refine W84 ?_
           | refine W85 ?_
           | refine W86 ?_
           | refine W87 ?_
           | (refine W88 ?_; first
             | (refine W89 (fun h => ?_) (fun h => ?_) <;> try (first | (exfalso; omega) | exact absurd rfl h | (exfalso; simp at h <;> omega)))
             | refine W90 ?_
             | refine W91 ?_)
           | (refine W92 ?_; first
             | refine W93 ?_
             | (refine XC.planG (by kernel_rfl) (fun _ m h => h.drewn m) ?_; (conv => arg 5; reduce); refine XG0.of ?_; (conv => arg 5; reduce); (conv => arg 6; reduce); refine XG.go (by decide +kernel) ?_)))
         | (refine XQ.is ?_; first
           | refine W94 ?_
           | refine W95 ?_
           | (refine W96 ?_; refine W97 ?_)
           | refine W98 ?_
           | refine W99 ?_
           | refine W100 ?_
           | refine W101 ?_
           | refine W102 ?_
           | refine W103 ?_
           | refine W104 ?_
           | refine W105 ?_
           | refine W106 ?_
           | (refine W107 ?_; refine W108 ?_))
         | (refine XS.is ?_; first
           | (refine W53 ?_; refine W54 ?_)
           | (refine W55 ?_; first
             | refine W56 ?_
             | (refine W57 (fun h => ?_) (fun h => ?_) <;> try (first | (exfalso; omega) | exact absurd rfl h | (exfalso; simp at h <;> omega)))
             | refine W58 ?_
             | (refine W59 ?_; first
               | refine W60 ?_
               | refine W61 ?_
               | refine W62 ?_
               | refine W63 ?_
               | refine W64 ?_
               | refine W65 ?_)
             | (refine W66 ?_; first
               | refine W67 ?_
               | refine W68 ?_
               | refine W69 ?_)
             | (refine W70 ?_; first
               | refine W71 ?_
               | refine W72 ?_
               | refine W73 ?_
               | refine W74 ?_
               | refine W69 ?_)
             | (refine W75 ?_; first
               | refine W76 ?_
               | refine W69 ?_)
             | refine W69 ?_)
           | refine W77 ?_
           | (refine W78 ?_; refine W79 ?_ ?_)
           | (refine W80 ?_; refine W81 ?_ ?_ ?_)))
       exact XQ.consLit [conN (two 5 (w64 (first p fn + I.a)) (w64 (first p fn + I.b)) I.w)] (by rfl) (by rfl) .here rfl (fun C hC => by rw [List.mem_singleton.1 hC]; exact ⟨rfl, rfl⟩) (by simp [insnS, *]) (by (repeat' (first | exact Sels.nil | exact Sel.here | apply Sels.cons | apply Sel.there)); done))
    | (refine XL.triqF (con_tri (p := p) (k := 6) (n := I.w) hfn) (by rfl) (by rfl) (by rfl) (by rfl) (by rfl) (by rfl) (by rfl) (by rfl) (by (repeat' (first | exact Sels.nil | exact Sel.here | apply Sels.cons | apply Sel.there)); done) (by (repeat' (first | exact Sels.nil | exact Sel.here | apply Sels.cons | apply Sel.there)); done) (by (repeat (first | exact sub0 | refine subC (by repeat (first | exact List.Mem.head _ | apply List.Mem.tail)) ?_)); done) ?_
       repeat' (first
         | (refine XL.is ?_; first
           | refine W1 ?_
           | (refine W2 (fun h => ?_) (fun h => ?_) <;> try (first | (exfalso; omega) | exact absurd rfl h | (exfalso; simp at h <;> omega)))
           | refine W3 ?_
           | (refine W4 ?_; first
             | refine W5 ?_
             | refine W6 ?_
             | refine W7 ?_
             | refine W8 ?_
             | refine W9 ?_
             | refine W10 ?_
             | refine W11 ?_)
           | (refine W12 ?_; first
             | refine W13 ?_
             | refine W14 ?_
             | refine W15 ?_
             | refine W16 ?_
             | refine W11 ?_)
           | (refine W17 ?_; first
             | refine W18 ?_
             | refine W19 ?_
             | refine W20 ?_
             | refine W21 ?_
             | refine W22 ?_
             | refine W11 ?_)
           | (refine W23 ?_; first
             | refine W24 ?_
             | refine W25 ?_)
           | (refine W26 ?_; first
             | refine W27 ?_
             | refine W28 ?_
             | refine W29 ?_
             | refine W30 ?_
             | refine W31 ?_)
           | refine XL.pure 1 (by rfl) ?_
           | refine W32 ?_
           | (refine W33 ?_; first
             | refine W34 ?_
             | refine W35 ?_
             | refine W36 ?_
             | refine W37 ?_
             | refine W38 ?_
             | refine W39 ?_
             | refine W40 ?_
             | refine W41 ?_
             | refine W42 ?_
             | refine W43 ?_
             | refine W44 ?_
             | refine W45 ?_
             | refine W46 ?_)
           | refine W47 ?_
           | refine W48 ?_
           | (refine W49 (fun b => ?_))
           | (refine W50 (fun b => ?_))
           | (refine W51 (fun b => ?_))
           | (refine W52 (fun b2 => ?_)))
         | (refine XC.is ?_; first
           | refine W82 ?_
           | refine W83 ?_
           | refine W84 ?_
           | refine W85 ?_
           | refine W86 ?_
           | refine W87 ?_
           | (refine W88 ?_; first
             | (refine W89 (fun h => ?_) (fun h => ?_) <;> try (first | (exfalso; omega) | exact absurd rfl h | (exfalso; simp at h <;> omega)))
             | refine W90 ?_
             | refine W91 ?_)
           | (refine W92 ?_; first
             | refine W93 ?_
             | (refine XC.planG (by kernel_rfl) (fun _ m h => h.drewn m) ?_; (conv => arg 5; reduce); refine XG0.of ?_; (conv => arg 5; reduce); (conv => arg 6; reduce); refine XG.go (by decide +kernel) ?_)))
         | (refine XQ.is ?_; first
           | refine W94 ?_
           | refine W95 ?_
           | (refine W96 ?_; refine W97 ?_)
           | refine W98 ?_
           | refine W99 ?_
           | refine W100 ?_
           | refine W101 ?_
           | refine W102 ?_
           | refine W103 ?_
           | refine W104 ?_
           | refine W105 ?_
           | refine W106 ?_
           | (refine W107 ?_; refine W108 ?_))
         | (refine XS.is ?_; first
           | (refine W53 ?_; refine W54 ?_)
           | (refine W55 ?_; first
             | refine W56 ?_
             | (refine W57 (fun h => ?_) (fun h => ?_) <;> try (first | (exfalso; omega) | exact absurd rfl h | (exfalso; simp at h <;> omega)))
             | refine W58 ?_
             | (refine W59 ?_; first
               | refine W60 ?_
               | refine W61 ?_
               | refine W62 ?_
               | refine W63 ?_
               | refine W64 ?_
               | refine W65 ?_)
             | (refine W66 ?_; first
               | refine W67 ?_
               | refine W68 ?_
               | refine W69 ?_)
             | (refine W70 ?_; first
               | refine W71 ?_
               | refine W72 ?_
               | refine W73 ?_
               | refine W74 ?_
               | refine W69 ?_)
             | (refine W75 ?_; first
               | refine W76 ?_
               | refine W69 ?_)
             | refine W69 ?_)
           | refine W77 ?_
           | (refine W78 ?_; refine W79 ?_ ?_)
           | (refine W80 ?_; refine W81 ?_ ?_ ?_)))
       refine XL.triq (some_tri) (by rfl) (by rfl) (by rfl) (by rfl) (by rfl) (by rfl) (by rfl) (by (repeat' (first | exact Sels.nil | exact Sel.here | apply Sels.cons | apply Sel.there)); done) (by (repeat' (first | exact Sels.nil | exact Sel.here | apply Sels.cons | apply Sel.there)); done) (by (repeat (first | exact sub0 | refine subC (by repeat (first | exact List.Mem.head _ | apply List.Mem.tail)) ?_)); done) ?_
       repeat' (first
         | (refine XL.is ?_; first
           | refine W1 ?_
           | (refine W2 (fun h => ?_) (fun h => ?_) <;> try (first | (exfalso; omega) | exact absurd rfl h | (exfalso; simp at h <;> omega)))
           | refine W3 ?_
           | (refine W4 ?_; first
             | refine W5 ?_
             | refine W6 ?_
             | refine W7 ?_
             | refine W8 ?_
             | refine W9 ?_
             | refine W10 ?_
             | refine W11 ?_)
           | (refine W12 ?_; first
             | refine W13 ?_
             | refine W14 ?_
             | refine W15 ?_
             | refine W16 ?_
             | refine W11 ?_)
           | (refine W17 ?_; first
             | refine W18 ?_
             | refine W19 ?_
             | refine W20 ?_
             | refine W21 ?_
             | refine W22 ?_
             | refine W11 ?_)
           | (refine W23 ?_; first
             | refine W24 ?_
             | refine W25 ?_)
           | (refine W26 ?_; first
             | refine W27 ?_
             | refine W28 ?_
             | refine W29 ?_
             | refine W30 ?_
             | refine W31 ?_)
           | refine XL.pure 1 (by rfl) ?_
           | refine W32 ?_
           | (refine W33 ?_; first
             | refine W34 ?_
             | refine W35 ?_
             | refine W36 ?_
             | refine W37 ?_
             | refine W38 ?_
             | refine W39 ?_
             | refine W40 ?_
             | refine W41 ?_
             | refine W42 ?_
             | refine W43 ?_
             | refine W44 ?_
             | refine W45 ?_
             | refine W46 ?_)
           | refine W47 ?_
           | refine W48 ?_
           | (refine W49 (fun b => ?_))
           | (refine W50 (fun b => ?_))
           | (refine W51 (fun b => ?_))
           | (refine W52 (fun b2 => ?_)))
         | (refine XC.is ?_; first
           | refine W82 ?_
           | refine W83 ?_
           | refine W84 ?_
           | refine W85 ?_
           | refine W86 ?_
           | refine W87 ?_
           | (refine W88 ?_; first
             | (refine W89 (fun h => ?_) (fun h => ?_) <;> try (first | (exfalso; omega) | exact absurd rfl h | (exfalso; simp at h <;> omega)))
             | refine W90 ?_
             | refine W91 ?_)
           | (refine W92 ?_; first
             | refine W93 ?_
             | (refine XC.planG (by kernel_rfl) (fun _ m h => h.drewn m) ?_; (conv => arg 5; reduce); refine XG0.of ?_; (conv => arg 5; reduce); (conv => arg 6; reduce); refine XG.go (by decide +kernel) ?_)))
         | (refine XQ.is ?_; first
           | refine W94 ?_
           | refine W95 ?_
           | (refine W96 ?_; refine W97 ?_)
           | refine W98 ?_
           | refine W99 ?_
           | refine W100 ?_
           | refine W101 ?_
           | refine W102 ?_
           | refine W103 ?_
           | refine W104 ?_
           | refine W105 ?_
           | refine W106 ?_
           | (refine W107 ?_; refine W108 ?_))
         | (refine XS.is ?_; first
           | (refine W53 ?_; refine W54 ?_)
           | (refine W55 ?_; first
             | refine W56 ?_
             | (refine W57 (fun h => ?_) (fun h => ?_) <;> try (first | (exfalso; omega) | exact absurd rfl h | (exfalso; simp at h <;> omega)))
             | refine W58 ?_
             | (refine W59 ?_; first
               | refine W60 ?_
               | refine W61 ?_
               | refine W62 ?_
               | refine W63 ?_
               | refine W64 ?_
               | refine W65 ?_)
             | (refine W66 ?_; first
               | refine W67 ?_
               | refine W68 ?_
               | refine W69 ?_)
             | (refine W70 ?_; first
               | refine W71 ?_
               | refine W72 ?_
               | refine W73 ?_
               | refine W74 ?_
               | refine W69 ?_)
             | (refine W75 ?_; first
               | refine W76 ?_
               | refine W69 ?_)
             | refine W69 ?_)
           | refine W77 ?_
           | (refine W78 ?_; refine W79 ?_ ?_)
           | (refine W80 ?_; refine W81 ?_ ?_ ?_)))
       exact XQ.consLit [conN (two 6 (w64 (first p fn + I.a)) (w64 (first p fn + I.b)) I.w)] (by rfl) (by rfl) .here rfl (fun C hC => by rw [List.mem_singleton.1 hC]; exact ⟨rfl, rfl⟩) (by simp [insnS, *]) (by (repeat' (first | exact Sels.nil | exact Sel.here | apply Sels.cons | apply Sel.there)); done))
    | (refine XL.triqF (con_tri (p := p) (k := 7) (n := I.n) hfn) (by rfl) (by rfl) (by rfl) (by rfl) (by rfl) (by rfl) (by rfl) (by rfl) (by (repeat' (first | exact Sels.nil | exact Sel.here | apply Sels.cons | apply Sel.there)); done) (by (repeat' (first | exact Sels.nil | exact Sel.here | apply Sels.cons | apply Sel.there)); done) (by (repeat (first | exact sub0 | refine subC (by repeat (first | exact List.Mem.head _ | apply List.Mem.tail)) ?_)); done) ?_
       repeat' (first
         | (refine XL.is ?_; first
           | refine W1 ?_
           | (refine W2 (fun h => ?_) (fun h => ?_) <;> try (first | (exfalso; omega) | exact absurd rfl h | (exfalso; simp at h <;> omega)))
           | refine W3 ?_
           | (refine W4 ?_; first
             | refine W5 ?_
             | refine W6 ?_
             | refine W7 ?_
             | refine W8 ?_
             | refine W9 ?_
             | refine W10 ?_
             | refine W11 ?_)
           | (refine W12 ?_; first
             | refine W13 ?_
             | refine W14 ?_
             | refine W15 ?_
             | refine W16 ?_
             | refine W11 ?_)
           | (refine W17 ?_; first
             | refine W18 ?_
             | refine W19 ?_
             | refine W20 ?_
             | refine W21 ?_
             | refine W22 ?_
             | refine W11 ?_)
           | (refine W23 ?_; first
             | refine W24 ?_
             | refine W25 ?_)
           | (refine W26 ?_; first
             | refine W27 ?_
             | refine W28 ?_
             | refine W29 ?_
             | refine W30 ?_
             | refine W31 ?_)
           | refine XL.pure 1 (by rfl) ?_
           | refine W32 ?_
           | (refine W33 ?_; first
             | refine W34 ?_
             | refine W35 ?_
             | refine W36 ?_
             | refine W37 ?_
             | refine W38 ?_
             | refine W39 ?_
             | refine W40 ?_
             | refine W41 ?_
             | refine W42 ?_
             | refine W43 ?_
             | refine W44 ?_
             | refine W45 ?_
             | refine W46 ?_)
           | refine W47 ?_
           | refine W48 ?_
           | (refine W49 (fun b => ?_))
           | (refine W50 (fun b => ?_))
           | (refine W51 (fun b => ?_))
           | (refine W52 (fun b2 => ?_)))
         | (refine XC.is ?_; first
           | refine W82 ?_
           | refine W83 ?_
           | refine W84 ?_
           | refine W85 ?_
           | refine W86 ?_
           | refine W87 ?_
           | (refine W88 ?_; first
             | (refine W89 (fun h => ?_) (fun h => ?_) <;> try (first | (exfalso; omega) | exact absurd rfl h | (exfalso; simp at h <;> omega)))
             | refine W90 ?_
             | refine W91 ?_)
           | (refine W92 ?_; first
             | refine W93 ?_
             | (refine XC.planG (by kernel_rfl) (fun _ m h => h.drewn m) ?_; (conv => arg 5; reduce); refine XG0.of ?_; (conv => arg 5; reduce); (conv => arg 6; reduce); refine XG.go (by decide +kernel) ?_)))
         | (refine XQ.is ?_; first
           | refine W94 ?_
           | refine W95 ?_
           | (refine W96 ?_; refine W97 ?_)
           | refine W98 ?_
           | refine W99 ?_
           | refine W100 ?_
           | refine W101 ?_
           | refine W102 ?_
           | refine W103 ?_
           | refine W104 ?_
           | refine W105 ?_
           | refine W106 ?_
           | (refine W107 ?_; refine W108 ?_))
         | (refine XS.is ?_; first
           | (refine W53 ?_; refine W54 ?_)
           | (refine W55 ?_; first
             | refine W56 ?_
             | (refine W57 (fun h => ?_) (fun h => ?_) <;> try (first | (exfalso; omega) | exact absurd rfl h | (exfalso; simp at h <;> omega)))
             | refine W58 ?_
             | (refine W59 ?_; first
               | refine W60 ?_
               | refine W61 ?_
               | refine W62 ?_
               | refine W63 ?_
               | refine W64 ?_
               | refine W65 ?_)
             | (refine W66 ?_; first
               | refine W67 ?_
               | refine W68 ?_
               | refine W69 ?_)
             | (refine W70 ?_; first
               | refine W71 ?_
               | refine W72 ?_
               | refine W73 ?_
               | refine W74 ?_
               | refine W69 ?_)
             | (refine W75 ?_; first
               | refine W76 ?_
               | refine W69 ?_)
             | refine W69 ?_)
           | refine W77 ?_
           | (refine W78 ?_; refine W79 ?_ ?_)
           | (refine W80 ?_; refine W81 ?_ ?_ ?_)))
       refine XL.triq (some_tri) (by rfl) (by rfl) (by rfl) (by rfl) (by rfl) (by rfl) (by rfl) (by (repeat' (first | exact Sels.nil | exact Sel.here | apply Sels.cons | apply Sel.there)); done) (by (repeat' (first | exact Sels.nil | exact Sel.here | apply Sels.cons | apply Sel.there)); done) (by (repeat (first | exact sub0 | refine subC (by repeat (first | exact List.Mem.head _ | apply List.Mem.tail)) ?_)); done) ?_
       repeat' (first
         | (refine XL.is ?_; first
           | refine W1 ?_
           | (refine W2 (fun h => ?_) (fun h => ?_) <;> try (first | (exfalso; omega) | exact absurd rfl h | (exfalso; simp at h <;> omega)))
           | refine W3 ?_
           | (refine W4 ?_; first
             | refine W5 ?_
             | refine W6 ?_
             | refine W7 ?_
             | refine W8 ?_
             | refine W9 ?_
             | refine W10 ?_
             | refine W11 ?_)
           | (refine W12 ?_; first
             | refine W13 ?_
             | refine W14 ?_
             | refine W15 ?_
             | refine W16 ?_
             | refine W11 ?_)
           | (refine W17 ?_; first
             | refine W18 ?_
             | refine W19 ?_
             | refine W20 ?_
             | refine W21 ?_
             | refine W22 ?_
             | refine W11 ?_)
           | (refine W23 ?_; first
             | refine W24 ?_
             | refine W25 ?_)
           | (refine W26 ?_; first
             | refine W27 ?_
             | refine W28 ?_
             | refine W29 ?_
             | refine W30 ?_
             | refine W31 ?_)
           | refine XL.pure 1 (by rfl) ?_
           | refine W32 ?_
           | (refine W33 ?_; first
             | refine W34 ?_
             | refine W35 ?_
             | refine W36 ?_
             | refine W37 ?_
             | refine W38 ?_
             | refine W39 ?_
             | refine W40 ?_
             | refine W41 ?_
             | refine W42 ?_
             | refine W43 ?_
             | refine W44 ?_
             | refine W45 ?_
             | refine W46 ?_)
           | refine W47 ?_
           | refine W48 ?_
           | (refine W49 (fun b => ?_))
           | (refine W50 (fun b => ?_))
           | (refine W51 (fun b => ?_))
           | (refine W52 (fun b2 => ?_)))
         | (refine XC.is ?_; first
           | refine W82 ?_
           | refine W83 ?_
           | refine W84 ?_
           | refine W85 ?_
           | refine W86 ?_
           | refine W87 ?_
           | (refine W88 ?_; first
             | (refine W89 (fun h => ?_) (fun h => ?_) <;> try (first | (exfalso; omega) | exact absurd rfl h | (exfalso; simp at h <;> omega)))
             | refine W90 ?_
             | refine W91 ?_)
           | (refine W92 ?_; first
             | refine W93 ?_
             | (refine XC.planG (by kernel_rfl) (fun _ m h => h.drewn m) ?_; (conv => arg 5; reduce); refine XG0.of ?_; (conv => arg 5; reduce); (conv => arg 6; reduce); refine XG.go (by decide +kernel) ?_)))
         | (refine XQ.is ?_; first
           | refine W94 ?_
           | refine W95 ?_
           | (refine W96 ?_; refine W97 ?_)
           | refine W98 ?_
           | refine W99 ?_
           | refine W100 ?_
           | refine W101 ?_
           | refine W102 ?_
           | refine W103 ?_
           | refine W104 ?_
           | refine W105 ?_
           | refine W106 ?_
           | (refine W107 ?_; refine W108 ?_))
         | (refine XS.is ?_; first
           | (refine W53 ?_; refine W54 ?_)
           | (refine W55 ?_; first
             | refine W56 ?_
             | (refine W57 (fun h => ?_) (fun h => ?_) <;> try (first | (exfalso; omega) | exact absurd rfl h | (exfalso; simp at h <;> omega)))
             | refine W58 ?_
             | (refine W59 ?_; first
               | refine W60 ?_
               | refine W61 ?_
               | refine W62 ?_
               | refine W63 ?_
               | refine W64 ?_
               | refine W65 ?_)
             | (refine W66 ?_; first
               | refine W67 ?_
               | refine W68 ?_
               | refine W69 ?_)
             | (refine W70 ?_; first
               | refine W71 ?_
               | refine W72 ?_
               | refine W73 ?_
               | refine W74 ?_
               | refine W69 ?_)
             | (refine W75 ?_; first
               | refine W76 ?_
               | refine W69 ?_)
             | refine W69 ?_)
           | refine W77 ?_
           | (refine W78 ?_; refine W79 ?_ ?_)
           | (refine W80 ?_; refine W81 ?_ ?_ ?_)))
       exact XQ.consLit [conN (two 7 (w64 (first p fn + I.a)) (w64 (first p fn + I.b)) I.n)] (by rfl) (by rfl) .here rfl (fun C hC => by rw [List.mem_singleton.1 hC]; exact ⟨rfl, rfl⟩) (by simp [insnS, *]) (by (repeat' (first | exact Sels.nil | exact Sel.here | apply Sels.cons | apply Sel.there)); done))
    | (refine XL.triqF (con_tri (p := p) (k := 7) (n := (-1)) hfn) (by rfl) (by rfl) (by rfl) (by rfl) (by rfl) (by rfl) (by rfl) (by rfl) (by (repeat' (first | exact Sels.nil | exact Sel.here | apply Sels.cons | apply Sel.there)); done) (by (repeat' (first | exact Sels.nil | exact Sel.here | apply Sels.cons | apply Sel.there)); done) (by (repeat (first | exact sub0 | refine subC (by repeat (first | exact List.Mem.head _ | apply List.Mem.tail)) ?_)); done) ?_
       repeat' (first
         | (refine XL.is ?_; first
           | refine W1 ?_
           | (refine W2 (fun h => ?_) (fun h => ?_) <;> try (first | (exfalso; omega) | exact absurd rfl h | (exfalso; simp at h <;> omega)))
           | refine W3 ?_
           | (refine W4 ?_; first
             | refine W5 ?_
             | refine W6 ?_
             | refine W7 ?_
             | refine W8 ?_
             | refine W9 ?_
             | refine W10 ?_
             | refine W11 ?_)
           | (refine W12 ?_; first
             | refine W13 ?_
             | refine W14 ?_
             | refine W15 ?_
             | refine W16 ?_
             | refine W11 ?_)
           | (refine W17 ?_; first
             | refine W18 ?_
             | refine W19 ?_
             | refine W20 ?_
             | refine W21 ?_
             | refine W22 ?_
             | refine W11 ?_)
           | (refine W23 ?_; first
             | refine W24 ?_
             | refine W25 ?_)
           | (refine W26 ?_; first
             | refine W27 ?_
             | refine W28 ?_
             | refine W29 ?_
             | refine W30 ?_
             | refine W31 ?_)
           | refine XL.pure 1 (by rfl) ?_
           | refine W32 ?_
           | (refine W33 ?_; first
             | refine W34 ?_
             | refine W35 ?_
             | refine W36 ?_
             | refine W37 ?_
             | refine W38 ?_
             | refine W39 ?_
             | refine W40 ?_
             | refine W41 ?_
             | refine W42 ?_
             | refine W43 ?_
             | refine W44 ?_
             | refine W45 ?_
             | refine W46 ?_)
           | refine W47 ?_
           | refine W48 ?_
           | (refine W49 (fun b => ?_))
           | (refine W50 (fun b => ?_))
           | (refine W51 (fun b => ?_))
           | (refine W52 (fun b2 => ?_)))
         | (refine XC.is ?_; first
           | refine W82 ?_
           | refine W83 ?_
           | refine W84 ?_
           | refine W85 ?_
           | refine W86 ?_
           | refine W87 ?_
           | (refine W88 ?_; first
             | (refine W89 (fun h => ?_) (fun h => ?_) <;> try (first | (exfalso; omega) | exact absurd rfl h | (exfalso; simp at h <;> omega)))
             | refine W90 ?_
             | refine W91 ?_)
           | (refine W92 ?_; first
             | refine W93 ?_
             | (refine XC.planG (by kernel_rfl) (fun _ m h => h.drewn m) ?_; (conv => arg 5; reduce); refine XG0.of ?_; (conv => arg 5; reduce); (conv => arg 6; reduce); refine XG.go (by decide +kernel) ?_)))
         | (refine XQ.is ?_; first
           | refine W94 ?_
           | refine W95 ?_
           | (refine W96 ?_; refine W97 ?_)
           | refine W98 ?_
           | refine W99 ?_
           | refine W100 ?_
           | refine W101 ?_
           | refine W102 ?_
           | refine W103 ?_
           | refine W104 ?_
           | refine W105 ?_
           | refine W106 ?_
           | (refine W107 ?_; refine W108 ?_))
         | (refine XS.is ?_; first
           | (refine W53 ?_; refine W54 ?_)
           | (refine W55 ?_; first
             | refine W56 ?_
             | (refine W57 (fun h => ?_) (fun h => ?_) <;> try (first | (exfalso; omega) | exact absurd rfl h | (exfalso; simp at h <;> omega)))
             | refine W58 ?_
             | (refine W59 ?_; first
               | refine W60 ?_
               | refine W61 ?_
               | refine W62 ?_
               | refine W63 ?_
               | refine W64 ?_
               | refine W65 ?_)
             | (refine W66 ?_; first
               | refine W67 ?_
               | refine W68 ?_
               | refine W69 ?_)
             | (refine W70 ?_; first
               | refine W71 ?_
               | refine W72 ?_
               | refine W73 ?_
               | refine W74 ?_
               | refine W69 ?_)
             | (refine W75 ?_; first
               | refine W76 ?_
               | refine W69 ?_)
             | refine W69 ?_)
           | refine W77 ?_
           | (refine W78 ?_; refine W79 ?_ ?_)
           | (refine W80 ?_; refine W81 ?_ ?_ ?_)))
       refine XL.triq (some_tri) (by rfl) (by rfl) (by rfl) (by rfl) (by rfl) (by rfl) (by rfl) (by (repeat' (first | exact Sels.nil | exact Sel.here | apply Sels.cons | apply Sel.there)); done) (by (repeat' (first | exact Sels.nil | exact Sel.here | apply Sels.cons | apply Sel.there)); done) (by (repeat (first | exact sub0 | refine subC (by repeat (first | exact List.Mem.head _ | apply List.Mem.tail)) ?_)); done) ?_
       repeat' (first
         | (refine XL.is ?_; first
           | refine W1 ?_
           | (refine W2 (fun h => ?_) (fun h => ?_) <;> try (first | (exfalso; omega) | exact absurd rfl h | (exfalso; simp at h <;> omega)))
           | refine W3 ?_
           | (refine W4 ?_; first
             | refine W5 ?_
             | refine W6 ?_
             | refine W7 ?_
             | refine W8 ?_
             | refine W9 ?_
             | refine W10 ?_
             | refine W11 ?_)
           | (refine W12 ?_; first
             | refine W13 ?_
             | refine W14 ?_
             | refine W15 ?_
             | refine W16 ?_
             | refine W11 ?_)
           | (refine W17 ?_; first
             | refine W18 ?_
             | refine W19 ?_
             | refine W20 ?_
             | refine W21 ?_
             | refine W22 ?_
             | refine W11 ?_)
           | (refine W23 ?_; first
             | refine W24 ?_
             | refine W25 ?_)
           | (refine W26 ?_; first
             | refine W27 ?_
             | refine W28 ?_
             | refine W29 ?_
             | refine W30 ?_
             | refine W31 ?_)
           | refine XL.pure 1 (by rfl) ?_
           | refine W32 ?_
           | (refine W33 ?_; first
             | refine W34 ?_
             | refine W35 ?_
             | refine W36 ?_
             | refine W37 ?_
             | refine W38 ?_
             | refine W39 ?_
             | refine W40 ?_
             | refine W41 ?_
             | refine W42 ?_
             | refine W43 ?_
             | refine W44 ?_
             | refine W45 ?_
             | refine W46 ?_)
           | refine W47 ?_
           | refine W48 ?_
           | (refine W49 (fun b => ?_))
           | (refine W50 (fun b => ?_))
           | (refine W51 (fun b => ?_))
           | (refine W52 (fun b2 => ?_)))
         | (refine XC.is ?_; first
           | refine W82 ?_
           | refine W83 ?_
           | refine W84 ?_
           | refine W85 ?_
           | refine W86 ?_
           | refine W87 ?_
           | (refine W88 ?_; first
             | (refine W89 (fun h => ?_) (fun h => ?_) <;> try (first | (exfalso; omega) | exact absurd rfl h | (exfalso; simp at h <;> omega)))
             | refine W90 ?_
             | refine W91 ?_)
           | (refine W92 ?_; first
             | refine W93 ?_
             | (refine XC.planG (by kernel_rfl) (fun _ m h => h.drewn m) ?_; (conv => arg 5; reduce); refine XG0.of ?_; (conv => arg 5; reduce); (conv => arg 6; reduce); refine XG.go (by decide +kernel) ?_)))
         | (refine XQ.is ?_; first
           | refine W94 ?_
           | refine W95 ?_
           | (refine W96 ?_; refine W97 ?_)
           | refine W98 ?_
           | refine W99 ?_
           | refine W100 ?_
           | refine W101 ?_
           | refine W102 ?_
           | refine W103 ?_
           | refine W104 ?_
           | refine W105 ?_
           | refine W106 ?_
           | (refine W107 ?_; refine W108 ?_))
         | (refine XS.is ?_; first
           | (refine W53 ?_; refine W54 ?_)
           | (refine W55 ?_; first
             | refine W56 ?_
             | (refine W57 (fun h => ?_) (fun h => ?_) <;> try (first | (exfalso; omega) | exact absurd rfl h | (exfalso; simp at h <;> omega)))
             | refine W58 ?_
             | (refine W59 ?_; first
               | refine W60 ?_
               | refine W61 ?_
               | refine W62 ?_
               | refine W63 ?_
               | refine W64 ?_
               | refine W65 ?_)
             | (refine W66 ?_; first
               | refine W67 ?_
               | refine W68 ?_
               | refine W69 ?_)
             | (refine W70 ?_; first
               | refine W71 ?_
               | refine W72 ?_
               | refine W73 ?_
               | refine W74 ?_
               | refine W69 ?_)
             | (refine W75 ?_; first
               | refine W76 ?_
               | refine W69 ?_)
             | refine W69 ?_)
           | refine W77 ?_
           | (refine W78 ?_; refine W79 ?_ ?_)
           | (refine W80 ?_; refine W81 ?_ ?_ ?_)))
       exact XQ.consLit [conN (two 7 (w64 (first p fn + I.a)) (w64 (first p fn + I.b)) (-1))] (by rfl) (by rfl) .here rfl (fun C hC => by rw [List.mem_singleton.1 hC]; exact ⟨rfl, rfl⟩) (by simp [insnS, *]) (by (repeat' (first | exact Sels.nil | exact Sel.here | apply Sels.cons | apply Sel.there)); done))
    | (refine XL.trir (call_tri hp hw mF mI hfn (by omega) hok) (by rfl) (by rfl) (by rfl) (by rfl) (by rfl) (by rfl) (by rfl) (by (repeat' (first | exact Sels.nil | exact Sel.here | apply Sels.cons | apply Sel.there)); done) (by (repeat (first | exact sub0 | refine subC (by repeat (first | exact List.Mem.head _ | apply List.Mem.tail)) ?_)); done) ?_
       rintro ⟨v, l⟩ hl
       conv => arg 9; dsimp only [List.cons_append, List.nil_append]
       try conv => arg 7; dsimp only
       repeat' (first
         | (refine XL.is ?_; first
           | refine W1 ?_
           | (refine W2 (fun h => ?_) (fun h => ?_) <;> try (first | (exfalso; omega) | exact absurd rfl h | (exfalso; simp at h <;> omega)))
           | refine W3 ?_
           | (refine W4 ?_; first
             | refine W5 ?_
             | refine W6 ?_
             | refine W7 ?_
             | refine W8 ?_
             | refine W9 ?_
             | refine W10 ?_
             | refine W11 ?_)
           | (refine W12 ?_; first
             | refine W13 ?_
             | refine W14 ?_
             | refine W15 ?_
             | refine W16 ?_
             | refine W11 ?_)
           | (refine W17 ?_; first
             | refine W18 ?_
             | refine W19 ?_
             | refine W20 ?_
             | refine W21 ?_
             | refine W22 ?_
             | refine W11 ?_)
           | (refine W23 ?_; first
             | refine W24 ?_
             | refine W25 ?_)
           | (refine W26 ?_; first
             | refine W27 ?_
             | refine W28 ?_
             | refine W29 ?_
             | refine W30 ?_
             | refine W31 ?_)
           | refine XL.pure 1 (by rfl) ?_
           | refine W32 ?_
           | (refine W33 ?_; first
             | refine W34 ?_
             | refine W35 ?_
             | refine W36 ?_
             | refine W37 ?_
             | refine W38 ?_
             | refine W39 ?_
             | refine W40 ?_
             | refine W41 ?_
             | refine W42 ?_
             | refine W43 ?_
             | refine W44 ?_
             | refine W45 ?_
             | refine W46 ?_)
           | refine W47 ?_
           | refine W48 ?_
           | (refine W49 (fun b => ?_))
           | (refine W50 (fun b => ?_))
           | (refine W51 (fun b => ?_))
           | (refine W52 (fun b2 => ?_)))
         | (refine XC.is ?_; first
           | refine W82 ?_
           | refine W83 ?_
           | refine W84 ?_
           | refine W85 ?_
           | refine W86 ?_
           | refine W87 ?_
           | (refine W88 ?_; first
             | (refine W89 (fun h => ?_) (fun h => ?_) <;> try (first | (exfalso; omega) | exact absurd rfl h | (exfalso; simp at h <;> omega)))
             | refine W90 ?_
             | refine W91 ?_)
           | (refine W92 ?_; first
             | refine W93 ?_
             | (refine XC.planG (by kernel_rfl) (fun _ m h => h.drewn m) ?_; (conv => arg 5; reduce); refine XG0.of ?_; (conv => arg 5; reduce); (conv => arg 6; reduce); refine XG.go (by decide +kernel) ?_)))
         | (refine XQ.is ?_; first
           | refine W94 ?_
           | refine W95 ?_
           | (refine W96 ?_; refine W97 ?_)
           | refine W98 ?_
           | refine W99 ?_
           | refine W100 ?_
           | refine W101 ?_
           | refine W102 ?_
           | refine W103 ?_
           | refine W104 ?_
           | refine W105 ?_
           | refine W106 ?_
           | (refine W107 ?_; refine W108 ?_))
         | (refine XS.is ?_; first
           | (refine W53 ?_; refine W54 ?_)
           | (refine W55 ?_; first
             | refine W56 ?_
             | (refine W57 (fun h => ?_) (fun h => ?_) <;> try (first | (exfalso; omega) | exact absurd rfl h | (exfalso; simp at h <;> omega)))
             | refine W58 ?_
             | (refine W59 ?_; first
               | refine W60 ?_
               | refine W61 ?_
               | refine W62 ?_
               | refine W63 ?_
               | refine W64 ?_
               | refine W65 ?_)
             | (refine W66 ?_; first
               | refine W67 ?_
               | refine W68 ?_
               | refine W69 ?_)
             | (refine W70 ?_; first
               | refine W71 ?_
               | refine W72 ?_
               | refine W73 ?_
               | refine W74 ?_
               | refine W69 ?_)
             | (refine W75 ?_; first
               | refine W76 ?_
               | refine W69 ?_)
             | refine W69 ?_)
           | refine W77 ?_
           | (refine W78 ?_; refine W79 ?_ ?_)
           | (refine W80 ?_; refine W81 ?_ ?_ ?_)))
       exact XQ.done1 (by rfl) (by rfl) ⟨(v, l), hl, rfl, rfl, rfl⟩ (by (repeat' (first | exact Sels.nil | exact Sel.here | apply Sels.cons | apply Sel.there)); done) (by (repeat (first | exact sub0 | refine subC (by repeat (first | exact List.Mem.head _ | apply List.Mem.tail)) ?_)); done))
    | (refine XL.triq (told_m_tri hp (k := (fn : Int)) (by omega) (by omega)) (by rfl) (by rfl) (by rfl) (by rfl) (by rfl) (by rfl) (by rfl) (by (repeat' (first | exact Sels.nil | exact Sel.here | apply Sels.cons | apply Sel.there)); done) (by (repeat' (first | exact Sels.nil | exact Sel.here | apply Sels.cons | apply Sel.there)); done) (by (repeat (first | exact sub0 | refine subC (by repeat (first | exact List.Mem.head _ | apply List.Mem.tail)) ?_)); done) ?_
       repeat' (first
         | (refine XL.is ?_; first
           | refine W1 ?_
           | (refine W2 (fun h => ?_) (fun h => ?_) <;> try (first | (exfalso; omega) | exact absurd rfl h | (exfalso; simp at h <;> omega)))
           | refine W3 ?_
           | (refine W4 ?_; first
             | refine W5 ?_
             | refine W6 ?_
             | refine W7 ?_
             | refine W8 ?_
             | refine W9 ?_
             | refine W10 ?_
             | refine W11 ?_)
           | (refine W12 ?_; first
             | refine W13 ?_
             | refine W14 ?_
             | refine W15 ?_
             | refine W16 ?_
             | refine W11 ?_)
           | (refine W17 ?_; first
             | refine W18 ?_
             | refine W19 ?_
             | refine W20 ?_
             | refine W21 ?_
             | refine W22 ?_
             | refine W11 ?_)
           | (refine W23 ?_; first
             | refine W24 ?_
             | refine W25 ?_)
           | (refine W26 ?_; first
             | refine W27 ?_
             | refine W28 ?_
             | refine W29 ?_
             | refine W30 ?_
             | refine W31 ?_)
           | refine XL.pure 1 (by rfl) ?_
           | refine W32 ?_
           | (refine W33 ?_; first
             | refine W34 ?_
             | refine W35 ?_
             | refine W36 ?_
             | refine W37 ?_
             | refine W38 ?_
             | refine W39 ?_
             | refine W40 ?_
             | refine W41 ?_
             | refine W42 ?_
             | refine W43 ?_
             | refine W44 ?_
             | refine W45 ?_
             | refine W46 ?_)
           | refine W47 ?_
           | refine W48 ?_
           | (refine W49 (fun b => ?_))
           | (refine W50 (fun b => ?_))
           | (refine W51 (fun b => ?_))
           | (refine W52 (fun b2 => ?_)))
         | (refine XC.is ?_; first
           | refine W82 ?_
           | refine W83 ?_
           | refine W84 ?_
           | refine W85 ?_
           | refine W86 ?_
           | refine W87 ?_
           | (refine W88 ?_; first
             | (refine W89 (fun h => ?_) (fun h => ?_) <;> try (first | (exfalso; omega) | exact absurd rfl h | (exfalso; simp at h <;> omega)))
             | refine W90 ?_
             | refine W91 ?_)
           | (refine W92 ?_; first
             | refine W93 ?_
             | (refine XC.planG (by kernel_rfl) (fun _ m h => h.drewn m) ?_; (conv => arg 5; reduce); refine XG0.of ?_; (conv => arg 5; reduce); (conv => arg 6; reduce); refine XG.go (by decide +kernel) ?_)))
         | (refine XQ.is ?_; first
           | refine W94 ?_
           | refine W95 ?_
           | (refine W96 ?_; refine W97 ?_)
           | refine W98 ?_
           | refine W99 ?_
           | refine W100 ?_
           | refine W101 ?_
           | refine W102 ?_
           | refine W103 ?_
           | refine W104 ?_
           | refine W105 ?_
           | refine W106 ?_
           | (refine W107 ?_; refine W108 ?_))
         | (refine XS.is ?_; first
           | (refine W53 ?_; refine W54 ?_)
           | (refine W55 ?_; first
             | refine W56 ?_
             | (refine W57 (fun h => ?_) (fun h => ?_) <;> try (first | (exfalso; omega) | exact absurd rfl h | (exfalso; simp at h <;> omega)))
             | refine W58 ?_
             | (refine W59 ?_; first
               | refine W60 ?_
               | refine W61 ?_
               | refine W62 ?_
               | refine W63 ?_
               | refine W64 ?_
               | refine W65 ?_)
             | (refine W66 ?_; first
               | refine W67 ?_
               | refine W68 ?_
               | refine W69 ?_)
             | (refine W70 ?_; first
               | refine W71 ?_
               | refine W72 ?_
               | refine W73 ?_
               | refine W74 ?_
               | refine W69 ?_)
             | (refine W75 ?_; first
               | refine W76 ?_
               | refine W69 ?_)
             | refine W69 ?_)
           | refine W77 ?_
           | (refine W78 ?_; refine W79 ?_ ?_)
           | (refine W80 ?_; refine W81 ?_ ?_ ?_)))
       refine XL.triq (reg_tri (p := p) (x := I.a) hfn) (by rfl) (by rfl) (by rfl) (by rfl) (by rfl) (by rfl) (by rfl) (by (repeat' (first | exact Sels.nil | exact Sel.here | apply Sels.cons | apply Sel.there)); done) (by (repeat' (first | exact Sels.nil | exact Sel.here | apply Sels.cons | apply Sel.there)); done) (by (repeat (first | exact sub0 | refine subC (by repeat (first | exact List.Mem.head _ | apply List.Mem.tail)) ?_)); done) ?_
       repeat' (first
         | (refine XL.is ?_; first
           | refine W1 ?_
           | (refine W2 (fun h => ?_) (fun h => ?_) <;> try (first | (exfalso; omega) | exact absurd rfl h | (exfalso; simp at h <;> omega)))
           | refine W3 ?_
           | (refine W4 ?_; first
             | refine W5 ?_
             | refine W6 ?_
             | refine W7 ?_
             | refine W8 ?_
             | refine W9 ?_
             | refine W10 ?_
             | refine W11 ?_)
           | (refine W12 ?_; first
             | refine W13 ?_
             | refine W14 ?_
             | refine W15 ?_
             | refine W16 ?_
             | refine W11 ?_)
           | (refine W17 ?_; first
             | refine W18 ?_
             | refine W19 ?_
             | refine W20 ?_
             | refine W21 ?_
             | refine W22 ?_
             | refine W11 ?_)
           | (refine W23 ?_; first
             | refine W24 ?_
             | refine W25 ?_)
           | (refine W26 ?_; first
             | refine W27 ?_
             | refine W28 ?_
             | refine W29 ?_
             | refine W30 ?_
             | refine W31 ?_)
           | refine XL.pure 1 (by rfl) ?_
           | refine W32 ?_
           | (refine W33 ?_; first
             | refine W34 ?_
             | refine W35 ?_
             | refine W36 ?_
             | refine W37 ?_
             | refine W38 ?_
             | refine W39 ?_
             | refine W40 ?_
             | refine W41 ?_
             | refine W42 ?_
             | refine W43 ?_
             | refine W44 ?_
             | refine W45 ?_
             | refine W46 ?_)
           | refine W47 ?_
           | refine W48 ?_
           | (refine W49 (fun b => ?_))
           | (refine W50 (fun b => ?_))
           | (refine W51 (fun b => ?_))
           | (refine W52 (fun b2 => ?_)))
         | (refine XC.is ?_; first
           | refine W82 ?_
           | refine W83 ?_
           | refine W84 ?_
           | refine W85 ?_
           | refine W86 ?_
           | refine W87 ?_
           | (refine W88 ?_; first
             | (refine W89 (fun h => ?_) (fun h => ?_) <;> try (first | (exfalso; omega) | exact absurd rfl h | (exfalso; simp at h <;> omega)))
             | refine W90 ?_
             | refine W91 ?_)
           | (refine W92 ?_; first
             | refine W93 ?_
             | (refine XC.planG (by kernel_rfl) (fun _ m h => h.drewn m) ?_; (conv => arg 5; reduce); refine XG0.of ?_; (conv => arg 5; reduce); (conv => arg 6; reduce); refine XG.go (by decide +kernel) ?_)))
         | (refine XQ.is ?_; first
           | refine W94 ?_
           | refine W95 ?_
           | (refine W96 ?_; refine W97 ?_)
           | refine W98 ?_
           | refine W99 ?_
           | refine W100 ?_
           | refine W101 ?_
           | refine W102 ?_
           | refine W103 ?_
           | refine W104 ?_
           | refine W105 ?_
           | refine W106 ?_
           | (refine W107 ?_; refine W108 ?_))
         | (refine XS.is ?_; first
           | (refine W53 ?_; refine W54 ?_)
           | (refine W55 ?_; first
             | refine W56 ?_
             | (refine W57 (fun h => ?_) (fun h => ?_) <;> try (first | (exfalso; omega) | exact absurd rfl h | (exfalso; simp at h <;> omega)))
             | refine W58 ?_
             | (refine W59 ?_; first
               | refine W60 ?_
               | refine W61 ?_
               | refine W62 ?_
               | refine W63 ?_
               | refine W64 ?_
               | refine W65 ?_)
             | (refine W66 ?_; first
               | refine W67 ?_
               | refine W68 ?_
               | refine W69 ?_)
             | (refine W70 ?_; first
               | refine W71 ?_
               | refine W72 ?_
               | refine W73 ?_
               | refine W74 ?_
               | refine W69 ?_)
             | (refine W75 ?_; first
               | refine W76 ?_
               | refine W69 ?_)
             | refine W69 ?_)
           | refine W77 ?_
           | (refine W78 ?_; refine W79 ?_ ?_)
           | (refine W80 ?_; refine W81 ?_ ?_ ?_)))
       refine XL.triq (some_tri) (by rfl) (by rfl) (by rfl) (by rfl) (by rfl) (by rfl) (by rfl) (by (repeat' (first | exact Sels.nil | exact Sel.here | apply Sels.cons | apply Sel.there)); done) (by (repeat' (first | exact Sels.nil | exact Sel.here | apply Sels.cons | apply Sel.there)); done) (by (repeat (first | exact sub0 | refine subC (by repeat (first | exact List.Mem.head _ | apply List.Mem.tail)) ?_)); done) ?_
       repeat' (first
         | (refine XL.is ?_; first
           | refine W1 ?_
           | (refine W2 (fun h => ?_) (fun h => ?_) <;> try (first | (exfalso; omega) | exact absurd rfl h | (exfalso; simp at h <;> omega)))
           | refine W3 ?_
           | (refine W4 ?_; first
             | refine W5 ?_
             | refine W6 ?_
             | refine W7 ?_
             | refine W8 ?_
             | refine W9 ?_
             | refine W10 ?_
             | refine W11 ?_)
           | (refine W12 ?_; first
             | refine W13 ?_
             | refine W14 ?_
             | refine W15 ?_
             | refine W16 ?_
             | refine W11 ?_)
           | (refine W17 ?_; first
             | refine W18 ?_
             | refine W19 ?_
             | refine W20 ?_
             | refine W21 ?_
             | refine W22 ?_
             | refine W11 ?_)
           | (refine W23 ?_; first
             | refine W24 ?_
             | refine W25 ?_)
           | (refine W26 ?_; first
             | refine W27 ?_
             | refine W28 ?_
             | refine W29 ?_
             | refine W30 ?_
             | refine W31 ?_)
           | refine XL.pure 1 (by rfl) ?_
           | refine W32 ?_
           | (refine W33 ?_; first
             | refine W34 ?_
             | refine W35 ?_
             | refine W36 ?_
             | refine W37 ?_
             | refine W38 ?_
             | refine W39 ?_
             | refine W40 ?_
             | refine W41 ?_
             | refine W42 ?_
             | refine W43 ?_
             | refine W44 ?_
             | refine W45 ?_
             | refine W46 ?_)
           | refine W47 ?_
           | refine W48 ?_
           | (refine W49 (fun b => ?_))
           | (refine W50 (fun b => ?_))
           | (refine W51 (fun b => ?_))
           | (refine W52 (fun b2 => ?_)))
         | (refine XC.is ?_; first
           | refine W82 ?_
           | refine W83 ?_
           | refine W84 ?_
           | refine W85 ?_
           | refine W86 ?_
           | refine W87 ?_
           | (refine W88 ?_; first
             | (refine W89 (fun h => ?_) (fun h => ?_) <;> try (first | (exfalso; omega) | exact absurd rfl h | (exfalso; simp at h <;> omega)))
             | refine W90 ?_
             | refine W91 ?_)
           | (refine W92 ?_; first
             | refine W93 ?_
             | (refine XC.planG (by kernel_rfl) (fun _ m h => h.drewn m) ?_; (conv => arg 5; reduce); refine XG0.of ?_; (conv => arg 5; reduce); (conv => arg 6; reduce); refine XG.go (by decide +kernel) ?_)))
         | (refine XQ.is ?_; first
           | refine W94 ?_
           | refine W95 ?_
           | (refine W96 ?_; refine W97 ?_)
           | refine W98 ?_
           | refine W99 ?_
           | refine W100 ?_
           | refine W101 ?_
           | refine W102 ?_
           | refine W103 ?_
           | refine W104 ?_
           | refine W105 ?_
           | refine W106 ?_
           | (refine W107 ?_; refine W108 ?_))
         | (refine XS.is ?_; first
           | (refine W53 ?_; refine W54 ?_)
           | (refine W55 ?_; first
             | refine W56 ?_
             | (refine W57 (fun h => ?_) (fun h => ?_) <;> try (first | (exfalso; omega) | exact absurd rfl h | (exfalso; simp at h <;> omega)))
             | refine W58 ?_
             | (refine W59 ?_; first
               | refine W60 ?_
               | refine W61 ?_
               | refine W62 ?_
               | refine W63 ?_
               | refine W64 ?_
               | refine W65 ?_)
             | (refine W66 ?_; first
               | refine W67 ?_
               | refine W68 ?_
               | refine W69 ?_)
             | (refine W70 ?_; first
               | refine W71 ?_
               | refine W72 ?_
               | refine W73 ?_
               | refine W74 ?_
               | refine W69 ?_)
             | (refine W75 ?_; first
               | refine W76 ?_
               | refine W69 ?_)
             | refine W69 ?_)
           | refine W77 ?_
           | (refine W78 ?_; refine W79 ?_ ?_)
           | (refine W80 ?_; refine W81 ?_ ?_ ?_)))
       exact XQ.consLit [conN (two 2 (told p fn) (w64 (first p fn + I.a)) 0)] (by rfl) (by rfl) .here rfl (fun C hC => by rw [List.mem_singleton.1 hC]; exact ⟨rfl, rfl⟩) (by simp [insnS, plus, minus, *]) (by (repeat' (first | exact Sels.nil | exact Sel.here | apply Sels.cons | apply Sel.there)); done))
    | skip
  all_goals
    refine XL.triqF (con_tri (p := p) (k := 4) (n := 1) hfn) (by rfl) (by rfl) (by rfl) (by rfl) (by rfl) (by rfl) (by rfl) (by rfl) (by (repeat' (first | exact Sels.nil | exact Sel.here | apply Sels.cons | apply Sel.there)); done) (by (repeat' (first | exact Sels.nil | exact Sel.here | apply Sels.cons | apply Sel.there)); done) (by (repeat (first | exact sub0 | refine subC (by repeat (first | exact List.Mem.head _ | apply List.Mem.tail)) ?_)); done) ?_
    repeat' (first
      | (refine XL.is ?_; first
        | refine W1 ?_
        | (refine W2 (fun h => ?_) (fun h => ?_) <;> try (first | (exfalso; omega) | exact absurd rfl h | (exfalso; simp at h <;> omega)))
        | refine W3 ?_
        | (refine W4 ?_; first
          | refine W5 ?_
          | refine W6 ?_
          | refine W7 ?_
          | refine W8 ?_
          | refine W9 ?_
          | refine W10 ?_
          | refine W11 ?_)
        | (refine W12 ?_; first
          | refine W13 ?_
          | refine W14 ?_
          | refine W15 ?_
          | refine W16 ?_
          | refine W11 ?_)
        | (refine W17 ?_; first
          | refine W18 ?_
          | refine W19 ?_
          | refine W20 ?_
          | refine W21 ?_
          | refine W22 ?_
          | refine W11 ?_)
        | (refine W23 ?_; first
          | refine W24 ?_
          | refine W25 ?_)
        | (refine W26 ?_; first
          | refine W27 ?_
          | refine W28 ?_
          | refine W29 ?_
          | refine W30 ?_
          | refine W31 ?_)
        | refine XL.pure 1 (by rfl) ?_
        | refine W32 ?_
        | (refine W33 ?_; first
          | refine W34 ?_
          | refine W35 ?_
          | refine W36 ?_
          | refine W37 ?_
          | refine W38 ?_
          | refine W39 ?_
          | refine W40 ?_
          | refine W41 ?_
          | refine W42 ?_
          | refine W43 ?_
          | refine W44 ?_
          | refine W45 ?_
          | refine W46 ?_)
        | refine W47 ?_
        | refine W48 ?_
        | (refine W49 (fun b => ?_))
        | (refine W50 (fun b => ?_))
        | (refine W51 (fun b => ?_))
        | (refine W52 (fun b2 => ?_)))
      | (refine XC.is ?_; first
        | refine W82 ?_
        | refine W83 ?_
        | refine W84 ?_
        | refine W85 ?_
        | refine W86 ?_
        | refine W87 ?_
        | (refine W88 ?_; first
          | (refine W89 (fun h => ?_) (fun h => ?_) <;> try (first | (exfalso; omega) | exact absurd rfl h | (exfalso; simp at h <;> omega)))
          | refine W90 ?_
          | refine W91 ?_)
        | (refine W92 ?_; first
          | refine W93 ?_
          | (refine XC.planG (by kernel_rfl) (fun _ m h => h.drewn m) ?_; (conv => arg 5; reduce); refine XG0.of ?_; (conv => arg 5; reduce); (conv => arg 6; reduce); refine XG.go (by decide +kernel) ?_)))
      | (refine XQ.is ?_; first
        | refine W94 ?_
        | refine W95 ?_
        | (refine W96 ?_; refine W97 ?_)
        | refine W98 ?_
        | refine W99 ?_
        | refine W100 ?_
        | refine W101 ?_
        | refine W102 ?_
        | refine W103 ?_
        | refine W104 ?_
        | refine W105 ?_
        | refine W106 ?_
        | (refine W107 ?_; refine W108 ?_))
      | (refine XS.is ?_; first
        | (refine W53 ?_; refine W54 ?_)
        | (refine W55 ?_; first
          | refine W56 ?_
          | (refine W57 (fun h => ?_) (fun h => ?_) <;> try (first | (exfalso; omega) | exact absurd rfl h | (exfalso; simp at h <;> omega)))
          | refine W58 ?_
          | (refine W59 ?_; first
            | refine W60 ?_
            | refine W61 ?_
            | refine W62 ?_
            | refine W63 ?_
            | refine W64 ?_
            | refine W65 ?_)
          | (refine W66 ?_; first
            | refine W67 ?_
            | refine W68 ?_
            | refine W69 ?_)
          | (refine W70 ?_; first
            | refine W71 ?_
            | refine W72 ?_
            | refine W73 ?_
            | refine W74 ?_
            | refine W69 ?_)
          | (refine W75 ?_; first
            | refine W76 ?_
            | refine W69 ?_)
          | refine W69 ?_)
        | refine W77 ?_
        | (refine W78 ?_; refine W79 ?_ ?_)
        | (refine W80 ?_; refine W81 ?_ ?_ ?_)))
    refine XL.triq (reg_tri (p := p) (x := I.c) hfn) (by rfl) (by rfl) (by rfl) (by rfl) (by rfl) (by rfl) (by rfl) (by (repeat' (first | exact Sels.nil | exact Sel.here | apply Sels.cons | apply Sel.there)); done) (by (repeat' (first | exact Sels.nil | exact Sel.here | apply Sels.cons | apply Sel.there)); done) (by (repeat (first | exact sub0 | refine subC (by repeat (first | exact List.Mem.head _ | apply List.Mem.tail)) ?_)); done) ?_
    repeat' (first
      | (refine XL.is ?_; first
        | refine W1 ?_
        | (refine W2 (fun h => ?_) (fun h => ?_) <;> try (first | (exfalso; omega) | exact absurd rfl h | (exfalso; simp at h <;> omega)))
        | refine W3 ?_
        | (refine W4 ?_; first
          | refine W5 ?_
          | refine W6 ?_
          | refine W7 ?_
          | refine W8 ?_
          | refine W9 ?_
          | refine W10 ?_
          | refine W11 ?_)
        | (refine W12 ?_; first
          | refine W13 ?_
          | refine W14 ?_
          | refine W15 ?_
          | refine W16 ?_
          | refine W11 ?_)
        | (refine W17 ?_; first
          | refine W18 ?_
          | refine W19 ?_
          | refine W20 ?_
          | refine W21 ?_
          | refine W22 ?_
          | refine W11 ?_)
        | (refine W23 ?_; first
          | refine W24 ?_
          | refine W25 ?_)
        | (refine W26 ?_; first
          | refine W27 ?_
          | refine W28 ?_
          | refine W29 ?_
          | refine W30 ?_
          | refine W31 ?_)
        | refine XL.pure 1 (by rfl) ?_
        | refine W32 ?_
        | (refine W33 ?_; first
          | refine W34 ?_
          | refine W35 ?_
          | refine W36 ?_
          | refine W37 ?_
          | refine W38 ?_
          | refine W39 ?_
          | refine W40 ?_
          | refine W41 ?_
          | refine W42 ?_
          | refine W43 ?_
          | refine W44 ?_
          | refine W45 ?_
          | refine W46 ?_)
        | refine W47 ?_
        | refine W48 ?_
        | (refine W49 (fun b => ?_))
        | (refine W50 (fun b => ?_))
        | (refine W51 (fun b => ?_))
        | (refine W52 (fun b2 => ?_)))
      | (refine XC.is ?_; first
        | refine W82 ?_
        | refine W83 ?_
        | refine W84 ?_
        | refine W85 ?_
        | refine W86 ?_
        | refine W87 ?_
        | (refine W88 ?_; first
          | (refine W89 (fun h => ?_) (fun h => ?_) <;> try (first | (exfalso; omega) | exact absurd rfl h | (exfalso; simp at h <;> omega)))
          | refine W90 ?_
          | refine W91 ?_)
        | (refine W92 ?_; first
          | refine W93 ?_
          | (refine XC.planG (by kernel_rfl) (fun _ m h => h.drewn m) ?_; (conv => arg 5; reduce); refine XG0.of ?_; (conv => arg 5; reduce); (conv => arg 6; reduce); refine XG.go (by decide +kernel) ?_)))
      | (refine XQ.is ?_; first
        | refine W94 ?_
        | refine W95 ?_
        | (refine W96 ?_; refine W97 ?_)
        | refine W98 ?_
        | refine W99 ?_
        | refine W100 ?_
        | refine W101 ?_
        | refine W102 ?_
        | refine W103 ?_
        | refine W104 ?_
        | refine W105 ?_
        | refine W106 ?_
        | (refine W107 ?_; refine W108 ?_))
      | (refine XS.is ?_; first
        | (refine W53 ?_; refine W54 ?_)
        | (refine W55 ?_; first
          | refine W56 ?_
          | (refine W57 (fun h => ?_) (fun h => ?_) <;> try (first | (exfalso; omega) | exact absurd rfl h | (exfalso; simp at h <;> omega)))
          | refine W58 ?_
          | (refine W59 ?_; first
            | refine W60 ?_
            | refine W61 ?_
            | refine W62 ?_
            | refine W63 ?_
            | refine W64 ?_
            | refine W65 ?_)
          | (refine W66 ?_; first
            | refine W67 ?_
            | refine W68 ?_
            | refine W69 ?_)
          | (refine W70 ?_; first
            | refine W71 ?_
            | refine W72 ?_
            | refine W73 ?_
            | refine W74 ?_
            | refine W69 ?_)
          | (refine W75 ?_; first
            | refine W76 ?_
            | refine W69 ?_)
          | refine W69 ?_)
        | refine W77 ?_
        | (refine W78 ?_; refine W79 ?_ ?_)
        | (refine W80 ?_; refine W81 ?_ ?_ ?_)))
    all_goals first
      | exact XQ.consNil (by rfl) (by rfl) (by simp [insnS, plus, minus, *]) (by (repeat' (first | exact Sels.nil | exact Sel.here | apply Sels.cons | apply Sel.there)); done)
      | skip
    · refine XL.triqF (con_tri (p := p) (k := 4) (n := 1) hfn) (by rfl) (by rfl) (by rfl) (by rfl) (by rfl) (by rfl) (by rfl) (by rfl) (by (repeat' (first | exact Sels.nil | exact Sel.here | apply Sels.cons | apply Sel.there)); done) (by (repeat' (first | exact Sels.nil | exact Sel.here | apply Sels.cons | apply Sel.there)); done) (by (repeat (first | exact sub0 | refine subC (by repeat (first | exact List.Mem.head _ | apply List.Mem.tail)) ?_)); done) ?_
      repeat' (first
        | (refine XL.is ?_; first
          | refine W1 ?_
          | (refine W2 (fun h => ?_) (fun h => ?_) <;> try (first | (exfalso; omega) | exact absurd rfl h | (exfalso; simp at h <;> omega)))
          | refine W3 ?_
          | (refine W4 ?_; first
            | refine W5 ?_
            | refine W6 ?_
            | refine W7 ?_
            | refine W8 ?_
            | refine W9 ?_
            | refine W10 ?_
            | refine W11 ?_)
          | (refine W12 ?_; first
            | refine W13 ?_
            | refine W14 ?_
            | refine W15 ?_
            | refine W16 ?_
            | refine W11 ?_)
          | (refine W17 ?_; first
            | refine W18 ?_
            | refine W19 ?_
            | refine W20 ?_
            | refine W21 ?_
            | refine W22 ?_
            | refine W11 ?_)
          | (refine W23 ?_; first
            | refine W24 ?_
            | refine W25 ?_)
          | (refine W26 ?_; first
            | refine W27 ?_
            | refine W28 ?_
            | refine W29 ?_
            | refine W30 ?_
            | refine W31 ?_)
          | refine XL.pure 1 (by rfl) ?_
          | refine W32 ?_
          | (refine W33 ?_; first
            | refine W34 ?_
            | refine W35 ?_
            | refine W36 ?_
            | refine W37 ?_
            | refine W38 ?_
            | refine W39 ?_
            | refine W40 ?_
            | refine W41 ?_
            | refine W42 ?_
            | refine W43 ?_
            | refine W44 ?_
            | refine W45 ?_
            | refine W46 ?_)
          | refine W47 ?_
          | refine W48 ?_
          | (refine W49 (fun b => ?_))
          | (refine W50 (fun b => ?_))
          | (refine W51 (fun b => ?_))
          | (refine W52 (fun b2 => ?_)))
        | (refine XC.is ?_; first
          | refine W82 ?_
          | refine W83 ?_
          | refine W84 ?_
          | refine W85 ?_
          | refine W86 ?_
          | refine W87 ?_
          | (refine W88 ?_; first
            | (refine W89 (fun h => ?_) (fun h => ?_) <;> try (first | (exfalso; omega) | exact absurd rfl h | (exfalso; simp at h <;> omega)))
            | refine W90 ?_
            | refine W91 ?_)
          | (refine W92 ?_; first
            | refine W93 ?_
            | (refine XC.planG (by kernel_rfl) (fun _ m h => h.drewn m) ?_; (conv => arg 5; reduce); refine XG0.of ?_; (conv => arg 5; reduce); (conv => arg 6; reduce); refine XG.go (by decide +kernel) ?_)))
        | (refine XQ.is ?_; first
          | refine W94 ?_
          | refine W95 ?_
          | (refine W96 ?_; refine W97 ?_)
          | refine W98 ?_
          | refine W99 ?_
          | refine W100 ?_
          | refine W101 ?_
          | refine W102 ?_
          | refine W103 ?_
          | refine W104 ?_
          | refine W105 ?_
          | refine W106 ?_
          | (refine W107 ?_; refine W108 ?_))
        | (refine XS.is ?_; first
          | (refine W53 ?_; refine W54 ?_)
          | (refine W55 ?_; first
            | refine W56 ?_
            | (refine W57 (fun h => ?_) (fun h => ?_) <;> try (first | (exfalso; omega) | exact absurd rfl h | (exfalso; simp at h <;> omega)))
            | refine W58 ?_
            | (refine W59 ?_; first
              | refine W60 ?_
              | refine W61 ?_
              | refine W62 ?_
              | refine W63 ?_
              | refine W64 ?_
              | refine W65 ?_)
            | (refine W66 ?_; first
              | refine W67 ?_
              | refine W68 ?_
              | refine W69 ?_)
            | (refine W70 ?_; first
              | refine W71 ?_
              | refine W72 ?_
              | refine W73 ?_
              | refine W74 ?_
              | refine W69 ?_)
            | (refine W75 ?_; first
              | refine W76 ?_
              | refine W69 ?_)
            | refine W69 ?_)
          | refine W77 ?_
          | (refine W78 ?_; refine W79 ?_ ?_)
          | (refine W80 ?_; refine W81 ?_ ?_ ?_)))
      refine XL.triq (some_tri) (by rfl) (by rfl) (by rfl) (by rfl) (by rfl) (by rfl) (by rfl) (by (repeat' (first | exact Sels.nil | exact Sel.here | apply Sels.cons | apply Sel.there)); done) (by (repeat' (first | exact Sels.nil | exact Sel.here | apply Sels.cons | apply Sel.there)); done) (by (repeat (first | exact sub0 | refine subC (by repeat (first | exact List.Mem.head _ | apply List.Mem.tail)) ?_)); done) ?_
      repeat' (first
        | (refine XL.is ?_; first
          | refine W1 ?_
          | (refine W2 (fun h => ?_) (fun h => ?_) <;> try (first | (exfalso; omega) | exact absurd rfl h | (exfalso; simp at h <;> omega)))
          | refine W3 ?_
          | (refine W4 ?_; first
            | refine W5 ?_
            | refine W6 ?_
            | refine W7 ?_
            | refine W8 ?_
            | refine W9 ?_
            | refine W10 ?_
            | refine W11 ?_)
          | (refine W12 ?_; first
            | refine W13 ?_
            | refine W14 ?_
            | refine W15 ?_
            | refine W16 ?_
            | refine W11 ?_)
          | (refine W17 ?_; first
            | refine W18 ?_
            | refine W19 ?_
            | refine W20 ?_
            | refine W21 ?_
            | refine W22 ?_
            | refine W11 ?_)
          | (refine W23 ?_; first
            | refine W24 ?_
            | refine W25 ?_)
          | (refine W26 ?_; first
            | refine W27 ?_
            | refine W28 ?_
            | refine W29 ?_
            | refine W30 ?_
            | refine W31 ?_)
          | refine XL.pure 1 (by rfl) ?_
          | refine W32 ?_
          | (refine W33 ?_; first
            | refine W34 ?_
            | refine W35 ?_
            | refine W36 ?_
            | refine W37 ?_
            | refine W38 ?_
            | refine W39 ?_
            | refine W40 ?_
            | refine W41 ?_
            | refine W42 ?_
            | refine W43 ?_
            | refine W44 ?_
            | refine W45 ?_
            | refine W46 ?_)
          | refine W47 ?_
          | refine W48 ?_
          | (refine W49 (fun b => ?_))
          | (refine W50 (fun b => ?_))
          | (refine W51 (fun b => ?_))
          | (refine W52 (fun b2 => ?_)))
        | (refine XC.is ?_; first
          | refine W82 ?_
          | refine W83 ?_
          | refine W84 ?_
          | refine W85 ?_
          | refine W86 ?_
          | refine W87 ?_
          | (refine W88 ?_; first
            | (refine W89 (fun h => ?_) (fun h => ?_) <;> try (first | (exfalso; omega) | exact absurd rfl h | (exfalso; simp at h <;> omega)))
            | refine W90 ?_
            | refine W91 ?_)
          | (refine W92 ?_; first
            | refine W93 ?_
            | (refine XC.planG (by kernel_rfl) (fun _ m h => h.drewn m) ?_; (conv => arg 5; reduce); refine XG0.of ?_; (conv => arg 5; reduce); (conv => arg 6; reduce); refine XG.go (by decide +kernel) ?_)))
        | (refine XQ.is ?_; first
          | refine W94 ?_
          | refine W95 ?_
          | (refine W96 ?_; refine W97 ?_)
          | refine W98 ?_
          | refine W99 ?_
          | refine W100 ?_
          | refine W101 ?_
          | refine W102 ?_
          | refine W103 ?_
          | refine W104 ?_
          | refine W105 ?_
          | refine W106 ?_
          | (refine W107 ?_; refine W108 ?_))
        | (refine XS.is ?_; first
          | (refine W53 ?_; refine W54 ?_)
          | (refine W55 ?_; first
            | refine W56 ?_
            | (refine W57 (fun h => ?_) (fun h => ?_) <;> try (first | (exfalso; omega) | exact absurd rfl h | (exfalso; simp at h <;> omega)))
            | refine W58 ?_
            | (refine W59 ?_; first
              | refine W60 ?_
              | refine W61 ?_
              | refine W62 ?_
              | refine W63 ?_
              | refine W64 ?_
              | refine W65 ?_)
            | (refine W66 ?_; first
              | refine W67 ?_
              | refine W68 ?_
              | refine W69 ?_)
            | (refine W70 ?_; first
              | refine W71 ?_
              | refine W72 ?_
              | refine W73 ?_
              | refine W74 ?_
              | refine W69 ?_)
            | (refine W75 ?_; first
              | refine W76 ?_
              | refine W69 ?_)
            | refine W69 ?_)
          | refine W77 ?_
          | (refine W78 ?_; refine W79 ?_ ?_)
          | (refine W80 ?_; refine W81 ?_ ?_ ?_)))
      exact XQ.consLit [conN (two 4 (w64 (first p fn + I.a)) (w64 (first p fn + I.b)) 1), conN (two 4 (w64 (first p fn + I.a)) (w64 (first p fn + I.c)) 1)] (by rfl) (by rfl) .here rfl (fun C hC => by simp at hC; rcases hC with rfl | rfl <;> exact ⟨rfl, rfl⟩) (by simp [insnS, plus, minus, *]) (by (repeat' (first | exact Sels.nil | exact Sel.here | apply Sels.cons | apply Sel.there)); done)
    · refine XL.triqF (con_tri (p := p) (k := 4) (n := 1) hfn) (by rfl) (by rfl) (by rfl) (by rfl) (by rfl) (by rfl) (by rfl) (by rfl) (by (repeat' (first | exact Sels.nil | exact Sel.here | apply Sels.cons | apply Sel.there)); done) (by (repeat' (first | exact Sels.nil | exact Sel.here | apply Sels.cons | apply Sel.there)); done) (by (repeat (first | exact sub0 | refine subC (by repeat (first | exact List.Mem.head _ | apply List.Mem.tail)) ?_)); done) ?_
      repeat' (first
        | (refine XL.is ?_; first
          | refine W1 ?_
          | (refine W2 (fun h => ?_) (fun h => ?_) <;> try (first | (exfalso; omega) | exact absurd rfl h | (exfalso; simp at h <;> omega)))
          | refine W3 ?_
          | (refine W4 ?_; first
            | refine W5 ?_
            | refine W6 ?_
            | refine W7 ?_
            | refine W8 ?_
            | refine W9 ?_
            | refine W10 ?_
            | refine W11 ?_)
          | (refine W12 ?_; first
            | refine W13 ?_
            | refine W14 ?_
            | refine W15 ?_
            | refine W16 ?_
            | refine W11 ?_)
          | (refine W17 ?_; first
            | refine W18 ?_
            | refine W19 ?_
            | refine W20 ?_
            | refine W21 ?_
            | refine W22 ?_
            | refine W11 ?_)
          | (refine W23 ?_; first
            | refine W24 ?_
            | refine W25 ?_)
          | (refine W26 ?_; first
            | refine W27 ?_
            | refine W28 ?_
            | refine W29 ?_
            | refine W30 ?_
            | refine W31 ?_)
          | refine XL.pure 1 (by rfl) ?_
          | refine W32 ?_
          | (refine W33 ?_; first
            | refine W34 ?_
            | refine W35 ?_
            | refine W36 ?_
            | refine W37 ?_
            | refine W38 ?_
            | refine W39 ?_
            | refine W40 ?_
            | refine W41 ?_
            | refine W42 ?_
            | refine W43 ?_
            | refine W44 ?_
            | refine W45 ?_
            | refine W46 ?_)
          | refine W47 ?_
          | refine W48 ?_
          | (refine W49 (fun b => ?_))
          | (refine W50 (fun b => ?_))
          | (refine W51 (fun b => ?_))
          | (refine W52 (fun b2 => ?_)))
        | (refine XC.is ?_; first
          | refine W82 ?_
          | refine W83 ?_
          | refine W84 ?_
          | refine W85 ?_
          | refine W86 ?_
          | refine W87 ?_
          | (refine W88 ?_; first
            | (refine W89 (fun h => ?_) (fun h => ?_) <;> try (first | (exfalso; omega) | exact absurd rfl h | (exfalso; simp at h <;> omega)))
            | refine W90 ?_
            | refine W91 ?_)
          | (refine W92 ?_; first
            | refine W93 ?_
            | (refine XC.planG (by kernel_rfl) (fun _ m h => h.drewn m) ?_; (conv => arg 5; reduce); refine XG0.of ?_; (conv => arg 5; reduce); (conv => arg 6; reduce); refine XG.go (by decide +kernel) ?_)))
        | (refine XQ.is ?_; first
          | refine W94 ?_
          | refine W95 ?_
          | (refine W96 ?_; refine W97 ?_)
          | refine W98 ?_
          | refine W99 ?_
          | refine W100 ?_
          | refine W101 ?_
          | refine W102 ?_
          | refine W103 ?_
          | refine W104 ?_
          | refine W105 ?_
          | refine W106 ?_
          | (refine W107 ?_; refine W108 ?_))
        | (refine XS.is ?_; first
          | (refine W53 ?_; refine W54 ?_)
          | (refine W55 ?_; first
            | refine W56 ?_
            | (refine W57 (fun h => ?_) (fun h => ?_) <;> try (first | (exfalso; omega) | exact absurd rfl h | (exfalso; simp at h <;> omega)))
            | refine W58 ?_
            | (refine W59 ?_; first
              | refine W60 ?_
              | refine W61 ?_
              | refine W62 ?_
              | refine W63 ?_
              | refine W64 ?_
              | refine W65 ?_)
            | (refine W66 ?_; first
              | refine W67 ?_
              | refine W68 ?_
              | refine W69 ?_)
            | (refine W70 ?_; first
              | refine W71 ?_
              | refine W72 ?_
              | refine W73 ?_
              | refine W74 ?_
              | refine W69 ?_)
            | (refine W75 ?_; first
              | refine W76 ?_
              | refine W69 ?_)
            | refine W69 ?_)
          | refine W77 ?_
          | (refine W78 ?_; refine W79 ?_ ?_)
          | (refine W80 ?_; refine W81 ?_ ?_ ?_)))
      refine XL.triq (some_tri) (by rfl) (by rfl) (by rfl) (by rfl) (by rfl) (by rfl) (by rfl) (by (repeat' (first | exact Sels.nil | exact Sel.here | apply Sels.cons | apply Sel.there)); done) (by (repeat' (first | exact Sels.nil | exact Sel.here | apply Sels.cons | apply Sel.there)); done) (by (repeat (first | exact sub0 | refine subC (by repeat (first | exact List.Mem.head _ | apply List.Mem.tail)) ?_)); done) ?_
      repeat' (first
        | (refine XL.is ?_; first
          | refine W1 ?_
          | (refine W2 (fun h => ?_) (fun h => ?_) <;> try (first | (exfalso; omega) | exact absurd rfl h | (exfalso; simp at h <;> omega)))
          | refine W3 ?_
          | (refine W4 ?_; first
            | refine W5 ?_
            | refine W6 ?_
            | refine W7 ?_
            | refine W8 ?_
            | refine W9 ?_
            | refine W10 ?_
            | refine W11 ?_)
          | (refine W12 ?_; first
            | refine W13 ?_
            | refine W14 ?_
            | refine W15 ?_
            | refine W16 ?_
            | refine W11 ?_)
          | (refine W17 ?_; first
            | refine W18 ?_
            | refine W19 ?_
            | refine W20 ?_
            | refine W21 ?_
            | refine W22 ?_
            | refine W11 ?_)
          | (refine W23 ?_; first
            | refine W24 ?_
            | refine W25 ?_)
          | (refine W26 ?_; first
            | refine W27 ?_
            | refine W28 ?_
            | refine W29 ?_
            | refine W30 ?_
            | refine W31 ?_)
          | refine XL.pure 1 (by rfl) ?_
          | refine W32 ?_
          | (refine W33 ?_; first
            | refine W34 ?_
            | refine W35 ?_
            | refine W36 ?_
            | refine W37 ?_
            | refine W38 ?_
            | refine W39 ?_
            | refine W40 ?_
            | refine W41 ?_
            | refine W42 ?_
            | refine W43 ?_
            | refine W44 ?_
            | refine W45 ?_
            | refine W46 ?_)
          | refine W47 ?_
          | refine W48 ?_
          | (refine W49 (fun b => ?_))
          | (refine W50 (fun b => ?_))
          | (refine W51 (fun b => ?_))
          | (refine W52 (fun b2 => ?_)))
        | (refine XC.is ?_; first
          | refine W82 ?_
          | refine W83 ?_
          | refine W84 ?_
          | refine W85 ?_
          | refine W86 ?_
          | refine W87 ?_
          | (refine W88 ?_; first
            | (refine W89 (fun h => ?_) (fun h => ?_) <;> try (first | (exfalso; omega) | exact absurd rfl h | (exfalso; simp at h <;> omega)))
            | refine W90 ?_
            | refine W91 ?_)
          | (refine W92 ?_; first
            | refine W93 ?_
            | (refine XC.planG (by kernel_rfl) (fun _ m h => h.drewn m) ?_; (conv => arg 5; reduce); refine XG0.of ?_; (conv => arg 5; reduce); (conv => arg 6; reduce); refine XG.go (by decide +kernel) ?_)))
        | (refine XQ.is ?_; first
          | refine W94 ?_
          | refine W95 ?_
          | (refine W96 ?_; refine W97 ?_)
          | refine W98 ?_
          | refine W99 ?_
          | refine W100 ?_
          | refine W101 ?_
          | refine W102 ?_
          | refine W103 ?_
          | refine W104 ?_
          | refine W105 ?_
          | refine W106 ?_
          | (refine W107 ?_; refine W108 ?_))
        | (refine XS.is ?_; first
          | (refine W53 ?_; refine W54 ?_)
          | (refine W55 ?_; first
            | refine W56 ?_
            | (refine W57 (fun h => ?_) (fun h => ?_) <;> try (first | (exfalso; omega) | exact absurd rfl h | (exfalso; simp at h <;> omega)))
            | refine W58 ?_
            | (refine W59 ?_; first
              | refine W60 ?_
              | refine W61 ?_
              | refine W62 ?_
              | refine W63 ?_
              | refine W64 ?_
              | refine W65 ?_)
            | (refine W66 ?_; first
              | refine W67 ?_
              | refine W68 ?_
              | refine W69 ?_)
            | (refine W70 ?_; first
              | refine W71 ?_
              | refine W72 ?_
              | refine W73 ?_
              | refine W74 ?_
              | refine W69 ?_)
            | (refine W75 ?_; first
              | refine W76 ?_
              | refine W69 ?_)
            | refine W69 ?_)
          | refine W77 ?_
          | (refine W78 ?_; refine W79 ?_ ?_)
          | (refine W80 ?_; refine W81 ?_ ?_ ?_)))
      exact XQ.consLit [conN (two 4 (w64 (first p fn + I.a)) (w64 (first p fn + I.b)) 1)] (by rfl) (by rfl) .here rfl (fun C hC => by rw [List.mem_singleton.1 hC]; exact ⟨rfl, rfl⟩) (by simp [insnS, plus, minus, *]) (by (repeat' (first | exact Sels.nil | exact Sel.here | apply Sels.cons | apply Sel.there)); done)
end Go.Proofs.YtafochlcnjeanaaGreat
