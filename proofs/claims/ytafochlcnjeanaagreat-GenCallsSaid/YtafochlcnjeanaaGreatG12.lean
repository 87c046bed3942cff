/- Gen: the program's, walked. -/
import Derived.Test.YtafochlcnjeanaaGreatG9
import Derived.Test.YtafochlcnjeanaaGreatG11
namespace Go.Proofs.YtafochlcnjeanaaGreat
open Go X
set_option maxRecDepth 100000
attribute [local irreducible] XC XL XQ Tri blk Shows Sq Rd Mt inBlockX XS XG XG0 TkS AnS rowO
set_option maxHeartbeats 8000000 in
theorem gen14_tri {p : ProgM} (hp : p.OK) (hw : p.WF) : Tri Tryz.prog 14 [p.v] [] [progFP p] (ConsRet [] (genS p)) := by
  refine Tri.of Tryz.func14 rfl fun c => ?_
  have h200 := hp.few
  repeat' (first
    | (refine XL.is ?_; first
      | refine W1 ?_
      | (refine W2 (fun h => ?_) (fun h => ?_) <;> try (first | (exfalso; omega) | exact absurd rfl h | (exfalso; simp at h <;> omega)))
      | refine W3 ?_
      | (refine W4 ?_; first
        | refine W5 ?_
        | refine W6 ?_
        | refine W7 ?_
        | refine W8 ?_
        | refine W9 ?_
        | refine W10 ?_
        | refine W11 ?_)
      | (refine W12 ?_; first
        | refine W13 ?_
        | refine W14 ?_
        | refine W15 ?_
        | refine W16 ?_
        | refine W11 ?_)
      | (refine W17 ?_; first
        | refine W18 ?_
        | refine W19 ?_
        | refine W20 ?_
        | refine W21 ?_
        | refine W22 ?_
        | refine W11 ?_)
      | (refine W23 ?_; first
        | refine W24 ?_
        | refine W25 ?_)
      | (refine W26 ?_; first
        | refine W27 ?_
        | refine W28 ?_
        | refine W29 ?_
        | refine W30 ?_
        | refine W31 ?_)
      | refine XL.pure 1 (by rfl) ?_
      | refine W32 ?_
      | (refine W33 ?_; first
        | refine W34 ?_
        | refine W35 ?_
        | refine W36 ?_
        | refine W37 ?_
        | refine W38 ?_
        | refine W39 ?_
        | refine W40 ?_
        | refine W41 ?_
        | refine W42 ?_
        | refine W43 ?_
        | refine W44 ?_
        | refine W45 ?_
        | refine W46 ?_)
      | refine W47 ?_
      | refine W48 ?_
      | (refine W49 (fun b => ?_))
      | (refine W50 (fun b => ?_))
      | (refine W51 (fun b => ?_))
      | (refine W52 (fun b2 => ?_)))
    | (refine XC.is ?_; first
      | refine W82 ?_
      | refine W83 ?_
      | refine W84 ?_
      | refine W85 ?_
      | refine W86 ?_
      | refine W87 ?_
      | (refine W88 ?_; first
        | (refine W89 (fun h => ?_) (fun h => ?_) <;> try (first | (exfalso; omega) | exact absurd rfl h | (exfalso; simp at h <;> omega)))
        | refine W90 ?_
        | refine W91 ?_)
      | (refine W92 ?_; first
        | refine W93 ?_
        | (refine XC.planG (by kernel_rfl) (fun _ m h => h.drewn m) ?_; (conv => arg 5; reduce); refine XG0.of ?_; (conv => arg 5; reduce); (conv => arg 6; reduce); refine XG.go (by decide +kernel) ?_)))
    | (refine XQ.is ?_; first
      | refine W94 ?_
      | refine W95 ?_
      | (refine W96 ?_; refine W97 ?_)
      | refine W98 ?_
      | refine W99 ?_
      | refine W100 ?_
      | refine W101 ?_
      | refine W102 ?_
      | refine W103 ?_
      | refine W104 ?_
      | refine W105 ?_
      | refine W106 ?_
      | (refine W107 ?_; refine W108 ?_))
    | (refine XS.is ?_; first
      | (refine W53 ?_; refine W54 ?_)
      | (refine W55 ?_; first
        | refine W56 ?_
        | (refine W57 (fun h => ?_) (fun h => ?_) <;> try (first | (exfalso; omega) | exact absurd rfl h | (exfalso; simp at h <;> omega)))
        | refine W58 ?_
        | (refine W59 ?_; first
          | refine W60 ?_
          | refine W61 ?_
          | refine W62 ?_
          | refine W63 ?_
          | refine W64 ?_
          | refine W65 ?_)
        | (refine W66 ?_; first
          | refine W67 ?_
          | refine W68 ?_
          | refine W69 ?_)
        | (refine W70 ?_; first
          | refine W71 ?_
          | refine W72 ?_
          | refine W73 ?_
          | refine W74 ?_
          | refine W69 ?_)
        | (refine W75 ?_; first
          | refine W76 ?_
          | refine W69 ?_)
        | refine W69 ?_)
      | refine W77 ?_
      | (refine W78 ?_; refine W79 ?_ ?_)
      | (refine W80 ?_; refine W81 ?_ ?_ ?_)))
  refine XL.trir (vars_tri hw hp) (by rfl) (by rfl) (by rfl) (by rfl) (by rfl) (by rfl) (by rfl) (by (repeat' (first | exact Sels.nil | exact Sel.here | apply Sels.cons | apply Sel.there)); done) (by (repeat (first | exact sub0 | refine subC (by repeat (first | exact List.Mem.head _ | apply List.Mem.tail)) ?_)); done) ?_
  rintro fv -
  conv => arg 9; dsimp only [List.cons_append, List.nil_append]
  try conv => arg 7; dsimp only
  repeat' (first
    | (refine XL.is ?_; first
      | refine W1 ?_
      | (refine W2 (fun h => ?_) (fun h => ?_) <;> try (first | (exfalso; omega) | exact absurd rfl h | (exfalso; simp at h <;> omega)))
      | refine W3 ?_
      | (refine W4 ?_; first
        | refine W5 ?_
        | refine W6 ?_
        | refine W7 ?_
        | refine W8 ?_
        | refine W9 ?_
        | refine W10 ?_
        | refine W11 ?_)
      | (refine W12 ?_; first
        | refine W13 ?_
        | refine W14 ?_
        | refine W15 ?_
        | refine W16 ?_
        | refine W11 ?_)
      | (refine W17 ?_; first
        | refine W18 ?_
        | refine W19 ?_
        | refine W20 ?_
        | refine W21 ?_
        | refine W22 ?_
        | refine W11 ?_)
      | (refine W23 ?_; first
        | refine W24 ?_
        | refine W25 ?_)
      | (refine W26 ?_; first
        | refine W27 ?_
        | refine W28 ?_
        | refine W29 ?_
        | refine W30 ?_
        | refine W31 ?_)
      | refine XL.pure 1 (by rfl) ?_
      | refine W32 ?_
      | (refine W33 ?_; first
        | refine W34 ?_
        | refine W35 ?_
        | refine W36 ?_
        | refine W37 ?_
        | refine W38 ?_
        | refine W39 ?_
        | refine W40 ?_
        | refine W41 ?_
        | refine W42 ?_
        | refine W43 ?_
        | refine W44 ?_
        | refine W45 ?_
        | refine W46 ?_)
      | refine W47 ?_
      | refine W48 ?_
      | (refine W49 (fun b => ?_))
      | (refine W50 (fun b => ?_))
      | (refine W51 (fun b => ?_))
      | (refine W52 (fun b2 => ?_)))
    | (refine XC.is ?_; first
      | refine W82 ?_
      | refine W83 ?_
      | refine W84 ?_
      | refine W85 ?_
      | refine W86 ?_
      | refine W87 ?_
      | (refine W88 ?_; first
        | (refine W89 (fun h => ?_) (fun h => ?_) <;> try (first | (exfalso; omega) | exact absurd rfl h | (exfalso; simp at h <;> omega)))
        | refine W90 ?_
        | refine W91 ?_)
      | (refine W92 ?_; first
        | refine W93 ?_
        | (refine XC.planG (by kernel_rfl) (fun _ m h => h.drewn m) ?_; (conv => arg 5; reduce); refine XG0.of ?_; (conv => arg 5; reduce); (conv => arg 6; reduce); refine XG.go (by decide +kernel) ?_)))
    | (refine XQ.is ?_; first
      | refine W94 ?_
      | refine W95 ?_
      | (refine W96 ?_; refine W97 ?_)
      | refine W98 ?_
      | refine W99 ?_
      | refine W100 ?_
      | refine W101 ?_
      | refine W102 ?_
      | refine W103 ?_
      | refine W104 ?_
      | refine W105 ?_
      | refine W106 ?_
      | (refine W107 ?_; refine W108 ?_))
    | (refine XS.is ?_; first
      | (refine W53 ?_; refine W54 ?_)
      | (refine W55 ?_; first
        | refine W56 ?_
        | (refine W57 (fun h => ?_) (fun h => ?_) <;> try (first | (exfalso; omega) | exact absurd rfl h | (exfalso; simp at h <;> omega)))
        | refine W58 ?_
        | (refine W59 ?_; first
          | refine W60 ?_
          | refine W61 ?_
          | refine W62 ?_
          | refine W63 ?_
          | refine W64 ?_
          | refine W65 ?_)
        | (refine W66 ?_; first
          | refine W67 ?_
          | refine W68 ?_
          | refine W69 ?_)
        | (refine W70 ?_; first
          | refine W71 ?_
          | refine W72 ?_
          | refine W73 ?_
          | refine W74 ?_
          | refine W69 ?_)
        | (refine W75 ?_; first
          | refine W76 ?_
          | refine W69 ?_)
        | refine W69 ?_)
      | refine W77 ?_
      | (refine W78 ?_; refine W79 ?_ ?_)
      | (refine W80 ?_; refine W81 ?_ ?_ ?_)))
  refine XC.ex (fun w h => h.sliced .here) ?_
  rintro ⟨vp, vc⟩
  refine XC.pure (fun ev => ?_)
  dsimp only at ev
  refine XC.conv (fun w h => h.rowFreeze .here) ?_
  subst ev
  obtain ⟨bp, rfl⟩ : ∃ x, x = b := ⟨b, rfl⟩
  refine XC.loop (fun s : Nat × List ConM × Value => [(1, .pointer (some ⟨bp, 0, none⟩)), (3, .slice vp p.fnL.length vc), (19, p.fns), (20, .int .i64 (p.fnL.length : Int)), (5, s.2.2), (21, .int .i64 (s.1 : Int))])
    (fun s w => (s.1 ≤ p.fnL.length ∧ s.2.1.map (·.p) = parts (consF p) p.fnL s.1) ∧ St c [rowO 43 9 s.2.2 s.2.1.length (conC s.2.1), cel bp #[p.sites, p.fns, .int .i64 p.main] 25] [argsFP s.2.1, progFP p, fF p (.slice vp p.fnL.length vc)] w) (fun s => p.fnL.length - s.1) (0, [], .slice none 0 0) (by (repeat (first | exact fits_nil | refine fits_cons (by rfl) ?_)); done)
    (fun w h => ⟨⟨by omega, by simp [parts_zero]⟩, ((h.nilRow 43 9).argsNil).less (by (repeat' (first | exact Sels.nil | exact Sel.here | apply Sels.cons | apply Sel.there)); done) (by (repeat (first | exact sub0 | refine subC (by repeat (first | exact List.Mem.head _ | apply List.Mem.tail)) ?_)); done)⟩) ?_
  rintro ⟨i, l, v⟩
  dsimp only
  refine XC.pure (fun ⟨hi, hl⟩ => ?_)
  by_cases hlt : i < p.fnL.length
  · obtain ⟨F, hF, mF⟩ := get_of_lt hlt
    have aF := fn_at hF
    have hcl := hp.code F mF
    have o1 := hw.oneF F mF
    repeat' (first
      | (refine XL.is ?_; first
        | refine W1 ?_
        | (refine W2 (fun h => ?_) (fun h => ?_) <;> try (first | (exfalso; omega) | exact absurd rfl h | (exfalso; simp at h <;> omega)))
        | refine W3 ?_
        | (refine W4 ?_; first
          | refine W5 ?_
          | refine W6 ?_
          | refine W7 ?_
          | refine W8 ?_
          | refine W9 ?_
          | refine W10 ?_
          | refine W11 ?_)
        | (refine W12 ?_; first
          | refine W13 ?_
          | refine W14 ?_
          | refine W15 ?_
          | refine W16 ?_
          | refine W11 ?_)
        | (refine W17 ?_; first
          | refine W18 ?_
          | refine W19 ?_
          | refine W20 ?_
          | refine W21 ?_
          | refine W22 ?_
          | refine W11 ?_)
        | (refine W23 ?_; first
          | refine W24 ?_
          | refine W25 ?_)
        | (refine W26 ?_; first
          | refine W27 ?_
          | refine W28 ?_
          | refine W29 ?_
          | refine W30 ?_
          | refine W31 ?_)
        | refine XL.pure 1 (by rfl) ?_
        | refine W32 ?_
        | (refine W33 ?_; first
          | refine W34 ?_
          | refine W35 ?_
          | refine W36 ?_
          | refine W37 ?_
          | refine W38 ?_
          | refine W39 ?_
          | refine W40 ?_
          | refine W41 ?_
          | refine W42 ?_
          | refine W43 ?_
          | refine W44 ?_
          | refine W45 ?_
          | refine W46 ?_)
        | refine W47 ?_
        | refine W48 ?_
        | (refine W49 (fun b => ?_))
        | (refine W50 (fun b => ?_))
        | (refine W51 (fun b => ?_))
        | (refine W52 (fun b2 => ?_)))
      | (refine XC.is ?_; first
        | refine W82 ?_
        | refine W83 ?_
        | refine W84 ?_
        | refine W85 ?_
        | refine W86 ?_
        | refine W87 ?_
        | (refine W88 ?_; first
          | (refine W89 (fun h => ?_) (fun h => ?_) <;> try (first | (exfalso; omega) | exact absurd rfl h | (exfalso; simp at h <;> omega)))
          | refine W90 ?_
          | refine W91 ?_)
        | (refine W92 ?_; first
          | refine W93 ?_
          | (refine XC.planG (by kernel_rfl) (fun _ m h => h.drewn m) ?_; (conv => arg 5; reduce); refine XG0.of ?_; (conv => arg 5; reduce); (conv => arg 6; reduce); refine XG.go (by decide +kernel) ?_)))
      | (refine XQ.is ?_; first
        | refine W94 ?_
        | refine W95 ?_
        | (refine W96 ?_; refine W97 ?_)
        | refine W98 ?_
        | refine W99 ?_
        | refine W100 ?_
        | refine W101 ?_
        | refine W102 ?_
        | refine W103 ?_
        | refine W104 ?_
        | refine W105 ?_
        | refine W106 ?_
        | (refine W107 ?_; refine W108 ?_))
      | (refine XS.is ?_; first
        | (refine W53 ?_; refine W54 ?_)
        | (refine W55 ?_; first
          | refine W56 ?_
          | (refine W57 (fun h => ?_) (fun h => ?_) <;> try (first | (exfalso; omega) | exact absurd rfl h | (exfalso; simp at h <;> omega)))
          | refine W58 ?_
          | (refine W59 ?_; first
            | refine W60 ?_
            | refine W61 ?_
            | refine W62 ?_
            | refine W63 ?_
            | refine W64 ?_
            | refine W65 ?_)
          | (refine W66 ?_; first
            | refine W67 ?_
            | refine W68 ?_
            | refine W69 ?_)
          | (refine W70 ?_; first
            | refine W71 ?_
            | refine W72 ?_
            | refine W73 ?_
            | refine W74 ?_
            | refine W69 ?_)
          | (refine W75 ?_; first
            | refine W76 ?_
            | refine W69 ?_)
          | refine W69 ?_)
        | refine W77 ?_
        | (refine W78 ?_; refine W79 ?_ ?_)
        | (refine W80 ?_; refine W81 ?_ ?_ ?_)))
    rename_i bf
    obtain ⟨bm, rfl⟩ : ∃ x, x = b := ⟨b, rfl⟩
    refine XC.loop (fun s : Nat × List ConM × Value => [(1, .pointer (some ⟨bp, 0, none⟩)), (3, .slice vp p.fnL.length vc), (19, p.fns), (20, .int .i64 (p.fnL.length : Int)), (21, .int .i64 (i : Int)), (6, .int .i64 (i : Int)), (8, .pointer (some ⟨bm, 0, none⟩)),
        (32, F.code), (33, .int .i64 (F.codeL.length : Int)), (5, s.2.2), (34, .int .i64 (s.1 : Int))])
      (fun s w => (s.1 ≤ F.codeL.length ∧ s.2.1.map (·.p) = parts (consF p) p.fnL i ++ parts (consI p i) F.codeL s.1) ∧
        St c [rowO 43 9 s.2.2 s.2.1.length (conC s.2.1), mkB p bm (.slice vp p.fnL.length vc) i, cel bp #[p.sites, p.fns, .int .i64 p.main] 25] [argsFP s.2.1, progFP p, fF p (.slice vp p.fnL.length vc)] w)
      (fun s => F.codeL.length - s.1) (0, l, v) (by (repeat (first | exact fits_nil | refine fits_cons (by rfl) ?_)); done) (fun w h => ⟨⟨by omega, by simp [parts_zero, hl]⟩, h.less (by (repeat' (first | exact Sels.nil | exact Sel.here | apply Sels.cons | apply Sel.there)); done) (by (repeat (first | exact sub0 | refine subC (by repeat (first | exact List.Mem.head _ | apply List.Mem.tail)) ?_)); done)⟩) ?_
    rintro ⟨j, l, v⟩
    dsimp only
    refine XC.pure (fun ⟨hj, hl⟩ => ?_)
    by_cases hlt2 : j < F.codeL.length
    · obtain ⟨I, hI, mI⟩ := get_of_lt hlt2
      have aI := code_at hI
      have o2 := hw.oneI F mF I mI
      have hok := hp.insn F mF I mI
      repeat' (first
        | (refine XL.is ?_; first
          | refine W1 ?_
          | (refine W2 (fun h => ?_) (fun h => ?_) <;> try (first | (exfalso; omega) | exact absurd rfl h | (exfalso; simp at h <;> omega)))
          | refine W3 ?_
          | (refine W4 ?_; first
            | refine W5 ?_
            | refine W6 ?_
            | refine W7 ?_
            | refine W8 ?_
            | refine W9 ?_
            | refine W10 ?_
            | refine W11 ?_)
          | (refine W12 ?_; first
            | refine W13 ?_
            | refine W14 ?_
            | refine W15 ?_
            | refine W16 ?_
            | refine W11 ?_)
          | (refine W17 ?_; first
            | refine W18 ?_
            | refine W19 ?_
            | refine W20 ?_
            | refine W21 ?_
            | refine W22 ?_
            | refine W11 ?_)
          | (refine W23 ?_; first
            | refine W24 ?_
            | refine W25 ?_)
          | (refine W26 ?_; first
            | refine W27 ?_
            | refine W28 ?_
            | refine W29 ?_
            | refine W30 ?_
            | refine W31 ?_)
          | refine XL.pure 1 (by rfl) ?_
          | refine W32 ?_
          | (refine W33 ?_; first
            | refine W34 ?_
            | refine W35 ?_
            | refine W36 ?_
            | refine W37 ?_
            | refine W38 ?_
            | refine W39 ?_
            | refine W40 ?_
            | refine W41 ?_
            | refine W42 ?_
            | refine W43 ?_
            | refine W44 ?_
            | refine W45 ?_
            | refine W46 ?_)
          | refine W47 ?_
          | refine W48 ?_
          | (refine W49 (fun b => ?_))
          | (refine W50 (fun b => ?_))
          | (refine W51 (fun b => ?_))
          | (refine W52 (fun b2 => ?_)))
        | (refine XC.is ?_; first
          | refine W82 ?_
          | refine W83 ?_
          | refine W84 ?_
          | refine W85 ?_
          | refine W86 ?_
          | refine W87 ?_
          | (refine W88 ?_; first
            | (refine W89 (fun h => ?_) (fun h => ?_) <;> try (first | (exfalso; omega) | exact absurd rfl h | (exfalso; simp at h <;> omega)))
            | refine W90 ?_
            | refine W91 ?_)
          | (refine W92 ?_; first
            | refine W93 ?_
            | (refine XC.planG (by kernel_rfl) (fun _ m h => h.drewn m) ?_; (conv => arg 5; reduce); refine XG0.of ?_; (conv => arg 5; reduce); (conv => arg 6; reduce); refine XG.go (by decide +kernel) ?_)))
        | (refine XQ.is ?_; first
          | refine W94 ?_
          | refine W95 ?_
          | (refine W96 ?_; refine W97 ?_)
          | refine W98 ?_
          | refine W99 ?_
          | refine W100 ?_
          | refine W101 ?_
          | refine W102 ?_
          | refine W103 ?_
          | refine W104 ?_
          | refine W105 ?_
          | refine W106 ?_
          | (refine W107 ?_; refine W108 ?_))
        | (refine XS.is ?_; first
          | (refine W53 ?_; refine W54 ?_)
          | (refine W55 ?_; first
            | refine W56 ?_
            | (refine W57 (fun h => ?_) (fun h => ?_) <;> try (first | (exfalso; omega) | exact absurd rfl h | (exfalso; simp at h <;> omega)))
            | refine W58 ?_
            | (refine W59 ?_; first
              | refine W60 ?_
              | refine W61 ?_
              | refine W62 ?_
              | refine W63 ?_
              | refine W64 ?_
              | refine W65 ?_)
            | (refine W66 ?_; first
              | refine W67 ?_
              | refine W68 ?_
              | refine W69 ?_)
            | (refine W70 ?_; first
              | refine W71 ?_
              | refine W72 ?_
              | refine W73 ?_
              | refine W74 ?_
              | refine W69 ?_)
            | (refine W75 ?_; first
              | refine W76 ?_
              | refine W69 ?_)
            | refine W69 ?_)
          | refine W77 ?_
          | (refine W78 ?_; refine W79 ?_ ?_)
          | (refine W80 ?_; refine W81 ?_ ?_ ?_)))
      obtain ⟨bi, rfl⟩ : ∃ x, x = b := ⟨b, rfl⟩
      refine XL.trir (insn20_tri hp hw mF mI hlt hok) (by rfl) (by rfl) (by rfl) (by rfl) (by rfl) (by rfl) (by rfl) (by (repeat' (first | exact Sels.nil | exact Sel.here | apply Sels.cons | apply Sel.there)); done) (by (repeat (first | exact sub0 | refine subC (by repeat (first | exact List.Mem.head _ | apply List.Mem.tail)) ?_)); done) ?_
      rintro ⟨u, l1⟩ hl1
      dsimp only at hl1
      conv => arg 9; dsimp only [List.cons_append, List.nil_append]
      try conv => arg 7; dsimp only
      repeat' (first
        | (refine XL.is ?_; first
          | refine W1 ?_
          | (refine W2 (fun h => ?_) (fun h => ?_) <;> try (first | (exfalso; omega) | exact absurd rfl h | (exfalso; simp at h <;> omega)))
          | refine W3 ?_
          | (refine W4 ?_; first
            | refine W5 ?_
            | refine W6 ?_
            | refine W7 ?_
            | refine W8 ?_
            | refine W9 ?_
            | refine W10 ?_
            | refine W11 ?_)
          | (refine W12 ?_; first
            | refine W13 ?_
            | refine W14 ?_
            | refine W15 ?_
            | refine W16 ?_
            | refine W11 ?_)
          | (refine W17 ?_; first
            | refine W18 ?_
            | refine W19 ?_
            | refine W20 ?_
            | refine W21 ?_
            | refine W22 ?_
            | refine W11 ?_)
          | (refine W23 ?_; first
            | refine W24 ?_
            | refine W25 ?_)
          | (refine W26 ?_; first
            | refine W27 ?_
            | refine W28 ?_
            | refine W29 ?_
            | refine W30 ?_
            | refine W31 ?_)
          | refine XL.pure 1 (by rfl) ?_
          | refine W32 ?_
          | (refine W33 ?_; first
            | refine W34 ?_
            | refine W35 ?_
            | refine W36 ?_
            | refine W37 ?_
            | refine W38 ?_
            | refine W39 ?_
            | refine W40 ?_
            | refine W41 ?_
            | refine W42 ?_
            | refine W43 ?_
            | refine W44 ?_
            | refine W45 ?_
            | refine W46 ?_)
          | refine W47 ?_
          | refine W48 ?_
          | (refine W49 (fun b => ?_))
          | (refine W50 (fun b => ?_))
          | (refine W51 (fun b => ?_))
          | (refine W52 (fun b2 => ?_)))
        | (refine XC.is ?_; first
          | refine W82 ?_
          | refine W83 ?_
          | refine W84 ?_
          | refine W85 ?_
          | refine W86 ?_
          | refine W87 ?_
          | (refine W88 ?_; first
            | (refine W89 (fun h => ?_) (fun h => ?_) <;> try (first | (exfalso; omega) | exact absurd rfl h | (exfalso; simp at h <;> omega)))
            | refine W90 ?_
            | refine W91 ?_)
          | (refine W92 ?_; first
            | refine W93 ?_
            | (refine XC.planG (by kernel_rfl) (fun _ m h => h.drewn m) ?_; (conv => arg 5; reduce); refine XG0.of ?_; (conv => arg 5; reduce); (conv => arg 6; reduce); refine XG.go (by decide +kernel) ?_)))
        | (refine XQ.is ?_; first
          | refine W94 ?_
          | refine W95 ?_
          | (refine W96 ?_; refine W97 ?_)
          | refine W98 ?_
          | refine W99 ?_
          | refine W100 ?_
          | refine W101 ?_
          | refine W102 ?_
          | refine W103 ?_
          | refine W104 ?_
          | refine W105 ?_
          | refine W106 ?_
          | (refine W107 ?_; refine W108 ?_))
        | (refine XS.is ?_; first
          | (refine W53 ?_; refine W54 ?_)
          | (refine W55 ?_; first
            | refine W56 ?_
            | (refine W57 (fun h => ?_) (fun h => ?_) <;> try (first | (exfalso; omega) | exact absurd rfl h | (exfalso; simp at h <;> omega)))
            | refine W58 ?_
            | (refine W59 ?_; first
              | refine W60 ?_
              | refine W61 ?_
              | refine W62 ?_
              | refine W63 ?_
              | refine W64 ?_
              | refine W65 ?_)
            | (refine W66 ?_; first
              | refine W67 ?_
              | refine W68 ?_
              | refine W69 ?_)
            | (refine W70 ?_; first
              | refine W71 ?_
              | refine W72 ?_
              | refine W73 ?_
              | refine W74 ?_
              | refine W69 ?_)
            | (refine W75 ?_; first
              | refine W76 ?_
              | refine W69 ?_)
            | refine W69 ?_)
          | refine W77 ?_
          | (refine W78 ?_; refine W79 ?_ ?_)
          | (refine W80 ?_; refine W81 ?_ ?_ ?_)))
      refine XC.loop (fun s : Nat × List ConM × Value => [(1, .pointer (some ⟨bp, 0, none⟩)), (3, .slice vp p.fnL.length vc), (19, p.fns), (20, .int .i64 (p.fnL.length : Int)), (21, .int .i64 (i : Int)), (6, .int .i64 (i : Int)), (8, .pointer (some ⟨bm, 0, none⟩)),
          (32, F.code), (33, .int .i64 (F.codeL.length : Int)), (34, .int .i64 (j : Int)), (9, .int .i64 (j : Int)), (41, u), (42, .int .i64 (l1.length : Int)), (5, s.2.2), (43, .int .i64 (s.1 : Int))])
        (fun s w => (s.1 ≤ l1.length ∧ s.2.1.map (·.p) = parts (consF p) p.fnL i ++ parts (consI p i) F.codeL j ++ (consI p i j I).take s.1) ∧
          St c [rowO 43 9 s.2.2 s.2.1.length (conC s.2.1), mkB p bm (.slice vp p.fnL.length vc) i, cel bp #[p.sites, p.fns, .int .i64 p.main] 25] [argsFP s.2.1, consFP u l1, progFP p, fF p (.slice vp p.fnL.length vc)] w)
        (fun s => l1.length - s.1) (0, l, v) (by (repeat (first | exact fits_nil | refine fits_cons (by rfl) ?_)); done) (fun w h => ⟨⟨by omega, by simp [hl]⟩, h.less (by (repeat' (first | exact Sels.nil | exact Sel.here | apply Sels.cons | apply Sel.there)); done) (by (repeat (first | exact sub0 | refine subC (by repeat (first | exact List.Mem.head _ | apply List.Mem.tail)) ?_)); done)⟩) ?_
      rintro ⟨k, l, v⟩
      dsimp only
      refine XC.pure (fun ⟨hk, hl⟩ => ?_)
      have hlen1 : l1.length = (insnS p i I).length := by rw [← hl1, List.length_map]
      have hlen3 : l1.length ≤ 4001 := by rw [hlen1]; exact insnS_len hp hok
      have hlen2 : (consI p i j I).length = l1.length := by rw [consI, List.length_map, hlen1]
      by_cases hlt3 : k < l1.length
      · obtain ⟨C, hC, mC⟩ := get_of_lt hlt3
        have aC := con_at hC
        have hP : (insnS p i I)[k]? = some C.p := by rw [← hl1, List.getElem?_map, hC]; rfl
        have hbig : l.length ≤ 10000000000 := by
          have e1 := congrArg List.length hl
          rw [List.length_map, List.length_append, List.length_append, List.length_take] at e1
          have e2 := parts_len hp (Nat.le_of_lt hlt)
          have e3 := partsF_len hp (fn := i) mF (Nat.le_of_lt hlt2)
          have e4 := insnS_len hp (fn := i) hok
          omega
        refine XC.ex (B := fun (x : Option Addr × Nat) w => C.args = .slice x.1 C.p.args.length x.2 ∧ St c _ _ w) (fun w h => by
          obtain ⟨q, cap, e⟩ := (h.conArgs mC (.tail _ (List.Mem.head _))).len
          exact ⟨(q, cap), e, h⟩) ?_
        rintro ⟨qa, qc⟩
        refine XC.pure (fun ea => ?_)
        have o3 : onesL C.cells = true := by simp [onesL, ConM.cells, ea, Value.oneCell']
        repeat' (first
          | (refine XL.is ?_; first
            | refine W1 ?_
            | (refine W2 (fun h => ?_) (fun h => ?_) <;> try (first | (exfalso; omega) | exact absurd rfl h | (exfalso; simp at h <;> omega)))
            | refine W3 ?_
            | (refine W4 ?_; first
              | refine W5 ?_
              | refine W6 ?_
              | refine W7 ?_
              | refine W8 ?_
              | refine W9 ?_
              | refine W10 ?_
              | refine W11 ?_)
            | (refine W12 ?_; first
              | refine W13 ?_
              | refine W14 ?_
              | refine W15 ?_
              | refine W16 ?_
              | refine W11 ?_)
            | (refine W17 ?_; first
              | refine W18 ?_
              | refine W19 ?_
              | refine W20 ?_
              | refine W21 ?_
              | refine W22 ?_
              | refine W11 ?_)
            | (refine W23 ?_; first
              | refine W24 ?_
              | refine W25 ?_)
            | (refine W26 ?_; first
              | refine W27 ?_
              | refine W28 ?_
              | refine W29 ?_
              | refine W30 ?_
              | refine W31 ?_)
            | refine XL.pure 1 (by rfl) ?_
            | refine W32 ?_
            | (refine W33 ?_; first
              | refine W34 ?_
              | refine W35 ?_
              | refine W36 ?_
              | refine W37 ?_
              | refine W38 ?_
              | refine W39 ?_
              | refine W40 ?_
              | refine W41 ?_
              | refine W42 ?_
              | refine W43 ?_
              | refine W44 ?_
              | refine W45 ?_
              | refine W46 ?_)
            | refine W47 ?_
            | refine W48 ?_
            | (refine W49 (fun b => ?_))
            | (refine W50 (fun b => ?_))
            | (refine W51 (fun b => ?_))
            | (refine W52 (fun b2 => ?_)))
          | (refine XC.is ?_; first
            | refine W82 ?_
            | refine W83 ?_
            | refine W84 ?_
            | refine W85 ?_
            | refine W86 ?_
            | refine W87 ?_
            | (refine W88 ?_; first
              | (refine W89 (fun h => ?_) (fun h => ?_) <;> try (first | (exfalso; omega) | exact absurd rfl h | (exfalso; simp at h <;> omega)))
              | refine W90 ?_
              | refine W91 ?_)
            | (refine W92 ?_; first
              | refine W93 ?_
              | (refine XC.planG (by kernel_rfl) (fun _ m h => h.drewn m) ?_; (conv => arg 5; reduce); refine XG0.of ?_; (conv => arg 5; reduce); (conv => arg 6; reduce); refine XG.go (by decide +kernel) ?_)))
          | (refine XQ.is ?_; first
            | refine W94 ?_
            | refine W95 ?_
            | (refine W96 ?_; refine W97 ?_)
            | refine W98 ?_
            | refine W99 ?_
            | refine W100 ?_
            | refine W101 ?_
            | refine W102 ?_
            | refine W103 ?_
            | refine W104 ?_
            | refine W105 ?_
            | refine W106 ?_
            | (refine W107 ?_; refine W108 ?_))
          | (refine XS.is ?_; first
            | (refine W53 ?_; refine W54 ?_)
            | (refine W55 ?_; first
              | refine W56 ?_
              | (refine W57 (fun h => ?_) (fun h => ?_) <;> try (first | (exfalso; omega) | exact absurd rfl h | (exfalso; simp at h <;> omega)))
              | refine W58 ?_
              | (refine W59 ?_; first
                | refine W60 ?_
                | refine W61 ?_
                | refine W62 ?_
                | refine W63 ?_
                | refine W64 ?_
                | refine W65 ?_)
              | (refine W66 ?_; first
                | refine W67 ?_
                | refine W68 ?_
                | refine W69 ?_)
              | (refine W70 ?_; first
                | refine W71 ?_
                | refine W72 ?_
                | refine W73 ?_
                | refine W74 ?_
                | refine W69 ?_)
              | (refine W75 ?_; first
                | refine W76 ?_
                | refine W69 ?_)
              | refine W69 ?_)
            | refine W77 ?_
            | (refine W78 ?_; refine W79 ?_ ?_)
            | (refine W80 ?_; refine W81 ?_ ?_ ?_)))
        refine XL.appendS (us := ConM.cells ⟨place i j C.p, C.args⟩) (by rfl) (by rfl) (by rfl) (by rfl) (by rfl) (by rfl) (by rfl) (by repeat (first | exact Sel.here | apply Sel.there)) (by repeat (first | exact Sel.here | apply Sel.there)) ⟨_, (by repeat (first | exact Sel.here | apply Sel.there))⟩ (by rfl) (Nat.le_refl _) rfl (by simp [onesL, ConM.cells, ea, Value.oneCell']) (by rfl) (by omega) rfl (by rw [conC_app]) (fun v' => ?_)
        refine XL.conv (fun w h => h.argsOne (C := ⟨place i j C.p, C.args⟩) (List.Mem.head _) fun O hΦ => hΦ _ (.tail _ (List.Mem.head _)) C.fp (.tail _ (List.mem_map.2 ⟨C, mC, rfl⟩))) ?_
        repeat' (first
          | (refine XL.is ?_; first
            | refine W1 ?_
            | (refine W2 (fun h => ?_) (fun h => ?_) <;> try (first | (exfalso; omega) | exact absurd rfl h | (exfalso; simp at h <;> omega)))
            | refine W3 ?_
            | (refine W4 ?_; first
              | refine W5 ?_
              | refine W6 ?_
              | refine W7 ?_
              | refine W8 ?_
              | refine W9 ?_
              | refine W10 ?_
              | refine W11 ?_)
            | (refine W12 ?_; first
              | refine W13 ?_
              | refine W14 ?_
              | refine W15 ?_
              | refine W16 ?_
              | refine W11 ?_)
            | (refine W17 ?_; first
              | refine W18 ?_
              | refine W19 ?_
              | refine W20 ?_
              | refine W21 ?_
              | refine W22 ?_
              | refine W11 ?_)
            | (refine W23 ?_; first
              | refine W24 ?_
              | refine W25 ?_)
            | (refine W26 ?_; first
              | refine W27 ?_
              | refine W28 ?_
              | refine W29 ?_
              | refine W30 ?_
              | refine W31 ?_)
            | refine XL.pure 1 (by rfl) ?_
            | refine W32 ?_
            | (refine W33 ?_; first
              | refine W34 ?_
              | refine W35 ?_
              | refine W36 ?_
              | refine W37 ?_
              | refine W38 ?_
              | refine W39 ?_
              | refine W40 ?_
              | refine W41 ?_
              | refine W42 ?_
              | refine W43 ?_
              | refine W44 ?_
              | refine W45 ?_
              | refine W46 ?_)
            | refine W47 ?_
            | refine W48 ?_
            | (refine W49 (fun b => ?_))
            | (refine W50 (fun b => ?_))
            | (refine W51 (fun b => ?_))
            | (refine W52 (fun b2 => ?_)))
          | (refine XC.is ?_; first
            | refine W82 ?_
            | refine W83 ?_
            | refine W84 ?_
            | refine W85 ?_
            | refine W86 ?_
            | refine W87 ?_
            | (refine W88 ?_; first
              | (refine W89 (fun h => ?_) (fun h => ?_) <;> try (first | (exfalso; omega) | exact absurd rfl h | (exfalso; simp at h <;> omega)))
              | refine W90 ?_
              | refine W91 ?_)
            | (refine W92 ?_; first
              | refine W93 ?_
              | (refine XC.planG (by kernel_rfl) (fun _ m h => h.drewn m) ?_; (conv => arg 5; reduce); refine XG0.of ?_; (conv => arg 5; reduce); (conv => arg 6; reduce); refine XG.go (by decide +kernel) ?_)))
          | (refine XQ.is ?_; first
            | refine W94 ?_
            | refine W95 ?_
            | (refine W96 ?_; refine W97 ?_)
            | refine W98 ?_
            | refine W99 ?_
            | refine W100 ?_
            | refine W101 ?_
            | refine W102 ?_
            | refine W103 ?_
            | refine W104 ?_
            | refine W105 ?_
            | refine W106 ?_
            | (refine W107 ?_; refine W108 ?_))
          | (refine XS.is ?_; first
            | (refine W53 ?_; refine W54 ?_)
            | (refine W55 ?_; first
              | refine W56 ?_
              | (refine W57 (fun h => ?_) (fun h => ?_) <;> try (first | (exfalso; omega) | exact absurd rfl h | (exfalso; simp at h <;> omega)))
              | refine W58 ?_
              | (refine W59 ?_; first
                | refine W60 ?_
                | refine W61 ?_
                | refine W62 ?_
                | refine W63 ?_
                | refine W64 ?_
                | refine W65 ?_)
              | (refine W66 ?_; first
                | refine W67 ?_
                | refine W68 ?_
                | refine W69 ?_)
              | (refine W70 ?_; first
                | refine W71 ?_
                | refine W72 ?_
                | refine W73 ?_
                | refine W74 ?_
                | refine W69 ?_)
              | (refine W75 ?_; first
                | refine W76 ?_
                | refine W69 ?_)
              | refine W69 ?_)
            | refine W77 ?_
            | (refine W78 ?_; refine W79 ?_ ?_)
            | (refine W80 ?_; refine W81 ?_ ?_ ?_)))
        refine XQ.round (k + 1, l ++ [⟨place i j C.p, C.args⟩], v') (by (repeat (first | exact fits_nil | refine fits_cons (by rfl) ?_)); done) (fun w hw => ⟨⟨by dsimp only; omega, ?_⟩, ?_⟩) (by dsimp only; omega)
        · dsimp only
          rw [List.map_append, hl, consI_at hP, List.append_assoc]
          rfl
        · dsimp only
          rw [List.length_append]
          exact hw.less (by (repeat' (first | exact Sels.nil | exact Sel.here | apply Sels.cons | apply Sel.there)); done) (by (repeat (first | exact sub0 | refine subC (by repeat (first | exact List.Mem.head _ | apply List.Mem.tail)) ?_)); done)
      have e : k = l1.length := by omega
      subst e
      repeat' (first
        | (refine XL.is ?_; first
          | refine W1 ?_
          | (refine W2 (fun h => ?_) (fun h => ?_) <;> try (first | (exfalso; omega) | exact absurd rfl h | (exfalso; simp at h <;> omega)))
          | refine W3 ?_
          | (refine W4 ?_; first
            | refine W5 ?_
            | refine W6 ?_
            | refine W7 ?_
            | refine W8 ?_
            | refine W9 ?_
            | refine W10 ?_
            | refine W11 ?_)
          | (refine W12 ?_; first
            | refine W13 ?_
            | refine W14 ?_
            | refine W15 ?_
            | refine W16 ?_
            | refine W11 ?_)
          | (refine W17 ?_; first
            | refine W18 ?_
            | refine W19 ?_
            | refine W20 ?_
            | refine W21 ?_
            | refine W22 ?_
            | refine W11 ?_)
          | (refine W23 ?_; first
            | refine W24 ?_
            | refine W25 ?_)
          | (refine W26 ?_; first
            | refine W27 ?_
            | refine W28 ?_
            | refine W29 ?_
            | refine W30 ?_
            | refine W31 ?_)
          | refine XL.pure 1 (by rfl) ?_
          | refine W32 ?_
          | (refine W33 ?_; first
            | refine W34 ?_
            | refine W35 ?_
            | refine W36 ?_
            | refine W37 ?_
            | refine W38 ?_
            | refine W39 ?_
            | refine W40 ?_
            | refine W41 ?_
            | refine W42 ?_
            | refine W43 ?_
            | refine W44 ?_
            | refine W45 ?_
            | refine W46 ?_)
          | refine W47 ?_
          | refine W48 ?_
          | (refine W49 (fun b => ?_))
          | (refine W50 (fun b => ?_))
          | (refine W51 (fun b => ?_))
          | (refine W52 (fun b2 => ?_)))
        | (refine XC.is ?_; first
          | refine W82 ?_
          | refine W83 ?_
          | refine W84 ?_
          | refine W85 ?_
          | refine W86 ?_
          | refine W87 ?_
          | (refine W88 ?_; first
            | (refine W89 (fun h => ?_) (fun h => ?_) <;> try (first | (exfalso; omega) | exact absurd rfl h | (exfalso; simp at h <;> omega)))
            | refine W90 ?_
            | refine W91 ?_)
          | (refine W92 ?_; first
            | refine W93 ?_
            | (refine XC.planG (by kernel_rfl) (fun _ m h => h.drewn m) ?_; (conv => arg 5; reduce); refine XG0.of ?_; (conv => arg 5; reduce); (conv => arg 6; reduce); refine XG.go (by decide +kernel) ?_)))
        | (refine XQ.is ?_; first
          | refine W94 ?_
          | refine W95 ?_
          | (refine W96 ?_; refine W97 ?_)
          | refine W98 ?_
          | refine W99 ?_
          | refine W100 ?_
          | refine W101 ?_
          | refine W102 ?_
          | refine W103 ?_
          | refine W104 ?_
          | refine W105 ?_
          | refine W106 ?_
          | (refine W107 ?_; refine W108 ?_))
        | (refine XS.is ?_; first
          | (refine W53 ?_; refine W54 ?_)
          | (refine W55 ?_; first
            | refine W56 ?_
            | (refine W57 (fun h => ?_) (fun h => ?_) <;> try (first | (exfalso; omega) | exact absurd rfl h | (exfalso; simp at h <;> omega)))
            | refine W58 ?_
            | (refine W59 ?_; first
              | refine W60 ?_
              | refine W61 ?_
              | refine W62 ?_
              | refine W63 ?_
              | refine W64 ?_
              | refine W65 ?_)
            | (refine W66 ?_; first
              | refine W67 ?_
              | refine W68 ?_
              | refine W69 ?_)
            | (refine W70 ?_; first
              | refine W71 ?_
              | refine W72 ?_
              | refine W73 ?_
              | refine W74 ?_
              | refine W69 ?_)
            | (refine W75 ?_; first
              | refine W76 ?_
              | refine W69 ?_)
            | refine W69 ?_)
          | refine W77 ?_
          | (refine W78 ?_; refine W79 ?_ ?_)
          | (refine W80 ?_; refine W81 ?_ ?_ ?_)))
      refine XQ.round (j + 1, l, v) (by (repeat (first | exact fits_nil | refine fits_cons (by rfl) ?_)); done) (fun w hw => ⟨⟨by dsimp only; omega, ?_⟩, hw.less (by (repeat' (first | exact Sels.nil | exact Sel.here | apply Sels.cons | apply Sel.there)); done) (by (repeat (first | exact sub0 | refine subC (by repeat (first | exact List.Mem.head _ | apply List.Mem.tail)) ?_)); done)⟩) (by dsimp only; omega)
      dsimp only
      rw [hl, parts_succ hI, ← hlen2, List.take_length, List.append_assoc]
    have e : j = F.codeL.length := by omega
    subst e
    repeat' (first
      | (refine XL.is ?_; first
        | refine W1 ?_
        | (refine W2 (fun h => ?_) (fun h => ?_) <;> try (first | (exfalso; omega) | exact absurd rfl h | (exfalso; simp at h <;> omega)))
        | refine W3 ?_
        | (refine W4 ?_; first
          | refine W5 ?_
          | refine W6 ?_
          | refine W7 ?_
          | refine W8 ?_
          | refine W9 ?_
          | refine W10 ?_
          | refine W11 ?_)
        | (refine W12 ?_; first
          | refine W13 ?_
          | refine W14 ?_
          | refine W15 ?_
          | refine W16 ?_
          | refine W11 ?_)
        | (refine W17 ?_; first
          | refine W18 ?_
          | refine W19 ?_
          | refine W20 ?_
          | refine W21 ?_
          | refine W22 ?_
          | refine W11 ?_)
        | (refine W23 ?_; first
          | refine W24 ?_
          | refine W25 ?_)
        | (refine W26 ?_; first
          | refine W27 ?_
          | refine W28 ?_
          | refine W29 ?_
          | refine W30 ?_
          | refine W31 ?_)
        | refine XL.pure 1 (by rfl) ?_
        | refine W32 ?_
        | (refine W33 ?_; first
          | refine W34 ?_
          | refine W35 ?_
          | refine W36 ?_
          | refine W37 ?_
          | refine W38 ?_
          | refine W39 ?_
          | refine W40 ?_
          | refine W41 ?_
          | refine W42 ?_
          | refine W43 ?_
          | refine W44 ?_
          | refine W45 ?_
          | refine W46 ?_)
        | refine W47 ?_
        | refine W48 ?_
        | (refine W49 (fun b => ?_))
        | (refine W50 (fun b => ?_))
        | (refine W51 (fun b => ?_))
        | (refine W52 (fun b2 => ?_)))
      | (refine XC.is ?_; first
        | refine W82 ?_
        | refine W83 ?_
        | refine W84 ?_
        | refine W85 ?_
        | refine W86 ?_
        | refine W87 ?_
        | (refine W88 ?_; first
          | (refine W89 (fun h => ?_) (fun h => ?_) <;> try (first | (exfalso; omega) | exact absurd rfl h | (exfalso; simp at h <;> omega)))
          | refine W90 ?_
          | refine W91 ?_)
        | (refine W92 ?_; first
          | refine W93 ?_
          | (refine XC.planG (by kernel_rfl) (fun _ m h => h.drewn m) ?_; (conv => arg 5; reduce); refine XG0.of ?_; (conv => arg 5; reduce); (conv => arg 6; reduce); refine XG.go (by decide +kernel) ?_)))
      | (refine XQ.is ?_; first
        | refine W94 ?_
        | refine W95 ?_
        | (refine W96 ?_; refine W97 ?_)
        | refine W98 ?_
        | refine W99 ?_
        | refine W100 ?_
        | refine W101 ?_
        | refine W102 ?_
        | refine W103 ?_
        | refine W104 ?_
        | refine W105 ?_
        | refine W106 ?_
        | (refine W107 ?_; refine W108 ?_))
      | (refine XS.is ?_; first
        | (refine W53 ?_; refine W54 ?_)
        | (refine W55 ?_; first
          | refine W56 ?_
          | (refine W57 (fun h => ?_) (fun h => ?_) <;> try (first | (exfalso; omega) | exact absurd rfl h | (exfalso; simp at h <;> omega)))
          | refine W58 ?_
          | (refine W59 ?_; first
            | refine W60 ?_
            | refine W61 ?_
            | refine W62 ?_
            | refine W63 ?_
            | refine W64 ?_
            | refine W65 ?_)
          | (refine W66 ?_; first
            | refine W67 ?_
            | refine W68 ?_
            | refine W69 ?_)
          | (refine W70 ?_; first
            | refine W71 ?_
            | refine W72 ?_
            | refine W73 ?_
            | refine W74 ?_
            | refine W69 ?_)
          | (refine W75 ?_; first
            | refine W76 ?_
            | refine W69 ?_)
          | refine W69 ?_)
        | refine W77 ?_
        | (refine W78 ?_; refine W79 ?_ ?_)
        | (refine W80 ?_; refine W81 ?_ ?_ ?_)))
    refine XQ.round (i + 1, l, v) (by (repeat (first | exact fits_nil | refine fits_cons (by rfl) ?_)); done) (fun w hw => ⟨⟨by dsimp only; omega, ?_⟩, hw.less (by (repeat' (first | exact Sels.nil | exact Sel.here | apply Sels.cons | apply Sel.there)); done) (by (repeat (first | exact sub0 | refine subC (by repeat (first | exact List.Mem.head _ | apply List.Mem.tail)) ?_)); done)⟩) (by dsimp only; omega)
    dsimp only
    rw [hl, parts_succ hF, parts_all]
    rfl
  have e : i = p.fnL.length := by omega
  subst e
  repeat' (first
    | (refine XL.is ?_; first
      | refine W1 ?_
      | (refine W2 (fun h => ?_) (fun h => ?_) <;> try (first | (exfalso; omega) | exact absurd rfl h | (exfalso; simp at h <;> omega)))
      | refine W3 ?_
      | (refine W4 ?_; first
        | refine W5 ?_
        | refine W6 ?_
        | refine W7 ?_
        | refine W8 ?_
        | refine W9 ?_
        | refine W10 ?_
        | refine W11 ?_)
      | (refine W12 ?_; first
        | refine W13 ?_
        | refine W14 ?_
        | refine W15 ?_
        | refine W16 ?_
        | refine W11 ?_)
      | (refine W17 ?_; first
        | refine W18 ?_
        | refine W19 ?_
        | refine W20 ?_
        | refine W21 ?_
        | refine W22 ?_
        | refine W11 ?_)
      | (refine W23 ?_; first
        | refine W24 ?_
        | refine W25 ?_)
      | (refine W26 ?_; first
        | refine W27 ?_
        | refine W28 ?_
        | refine W29 ?_
        | refine W30 ?_
        | refine W31 ?_)
      | refine XL.pure 1 (by rfl) ?_
      | refine W32 ?_
      | (refine W33 ?_; first
        | refine W34 ?_
        | refine W35 ?_
        | refine W36 ?_
        | refine W37 ?_
        | refine W38 ?_
        | refine W39 ?_
        | refine W40 ?_
        | refine W41 ?_
        | refine W42 ?_
        | refine W43 ?_
        | refine W44 ?_
        | refine W45 ?_
        | refine W46 ?_)
      | refine W47 ?_
      | refine W48 ?_
      | (refine W49 (fun b => ?_))
      | (refine W50 (fun b => ?_))
      | (refine W51 (fun b => ?_))
      | (refine W52 (fun b2 => ?_)))
    | (refine XC.is ?_; first
      | refine W82 ?_
      | refine W83 ?_
      | refine W84 ?_
      | refine W85 ?_
      | refine W86 ?_
      | refine W87 ?_
      | (refine W88 ?_; first
        | (refine W89 (fun h => ?_) (fun h => ?_) <;> try (first | (exfalso; omega) | exact absurd rfl h | (exfalso; simp at h <;> omega)))
        | refine W90 ?_
        | refine W91 ?_)
      | (refine W92 ?_; first
        | refine W93 ?_
        | (refine XC.planG (by kernel_rfl) (fun _ m h => h.drewn m) ?_; (conv => arg 5; reduce); refine XG0.of ?_; (conv => arg 5; reduce); (conv => arg 6; reduce); refine XG.go (by decide +kernel) ?_)))
    | (refine XQ.is ?_; first
      | refine W94 ?_
      | refine W95 ?_
      | (refine W96 ?_; refine W97 ?_)
      | refine W98 ?_
      | refine W99 ?_
      | refine W100 ?_
      | refine W101 ?_
      | refine W102 ?_
      | refine W103 ?_
      | refine W104 ?_
      | refine W105 ?_
      | refine W106 ?_
      | (refine W107 ?_; refine W108 ?_))
    | (refine XS.is ?_; first
      | (refine W53 ?_; refine W54 ?_)
      | (refine W55 ?_; first
        | refine W56 ?_
        | (refine W57 (fun h => ?_) (fun h => ?_) <;> try (first | (exfalso; omega) | exact absurd rfl h | (exfalso; simp at h <;> omega)))
        | refine W58 ?_
        | (refine W59 ?_; first
          | refine W60 ?_
          | refine W61 ?_
          | refine W62 ?_
          | refine W63 ?_
          | refine W64 ?_
          | refine W65 ?_)
        | (refine W66 ?_; first
          | refine W67 ?_
          | refine W68 ?_
          | refine W69 ?_)
        | (refine W70 ?_; first
          | refine W71 ?_
          | refine W72 ?_
          | refine W73 ?_
          | refine W74 ?_
          | refine W69 ?_)
        | (refine W75 ?_; first
          | refine W76 ?_
          | refine W69 ?_)
        | refine W69 ?_)
      | refine W77 ?_
      | (refine W78 ?_; refine W79 ?_ ?_)
      | (refine W80 ?_; refine W81 ?_ ?_ ?_)))
  exact XQ.consRowF l (by rfl) (by rfl) .here rfl rfl (List.Mem.head _) (by rw [hl, parts_all]; rfl) (by (repeat' (first | exact Sels.nil | exact Sel.here | apply Sels.cons | apply Sel.there)); done)
end Go.Proofs.YtafochlcnjeanaaGreat
