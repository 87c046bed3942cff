/- Two lists of constraints that are the same. -/
import Derived.Test.YtafochlcnjeanaaGreatG11
namespace Go.Proofs.YtafochlcnjeanaaGreat
open Go X
set_option maxRecDepth 100000
attribute [local irreducible] XC XL XQ Tri blk Shows Sq Rd Mt inBlockX XS XG XG0 TkS AnS rowO
set_option maxHeartbeats 8000000 in
theorem same_tri {va vb : Value} {la lb : List ConM} (heq : la.map (·.p) = lb.map (·.p)) (hbig : la.length ≤ 10000000000) (hargs : ∀ P ∈ la.map (·.p), P.args.length ≤ 4000) :
    Tri Tryz.prog 13 [va, vb] [] [consFP va la, consFP vb lb] fun e L Φ => e = .returned (.bool true) ∧ L = [] ∧ Φ = [] := by
  refine Tri.of Tryz.func13 rfl fun c => ?_
  have hlen : la.length = lb.length := by have := congrArg List.length heq; simpa using this
  repeat' (first
    | (refine XL.is ?_; first
      | refine W1 ?_
      | (refine W2 (fun h => ?_) (fun h => ?_) <;> try (first | (exfalso; omega) | exact absurd rfl h | (exfalso; simp at h <;> omega)))
      | refine W3 ?_
      | (refine W4 ?_; first
        | refine W5 ?_
        | refine W6 ?_
        | refine W7 ?_
        | refine W8 ?_
        | refine W9 ?_
        | refine W10 ?_
        | refine W11 ?_)
      | (refine W12 ?_; first
        | refine W13 ?_
        | refine W14 ?_
        | refine W15 ?_
        | refine W16 ?_
        | refine W11 ?_)
      | (refine W17 ?_; first
        | refine W18 ?_
        | refine W19 ?_
        | refine W20 ?_
        | refine W21 ?_
        | refine W22 ?_
        | refine W11 ?_)
      | (refine W23 ?_; first
        | refine W24 ?_
        | refine W25 ?_)
      | (refine W26 ?_; first
        | refine W27 ?_
        | refine W28 ?_
        | refine W29 ?_
        | refine W30 ?_
        | refine W31 ?_)
      | refine XL.pure 1 (by rfl) ?_
      | refine W32 ?_
      | (refine W33 ?_; first
        | refine W34 ?_
        | refine W35 ?_
        | refine W36 ?_
        | refine W37 ?_
        | refine W38 ?_
        | refine W39 ?_
        | refine W40 ?_
        | refine W41 ?_
        | refine W42 ?_
        | refine W43 ?_
        | refine W44 ?_
        | refine W45 ?_
        | refine W46 ?_)
      | refine W47 ?_
      | refine W48 ?_
      | (refine W49 (fun b => ?_))
      | (refine W50 (fun b => ?_))
      | (refine W51 (fun b => ?_))
      | (refine W52 (fun b2 => ?_)))
    | (refine XC.is ?_; first
      | refine W82 ?_
      | refine W83 ?_
      | refine W84 ?_
      | refine W85 ?_
      | refine W86 ?_
      | refine W87 ?_
      | (refine W88 ?_; first
        | (refine W89 (fun h => ?_) (fun h => ?_) <;> try (first | (exfalso; omega) | exact absurd rfl h | (exfalso; simp at h <;> omega)))
        | refine W90 ?_
        | refine W91 ?_)
      | (refine W92 ?_; first
        | refine W93 ?_
        | (refine XC.planG (by kernel_rfl) (fun _ m h => h.drewn m) ?_; (conv => arg 5; reduce); refine XG0.of ?_; (conv => arg 5; reduce); (conv => arg 6; reduce); refine XG.go (by decide +kernel) ?_)))
    | (refine XQ.is ?_; first
      | refine W94 ?_
      | refine W95 ?_
      | (refine W96 ?_; refine W97 ?_)
      | refine W98 ?_
      | refine W99 ?_
      | refine W100 ?_
      | refine W101 ?_
      | refine W102 ?_
      | refine W103 ?_
      | refine W104 ?_
      | refine W105 ?_
      | refine W106 ?_
      | (refine W107 ?_; refine W108 ?_))
    | (refine XS.is ?_; first
      | (refine W53 ?_; refine W54 ?_)
      | (refine W55 ?_; first
        | refine W56 ?_
        | (refine W57 (fun h => ?_) (fun h => ?_) <;> try (first | (exfalso; omega) | exact absurd rfl h | (exfalso; simp at h <;> omega)))
        | refine W58 ?_
        | (refine W59 ?_; first
          | refine W60 ?_
          | refine W61 ?_
          | refine W62 ?_
          | refine W63 ?_
          | refine W64 ?_
          | refine W65 ?_)
        | (refine W66 ?_; first
          | refine W67 ?_
          | refine W68 ?_
          | refine W69 ?_)
        | (refine W70 ?_; first
          | refine W71 ?_
          | refine W72 ?_
          | refine W73 ?_
          | refine W74 ?_
          | refine W69 ?_)
        | (refine W75 ?_; first
          | refine W76 ?_
          | refine W69 ?_)
        | refine W69 ?_)
      | refine W77 ?_
      | (refine W78 ?_; refine W79 ?_ ?_)
      | (refine W80 ?_; refine W81 ?_ ?_ ?_)))
  refine XC.loop (fun i : Nat => [(0, va), (1, vb), (5, .int .i64 (i : Int))])
    (fun i w => i ≤ la.length ∧ St c [] [consFP va la, consFP vb lb] w) (fun i => la.length - i) 0 (by (repeat (first | exact fits_nil | refine fits_cons (by rfl) ?_)); done) (fun w h => ⟨by omega, h⟩) ?_
  intro i
  refine XC.pure (fun hi => ?_)
  by_cases hlt : i < la.length
  · obtain ⟨C, hC, mC⟩ := get_of_lt hlt
    obtain ⟨D, hD, mD⟩ := get_of_lt (l := lb) (i := i) (by omega)
    have hp : D.p = C.p := by
      have := congrArg (fun l => l[i]?) heq
      simp only [List.getElem?_map, hC, hD, Option.map_some, Option.some.injEq] at this
      exact this.symm
    have ha := hargs C.p (List.mem_map.2 ⟨C, mC, rfl⟩)
    obtain ⟨P, a1⟩ := C
    obtain ⟨P', a2⟩ := D
    dsimp only at hp ha
    subst hp
    have aC := con_at hC
    have aD := con_at hD
    refine XC.ex (B := fun (x : (Option Addr × Nat) × (Option Addr × Nat)) w => (a1 = .slice x.1.1 P'.args.length x.1.2 ∧ a2 = .slice x.2.1 P'.args.length x.2.2) ∧ St c _ _ w) (fun w h => by
      obtain ⟨q, cap, e⟩ := (h.conArgs mC (by repeat (first | exact List.Mem.head _ | apply List.Mem.tail))).len
      obtain ⟨q2, cap2, e2⟩ := (h.conArgs mD (by repeat (first | exact List.Mem.head _ | apply List.Mem.tail))).len
      exact ⟨((q, cap), (q2, cap2)), ⟨e, e2⟩, h⟩) ?_
    rintro ⟨⟨qa, qc⟩, ⟨qa2, qc2⟩⟩
    refine XC.pure (fun ⟨ea, ea2⟩ => ?_)
    dsimp only at ea ea2
    have o3 : onesL (ConM.cells ⟨P', a1⟩) = true := by simp [onesL, ConM.cells, ea, Value.oneCell']
    have o4 : onesL (ConM.cells ⟨P', a2⟩) = true := by simp [onesL, ConM.cells, ea2, Value.oneCell']
    repeat' (first
      | (refine XL.is ?_; first
        | refine W1 ?_
        | (refine W2 (fun h => ?_) (fun h => ?_) <;> try (first | (exfalso; omega) | exact absurd rfl h | (exfalso; simp at h <;> omega)))
        | refine W3 ?_
        | (refine W4 ?_; first
          | refine W5 ?_
          | refine W6 ?_
          | refine W7 ?_
          | refine W8 ?_
          | refine W9 ?_
          | refine W10 ?_
          | refine W11 ?_)
        | (refine W12 ?_; first
          | refine W13 ?_
          | refine W14 ?_
          | refine W15 ?_
          | refine W16 ?_
          | refine W11 ?_)
        | (refine W17 ?_; first
          | refine W18 ?_
          | refine W19 ?_
          | refine W20 ?_
          | refine W21 ?_
          | refine W22 ?_
          | refine W11 ?_)
        | (refine W23 ?_; first
          | refine W24 ?_
          | refine W25 ?_)
        | (refine W26 ?_; first
          | refine W27 ?_
          | refine W28 ?_
          | refine W29 ?_
          | refine W30 ?_
          | refine W31 ?_)
        | refine XL.pure 1 (by rfl) ?_
        | refine W32 ?_
        | (refine W33 ?_; first
          | refine W34 ?_
          | refine W35 ?_
          | refine W36 ?_
          | refine W37 ?_
          | refine W38 ?_
          | refine W39 ?_
          | refine W40 ?_
          | refine W41 ?_
          | refine W42 ?_
          | refine W43 ?_
          | refine W44 ?_
          | refine W45 ?_
          | refine W46 ?_)
        | refine W47 ?_
        | refine W48 ?_
        | (refine W49 (fun b => ?_))
        | (refine W50 (fun b => ?_))
        | (refine W51 (fun b => ?_))
        | (refine W52 (fun b2 => ?_)))
      | (refine XC.is ?_; first
        | refine W82 ?_
        | refine W83 ?_
        | refine W84 ?_
        | refine W85 ?_
        | refine W86 ?_
        | refine W87 ?_
        | (refine W88 ?_; first
          | (refine W89 (fun h => ?_) (fun h => ?_) <;> try (first | (exfalso; omega) | exact absurd rfl h | (exfalso; simp at h <;> omega)))
          | refine W90 ?_
          | refine W91 ?_)
        | (refine W92 ?_; first
          | refine W93 ?_
          | (refine XC.planG (by kernel_rfl) (fun _ m h => h.drewn m) ?_; (conv => arg 5; reduce); refine XG0.of ?_; (conv => arg 5; reduce); (conv => arg 6; reduce); refine XG.go (by decide +kernel) ?_)))
      | (refine XQ.is ?_; first
        | refine W94 ?_
        | refine W95 ?_
        | (refine W96 ?_; refine W97 ?_)
        | refine W98 ?_
        | refine W99 ?_
        | refine W100 ?_
        | refine W101 ?_
        | refine W102 ?_
        | refine W103 ?_
        | refine W104 ?_
        | refine W105 ?_
        | refine W106 ?_
        | (refine W107 ?_; refine W108 ?_))
      | (refine XS.is ?_; first
        | (refine W53 ?_; refine W54 ?_)
        | (refine W55 ?_; first
          | refine W56 ?_
          | (refine W57 (fun h => ?_) (fun h => ?_) <;> try (first | (exfalso; omega) | exact absurd rfl h | (exfalso; simp at h <;> omega)))
          | refine W58 ?_
          | (refine W59 ?_; first
            | refine W60 ?_
            | refine W61 ?_
            | refine W62 ?_
            | refine W63 ?_
            | refine W64 ?_
            | refine W65 ?_)
          | (refine W66 ?_; first
            | refine W67 ?_
            | refine W68 ?_
            | refine W69 ?_)
          | (refine W70 ?_; first
            | refine W71 ?_
            | refine W72 ?_
            | refine W73 ?_
            | refine W74 ?_
            | refine W69 ?_)
          | (refine W75 ?_; first
            | refine W76 ?_
            | refine W69 ?_)
          | refine W69 ?_)
        | refine W77 ?_
        | (refine W78 ?_; refine W79 ?_ ?_)
        | (refine W80 ?_; refine W81 ?_ ?_ ?_)))
    rename_i b6 _ _ _ _ _ _ _
    refine XC.loop (fun k : Nat => [(0, va), (1, vb), (5, .int .i64 (i : Int)), (6, .pointer (some ⟨b6, 0, none⟩)), (7, .pointer (some ⟨b, 0, none⟩)), (8, .int .i64 (k : Int))])
      (fun k w => k ≤ P'.args.length ∧ St c [cel b (ConM.cells ⟨P', a2⟩).toArray 43, cel b6 (ConM.cells ⟨P', a1⟩).toArray 43] [consFP va la, consFP vb lb] w) (fun k => P'.args.length - k) 0 (by (repeat (first | exact fits_nil | refine fits_cons (by rfl) ?_)); done) (fun w h => ⟨by omega, h.less (by (repeat' (first | exact Sels.nil | exact Sel.here | apply Sels.cons | apply Sel.there)); done) (by (repeat (first | exact sub0 | refine subC (by repeat (first | exact List.Mem.head _ | apply List.Mem.tail)) ?_)); done)⟩) ?_
    intro k
    refine XC.pure (fun hk => ?_)
    by_cases hlt2 : k < P'.args.length
    · obtain ⟨x, hx, -⟩ := get_of_lt hlt2
      have gx := ints_get hx
      repeat' (first
        | (refine XL.is ?_; first
          | refine W1 ?_
          | (refine W2 (fun h => ?_) (fun h => ?_) <;> try (first | (exfalso; omega) | exact absurd rfl h | (exfalso; simp at h <;> omega)))
          | refine W3 ?_
          | (refine W4 ?_; first
            | refine W5 ?_
            | refine W6 ?_
            | refine W7 ?_
            | refine W8 ?_
            | refine W9 ?_
            | refine W10 ?_
            | refine W11 ?_)
          | (refine W12 ?_; first
            | refine W13 ?_
            | refine W14 ?_
            | refine W15 ?_
            | refine W16 ?_
            | refine W11 ?_)
          | (refine W17 ?_; first
            | refine W18 ?_
            | refine W19 ?_
            | refine W20 ?_
            | refine W21 ?_
            | refine W22 ?_
            | refine W11 ?_)
          | (refine W23 ?_; first
            | refine W24 ?_
            | refine W25 ?_)
          | (refine W26 ?_; first
            | refine W27 ?_
            | refine W28 ?_
            | refine W29 ?_
            | refine W30 ?_
            | refine W31 ?_)
          | refine XL.pure 1 (by rfl) ?_
          | refine W32 ?_
          | (refine W33 ?_; first
            | refine W34 ?_
            | refine W35 ?_
            | refine W36 ?_
            | refine W37 ?_
            | refine W38 ?_
            | refine W39 ?_
            | refine W40 ?_
            | refine W41 ?_
            | refine W42 ?_
            | refine W43 ?_
            | refine W44 ?_
            | refine W45 ?_
            | refine W46 ?_)
          | refine W47 ?_
          | refine W48 ?_
          | (refine W49 (fun b => ?_))
          | (refine W50 (fun b => ?_))
          | (refine W51 (fun b => ?_))
          | (refine W52 (fun b2 => ?_)))
        | (refine XC.is ?_; first
          | refine W82 ?_
          | refine W83 ?_
          | refine W84 ?_
          | refine W85 ?_
          | refine W86 ?_
          | refine W87 ?_
          | (refine W88 ?_; first
            | (refine W89 (fun h => ?_) (fun h => ?_) <;> try (first | (exfalso; omega) | exact absurd rfl h | (exfalso; simp at h <;> omega)))
            | refine W90 ?_
            | refine W91 ?_)
          | (refine W92 ?_; first
            | refine W93 ?_
            | (refine XC.planG (by kernel_rfl) (fun _ m h => h.drewn m) ?_; (conv => arg 5; reduce); refine XG0.of ?_; (conv => arg 5; reduce); (conv => arg 6; reduce); refine XG.go (by decide +kernel) ?_)))
        | (refine XQ.is ?_; first
          | refine W94 ?_
          | refine W95 ?_
          | (refine W96 ?_; refine W97 ?_)
          | refine W98 ?_
          | refine W99 ?_
          | refine W100 ?_
          | refine W101 ?_
          | refine W102 ?_
          | refine W103 ?_
          | refine W104 ?_
          | refine W105 ?_
          | refine W106 ?_
          | (refine W107 ?_; refine W108 ?_))
        | (refine XS.is ?_; first
          | (refine W53 ?_; refine W54 ?_)
          | (refine W55 ?_; first
            | refine W56 ?_
            | (refine W57 (fun h => ?_) (fun h => ?_) <;> try (first | (exfalso; omega) | exact absurd rfl h | (exfalso; simp at h <;> omega)))
            | refine W58 ?_
            | (refine W59 ?_; first
              | refine W60 ?_
              | refine W61 ?_
              | refine W62 ?_
              | refine W63 ?_
              | refine W64 ?_
              | refine W65 ?_)
            | (refine W66 ?_; first
              | refine W67 ?_
              | refine W68 ?_
              | refine W69 ?_)
            | (refine W70 ?_; first
              | refine W71 ?_
              | refine W72 ?_
              | refine W73 ?_
              | refine W74 ?_
              | refine W69 ?_)
            | (refine W75 ?_; first
              | refine W76 ?_
              | refine W69 ?_)
            | refine W69 ?_)
          | refine W77 ?_
          | (refine W78 ?_; refine W79 ?_ ?_)
          | (refine W80 ?_; refine W81 ?_ ?_ ?_)))
      exact XQ.round (k + 1) (by (repeat (first | exact fits_nil | refine fits_cons (by rfl) ?_)); done) (fun w hw => ⟨by omega, hw⟩) (by omega)
    · have e : k = P'.args.length := by omega
      subst e
      repeat' (first
        | (refine XL.is ?_; first
          | refine W1 ?_
          | (refine W2 (fun h => ?_) (fun h => ?_) <;> try (first | (exfalso; omega) | exact absurd rfl h | (exfalso; simp at h <;> omega)))
          | refine W3 ?_
          | (refine W4 ?_; first
            | refine W5 ?_
            | refine W6 ?_
            | refine W7 ?_
            | refine W8 ?_
            | refine W9 ?_
            | refine W10 ?_
            | refine W11 ?_)
          | (refine W12 ?_; first
            | refine W13 ?_
            | refine W14 ?_
            | refine W15 ?_
            | refine W16 ?_
            | refine W11 ?_)
          | (refine W17 ?_; first
            | refine W18 ?_
            | refine W19 ?_
            | refine W20 ?_
            | refine W21 ?_
            | refine W22 ?_
            | refine W11 ?_)
          | (refine W23 ?_; first
            | refine W24 ?_
            | refine W25 ?_)
          | (refine W26 ?_; first
            | refine W27 ?_
            | refine W28 ?_
            | refine W29 ?_
            | refine W30 ?_
            | refine W31 ?_)
          | refine XL.pure 1 (by rfl) ?_
          | refine W32 ?_
          | (refine W33 ?_; first
            | refine W34 ?_
            | refine W35 ?_
            | refine W36 ?_
            | refine W37 ?_
            | refine W38 ?_
            | refine W39 ?_
            | refine W40 ?_
            | refine W41 ?_
            | refine W42 ?_
            | refine W43 ?_
            | refine W44 ?_
            | refine W45 ?_
            | refine W46 ?_)
          | refine W47 ?_
          | refine W48 ?_
          | (refine W49 (fun b => ?_))
          | (refine W50 (fun b => ?_))
          | (refine W51 (fun b => ?_))
          | (refine W52 (fun b2 => ?_)))
        | (refine XC.is ?_; first
          | refine W82 ?_
          | refine W83 ?_
          | refine W84 ?_
          | refine W85 ?_
          | refine W86 ?_
          | refine W87 ?_
          | (refine W88 ?_; first
            | (refine W89 (fun h => ?_) (fun h => ?_) <;> try (first | (exfalso; omega) | exact absurd rfl h | (exfalso; simp at h <;> omega)))
            | refine W90 ?_
            | refine W91 ?_)
          | (refine W92 ?_; first
            | refine W93 ?_
            | (refine XC.planG (by kernel_rfl) (fun _ m h => h.drewn m) ?_; (conv => arg 5; reduce); refine XG0.of ?_; (conv => arg 5; reduce); (conv => arg 6; reduce); refine XG.go (by decide +kernel) ?_)))
        | (refine XQ.is ?_; first
          | refine W94 ?_
          | refine W95 ?_
          | (refine W96 ?_; refine W97 ?_)
          | refine W98 ?_
          | refine W99 ?_
          | refine W100 ?_
          | refine W101 ?_
          | refine W102 ?_
          | refine W103 ?_
          | refine W104 ?_
          | refine W105 ?_
          | refine W106 ?_
          | (refine W107 ?_; refine W108 ?_))
        | (refine XS.is ?_; first
          | (refine W53 ?_; refine W54 ?_)
          | (refine W55 ?_; first
            | refine W56 ?_
            | (refine W57 (fun h => ?_) (fun h => ?_) <;> try (first | (exfalso; omega) | exact absurd rfl h | (exfalso; simp at h <;> omega)))
            | refine W58 ?_
            | (refine W59 ?_; first
              | refine W60 ?_
              | refine W61 ?_
              | refine W62 ?_
              | refine W63 ?_
              | refine W64 ?_
              | refine W65 ?_)
            | (refine W66 ?_; first
              | refine W67 ?_
              | refine W68 ?_
              | refine W69 ?_)
            | (refine W70 ?_; first
              | refine W71 ?_
              | refine W72 ?_
              | refine W73 ?_
              | refine W74 ?_
              | refine W69 ?_)
            | (refine W75 ?_; first
              | refine W76 ?_
              | refine W69 ?_)
            | refine W69 ?_)
          | refine W77 ?_
          | (refine W78 ?_; refine W79 ?_ ?_)
          | (refine W80 ?_; refine W81 ?_ ?_ ?_)))
      exact XQ.round (i + 1) (by (repeat (first | exact fits_nil | refine fits_cons (by rfl) ?_)); done) (fun w hw => ⟨by omega, hw.less (by (repeat' (first | exact Sels.nil | exact Sel.here | apply Sels.cons | apply Sel.there)); done) (by (repeat (first | exact sub0 | refine subC (by repeat (first | exact List.Mem.head _ | apply List.Mem.tail)) ?_)); done)⟩) (by omega)
  have e : i = la.length := by omega
  subst e
  repeat' (first
    | (refine XL.is ?_; first
      | refine W1 ?_
      | (refine W2 (fun h => ?_) (fun h => ?_) <;> try (first | (exfalso; omega) | exact absurd rfl h | (exfalso; simp at h <;> omega)))
      | refine W3 ?_
      | (refine W4 ?_; first
        | refine W5 ?_
        | refine W6 ?_
        | refine W7 ?_
        | refine W8 ?_
        | refine W9 ?_
        | refine W10 ?_
        | refine W11 ?_)
      | (refine W12 ?_; first
        | refine W13 ?_
        | refine W14 ?_
        | refine W15 ?_
        | refine W16 ?_
        | refine W11 ?_)
      | (refine W17 ?_; first
        | refine W18 ?_
        | refine W19 ?_
        | refine W20 ?_
        | refine W21 ?_
        | refine W22 ?_
        | refine W11 ?_)
      | (refine W23 ?_; first
        | refine W24 ?_
        | refine W25 ?_)
      | (refine W26 ?_; first
        | refine W27 ?_
        | refine W28 ?_
        | refine W29 ?_
        | refine W30 ?_
        | refine W31 ?_)
      | refine XL.pure 1 (by rfl) ?_
      | refine W32 ?_
      | (refine W33 ?_; first
        | refine W34 ?_
        | refine W35 ?_
        | refine W36 ?_
        | refine W37 ?_
        | refine W38 ?_
        | refine W39 ?_
        | refine W40 ?_
        | refine W41 ?_
        | refine W42 ?_
        | refine W43 ?_
        | refine W44 ?_
        | refine W45 ?_
        | refine W46 ?_)
      | refine W47 ?_
      | refine W48 ?_
      | (refine W49 (fun b => ?_))
      | (refine W50 (fun b => ?_))
      | (refine W51 (fun b => ?_))
      | (refine W52 (fun b2 => ?_)))
    | (refine XC.is ?_; first
      | refine W82 ?_
      | refine W83 ?_
      | refine W84 ?_
      | refine W85 ?_
      | refine W86 ?_
      | refine W87 ?_
      | (refine W88 ?_; first
        | (refine W89 (fun h => ?_) (fun h => ?_) <;> try (first | (exfalso; omega) | exact absurd rfl h | (exfalso; simp at h <;> omega)))
        | refine W90 ?_
        | refine W91 ?_)
      | (refine W92 ?_; first
        | refine W93 ?_
        | (refine XC.planG (by kernel_rfl) (fun _ m h => h.drewn m) ?_; (conv => arg 5; reduce); refine XG0.of ?_; (conv => arg 5; reduce); (conv => arg 6; reduce); refine XG.go (by decide +kernel) ?_)))
    | (refine XQ.is ?_; first
      | refine W94 ?_
      | refine W95 ?_
      | (refine W96 ?_; refine W97 ?_)
      | refine W98 ?_
      | refine W99 ?_
      | refine W100 ?_
      | refine W101 ?_
      | refine W102 ?_
      | refine W103 ?_
      | refine W104 ?_
      | refine W105 ?_
      | refine W106 ?_
      | (refine W107 ?_; refine W108 ?_))
    | (refine XS.is ?_; first
      | (refine W53 ?_; refine W54 ?_)
      | (refine W55 ?_; first
        | refine W56 ?_
        | (refine W57 (fun h => ?_) (fun h => ?_) <;> try (first | (exfalso; omega) | exact absurd rfl h | (exfalso; simp at h <;> omega)))
        | refine W58 ?_
        | (refine W59 ?_; first
          | refine W60 ?_
          | refine W61 ?_
          | refine W62 ?_
          | refine W63 ?_
          | refine W64 ?_
          | refine W65 ?_)
        | (refine W66 ?_; first
          | refine W67 ?_
          | refine W68 ?_
          | refine W69 ?_)
        | (refine W70 ?_; first
          | refine W71 ?_
          | refine W72 ?_
          | refine W73 ?_
          | refine W74 ?_
          | refine W69 ?_)
        | (refine W75 ?_; first
          | refine W76 ?_
          | refine W69 ?_)
        | refine W69 ?_)
      | refine W77 ?_
      | (refine W78 ?_; refine W79 ?_ ?_)
      | (refine W80 ?_; refine W81 ?_ ?_ ?_)))
  refine XQ.done1 (by rfl) (by rfl) (⟨rfl, rfl, rfl⟩) (by (repeat' (first | exact Sels.nil | exact Sel.here | apply Sels.cons | apply Sel.there)); done) (by (repeat (first | exact sub0 | refine subC (by repeat (first | exact List.Mem.head _ | apply List.Mem.tail)) ?_)); done)
end Go.Proofs.YtafochlcnjeanaaGreat
