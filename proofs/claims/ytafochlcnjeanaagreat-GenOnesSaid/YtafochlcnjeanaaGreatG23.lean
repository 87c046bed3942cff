/- GenOnes: walked; its row. -/
import Derived.Test.YtafochlcnjeanaaGreatG0
import Derived.Test.YtafochlcnjeanaaGreatG12
import Derived.Test.YtafochlcnjeanaaGreatG24
import Derived.Test.YtafochlcnjeanaaGreatG16
import Derived.Test.YtafochlcnjeanaaGreatG22
import Derived.Test.YtafochlcnjeanaaGreatG14
import Derived.Test.YtafochlcnjeanaaGreatRows
import Derived.Test.YtafochlcnjeanaaGreatX9
namespace Go.Proofs.YtafochlcnjeanaaGreat
open Go X
set_option maxRecDepth 100000
namespace X
theorem XL.remn {P : Program} {n : Nat} {Q : Post} {ρ : Env} {ds : List Deferred} {A : World → Prop} {ops : Array Oper} {rest : List Oper} {o : Oper} {d q : Nat} {t t' : TypeId} {x y : Operand} {a b : Nat} (hop : o.op = .binOp .rem t x y t') (hd : o.dst = some d) (hn : Nat.blt d n = true) (hw : wantB ops ρ o = some true)
    (hx : evE ρ x = some (.int .i64 (a : Int))) (hy : evE ρ y = some (.int .i64 (b : Int))) (h : 0 < b ∧ a ≤ 9223372036854775807) (k : XL P n ops Q (q - 1) rest ((d, .int .i64 ((a % b : Nat) : Int)) :: ρ) ds A) : XL P n ops Q q (o :: rest) ρ ds A := by
  have h0 : ¬ b = 0 := by omega
  have hm : a % b ≤ a := Nat.mod_le a b
  have h1 : IntKind.i64.wrap ((a % b : Nat) : Int) = ((a % b : Nat) : Int) := wrap_in (by omega)
  have h2 : Int.tmod (a : Int) (b : Int) = ((a % b : Nat) : Int) := rfl
  exact XL.bin hop hd hn hw hx hy (fun w => by simp [binOp, eqGuard, Op.intArith, Op.intDiv, h0, h2]) k
theorem XL.prop {P : Program} {n : Nat} {Q : Post} {ρ : Env} {ds : List Deferred} {B : World → Prop} {ops : Array Oper} {l : List Oper} {p : Prop} (k : p → XL P n ops Q 0 l ρ ds B) : XL P n ops Q 0 l ρ ds (fun w => p ∧ B w) :=
  XL.of_zero fun a h1 h2 h3 w hA => (k hA.1).zero h1 h2 h3 hA.2
end X
def fnsC (l : List FnM) : List Value := (l.map FnM.cells).flatten
def fpsF (l : List FnM) : FP := FP.all (l.flatMap FnM.fps)
theorem fns_at {l : List FnM} {i : Nat} {F : FnM} (h : l[i]? = some F) : At (fnsC l) (i * 5) F.cells := flat_at FnM.cells 5 l (fun _ _ => rfl) i F h
theorem fnsC_len (l : List FnM) : (fnsC l).length = l.length * 5 := flat_len FnM.cells 5 l (fun _ _ => rfl)
theorem fnsC_set : ∀ {l : List FnM} {i : Nat} {F : FnM} {v : Value}, l[i]? = some F → (fnsC l).set (i * 5 + 4) v = fnsC (l.set i (emptied F v))
  | [], i, F, v, h => by simp at h
  | G :: l, 0, F, v, h => by
    cases h
    rfl
  | G :: l, i + 1, F, v, h => by
    have ih := fnsC_set (l := l) (v := v) (by simpa using h)
    show (G.cells ++ fnsC l).set ((i + 1) * 5 + 4) v = G.cells ++ fnsC (l.set i (emptied F v))
    have hl : G.cells.length = 5 := rfl
    rw [List.set_append_right _ _ (by rw [hl]; omega), hl, show (i + 1) * 5 + 4 - 5 = i * 5 + 4 by omega, ih]
theorem fnC_ones {p : ProgM} (hw : p.WF) : ∀ u ∈ fnC p, u.oneCell' = true := fun u hu => by
  obtain ⟨l, hl, hu⟩ := List.mem_flatten.1 hu
  obtain ⟨F, hF, rfl⟩ := List.mem_map.1 hl
  exact onesL_spec (hw.oneF F hF) u hu
section
variable {c : Cx} {L : List SP} {Φ : List FP} {w : World} {p : ProgM} {fl : List FnM}
theorem X.St.fpsF0 (s : progFP p ∈ Φ) (h : St c L Φ w) : St c L (fpsF p.fnL :: Φ) w := h.many fun O hΦ φ hφ => hΦ _ s φ (.tail _ (.tail _ hφ))
theorem X.St.fpsSet {i : Nat} {F : FnM} {v : Value} (s : fpsF fl ∈ Φ) (s2 : Row.fp 8 v 1 emptyI.cells ∈ Φ) (hF : fl[i]? = some F) (h : St c L Φ w) : St c L (fpsF (fl.set i (emptied F v)) :: Φ) w := h.many fun O hΦ φ hφ => by
  obtain ⟨G, hG, hφ⟩ := List.mem_flatMap.1 hφ
  rcases List.mem_or_eq_of_mem_set hG with hG | rfl
  · exact hΦ _ s φ (List.mem_flatMap.2 ⟨G, hG, hφ⟩)
  · rcases List.mem_cons.1 hφ with rfl | hφ
    · exact hΦ _ s _ (List.mem_flatMap.2 ⟨F, List.mem_of_getElem? hF, List.mem_cons_self⟩)
    rcases List.mem_cons.1 hφ with rfl | hφ
    · exact hΦ _ s2
    · obtain ⟨I, hI, rfl⟩ := List.mem_map.1 hφ
      have hI : I ∈ [emptyI] := hI
      rw [List.mem_singleton] at hI
      subst hI
      exact ⟨row_nil 1 w, fun _ _ _ _ hv _ => by cases hv⟩
theorem X.St.progQ {vq : Value} (s : progFP p ∈ Φ) (s1 : fpsF fl ∈ Φ) (s2 : Row.fp 5 vq fl.length (fnsC fl) ∈ Φ) (h : St c L Φ w) : St c L (progFP (onesQ p fl vq) :: Φ) w := h.many fun O hΦ φ hφ => by
  rcases List.mem_cons.1 hφ with rfl | hφ
  · exact hΦ _ s _ List.mem_cons_self
  rcases List.mem_cons.1 hφ with rfl | hφ
  · exact hΦ _ s2
  · exact hΦ _ s1 _ hφ
end
section
attribute [local irreducible] XC XL XQ Tri blk Shows Sq Rd Mt inBlockX XS XG XG0 TkS AnS rowO
set_option maxHeartbeats 16000000 in
theorem genOnes_tri {p : ProgM} (hw : p.WF) {x : Int} (hx : (Lit.int .u8 x).wf = true) : Tri Tryz.prog 4 [p.v, .int .u8 x] [] [progFP p] fun e L Φ => e = .returned (.bool true) ∧ L = [] ∧ Φ = [] := by
  have hx : 0 ≤ x ∧ x ≤ 255 := by simpa [Lit.wf, IntKind.min, IntKind.max, IntKind.signed, IntKind.bits] using hx
  obtain ⟨xn, rfl⟩ := Int.eq_ofNat_of_zero_le hx.1
  refine Tri.of Tryz.func4 rfl fun c => ?_
  repeat' (first
    | (refine XL.is ?_; first
      | refine W1 ?_
      | (refine W2 (fun h => ?_) (fun h => ?_) <;> try (first | (exfalso; omega) | exact absurd rfl h | (exfalso; simp at h <;> omega)))
      | refine W3 ?_
      | (refine W4 ?_; first
        | refine W5 ?_
        | refine W6 ?_
        | refine W7 ?_
        | refine W8 ?_
        | refine W9 ?_
        | refine W10 ?_
        | refine W11 ?_)
      | (refine W12 ?_; first
        | refine W13 ?_
        | refine W14 ?_
        | refine W15 ?_
        | refine W16 ?_
        | refine W11 ?_)
      | (refine W17 ?_; first
        | refine W18 ?_
        | refine W19 ?_
        | refine W20 ?_
        | refine W21 ?_
        | refine W22 ?_
        | refine W11 ?_)
      | (refine W23 ?_; first
        | refine W24 ?_
        | refine W25 ?_)
      | (refine W26 ?_; first
        | refine W27 ?_
        | refine W28 ?_
        | refine W29 ?_
        | refine W30 ?_
        | refine W31 ?_)
      | refine XL.pure 1 (by rfl) ?_
      | refine W32 ?_
      | (refine W33 ?_; first
        | refine W34 ?_
        | refine W35 ?_
        | refine W36 ?_
        | refine W37 ?_
        | refine W38 ?_
        | refine W39 ?_
        | refine W40 ?_
        | refine W41 ?_
        | refine W42 ?_
        | refine W43 ?_
        | refine W44 ?_
        | refine W45 ?_
        | refine W46 ?_)
      | refine W47 ?_
      | refine W48 ?_
      | (refine W49 (fun b => ?_))
      | (refine W50 (fun b => ?_))
      | (refine W51 (fun b => ?_))
      | (refine W52 (fun b2 => ?_)))
    | (refine XC.is ?_; first
      | refine W82 ?_
      | refine W83 ?_
      | refine W84 ?_
      | refine W85 ?_
      | refine W86 ?_
      | refine W87 ?_
      | (refine W88 ?_; first
        | (refine W89 (fun h => ?_) (fun h => ?_) <;> try (first | (exfalso; omega) | exact absurd rfl h | (exfalso; simp at h <;> omega)))
        | refine W90 ?_
        | refine W91 ?_)
      | (refine W92 ?_; first
        | refine W93 ?_
        | (refine XC.planG (by kernel_rfl) (fun _ m h => h.drewn m) ?_; (conv => arg 5; reduce); refine XG0.of ?_; (conv => arg 5; reduce); (conv => arg 6; reduce); refine XG.go (by decide +kernel) ?_)))
    | (refine XQ.is ?_; first
      | refine W94 ?_
      | refine W95 ?_
      | (refine W96 ?_; refine W97 ?_)
      | refine W98 ?_
      | refine W99 ?_
      | refine W100 ?_
      | refine W101 ?_
      | refine W102 ?_
      | refine W103 ?_
      | refine W104 ?_
      | refine W105 ?_
      | refine W106 ?_
      | (refine W107 ?_; refine W108 ?_))
    | (refine XS.is ?_; first
      | (refine W53 ?_; refine W54 ?_)
      | (refine W55 ?_; first
        | refine W56 ?_
        | (refine W57 (fun h => ?_) (fun h => ?_) <;> try (first | (exfalso; omega) | exact absurd rfl h | (exfalso; simp at h <;> omega)))
        | refine W58 ?_
        | (refine W59 ?_; first
          | refine W60 ?_
          | refine W61 ?_
          | refine W62 ?_
          | refine W63 ?_
          | refine W64 ?_
          | refine W65 ?_)
        | (refine W66 ?_; first
          | refine W67 ?_
          | refine W68 ?_
          | refine W69 ?_)
        | (refine W70 ?_; first
          | refine W71 ?_
          | refine W72 ?_
          | refine W73 ?_
          | refine W74 ?_
          | refine W69 ?_)
        | (refine W75 ?_; first
          | refine W76 ?_
          | refine W69 ?_)
        | refine W69 ?_)
      | refine W77 ?_
      | (refine W78 ?_; refine W79 ?_ ?_)
      | (refine W80 ?_; refine W81 ?_ ?_ ?_)))
  refine XL.triq (shown_tri) (by rfl) (by rfl) (by rfl) (by rfl) (by rfl) (by rfl) (by rfl) (by (repeat' (first | exact Sels.nil | exact Sel.here | apply Sels.cons | apply Sel.there)); done) (by (repeat' (first | exact Sels.nil | exact Sel.here | apply Sels.cons | apply Sel.there)); done) (by (repeat (first | exact sub0 | refine subC (by repeat (first | exact List.Mem.head _ | apply List.Mem.tail)) ?_)); done) ?_
  repeat' (first
    | (refine XL.is ?_; first
      | refine W1 ?_
      | (refine W2 (fun h => ?_) (fun h => ?_) <;> try (first | (exfalso; omega) | exact absurd rfl h | (exfalso; simp at h <;> omega)))
      | refine W3 ?_
      | (refine W4 ?_; first
        | refine W5 ?_
        | refine W6 ?_
        | refine W7 ?_
        | refine W8 ?_
        | refine W9 ?_
        | refine W10 ?_
        | refine W11 ?_)
      | (refine W12 ?_; first
        | refine W13 ?_
        | refine W14 ?_
        | refine W15 ?_
        | refine W16 ?_
        | refine W11 ?_)
      | (refine W17 ?_; first
        | refine W18 ?_
        | refine W19 ?_
        | refine W20 ?_
        | refine W21 ?_
        | refine W22 ?_
        | refine W11 ?_)
      | (refine W23 ?_; first
        | refine W24 ?_
        | refine W25 ?_)
      | (refine W26 ?_; first
        | refine W27 ?_
        | refine W28 ?_
        | refine W29 ?_
        | refine W30 ?_
        | refine W31 ?_)
      | refine XL.pure 1 (by rfl) ?_
      | refine W32 ?_
      | (refine W33 ?_; first
        | refine W34 ?_
        | refine W35 ?_
        | refine W36 ?_
        | refine W37 ?_
        | refine W38 ?_
        | refine W39 ?_
        | refine W40 ?_
        | refine W41 ?_
        | refine W42 ?_
        | refine W43 ?_
        | refine W44 ?_
        | refine W45 ?_
        | refine W46 ?_)
      | refine W47 ?_
      | refine W48 ?_
      | (refine W49 (fun b => ?_))
      | (refine W50 (fun b => ?_))
      | (refine W51 (fun b => ?_))
      | (refine W52 (fun b2 => ?_)))
    | (refine XC.is ?_; first
      | refine W82 ?_
      | refine W83 ?_
      | refine W84 ?_
      | refine W85 ?_
      | refine W86 ?_
      | refine W87 ?_
      | (refine W88 ?_; first
        | (refine W89 (fun h => ?_) (fun h => ?_) <;> try (first | (exfalso; omega) | exact absurd rfl h | (exfalso; simp at h <;> omega)))
        | refine W90 ?_
        | refine W91 ?_)
      | (refine W92 ?_; first
        | refine W93 ?_
        | (refine XC.planG (by kernel_rfl) (fun _ m h => h.drewn m) ?_; (conv => arg 5; reduce); refine XG0.of ?_; (conv => arg 5; reduce); (conv => arg 6; reduce); refine XG.go (by decide +kernel) ?_)))
    | (refine XQ.is ?_; first
      | refine W94 ?_
      | refine W95 ?_
      | (refine W96 ?_; refine W97 ?_)
      | refine W98 ?_
      | refine W99 ?_
      | refine W100 ?_
      | refine W101 ?_
      | refine W102 ?_
      | refine W103 ?_
      | refine W104 ?_
      | refine W105 ?_
      | refine W106 ?_
      | (refine W107 ?_; refine W108 ?_))
    | (refine XS.is ?_; first
      | (refine W53 ?_; refine W54 ?_)
      | (refine W55 ?_; first
        | refine W56 ?_
        | (refine W57 (fun h => ?_) (fun h => ?_) <;> try (first | (exfalso; omega) | exact absurd rfl h | (exfalso; simp at h <;> omega)))
        | refine W58 ?_
        | (refine W59 ?_; first
          | refine W60 ?_
          | refine W61 ?_
          | refine W62 ?_
          | refine W63 ?_
          | refine W64 ?_
          | refine W65 ?_)
        | (refine W66 ?_; first
          | refine W67 ?_
          | refine W68 ?_
          | refine W69 ?_)
        | (refine W70 ?_; first
          | refine W71 ?_
          | refine W72 ?_
          | refine W73 ?_
          | refine W74 ?_
          | refine W69 ?_)
        | (refine W75 ?_; first
          | refine W76 ?_
          | refine W69 ?_)
        | refine W69 ?_)
      | refine W77 ?_
      | (refine W78 ?_; refine W79 ?_ ?_)
      | (refine W80 ?_; refine W81 ?_ ?_ ?_)))
  refine XL.trir (may_tri hw) (by rfl) (by rfl) (by rfl) (by rfl) (by rfl) (by rfl) (by rfl) (by (repeat' (first | exact Sels.nil | exact Sel.here | apply Sels.cons | apply Sel.there)); done) (by (repeat (first | exact sub0 | refine subC (by repeat (first | exact List.Mem.head _ | apply List.Mem.tail)) ?_)); done) ?_
  rintro b1 hb
  conv => arg 9; dsimp only [List.cons_append, List.nil_append]
  try conv => arg 7; dsimp only
  cases b1
  · refine XL.pure 1 (by rfl) ?_
    repeat' (first
      | (refine XL.is ?_; first
        | refine W1 ?_
        | (refine W2 (fun h => ?_) (fun h => ?_) <;> try (first | (exfalso; omega) | exact absurd rfl h | (exfalso; simp at h <;> omega)))
        | refine W3 ?_
        | (refine W4 ?_; first
          | refine W5 ?_
          | refine W6 ?_
          | refine W7 ?_
          | refine W8 ?_
          | refine W9 ?_
          | refine W10 ?_
          | refine W11 ?_)
        | (refine W12 ?_; first
          | refine W13 ?_
          | refine W14 ?_
          | refine W15 ?_
          | refine W16 ?_
          | refine W11 ?_)
        | (refine W17 ?_; first
          | refine W18 ?_
          | refine W19 ?_
          | refine W20 ?_
          | refine W21 ?_
          | refine W22 ?_
          | refine W11 ?_)
        | (refine W23 ?_; first
          | refine W24 ?_
          | refine W25 ?_)
        | (refine W26 ?_; first
          | refine W27 ?_
          | refine W28 ?_
          | refine W29 ?_
          | refine W30 ?_
          | refine W31 ?_)
        | refine XL.pure 1 (by rfl) ?_
        | refine W32 ?_
        | (refine W33 ?_; first
          | refine W34 ?_
          | refine W35 ?_
          | refine W36 ?_
          | refine W37 ?_
          | refine W38 ?_
          | refine W39 ?_
          | refine W40 ?_
          | refine W41 ?_
          | refine W42 ?_
          | refine W43 ?_
          | refine W44 ?_
          | refine W45 ?_
          | refine W46 ?_)
        | refine W47 ?_
        | refine W48 ?_
        | (refine W49 (fun b => ?_))
        | (refine W50 (fun b => ?_))
        | (refine W51 (fun b => ?_))
        | (refine W52 (fun b2 => ?_)))
      | (refine XC.is ?_; first
        | refine W82 ?_
        | refine W83 ?_
        | refine W84 ?_
        | refine W85 ?_
        | refine W86 ?_
        | refine W87 ?_
        | (refine W88 ?_; first
          | (refine W89 (fun h => ?_) (fun h => ?_) <;> try (first | (exfalso; omega) | exact absurd rfl h | (exfalso; simp at h <;> omega)))
          | refine W90 ?_
          | refine W91 ?_)
        | (refine W92 ?_; first
          | refine W93 ?_
          | (refine XC.planG (by kernel_rfl) (fun _ m h => h.drewn m) ?_; (conv => arg 5; reduce); refine XG0.of ?_; (conv => arg 5; reduce); (conv => arg 6; reduce); refine XG.go (by decide +kernel) ?_)))
      | (refine XQ.is ?_; first
        | refine W94 ?_
        | refine W95 ?_
        | (refine W96 ?_; refine W97 ?_)
        | refine W98 ?_
        | refine W99 ?_
        | refine W100 ?_
        | refine W101 ?_
        | refine W102 ?_
        | refine W103 ?_
        | refine W104 ?_
        | refine W105 ?_
        | refine W106 ?_
        | (refine W107 ?_; refine W108 ?_))
      | (refine XS.is ?_; first
        | (refine W53 ?_; refine W54 ?_)
        | (refine W55 ?_; first
          | refine W56 ?_
          | (refine W57 (fun h => ?_) (fun h => ?_) <;> try (first | (exfalso; omega) | exact absurd rfl h | (exfalso; simp at h <;> omega)))
          | refine W58 ?_
          | (refine W59 ?_; first
            | refine W60 ?_
            | refine W61 ?_
            | refine W62 ?_
            | refine W63 ?_
            | refine W64 ?_
            | refine W65 ?_)
          | (refine W66 ?_; first
            | refine W67 ?_
            | refine W68 ?_
            | refine W69 ?_)
          | (refine W70 ?_; first
            | refine W71 ?_
            | refine W72 ?_
            | refine W73 ?_
            | refine W74 ?_
            | refine W69 ?_)
          | (refine W75 ?_; first
            | refine W76 ?_
            | refine W69 ?_)
          | refine W69 ?_)
        | refine W77 ?_
        | (refine W78 ?_; refine W79 ?_ ?_)
        | (refine W80 ?_; refine W81 ?_ ?_ ?_)))
    refine XQ.done1 (by rfl) (by rfl) (⟨rfl, rfl, rfl⟩) (by (repeat' (first | exact Sels.nil | exact Sel.here | apply Sels.cons | apply Sel.there)); done) (by (repeat (first | exact sub0 | refine subC (by repeat (first | exact List.Mem.head _ | apply List.Mem.tail)) ?_)); done)
  have hp := hb rfl
  have h200 := hp.few
  have o0 := hw.one
  refine XL.pure 1 (by rfl) ?_
  repeat' (first
    | (refine XL.is ?_; first
      | refine W1 ?_
      | (refine W2 (fun h => ?_) (fun h => ?_) <;> try (first | (exfalso; omega) | exact absurd rfl h | (exfalso; simp at h <;> omega)))
      | refine W3 ?_
      | (refine W4 ?_; first
        | refine W5 ?_
        | refine W6 ?_
        | refine W7 ?_
        | refine W8 ?_
        | refine W9 ?_
        | refine W10 ?_
        | refine W11 ?_)
      | (refine W12 ?_; first
        | refine W13 ?_
        | refine W14 ?_
        | refine W15 ?_
        | refine W16 ?_
        | refine W11 ?_)
      | (refine W17 ?_; first
        | refine W18 ?_
        | refine W19 ?_
        | refine W20 ?_
        | refine W21 ?_
        | refine W22 ?_
        | refine W11 ?_)
      | (refine W23 ?_; first
        | refine W24 ?_
        | refine W25 ?_)
      | (refine W26 ?_; first
        | refine W27 ?_
        | refine W28 ?_
        | refine W29 ?_
        | refine W30 ?_
        | refine W31 ?_)
      | refine XL.pure 1 (by rfl) ?_
      | refine W32 ?_
      | (refine W33 ?_; first
        | refine W34 ?_
        | refine W35 ?_
        | refine W36 ?_
        | refine W37 ?_
        | refine W38 ?_
        | refine W39 ?_
        | refine W40 ?_
        | refine W41 ?_
        | refine W42 ?_
        | refine W43 ?_
        | refine W44 ?_
        | refine W45 ?_
        | refine W46 ?_)
      | refine W47 ?_
      | refine W48 ?_
      | (refine W49 (fun b => ?_))
      | (refine W50 (fun b => ?_))
      | (refine W51 (fun b => ?_))
      | (refine W52 (fun b2 => ?_)))
    | (refine XC.is ?_; first
      | refine W82 ?_
      | refine W83 ?_
      | refine W84 ?_
      | refine W85 ?_
      | refine W86 ?_
      | refine W87 ?_
      | (refine W88 ?_; first
        | (refine W89 (fun h => ?_) (fun h => ?_) <;> try (first | (exfalso; omega) | exact absurd rfl h | (exfalso; simp at h <;> omega)))
        | refine W90 ?_
        | refine W91 ?_)
      | (refine W92 ?_; first
        | refine W93 ?_
        | (refine XC.planG (by kernel_rfl) (fun _ m h => h.drewn m) ?_; (conv => arg 5; reduce); refine XG0.of ?_; (conv => arg 5; reduce); (conv => arg 6; reduce); refine XG.go (by decide +kernel) ?_)))
    | (refine XQ.is ?_; first
      | refine W94 ?_
      | refine W95 ?_
      | (refine W96 ?_; refine W97 ?_)
      | refine W98 ?_
      | refine W99 ?_
      | refine W100 ?_
      | refine W101 ?_
      | refine W102 ?_
      | refine W103 ?_
      | refine W104 ?_
      | refine W105 ?_
      | refine W106 ?_
      | (refine W107 ?_; refine W108 ?_))
    | (refine XS.is ?_; first
      | (refine W53 ?_; refine W54 ?_)
      | (refine W55 ?_; first
        | refine W56 ?_
        | (refine W57 (fun h => ?_) (fun h => ?_) <;> try (first | (exfalso; omega) | exact absurd rfl h | (exfalso; simp at h <;> omega)))
        | refine W58 ?_
        | (refine W59 ?_; first
          | refine W60 ?_
          | refine W61 ?_
          | refine W62 ?_
          | refine W63 ?_
          | refine W64 ?_
          | refine W65 ?_)
        | (refine W66 ?_; first
          | refine W67 ?_
          | refine W68 ?_
          | refine W69 ?_)
        | (refine W70 ?_; first
          | refine W71 ?_
          | refine W72 ?_
          | refine W73 ?_
          | refine W74 ?_
          | refine W69 ?_)
        | (refine W75 ?_; first
          | refine W76 ?_
          | refine W69 ?_)
        | refine W69 ?_)
      | refine W77 ?_
      | (refine W78 ?_; refine W79 ?_ ?_)
      | (refine W80 ?_; refine W81 ?_ ?_ ?_)))
  · refine XQ.done1 (by rfl) (by rfl) (⟨rfl, rfl, rfl⟩) (by (repeat' (first | exact Sels.nil | exact Sel.here | apply Sels.cons | apply Sel.there)); done) (by (repeat (first | exact sub0 | refine subC (by repeat (first | exact List.Mem.head _ | apply List.Mem.tail)) ?_)); done)
  refine XL.remn (by rfl) (by rfl) (by rfl) (by rfl) (by rfl) (by rfl) (by omega) ?_
  have hn : xn % p.fnL.length < p.fnL.length := Nat.mod_lt _ (by omega)
  generalize xn % p.fnL.length = n at hn ⊢
  repeat' (first
    | (refine XL.is ?_; first
      | refine W1 ?_
      | (refine W2 (fun h => ?_) (fun h => ?_) <;> try (first | (exfalso; omega) | exact absurd rfl h | (exfalso; simp at h <;> omega)))
      | refine W3 ?_
      | (refine W4 ?_; first
        | refine W5 ?_
        | refine W6 ?_
        | refine W7 ?_
        | refine W8 ?_
        | refine W9 ?_
        | refine W10 ?_
        | refine W11 ?_)
      | (refine W12 ?_; first
        | refine W13 ?_
        | refine W14 ?_
        | refine W15 ?_
        | refine W16 ?_
        | refine W11 ?_)
      | (refine W17 ?_; first
        | refine W18 ?_
        | refine W19 ?_
        | refine W20 ?_
        | refine W21 ?_
        | refine W22 ?_
        | refine W11 ?_)
      | (refine W23 ?_; first
        | refine W24 ?_
        | refine W25 ?_)
      | (refine W26 ?_; first
        | refine W27 ?_
        | refine W28 ?_
        | refine W29 ?_
        | refine W30 ?_
        | refine W31 ?_)
      | refine XL.pure 1 (by rfl) ?_
      | refine W32 ?_
      | (refine W33 ?_; first
        | refine W34 ?_
        | refine W35 ?_
        | refine W36 ?_
        | refine W37 ?_
        | refine W38 ?_
        | refine W39 ?_
        | refine W40 ?_
        | refine W41 ?_
        | refine W42 ?_
        | refine W43 ?_
        | refine W44 ?_
        | refine W45 ?_
        | refine W46 ?_)
      | refine W47 ?_
      | refine W48 ?_
      | (refine W49 (fun b => ?_))
      | (refine W50 (fun b => ?_))
      | (refine W51 (fun b => ?_))
      | (refine W52 (fun b2 => ?_)))
    | (refine XC.is ?_; first
      | refine W82 ?_
      | refine W83 ?_
      | refine W84 ?_
      | refine W85 ?_
      | refine W86 ?_
      | refine W87 ?_
      | (refine W88 ?_; first
        | (refine W89 (fun h => ?_) (fun h => ?_) <;> try (first | (exfalso; omega) | exact absurd rfl h | (exfalso; simp at h <;> omega)))
        | refine W90 ?_
        | refine W91 ?_)
      | (refine W92 ?_; first
        | refine W93 ?_
        | (refine XC.planG (by kernel_rfl) (fun _ m h => h.drewn m) ?_; (conv => arg 5; reduce); refine XG0.of ?_; (conv => arg 5; reduce); (conv => arg 6; reduce); refine XG.go (by decide +kernel) ?_)))
    | (refine XQ.is ?_; first
      | refine W94 ?_
      | refine W95 ?_
      | (refine W96 ?_; refine W97 ?_)
      | refine W98 ?_
      | refine W99 ?_
      | refine W100 ?_
      | refine W101 ?_
      | refine W102 ?_
      | refine W103 ?_
      | refine W104 ?_
      | refine W105 ?_
      | refine W106 ?_
      | (refine W107 ?_; refine W108 ?_))
    | (refine XS.is ?_; first
      | (refine W53 ?_; refine W54 ?_)
      | (refine W55 ?_; first
        | refine W56 ?_
        | (refine W57 (fun h => ?_) (fun h => ?_) <;> try (first | (exfalso; omega) | exact absurd rfl h | (exfalso; simp at h <;> omega)))
        | refine W58 ?_
        | (refine W59 ?_; first
          | refine W60 ?_
          | refine W61 ?_
          | refine W62 ?_
          | refine W63 ?_
          | refine W64 ?_
          | refine W65 ?_)
        | (refine W66 ?_; first
          | refine W67 ?_
          | refine W68 ?_
          | refine W69 ?_)
        | (refine W70 ?_; first
          | refine W71 ?_
          | refine W72 ?_
          | refine W73 ?_
          | refine W74 ?_
          | refine W69 ?_)
        | (refine W75 ?_; first
          | refine W76 ?_
          | refine W69 ?_)
        | refine W69 ?_)
      | refine W77 ?_
      | (refine W78 ?_; refine W79 ?_ ?_)
      | (refine W80 ?_; refine W81 ?_ ?_ ?_)))
  refine XL.conv (fun w h => St.celRow (m := 0) (size := 5) (cs := []) (by repeat (first | exact Sel.here | apply Sel.there)) rfl rfl h) ?_
  have hmax : p.fnL.length ≤ maxLen := hw.fns
  refine XL.appendB (xs := []) (news := fnC p) (m := 0) (k0 := p.fnL.length) (by rfl) (by rfl) (by rfl) (by rfl) (by rfl) (by rfl) (by rfl) (by repeat (first | exact Sel.here | apply Sel.there)) (by rfl) (fun w h => St.fnsRow (by repeat (first | exact List.Mem.head _ | apply List.Mem.tail)) h) (fnC_ones hw) (by omega) (by show (_ + _) * 80 ≤ 140737488355328; omega) (fun v' => ?_)
  refine XL.conv (fun w h => by rw [Nat.zero_add, List.nil_append] at h; exact h) ?_
  refine XL.ex (fun w h => h.sliced .here) ?_
  rintro ⟨vp, vc⟩
  refine XL.prop (fun ev => ?_)
  dsimp only at ev
  subst ev
  repeat' (first
    | (refine XL.is ?_; first
      | refine W1 ?_
      | (refine W2 (fun h => ?_) (fun h => ?_) <;> try (first | (exfalso; omega) | exact absurd rfl h | (exfalso; simp at h <;> omega)))
      | refine W3 ?_
      | (refine W4 ?_; first
        | refine W5 ?_
        | refine W6 ?_
        | refine W7 ?_
        | refine W8 ?_
        | refine W9 ?_
        | refine W10 ?_
        | refine W11 ?_)
      | (refine W12 ?_; first
        | refine W13 ?_
        | refine W14 ?_
        | refine W15 ?_
        | refine W16 ?_
        | refine W11 ?_)
      | (refine W17 ?_; first
        | refine W18 ?_
        | refine W19 ?_
        | refine W20 ?_
        | refine W21 ?_
        | refine W22 ?_
        | refine W11 ?_)
      | (refine W23 ?_; first
        | refine W24 ?_
        | refine W25 ?_)
      | (refine W26 ?_; first
        | refine W27 ?_
        | refine W28 ?_
        | refine W29 ?_
        | refine W30 ?_
        | refine W31 ?_)
      | refine XL.pure 1 (by rfl) ?_
      | refine W32 ?_
      | (refine W33 ?_; first
        | refine W34 ?_
        | refine W35 ?_
        | refine W36 ?_
        | refine W37 ?_
        | refine W38 ?_
        | refine W39 ?_
        | refine W40 ?_
        | refine W41 ?_
        | refine W42 ?_
        | refine W43 ?_
        | refine W44 ?_
        | refine W45 ?_
        | refine W46 ?_)
      | refine W47 ?_
      | refine W48 ?_
      | (refine W49 (fun b => ?_))
      | (refine W50 (fun b => ?_))
      | (refine W51 (fun b => ?_))
      | (refine W52 (fun b2 => ?_)))
    | (refine XC.is ?_; first
      | refine W82 ?_
      | refine W83 ?_
      | refine W84 ?_
      | refine W85 ?_
      | refine W86 ?_
      | refine W87 ?_
      | (refine W88 ?_; first
        | (refine W89 (fun h => ?_) (fun h => ?_) <;> try (first | (exfalso; omega) | exact absurd rfl h | (exfalso; simp at h <;> omega)))
        | refine W90 ?_
        | refine W91 ?_)
      | (refine W92 ?_; first
        | refine W93 ?_
        | (refine XC.planG (by kernel_rfl) (fun _ m h => h.drewn m) ?_; (conv => arg 5; reduce); refine XG0.of ?_; (conv => arg 5; reduce); (conv => arg 6; reduce); refine XG.go (by decide +kernel) ?_)))
    | (refine XQ.is ?_; first
      | refine W94 ?_
      | refine W95 ?_
      | (refine W96 ?_; refine W97 ?_)
      | refine W98 ?_
      | refine W99 ?_
      | refine W100 ?_
      | refine W101 ?_
      | refine W102 ?_
      | refine W103 ?_
      | refine W104 ?_
      | refine W105 ?_
      | refine W106 ?_
      | (refine W107 ?_; refine W108 ?_))
    | (refine XS.is ?_; first
      | (refine W53 ?_; refine W54 ?_)
      | (refine W55 ?_; first
        | refine W56 ?_
        | (refine W57 (fun h => ?_) (fun h => ?_) <;> try (first | (exfalso; omega) | exact absurd rfl h | (exfalso; simp at h <;> omega)))
        | refine W58 ?_
        | (refine W59 ?_; first
          | refine W60 ?_
          | refine W61 ?_
          | refine W62 ?_
          | refine W63 ?_
          | refine W64 ?_
          | refine W65 ?_)
        | (refine W66 ?_; first
          | refine W67 ?_
          | refine W68 ?_
          | refine W69 ?_)
        | (refine W70 ?_; first
          | refine W71 ?_
          | refine W72 ?_
          | refine W73 ?_
          | refine W74 ?_
          | refine W69 ?_)
        | (refine W75 ?_; first
          | refine W76 ?_
          | refine W69 ?_)
        | refine W69 ?_)
      | refine W77 ?_
      | (refine W78 ?_; refine W79 ?_ ?_)
      | (refine W80 ?_; refine W81 ?_ ?_ ?_)))
  rename_i bp
  obtain ⟨bq, rfl⟩ : ∃ x, x = b := ⟨b, rfl⟩
  refine XC.loop (fun s : Nat × List FnM => [(2, .pointer (some ⟨bp, 0, none⟩)), (5, .bool true), (6, .int .i64 (n : Int)), (7, .pointer (some ⟨bq, 0, none⟩)), (8, .int .i64 (s.1 : Int))])
    (fun s w => (s.1 ≤ p.fnL.length ∧ Ones p.fnL s.2 s.1 n) ∧ St c [rowO 39 5 (.slice vp p.fnL.length vc) p.fnL.length (fnsC s.2), cel bq #[p.sites, .slice vp p.fnL.length vc, .int .i64 p.main] 25, cel bp #[p.sites, p.fns, .int .i64 p.main] 25] [fpsF s.2, progFP p] w)
    (fun s => p.fnL.length - s.1) (0, p.fnL) (by (repeat (first | exact fits_nil | refine fits_cons (by rfl) ?_)); done) (fun w h => ⟨⟨Nat.zero_le _, Ones.zero _ _⟩, (h.fpsF0 (by repeat (first | exact List.Mem.head _ | apply List.Mem.tail))).less (by (repeat' (first | exact Sels.nil | exact Sel.here | apply Sels.cons | apply Sel.there)); done) (by (repeat (first | exact sub0 | refine subC (by repeat (first | exact List.Mem.head _ | apply List.Mem.tail)) ?_)); done)⟩) ?_
  rintro ⟨i, fl⟩
  dsimp only
  refine XC.pure (fun ⟨hi, hO⟩ => ?_)
  have hfl := hO.1
  by_cases hlt : i < p.fnL.length
  · obtain ⟨F, hF, mF⟩ := get_of_lt hlt
    have hF' := hO.at_ hF
    have aF := fns_at hF'
    have hlF : (fnsC fl).length = p.fnL.length * 5 := by rw [fnsC_len, hfl]
    repeat' (first
      | (refine XL.is ?_; first
        | refine W1 ?_
        | (refine W2 (fun h => ?_) (fun h => ?_) <;> try (first | (exfalso; omega) | exact absurd rfl h | (exfalso; simp at h <;> omega)))
        | refine W3 ?_
        | (refine W4 ?_; first
          | refine W5 ?_
          | refine W6 ?_
          | refine W7 ?_
          | refine W8 ?_
          | refine W9 ?_
          | refine W10 ?_
          | refine W11 ?_)
        | (refine W12 ?_; first
          | refine W13 ?_
          | refine W14 ?_
          | refine W15 ?_
          | refine W16 ?_
          | refine W11 ?_)
        | (refine W17 ?_; first
          | refine W18 ?_
          | refine W19 ?_
          | refine W20 ?_
          | refine W21 ?_
          | refine W22 ?_
          | refine W11 ?_)
        | (refine W23 ?_; first
          | refine W24 ?_
          | refine W25 ?_)
        | (refine W26 ?_; first
          | refine W27 ?_
          | refine W28 ?_
          | refine W29 ?_
          | refine W30 ?_
          | refine W31 ?_)
        | refine XL.pure 1 (by rfl) ?_
        | refine W32 ?_
        | (refine W33 ?_; first
          | refine W34 ?_
          | refine W35 ?_
          | refine W36 ?_
          | refine W37 ?_
          | refine W38 ?_
          | refine W39 ?_
          | refine W40 ?_
          | refine W41 ?_
          | refine W42 ?_
          | refine W43 ?_
          | refine W44 ?_
          | refine W45 ?_
          | refine W46 ?_)
        | refine W47 ?_
        | refine W48 ?_
        | (refine W49 (fun b => ?_))
        | (refine W50 (fun b => ?_))
        | (refine W51 (fun b => ?_))
        | (refine W52 (fun b2 => ?_)))
      | (refine XC.is ?_; first
        | refine W82 ?_
        | refine W83 ?_
        | refine W84 ?_
        | refine W85 ?_
        | refine W86 ?_
        | refine W87 ?_
        | (refine W88 ?_; first
          | (refine W89 (fun h => ?_) (fun h => ?_) <;> try (first | (exfalso; omega) | exact absurd rfl h | (exfalso; simp at h <;> omega)))
          | refine W90 ?_
          | refine W91 ?_)
        | (refine W92 ?_; first
          | refine W93 ?_
          | (refine XC.planG (by kernel_rfl) (fun _ m h => h.drewn m) ?_; (conv => arg 5; reduce); refine XG0.of ?_; (conv => arg 5; reduce); (conv => arg 6; reduce); refine XG.go (by decide +kernel) ?_)))
      | (refine XQ.is ?_; first
        | refine W94 ?_
        | refine W95 ?_
        | (refine W96 ?_; refine W97 ?_)
        | refine W98 ?_
        | refine W99 ?_
        | refine W100 ?_
        | refine W101 ?_
        | refine W102 ?_
        | refine W103 ?_
        | refine W104 ?_
        | refine W105 ?_
        | refine W106 ?_
        | (refine W107 ?_; refine W108 ?_))
      | (refine XS.is ?_; first
        | (refine W53 ?_; refine W54 ?_)
        | (refine W55 ?_; first
          | refine W56 ?_
          | (refine W57 (fun h => ?_) (fun h => ?_) <;> try (first | (exfalso; omega) | exact absurd rfl h | (exfalso; simp at h <;> omega)))
          | refine W58 ?_
          | (refine W59 ?_; first
            | refine W60 ?_
            | refine W61 ?_
            | refine W62 ?_
            | refine W63 ?_
            | refine W64 ?_
            | refine W65 ?_)
          | (refine W66 ?_; first
            | refine W67 ?_
            | refine W68 ?_
            | refine W69 ?_)
          | (refine W70 ?_; first
            | refine W71 ?_
            | refine W72 ?_
            | refine W73 ?_
            | refine W74 ?_
            | refine W69 ?_)
          | (refine W75 ?_; first
            | refine W76 ?_
            | refine W69 ?_)
          | refine W69 ?_)
        | refine W77 ?_
        | (refine W78 ?_; refine W79 ?_ ?_)
        | (refine W80 ?_; refine W81 ?_ ?_ ?_)))
    · refine XL.stR (by rfl) rfl (by rfl) (by rfl) (by rfl) rfl (by rfl) (by repeat (first | exact Sel.here | apply Sel.there)) (by show i * 5 + 4 < _; omega) ?_
      repeat' (first
        | (refine XL.is ?_; first
          | refine W1 ?_
          | (refine W2 (fun h => ?_) (fun h => ?_) <;> try (first | (exfalso; omega) | exact absurd rfl h | (exfalso; simp at h <;> omega)))
          | refine W3 ?_
          | (refine W4 ?_; first
            | refine W5 ?_
            | refine W6 ?_
            | refine W7 ?_
            | refine W8 ?_
            | refine W9 ?_
            | refine W10 ?_
            | refine W11 ?_)
          | (refine W12 ?_; first
            | refine W13 ?_
            | refine W14 ?_
            | refine W15 ?_
            | refine W16 ?_
            | refine W11 ?_)
          | (refine W17 ?_; first
            | refine W18 ?_
            | refine W19 ?_
            | refine W20 ?_
            | refine W21 ?_
            | refine W22 ?_
            | refine W11 ?_)
          | (refine W23 ?_; first
            | refine W24 ?_
            | refine W25 ?_)
          | (refine W26 ?_; first
            | refine W27 ?_
            | refine W28 ?_
            | refine W29 ?_
            | refine W30 ?_
            | refine W31 ?_)
          | refine XL.pure 1 (by rfl) ?_
          | refine W32 ?_
          | (refine W33 ?_; first
            | refine W34 ?_
            | refine W35 ?_
            | refine W36 ?_
            | refine W37 ?_
            | refine W38 ?_
            | refine W39 ?_
            | refine W40 ?_
            | refine W41 ?_
            | refine W42 ?_
            | refine W43 ?_
            | refine W44 ?_
            | refine W45 ?_
            | refine W46 ?_)
          | refine W47 ?_
          | refine W48 ?_
          | (refine W49 (fun b => ?_))
          | (refine W50 (fun b => ?_))
          | (refine W51 (fun b => ?_))
          | (refine W52 (fun b2 => ?_)))
        | (refine XC.is ?_; first
          | refine W82 ?_
          | refine W83 ?_
          | refine W84 ?_
          | refine W85 ?_
          | refine W86 ?_
          | refine W87 ?_
          | (refine W88 ?_; first
            | (refine W89 (fun h => ?_) (fun h => ?_) <;> try (first | (exfalso; omega) | exact absurd rfl h | (exfalso; simp at h <;> omega)))
            | refine W90 ?_
            | refine W91 ?_)
          | (refine W92 ?_; first
            | refine W93 ?_
            | (refine XC.planG (by kernel_rfl) (fun _ m h => h.drewn m) ?_; (conv => arg 5; reduce); refine XG0.of ?_; (conv => arg 5; reduce); (conv => arg 6; reduce); refine XG.go (by decide +kernel) ?_)))
        | (refine XQ.is ?_; first
          | refine W94 ?_
          | refine W95 ?_
          | (refine W96 ?_; refine W97 ?_)
          | refine W98 ?_
          | refine W99 ?_
          | refine W100 ?_
          | refine W101 ?_
          | refine W102 ?_
          | refine W103 ?_
          | refine W104 ?_
          | refine W105 ?_
          | refine W106 ?_
          | (refine W107 ?_; refine W108 ?_))
        | (refine XS.is ?_; first
          | (refine W53 ?_; refine W54 ?_)
          | (refine W55 ?_; first
            | refine W56 ?_
            | (refine W57 (fun h => ?_) (fun h => ?_) <;> try (first | (exfalso; omega) | exact absurd rfl h | (exfalso; simp at h <;> omega)))
            | refine W58 ?_
            | (refine W59 ?_; first
              | refine W60 ?_
              | refine W61 ?_
              | refine W62 ?_
              | refine W63 ?_
              | refine W64 ?_
              | refine W65 ?_)
            | (refine W66 ?_; first
              | refine W67 ?_
              | refine W68 ?_
              | refine W69 ?_)
            | (refine W70 ?_; first
              | refine W71 ?_
              | refine W72 ?_
              | refine W73 ?_
              | refine W74 ?_
              | refine W69 ?_)
            | (refine W75 ?_; first
              | refine W76 ?_
              | refine W69 ?_)
            | refine W69 ?_)
          | refine W77 ?_
          | (refine W78 ?_; refine W79 ?_ ?_)
          | (refine W80 ?_; refine W81 ?_ ?_ ?_)))
      have hne : ¬ i = n := by omega
      refine XQ.round (i + 1, fl.set i (emptied F (.slice (some ⟨b2, 0, none⟩) 1 1))) (by (repeat (first | exact fits_nil | refine fits_cons (by rfl) ?_)); done) (fun w hw => ⟨⟨by dsimp only; omega, hO.step hne hF rfl⟩, ?_⟩) (by dsimp only; omega)
      rw [fnsC_set hF'] at hw
      have h2 := St.celFreeze (m := 1) (cap := 1) (size := 8) (cs := emptyI.cells) (.there .here) rfl (by decide) hw
      exact (h2.fpsSet (by repeat (first | exact List.Mem.head _ | apply List.Mem.tail)) (List.Mem.head _) hF').less (by (repeat' (first | exact Sels.nil | exact Sel.here | apply Sels.cons | apply Sel.there)); done) (by (repeat (first | exact sub0 | refine subC (by repeat (first | exact List.Mem.head _ | apply List.Mem.tail)) ?_)); done)
    · have he : i = n := by omega
      subst he
      exact XQ.round (i + 1, fl) (by (repeat (first | exact fits_nil | refine fits_cons (by rfl) ?_)); done) (fun w hw => ⟨⟨by dsimp only; omega, hO.keep⟩, hw⟩) (by dsimp only; omega)
  have e : i = p.fnL.length := by omega
  subst e
  have hq := hO.ok (vq := .slice vp p.fnL.length vc) hp
  have hwq := hO.wf (vq := .slice vp p.fnL.length vc) hw rfl
  refine XC.conv (fun w h => by
    have h1 := h.rowFreeze .here
    rw [← hfl] at h1
    exact (h1.progQ (vq := .slice vp fl.length vc) (fl := fl) (p := p) (by repeat (first | exact List.Mem.head _ | apply List.Mem.tail)) (by repeat (first | exact List.Mem.head _ | apply List.Mem.tail)) (List.Mem.head _)).less (Lc := [cel bq #[p.sites, .slice vp fl.length vc, .int .i64 p.main] 25, cel bp #[p.sites, p.fns, .int .i64 p.main] 25]) (Φ' := [progFP (onesQ p fl (.slice vp fl.length vc)), progFP p]) (by (repeat' (first | exact Sels.nil | exact Sel.here | apply Sels.cons | apply Sel.there)); done) (by (repeat (first | exact sub0 | refine subC (by repeat (first | exact List.Mem.head _ | apply List.Mem.tail)) ?_)); done)) ?_
  rw [← hfl] at hq hwq
  have hqn : (onesQ p fl (.slice vp fl.length vc)).fnL.length = p.fnL.length := hfl
  repeat' (first
    | (refine XL.is ?_; first
      | refine W1 ?_
      | (refine W2 (fun h => ?_) (fun h => ?_) <;> try (first | (exfalso; omega) | exact absurd rfl h | (exfalso; simp at h <;> omega)))
      | refine W3 ?_
      | (refine W4 ?_; first
        | refine W5 ?_
        | refine W6 ?_
        | refine W7 ?_
        | refine W8 ?_
        | refine W9 ?_
        | refine W10 ?_
        | refine W11 ?_)
      | (refine W12 ?_; first
        | refine W13 ?_
        | refine W14 ?_
        | refine W15 ?_
        | refine W16 ?_
        | refine W11 ?_)
      | (refine W17 ?_; first
        | refine W18 ?_
        | refine W19 ?_
        | refine W20 ?_
        | refine W21 ?_
        | refine W22 ?_
        | refine W11 ?_)
      | (refine W23 ?_; first
        | refine W24 ?_
        | refine W25 ?_)
      | (refine W26 ?_; first
        | refine W27 ?_
        | refine W28 ?_
        | refine W29 ?_
        | refine W30 ?_
        | refine W31 ?_)
      | refine XL.pure 1 (by rfl) ?_
      | refine W32 ?_
      | (refine W33 ?_; first
        | refine W34 ?_
        | refine W35 ?_
        | refine W36 ?_
        | refine W37 ?_
        | refine W38 ?_
        | refine W39 ?_
        | refine W40 ?_
        | refine W41 ?_
        | refine W42 ?_
        | refine W43 ?_
        | refine W44 ?_
        | refine W45 ?_
        | refine W46 ?_)
      | refine W47 ?_
      | refine W48 ?_
      | (refine W49 (fun b => ?_))
      | (refine W50 (fun b => ?_))
      | (refine W51 (fun b => ?_))
      | (refine W52 (fun b2 => ?_)))
    | (refine XC.is ?_; first
      | refine W82 ?_
      | refine W83 ?_
      | refine W84 ?_
      | refine W85 ?_
      | refine W86 ?_
      | refine W87 ?_
      | (refine W88 ?_; first
        | (refine W89 (fun h => ?_) (fun h => ?_) <;> try (first | (exfalso; omega) | exact absurd rfl h | (exfalso; simp at h <;> omega)))
        | refine W90 ?_
        | refine W91 ?_)
      | (refine W92 ?_; first
        | refine W93 ?_
        | (refine XC.planG (by kernel_rfl) (fun _ m h => h.drewn m) ?_; (conv => arg 5; reduce); refine XG0.of ?_; (conv => arg 5; reduce); (conv => arg 6; reduce); refine XG.go (by decide +kernel) ?_)))
    | (refine XQ.is ?_; first
      | refine W94 ?_
      | refine W95 ?_
      | (refine W96 ?_; refine W97 ?_)
      | refine W98 ?_
      | refine W99 ?_
      | refine W100 ?_
      | refine W101 ?_
      | refine W102 ?_
      | refine W103 ?_
      | refine W104 ?_
      | refine W105 ?_
      | refine W106 ?_
      | (refine W107 ?_; refine W108 ?_))
    | (refine XS.is ?_; first
      | (refine W53 ?_; refine W54 ?_)
      | (refine W55 ?_; first
        | refine W56 ?_
        | (refine W57 (fun h => ?_) (fun h => ?_) <;> try (first | (exfalso; omega) | exact absurd rfl h | (exfalso; simp at h <;> omega)))
        | refine W58 ?_
        | (refine W59 ?_; first
          | refine W60 ?_
          | refine W61 ?_
          | refine W62 ?_
          | refine W63 ?_
          | refine W64 ?_
          | refine W65 ?_)
        | (refine W66 ?_; first
          | refine W67 ?_
          | refine W68 ?_
          | refine W69 ?_)
        | (refine W70 ?_; first
          | refine W71 ?_
          | refine W72 ?_
          | refine W73 ?_
          | refine W74 ?_
          | refine W69 ?_)
        | (refine W75 ?_; first
          | refine W76 ?_
          | refine W69 ?_)
        | refine W69 ?_)
      | refine W77 ?_
      | (refine W78 ?_; refine W79 ?_ ?_)
      | (refine W80 ?_; refine W81 ?_ ?_ ?_)))
  refine XL.trir (gen14_tri hp hw) (by rfl) (by rfl) (by rfl) (by rfl) (by rfl) (by rfl) (by rfl) (by (repeat' (first | exact Sels.nil | exact Sel.here | apply Sels.cons | apply Sel.there)); done) (by (repeat (first | exact sub0 | refine subC (by repeat (first | exact List.Mem.head _ | apply List.Mem.tail)) ?_)); done) ?_
  rintro ⟨v1, l1⟩ h1
  dsimp only at h1
  conv => arg 9; dsimp only [List.cons_append, List.nil_append]
  try conv => arg 7; dsimp only
  repeat' (first
    | (refine XL.is ?_; first
      | refine W1 ?_
      | (refine W2 (fun h => ?_) (fun h => ?_) <;> try (first | (exfalso; omega) | exact absurd rfl h | (exfalso; simp at h <;> omega)))
      | refine W3 ?_
      | (refine W4 ?_; first
        | refine W5 ?_
        | refine W6 ?_
        | refine W7 ?_
        | refine W8 ?_
        | refine W9 ?_
        | refine W10 ?_
        | refine W11 ?_)
      | (refine W12 ?_; first
        | refine W13 ?_
        | refine W14 ?_
        | refine W15 ?_
        | refine W16 ?_
        | refine W11 ?_)
      | (refine W17 ?_; first
        | refine W18 ?_
        | refine W19 ?_
        | refine W20 ?_
        | refine W21 ?_
        | refine W22 ?_
        | refine W11 ?_)
      | (refine W23 ?_; first
        | refine W24 ?_
        | refine W25 ?_)
      | (refine W26 ?_; first
        | refine W27 ?_
        | refine W28 ?_
        | refine W29 ?_
        | refine W30 ?_
        | refine W31 ?_)
      | refine XL.pure 1 (by rfl) ?_
      | refine W32 ?_
      | (refine W33 ?_; first
        | refine W34 ?_
        | refine W35 ?_
        | refine W36 ?_
        | refine W37 ?_
        | refine W38 ?_
        | refine W39 ?_
        | refine W40 ?_
        | refine W41 ?_
        | refine W42 ?_
        | refine W43 ?_
        | refine W44 ?_
        | refine W45 ?_
        | refine W46 ?_)
      | refine W47 ?_
      | refine W48 ?_
      | (refine W49 (fun b => ?_))
      | (refine W50 (fun b => ?_))
      | (refine W51 (fun b => ?_))
      | (refine W52 (fun b2 => ?_)))
    | (refine XC.is ?_; first
      | refine W82 ?_
      | refine W83 ?_
      | refine W84 ?_
      | refine W85 ?_
      | refine W86 ?_
      | refine W87 ?_
      | (refine W88 ?_; first
        | (refine W89 (fun h => ?_) (fun h => ?_) <;> try (first | (exfalso; omega) | exact absurd rfl h | (exfalso; simp at h <;> omega)))
        | refine W90 ?_
        | refine W91 ?_)
      | (refine W92 ?_; first
        | refine W93 ?_
        | (refine XC.planG (by kernel_rfl) (fun _ m h => h.drewn m) ?_; (conv => arg 5; reduce); refine XG0.of ?_; (conv => arg 5; reduce); (conv => arg 6; reduce); refine XG.go (by decide +kernel) ?_)))
    | (refine XQ.is ?_; first
      | refine W94 ?_
      | refine W95 ?_
      | (refine W96 ?_; refine W97 ?_)
      | refine W98 ?_
      | refine W99 ?_
      | refine W100 ?_
      | refine W101 ?_
      | refine W102 ?_
      | refine W103 ?_
      | refine W104 ?_
      | refine W105 ?_
      | refine W106 ?_
      | (refine W107 ?_; refine W108 ?_))
    | (refine XS.is ?_; first
      | (refine W53 ?_; refine W54 ?_)
      | (refine W55 ?_; first
        | refine W56 ?_
        | (refine W57 (fun h => ?_) (fun h => ?_) <;> try (first | (exfalso; omega) | exact absurd rfl h | (exfalso; simp at h <;> omega)))
        | refine W58 ?_
        | (refine W59 ?_; first
          | refine W60 ?_
          | refine W61 ?_
          | refine W62 ?_
          | refine W63 ?_
          | refine W64 ?_
          | refine W65 ?_)
        | (refine W66 ?_; first
          | refine W67 ?_
          | refine W68 ?_
          | refine W69 ?_)
        | (refine W70 ?_; first
          | refine W71 ?_
          | refine W72 ?_
          | refine W73 ?_
          | refine W74 ?_
          | refine W69 ?_)
        | (refine W75 ?_; first
          | refine W76 ?_
          | refine W69 ?_)
        | refine W69 ?_)
      | refine W77 ?_
      | (refine W78 ?_; refine W79 ?_ ?_)
      | (refine W80 ?_; refine W81 ?_ ?_ ?_)))
  have hbig : l1.length ≤ 10000000000 := by have := genS_len hp; rw [← h1, List.length_map] at this; exact this
  refine XC.loop (fun s : Nat × Value => [(2, .pointer (some ⟨bp, 0, none⟩)), (5, .bool true), (6, .int .i64 (n : Int)), (7, .pointer (some ⟨bq, 0, none⟩)), (9, v1), (10, s.2), (11, .int .i64 (s.1 : Int))])
    (fun s w => s.1 ≤ l1.length ∧ St c [rowO 43 9 s.2 ((l1.take s.1).filter (fun C => decide (C.p.fn = (n : Int)))).length (conC ((l1.take s.1).filter (fun C => decide (C.p.fn = (n : Int))))), cel bq #[p.sites, .slice vp fl.length vc, .int .i64 p.main] 25, cel bp #[p.sites, p.fns, .int .i64 p.main] 25]
      [argsFP ((l1.take s.1).filter (fun C => decide (C.p.fn = (n : Int)))), consFP v1 l1, progFP (onesQ p fl (.slice vp fl.length vc)), progFP p] w)
    (fun s => l1.length - s.1) (0, .slice none 0 0) (by (repeat (first | exact fits_nil | refine fits_cons (by rfl) ?_)); done) (fun w h => ⟨Nat.zero_le _, ((h.nilRow 43 9).argsNil).less (by (repeat' (first | exact Sels.nil | exact Sel.here | apply Sels.cons | apply Sel.there)); done) (by (repeat (first | exact sub0 | refine subC (by repeat (first | exact List.Mem.head _ | apply List.Mem.tail)) ?_)); done)⟩) ?_
  rintro ⟨i, v⟩
  dsimp only
  refine XC.pure (fun hi2 => ?_)
  by_cases hlt2 : i < l1.length
  · obtain ⟨C, hC, mC⟩ := get_of_lt hlt2
    have aC := con_at hC
    have hm : ((l1.take i).filter (fun C => decide (C.p.fn = (n : Int)))).length ≤ 10000000000 := Nat.le_trans (List.length_filter_le _ _) (by simp; omega)
    refine XC.ex (B := fun (x : Option Addr × Nat) w => C.args = .slice x.1 C.p.args.length x.2 ∧ St c _ _ w) (fun w h => by
      obtain ⟨q, cap, e⟩ := (h.conArgs mC (.tail _ (List.Mem.head _))).len
      exact ⟨(q, cap), e, h⟩) ?_
    rintro ⟨qa, qc⟩
    refine XC.pure (fun ea => ?_)
    have o3 : onesL C.cells = true := by simp [onesL, ConM.cells, ea, Value.oneCell']
    by_cases hfn : C.p.fn = (n : Int)
    · have hstep : (l1.take (i + 1)).filter (fun C => decide (C.p.fn = (n : Int))) = (l1.take i).filter (fun C => decide (C.p.fn = (n : Int))) ++ [C] := by
        rw [List.take_add_one, hC, List.filter_append]
        simp [hfn]
      generalize (l1.take i).filter (fun C => decide (C.p.fn = (n : Int))) = m at hstep hm ⊢
      repeat' (first
        | (refine XL.is ?_; first
          | refine W1 ?_
          | (refine W2 (fun h => ?_) (fun h => ?_) <;> try (first | (exfalso; omega) | exact absurd rfl h | (exfalso; simp at h <;> omega)))
          | refine W3 ?_
          | (refine W4 ?_; first
            | refine W5 ?_
            | refine W6 ?_
            | refine W7 ?_
            | refine W8 ?_
            | refine W9 ?_
            | refine W10 ?_
            | refine W11 ?_)
          | (refine W12 ?_; first
            | refine W13 ?_
            | refine W14 ?_
            | refine W15 ?_
            | refine W16 ?_
            | refine W11 ?_)
          | (refine W17 ?_; first
            | refine W18 ?_
            | refine W19 ?_
            | refine W20 ?_
            | refine W21 ?_
            | refine W22 ?_
            | refine W11 ?_)
          | (refine W23 ?_; first
            | refine W24 ?_
            | refine W25 ?_)
          | (refine W26 ?_; first
            | refine W27 ?_
            | refine W28 ?_
            | refine W29 ?_
            | refine W30 ?_
            | refine W31 ?_)
          | refine XL.pure 1 (by rfl) ?_
          | refine W32 ?_
          | (refine W33 ?_; first
            | refine W34 ?_
            | refine W35 ?_
            | refine W36 ?_
            | refine W37 ?_
            | refine W38 ?_
            | refine W39 ?_
            | refine W40 ?_
            | refine W41 ?_
            | refine W42 ?_
            | refine W43 ?_
            | refine W44 ?_
            | refine W45 ?_
            | refine W46 ?_)
          | refine W47 ?_
          | refine W48 ?_
          | (refine W49 (fun b => ?_))
          | (refine W50 (fun b => ?_))
          | (refine W51 (fun b => ?_))
          | (refine W52 (fun b2 => ?_)))
        | (refine XC.is ?_; first
          | refine W82 ?_
          | refine W83 ?_
          | refine W84 ?_
          | refine W85 ?_
          | refine W86 ?_
          | refine W87 ?_
          | (refine W88 ?_; first
            | (refine W89 (fun h => ?_) (fun h => ?_) <;> try (first | (exfalso; omega) | exact absurd rfl h | (exfalso; simp at h <;> omega)))
            | refine W90 ?_
            | refine W91 ?_)
          | (refine W92 ?_; first
            | refine W93 ?_
            | (refine XC.planG (by kernel_rfl) (fun _ m h => h.drewn m) ?_; (conv => arg 5; reduce); refine XG0.of ?_; (conv => arg 5; reduce); (conv => arg 6; reduce); refine XG.go (by decide +kernel) ?_)))
        | (refine XQ.is ?_; first
          | refine W94 ?_
          | refine W95 ?_
          | (refine W96 ?_; refine W97 ?_)
          | refine W98 ?_
          | refine W99 ?_
          | refine W100 ?_
          | refine W101 ?_
          | refine W102 ?_
          | refine W103 ?_
          | refine W104 ?_
          | refine W105 ?_
          | refine W106 ?_
          | (refine W107 ?_; refine W108 ?_))
        | (refine XS.is ?_; first
          | (refine W53 ?_; refine W54 ?_)
          | (refine W55 ?_; first
            | refine W56 ?_
            | (refine W57 (fun h => ?_) (fun h => ?_) <;> try (first | (exfalso; omega) | exact absurd rfl h | (exfalso; simp at h <;> omega)))
            | refine W58 ?_
            | (refine W59 ?_; first
              | refine W60 ?_
              | refine W61 ?_
              | refine W62 ?_
              | refine W63 ?_
              | refine W64 ?_
              | refine W65 ?_)
            | (refine W66 ?_; first
              | refine W67 ?_
              | refine W68 ?_
              | refine W69 ?_)
            | (refine W70 ?_; first
              | refine W71 ?_
              | refine W72 ?_
              | refine W73 ?_
              | refine W74 ?_
              | refine W69 ?_)
            | (refine W75 ?_; first
              | refine W76 ?_
              | refine W69 ?_)
            | refine W69 ?_)
          | refine W77 ?_
          | (refine W78 ?_; refine W79 ?_ ?_)
          | (refine W80 ?_; refine W81 ?_ ?_ ?_)))
      refine XL.appendS (us := C.cells) (by rfl) (by rfl) (by rfl) (by rfl) (by rfl) (by rfl) (by rfl) (by repeat (first | exact Sel.here | apply Sel.there)) (by repeat (first | exact Sel.here | apply Sel.there)) ⟨_, (by repeat (first | exact Sel.here | apply Sel.there))⟩ (by rfl) (Nat.le_refl _) rfl o3 (by rfl) (by omega) rfl (by rw [conC_app]) (fun v' => ?_)
      refine XL.conv (fun w h => h.argsOne (C := C) (List.Mem.head _) fun O hΦ => hΦ _ (.tail _ (List.Mem.head _)) C.fp (.tail _ (List.mem_map.2 ⟨C, mC, rfl⟩))) ?_
      repeat' (first
        | (refine XL.is ?_; first
          | refine W1 ?_
          | (refine W2 (fun h => ?_) (fun h => ?_) <;> try (first | (exfalso; omega) | exact absurd rfl h | (exfalso; simp at h <;> omega)))
          | refine W3 ?_
          | (refine W4 ?_; first
            | refine W5 ?_
            | refine W6 ?_
            | refine W7 ?_
            | refine W8 ?_
            | refine W9 ?_
            | refine W10 ?_
            | refine W11 ?_)
          | (refine W12 ?_; first
            | refine W13 ?_
            | refine W14 ?_
            | refine W15 ?_
            | refine W16 ?_
            | refine W11 ?_)
          | (refine W17 ?_; first
            | refine W18 ?_
            | refine W19 ?_
            | refine W20 ?_
            | refine W21 ?_
            | refine W22 ?_
            | refine W11 ?_)
          | (refine W23 ?_; first
            | refine W24 ?_
            | refine W25 ?_)
          | (refine W26 ?_; first
            | refine W27 ?_
            | refine W28 ?_
            | refine W29 ?_
            | refine W30 ?_
            | refine W31 ?_)
          | refine XL.pure 1 (by rfl) ?_
          | refine W32 ?_
          | (refine W33 ?_; first
            | refine W34 ?_
            | refine W35 ?_
            | refine W36 ?_
            | refine W37 ?_
            | refine W38 ?_
            | refine W39 ?_
            | refine W40 ?_
            | refine W41 ?_
            | refine W42 ?_
            | refine W43 ?_
            | refine W44 ?_
            | refine W45 ?_
            | refine W46 ?_)
          | refine W47 ?_
          | refine W48 ?_
          | (refine W49 (fun b => ?_))
          | (refine W50 (fun b => ?_))
          | (refine W51 (fun b => ?_))
          | (refine W52 (fun b2 => ?_)))
        | (refine XC.is ?_; first
          | refine W82 ?_
          | refine W83 ?_
          | refine W84 ?_
          | refine W85 ?_
          | refine W86 ?_
          | refine W87 ?_
          | (refine W88 ?_; first
            | (refine W89 (fun h => ?_) (fun h => ?_) <;> try (first | (exfalso; omega) | exact absurd rfl h | (exfalso; simp at h <;> omega)))
            | refine W90 ?_
            | refine W91 ?_)
          | (refine W92 ?_; first
            | refine W93 ?_
            | (refine XC.planG (by kernel_rfl) (fun _ m h => h.drewn m) ?_; (conv => arg 5; reduce); refine XG0.of ?_; (conv => arg 5; reduce); (conv => arg 6; reduce); refine XG.go (by decide +kernel) ?_)))
        | (refine XQ.is ?_; first
          | refine W94 ?_
          | refine W95 ?_
          | (refine W96 ?_; refine W97 ?_)
          | refine W98 ?_
          | refine W99 ?_
          | refine W100 ?_
          | refine W101 ?_
          | refine W102 ?_
          | refine W103 ?_
          | refine W104 ?_
          | refine W105 ?_
          | refine W106 ?_
          | (refine W107 ?_; refine W108 ?_))
        | (refine XS.is ?_; first
          | (refine W53 ?_; refine W54 ?_)
          | (refine W55 ?_; first
            | refine W56 ?_
            | (refine W57 (fun h => ?_) (fun h => ?_) <;> try (first | (exfalso; omega) | exact absurd rfl h | (exfalso; simp at h <;> omega)))
            | refine W58 ?_
            | (refine W59 ?_; first
              | refine W60 ?_
              | refine W61 ?_
              | refine W62 ?_
              | refine W63 ?_
              | refine W64 ?_
              | refine W65 ?_)
            | (refine W66 ?_; first
              | refine W67 ?_
              | refine W68 ?_
              | refine W69 ?_)
            | (refine W70 ?_; first
              | refine W71 ?_
              | refine W72 ?_
              | refine W73 ?_
              | refine W74 ?_
              | refine W69 ?_)
            | (refine W75 ?_; first
              | refine W76 ?_
              | refine W69 ?_)
            | refine W69 ?_)
          | refine W77 ?_
          | (refine W78 ?_; refine W79 ?_ ?_)
          | (refine W80 ?_; refine W81 ?_ ?_ ?_)))
      refine XQ.round (i + 1, v') (by (repeat (first | exact fits_nil | refine fits_cons (by rfl) ?_)); done) (fun w hw => ⟨by dsimp only; omega, ?_⟩) (by dsimp only; omega)
      dsimp only
      rw [hstep, List.length_append]
      exact hw.less (by (repeat' (first | exact Sels.nil | exact Sel.here | apply Sels.cons | apply Sel.there)); done) (by (repeat (first | exact sub0 | refine subC (by repeat (first | exact List.Mem.head _ | apply List.Mem.tail)) ?_)); done)
    · have hstep : (l1.take (i + 1)).filter (fun C => decide (C.p.fn = (n : Int))) = (l1.take i).filter (fun C => decide (C.p.fn = (n : Int))) := by
        rw [List.take_add_one, hC, List.filter_append]
        simp [hfn]
      generalize (l1.take i).filter (fun C => decide (C.p.fn = (n : Int))) = m at hstep hm ⊢
      repeat' (first
        | (refine XL.is ?_; first
          | refine W1 ?_
          | (refine W2 (fun h => ?_) (fun h => ?_) <;> try (first | (exfalso; omega) | exact absurd rfl h | (exfalso; simp at h <;> omega)))
          | refine W3 ?_
          | (refine W4 ?_; first
            | refine W5 ?_
            | refine W6 ?_
            | refine W7 ?_
            | refine W8 ?_
            | refine W9 ?_
            | refine W10 ?_
            | refine W11 ?_)
          | (refine W12 ?_; first
            | refine W13 ?_
            | refine W14 ?_
            | refine W15 ?_
            | refine W16 ?_
            | refine W11 ?_)
          | (refine W17 ?_; first
            | refine W18 ?_
            | refine W19 ?_
            | refine W20 ?_
            | refine W21 ?_
            | refine W22 ?_
            | refine W11 ?_)
          | (refine W23 ?_; first
            | refine W24 ?_
            | refine W25 ?_)
          | (refine W26 ?_; first
            | refine W27 ?_
            | refine W28 ?_
            | refine W29 ?_
            | refine W30 ?_
            | refine W31 ?_)
          | refine XL.pure 1 (by rfl) ?_
          | refine W32 ?_
          | (refine W33 ?_; first
            | refine W34 ?_
            | refine W35 ?_
            | refine W36 ?_
            | refine W37 ?_
            | refine W38 ?_
            | refine W39 ?_
            | refine W40 ?_
            | refine W41 ?_
            | refine W42 ?_
            | refine W43 ?_
            | refine W44 ?_
            | refine W45 ?_
            | refine W46 ?_)
          | refine W47 ?_
          | refine W48 ?_
          | (refine W49 (fun b => ?_))
          | (refine W50 (fun b => ?_))
          | (refine W51 (fun b => ?_))
          | (refine W52 (fun b2 => ?_)))
        | (refine XC.is ?_; first
          | refine W82 ?_
          | refine W83 ?_
          | refine W84 ?_
          | refine W85 ?_
          | refine W86 ?_
          | refine W87 ?_
          | (refine W88 ?_; first
            | (refine W89 (fun h => ?_) (fun h => ?_) <;> try (first | (exfalso; omega) | exact absurd rfl h | (exfalso; simp at h <;> omega)))
            | refine W90 ?_
            | refine W91 ?_)
          | (refine W92 ?_; first
            | refine W93 ?_
            | (refine XC.planG (by kernel_rfl) (fun _ m h => h.drewn m) ?_; (conv => arg 5; reduce); refine XG0.of ?_; (conv => arg 5; reduce); (conv => arg 6; reduce); refine XG.go (by decide +kernel) ?_)))
        | (refine XQ.is ?_; first
          | refine W94 ?_
          | refine W95 ?_
          | (refine W96 ?_; refine W97 ?_)
          | refine W98 ?_
          | refine W99 ?_
          | refine W100 ?_
          | refine W101 ?_
          | refine W102 ?_
          | refine W103 ?_
          | refine W104 ?_
          | refine W105 ?_
          | refine W106 ?_
          | (refine W107 ?_; refine W108 ?_))
        | (refine XS.is ?_; first
          | (refine W53 ?_; refine W54 ?_)
          | (refine W55 ?_; first
            | refine W56 ?_
            | (refine W57 (fun h => ?_) (fun h => ?_) <;> try (first | (exfalso; omega) | exact absurd rfl h | (exfalso; simp at h <;> omega)))
            | refine W58 ?_
            | (refine W59 ?_; first
              | refine W60 ?_
              | refine W61 ?_
              | refine W62 ?_
              | refine W63 ?_
              | refine W64 ?_
              | refine W65 ?_)
            | (refine W66 ?_; first
              | refine W67 ?_
              | refine W68 ?_
              | refine W69 ?_)
            | (refine W70 ?_; first
              | refine W71 ?_
              | refine W72 ?_
              | refine W73 ?_
              | refine W74 ?_
              | refine W69 ?_)
            | (refine W75 ?_; first
              | refine W76 ?_
              | refine W69 ?_)
            | refine W69 ?_)
          | refine W77 ?_
          | (refine W78 ?_; refine W79 ?_ ?_)
          | (refine W80 ?_; refine W81 ?_ ?_ ?_)))
      refine XQ.round (i + 1, v) (by (repeat (first | exact fits_nil | refine fits_cons (by rfl) ?_)); done) (fun w hw => ⟨by dsimp only; omega, ?_⟩) (by dsimp only; omega)
      dsimp only
      rw [hstep]
      exact hw
  have e : i = l1.length := by omega
  subst e
  rw [List.take_length]
  refine XC.conv (fun w h => h.consDone .here (List.Mem.head _)) ?_
  repeat' (first
    | (refine XL.is ?_; first
      | refine W1 ?_
      | (refine W2 (fun h => ?_) (fun h => ?_) <;> try (first | (exfalso; omega) | exact absurd rfl h | (exfalso; simp at h <;> omega)))
      | refine W3 ?_
      | (refine W4 ?_; first
        | refine W5 ?_
        | refine W6 ?_
        | refine W7 ?_
        | refine W8 ?_
        | refine W9 ?_
        | refine W10 ?_
        | refine W11 ?_)
      | (refine W12 ?_; first
        | refine W13 ?_
        | refine W14 ?_
        | refine W15 ?_
        | refine W16 ?_
        | refine W11 ?_)
      | (refine W17 ?_; first
        | refine W18 ?_
        | refine W19 ?_
        | refine W20 ?_
        | refine W21 ?_
        | refine W22 ?_
        | refine W11 ?_)
      | (refine W23 ?_; first
        | refine W24 ?_
        | refine W25 ?_)
      | (refine W26 ?_; first
        | refine W27 ?_
        | refine W28 ?_
        | refine W29 ?_
        | refine W30 ?_
        | refine W31 ?_)
      | refine XL.pure 1 (by rfl) ?_
      | refine W32 ?_
      | (refine W33 ?_; first
        | refine W34 ?_
        | refine W35 ?_
        | refine W36 ?_
        | refine W37 ?_
        | refine W38 ?_
        | refine W39 ?_
        | refine W40 ?_
        | refine W41 ?_
        | refine W42 ?_
        | refine W43 ?_
        | refine W44 ?_
        | refine W45 ?_
        | refine W46 ?_)
      | refine W47 ?_
      | refine W48 ?_
      | (refine W49 (fun b => ?_))
      | (refine W50 (fun b => ?_))
      | (refine W51 (fun b => ?_))
      | (refine W52 (fun b2 => ?_)))
    | (refine XC.is ?_; first
      | refine W82 ?_
      | refine W83 ?_
      | refine W84 ?_
      | refine W85 ?_
      | refine W86 ?_
      | refine W87 ?_
      | (refine W88 ?_; first
        | (refine W89 (fun h => ?_) (fun h => ?_) <;> try (first | (exfalso; omega) | exact absurd rfl h | (exfalso; simp at h <;> omega)))
        | refine W90 ?_
        | refine W91 ?_)
      | (refine W92 ?_; first
        | refine W93 ?_
        | (refine XC.planG (by kernel_rfl) (fun _ m h => h.drewn m) ?_; (conv => arg 5; reduce); refine XG0.of ?_; (conv => arg 5; reduce); (conv => arg 6; reduce); refine XG.go (by decide +kernel) ?_)))
    | (refine XQ.is ?_; first
      | refine W94 ?_
      | refine W95 ?_
      | (refine W96 ?_; refine W97 ?_)
      | refine W98 ?_
      | refine W99 ?_
      | refine W100 ?_
      | refine W101 ?_
      | refine W102 ?_
      | refine W103 ?_
      | refine W104 ?_
      | refine W105 ?_
      | refine W106 ?_
      | (refine W107 ?_; refine W108 ?_))
    | (refine XS.is ?_; first
      | (refine W53 ?_; refine W54 ?_)
      | (refine W55 ?_; first
        | refine W56 ?_
        | (refine W57 (fun h => ?_) (fun h => ?_) <;> try (first | (exfalso; omega) | exact absurd rfl h | (exfalso; simp at h <;> omega)))
        | refine W58 ?_
        | (refine W59 ?_; first
          | refine W60 ?_
          | refine W61 ?_
          | refine W62 ?_
          | refine W63 ?_
          | refine W64 ?_
          | refine W65 ?_)
        | (refine W66 ?_; first
          | refine W67 ?_
          | refine W68 ?_
          | refine W69 ?_)
        | (refine W70 ?_; first
          | refine W71 ?_
          | refine W72 ?_
          | refine W73 ?_
          | refine W74 ?_
          | refine W69 ?_)
        | (refine W75 ?_; first
          | refine W76 ?_
          | refine W69 ?_)
        | refine W69 ?_)
      | refine W77 ?_
      | (refine W78 ?_; refine W79 ?_ ?_)
      | (refine W80 ?_; refine W81 ?_ ?_ ?_)))
  refine XL.trir (gen14_tri hq hwq) (by rfl) (by rfl) (by rfl) (by rfl) (by rfl) (by rfl) (by rfl) (by (repeat' (first | exact Sels.nil | exact Sel.here | apply Sels.cons | apply Sel.there)); done) (by (repeat (first | exact sub0 | refine subC (by repeat (first | exact List.Mem.head _ | apply List.Mem.tail)) ?_)); done) ?_
  rintro ⟨v2, l2⟩ h2
  dsimp only at h2
  conv => arg 9; dsimp only [List.cons_append, List.nil_append]
  try conv => arg 7; dsimp only
  repeat' (first
    | (refine XL.is ?_; first
      | refine W1 ?_
      | (refine W2 (fun h => ?_) (fun h => ?_) <;> try (first | (exfalso; omega) | exact absurd rfl h | (exfalso; simp at h <;> omega)))
      | refine W3 ?_
      | (refine W4 ?_; first
        | refine W5 ?_
        | refine W6 ?_
        | refine W7 ?_
        | refine W8 ?_
        | refine W9 ?_
        | refine W10 ?_
        | refine W11 ?_)
      | (refine W12 ?_; first
        | refine W13 ?_
        | refine W14 ?_
        | refine W15 ?_
        | refine W16 ?_
        | refine W11 ?_)
      | (refine W17 ?_; first
        | refine W18 ?_
        | refine W19 ?_
        | refine W20 ?_
        | refine W21 ?_
        | refine W22 ?_
        | refine W11 ?_)
      | (refine W23 ?_; first
        | refine W24 ?_
        | refine W25 ?_)
      | (refine W26 ?_; first
        | refine W27 ?_
        | refine W28 ?_
        | refine W29 ?_
        | refine W30 ?_
        | refine W31 ?_)
      | refine XL.pure 1 (by rfl) ?_
      | refine W32 ?_
      | (refine W33 ?_; first
        | refine W34 ?_
        | refine W35 ?_
        | refine W36 ?_
        | refine W37 ?_
        | refine W38 ?_
        | refine W39 ?_
        | refine W40 ?_
        | refine W41 ?_
        | refine W42 ?_
        | refine W43 ?_
        | refine W44 ?_
        | refine W45 ?_
        | refine W46 ?_)
      | refine W47 ?_
      | refine W48 ?_
      | (refine W49 (fun b => ?_))
      | (refine W50 (fun b => ?_))
      | (refine W51 (fun b => ?_))
      | (refine W52 (fun b2 => ?_)))
    | (refine XC.is ?_; first
      | refine W82 ?_
      | refine W83 ?_
      | refine W84 ?_
      | refine W85 ?_
      | refine W86 ?_
      | refine W87 ?_
      | (refine W88 ?_; first
        | (refine W89 (fun h => ?_) (fun h => ?_) <;> try (first | (exfalso; omega) | exact absurd rfl h | (exfalso; simp at h <;> omega)))
        | refine W90 ?_
        | refine W91 ?_)
      | (refine W92 ?_; first
        | refine W93 ?_
        | (refine XC.planG (by kernel_rfl) (fun _ m h => h.drewn m) ?_; (conv => arg 5; reduce); refine XG0.of ?_; (conv => arg 5; reduce); (conv => arg 6; reduce); refine XG.go (by decide +kernel) ?_)))
    | (refine XQ.is ?_; first
      | refine W94 ?_
      | refine W95 ?_
      | (refine W96 ?_; refine W97 ?_)
      | refine W98 ?_
      | refine W99 ?_
      | refine W100 ?_
      | refine W101 ?_
      | refine W102 ?_
      | refine W103 ?_
      | refine W104 ?_
      | refine W105 ?_
      | refine W106 ?_
      | (refine W107 ?_; refine W108 ?_))
    | (refine XS.is ?_; first
      | (refine W53 ?_; refine W54 ?_)
      | (refine W55 ?_; first
        | refine W56 ?_
        | (refine W57 (fun h => ?_) (fun h => ?_) <;> try (first | (exfalso; omega) | exact absurd rfl h | (exfalso; simp at h <;> omega)))
        | refine W58 ?_
        | (refine W59 ?_; first
          | refine W60 ?_
          | refine W61 ?_
          | refine W62 ?_
          | refine W63 ?_
          | refine W64 ?_
          | refine W65 ?_)
        | (refine W66 ?_; first
          | refine W67 ?_
          | refine W68 ?_
          | refine W69 ?_)
        | (refine W70 ?_; first
          | refine W71 ?_
          | refine W72 ?_
          | refine W73 ?_
          | refine W74 ?_
          | refine W69 ?_)
        | (refine W75 ?_; first
          | refine W76 ?_
          | refine W69 ?_)
        | refine W69 ?_)
      | refine W77 ?_
      | (refine W78 ?_; refine W79 ?_ ?_)
      | (refine W80 ?_; refine W81 ?_ ?_ ?_)))
  have hsame : l2.map (·.p) = (l1.filter (fun C => decide (C.p.fn = (n : Int)))).map (·.p) := by
    rw [h2, hO.law, ← h1, List.filter_map]
    rfl
  refine XL.triq (same_tri (la := l2) (lb := l1.filter (fun C => decide (C.p.fn = (n : Int)))) hsame (by have := genS_len hq; rw [← h2, List.length_map] at this; exact this) (by rw [h2]; exact genS_args hq)) (by rfl) (by rfl) (by rfl) (by rfl) (by rfl) (by rfl) (by rfl) (by (repeat' (first | exact Sels.nil | exact Sel.here | apply Sels.cons | apply Sel.there)); done) (by (repeat' (first | exact Sels.nil | exact Sel.here | apply Sels.cons | apply Sel.there)); done) (by (repeat (first | exact sub0 | refine subC (by repeat (first | exact List.Mem.head _ | apply List.Mem.tail)) ?_)); done) ?_
  repeat' (first
    | (refine XL.is ?_; first
      | refine W1 ?_
      | (refine W2 (fun h => ?_) (fun h => ?_) <;> try (first | (exfalso; omega) | exact absurd rfl h | (exfalso; simp at h <;> omega)))
      | refine W3 ?_
      | (refine W4 ?_; first
        | refine W5 ?_
        | refine W6 ?_
        | refine W7 ?_
        | refine W8 ?_
        | refine W9 ?_
        | refine W10 ?_
        | refine W11 ?_)
      | (refine W12 ?_; first
        | refine W13 ?_
        | refine W14 ?_
        | refine W15 ?_
        | refine W16 ?_
        | refine W11 ?_)
      | (refine W17 ?_; first
        | refine W18 ?_
        | refine W19 ?_
        | refine W20 ?_
        | refine W21 ?_
        | refine W22 ?_
        | refine W11 ?_)
      | (refine W23 ?_; first
        | refine W24 ?_
        | refine W25 ?_)
      | (refine W26 ?_; first
        | refine W27 ?_
        | refine W28 ?_
        | refine W29 ?_
        | refine W30 ?_
        | refine W31 ?_)
      | refine XL.pure 1 (by rfl) ?_
      | refine W32 ?_
      | (refine W33 ?_; first
        | refine W34 ?_
        | refine W35 ?_
        | refine W36 ?_
        | refine W37 ?_
        | refine W38 ?_
        | refine W39 ?_
        | refine W40 ?_
        | refine W41 ?_
        | refine W42 ?_
        | refine W43 ?_
        | refine W44 ?_
        | refine W45 ?_
        | refine W46 ?_)
      | refine W47 ?_
      | refine W48 ?_
      | (refine W49 (fun b => ?_))
      | (refine W50 (fun b => ?_))
      | (refine W51 (fun b => ?_))
      | (refine W52 (fun b2 => ?_)))
    | (refine XC.is ?_; first
      | refine W82 ?_
      | refine W83 ?_
      | refine W84 ?_
      | refine W85 ?_
      | refine W86 ?_
      | refine W87 ?_
      | (refine W88 ?_; first
        | (refine W89 (fun h => ?_) (fun h => ?_) <;> try (first | (exfalso; omega) | exact absurd rfl h | (exfalso; simp at h <;> omega)))
        | refine W90 ?_
        | refine W91 ?_)
      | (refine W92 ?_; first
        | refine W93 ?_
        | (refine XC.planG (by kernel_rfl) (fun _ m h => h.drewn m) ?_; (conv => arg 5; reduce); refine XG0.of ?_; (conv => arg 5; reduce); (conv => arg 6; reduce); refine XG.go (by decide +kernel) ?_)))
    | (refine XQ.is ?_; first
      | refine W94 ?_
      | refine W95 ?_
      | (refine W96 ?_; refine W97 ?_)
      | refine W98 ?_
      | refine W99 ?_
      | refine W100 ?_
      | refine W101 ?_
      | refine W102 ?_
      | refine W103 ?_
      | refine W104 ?_
      | refine W105 ?_
      | refine W106 ?_
      | (refine W107 ?_; refine W108 ?_))
    | (refine XS.is ?_; first
      | (refine W53 ?_; refine W54 ?_)
      | (refine W55 ?_; first
        | refine W56 ?_
        | (refine W57 (fun h => ?_) (fun h => ?_) <;> try (first | (exfalso; omega) | exact absurd rfl h | (exfalso; simp at h <;> omega)))
        | refine W58 ?_
        | (refine W59 ?_; first
          | refine W60 ?_
          | refine W61 ?_
          | refine W62 ?_
          | refine W63 ?_
          | refine W64 ?_
          | refine W65 ?_)
        | (refine W66 ?_; first
          | refine W67 ?_
          | refine W68 ?_
          | refine W69 ?_)
        | (refine W70 ?_; first
          | refine W71 ?_
          | refine W72 ?_
          | refine W73 ?_
          | refine W74 ?_
          | refine W69 ?_)
        | (refine W75 ?_; first
          | refine W76 ?_
          | refine W69 ?_)
        | refine W69 ?_)
      | refine W77 ?_
      | (refine W78 ?_; refine W79 ?_ ?_)
      | (refine W80 ?_; refine W81 ?_ ?_ ?_)))
  refine XQ.done1 (by rfl) (by rfl) (⟨rfl, rfl, rfl⟩) (by (repeat' (first | exact Sels.nil | exact Sel.here | apply Sels.cons | apply Sel.there)); done) (by (repeat (first | exact sub0 | refine subC (by repeat (first | exact List.Mem.head _ | apply List.Mem.tail)) ?_)); done)
end
theorem own : ownKnob Tryz.prog.godebug = none := by kernel_rfl
theorem genOnes_walk {p : ProgM} (hw : p.WF) {a1 : Int} (w1 : (Lit.int .u8 a1).wf = true) (W : World) (hΦ : (progFP p).h (fun _ => False) W) : Calls Tryz.prog 4 #[p.v, .int .u8 a1] W fun e W' => e = .returned (.bool true) ∧ RowKit.Below W.heap.size W W' :=
  Tri.top (genOnes_tri hw w1) (fun φ hφ => by rw [List.mem_singleton.1 hφ]; exact hΦ)
namespace genOnes
open Go.ChangeShapes Go.WideShapes Go.ChangeAt Go.RowKit
set_option maxRecDepth 100000 in
theorem lifted (os : Os) (started : os.Started) (H : Type) (enc : TypeId × Value → H) :
    ReturnsInHanded {} Tryz.checked os 4 .any (Rows.genOnesSpec.pre6 enc Tryz.prog Tryz.f4 Rows.genOnesRow.domain false) (Rows.genOnesSpec.post enc Tryz.prog Tryz.f4 false true false false) := by
  refine returnsInHanded_of_change_sized (C := Tryz.checked) own started (by kernel_rfl) Tryz.func4
    (ChangeSpec.witness6 (enc := enc) (C := Tryz.checked) false ⟨#[], #[.agg #[.slice none 0 0, .slice none 0 0, .int .i64 0], .int .u8 0], []⟩ 8 (by kernel_rfl) (by kernel_rfl) (by kernel_rfl) (by kernel_rfl)) ?_
  intro W base args ds gs before hval0 hW hcnd hwt _
  have hval : ∀ (j : Nat) t v, Tryz.f4.params[j]? = some t → args[j]? = some v → Value.okWide Tryz.prog W .any base t v := hval0
  have hW' := hW
  obtain ⟨p, q, hA0, hV, rfl, hfz, hnd⟩ := hW
  have hA : DataW.TrodAll enc Tryz.prog W 0 (fun _ => true) true Tryz.f4.params.toList args.toList ds p := hA0
  have hwt2 : (DataW.weightsEach Tryz.prog (Tryz.f4.params.toList ++ Rows.genOnesSpec.plain.varTypes Tryz.prog) (ds ++ gs)).all (· ≤ reachBytes) = true := hwt
  rw [Tryz.params4] at hA hval hwt2
  obtain ⟨v0, vs0, d0, ds0, p0, q0, hargs, rfl, rfl, h0, r0⟩ := trodAll_cons hA
  obtain ⟨v1, vs1, d1, ds1, p1, q1, rfl, rfl, rfl, h1, r1⟩ := trodAll_cons r0
  obtain ⟨rfl, rfl, rfl⟩ := trodAll_nil r1
  obtain rfl : args = #[v0, v1] := by cases args; simp_all
  obtain ⟨a1, rfl, rfl, rfl, w1⟩ := open_int Tryz.underlying5 (hval 1 5 v1 rfl rfl) h1
  obtain ⟨cs, hcs, _⟩ := okWide_struct Tryz.underlying25 (hval 0 25 v0 rfl rfl)
  obtain ⟨p, rfl, hwf, hΦ⟩ := openProg h0 ⟨cs, hcs⟩ (Wt.of_each hwt2 (j := 0) rfl rfl)
  refine (genOnes_walk hwf w1 W hΦ).mono fun e W' ⟨he, hg⟩ => ?_
  subst he
  exact ⟨_, rfl, law_post hW' rfl (by kernel_rfl) (fun t ht => by have ht : t ∈ [25, 5] := ht; simp only [List.mem_cons, List.not_mem_nil, or_false] at ht; rcases ht with rfl | rfl <;> exact ⟨by kernel_rfl, of_decide_eq_true (by kernel_rfl)⟩) (T := 4) (by rfl) Tryz.underlying4
    (fun ds hl => by match ds, hl with | [e0, e1], _ => exact ⟨rfl, rfl, rfl⟩) hg⟩
theorem over : Rows.genOnesRow.holds Tryz.pinned (OpenSpec.ofChange Rows.genOnesSpec) :=
  OpenClaim.holds_of_wide 4 Tryz.f4 rfl rfl rfl rfl rfl rfl rfl ⟨rfl, rfl, rfl, rfl, rfl⟩ rfl rfl rfl rfl rfl (by kernel_rfl) Tryz.func4 (by kernel_rfl)
    (of_decide_eq_true (by kernel_rfl)) (by unfold Func.isWrapper; first | (rw [if_pos (by decide +kernel)]; kernel_rfl) | (rw [if_neg (by decide +kernel)]; exact ⟨rfl, rfl⟩))
    (fun os started H enc _ => lifted os started H enc)
theorem proved : Rows.GenOnesSaid := over
end genOnes
#print axioms genOnes.proved
end Go.Proofs.YtafochlcnjeanaaGreat
