/- Law: a declared name with brackets is arrays, the first number outermost, of the type with its stars. -/
import Derived.Test.YtjnineeeffecaaaP43
import Derived.Test.YtjnineeeffecaaaP46
import Derived.Test.YtjnineeeffecaaaX51
namespace Go.Proofs.Ytjnineeeffecaaa
open Go X
set_option maxRecDepth 100000
set_option maxHeartbeats 4000000
def u8V (us : List Nat) : List Value := us.map fun n : Nat => .int .u8 (n : Int)
def i64V (us : List Nat) : List Value := us.map fun n : Nat => .int .i64 (n : Int)
def wantL (us : List Nat) : List Nat := (us.take 10).map fun n => 1 + n % 9
theorem wantL_len (us : List Nat) : (wantL us).length = min 10 us.length := by simp [wantL]
theorem wantL_at {us : List Nat} {i n : Nat} (h : us[i]? = some n) (hi : i < 10) : (wantL us)[i]? = some (1 + n % 9) := by
  simp [wantL, List.getElem?_take, hi, h]
theorem wantL_ok {us : List Nat} : ∀ n ∈ wantL us, 1 ≤ n ∧ n < 10 := fun n hn => by
  obtain ⟨x, _, rfl⟩ := List.mem_map.1 hn
  omega
theorem take_snoc {l : List Nat} {i n : Nat} (h : l[i]? = some n) : l.take (i + 1) = l.take i ++ [n] := by
  rw [List.take_add_one, h]
  rfl
@[reducible] def pfx (s : Nat) : List UInt8 := [105, 110, 116, 32] ++ rep s ++ [32, 97]
theorem nd_fldA {l : List NdM} {i : Nat} {x : NdM} (h : l[i]? = some x) {j : Nat} {u : Value} (hj : x.cells[j]? = some u) : (ndC l)[i * 8 + j]? = some u := (nd_at h) j u hj
theorem nd_ty {l : List NdM} {i : Nat} {x : NdM} (h : l[i]? = some x) : At (ndC l) (i * 8 + 3) x.t.cells := fun k u hu => by
  rw [Nat.add_assoc]
  refine nd_at h (3 + k) u ?_
  match k, hu with
  | 0, hu => exact hu
  | 1, hu => exact hu
  | 2, hu => exact hu
  | 3, hu => exact hu
theorem nd_ofA {x : NdM} {k n : Int} {s : ByteArray} {t : Ty} {l : List Nd} (h : x.nd = .mk k s n t l) : x.kind = k ∧ x.text = s ∧ NdM.nds x.kids = l := ⟨(nd_mk h).1, (nd_mk h).2.1, (nd_mk h).2.2.2.2⟩
attribute [local irreducible] XC XL XQ Tri blk Shows Sq Rd Mt inBlockX XS XG XG0 TkS AnS rowO tyFP tysFP ndFP ndsFP Row.fp FP.all
theorem arrays_law {v : Value} {us : List Nat} {bb : Nat} (hu : ∀ n ∈ us, n ≤ 255) (hl : us.length ≤ 9223372036854775807) (hb : bb ≤ 255) : Tri Try.prog 8 [v, .int .u8 (bb : Int)] [] [Row.fp 1 v us.length (u8V us), gF] fun e L Φ => e = .returned (.bool true) ∧ L = [] ∧ Φ = [] := by
  refine Tri.of Try.func8 rfl fun c => ?_
  repeat' (first
    | refine XStep ?_
    | refine Fa.mk fun b => ?_
    | refine Fb.mk fun b2 => ?_
    | refine Fz.mk fun z => ?_
    | (refine Gd.mk (fun h => ?_) (fun h => ?_) <;> try (first | (exfalso; omega) | exact absurd rfl h | (exfalso; simp at h <;> omega)))
    | refine Ands.mk ?_ ?_
    | (refine XC.is ?_; refine W110 ?_; refine XC.planG (by kernel_rfl) (fun _ m h => h.drewn m) ?_; (conv => arg 5; reduce); refine XG0.of ?_; (conv => arg 5; reduce); (conv => arg 6; reduce); refine XG.go (by decide +kernel) ?_))
  refine XL.triq (shown_tri) (by rfl) (by rfl) (by rfl) (by rfl) (by rfl) (by rfl) (by rfl) (by (repeat' (first | exact Sels.nil | exact Sel.here | apply Sels.cons | apply Sel.there)); done) (by (repeat' (first | exact Sels.nil | exact Sel.here | apply Sels.cons | apply Sel.there)); done) (by (repeat (first | exact sub0 | refine subC (by repeat (first | exact List.Mem.head _ | apply List.Mem.tail)) ?_)); done) ?_
  repeat' (first
    | refine XStep ?_
    | refine Fa.mk fun b => ?_
    | refine Fb.mk fun b2 => ?_
    | refine Fz.mk fun z => ?_
    | (refine Gd.mk (fun h => ?_) (fun h => ?_) <;> try (first | (exfalso; omega) | exact absurd rfl h | (exfalso; simp at h <;> omega)))
    | refine Ands.mk ?_ ?_
    | (refine XC.is ?_; refine W110 ?_; refine XC.planG (by kernel_rfl) (fun _ m h => h.drewn m) ?_; (conv => arg 5; reduce); refine XG0.of ?_; (conv => arg 5; reduce); (conv => arg 6; reduce); refine XG.go (by decide +kernel) ?_))
  have hs : bb % 20 < 20 := Nat.mod_lt _ (by decide)
  refine XC.loop (fun i : Nat => [(0, v), (1, .int .u8 (bb : Int)), (5, .bool true), (6, .string (tx ([105, 110, 116, 32] ++ rep i))), (7, .int .i64 (i : Int))])
    (fun i w => i ≤ bb % 20 ∧ St c [] [Row.fp 1 v us.length (u8V us), gF] w) (fun i => bb % 20 - i) 0 (by (repeat (first | exact fits_nil | refine fits_cons (by rfl) ?_)); done) (fun w h => ⟨Nat.zero_le _, h.less (by (repeat' (first | exact Sels.nil | exact Sel.here | apply Sels.cons | apply Sel.there)); done) (by (repeat (first | exact sub0 | refine subC (by repeat (first | exact List.Mem.head _ | apply List.Mem.tail)) ?_)); done)⟩) ?_
  intro i
  refine XC.pure (fun hi => ?_)
  by_cases hlt : i < bb % 20
  · have e1 : [105, 110, 116, 32] ++ rep i ++ [42] = [105, 110, 116, 32] ++ rep (i + 1) := by
      rw [List.append_assoc, rep, rep, ← List.replicate_succ']
    repeat' (first
      | refine XStep ?_
      | refine Fa.mk fun b => ?_
      | refine Fb.mk fun b2 => ?_
      | refine Fz.mk fun z => ?_
      | (refine Gd.mk (fun h => ?_) (fun h => ?_) <;> try (first | (exfalso; omega) | exact absurd rfl h | (exfalso; simp at h <;> omega)))
      | refine Ands.mk ?_ ?_
      | (refine XC.is ?_; refine W110 ?_; refine XC.planG (by kernel_rfl) (fun _ m h => h.drewn m) ?_; (conv => arg 5; reduce); refine XG0.of ?_; (conv => arg 5; reduce); (conv => arg 6; reduce); refine XG.go (by decide +kernel) ?_))
    refine XL.remU8 (a := bb) (b := 20) (by rfl) (by rfl) (by rfl) (by rfl) (by rfl) (by rfl) (by omega) ?_
    repeat' (first
      | refine XStep ?_
      | refine Fa.mk fun b => ?_
      | refine Fb.mk fun b2 => ?_
      | refine Fz.mk fun z => ?_
      | (refine Gd.mk (fun h => ?_) (fun h => ?_) <;> try (first | (exfalso; omega) | exact absurd rfl h | (exfalso; simp at h <;> omega)))
      | refine Ands.mk ?_ ?_
      | (refine XC.is ?_; refine W110 ?_; refine XC.planG (by kernel_rfl) (fun _ m h => h.drewn m) ?_; (conv => arg 5; reduce); refine XG0.of ?_; (conv => arg 5; reduce); (conv => arg 6; reduce); refine XG.go (by decide +kernel) ?_))
    refine XL.cat (a := [105, 110, 116, 32] ++ rep i) (b := [42]) (by rfl) (by rfl) (by rfl) (by rfl) (by rfl) (by rfl) (by simp; omega) ?_
    rw [e1]
    repeat' (first
      | refine XStep ?_
      | refine Fa.mk fun b => ?_
      | refine Fb.mk fun b2 => ?_
      | refine Fz.mk fun z => ?_
      | (refine Gd.mk (fun h => ?_) (fun h => ?_) <;> try (first | (exfalso; omega) | exact absurd rfl h | (exfalso; simp at h <;> omega)))
      | refine Ands.mk ?_ ?_
      | (refine XC.is ?_; refine W110 ?_; refine XC.planG (by kernel_rfl) (fun _ m h => h.drewn m) ?_; (conv => arg 5; reduce); refine XG0.of ?_; (conv => arg 5; reduce); (conv => arg 6; reduce); refine XG.go (by decide +kernel) ?_))
    exact XQ.round (i + 1) (by (repeat (first | exact fits_nil | refine fits_cons (by rfl) ?_)); done) (fun w hw => ⟨by omega, hw.less (by (repeat' (first | exact Sels.nil | exact Sel.here | apply Sels.cons | apply Sel.there)); done) (by (repeat (first | exact sub0 | refine subC (by repeat (first | exact List.Mem.head _ | apply List.Mem.tail)) ?_)); done)⟩) (by omega)
  · obtain rfl : i = bb % 20 := by omega
    repeat' (first
      | refine XStep ?_
      | refine Fa.mk fun b => ?_
      | refine Fb.mk fun b2 => ?_
      | refine Fz.mk fun z => ?_
      | (refine Gd.mk (fun h => ?_) (fun h => ?_) <;> try (first | (exfalso; omega) | exact absurd rfl h | (exfalso; simp at h <;> omega)))
      | refine Ands.mk ?_ ?_
      | (refine XC.is ?_; refine W110 ?_; refine XC.planG (by kernel_rfl) (fun _ m h => h.drewn m) ?_; (conv => arg 5; reduce); refine XG0.of ?_; (conv => arg 5; reduce); (conv => arg 6; reduce); refine XG.go (by decide +kernel) ?_))
    refine XL.remU8 (a := bb) (b := 20) (by rfl) (by rfl) (by rfl) (by rfl) (by rfl) (by rfl) (by omega) ?_
    repeat' (first
      | refine XStep ?_
      | refine Fa.mk fun b => ?_
      | refine Fb.mk fun b2 => ?_
      | refine Fz.mk fun z => ?_
      | (refine Gd.mk (fun h => ?_) (fun h => ?_) <;> try (first | (exfalso; omega) | exact absurd rfl h | (exfalso; simp at h <;> omega)))
      | refine Ands.mk ?_ ?_
      | (refine XC.is ?_; refine W110 ?_; refine XC.planG (by kernel_rfl) (fun _ m h => h.drewn m) ?_; (conv => arg 5; reduce); refine XG0.of ?_; (conv => arg 5; reduce); (conv => arg 6; reduce); refine XG.go (by decide +kernel) ?_))
    refine XL.cat (a := [105, 110, 116, 32] ++ rep (bb % 20)) (b := [32, 97]) (by rfl) (by rfl) (by rfl) (by rfl) (by rfl) (by rfl) (by simp; omega) ?_
    repeat' (first
      | refine XStep ?_
      | refine Fa.mk fun b => ?_
      | refine Fb.mk fun b2 => ?_
      | refine Fz.mk fun z => ?_
      | (refine Gd.mk (fun h => ?_) (fun h => ?_) <;> try (first | (exfalso; omega) | exact absurd rfl h | (exfalso; simp at h <;> omega)))
      | refine Ands.mk ?_ ?_
      | (refine XC.is ?_; refine W110 ?_; refine XC.planG (by kernel_rfl) (fun _ m h => h.drewn m) ?_; (conv => arg 5; reduce); refine XG0.of ?_; (conv => arg 5; reduce); (conv => arg 6; reduce); refine XG.go (by decide +kernel) ?_))
    clear hi hlt
    refine XC.loop (fun z : Nat × Value => [(0, v), (1, .int .u8 (bb : Int)), (5, .bool true), (6, .string (tx (pfx (bb % 20) ++ brk ((wantL us).take z.1)))), (8, z.2), (9, .int .i64 (z.1 : Int))])
      (fun z w => z.1 ≤ (wantL us).length ∧ St c [rowO 3 1 z.2 z.1 (i64V ((wantL us).take z.1))] [Row.fp 1 v us.length (u8V us), gF] w) (fun z => (wantL us).length - z.1) (0, .slice none 0 0) (by dsimp only; rw [List.take_zero, show brk [] = [] from rfl, List.append_nil]; exact (by (repeat (first | exact fits_nil | refine fits_cons (by rfl) ?_)); done)) (fun w h => ⟨Nat.zero_le _, (h.nilRow 3 1).less (by (repeat' (first | exact Sels.nil | exact Sel.here | apply Sels.cons | apply Sel.there)); done) (by (repeat (first | exact sub0 | refine subC (by repeat (first | exact List.Mem.head _ | apply List.Mem.tail)) ?_)); done)⟩) ?_
    rintro ⟨i, u⟩
    dsimp only
    refine XC.pure (fun hi => ?_)
    have hw := wantL_len us
    by_cases hlt : i < (wantL us).length
    · obtain ⟨n, hn⟩ : ∃ n, us[i]? = some n := ⟨us[i]'(by omega), List.getElem?_eq_getElem (by omega)⟩
      have hn255 := hu n (List.mem_of_getElem? hn)
      have hat := wantL_at hn (by omega)
      have hv : (u8V us)[i]? = some (.int .u8 (n : Int)) := by rw [u8V, List.getElem?_map, hn]; rfl
      have lb : (brk ((wantL us).take i)).length ≤ 30 := by rw [brk_len, List.length_take]; omega
      repeat' (first
        | refine XStep ?_
        | refine Fa.mk fun b => ?_
        | refine Fb.mk fun b2 => ?_
        | refine Fz.mk fun z => ?_
        | (refine Gd.mk (fun h => ?_) (fun h => ?_) <;> try (first | (exfalso; omega) | exact absurd rfl h | (exfalso; simp at h <;> omega)))
        | refine Ands.mk ?_ ?_
        | (refine XC.is ?_; refine W110 ?_; refine XC.planG (by kernel_rfl) (fun _ m h => h.drewn m) ?_; (conv => arg 5; reduce); refine XG0.of ?_; (conv => arg 5; reduce); (conv => arg 6; reduce); refine XG.go (by decide +kernel) ?_))
      refine XL.rem64 (a := n) (b := 9) (by rfl) (by rfl) (by rfl) (by rfl) (by rfl) (by rfl) (by omega) ?_
      repeat' (first
        | refine XStep ?_
        | refine Fa.mk fun b => ?_
        | refine Fb.mk fun b2 => ?_
        | refine Fz.mk fun z => ?_
        | (refine Gd.mk (fun h => ?_) (fun h => ?_) <;> try (first | (exfalso; omega) | exact absurd rfl h | (exfalso; simp at h <;> omega)))
        | refine Ands.mk ?_ ?_
        | (refine XC.is ?_; refine W110 ?_; refine XC.planG (by kernel_rfl) (fun _ m h => h.drewn m) ?_; (conv => arg 5; reduce); refine XG0.of ?_; (conv => arg 5; reduce); (conv => arg 6; reduce); refine XG.go (by decide +kernel) ?_))
      have hxs : i64V ((wantL us).take i) ++ [.int .i64 (1 + ((n % 9 : Nat) : Int))] = i64V ((wantL us).take (i + 1)) := by
        rw [take_snoc hat, i64V, i64V, List.map_append, List.map_singleton]
        rfl
      refine XL.append1 (e := 3) (u := .int .i64 (1 + ((n % 9 : Nat) : Int))) (m := i) (m' := i + 1) (xs := i64V ((wantL us).take i)) (xs' := i64V ((wantL us).take (i + 1))) (by rfl) (by rfl) (by rfl) (by rfl) (by rfl) (by rfl) (by rfl) (by repeat (first | exact Sel.here | apply Sel.there)) (by repeat (first | exact Sel.here | apply Sel.there)) ⟨_, (by repeat (first | exact Sel.here | apply Sel.there))⟩ (by rfl) (Nat.le_refl _) rfl rfl (by omega) rfl hxs (fun v' => ?_)
      repeat' (first
        | refine XStep ?_
        | refine Fa.mk fun b => ?_
        | refine Fb.mk fun b2 => ?_
        | refine Fz.mk fun z => ?_
        | (refine Gd.mk (fun h => ?_) (fun h => ?_) <;> try (first | (exfalso; omega) | exact absurd rfl h | (exfalso; simp at h <;> omega)))
        | refine Ands.mk ?_ ?_
        | (refine XC.is ?_; refine W110 ?_; refine XC.planG (by kernel_rfl) (fun _ m h => h.drewn m) ?_; (conv => arg 5; reduce); refine XG0.of ?_; (conv => arg 5; reduce); (conv => arg 6; reduce); refine XG.go (by decide +kernel) ?_))
      refine XL.cat (a := pfx (bb % 20) ++ brk ((wantL us).take i)) (b := [91]) (by rfl) (by rfl) (by rfl) (by rfl) (by rfl) (by rfl) (by simp; omega) ?_
      repeat' (first
        | refine XStep ?_
        | refine Fa.mk fun b => ?_
        | refine Fb.mk fun b2 => ?_
        | refine Fz.mk fun z => ?_
        | (refine Gd.mk (fun h => ?_) (fun h => ?_) <;> try (first | (exfalso; omega) | exact absurd rfl h | (exfalso; simp at h <;> omega)))
        | refine Ands.mk ?_ ?_
        | (refine XC.is ?_; refine W110 ?_; refine XC.planG (by kernel_rfl) (fun _ m h => h.drewn m) ?_; (conv => arg 5; reduce); refine XG0.of ?_; (conv => arg 5; reduce); (conv => arg 6; reduce); refine XG.go (by decide +kernel) ?_))
      refine XL.sidx (l := [48, 49, 50, 51, 52, 53, 54, 55, 56, 57]) (i := 1 + ((n % 9 : Nat) : Int)) (by rfl) (by rfl) (by rfl) (by rfl) (by rfl) (by rfl) (by rfl) (by simp; omega) ?_
      refine XL.chrD (n := 1 + n % 9) (by rfl) (by rfl) (by rfl) (by rfl) (by rfl) (by rfl) (by rfl) (by omega) ?_
      refine XL.cat (a := pfx (bb % 20) ++ brk ((wantL us).take i) ++ [91]) (b := [dig (1 + n % 9)]) (by rfl) (by rfl) (by rfl) (by rfl) (by rfl) (by rfl) (by simp; omega) ?_
      refine XL.cat (a := pfx (bb % 20) ++ brk ((wantL us).take i) ++ [91] ++ [dig (1 + n % 9)]) (b := [93]) (by rfl) (by rfl) (by rfl) (by rfl) (by rfl) (by rfl) (by simp; omega) ?_
      have e2 : pfx (bb % 20) ++ brk ((wantL us).take i) ++ [91] ++ [dig (1 + n % 9)] ++ [93] = pfx (bb % 20) ++ brk ((wantL us).take (i + 1)) := by
        rw [take_snoc hat, brk_app]
        simp
      rw [e2]
      repeat' (first
        | refine XStep ?_
        | refine Fa.mk fun b => ?_
        | refine Fb.mk fun b2 => ?_
        | refine Fz.mk fun z => ?_
        | (refine Gd.mk (fun h => ?_) (fun h => ?_) <;> try (first | (exfalso; omega) | exact absurd rfl h | (exfalso; simp at h <;> omega)))
        | refine Ands.mk ?_ ?_
        | (refine XC.is ?_; refine W110 ?_; refine XC.planG (by kernel_rfl) (fun _ m h => h.drewn m) ?_; (conv => arg 5; reduce); refine XG0.of ?_; (conv => arg 5; reduce); (conv => arg 6; reduce); refine XG.go (by decide +kernel) ?_))
      exact XQ.round (i + 1, v') (by (repeat (first | exact fits_nil | refine fits_cons (by rfl) ?_)); done) (fun w hw => ⟨by dsimp only; omega, hw.less (by (repeat' (first | exact Sels.nil | exact Sel.here | apply Sels.cons | apply Sel.there)); done) (by (repeat (first | exact sub0 | refine subC (by repeat (first | exact List.Mem.head _ | apply List.Mem.tail)) ?_)); done)⟩) (by dsimp only; omega)
    · obtain rfl : i = (wantL us).length := by omega
      have hP := parse_arr (s := bb % 20) (l := wantL us) (by omega) (by omega) wantL_ok
      have lb : (brk (wantL us)).length ≤ 30 := by rw [brk_len]; omega
      rw [List.take_length]
      clear hu
      repeat' (first
        | refine XStep ?_
        | refine Fa.mk fun b => ?_
        | refine Fb.mk fun b2 => ?_
        | refine Fz.mk fun z => ?_
        | (refine Gd.mk (fun h => ?_) (fun h => ?_) <;> try (first | (exfalso; omega) | exact absurd rfl h | (exfalso; simp at h <;> omega)))
        | refine Ands.mk ?_ ?_
        | (refine XC.is ?_; refine W110 ?_; refine XC.planG (by kernel_rfl) (fun _ m h => h.drewn m) ?_; (conv => arg 5; reduce); refine XG0.of ?_; (conv => arg 5; reduce); (conv => arg 6; reduce); refine XG.go (by decide +kernel) ?_))
      · refine XL.cat (a := pfx (bb % 20) ++ brk (wantL us)) (b := [59]) (by rfl) (by rfl) (by rfl) (by rfl) (by rfl) (by rfl) (by simp; omega) ?_
        repeat' (first
          | refine XStep ?_
          | refine Fa.mk fun b => ?_
          | refine Fb.mk fun b2 => ?_
          | refine Fz.mk fun z => ?_
          | (refine Gd.mk (fun h => ?_) (fun h => ?_) <;> try (first | (exfalso; omega) | exact absurd rfl h | (exfalso; simp at h <;> omega)))
          | refine Ands.mk ?_ ?_
          | (refine XC.is ?_; refine W110 ?_; refine XC.planG (by kernel_rfl) (fun _ m h => h.drewn m) ?_; (conv => arg 5; reduce); refine XG0.of ?_; (conv => arg 5; reduce); (conv => arg 6; reduce); refine XG.go (by decide +kernel) ?_))
        refine XL.trir (parse_tri tokens_tri (pfx (bb % 20) ++ brk (wantL us) ++ [59])) (by rfl) (by rfl) (by rfl) (by rfl) (by rfl) (by rfl) (by rfl) (by (repeat' (first | exact Sels.nil | exact Sel.here | apply Sels.cons | apply Sel.there)); done) (by (repeat (first | exact sub0 | refine subC (by repeat (first | exact List.Mem.head _ | apply List.Mem.tail)) ?_)); done) ?_
        rintro ⟨x, a1, k1⟩ hx
        rw [show pfx (bb % 20) ++ brk (wantL us) ++ [59] = srcArr (bb % 20) (wantL us) from rfl, hP] at hx
        obtain ⟨hq, h0⟩ := Prod.mk.inj hx
        cases h0
        obtain ⟨-, -, q3⟩ := nd_ofA (show x.nd = _ from hq)
        obtain ⟨g, hxk, hg⟩ := nds_one q3
        obtain ⟨-, g2, g3, g4, -⟩ := nd_mk hg
        have nx : x.kids.length = 1 := by rw [hxk]; rfl
        have x0 : x.kids[0]? = some g := by rw [hxk]; rfl
        have mg : g ∈ x.kids := by rw [hxk]; exact List.mem_cons_self
        have gx1 := nd_fldA x0 (j := 1) (u := .string g.text) rfl
        have gx0 := nd_fldA x0 (j := 0) (u := .int .i64 g.kind) rfl
        have gx3 := nd_ty x0
        refine XL.conv (fun w h => (((h.ndRowF (x := x) (.head _)).ndKids (x := x) (.tail _ (.head _))).ndKid (y := g) (.head _) mg).ndTy (x := g) (.head _)) ?_
        conv => arg 9; dsimp only [List.cons_append, List.nil_append]
        try conv => arg 7; dsimp only
        repeat' (first
          | refine XStep ?_
          | refine Fa.mk fun b => ?_
          | refine Fb.mk fun b2 => ?_
          | refine Fz.mk fun z => ?_
          | (refine Gd.mk (fun h => ?_) (fun h => ?_) <;> try (first | (exfalso; omega) | exact absurd rfl h | (exfalso; simp at h <;> omega)))
          | refine Ands.mk ?_ ?_
          | (refine XC.is ?_; refine W110 ?_; refine XC.planG (by kernel_rfl) (fun _ m h => h.drewn m) ?_; (conv => arg 5; reduce); refine XG0.of ?_; (conv => arg 5; reduce); (conv => arg 6; reduce); refine XG.go (by decide +kernel) ?_))
        rename_i bx hx0
        have hv : ∀ (k : Nat) n, (wantL us)[k]? = some n → (i64V (wantL us))[k]? = some (.int .i64 (n : Int)) := fun k n hk => by rw [i64V, List.getElem?_map, hk]; rfl
        refine XC.conv (fun w h => (h.rowFreeze (e := 3) (size := 1) (by repeat (first | exact Sel.here | apply Sel.there))).forget (Φ' := [tyFP g.t, Row.fp 1 u (wantL us).length (i64V (wantL us)), Row.fp 8 x.kv x.kids.length (ndC x.kids)]) (by (repeat (first | exact sub0 | refine subC (by repeat (first | exact List.Mem.head _ | apply List.Mem.tail)) ?_)); done)) ?_
        have htext : g.text = tx [97] := g2
        clear hq hx q3 hg g2 hxk g3 hP lb
        generalize g.t = t0 at *
        refine XC.loop (fun z : Nat × TyM => [(1, .int .u8 (bb : Int)), (5, .bool true), (8, u), (11, .pointer (some ⟨bx, 0, none⟩)), (14, .pointer (some ⟨b, 0, none⟩)), (15, .int .i64 (z.1 : Int))])
          (fun z w => (z.1 ≤ (wantL us).length ∧ z.2.ty = wrapS (ptrN (bb % 20) (.mk 3 0 (tx []) [])) (((wantL us).drop z.1).map fun n : Nat => (n : Int))) ∧ St c [cel b z.2.cells.toArray 24, cel bx x.cells.toArray 27] [tyFP z.2, Row.fp 1 u (wantL us).length (i64V (wantL us)), Row.fp 8 x.kv x.kids.length (ndC x.kids)] w) (fun z => (wantL us).length - z.1) (0, t0) (by (repeat (first | exact fits_nil | refine fits_cons (by rfl) ?_)); done) (fun w h => ⟨⟨Nat.zero_le _, g4⟩, h.less (by (repeat' (first | exact Sels.nil | exact Sel.here | apply Sels.cons | apply Sel.there)); done) (by (repeat (first | exact sub0 | refine subC (by repeat (first | exact List.Mem.head _ | apply List.Mem.tail)) ?_)); done)⟩) ?_
        clear g4
        rintro ⟨i, t⟩
        dsimp only
        refine XC.pure (fun hj => ?_)
        obtain ⟨hj, ht⟩ := hj
        by_cases hlt : i < (wantL us).length
        · obtain ⟨n, hn, -⟩ := get_of_lt hlt
          have hv1 := hv i n hn
          have e1 : (wantL us).drop i = n :: (wantL us).drop (i + 1) := by
            rw [List.drop_eq_getElem_cons hlt, ← Option.some.inj ((List.getElem?_eq_getElem hlt).symm.trans hn)]
          rw [e1, List.map_cons, wrapS] at ht
          obtain ⟨t1, t2, -, t3⟩ := ty_mk ht
          obtain ⟨u1, hu1, hu2⟩ := tys_one t3
          have nt : t.of.length = 1 := by rw [hu1]; rfl
          have z0 : t.of[0]? = some u1 := by rw [hu1]; rfl
          have mu : u1 ∈ t.of := by rw [hu1]; exact List.mem_cons_self
          have aT := ty_at z0
          refine XC.conv (fun w h => (((h.tyRowF (x := t) (.head _)).tyOf (x := t) (.tail _ (.head _))).tyKid (y := u1) (.head _) mu).forget (Φ' := [tyFP u1, Row.fp 4 t.ofv t.of.length (tyC t.of), Row.fp 1 u (wantL us).length (i64V (wantL us)), Row.fp 8 x.kv x.kids.length (ndC x.kids)]) (by (repeat (first | exact sub0 | refine subC (by repeat (first | exact List.Mem.head _ | apply List.Mem.tail)) ?_)); done)) ?_
          clear ht t3 hu1 z0
          repeat' (first
            | refine XStep ?_
            | refine Fa.mk fun b => ?_
            | refine Fb.mk fun b2 => ?_
            | refine Fz.mk fun z => ?_
            | (refine Gd.mk (fun h => ?_) (fun h => ?_) <;> try (first | (exfalso; omega) | exact absurd rfl h | (exfalso; simp at h <;> omega)))
            | refine Ands.mk ?_ ?_
            | (refine XC.is ?_; refine W110 ?_; refine XC.planG (by kernel_rfl) (fun _ m h => h.drewn m) ?_; (conv => arg 5; reduce); refine XG0.of ?_; (conv => arg 5; reduce); (conv => arg 6; reduce); refine XG.go (by decide +kernel) ?_))
          exact XQ.round (i + 1, u1) (by (repeat (first | exact fits_nil | refine fits_cons (by rfl) ?_)); done) (fun w hw => ⟨⟨by dsimp only; omega, hu2⟩, hw.less (by (repeat' (first | exact Sels.nil | exact Sel.here | apply Sels.cons | apply Sel.there)); done) (by (repeat (first | exact sub0 | refine subC (by repeat (first | exact List.Mem.head _ | apply List.Mem.tail)) ?_)); done)⟩) (by dsimp only; omega)
        · obtain rfl : i = (wantL us).length := by omega
          rw [List.drop_length, List.map_nil, wrapS] at ht
          repeat' (first
            | refine XStep ?_
            | refine Fa.mk fun b => ?_
            | refine Fb.mk fun b2 => ?_
            | refine Fz.mk fun z => ?_
            | (refine Gd.mk (fun h => ?_) (fun h => ?_) <;> try (first | (exfalso; omega) | exact absurd rfl h | (exfalso; simp at h <;> omega)))
            | refine Ands.mk ?_ ?_
            | (refine XC.is ?_; refine W110 ?_; refine XC.planG (by kernel_rfl) (fun _ m h => h.drewn m) ?_; (conv => arg 5; reduce); refine XG0.of ?_; (conv => arg 5; reduce); (conv => arg 6; reduce); refine XG.go (by decide +kernel) ?_))
          refine XC.loop (fun z : Nat × TyM => [(1, .int .u8 (bb : Int)), (5, .bool true), (11, .pointer (some ⟨bx, 0, none⟩)), (14, .pointer (some ⟨b, 0, none⟩)), (16, .int .i64 (z.1 : Int))])
            (fun z w => (z.1 ≤ bb % 20 ∧ z.2.ty = ptrN (bb % 20 - z.1) (.mk 3 0 (tx []) [])) ∧ St c [cel b z.2.cells.toArray 24, cel bx x.cells.toArray 27] [tyFP z.2, Row.fp 8 x.kv x.kids.length (ndC x.kids)] w) (fun z => bb % 20 - z.1) (0, t) (by (repeat (first | exact fits_nil | refine fits_cons (by rfl) ?_)); done) (fun w h => ⟨⟨Nat.zero_le _, ht⟩, h.less (by (repeat' (first | exact Sels.nil | exact Sel.here | apply Sels.cons | apply Sel.there)); done) (by (repeat (first | exact sub0 | refine subC (by repeat (first | exact List.Mem.head _ | apply List.Mem.tail)) ?_)); done)⟩) ?_
          clear ht hlt hj t
          rintro ⟨i, t⟩
          dsimp only
          refine XC.pure (fun hj => ?_)
          obtain ⟨hj, ht⟩ := hj
          by_cases hlt : i < bb % 20
          · obtain ⟨k, hk⟩ : ∃ k, bb % 20 - i = k + 1 := ⟨bb % 20 - i - 1, by omega⟩
            rw [hk, ptrN_top] at ht
            obtain ⟨t1, -, -, t3⟩ := ty_mk ht
            obtain ⟨u1, hu1, hu2⟩ := tys_one t3
            have nt : t.of.length = 1 := by rw [hu1]; rfl
            have z0 : t.of[0]? = some u1 := by rw [hu1]; rfl
            have mu : u1 ∈ t.of := by rw [hu1]; exact List.mem_cons_self
            have aT := ty_at z0
            refine XC.conv (fun w h => (((h.tyRowF (x := t) (.head _)).tyOf (x := t) (.tail _ (.head _))).tyKid (y := u1) (.head _) mu).forget (Φ' := [tyFP u1, Row.fp 4 t.ofv t.of.length (tyC t.of), Row.fp 8 x.kv x.kids.length (ndC x.kids)]) (by (repeat (first | exact sub0 | refine subC (by repeat (first | exact List.Mem.head _ | apply List.Mem.tail)) ?_)); done)) ?_
            clear ht t3 hu1 z0
            repeat' (first
              | refine XStep ?_
              | refine Fa.mk fun b => ?_
              | refine Fb.mk fun b2 => ?_
              | refine Fz.mk fun z => ?_
              | (refine Gd.mk (fun h => ?_) (fun h => ?_) <;> try (first | (exfalso; omega) | exact absurd rfl h | (exfalso; simp at h <;> omega)))
              | refine Ands.mk ?_ ?_
              | (refine XC.is ?_; refine W110 ?_; refine XC.planG (by kernel_rfl) (fun _ m h => h.drewn m) ?_; (conv => arg 5; reduce); refine XG0.of ?_; (conv => arg 5; reduce); (conv => arg 6; reduce); refine XG.go (by decide +kernel) ?_))
            refine XL.remU8 (a := bb) (b := 20) (by rfl) (by rfl) (by rfl) (by rfl) (by rfl) (by rfl) (by omega) ?_
            repeat' (first
              | refine XStep ?_
              | refine Fa.mk fun b => ?_
              | refine Fb.mk fun b2 => ?_
              | refine Fz.mk fun z => ?_
              | (refine Gd.mk (fun h => ?_) (fun h => ?_) <;> try (first | (exfalso; omega) | exact absurd rfl h | (exfalso; simp at h <;> omega)))
              | refine Ands.mk ?_ ?_
              | (refine XC.is ?_; refine W110 ?_; refine XC.planG (by kernel_rfl) (fun _ m h => h.drewn m) ?_; (conv => arg 5; reduce); refine XG0.of ?_; (conv => arg 5; reduce); (conv => arg 6; reduce); refine XG.go (by decide +kernel) ?_))
            have em : bb % 20 - (i + 1) = k := by omega
            exact XQ.round (i + 1, u1) (by (repeat (first | exact fits_nil | refine fits_cons (by rfl) ?_)); done) (fun w hw => ⟨⟨by dsimp only; omega, by dsimp only; rw [em]; exact hu2⟩, hw.less (by (repeat' (first | exact Sels.nil | exact Sel.here | apply Sels.cons | apply Sel.there)); done) (by (repeat (first | exact sub0 | refine subC (by repeat (first | exact List.Mem.head _ | apply List.Mem.tail)) ?_)); done)⟩) (by dsimp only; omega)
          · obtain rfl : i = bb % 20 := by omega
            rw [Nat.sub_self] at ht
            have t1 := (ty_mk (show t.ty = .mk 3 0 (tx []) [] from ht)).1
            repeat' (first
              | refine XStep ?_
              | refine Fa.mk fun b => ?_
              | refine Fb.mk fun b2 => ?_
              | refine Fz.mk fun z => ?_
              | (refine Gd.mk (fun h => ?_) (fun h => ?_) <;> try (first | (exfalso; omega) | exact absurd rfl h | (exfalso; simp at h <;> omega)))
              | refine Ands.mk ?_ ?_
              | (refine XC.is ?_; refine W110 ?_; refine XC.planG (by kernel_rfl) (fun _ m h => h.drewn m) ?_; (conv => arg 5; reduce); refine XG0.of ?_; (conv => arg 5; reduce); (conv => arg 6; reduce); refine XG.go (by decide +kernel) ?_))
            refine XL.remU8 (a := bb) (b := 20) (by rfl) (by rfl) (by rfl) (by rfl) (by rfl) (by rfl) (by omega) ?_
            repeat' (first
              | refine XStep ?_
              | refine Fa.mk fun b => ?_
              | refine Fb.mk fun b2 => ?_
              | refine Fz.mk fun z => ?_
              | (refine Gd.mk (fun h => ?_) (fun h => ?_) <;> try (first | (exfalso; omega) | exact absurd rfl h | (exfalso; simp at h <;> omega)))
              | refine Ands.mk ?_ ?_
              | (refine XC.is ?_; refine W110 ?_; refine XC.planG (by kernel_rfl) (fun _ m h => h.drewn m) ?_; (conv => arg 5; reduce); refine XG0.of ?_; (conv => arg 5; reduce); (conv => arg 6; reduce); refine XG.go (by decide +kernel) ?_))
            have hdec : Ending.returned (.bool (decide (g.text = tx [97]))) = .returned (.bool true) := by rw [htext, decide_eq_true rfl]
            refine XQ.done1 (by rfl) (by rfl) (v := .bool (decide (g.text = tx [97]))) ⟨hdec, rfl, rfl⟩ (by (repeat' (first | exact Sels.nil | exact Sel.here | apply Sels.cons | apply Sel.there)); done) (by (repeat (first | exact sub0 | refine subC (by repeat (first | exact List.Mem.head _ | apply List.Mem.tail)) ?_)); done)
      · refine XL.cat (a := pfx (bb % 20) ++ brk (wantL us)) (b := [59]) (by rfl) (by rfl) (by rfl) (by rfl) (by rfl) (by rfl) (by simp; omega) ?_
        repeat' (first
          | refine XStep ?_
          | refine Fa.mk fun b => ?_
          | refine Fb.mk fun b2 => ?_
          | refine Fz.mk fun z => ?_
          | (refine Gd.mk (fun h => ?_) (fun h => ?_) <;> try (first | (exfalso; omega) | exact absurd rfl h | (exfalso; simp at h <;> omega)))
          | refine Ands.mk ?_ ?_
          | (refine XC.is ?_; refine W110 ?_; refine XC.planG (by kernel_rfl) (fun _ m h => h.drewn m) ?_; (conv => arg 5; reduce); refine XG0.of ?_; (conv => arg 5; reduce); (conv => arg 6; reduce); refine XG.go (by decide +kernel) ?_))
        refine XL.trir (parse_tri tokens_tri (pfx (bb % 20) ++ brk (wantL us) ++ [59])) (by rfl) (by rfl) (by rfl) (by rfl) (by rfl) (by rfl) (by rfl) (by (repeat' (first | exact Sels.nil | exact Sel.here | apply Sels.cons | apply Sel.there)); done) (by (repeat (first | exact sub0 | refine subC (by repeat (first | exact List.Mem.head _ | apply List.Mem.tail)) ?_)); done) ?_
        rintro ⟨x, a1, k1⟩ hx
        rw [show pfx (bb % 20) ++ brk (wantL us) ++ [59] = srcArr (bb % 20) (wantL us) from rfl, hP] at hx
        obtain ⟨hq, h0⟩ := Prod.mk.inj hx
        cases h0
        obtain ⟨-, -, q3⟩ := nd_ofA (show x.nd = _ from hq)
        obtain ⟨g, hxk, hg⟩ := nds_one q3
        obtain ⟨-, g2, g3, g4, -⟩ := nd_mk hg
        have nx : x.kids.length = 1 := by rw [hxk]; rfl
        have x0 : x.kids[0]? = some g := by rw [hxk]; rfl
        have mg : g ∈ x.kids := by rw [hxk]; exact List.mem_cons_self
        have gx1 := nd_fldA x0 (j := 1) (u := .string g.text) rfl
        have gx0 := nd_fldA x0 (j := 0) (u := .int .i64 g.kind) rfl
        have gx3 := nd_ty x0
        refine XL.conv (fun w h => (((h.ndRowF (x := x) (.head _)).ndKids (x := x) (.tail _ (.head _))).ndKid (y := g) (.head _) mg).ndTy (x := g) (.head _)) ?_
        conv => arg 9; dsimp only [List.cons_append, List.nil_append]
        try conv => arg 7; dsimp only
        repeat' (first
          | refine XStep ?_
          | refine Fa.mk fun b => ?_
          | refine Fb.mk fun b2 => ?_
          | refine Fz.mk fun z => ?_
          | (refine Gd.mk (fun h => ?_) (fun h => ?_) <;> try (first | (exfalso; omega) | exact absurd rfl h | (exfalso; simp at h <;> omega)))
          | refine Ands.mk ?_ ?_
          | (refine XC.is ?_; refine W110 ?_; refine XC.planG (by kernel_rfl) (fun _ m h => h.drewn m) ?_; (conv => arg 5; reduce); refine XG0.of ?_; (conv => arg 5; reduce); (conv => arg 6; reduce); refine XG.go (by decide +kernel) ?_))
        rename_i bx hx0
        have hv : ∀ (k : Nat) n, (wantL us)[k]? = some n → (i64V (wantL us))[k]? = some (.int .i64 (n : Int)) := fun k n hk => by rw [i64V, List.getElem?_map, hk]; rfl
        refine XC.conv (fun w h => (h.rowFreeze (e := 3) (size := 1) (by repeat (first | exact Sel.here | apply Sel.there))).forget (Φ' := [tyFP g.t, Row.fp 1 u (wantL us).length (i64V (wantL us)), Row.fp 8 x.kv x.kids.length (ndC x.kids)]) (by (repeat (first | exact sub0 | refine subC (by repeat (first | exact List.Mem.head _ | apply List.Mem.tail)) ?_)); done)) ?_
        have htext : g.text = tx [97] := g2
        clear hq hx q3 hg g2 hxk g3 hP lb
        generalize g.t = t0 at *
        refine XC.loop (fun z : Nat × TyM => [(1, .int .u8 (bb : Int)), (5, .bool true), (8, u), (11, .pointer (some ⟨bx, 0, none⟩)), (14, .pointer (some ⟨b, 0, none⟩)), (15, .int .i64 (z.1 : Int))])
          (fun z w => (z.1 ≤ (wantL us).length ∧ z.2.ty = wrapS (ptrN (bb % 20) (.mk 3 0 (tx []) [])) (((wantL us).drop z.1).map fun n : Nat => (n : Int))) ∧ St c [cel b z.2.cells.toArray 24, cel bx x.cells.toArray 27] [tyFP z.2, Row.fp 1 u (wantL us).length (i64V (wantL us)), Row.fp 8 x.kv x.kids.length (ndC x.kids)] w) (fun z => (wantL us).length - z.1) (0, t0) (by (repeat (first | exact fits_nil | refine fits_cons (by rfl) ?_)); done) (fun w h => ⟨⟨Nat.zero_le _, g4⟩, h.less (by (repeat' (first | exact Sels.nil | exact Sel.here | apply Sels.cons | apply Sel.there)); done) (by (repeat (first | exact sub0 | refine subC (by repeat (first | exact List.Mem.head _ | apply List.Mem.tail)) ?_)); done)⟩) ?_
        clear g4
        rintro ⟨i, t⟩
        dsimp only
        refine XC.pure (fun hj => ?_)
        obtain ⟨hj, ht⟩ := hj
        by_cases hlt : i < (wantL us).length
        · obtain ⟨n, hn, -⟩ := get_of_lt hlt
          have hv1 := hv i n hn
          have e1 : (wantL us).drop i = n :: (wantL us).drop (i + 1) := by
            rw [List.drop_eq_getElem_cons hlt, ← Option.some.inj ((List.getElem?_eq_getElem hlt).symm.trans hn)]
          rw [e1, List.map_cons, wrapS] at ht
          obtain ⟨t1, t2, -, t3⟩ := ty_mk ht
          obtain ⟨u1, hu1, hu2⟩ := tys_one t3
          have nt : t.of.length = 1 := by rw [hu1]; rfl
          have z0 : t.of[0]? = some u1 := by rw [hu1]; rfl
          have mu : u1 ∈ t.of := by rw [hu1]; exact List.mem_cons_self
          have aT := ty_at z0
          refine XC.conv (fun w h => (((h.tyRowF (x := t) (.head _)).tyOf (x := t) (.tail _ (.head _))).tyKid (y := u1) (.head _) mu).forget (Φ' := [tyFP u1, Row.fp 4 t.ofv t.of.length (tyC t.of), Row.fp 1 u (wantL us).length (i64V (wantL us)), Row.fp 8 x.kv x.kids.length (ndC x.kids)]) (by (repeat (first | exact sub0 | refine subC (by repeat (first | exact List.Mem.head _ | apply List.Mem.tail)) ?_)); done)) ?_
          clear ht t3 hu1 z0
          repeat' (first
            | refine XStep ?_
            | refine Fa.mk fun b => ?_
            | refine Fb.mk fun b2 => ?_
            | refine Fz.mk fun z => ?_
            | (refine Gd.mk (fun h => ?_) (fun h => ?_) <;> try (first | (exfalso; omega) | exact absurd rfl h | (exfalso; simp at h <;> omega)))
            | refine Ands.mk ?_ ?_
            | (refine XC.is ?_; refine W110 ?_; refine XC.planG (by kernel_rfl) (fun _ m h => h.drewn m) ?_; (conv => arg 5; reduce); refine XG0.of ?_; (conv => arg 5; reduce); (conv => arg 6; reduce); refine XG.go (by decide +kernel) ?_))
          exact XQ.round (i + 1, u1) (by (repeat (first | exact fits_nil | refine fits_cons (by rfl) ?_)); done) (fun w hw => ⟨⟨by dsimp only; omega, hu2⟩, hw.less (by (repeat' (first | exact Sels.nil | exact Sel.here | apply Sels.cons | apply Sel.there)); done) (by (repeat (first | exact sub0 | refine subC (by repeat (first | exact List.Mem.head _ | apply List.Mem.tail)) ?_)); done)⟩) (by dsimp only; omega)
        · obtain rfl : i = (wantL us).length := by omega
          rw [List.drop_length, List.map_nil, wrapS] at ht
          repeat' (first
            | refine XStep ?_
            | refine Fa.mk fun b => ?_
            | refine Fb.mk fun b2 => ?_
            | refine Fz.mk fun z => ?_
            | (refine Gd.mk (fun h => ?_) (fun h => ?_) <;> try (first | (exfalso; omega) | exact absurd rfl h | (exfalso; simp at h <;> omega)))
            | refine Ands.mk ?_ ?_
            | (refine XC.is ?_; refine W110 ?_; refine XC.planG (by kernel_rfl) (fun _ m h => h.drewn m) ?_; (conv => arg 5; reduce); refine XG0.of ?_; (conv => arg 5; reduce); (conv => arg 6; reduce); refine XG.go (by decide +kernel) ?_))
          refine XC.loop (fun z : Nat × TyM => [(1, .int .u8 (bb : Int)), (5, .bool true), (11, .pointer (some ⟨bx, 0, none⟩)), (14, .pointer (some ⟨b, 0, none⟩)), (16, .int .i64 (z.1 : Int))])
            (fun z w => (z.1 ≤ bb % 20 ∧ z.2.ty = ptrN (bb % 20 - z.1) (.mk 3 0 (tx []) [])) ∧ St c [cel b z.2.cells.toArray 24, cel bx x.cells.toArray 27] [tyFP z.2, Row.fp 8 x.kv x.kids.length (ndC x.kids)] w) (fun z => bb % 20 - z.1) (0, t) (by (repeat (first | exact fits_nil | refine fits_cons (by rfl) ?_)); done) (fun w h => ⟨⟨Nat.zero_le _, ht⟩, h.less (by (repeat' (first | exact Sels.nil | exact Sel.here | apply Sels.cons | apply Sel.there)); done) (by (repeat (first | exact sub0 | refine subC (by repeat (first | exact List.Mem.head _ | apply List.Mem.tail)) ?_)); done)⟩) ?_
          clear ht hlt hj t
          rintro ⟨i, t⟩
          dsimp only
          refine XC.pure (fun hj => ?_)
          obtain ⟨hj, ht⟩ := hj
          by_cases hlt : i < bb % 20
          · obtain ⟨k, hk⟩ : ∃ k, bb % 20 - i = k + 1 := ⟨bb % 20 - i - 1, by omega⟩
            rw [hk, ptrN_top] at ht
            obtain ⟨t1, -, -, t3⟩ := ty_mk ht
            obtain ⟨u1, hu1, hu2⟩ := tys_one t3
            have nt : t.of.length = 1 := by rw [hu1]; rfl
            have z0 : t.of[0]? = some u1 := by rw [hu1]; rfl
            have mu : u1 ∈ t.of := by rw [hu1]; exact List.mem_cons_self
            have aT := ty_at z0
            refine XC.conv (fun w h => (((h.tyRowF (x := t) (.head _)).tyOf (x := t) (.tail _ (.head _))).tyKid (y := u1) (.head _) mu).forget (Φ' := [tyFP u1, Row.fp 4 t.ofv t.of.length (tyC t.of), Row.fp 8 x.kv x.kids.length (ndC x.kids)]) (by (repeat (first | exact sub0 | refine subC (by repeat (first | exact List.Mem.head _ | apply List.Mem.tail)) ?_)); done)) ?_
            clear ht t3 hu1 z0
            repeat' (first
              | refine XStep ?_
              | refine Fa.mk fun b => ?_
              | refine Fb.mk fun b2 => ?_
              | refine Fz.mk fun z => ?_
              | (refine Gd.mk (fun h => ?_) (fun h => ?_) <;> try (first | (exfalso; omega) | exact absurd rfl h | (exfalso; simp at h <;> omega)))
              | refine Ands.mk ?_ ?_
              | (refine XC.is ?_; refine W110 ?_; refine XC.planG (by kernel_rfl) (fun _ m h => h.drewn m) ?_; (conv => arg 5; reduce); refine XG0.of ?_; (conv => arg 5; reduce); (conv => arg 6; reduce); refine XG.go (by decide +kernel) ?_))
            refine XL.remU8 (a := bb) (b := 20) (by rfl) (by rfl) (by rfl) (by rfl) (by rfl) (by rfl) (by omega) ?_
            repeat' (first
              | refine XStep ?_
              | refine Fa.mk fun b => ?_
              | refine Fb.mk fun b2 => ?_
              | refine Fz.mk fun z => ?_
              | (refine Gd.mk (fun h => ?_) (fun h => ?_) <;> try (first | (exfalso; omega) | exact absurd rfl h | (exfalso; simp at h <;> omega)))
              | refine Ands.mk ?_ ?_
              | (refine XC.is ?_; refine W110 ?_; refine XC.planG (by kernel_rfl) (fun _ m h => h.drewn m) ?_; (conv => arg 5; reduce); refine XG0.of ?_; (conv => arg 5; reduce); (conv => arg 6; reduce); refine XG.go (by decide +kernel) ?_))
            have em : bb % 20 - (i + 1) = k := by omega
            exact XQ.round (i + 1, u1) (by (repeat (first | exact fits_nil | refine fits_cons (by rfl) ?_)); done) (fun w hw => ⟨⟨by dsimp only; omega, by dsimp only; rw [em]; exact hu2⟩, hw.less (by (repeat' (first | exact Sels.nil | exact Sel.here | apply Sels.cons | apply Sel.there)); done) (by (repeat (first | exact sub0 | refine subC (by repeat (first | exact List.Mem.head _ | apply List.Mem.tail)) ?_)); done)⟩) (by dsimp only; omega)
          · obtain rfl : i = bb % 20 := by omega
            rw [Nat.sub_self] at ht
            have t1 := (ty_mk (show t.ty = .mk 3 0 (tx []) [] from ht)).1
            repeat' (first
              | refine XStep ?_
              | refine Fa.mk fun b => ?_
              | refine Fb.mk fun b2 => ?_
              | refine Fz.mk fun z => ?_
              | (refine Gd.mk (fun h => ?_) (fun h => ?_) <;> try (first | (exfalso; omega) | exact absurd rfl h | (exfalso; simp at h <;> omega)))
              | refine Ands.mk ?_ ?_
              | (refine XC.is ?_; refine W110 ?_; refine XC.planG (by kernel_rfl) (fun _ m h => h.drewn m) ?_; (conv => arg 5; reduce); refine XG0.of ?_; (conv => arg 5; reduce); (conv => arg 6; reduce); refine XG.go (by decide +kernel) ?_))
            refine XL.remU8 (a := bb) (b := 20) (by rfl) (by rfl) (by rfl) (by rfl) (by rfl) (by rfl) (by omega) ?_
            repeat' (first
              | refine XStep ?_
              | refine Fa.mk fun b => ?_
              | refine Fb.mk fun b2 => ?_
              | refine Fz.mk fun z => ?_
              | (refine Gd.mk (fun h => ?_) (fun h => ?_) <;> try (first | (exfalso; omega) | exact absurd rfl h | (exfalso; simp at h <;> omega)))
              | refine Ands.mk ?_ ?_
              | (refine XC.is ?_; refine W110 ?_; refine XC.planG (by kernel_rfl) (fun _ m h => h.drewn m) ?_; (conv => arg 5; reduce); refine XG0.of ?_; (conv => arg 5; reduce); (conv => arg 6; reduce); refine XG.go (by decide +kernel) ?_))
            have hdec : Ending.returned (.bool (decide (g.text = tx [97]))) = .returned (.bool true) := by rw [htext, decide_eq_true rfl]
            refine XQ.done1 (by rfl) (by rfl) (v := .bool (decide (g.text = tx [97]))) ⟨hdec, rfl, rfl⟩ (by (repeat' (first | exact Sels.nil | exact Sel.here | apply Sels.cons | apply Sel.there)); done) (by (repeat (first | exact sub0 | refine subC (by repeat (first | exact List.Mem.head _ | apply List.Mem.tail)) ?_)); done)
section
variable {H : Type} {enc : TypeId × Value → H} {w : World} {hd : Bool}
theorem d5 : Try.prog.cellsOf 5 = 1 := by kernel_rfl
theorem openU8 {a : Option Addr} {m c : Nat} {d : DataW H} {ps : List MemPlace} (h : DataW.Trod enc Try.prog w 0 (fun _ => true) hd 42 (.slice a m c) d ps) (hw : Wt Try.prog 42 d) :
    ∃ us : List Nat, (∀ n ∈ us, n ≤ 255) ∧ us.length ≤ maxLen ∧ (Row.fp 1 (.slice a m c) us.length (u8V us)).h (fun _ => False) w := by
  obtain ⟨fuel, h⟩ := h
  obtain ⟨v, rows, e0, -, hl, -, hr, hR⟩ := openSliceF (sz := 1) Try.underlying42 d5 (by decide) h hw
  have e0 : [Value.slice a m c] = [v] := e0
  obtain rfl := (List.cons.inj e0).1
  obtain ⟨us, rfl, hus⟩ := rowsMap (f := fun n : Nat => [Value.int .u8 (n : Int)]) (p := fun n => n ≤ 255) (rows := rows) fun cs hcs => by
    obtain ⟨_, k, y, _, hy, _⟩ := hr cs hcs
    obtain ⟨n, e, hn⟩ := DataW.trod_int Try.underlying5 hy
    have h0 : 0 ≤ n ∧ n ≤ 255 := by
      have := hn.2
      simpa [Lit.wf, IntKind.min, IntKind.max, IntKind.signed, IntKind.bits] using this
    obtain ⟨x, rfl⟩ := Int.eq_ofNat_of_zero_le h0.1
    exact ⟨x, e, by omega⟩
  rw [List.length_map] at hl hR
  refine ⟨us, hus, hl, ?_⟩
  have e : (us.map fun n : Nat => [Value.int .u8 (n : Int)]).flatten = u8V us := by
    clear hR hl hus hr
    induction us with
    | nil => rfl
    | cons n us ih =>
      rw [List.map_cons, List.flatten_cons, ih]
      rfl
  rw [e] at hR
  exact hR.top
end
theorem parseArrays_walk {v : Value} {us : List Nat} (hu : ∀ n ∈ us, n ≤ 255) (hl : us.length ≤ maxLen) (b : Int) (w : World) (w1 : (Lit.int .u8 b).wf = true) (hx : (Row.fp 1 v us.length (u8V us)).h (fun _ => False) w) (hsh : w.ShapedOpen Try.prog) :
    Calls Try.prog 8 #[v, .int .u8 b] w fun e w' => e = .returned (.bool true) ∧ RowKit.Below w.heap.size w w' := by
  have h1 : 0 ≤ b ∧ b ≤ 255 := by simpa [Lit.wf, IntKind.min, IntKind.max, IntKind.signed, IntKind.bits] using w1
  obtain ⟨y, rfl⟩ := Int.eq_ofNat_of_zero_le h1.1
  exact Tri.top (arrays_law hu hl (by omega)) fun φ h => by
    rcases List.mem_cons.1 h with rfl | h
    · exact hx
    · exact gF_of hsh φ h
namespace parseArrays
open Go.ChangeShapes Go.WideShapes Go.ChangeAt Go.RowKit
set_option maxRecDepth 100000 in
theorem lifted (os : Os) (started : os.Started) (H : Type) (enc : TypeId × Value → H) :
    ReturnsInHanded {} Try.checked os 8 .any (Rows.parseArraysSpec.pre6 enc Try.prog Try.f8 Rows.parseArraysRow.domain false) (Rows.parseArraysSpec.post enc Try.prog Try.f8 false true false false) := by
  refine returnsInHanded_of_change_shaped (C := Try.checked) own started (by kernel_rfl) Try.func8
    (ChangeSpec.witness6 (enc := enc) (C := Try.checked) false ⟨#[], #[.slice none 0 0, .int .u8 0], []⟩ 8 (by kernel_rfl) (by kernel_rfl) (by kernel_rfl) (by kernel_rfl)) ?_
  intro W base args ds gs before hval0 hW hcnd hwt hsh _
  have hval : ∀ (j : Nat) t v, Try.f8.params[j]? = some t → args[j]? = some v → Value.okWide Try.prog W .any base t v := hval0
  have hW' := hW
  obtain ⟨p, q, hA0, hV, rfl, hfz, hnd⟩ := hW
  have hA : DataW.TrodAll enc Try.prog W 0 (fun _ => true) true Try.f8.params.toList args.toList ds p := hA0
  have hwt2 : (DataW.weightsEach Try.prog (Try.f8.params.toList ++ Rows.parseArraysSpec.plain.varTypes Try.prog) (ds ++ gs)).all (· ≤ reachBytes) = true := hwt
  rw [Try.params8] at hA hval hwt2
  obtain ⟨v0, vs0, d0, ds0, p0, q0, hargs, rfl, rfl, h0, r0⟩ := trodAll_cons hA
  obtain ⟨v1, vs1, d1, ds1, p1, q1, rfl, rfl, rfl, h1, r1⟩ := trodAll_cons r0
  obtain ⟨rfl, rfl, rfl⟩ := trodAll_nil r1
  obtain rfl : args = #[v0, v1] := by cases args; simp_all
  obtain ⟨b0, m0, c0, rfl⟩ := okWide_slice Try.underlying42 (hval 0 42 v0 rfl rfl)
  obtain ⟨us, hu, hl, hΦ⟩ := openU8 h0 (Wt.of_each hwt2 (j := 0) rfl rfl)
  obtain ⟨a1, rfl, rfl, rfl, w1⟩ := open_int Try.underlying5 (hval 1 5 v1 rfl rfl) h1
  refine (parseArrays_walk hu hl a1 W w1 hΦ hsh).mono fun e W' ⟨he, hg⟩ => ?_
  subst he
  exact ⟨_, rfl, law_post hW' rfl (by kernel_rfl) (fun t ht => by have ht : t ∈ [42, 5] := ht; simp only [List.mem_cons, List.not_mem_nil, or_false] at ht; rcases ht with rfl | rfl <;> exact ⟨by kernel_rfl, of_decide_eq_true (by kernel_rfl)⟩) (T := 4) (by rfl) Try.underlying4
    (fun ds hl => by match ds, hl with | [e0, e1], _ => exact ⟨rfl, rfl, rfl⟩) hg⟩
theorem over : Rows.parseArraysRow.holds Try.pinned (OpenSpec.ofChange Rows.parseArraysSpec) :=
  OpenClaim.holds_of_wide 8 Try.f8 rfl rfl rfl rfl rfl rfl rfl ⟨rfl, rfl, rfl, rfl, rfl⟩ rfl rfl rfl rfl rfl (by kernel_rfl) Try.func8 (by kernel_rfl)
    (of_decide_eq_true (by kernel_rfl)) (by unfold Func.isWrapper; first | (rw [if_pos (by decide +kernel)]; kernel_rfl) | (rw [if_neg (by decide +kernel)]; exact ⟨rfl, rfl⟩))
    (fun os started H enc _ => lifted os started H enc)
theorem proved : Rows.ParseArraysSaid := over
end parseArrays
#print axioms parseArrays.proved
end Go.Proofs.Ytjnineeeffecaaa
