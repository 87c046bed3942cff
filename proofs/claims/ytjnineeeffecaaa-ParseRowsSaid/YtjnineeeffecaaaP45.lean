/- Law: a row of one sign is read from the left, a row of = from the right. -/
import Derived.Test.YtjnineeeffecaaaP37
import Derived.Test.YtjnineeeffecaaaP44
namespace Go.Proofs.Ytjnineeeffecaaa
open Go X
set_option maxRecDepth 100000
set_option maxHeartbeats 4000000
@[reducible] def sgC : List Value := [.string (tx [124]), .string (tx [94]), .string (tx [38]), .string (tx [61, 61]), .string (tx [60]), .string (tx [60, 60]), .string (tx [43]), .string (tx [42])]
theorem sgC_at : ∀ k < 8, sgC.toArray[k]? = some (.string (tx (sgs.getD k []))) := fun k hk => by
  match k, hk with
  | 0, _ => rfl
  | 1, _ => rfl
  | 2, _ => rfl
  | 3, _ => rfl
  | 4, _ => rfl
  | 5, _ => rfl
  | 6, _ => rfl
  | 7, _ => rfl
theorem firstL_ndM (x : NdM) : firstL x.nd = (firstM x).map NdM.nd := by
  unfold firstL firstM
  rw [nd_kids, NdM.nds_eq]
  cases x.kids with
  | nil => rfl
  | cons f l =>
    rw [List.map_cons]
    dsimp only
    rw [nd_kids, NdM.nds_eq, List.getLast?_map]
    cases f.kids.getLast? with
    | none => rfl
    | some b =>
      rw [Option.map_some]
      dsimp only
      rw [nd_kids, NdM.nds_eq]
      match b.kids with
      | [] => rfl
      | _ :: _ :: _ => rfl
      | [z] =>
        rw [List.map_singleton]
        dsimp only
        rw [nd_kids, NdM.nds_eq]
        match z.kids with
        | [] => rfl
        | _ :: _ :: _ => rfl
        | [y] => rfl
theorem nds_two {l : List NdM} {a b : Nd} (h : NdM.nds l = [a, b]) : ∃ x y, l = [x, y] ∧ x.nd = a ∧ y.nd = b := by
  rw [NdM.nds_eq] at h
  match l, h with
  | [x, y], h =>
    injection h with h1 h2
    injection h2 with h2 _
    exact ⟨x, y, rfl, h1, h2⟩
theorem nd_of {x : NdM} {k n : Int} {s : ByteArray} {t : Ty} {l : List Nd} (h : x.nd = .mk k s n t l) : x.kind = k ∧ x.text = s ∧ NdM.nds x.kids = l := ⟨(nd_mk h).1, (nd_mk h).2.1, (nd_mk h).2.2.2.2⟩
attribute [local irreducible] XC XL XQ Tri blk Shows Sq Rd Mt inBlockX XS XG XG0 TkS AnS rowO tyFP tysFP ndFP ndsFP Row.fp FP.all
theorem rows_tri {a b : Nat} (ha : a ≤ 255) (hb : b ≤ 255) : Tri Try.prog 7 [.int .u8 (a : Int), .int .u8 (b : Int)] [] [gF] fun e L Φ => e = .returned (.bool true) ∧ L = [] ∧ Φ = [] := by
  refine Tri.of Try.func7 rfl fun c => ?_
  repeat' (first
    | refine XStep ?_
    | refine Fa.mk fun b => ?_
    | refine Fb.mk fun b2 => ?_
    | refine Fz.mk fun z => ?_
    | (refine Gd.mk (fun h => ?_) (fun h => ?_) <;> try (first | (exfalso; omega) | exact absurd rfl h | (exfalso; simp at h <;> omega)))
    | refine Ands.mk ?_ ?_
    | (refine XC.is ?_; refine W110 ?_; refine XC.planG (by kernel_rfl) (fun _ m h => h.drewn m) ?_; (conv => arg 5; reduce); refine XG0.of ?_; (conv => arg 5; reduce); (conv => arg 6; reduce); refine XG.go (by decide +kernel) ?_))
  refine XL.triq (shown_tri) (by rfl) (by rfl) (by rfl) (by rfl) (by rfl) (by rfl) (by rfl) (by (repeat' (first | exact Sels.nil | exact Sel.here | apply Sels.cons | apply Sel.there)); done) (by (repeat' (first | exact Sels.nil | exact Sel.here | apply Sels.cons | apply Sel.there)); done) (by (repeat (first | exact sub0 | refine subC (by repeat (first | exact List.Mem.head _ | apply List.Mem.tail)) ?_)); done) ?_
  repeat' (first
    | refine XStep ?_
    | refine Fa.mk fun b => ?_
    | refine Fb.mk fun b2 => ?_
    | refine Fz.mk fun z => ?_
    | (refine Gd.mk (fun h => ?_) (fun h => ?_) <;> try (first | (exfalso; omega) | exact absurd rfl h | (exfalso; simp at h <;> omega)))
    | refine Ands.mk ?_ ?_
    | (refine XC.is ?_; refine W110 ?_; refine XC.planG (by kernel_rfl) (fun _ m h => h.drewn m) ?_; (conv => arg 5; reduce); refine XG0.of ?_; (conv => arg 5; reduce); (conv => arg 6; reduce); refine XG.go (by decide +kernel) ?_))
  have hk : a % 8 < 8 := Nat.mod_lt _ (by decide)
  have hg := sgC_at (a % 8) hk
  refine XL.rem64 (a := a) (b := 8) (by rfl) (by rfl) (by rfl) (by rfl) (by rfl) (by rfl) (by omega) ?_
  repeat' (first
    | refine XStep ?_
    | refine Fa.mk fun b => ?_
    | refine Fb.mk fun b2 => ?_
    | refine Fz.mk fun z => ?_
    | (refine Gd.mk (fun h => ?_) (fun h => ?_) <;> try (first | (exfalso; omega) | exact absurd rfl h | (exfalso; simp at h <;> omega)))
    | refine Ands.mk ?_ ?_
    | (refine XC.is ?_; refine W110 ?_; refine XC.planG (by kernel_rfl) (fun _ m h => h.drewn m) ?_; (conv => arg 5; reduce); refine XG0.of ?_; (conv => arg 5; reduce); (conv => arg 6; reduce); refine XG.go (by decide +kernel) ?_))
  refine XL.remU8 (a := b) (b := 30) (by rfl) (by rfl) (by rfl) (by rfl) (by rfl) (by rfl) (by omega) ?_
  repeat' (first
    | refine XStep ?_
    | refine Fa.mk fun b => ?_
    | refine Fb.mk fun b2 => ?_
    | refine Fz.mk fun z => ?_
    | (refine Gd.mk (fun h => ?_) (fun h => ?_) <;> try (first | (exfalso; omega) | exact absurd rfl h | (exfalso; simp at h <;> omega)))
    | refine Ands.mk ?_ ?_
    | (refine XC.is ?_; refine W110 ?_; refine XC.planG (by kernel_rfl) (fun _ m h => h.drewn m) ?_; (conv => arg 5; reduce); refine XG0.of ?_; (conv => arg 5; reduce); (conv => arg 6; reduce); refine XG.go (by decide +kernel) ?_))
  have hr : b % 30 < 30 := Nat.mod_lt _ (by decide)
  have hsl := sgs_len hk
  have hrow : ∀ m, m ≤ 31 → parseA (preS ++ rowS (sgs.getD (a % 8) []) m ++ [59, 32, 125]) = _ := fun m hm => parse_row hk hm
  clear hg hk
  generalize sgs.getD (a % 8) [] = sg at *
  generalize b % 30 = r at *
  refine XC.loop (fun i : Nat => [(5, .bool true), (7, .string (tx sg)), (8, .int .i64 (2 + (r : Int))), (9, .string (tx (rowS sg i))), (10, .string (tx (rowS [61] i))), (11, .int .i64 ((i + 1 : Nat) : Int))])
    (fun i w => i ≤ r + 1 ∧ St c [] [gF] w) (fun i => r + 1 - i) 0 (by (repeat (first | exact fits_nil | refine fits_cons (by rfl) ?_)); done) (fun w h => ⟨Nat.zero_le _, h.less (by (repeat' (first | exact Sels.nil | exact Sel.here | apply Sels.cons | apply Sel.there)); done) (by (repeat (first | exact sub0 | refine subC (by repeat (first | exact List.Mem.head _ | apply List.Mem.tail)) ?_)); done)⟩) ?_
  intro i
  refine XC.pure (fun hi => ?_)
  have l1 : (tailL sg i).length ≤ 31 * 5 := by rw [tailL_len]; exact Nat.mul_le_mul (by omega) (by omega)
  have l2 : (tailL [61] i).length ≤ 31 * 5 := by rw [tailL_len]; exact Nat.mul_le_mul (by omega) (by decide)
  by_cases hlt : i < r + 1
  · have e1 : rowS sg i ++ [32] ++ sg ++ [32, 97] = rowS sg (i + 1) := by
      rw [rowS, rowS, tailL_snoc]
      simp
    have e2 : rowS [61] i ++ [32, 61, 32, 97] = rowS [61] (i + 1) := by
      rw [rowS, rowS, tailL_snoc]
      simp
    repeat' (first
      | refine XStep ?_
      | refine Fa.mk fun b => ?_
      | refine Fb.mk fun b2 => ?_
      | refine Fz.mk fun z => ?_
      | (refine Gd.mk (fun h => ?_) (fun h => ?_) <;> try (first | (exfalso; omega) | exact absurd rfl h | (exfalso; simp at h <;> omega)))
      | refine Ands.mk ?_ ?_
      | (refine XC.is ?_; refine W110 ?_; refine XC.planG (by kernel_rfl) (fun _ m h => h.drewn m) ?_; (conv => arg 5; reduce); refine XG0.of ?_; (conv => arg 5; reduce); (conv => arg 6; reduce); refine XG.go (by decide +kernel) ?_))
    refine XL.cat (a := rowS sg i) (b := [32]) (by rfl) (by rfl) (by rfl) (by rfl) (by rfl) (by rfl) (by simp; omega) ?_
    repeat' (first
      | refine XStep ?_
      | refine Fa.mk fun b => ?_
      | refine Fb.mk fun b2 => ?_
      | refine Fz.mk fun z => ?_
      | (refine Gd.mk (fun h => ?_) (fun h => ?_) <;> try (first | (exfalso; omega) | exact absurd rfl h | (exfalso; simp at h <;> omega)))
      | refine Ands.mk ?_ ?_
      | (refine XC.is ?_; refine W110 ?_; refine XC.planG (by kernel_rfl) (fun _ m h => h.drewn m) ?_; (conv => arg 5; reduce); refine XG0.of ?_; (conv => arg 5; reduce); (conv => arg 6; reduce); refine XG.go (by decide +kernel) ?_))
    refine XL.cat (a := rowS sg i ++ [32]) (b := sg) (by rfl) (by rfl) (by rfl) (by rfl) (by rfl) (by rfl) (by simp; omega) ?_
    refine XL.cat (a := rowS sg i ++ [32] ++ sg) (b := [32, 97]) (by rfl) (by rfl) (by rfl) (by rfl) (by rfl) (by rfl) (by simp; omega) ?_
    rw [e1]
    repeat' (first
      | refine XStep ?_
      | refine Fa.mk fun b => ?_
      | refine Fb.mk fun b2 => ?_
      | refine Fz.mk fun z => ?_
      | (refine Gd.mk (fun h => ?_) (fun h => ?_) <;> try (first | (exfalso; omega) | exact absurd rfl h | (exfalso; simp at h <;> omega)))
      | refine Ands.mk ?_ ?_
      | (refine XC.is ?_; refine W110 ?_; refine XC.planG (by kernel_rfl) (fun _ m h => h.drewn m) ?_; (conv => arg 5; reduce); refine XG0.of ?_; (conv => arg 5; reduce); (conv => arg 6; reduce); refine XG.go (by decide +kernel) ?_))
    refine XL.cat (a := rowS [61] i) (b := [32, 61, 32, 97]) (by rfl) (by rfl) (by rfl) (by rfl) (by rfl) (by rfl) (by simp; omega) ?_
    rw [e2]
    repeat' (first
      | refine XStep ?_
      | refine Fa.mk fun b => ?_
      | refine Fb.mk fun b2 => ?_
      | refine Fz.mk fun z => ?_
      | (refine Gd.mk (fun h => ?_) (fun h => ?_) <;> try (first | (exfalso; omega) | exact absurd rfl h | (exfalso; simp at h <;> omega)))
      | refine Ands.mk ?_ ?_
      | (refine XC.is ?_; refine W110 ?_; refine XC.planG (by kernel_rfl) (fun _ m h => h.drewn m) ?_; (conv => arg 5; reduce); refine XG0.of ?_; (conv => arg 5; reduce); (conv => arg 6; reduce); refine XG.go (by decide +kernel) ?_))
    exact XQ.round (i + 1) (by (repeat (first | exact fits_nil | refine fits_cons (by rfl) ?_)); done) (fun w hw => ⟨by omega, hw.less (by (repeat' (first | exact Sels.nil | exact Sel.here | apply Sels.cons | apply Sel.there)); done) (by (repeat (first | exact sub0 | refine subC (by repeat (first | exact List.Mem.head _ | apply List.Mem.tail)) ?_)); done)⟩) (by omega)
  · obtain rfl : i = r + 1 := by omega
    repeat' (first
      | refine XStep ?_
      | refine Fa.mk fun b => ?_
      | refine Fb.mk fun b2 => ?_
      | refine Fz.mk fun z => ?_
      | (refine Gd.mk (fun h => ?_) (fun h => ?_) <;> try (first | (exfalso; omega) | exact absurd rfl h | (exfalso; simp at h <;> omega)))
      | refine Ands.mk ?_ ?_
      | (refine XC.is ?_; refine W110 ?_; refine XC.planG (by kernel_rfl) (fun _ m h => h.drewn m) ?_; (conv => arg 5; reduce); refine XG0.of ?_; (conv => arg 5; reduce); (conv => arg 6; reduce); refine XG.go (by decide +kernel) ?_))
    refine XL.cat (a := preS) (b := rowS sg (r + 1)) (by rfl) (by rfl) (by rfl) (by rfl) (by rfl) (by rfl) (by simp; omega) ?_
    repeat' (first
      | refine XStep ?_
      | refine Fa.mk fun b => ?_
      | refine Fb.mk fun b2 => ?_
      | refine Fz.mk fun z => ?_
      | (refine Gd.mk (fun h => ?_) (fun h => ?_) <;> try (first | (exfalso; omega) | exact absurd rfl h | (exfalso; simp at h <;> omega)))
      | refine Ands.mk ?_ ?_
      | (refine XC.is ?_; refine W110 ?_; refine XC.planG (by kernel_rfl) (fun _ m h => h.drewn m) ?_; (conv => arg 5; reduce); refine XG0.of ?_; (conv => arg 5; reduce); (conv => arg 6; reduce); refine XG.go (by decide +kernel) ?_))
    refine XL.cat (a := preS ++ rowS sg (r + 1)) (b := [59, 32, 125]) (by rfl) (by rfl) (by rfl) (by rfl) (by rfl) (by rfl) (by simp; omega) ?_
    repeat' (first
      | refine XStep ?_
      | refine Fa.mk fun b => ?_
      | refine Fb.mk fun b2 => ?_
      | refine Fz.mk fun z => ?_
      | (refine Gd.mk (fun h => ?_) (fun h => ?_) <;> try (first | (exfalso; omega) | exact absurd rfl h | (exfalso; simp at h <;> omega)))
      | refine Ands.mk ?_ ?_
      | (refine XC.is ?_; refine W110 ?_; refine XC.planG (by kernel_rfl) (fun _ m h => h.drewn m) ?_; (conv => arg 5; reduce); refine XG0.of ?_; (conv => arg 5; reduce); (conv => arg 6; reduce); refine XG.go (by decide +kernel) ?_))
    refine XL.trir (parse_tri tokens_tri (preS ++ rowS sg (r + 1) ++ [59, 32, 125])) (by rfl) (by rfl) (by rfl) (by rfl) (by rfl) (by rfl) (by rfl) (by (repeat' (first | exact Sels.nil | exact Sel.here | apply Sels.cons | apply Sel.there)); done) (by (repeat (first | exact sub0 | refine subC (by repeat (first | exact List.Mem.head _ | apply List.Mem.tail)) ?_)); done) ?_
    rintro ⟨x, a1, k1⟩ hx
    have hok : x.nd.ok 30000 := by
      have := parseA_ok (s := preS ++ rowS sg (r + 1) ++ [59, 32, 125])
      rw [← hx] at this
      exact this.elim (fun h => by rw [show x.nd = .nil from h.2.1]; exact nil_ok) (fun h => h.2.1)
    rw [hrow (r + 1) (by omega)] at hx
    obtain ⟨hq, h0⟩ := Prod.mk.inj hx
    cases h0
    conv => arg 9; dsimp only [List.cons_append, List.nil_append]
    try conv => arg 7; dsimp only
    repeat' (first
      | refine XStep ?_
      | refine Fa.mk fun b => ?_
      | refine Fb.mk fun b2 => ?_
      | refine Fz.mk fun z => ?_
      | (refine Gd.mk (fun h => ?_) (fun h => ?_) <;> try (first | (exfalso; omega) | exact absurd rfl h | (exfalso; simp at h <;> omega)))
      | refine Ands.mk ?_ ?_
      | (refine XC.is ?_; refine W110 ?_; refine XC.planG (by kernel_rfl) (fun _ m h => h.drewn m) ?_; (conv => arg 5; reduce); refine XG0.of ?_; (conv => arg 5; reduce); (conv => arg 6; reduce); refine XG.go (by decide +kernel) ?_))
    refine XL.cat (a := preS) (b := rowS [61] (r + 1)) (by rfl) (by rfl) (by rfl) (by rfl) (by rfl) (by rfl) (by simp; omega) ?_
    repeat' (first
      | refine XStep ?_
      | refine Fa.mk fun b => ?_
      | refine Fb.mk fun b2 => ?_
      | refine Fz.mk fun z => ?_
      | (refine Gd.mk (fun h => ?_) (fun h => ?_) <;> try (first | (exfalso; omega) | exact absurd rfl h | (exfalso; simp at h <;> omega)))
      | refine Ands.mk ?_ ?_
      | (refine XC.is ?_; refine W110 ?_; refine XC.planG (by kernel_rfl) (fun _ m h => h.drewn m) ?_; (conv => arg 5; reduce); refine XG0.of ?_; (conv => arg 5; reduce); (conv => arg 6; reduce); refine XG.go (by decide +kernel) ?_))
    refine XL.cat (a := preS ++ rowS [61] (r + 1)) (b := [59, 32, 125]) (by rfl) (by rfl) (by rfl) (by rfl) (by rfl) (by rfl) (by simp; omega) ?_
    repeat' (first
      | refine XStep ?_
      | refine Fa.mk fun b => ?_
      | refine Fb.mk fun b2 => ?_
      | refine Fz.mk fun z => ?_
      | (refine Gd.mk (fun h => ?_) (fun h => ?_) <;> try (first | (exfalso; omega) | exact absurd rfl h | (exfalso; simp at h <;> omega)))
      | refine Ands.mk ?_ ?_
      | (refine XC.is ?_; refine W110 ?_; refine XC.planG (by kernel_rfl) (fun _ m h => h.drewn m) ?_; (conv => arg 5; reduce); refine XG0.of ?_; (conv => arg 5; reduce); (conv => arg 6; reduce); refine XG.go (by decide +kernel) ?_))
    refine XL.trir (parse_tri tokens_tri (preS ++ rowS [61] (r + 1) ++ [59, 32, 125])) (by rfl) (by rfl) (by rfl) (by rfl) (by rfl) (by rfl) (by rfl) (by (repeat' (first | exact Sels.nil | exact Sel.here | apply Sels.cons | apply Sel.there)); done) (by (repeat (first | exact sub0 | refine subC (by repeat (first | exact List.Mem.head _ | apply List.Mem.tail)) ?_)); done) ?_
    rintro ⟨y, a2, k2⟩ hy
    have hok2 : y.nd.ok 30000 := by
      have := parseA_ok (s := preS ++ rowS [61] (r + 1) ++ [59, 32, 125])
      rw [← hy] at this
      exact this.elim (fun h => by rw [show y.nd = .nil from h.2.1]; exact nil_ok) (fun h => h.2.1)
    rw [parse_set (by omega)] at hy
    obtain ⟨hq2, h0⟩ := Prod.mk.inj hy
    cases h0
    conv => arg 9; dsimp only [List.cons_append, List.nil_append]
    try conv => arg 7; dsimp only
    repeat' (first
      | refine XStep ?_
      | refine Fa.mk fun b => ?_
      | refine Fb.mk fun b2 => ?_
      | refine Fz.mk fun z => ?_
      | (refine Gd.mk (fun h => ?_) (fun h => ?_) <;> try (first | (exfalso; omega) | exact absurd rfl h | (exfalso; simp at h <;> omega)))
      | refine Ands.mk ?_ ?_
      | (refine XC.is ?_; refine W110 ?_; refine XC.planG (by kernel_rfl) (fun _ m h => h.drewn m) ?_; (conv => arg 5; reduce); refine XG0.of ?_; (conv => arg 5; reduce); (conv => arg 6; reduce); refine XG.go (by decide +kernel) ?_))
    have hF := firstL_ndM x
    rw [show x.nd = _ from hq] at hF
    have hF2 := firstL_ndM y
    rw [show y.nd = _ from hq2] at hF2
    refine XL.trir (first_tri hok) (by rfl) (by rfl) (by rfl) (by rfl) (by rfl) (by rfl) (by rfl) (by (repeat' (first | exact Sels.nil | exact Sel.here | apply Sels.cons | apply Sel.there)); done) (by (repeat (first | exact sub0 | refine subC (by repeat (first | exact List.Mem.head _ | apply List.Mem.tail)) ?_)); done) ?_
    rintro ⟨p, one⟩ hp
    cases hfx : firstM x with
    | none => rw [hfx] at hF; cases hF
    | some p' =>
    rw [hfx] at hF hp
    cases hp
    have hp : p.nd = rowN (tx sg) (r + 1) nmA := (Option.some.inj hF).symm
    conv => arg 9; dsimp only [List.cons_append, List.nil_append]
    try conv => arg 7; dsimp only
    repeat' (first
      | refine XStep ?_
      | refine Fa.mk fun b => ?_
      | refine Fb.mk fun b2 => ?_
      | refine Fz.mk fun z => ?_
      | (refine Gd.mk (fun h => ?_) (fun h => ?_) <;> try (first | (exfalso; omega) | exact absurd rfl h | (exfalso; simp at h <;> omega)))
      | refine Ands.mk ?_ ?_
      | (refine XC.is ?_; refine W110 ?_; refine XC.planG (by kernel_rfl) (fun _ m h => h.drewn m) ?_; (conv => arg 5; reduce); refine XG0.of ?_; (conv => arg 5; reduce); (conv => arg 6; reduce); refine XG.go (by decide +kernel) ?_))
    generalize b = bp at *
    refine XL.trir (first_tri hok2) (by rfl) (by rfl) (by rfl) (by rfl) (by rfl) (by rfl) (by rfl) (by (repeat' (first | exact Sels.nil | exact Sel.here | apply Sels.cons | apply Sel.there)); done) (by (repeat (first | exact sub0 | refine subC (by repeat (first | exact List.Mem.head _ | apply List.Mem.tail)) ?_)); done) ?_
    rintro ⟨q, one⟩ hq'
    cases hfy : firstM y with
    | none => rw [hfy] at hF2; cases hF2
    | some q' =>
    rw [hfy] at hF2 hq'
    cases hq'
    have hq' : q.nd = setN (r + 1) := (Option.some.inj hF2).symm
    conv => arg 9; dsimp only [List.cons_append, List.nil_append]
    try conv => arg 7; dsimp only
    clear hF hF2 hfx hfy hq hq2 hx hy hok hok2 hrow l1 l2
    repeat' (first
      | refine XStep ?_
      | refine Fa.mk fun b => ?_
      | refine Fb.mk fun b2 => ?_
      | refine Fz.mk fun z => ?_
      | (refine Gd.mk (fun h => ?_) (fun h => ?_) <;> try (first | (exfalso; omega) | exact absurd rfl h | (exfalso; simp at h <;> omega)))
      | refine Ands.mk ?_ ?_
      | (refine XC.is ?_; refine W110 ?_; refine XC.planG (by kernel_rfl) (fun _ m h => h.drewn m) ?_; (conv => arg 5; reduce); refine XG0.of ?_; (conv => arg 5; reduce); (conv => arg 6; reduce); refine XG.go (by decide +kernel) ?_))
    generalize b = bq at *
    refine XC.loop (fun z : Nat × NdM × NdM => [(5, .bool true), (7, .string (tx sg)), (8, .int .i64 (2 + (r : Int))), (18, .pointer (some ⟨bp, 0, none⟩)), (20, .pointer (some ⟨bq, 0, none⟩)), (22, .int .i64 ((z.1 + 1 : Nat) : Int))])
      (fun z w => (z.1 ≤ r + 1 ∧ z.2.1.nd = rowN (tx sg) (r + 1 - z.1) nmA ∧ z.2.2.nd = setN (r + 1 - z.1)) ∧ St c [cel bp z.2.1.cells.toArray 27, cel bq z.2.2.cells.toArray 27] [ndFP z.2.1, ndFP z.2.2] w) (fun z => r + 1 - z.1) (0, p, q) (by (repeat (first | exact fits_nil | refine fits_cons (by rfl) ?_)); done) (fun w h => ⟨⟨Nat.zero_le _, hp, hq'⟩, h.less (by (repeat' (first | exact Sels.nil | exact Sel.here | apply Sels.cons | apply Sel.there)); done) (by (repeat (first | exact sub0 | refine subC (by repeat (first | exact List.Mem.head _ | apply List.Mem.tail)) ?_)); done)⟩) ?_
    clear hp hq'
    rintro ⟨j, p, q⟩
    dsimp only
    refine XC.pure (fun hj => ?_)
    obtain ⟨hj, hp, hq⟩ := hj
    by_cases hlt : j < r + 1
    · obtain ⟨m, hm⟩ : ∃ m, r + 1 - j = m + 1 := ⟨r - j, by omega⟩
      rw [hm] at hp hq
      rw [rowN_top] at hp
      rw [setN] at hq
      obtain ⟨p1, p2, p3⟩ := nd_of hp
      obtain ⟨q1, q2, q3⟩ := nd_of hq
      obtain ⟨pa, pb, hpk, hpa, hpb⟩ := nds_two p3
      obtain ⟨qa, qb, hqk, hqa, hqb⟩ := nds_two q3
      have kb := (nd_of hpb).1
      have ka := (nd_of hqa).1
      have np : p.kids.length = 2 := by rw [hpk]; rfl
      have nq : q.kids.length = 2 := by rw [hqk]; rfl
      have a0 : p.kids[0]? = some pa := by rw [hpk]; rfl
      have a1 : p.kids[1]? = some pb := by rw [hpk]; rfl
      have c0 : q.kids[0]? = some qa := by rw [hqk]; rfl
      have c1 : q.kids[1]? = some qb := by rw [hqk]; rfl
      have ma : pa ∈ p.kids := by rw [hpk]; exact List.mem_cons_self
      have mb : qb ∈ q.kids := by rw [hqk]; exact .tail _ (.head _)
      have g1 := nd_fld a1 (j := 0) (u := .int .i64 pb.kind) rfl
      have g0 := nd_fld c0 (j := 0) (u := .int .i64 qa.kind) rfl
      have aP := nd_at a0
      have aQ := nd_at c1
      refine XC.conv (fun w h => ((((((h.ndRowF (x := p) (.head _)).ndRowF (x := q) (.tail _ (.tail _ (.head _)))).ndKids (x := p) (.tail _ (.tail _ (.head _)))).ndKid (y := pa) (.head _) ma).ndKids (x := q) (.tail _ (.tail _ (.tail _ (.tail _ (.tail _ (.head _))))))).ndKid (y := qb) (.head _) mb).forget (Φ' := [ndFP qb, ndFP pa, Row.fp 8 q.kv q.kids.length (ndC q.kids), Row.fp 8 p.kv p.kids.length (ndC p.kids)]) (by (repeat (first | exact sub0 | refine subC (by repeat (first | exact List.Mem.head _ | apply List.Mem.tail)) ?_)); done)) ?_
      clear hp hq p3 q3 hpk hqk a0 a1 c0 c1
      repeat' (first
        | refine XStep ?_
        | refine Fa.mk fun b => ?_
        | refine Fb.mk fun b2 => ?_
        | refine Fz.mk fun z => ?_
        | (refine Gd.mk (fun h => ?_) (fun h => ?_) <;> try (first | (exfalso; omega) | exact absurd rfl h | (exfalso; simp at h <;> omega)))
        | refine Ands.mk ?_ ?_
        | (refine XC.is ?_; refine W110 ?_; refine XC.planG (by kernel_rfl) (fun _ m h => h.drewn m) ?_; (conv => arg 5; reduce); refine XG0.of ?_; (conv => arg 5; reduce); (conv => arg 6; reduce); refine XG.go (by decide +kernel) ?_))
      · exact absurd p2 (by assumption)
      have em : r + 1 - (j + 1) = m := by omega
      refine XQ.round (j + 1, pa, qb) (by (repeat (first | exact fits_nil | refine fits_cons (by rfl) ?_)); done) (fun w hw => ⟨⟨by dsimp only; omega, by dsimp only; rw [em]; exact hpa, by dsimp only; rw [em]; exact hqb⟩, hw.less (by (repeat' (first | exact Sels.nil | exact Sel.here | apply Sels.cons | apply Sel.there)); done) (by (repeat (first | exact sub0 | refine subC (by repeat (first | exact List.Mem.head _ | apply List.Mem.tail)) ?_)); done)⟩) (by dsimp only; omega)
    · obtain rfl : j = r + 1 := by omega
      rw [Nat.sub_self] at hp hq
      have kp := (nd_of (show p.nd = nmA from hp)).1
      have kq := (nd_of (show q.nd = nmA from hq)).1
      repeat' (first
        | refine XStep ?_
        | refine Fa.mk fun b => ?_
        | refine Fb.mk fun b2 => ?_
        | refine Fz.mk fun z => ?_
        | (refine Gd.mk (fun h => ?_) (fun h => ?_) <;> try (first | (exfalso; omega) | exact absurd rfl h | (exfalso; simp at h <;> omega)))
        | refine Ands.mk ?_ ?_
        | (refine XC.is ?_; refine W110 ?_; refine XC.planG (by kernel_rfl) (fun _ m h => h.drewn m) ?_; (conv => arg 5; reduce); refine XG0.of ?_; (conv => arg 5; reduce); (conv => arg 6; reduce); refine XG.go (by decide +kernel) ?_))
      refine XQ.done1 (by rfl) (by rfl) (⟨congrArg (fun b => Ending.returned (.bool b)) (decide_eq_true kq), rfl, rfl⟩) (by (repeat' (first | exact Sels.nil | exact Sel.here | apply Sels.cons | apply Sel.there)); done) (by (repeat (first | exact sub0 | refine subC (by repeat (first | exact List.Mem.head _ | apply List.Mem.tail)) ?_)); done)
theorem parseRows_walk (a b : Int) (w : World) (w0 : (Lit.int .u8 a).wf = true) (w1 : (Lit.int .u8 b).wf = true) (hsh : w.ShapedOpen Try.prog) :
    Calls Try.prog 7 #[.int .u8 a, .int .u8 b] w fun e w' => e = .returned (.bool true) ∧ RowKit.Below w.heap.size w w' := by
  have h0 : 0 ≤ a ∧ a ≤ 255 := by simpa [Lit.wf, IntKind.min, IntKind.max, IntKind.signed, IntKind.bits] using w0
  have h1 : 0 ≤ b ∧ b ≤ 255 := by simpa [Lit.wf, IntKind.min, IntKind.max, IntKind.signed, IntKind.bits] using w1
  obtain ⟨x, rfl⟩ := Int.eq_ofNat_of_zero_le h0.1
  obtain ⟨y, rfl⟩ := Int.eq_ofNat_of_zero_le h1.1
  exact Tri.top (rows_tri (by omega) (by omega)) (gF_of hsh)
namespace parseRows
open Go.ChangeShapes Go.WideShapes Go.ChangeAt Go.RowKit
set_option maxRecDepth 100000 in
theorem lifted (os : Os) (started : os.Started) (H : Type) (enc : TypeId × Value → H) :
    ReturnsInHanded {} Try.checked os 7 .any (Rows.parseRowsSpec.pre6 enc Try.prog Try.f7 Rows.parseRowsRow.domain false) (Rows.parseRowsSpec.post enc Try.prog Try.f7 false true false false) := by
  refine returnsInHanded_of_change_shaped (C := Try.checked) own started (by kernel_rfl) Try.func7
    (ChangeSpec.witness6 (enc := enc) (C := Try.checked) false ⟨#[], #[.int .u8 0, .int .u8 0], []⟩ 8 (by kernel_rfl) (by kernel_rfl) (by kernel_rfl) (by kernel_rfl)) ?_
  intro W base args ds gs before hval0 hW hcnd _ hsh _
  have hval : ∀ (j : Nat) t v, Try.f7.params[j]? = some t → args[j]? = some v → Value.okWide Try.prog W .any base t v := hval0
  have hW' := hW
  obtain ⟨p, q, hA0, hV, rfl, hfz, hnd⟩ := hW
  have hA : DataW.TrodAll enc Try.prog W 0 (fun _ => true) true Try.f7.params.toList args.toList ds p := hA0
  rw [Try.params7] at hA hval
  obtain ⟨v0, vs0, d0, ds0, p0, q0, hargs, rfl, rfl, h0, r0⟩ := trodAll_cons hA
  obtain ⟨v1, vs1, d1, ds1, p1, q1, rfl, rfl, rfl, h1, r1⟩ := trodAll_cons r0
  obtain ⟨rfl, rfl, rfl⟩ := trodAll_nil r1
  obtain rfl : args = #[v0, v1] := by cases args; simp_all
  obtain ⟨a0, rfl, rfl, rfl, w0⟩ := open_int Try.underlying5 (hval 0 5 v0 rfl rfl) h0
  obtain ⟨a1, rfl, rfl, rfl, w1⟩ := open_int Try.underlying5 (hval 1 5 v1 rfl rfl) h1
  refine (parseRows_walk a0 a1 W w0 w1 hsh).mono fun e W' ⟨he, hg⟩ => ?_
  subst he
  exact ⟨_, rfl, law_post hW' rfl (by kernel_rfl) (fun t ht => by have ht : t ∈ [5, 5] := ht; simp only [List.mem_cons, List.not_mem_nil, or_false] at ht; rcases ht with rfl | rfl <;> exact ⟨by kernel_rfl, of_decide_eq_true (by kernel_rfl)⟩) (T := 4) (by rfl) Try.underlying4
    (fun ds hl => by match ds, hl with | [e0, e1], _ => exact ⟨rfl, rfl, rfl⟩) hg⟩
theorem over : Rows.parseRowsRow.holds Try.pinned (OpenSpec.ofChange Rows.parseRowsSpec) :=
  OpenClaim.holds_of_wide 7 Try.f7 rfl rfl rfl rfl rfl rfl rfl ⟨rfl, rfl, rfl, rfl, rfl⟩ rfl rfl rfl rfl rfl (by kernel_rfl) Try.func7 (by kernel_rfl)
    (of_decide_eq_true (by kernel_rfl)) (by unfold Func.isWrapper; first | (rw [if_pos (by decide +kernel)]; kernel_rfl) | (rw [if_neg (by decide +kernel)]; exact ⟨rfl, rfl⟩))
    (fun os started H enc _ => lifted os started H enc)
theorem proved : Rows.ParseRowsSaid := over
end parseRows
#print axioms parseRows.proved
end Go.Proofs.Ytjnineeeffecaaa
