/- The first expression of the first function. -/
import Derived.Test.YtjnineeeffecaaaP27
import Derived.Test.YtjnineeeffecaaaP34
import Derived.Test.YtjnineeeffecaaaX51
namespace Go.Proofs.Ytjnineeeffecaaa
open Go X
set_option maxRecDepth 100000
set_option maxHeartbeats 4000000
def firstM (x : NdM) : Option NdM := match x.kids with
  | [] => none
  | f :: _ => match f.kids.getLast? with
    | none => none
    | some b => match b.kids with
      | [z] => match z.kids with
        | [y] => some y
        | _ => none
      | _ => none
theorem nd_fld {l : List NdM} {i : Nat} {x : NdM} (h : l[i]? = some x) {j : Nat} {u : Value} (hj : x.cells[j]? = some u) : (ndC l)[i * 8 + j]? = some u := (nd_at h) j u hj
attribute [local irreducible] XC XL XQ Tri blk Shows Sq Rd Mt inBlockX XS XG XG0 TkS AnS rowO tyFP tysFP ndFP ndsFP Row.fp FP.all
theorem first_tri {x : NdM} (hx : x.nd.ok 30000) : Tri Try.prog 14 [x.v] [] [ndFP x] (Ret (fun y : NdM × Bool => .tuple #[y.1.v, .bool y.2]) (fun _ => []) (fun y => [ndFP y.1]) fun y => y = match firstM x with
    | some z => (z, true)
    | none => (nilN, false)) := by
  refine Tri.of Try.func14 rfl fun c => ?_
  obtain ⟨hl, hks, -⟩ := nd_ok hx
  refine XC.conv (fun w h => (((h.ndRowF (x := x) (.head _)).ndKids (x := x) (.tail _ (.head _))).nilTy).ndLeaf 0 0 (tx []) TyM.nil (.head _)) ?_
  rcases Nat.eq_zero_or_pos x.kids.length with hn | hn
  · have hf : firstM x = none := by
      unfold firstM
      rw [List.eq_nil_of_length_eq_zero hn]
    repeat' (first
      | refine XStep ?_
      | refine Fa.mk fun b => ?_
      | refine Fb.mk fun b2 => ?_
      | refine Fz.mk fun z => ?_
      | (refine Gd.mk (fun h => ?_) (fun h => ?_) <;> try (first | (exfalso; omega) | exact absurd rfl h | (exfalso; simp at h <;> omega)))
      | refine Ands.mk ?_ ?_
      | (refine XC.is ?_; refine W110 ?_; refine XC.planG (by kernel_rfl) (fun _ m h => h.drewn m) ?_; (conv => arg 5; reduce); refine XG0.of ?_; (conv => arg 5; reduce); (conv => arg 6; reduce); refine XG.go (by decide +kernel) ?_))
    exact XQ.doneCT (by rfl) (by rfl) (by rfl) (by rfl) (by rfl) .here (by rfl) ⟨(nilN, false), by rw [hf], rfl, rfl, rfl⟩ (by (repeat' (first | exact Sels.nil | exact Sel.here | apply Sels.cons | apply Sel.there)); done) (by (repeat (first | exact sub0 | refine subC (by repeat (first | exact List.Mem.head _ | apply List.Mem.tail)) ?_)); done)
  · obtain ⟨f, h0, hm⟩ := get_of_lt (l := x.kids) (i := 0) hn
    obtain ⟨hl2, hks2, -⟩ := nd_ok (hks f hm)
    refine XC.conv (fun w h => (((h.ndKid (y := f) (.tail _ (.tail _ (.head _))) hm).ndRowF (x := f) (.head _)).ndKids (x := f) (.tail _ (.head _)))) ?_
    have a0 := nd_at h0
    have g0 := nd_fld h0 (j := 0) (u := .int .i64 f.kind) rfl
    have g7 := nd_fld h0 (j := 7) (u := f.kv) rfl
    have hf : firstM x = match f.kids.getLast? with
        | none => none
        | some b => match b.kids with
          | [z] => match z.kids with
            | [y] => some y
            | _ => none
          | _ => none := by
      unfold firstM
      cases hk : x.kids with
      | nil => rw [hk] at hn; cases hn
      | cons a l => rw [hk] at h0; cases h0; rfl
    rcases Nat.eq_zero_or_pos f.kids.length with hn2 | hn2
    · have hf : firstM x = none := by
        rw [hf, List.eq_nil_of_length_eq_zero hn2]
        rfl
      repeat' (first
        | refine XStep ?_
        | refine Fa.mk fun b => ?_
        | refine Fb.mk fun b2 => ?_
        | refine Fz.mk fun z => ?_
        | (refine Gd.mk (fun h => ?_) (fun h => ?_) <;> try (first | (exfalso; omega) | exact absurd rfl h | (exfalso; simp at h <;> omega)))
        | refine Ands.mk ?_ ?_
        | (refine XC.is ?_; refine W110 ?_; refine XC.planG (by kernel_rfl) (fun _ m h => h.drewn m) ?_; (conv => arg 5; reduce); refine XG0.of ?_; (conv => arg 5; reduce); (conv => arg 6; reduce); refine XG.go (by decide +kernel) ?_))
      exact XQ.doneCT (by rfl) (by rfl) (by rfl) (by rfl) (by rfl) .here (by rfl) ⟨(nilN, false), by rw [hf], rfl, rfl, rfl⟩ (by (repeat' (first | exact Sels.nil | exact Sel.here | apply Sels.cons | apply Sel.there)); done) (by (repeat (first | exact sub0 | refine subC (by repeat (first | exact List.Mem.head _ | apply List.Mem.tail)) ?_)); done)
    · obtain ⟨b, hb, mb⟩ := get_of_lt (l := f.kids) (i := f.kids.length - 1) (by omega)
      rw [List.getLast?_eq_getElem?, hb] at hf
      have aB := nd_at hb
      obtain ⟨hl3, hks3, -⟩ := nd_ok (hks2 b mb)
      refine XC.conv (fun w h => (((h.ndKid (y := b) (.head _) mb).ndRowF (x := b) (.head _)).ndKids (x := b) (.tail _ (.head _)))) ?_
      by_cases hn3 : b.kids.length = 1
      · obtain ⟨z, hz⟩ := List.length_eq_one_iff.1 hn3
        have z0 : b.kids[0]? = some z := by rw [hz]; rfl
        have mz : z ∈ b.kids := by rw [hz]; exact List.mem_cons_self
        dsimp only at hf
        rw [hz] at hf
        dsimp only at hf
        have gz0 := nd_fld z0 (j := 0) (u := .int .i64 z.kind) rfl
        have gz7 := nd_fld z0 (j := 7) (u := z.kv) rfl
        obtain ⟨hl4, hks4, -⟩ := nd_ok (hks3 z mz)
        refine XC.conv (fun w h => (((h.ndKid (y := z) (.head _) mz).ndRowF (x := z) (.head _)).ndKids (x := z) (.tail _ (.head _)))) ?_
        by_cases hn4 : z.kids.length = 1
        · obtain ⟨y, hy⟩ := List.length_eq_one_iff.1 hn4
          have y0 : z.kids[0]? = some y := by rw [hy]; rfl
          have my : y ∈ z.kids := by rw [hy]; exact List.mem_cons_self
          have aY := nd_at y0
          rw [hy] at hf
          dsimp only at hf
          refine XC.conv (fun w h => (h.ndKid (y := y) (.head _) my).forget (Φ' := [ndFP y, Row.fp 8 z.kv z.kids.length (ndC z.kids), Row.fp 8 b.kv b.kids.length (ndC b.kids), Row.fp 8 f.kv f.kids.length (ndC f.kids), Row.fp 8 x.kv x.kids.length (ndC x.kids)]) (by (repeat (first | exact sub0 | refine subC (by repeat (first | exact List.Mem.head _ | apply List.Mem.tail)) ?_)); done)) ?_
          repeat' (first
            | refine XStep ?_
            | refine Fa.mk fun b => ?_
            | refine Fb.mk fun b2 => ?_
            | refine Fz.mk fun z => ?_
            | (refine Gd.mk (fun h => ?_) (fun h => ?_) <;> try (first | (exfalso; omega) | exact absurd rfl h | (exfalso; simp at h <;> omega)))
            | refine Ands.mk ?_ ?_
            | (refine XC.is ?_; refine W110 ?_; refine XC.planG (by kernel_rfl) (fun _ m h => h.drewn m) ?_; (conv => arg 5; reduce); refine XG0.of ?_; (conv => arg 5; reduce); (conv => arg 6; reduce); refine XG.go (by decide +kernel) ?_))
          all_goals exact XQ.doneCT (by rfl) (by rfl) (by rfl) (by rfl) (by rfl) (by repeat (first | exact Sel.here | apply Sel.there)) (by rfl) ⟨(y, true), by rw [hf], rfl, rfl, rfl⟩ (by (repeat' (first | exact Sels.nil | exact Sel.here | apply Sels.cons | apply Sel.there)); done) (by (repeat (first | exact sub0 | refine subC (by repeat (first | exact List.Mem.head _ | apply List.Mem.tail)) ?_)); done)
        · have hf : firstM x = none := by
            rw [hf]
            split
            · rename_i h; rw [h] at hn4; exact absurd rfl hn4
            · rfl
          refine XC.conv (fun w h => h.forget (Φ' := [ndFP (NdM.mk 0 (tx []) 0 TyM.nil none 0 0 []), Row.fp 8 z.kv z.kids.length (ndC z.kids), Row.fp 8 b.kv b.kids.length (ndC b.kids), Row.fp 8 f.kv f.kids.length (ndC f.kids), Row.fp 8 x.kv x.kids.length (ndC x.kids)]) (by (repeat (first | exact sub0 | refine subC (by repeat (first | exact List.Mem.head _ | apply List.Mem.tail)) ?_)); done)) ?_
          repeat' (first
            | refine XStep ?_
            | refine Fa.mk fun b => ?_
            | refine Fb.mk fun b2 => ?_
            | refine Fz.mk fun z => ?_
            | (refine Gd.mk (fun h => ?_) (fun h => ?_) <;> try (first | (exfalso; omega) | exact absurd rfl h | (exfalso; simp at h <;> omega)))
            | refine Ands.mk ?_ ?_
            | (refine XC.is ?_; refine W110 ?_; refine XC.planG (by kernel_rfl) (fun _ m h => h.drewn m) ?_; (conv => arg 5; reduce); refine XG0.of ?_; (conv => arg 5; reduce); (conv => arg 6; reduce); refine XG.go (by decide +kernel) ?_))
          all_goals exact XQ.doneCT (by rfl) (by rfl) (by rfl) (by rfl) (by rfl) (by repeat (first | exact Sel.here | apply Sel.there)) (by rfl) ⟨(nilN, false), by rw [hf], rfl, rfl, rfl⟩ (by (repeat' (first | exact Sels.nil | exact Sel.here | apply Sels.cons | apply Sel.there)); done) (by (repeat (first | exact sub0 | refine subC (by repeat (first | exact List.Mem.head _ | apply List.Mem.tail)) ?_)); done)
      · have hf : firstM x = none := by
          rw [hf]
          dsimp only
          split
          · rename_i h; rw [h] at hn3; exact absurd rfl hn3
          · rfl
        refine XC.conv (fun w h => h.forget (Φ' := [ndFP (NdM.mk 0 (tx []) 0 TyM.nil none 0 0 []), Row.fp 8 b.kv b.kids.length (ndC b.kids), Row.fp 8 f.kv f.kids.length (ndC f.kids), Row.fp 8 x.kv x.kids.length (ndC x.kids)]) (by (repeat (first | exact sub0 | refine subC (by repeat (first | exact List.Mem.head _ | apply List.Mem.tail)) ?_)); done)) ?_
        repeat' (first
          | refine XStep ?_
          | refine Fa.mk fun b => ?_
          | refine Fb.mk fun b2 => ?_
          | refine Fz.mk fun z => ?_
          | (refine Gd.mk (fun h => ?_) (fun h => ?_) <;> try (first | (exfalso; omega) | exact absurd rfl h | (exfalso; simp at h <;> omega)))
          | refine Ands.mk ?_ ?_
          | (refine XC.is ?_; refine W110 ?_; refine XC.planG (by kernel_rfl) (fun _ m h => h.drewn m) ?_; (conv => arg 5; reduce); refine XG0.of ?_; (conv => arg 5; reduce); (conv => arg 6; reduce); refine XG.go (by decide +kernel) ?_))
        all_goals exact XQ.doneCT (by rfl) (by rfl) (by rfl) (by rfl) (by rfl) (by repeat (first | exact Sel.here | apply Sel.there)) (by rfl) ⟨(nilN, false), by rw [hf], rfl, rfl, rfl⟩ (by (repeat' (first | exact Sels.nil | exact Sel.here | apply Sels.cons | apply Sel.there)); done) (by (repeat (first | exact sub0 | refine subC (by repeat (first | exact List.Mem.head _ | apply List.Mem.tail)) ?_)); done)
end Go.Proofs.Ytjnineeeffecaaa
