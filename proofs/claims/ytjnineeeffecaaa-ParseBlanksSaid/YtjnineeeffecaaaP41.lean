/- The text of tokens. -/
import Derived.Test.YtjnineeeffecaaaP23
import Derived.Test.YtjnineeeffecaaaP40
import Derived.Test.YtjnineeeffecaaaPL
import Derived.Test.YtjnineeeffecaaaX51
namespace Go.Proofs.Ytjnineeeffecaaa
open Go X
set_option maxRecDepth 100000
set_option maxHeartbeats 4000000
def strV (xs : List ByteArray) : List Value := xs.map Value.string
theorem join_tri {w : Value} {m : Nat} (xs : List ByteArray) (hm : xs.length = m) (sep : ByteArray) (hN : xs.length ≤ 140737488355328) (hlen : (Lib.join (xs.map (·.data.toList)) sep.data.toList).length ≤ 140737488355328) :
    Tri Try.prog 24 [w, .string sep] [rowO 9 1 w m (strV xs)] [] fun e L Φ => e = .returned (.string (tx (Lib.join (xs.map (·.data.toList)) sep.data.toList))) ∧ L = [rowO 9 1 w m (strV xs)] ∧ Φ = [] :=
  Tri.ofBelow (φ := fun W => Row 1 w m (strV xs) W) (fun c W h => h.row .here) fun W hR => by
    subst hm
    obtain ⟨-, hR⟩ := hR
    cases xs with
    | nil =>
      have hc : ∃ a c, w = .slice a 0 c := by
        rcases hR with ⟨h | ⟨b, off, s, h⟩, -⟩ | ⟨b, off, cap, h, -⟩
        · exact ⟨_, _, h⟩
        · exact ⟨_, _, h⟩
        · exact ⟨_, _, h⟩
      obtain ⟨a, c, rfl⟩ := hc
      refine (sh_strings_Join_none a c sep W).mono ?_
      rintro e W' ⟨rfl, rfl⟩
      exact ⟨rfl, RowKit.Below.refl _ _⟩
    | cons x xs =>
      rcases hR with ⟨-, h⟩ | ⟨b, off, cap, rfl, hcap, hcells⟩
      · simp at h
      · have hb : b < W.heap.size := by
          have h0 := hcells 0 (.string x) rfl
          rcases Nat.lt_or_ge b W.heap.size with h | h
          · exact h
          · simp [World.cell?, h] at h0
        exact sh_strings_Join b off cap (x :: xs) sep W (fun j y hj => hcells j (.string y) (by rw [strV, List.getElem?_map, hj]; rfl)) hb hN hcap hlen
theorem join_len : ∀ (xs : List (List UInt8)), (Lib.join xs [32]).length ≤ (xs.map List.length).sum + xs.length
  | [] => by simp [Lib.join_nil]
  | [x] => by rw [Lib.join_one]; simp
  | x :: y :: l => by
    have ih := join_len (y :: l)
    have hj : Lib.join (x :: y :: l) [32] = x ++ 32 :: Lib.join (y :: l) [32] := by
      rw [Lib.join_cons, Lib.joinTail, List.map_cons, List.flatten_cons, Lib.join_cons, Lib.joinTail]
      simp
    rw [hj, List.length_append, List.length_cons, List.map_cons, List.sum_cons, List.length_cons]
    omega
theorem strV_app (l : List Tok) (x : Tok) : strV (l.map Tok.text) ++ [.string x.text] = strV ((l ++ [x]).map Tok.text) := by simp [strV]
attribute [local irreducible] XC XL XQ Tri blk Shows Sq Rd Mt inBlockX XS XG XG0 TkS AnS rowO tyFP tysFP ndFP ndsFP Row.fp FP.all
theorem text_tri {v : Value} {T : List Tok} (hn : T.length ≤ 20000) (hs : (T.map fun t => t.text.data.toList.length).sum ≤ 20000) : Tri Try.prog 17 [v] [] [Row.fp 4 v T.length (tokC T)] fun e L Φ =>
    e = .returned (.string (tx (Lib.join (T.map fun t => t.text.data.toList) [32]))) ∧ L = [] ∧ Φ = [] := by
  refine Tri.of Try.func17 rfl fun c => ?_
  repeat' (first
    | refine XStep ?_
    | refine Fa.mk fun b => ?_
    | refine Fb.mk fun b2 => ?_
    | refine Fz.mk fun z => ?_
    | (refine Gd.mk (fun h => ?_) (fun h => ?_) <;> try (first | (exfalso; omega) | exact absurd rfl h | (exfalso; simp at h <;> omega)))
    | refine Ands.mk ?_ ?_
    | (refine XC.is ?_; refine W110 ?_; refine XC.planG (by kernel_rfl) (fun _ m h => h.drewn m) ?_; (conv => arg 5; reduce); refine XG0.of ?_; (conv => arg 5; reduce); (conv => arg 6; reduce); refine XG.go (by decide +kernel) ?_))
  refine XC.loop (fun z : Nat × Value => [(3, z.2), (6, v), (7, .int .i64 (T.length : Int)), (8, .int .i64 (z.1 : Int))])
    (fun z w => z.1 ≤ T.length ∧ St c [rowO 9 1 z.2 z.1 (strV ((T.take z.1).map Tok.text))] [Row.fp 4 v T.length (tokC T)] w) (fun z => T.length - z.1) (0, .slice none 0 0) (by (repeat (first | exact fits_nil | refine fits_cons (by rfl) ?_)); done) (fun w h => ⟨Nat.zero_le _, h.nilRow 9 1⟩) ?_
  rintro ⟨i, u⟩
  dsimp only
  refine XC.pure (fun hi => ?_)
  by_cases hlt : i < T.length
  · obtain ⟨t, ht, mt⟩ := get_of_lt hlt
    have aT := tok_at ht
    have hxs : strV ((T.take i).map Tok.text) ++ [.string t.text] = strV ((T.take (i + 1)).map Tok.text) := by
      rw [strV_app, List.take_add_one, ht]
      rfl
    repeat' (first
      | refine XStep ?_
      | refine Fa.mk fun b => ?_
      | refine Fb.mk fun b2 => ?_
      | refine Fz.mk fun z => ?_
      | (refine Gd.mk (fun h => ?_) (fun h => ?_) <;> try (first | (exfalso; omega) | exact absurd rfl h | (exfalso; simp at h <;> omega)))
      | refine Ands.mk ?_ ?_
      | (refine XC.is ?_; refine W110 ?_; refine XC.planG (by kernel_rfl) (fun _ m h => h.drewn m) ?_; (conv => arg 5; reduce); refine XG0.of ?_; (conv => arg 5; reduce); (conv => arg 6; reduce); refine XG.go (by decide +kernel) ?_))
    refine XL.append1 (e := 9) (u := .string t.text) (m := i) (m' := i + 1) (xs := strV ((T.take i).map Tok.text)) (xs' := strV ((T.take (i + 1)).map Tok.text)) (by rfl) (by rfl) (by rfl) (by rfl) (by rfl) (by rfl) (by rfl) (by repeat (first | exact Sel.here | apply Sel.there)) (by repeat (first | exact Sel.here | apply Sel.there)) ⟨_, (by repeat (first | exact Sel.here | apply Sel.there))⟩ (by rfl) (Nat.le_refl _) rfl rfl (by omega) rfl hxs (fun v' => ?_)
    repeat' (first
      | refine XStep ?_
      | refine Fa.mk fun b => ?_
      | refine Fb.mk fun b2 => ?_
      | refine Fz.mk fun z => ?_
      | (refine Gd.mk (fun h => ?_) (fun h => ?_) <;> try (first | (exfalso; omega) | exact absurd rfl h | (exfalso; simp at h <;> omega)))
      | refine Ands.mk ?_ ?_
      | (refine XC.is ?_; refine W110 ?_; refine XC.planG (by kernel_rfl) (fun _ m h => h.drewn m) ?_; (conv => arg 5; reduce); refine XG0.of ?_; (conv => arg 5; reduce); (conv => arg 6; reduce); refine XG.go (by decide +kernel) ?_))
    exact XQ.round (i + 1, v') (by (repeat (first | exact fits_nil | refine fits_cons (by rfl) ?_)); done) (fun w hw => ⟨by dsimp only; omega, hw.less (by (repeat' (first | exact Sels.nil | exact Sel.here | apply Sels.cons | apply Sel.there)); done) (by (repeat (first | exact sub0 | refine subC (by repeat (first | exact List.Mem.head _ | apply List.Mem.tail)) ?_)); done)⟩) (by dsimp only; omega)
  · obtain rfl : i = T.length := by omega
    rw [List.take_length]
    have hl := join_len (T.map fun t => t.text.data.toList)
    rw [List.map_map, List.length_map] at hl
    have hl : (Lib.join (T.map fun t => t.text.data.toList) [32]).length ≤ 40000 := Nat.le_trans hl (Nat.add_le_add hs hn)
    repeat' (first
      | refine XStep ?_
      | refine Fa.mk fun b => ?_
      | refine Fb.mk fun b2 => ?_
      | refine Fz.mk fun z => ?_
      | (refine Gd.mk (fun h => ?_) (fun h => ?_) <;> try (first | (exfalso; omega) | exact absurd rfl h | (exfalso; simp at h <;> omega)))
      | refine Ands.mk ?_ ?_
      | (refine XC.is ?_; refine W110 ?_; refine XC.planG (by kernel_rfl) (fun _ m h => h.drewn m) ?_; (conv => arg 5; reduce); refine XG0.of ?_; (conv => arg 5; reduce); (conv => arg 6; reduce); refine XG.go (by decide +kernel) ?_))
    refine XL.triq (join_tri (w := u) (m := T.length) (T.map Tok.text) (by simp) (tx [32]) (by simp; omega) (by rw [List.map_map]; exact Nat.le_trans hl (by decide))) (by rfl) (by rfl) (by rfl) (by rfl) (by rfl) (by rfl) (by rfl) (by (repeat' (first | exact Sels.nil | exact Sel.here | apply Sels.cons | apply Sel.there)); done) (by (repeat' (first | exact Sels.nil | exact Sel.here | apply Sels.cons | apply Sel.there)); done) (by (repeat (first | exact sub0 | refine subC (by repeat (first | exact List.Mem.head _ | apply List.Mem.tail)) ?_)); done) ?_
    repeat' (first
      | refine XStep ?_
      | refine Fa.mk fun b => ?_
      | refine Fb.mk fun b2 => ?_
      | refine Fz.mk fun z => ?_
      | (refine Gd.mk (fun h => ?_) (fun h => ?_) <;> try (first | (exfalso; omega) | exact absurd rfl h | (exfalso; simp at h <;> omega)))
      | refine Ands.mk ?_ ?_
      | (refine XC.is ?_; refine W110 ?_; refine XC.planG (by kernel_rfl) (fun _ m h => h.drewn m) ?_; (conv => arg 5; reduce); refine XG0.of ?_; (conv => arg 5; reduce); (conv => arg 6; reduce); refine XG.go (by decide +kernel) ?_))
    refine XQ.done1 (by rfl) (by rfl) (⟨by rw [List.map_map]; rfl, rfl, rfl⟩) (by (repeat' (first | exact Sels.nil | exact Sel.here | apply Sels.cons | apply Sel.there)); done) (by (repeat (first | exact sub0 | refine subC (by repeat (first | exact List.Mem.head _ | apply List.Mem.tail)) ?_)); done)
end Go.Proofs.Ytjnineeeffecaaa
