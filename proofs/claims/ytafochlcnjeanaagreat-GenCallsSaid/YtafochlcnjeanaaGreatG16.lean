/- A program that is handed over, opened. -/
import Derived.Test.YtafochlcnjeanaaGreatG1
import Derived.Test.YtafochlcnjeanaaGreatX15
namespace Go.Proofs.YtafochlcnjeanaaGreat
open Go X
set_option maxRecDepth 100000
theorem flat_ints : ∀ (l : List Int), (l.map fun n : Int => [Value.int .i64 n]).flatten = ints l
  | [] => rfl
  | a :: l => by
    rw [List.map_cons, List.flatten_cons, flat_ints l]
    rfl
theorem oneI (k : IntKind) (n : Int) : (Value.int k n).oneCell' = true := rfl
theorem oneS (b : ByteArray) : (Value.string b).oneCell' = true := rfl
section
variable {H : Type} {enc : TypeId × Value → H} {w : World} {hd : Bool} {fuel : Nat} {cs : List Value} {x : DataW H × List MemPlace}
theorem openInts (h : DataW.trod enc Tryz.prog w 0 (fun _ => true) hd fuel 28 cs = some x) (hw : Wt Tryz.prog 28 x.1) :
    ∃ (v : Value) (l : List Int), cs = [v] ∧ v.oneCell' = true ∧ Row 1 v l.length (ints l) w ∧ l.length ≤ maxLen ∧ l.length * 8 ≤ reachBytes := by
  obtain ⟨v, rows, rfl, ho, hl, hb, hr, hR⟩ := openSlice (sz := 1) Tryz.underlying28 (by kernel_rfl) (by decide) h hw
  obtain ⟨l, rfl, -⟩ := rowsMap (f := fun n : Int => [Value.int .i64 n]) (p := fun _ => True) (rows := rows) fun cs hcs => by
    obtain ⟨_, m, y, hy, _⟩ := hr cs hcs
    obtain ⟨n, e, _⟩ := DataW.trod_int Tryz.underlying3 hy
    exact ⟨n, e, trivial⟩
  have hb8 : Tryz.prog.bytesOf 3 = 8 := by kernel_rfl
  rw [hb8, List.length_map] at hb
  rw [List.length_map] at hl hR
  rw [flat_ints] at hR
  exact ⟨v, l, rfl, ho, hR, hl, hb⟩
theorem c3 : Tryz.prog.cellsOf 3 = 1 := by kernel_rfl
theorem c2 : Tryz.prog.cellsOf 2 = 1 := by kernel_rfl
theorem c9 : Tryz.prog.cellsOf 9 = 1 := by kernel_rfl
theorem c28 : Tryz.prog.cellsOf 28 = 1 := by kernel_rfl
theorem c37 : Tryz.prog.cellsOf 37 = 1 := by kernel_rfl
theorem c22 : Tryz.prog.cellsOf 22 = 1 := by kernel_rfl
theorem c23 : Tryz.prog.cellsOf 23 = 1 := by kernel_rfl
theorem c36 : Tryz.prog.cellsOf 36 = 8 := by kernel_rfl
theorem c39 : Tryz.prog.cellsOf 39 = 5 := by kernel_rfl
theorem c71 : Tryz.prog.cellsOf 71 = 8 := by kernel_rfl
theorem c25 : Tryz.prog.cellsOf 25 = 3 := by kernel_rfl
/-- What is known of an instruction that is handed over. -/
def inI (w : World) (I : InsnM) : Prop := Row 1 I.args I.argL.length (ints I.argL) w ∧ I.argL.length * 8 ≤ reachBytes ∧ onesL I.cells = true
theorem openInsn (h : DataW.trod enc Tryz.prog w 0 (fun _ => true) hd fuel 36 cs = some x) (hw : Wt Tryz.prog 36 x.1) : ∃ I : InsnM, cs = I.cells ∧ inI w I := by
  obtain ⟨hl, hf⟩ := openFields Tryz.underlying36 c36 h hw
  match cs, hl with
  | [a0, a1, a2, a3, a4, a5, a6, a7], _ =>
    obtain ⟨_, _, h0, _⟩ := hf 0 3 0 _ rfl c3
    obtain ⟨_, _, h1, _⟩ := hf 1 3 1 _ rfl c3
    obtain ⟨_, _, h2, _⟩ := hf 2 3 2 _ rfl c3
    obtain ⟨_, _, h3, _⟩ := hf 3 3 3 _ rfl c3
    obtain ⟨_, _, h4, _⟩ := hf 4 3 4 _ rfl c3
    obtain ⟨_, _, h5, _⟩ := hf 5 2 5 _ rfl c2
    obtain ⟨_, _, h6, _⟩ := hf 6 9 6 _ rfl c9
    obtain ⟨_, _, h7, w7⟩ := hf 7 28 7 _ rfl c28
    obtain ⟨n0, e0, _⟩ := DataW.trod_int Tryz.underlying3 h0
    obtain ⟨n1, e1, _⟩ := DataW.trod_int Tryz.underlying3 h1
    obtain ⟨n2, e2, _⟩ := DataW.trod_int Tryz.underlying3 h2
    obtain ⟨n3, e3, _⟩ := DataW.trod_int Tryz.underlying3 h3
    obtain ⟨n4, e4, _⟩ := DataW.trod_int Tryz.underlying3 h4
    obtain ⟨n5, e5, _⟩ := DataW.trod_int Tryz.underlying2 h5
    obtain ⟨s6, e6, _⟩ := DataW.trod_string Tryz.underlying9 h6
    obtain ⟨v, l, e7, ho, hR, _, hb⟩ := openInts h7 w7
    cases e0; cases e1; cases e2; cases e3; cases e4; cases e5; cases e6; cases e7
    exact ⟨⟨n0, n1, n2, n3, n4, n5, s6, a7, l⟩, rfl, hR, hb, by simp only [onesL, InsnM.cells, oneI, oneS, ho, Bool.and_self]⟩
/-- .. of a function. -/
def inF (w : World) (F : FnM) : Prop := Row 1 F.locs F.locL.length (ints F.locL) w ∧ F.locL.length ≤ maxLen ∧ Row 8 F.code F.codeL.length (codeC F) w ∧ F.codeL.length ≤ maxLen ∧ onesL F.cells = true ∧ ∀ I ∈ F.codeL, inI w I
theorem openFn (h : DataW.trod enc Tryz.prog w 0 (fun _ => true) hd fuel 39 cs = some x) (hw : Wt Tryz.prog 39 x.1) : ∃ F : FnM, cs = F.cells ∧ inF w F := by
  obtain ⟨hl, hf⟩ := openFields Tryz.underlying39 c39 h hw
  match cs, hl with
  | [a0, a1, a2, a3, a4], _ =>
    obtain ⟨_, _, h0, _⟩ := hf 0 9 0 _ rfl c9
    obtain ⟨_, _, h1, _⟩ := hf 1 3 1 _ rfl c3
    obtain ⟨_, _, h2, _⟩ := hf 2 3 2 _ rfl c3
    obtain ⟨_, _, h3, w3⟩ := hf 3 28 3 _ rfl c28
    obtain ⟨_, _, h4, w4⟩ := hf 4 37 4 _ rfl c37
    obtain ⟨s0, e0, _⟩ := DataW.trod_string Tryz.underlying9 h0
    obtain ⟨n1, e1, _⟩ := DataW.trod_int Tryz.underlying3 h1
    obtain ⟨n2, e2, _⟩ := DataW.trod_int Tryz.underlying3 h2
    obtain ⟨v, l, e3, ho, hR, hm, _⟩ := openInts h3 w3
    obtain ⟨v2, rows, e4, ho2, hl2, _, hr2, hR2⟩ := openSlice (sz := 8) Tryz.underlying37 c36 (by decide) h4 w4
    obtain ⟨l2, rfl, hl3⟩ := rowsMap (f := InsnM.cells) (p := inI w) (rows := rows) fun cs hcs => by
      obtain ⟨_, m, y, hy, wy⟩ := hr2 cs hcs
      exact openInsn hy wy
    rw [List.length_map] at hl2 hR2
    cases e0; cases e1; cases e2; cases e3; cases e4
    exact ⟨⟨s0, n1, n2, a3, l, a4, l2⟩, rfl, hR, hm, hR2, hl2, by simp only [onesL, FnM.cells, oneI, oneS, ho, ho2, Bool.and_self], hl3⟩
theorem openSite (h : DataW.trod enc Tryz.prog w 0 (fun _ => true) hd fuel 71 cs = some x) (hw : Wt Tryz.prog 71 x.1) : ∃ S : SiteM, cs = S.cells ∧ True := by
  obtain ⟨hl, hf⟩ := openFields Tryz.underlying71 c71 h hw
  match cs, hl with
  | [a0, a1, a2, a3, a4, a5, a6, a7], _ =>
    obtain ⟨_, _, h0, _⟩ := hf 0 3 0 _ rfl c3
    obtain ⟨_, _, h1, _⟩ := hf 1 3 1 _ rfl c3
    obtain ⟨_, _, h2, _⟩ := hf 2 3 2 _ rfl c3
    obtain ⟨n0, e0, _⟩ := DataW.trod_int Tryz.underlying3 h0
    obtain ⟨n1, e1, _⟩ := DataW.trod_int Tryz.underlying3 h1
    obtain ⟨n2, e2, _⟩ := DataW.trod_int Tryz.underlying3 h2
    cases e0; cases e1; cases e2
    exact ⟨⟨n0, n1, n2, a3, a4, a5, a6, a7⟩, rfl, trivial⟩
theorem openProg {v : Value} {d : DataW H} {ps : List MemPlace} (h : DataW.Trod enc Tryz.prog w 0 (fun _ => true) hd 25 v d ps) (hv : ∃ cs, v = .agg cs) (hw : Wt Tryz.prog 25 d) : ∃ p : ProgM, v = p.v ∧ p.WF ∧ (progFP p).h (fun _ => False) w := by
  obtain ⟨fuel, h⟩ := h
  obtain ⟨cs, rfl⟩ := hv
  obtain ⟨hl, hf⟩ := openFields Tryz.underlying25 c25 h hw
  have hcs : (Value.agg cs).cells.toList = cs.toList := rfl
  rw [hcs] at hl hf
  obtain ⟨l, rfl⟩ : ∃ l : List Value, cs = l.toArray := ⟨cs.toList, by simp⟩
  rw [List.toList_toArray] at hl hf
  match l, hl with
  | [a0, a1, a2], _ =>
    obtain ⟨_, _, h0, w0⟩ := hf 0 22 0 _ rfl c22
    obtain ⟨_, _, h1, w1⟩ := hf 1 23 1 _ rfl c23
    obtain ⟨_, _, h2, _⟩ := hf 2 3 2 _ rfl c3
    obtain ⟨n2, e2, _⟩ := DataW.trod_int Tryz.underlying3 h2
    obtain ⟨v0, rows0, e0, o0, hl0, _, hr0, hR0⟩ := openSlice (sz := 8) Tryz.underlying22 c71 (by decide) h0 w0
    obtain ⟨v1, rows1, e1, o1, hl1, _, hr1, hR1⟩ := openSlice (sz := 5) Tryz.underlying23 c39 (by decide) h1 w1
    obtain ⟨l0, rfl, _⟩ := rowsMap (f := SiteM.cells) (p := fun _ => True) (rows := rows0) fun cs hcs => by
      obtain ⟨_, m, y, hy, wy⟩ := hr0 cs hcs
      exact openSite hy wy
    obtain ⟨l1, rfl, hl1'⟩ := rowsMap (f := FnM.cells) (p := inF w) (rows := rows1) fun cs hcs => by
      obtain ⟨_, m, y, hy, wy⟩ := hr1 cs hcs
      exact openFn hy wy
    rw [List.length_map] at hl0 hR0 hl1 hR1
    cases e0; cases e1; cases e2
    refine ⟨⟨a0, l0, a1, l1, n2⟩, rfl, ⟨hl0, hl1, fun F hF => (hl1' F hF).2.1, fun F hF => (hl1' F hF).2.2.2.1, fun F hF I hI => ((hl1' F hF).2.2.2.2.2 I hI).2.1, by simp only [onesL, oneI, o0, o1, Bool.and_self], fun F hF => (hl1' F hF).2.2.2.2.1,
      fun F hF I hI => ((hl1' F hF).2.2.2.2.2 I hI).2.2⟩, fun φ hφ => ?_⟩
    rcases List.mem_cons.1 hφ with rfl | hφ
    · exact hR0.top
    rcases List.mem_cons.1 hφ with rfl | hφ
    · exact hR1.top
    obtain ⟨F, hF, hφ⟩ := List.mem_flatMap.1 hφ
    obtain ⟨k1, _, k3, _, _, k6⟩ := hl1' F hF
    rcases List.mem_cons.1 hφ with rfl | hφ
    · exact k1.top
    rcases List.mem_cons.1 hφ with rfl | hφ
    · exact k3.top
    obtain ⟨I, hI, rfl⟩ := List.mem_map.1 hφ
    exact (k6 I hI).1.top
end
end Go.Proofs.YtafochlcnjeanaaGreat
