/- The parser's arrays of a type: a range over slices.Backward. -/
import Derived.Test.YtjnineeeffecaaaP10
import Derived.Test.YtjnineeeffecaaaX18
namespace Go.Proofs.Ytjnineeeffecaaa
open Go X
set_option maxRecDepth 100000
set_option maxHeartbeats 4000000
attribute [local irreducible] XC XL XQ Tri blk Shows Sq Rd Mt inBlockX XS XG XG0 TkS AnS rowO tyFP tysFP ndFP ndsFP Row.fp FP.all
attribute [local irreducible] XLI XCI ThI AsgP EndP
@[reducible] def ints (l : List Int) : List Value := l.map (Value.int .i64)
theorem ints_get {l : List Int} {i : Nat} {x : Int} (h : l[i]? = some x) : (ints l)[i]? = some (.int .i64 x) := by simp [ints, h]
@[reducible] def asgC : Code := .region 2 #[{ dst := some 6, op := .assign (.tmp 10), type := 3, pos := "parse.go:140", after := #[], guard := none }] false
theorem backward_tri {a : Option Addr} {m k : Nat} : Tri Try.prog 66 [.slice a m k] [] [] (Ret (fun b : Nat => .func (.func 78) #[] #[.pointer (some ⟨b, 0, none⟩)]) (fun b => [cel b #[.slice a m k] 43]) (fun _ => []) fun _ => True) := by
  refine Tri.of Try.func66 rfl fun c => ?_
  repeat' (first
    | refine XStep ?_
    | refine Fa.mk fun b => ?_
    | refine Fb.mk fun b2 => ?_
    | refine Fz.mk fun z => ?_
    | (refine Gd.mk (fun h => ?_) (fun h => ?_) <;> try (first | (exfalso; omega) | exact absurd rfl h | (exfalso; simp at h <;> omega)))
    | refine Ands.mk ?_ ?_
    | (refine XC.is ?_; refine W110 ?_; refine XC.planG (by kernel_rfl) (fun _ m h => h.drewn m) ?_; (conv => arg 5; reduce); refine XG0.of ?_; (conv => arg 5; reduce); (conv => arg 6; reduce); refine XG.go (by decide +kernel) ?_))
  exact XQ.done1 (by rfl) (by rfl) ⟨b, trivial, rfl, rfl, rfl⟩ (by (repeat' (first | exact Sels.nil | exact Sel.here | apply Sels.cons | apply Sel.there)); done) (by (repeat (first | exact sub0 | refine subC (by repeat (first | exact List.Mem.head _ | apply List.Mem.tail)) ?_)); done)
theorem back_tri {a : Option Addr} {mm k b1 b2 lp D : Nat} {m : TyM} {l : List Int} {r : Loop} {body : Code} (hl : l.length ≤ 20000) (hml : mm = l.length)
    (hst : r.state = .ready) (hpe : r.pending = none) (hps : r.params = #[9, 10]) (has : r.assign = asgC) (hbo : r.body = body) (hsz : 16 ≤ r.tmps.size) (hag : Agree [(2, .pointer (some ⟨b2, 0, none⟩))] (fun t => r.tmps.getD t undef))
    (hbody : ∀ (c : Cx) (x : Int) (z : TyM) (o : Obj), XCI Try.prog lp 16 body (EndP (fun y : TyM => y.ty = .mk 6 x (tx []) [z.ty]) fun y => St c [blk lp o, blk D (.deferred (some [])), cel b1 #[.slice a mm k] 43, cel b2 y.cells.toArray 24] [tyFP y, Row.fp 1 (.slice a mm k) l.length (ints l)])
      [(6, .int .i64 x), (2, .pointer (some ⟨b2, 0, none⟩))] (St c [blk lp o, blk D (.deferred (some [])), cel b1 #[.slice a mm k] 43, cel b2 z.cells.toArray 24] [tyFP z, Row.fp 1 (.slice a mm k) l.length (ints l)])) :
    Tri Try.prog 78 ([.func (.yield lp) #[] #[]] ++ [.pointer (some ⟨b1, 0, none⟩)]) (blk lp (.loop r) :: blk D (.deferred (some [])) :: [cel b1 #[.slice a mm k] 43, cel b2 m.cells.toArray 24]) [Row.fp 1 (.slice a mm k) l.length (ints l), tyFP m]
      (Ret (fun _ : TyM × Loop => .tuple #[]) (fun x => blk lp (.loop x.2) :: blk D (.deferred (some [])) :: [cel b1 #[.slice a mm k] 43, cel b2 x.1.cells.toArray 24]) (fun x => [tyFP x.1]) fun x => x.1.ty = wrapS m.ty l ∧ x.2.state = .ready ∧ x.2.pending = none) := by
  subst hml
  refine Tri.of Try.func78 rfl fun c => ?_
  repeat' (first
    | refine XStep ?_
    | refine Fa.mk fun b => ?_
    | refine Fb.mk fun b2 => ?_
    | refine Fz.mk fun z => ?_
    | (refine Gd.mk (fun h => ?_) (fun h => ?_) <;> try (first | (exfalso; omega) | exact absurd rfl h | (exfalso; simp at h <;> omega)))
    | refine Ands.mk ?_ ?_
    | (refine XC.is ?_; refine W110 ?_; refine XC.planG (by kernel_rfl) (fun _ m h => h.drewn m) ?_; (conv => arg 5; reduce); refine XG0.of ?_; (conv => arg 5; reduce); (conv => arg 6; reduce); refine XG.go (by decide +kernel) ?_))
  refine XC.loop (fun s : Nat × TyM => [(0, .func (.yield lp) #[] #[]), (1, .pointer (some ⟨b1, 0, none⟩)), (3, .int .i64 ((s.1 : Int) - 1))])
    (fun s w => (s.1 ≤ l.length ∧ s.2.ty = wrapS m.ty (l.drop s.1)) ∧ St c [blk lp (.loop r), blk D (.deferred (some [])), cel b1 #[.slice a l.length k] 43, cel b2 s.2.cells.toArray 24] [tyFP s.2, Row.fp 1 (.slice a l.length k) l.length (ints l)] w) (fun s => s.1) (l.length, m) (by (repeat (first | exact fits_nil | refine fits_cons (by rfl) ?_)); done)
    (fun w h => ⟨⟨Nat.le_refl _, by simp [wrapS]⟩, h.less (by (repeat' (first | exact Sels.nil | exact Sel.here | apply Sels.cons | apply Sel.there)); done) (by (repeat (first | exact sub0 | refine subC (by repeat (first | exact List.Mem.head _ | apply List.Mem.tail)) ?_)); done)⟩) ?_
  rintro ⟨j, z⟩
  dsimp only
  refine XC.pure (fun hh => ?_)
  obtain ⟨hj, hz⟩ := hh
  cases j with
  | zero =>
    repeat' (first
      | refine XStep ?_
      | refine Fa.mk fun b => ?_
      | refine Fb.mk fun b2 => ?_
      | refine Fz.mk fun z => ?_
      | (refine Gd.mk (fun h => ?_) (fun h => ?_) <;> try (first | (exfalso; omega) | exact absurd rfl h | (exfalso; simp at h <;> omega)))
      | refine Ands.mk ?_ ?_
      | (refine XC.is ?_; refine W110 ?_; refine XC.planG (by kernel_rfl) (fun _ m h => h.drewn m) ?_; (conv => arg 5; reduce); refine XG0.of ?_; (conv => arg 5; reduce); (conv => arg 6; reduce); refine XG.go (by decide +kernel) ?_))
    exact XQ.conv (fun w h => h.less (by (repeat' (first | exact Sels.nil | exact Sel.here | apply Sels.cons | apply Sel.there)); done) (by (repeat (first | exact sub0 | refine subC (by repeat (first | exact List.Mem.head _ | apply List.Mem.tail)) ?_)); done)) (XQ.end0 (by rfl) ⟨(z, r), ⟨by simpa using hz, hst, hpe⟩, rfl, rfl, rfl⟩)
  | succ j =>
    obtain ⟨x, hx, -⟩ := get_of_lt (l := l) (i := j) (by omega)
    have gx := ints_get hx
    have e1 : ((j + 1 : Nat) : Int) - 1 = (j : Int) := by omega
    rw [e1]
    have hd : l.drop j = x :: l.drop (j + 1) := by
      obtain ⟨h1, h2⟩ := List.getElem?_eq_some_iff.1 hx
      rw [← h2]
      exact (List.drop_eq_getElem_cons h1)
    repeat' (first
      | refine W100 ?_
      | refine W103 ?_
      | refine W101 ?_
      | refine W112 ?_
      | refine W116 ?_
      | refine W1 ?_
      | (refine W2 (fun h => ?_) (fun h => ?_) <;> try (first | (exfalso; omega) | exact absurd rfl h | (exfalso; simp at h <;> omega)))
      | refine W3 ?_
      | refine W33 ?_
      | refine XL.pure 1 (by rfl) ?_
      | refine W13 ?_
      | refine W5 ?_
      | refine W14 ?_
      | refine W18 ?_
      | refine W6 ?_
      | refine W24 ?_
      | refine W27 ?_
      | refine W19 ?_
      | refine W20 ?_
      | refine W15 ?_
      | refine W7 ?_
      | refine W28 ?_
      | refine W30 ?_
      | refine W35 ?_
      | refine W36 ?_
      | refine W37 ?_
      | refine W38 ?_
      | refine W39 ?_
      | refine W40 ?_
      | refine W31 ?_
      | refine W32 ?_
      | refine W41 ?_
      | refine W42 ?_
      | refine W43 ?_
      | refine W44 ?_
      | refine W45 ?_
      | refine W46 ?_
      | refine W47 ?_
      | refine W8 ?_
      | refine W21 ?_
      | refine W22 ?_
      | refine W16 ?_
      | refine W9 ?_
      | refine W10 ?_
      | refine W48 ?_
      | (refine W49 (fun b => ?_))
      | (refine W50 (fun b => ?_))
      | (refine W51 (fun b => ?_))
      | refine W25 ?_)
    refine XC.cond_d (by rfl) (fun _ => ?_) (fun h => absurd (by omega) h)
    repeat (first | refine XC.seq ?_ | refine XC.skip ?_ | refine XQ.next ?_ | refine XC.block ?_)
    refine XC.regionI ?_
    refine XLI.preN 6 rfl (by repeat (first | exact NO.body | exact NO.bodyM | exact NO.endP | exact NO.asgP | apply NO.sq | apply NO.rd | apply NO.block)) ?_
    dsimp only [List.take, List.drop]
    repeat' (first
      | refine XStep ?_
      | refine Fa.mk fun b => ?_
      | refine Fb.mk fun b2 => ?_
      | refine Fz.mk fun z => ?_
      | (refine Gd.mk (fun h => ?_) (fun h => ?_) <;> try (first | (exfalso; omega) | exact absurd rfl h | (exfalso; simp at h <;> omega)))
      | refine Ands.mk ?_ ?_
      | (refine XC.is ?_; refine W110 ?_; refine XC.planG (by kernel_rfl) (fun _ m h => h.drewn m) ?_; (conv => arg 5; reduce); refine XG0.of ?_; (conv => arg 5; reduce); (conv => arg 6; reduce); refine XG.go (by decide +kernel) ?_))
    refine XQ.thI ?_
    obtain ⟨hy1, hy2⟩ := yTmps2 (r := r) (p := 9) (q := 10) (u := .int .i64 (j : Int)) (v := .int .i64 x) hps (by decide) (by omega) hag (by simp)
    refine XLI.yield (α := TyM) (r := r) (rn := 16) (args := [.int .i64 (j : Int), .int .i64 x]) (p := fun y : TyM => y.ty = .mk 6 x (tx []) [z.ty]) (L1 := fun y => [blk D (.deferred (some [])), cel b1 #[.slice a l.length k] 43, cel b2 y.cells.toArray 24]) (Φ1 := fun y => [tyFP y, Row.fp 1 (.slice a l.length k) l.length (ints l)])
      (by rfl) (by rfl) (by rfl) (by rfl) (by rfl) (by rfl) (by rfl) .here hst (by rw [hps]; rfl) hy1 (by rw [hy2]; exact hsz) ?_ ?_
    · rw [has, hbo]
      refine XCI.region rfl (by repeat (first | exact NO.body | exact NO.bodyM | exact NO.endP | exact NO.asgP | apply NO.sq | apply NO.rd | apply NO.block)) ?_
      repeat' (first
        | refine XStep ?_
        | refine Fa.mk fun b => ?_
        | refine Fb.mk fun b2 => ?_
        | refine Fz.mk fun z => ?_
        | (refine Gd.mk (fun h => ?_) (fun h => ?_) <;> try (first | (exfalso; omega) | exact absurd rfl h | (exfalso; simp at h <;> omega)))
        | refine Ands.mk ?_ ?_
        | (refine XC.is ?_; refine W110 ?_; refine XC.planG (by kernel_rfl) (fun _ m h => h.drewn m) ?_; (conv => arg 5; reduce); refine XG0.of ?_; (conv => arg 5; reduce); (conv => arg 6; reduce); refine XG.go (by decide +kernel) ?_))
      exact XQ.asgP ((hbody c x z _).less (by (repeat (first | exact fits_nil | refine fits_cons (by rfl) ?_)); done))
    · intro y hy
      rw [loop_same hst hpe]
      refine XLI.preN 1 rfl (by repeat (first | exact NO.body | exact NO.bodyM | exact NO.endP | exact NO.asgP | apply NO.sq | apply NO.rd | apply NO.block)) ?_
      dsimp only [List.take, List.drop]
      repeat' (first
        | refine XStep ?_
        | refine Fa.mk fun b => ?_
        | refine Fb.mk fun b2 => ?_
        | refine Fz.mk fun z => ?_
        | (refine Gd.mk (fun h => ?_) (fun h => ?_) <;> try (first | (exfalso; omega) | exact absurd rfl h | (exfalso; simp at h <;> omega)))
        | refine Ands.mk ?_ ?_
        | (refine XC.is ?_; refine W110 ?_; refine XC.planG (by kernel_rfl) (fun _ m h => h.drewn m) ?_; (conv => arg 5; reduce); refine XG0.of ?_; (conv => arg 5; reduce); (conv => arg 6; reduce); refine XG.go (by decide +kernel) ?_))
      refine XQ.thI ?_
      refine XLI.nil ?_
      repeat' (first
        | refine XStep ?_
        | refine Fa.mk fun b => ?_
        | refine Fb.mk fun b2 => ?_
        | refine Fz.mk fun z => ?_
        | (refine Gd.mk (fun h => ?_) (fun h => ?_) <;> try (first | (exfalso; omega) | exact absurd rfl h | (exfalso; simp at h <;> omega)))
        | refine Ands.mk ?_ ?_
        | (refine XC.is ?_; refine W110 ?_; refine XC.planG (by kernel_rfl) (fun _ m h => h.drewn m) ?_; (conv => arg 5; reduce); refine XG0.of ?_; (conv => arg 5; reduce); (conv => arg 6; reduce); refine XG.go (by decide +kernel) ?_))
      exact XQ.round (j, y) (by (repeat (first | exact fits_nil | refine fits_cons (by rfl) ?_)); done) (fun w hw => ⟨⟨by dsimp only; omega, by dsimp only; rw [hy, hz, hd]; rfl⟩, hw.less (by (repeat' (first | exact Sels.nil | exact Sel.here | apply Sels.cons | apply Sel.there)); done) (by (repeat (first | exact sub0 | refine subC (by repeat (first | exact List.Mem.head _ | apply List.Mem.tail)) ?_)); done)⟩) (by dsimp only; omega)
theorem wrap_tri : WrapT := by
  intro m v l hl
  refine Tri.ofM Try.func53 rfl fun c => ?_
  refine XC.ex (α := Option Addr × Nat) (B := fun x w => v = .slice x.1 l.length x.2 ∧ St c [] [tyFP m, Row.fp 1 v l.length (l.map (Value.int .i64))] w) (fun w h => ?_) ?_
  · rcases (St.rowF (Φ := [tyFP m, Row.fp 1 v l.length (l.map (Value.int .i64))]) (.tail _ (.head _)) h).2 with ⟨rfl | ⟨b, off, s, rfl⟩, h0⟩ | ⟨b, off, cap, rfl, _⟩
    · exact ⟨(none, 0), by rw [h0], h⟩
    · exact ⟨(_, 0), by rw [h0], h⟩
    · exact ⟨(_, cap), rfl, h⟩
  rintro ⟨a, k⟩
  refine XC.pure (fun ev => ?_)
  dsimp only at ev
  subst ev
  repeat' (first
    | refine XStep ?_
    | refine Fa.mk fun b => ?_
    | refine Fb.mk fun b2 => ?_
    | refine Fz.mk fun z => ?_
    | (refine Gd.mk (fun h => ?_) (fun h => ?_) <;> try (first | (exfalso; omega) | exact absurd rfl h | (exfalso; simp at h <;> omega)))
    | refine Ands.mk ?_ ?_
    | (refine XC.is ?_; refine W110 ?_; refine XC.planG (by kernel_rfl) (fun _ m h => h.drewn m) ?_; (conv => arg 5; reduce); refine XG0.of ?_; (conv => arg 5; reduce); (conv => arg 6; reduce); refine XG.go (by decide +kernel) ?_))
  refine XL.trir (backward_tri) (by rfl) (by rfl) (by rfl) (by rfl) (by rfl) (by rfl) (by rfl) (by (repeat' (first | exact Sels.nil | exact Sel.here | apply Sels.cons | apply Sel.there)); done) (by (repeat (first | exact sub0 | refine subC (by repeat (first | exact List.Mem.head _ | apply List.Mem.tail)) ?_)); done) ?_
  rintro b1 -
  conv => arg 9; dsimp only [List.cons_append, List.nil_append]
  try conv => arg 7; dsimp only
  repeat' (first
    | refine XStep ?_
    | refine Fa.mk fun b => ?_
    | refine Fb.mk fun b2 => ?_
    | refine Fz.mk fun z => ?_
    | (refine Gd.mk (fun h => ?_) (fun h => ?_) <;> try (first | (exfalso; omega) | exact absurd rfl h | (exfalso; simp at h <;> omega)))
    | refine Ands.mk ?_ ?_
    | (refine XC.is ?_; refine W110 ?_; refine XC.planG (by kernel_rfl) (fun _ m h => h.drewn m) ?_; (conv => arg 5; reduce); refine XG0.of ?_; (conv => arg 5; reduce); (conv => arg 6; reduce); refine XG.go (by decide +kernel) ?_))
  rename_i bT
  refine XC.rangeFunc (α := TyM) (gf := 78) (cap := [.pointer (some ⟨b1, 0, none⟩)]) (Lc := [cel b1 #[.slice a l.length k] 43, cel bT m.cells.toArray 24]) (Φc := [Row.fp 1 (.slice a l.length k) l.length (ints l), tyFP m]) (R1 := fun y => [cel b1 #[.slice a l.length k] 43, cel bT y.cells.toArray 24]) (Ψ := fun y => [tyFP y]) (p := fun y => y.ty = wrapS m.ty l) (by rfl) (by rfl) (by (repeat' (first | exact Sels.nil | exact Sel.here | apply Sels.cons | apply Sel.there)); done) (by (repeat (first | exact sub0 | refine subC (by repeat (first | exact List.Mem.head _ | apply List.Mem.tail)) ?_)); done) ?_ ?_
  · intro D lp r h1 h2 h3 h4 h5 h6 h7
    refine back_tri hl rfl h1 h2 h3 h4 h5 h7 (h6.less (by (repeat (first | exact fits_nil | refine fits_cons (by rfl) ?_)); done)) (fun c x z o => ?_)
    refine XCI.block (XCI.region rfl (by repeat (first | exact NO.body | exact NO.bodyM | exact NO.endP | exact NO.asgP | apply NO.sq | apply NO.rd | apply NO.block)) ?_)
    repeat' (first
      | refine XStep ?_
      | refine Fa.mk fun b => ?_
      | refine Fb.mk fun b2 => ?_
      | refine Fz.mk fun z => ?_
      | (refine Gd.mk (fun h => ?_) (fun h => ?_) <;> try (first | (exfalso; omega) | exact absurd rfl h | (exfalso; simp at h <;> omega)))
      | refine Ands.mk ?_ ?_
      | (refine XC.is ?_; refine W110 ?_; refine XC.planG (by kernel_rfl) (fun _ m h => h.drewn m) ?_; (conv => arg 5; reduce); refine XG0.of ?_; (conv => arg 5; reduce); (conv => arg 6; reduce); refine XG.go (by decide +kernel) ?_))
    refine XQ.endP (.mk 6 x (tx []) (some ⟨b2, 0, none⟩) 1 1 [z]) (by simp [TyM.ty, TyM.tys]) (fun w h => (h.tyOne (x := z) 6 x (tx []) (by repeat (first | exact List.Mem.head _ | apply List.Mem.tail)) (by repeat (first | exact Sel.here | apply Sel.there))).less (by (repeat' (first | exact Sels.nil | exact Sel.here | apply Sels.cons | apply Sel.there)); done) (by (repeat (first | exact sub0 | refine subC (by repeat (first | exact List.Mem.head _ | apply List.Mem.tail)) ?_)); done))
  · intro D lp r y hy
    conv => arg 5; dsimp only [List.cons_append, List.nil_append]
    repeat' (first
      | refine XStep ?_
      | refine Fa.mk fun b => ?_
      | refine Fb.mk fun b2 => ?_
      | refine Fz.mk fun z => ?_
      | (refine Gd.mk (fun h => ?_) (fun h => ?_) <;> try (first | (exfalso; omega) | exact absurd rfl h | (exfalso; simp at h <;> omega)))
      | refine Ands.mk ?_ ?_
      | (refine XC.is ?_; refine W110 ?_; refine XC.planG (by kernel_rfl) (fun _ m h => h.drewn m) ?_; (conv => arg 5; reduce); refine XG0.of ?_; (conv => arg 5; reduce); (conv => arg 6; reduce); refine XG.go (by decide +kernel) ?_))
    refine XQ.leaveM (by repeat (first | exact Sel.here | apply Sel.there)) ?_
    exact XQ.retMC (by rfl) (by rfl) (by rfl) (by rfl) (by repeat (first | exact Sel.here | apply Sel.there)) (by rfl) ⟨y, hy, rfl, rfl, rfl⟩ (by (repeat' (first | exact Sels.nil | exact Sel.here | apply Sels.cons | apply Sel.there)); done) (by (repeat (first | exact sub0 | refine subC (by repeat (first | exact List.Mem.head _ | apply List.Mem.tail)) ?_)); done)
#print axioms wrap_tri
end Go.Proofs.Ytjnineeeffecaaa
