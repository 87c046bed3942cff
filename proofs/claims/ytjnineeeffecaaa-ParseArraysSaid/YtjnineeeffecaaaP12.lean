/- The parser's records, functions, items. -/
import Derived.Test.YtjnineeeffecaaaP11
namespace Go.Proofs.Ytjnineeeffecaaa
open Go X
set_option maxRecDepth 100000
set_option maxHeartbeats 4000000
attribute [local irreducible] XC XL XQ Tri blk Shows Sq Rd Mt inBlockX XS XG XG0 TkS AnS rowO tyFP tysFP ndFP ndsFP Row.fp FP.all
theorem stmt_tri (hW : WrapT) {S : Src} (hS : S.T.length ≤ 20000) {lv : Value} {pb : Nat} : ∀ (n d : Nat), d + n = 60 → ∀ i, i ≤ S.T.length → Tri Try.prog 52 [.pointer (some ⟨pb, 0, none⟩)] [pB S lv pb i d] [tkF S lv] (NdR S lv pb d i (stmtL S n)) := by
  intro n
  induction n with
  | zero => exact fun d hd i hi => stmt0_tri hS (by omega) hi
  | succ n ih => exact fun d hd i hi => stmt1_tri hW hS (n := n) (by omega) hi (ih (d + 1) (by omega)) (eu_tri hS n (d + 1) (by omega)).1 (ask_tri hS n (d + 1) (by omega))
theorem recordF_succ {S : Src} {ask : PM Ty} {t : Ty} {f : Nat} {l : List Nd} {i : Nat} : recordF S ask t (f + 1) l i = if isB S [tx [125]] i = true then ((must S (tx [59])).bind fun _ => .pure (.mk 20 (tx []) 0 t l)) (i + 1) else
    ((base S).bind fun b => (declB S ask b).bind fun d => (must S (tx [59])).bind fun _ => recordF S ask t f (l ++ [d])) i := rfl
theorem record_tri (hW : WrapT) {S : Src} (hS : S.T.length ≤ 20000) {lv : Value} {pb d i : Nat} {ask : PM Ty} {m : TyM} (hi : i ≤ S.T.length)
    (hask : ∀ j, j ≤ S.T.length → Tri Try.prog 68 [.pointer (some ⟨pb, 0, none⟩)] [pB S lv pb j d] [tkF S lv] (TyR S lv pb d j ask)) :
    Tri Try.prog 27 [.pointer (some ⟨pb, 0, none⟩), m.v] [pB S lv pb i d] [tkF S lv, tyFP m] (NdR S lv pb d i (recordB S ask m.ty)) := by
  refine Tri.of Try.func27 rfl fun c => ?_
  repeat' (first
    | refine XStep ?_
    | refine Fa.mk fun b => ?_
    | refine Fb.mk fun b2 => ?_
    | refine Fz.mk fun z => ?_
    | (refine Gd.mk (fun h => ?_) (fun h => ?_) <;> try (first | (exfalso; omega) | exact absurd rfl h | (exfalso; simp at h <;> omega)))
    | refine Ands.mk ?_ ?_
    | (refine XC.is ?_; refine W110 ?_; refine XC.planG (by kernel_rfl) (fun _ m h => h.drewn m) ?_; (conv => arg 5; reduce); refine XG0.of ?_; (conv => arg 5; reduce); (conv => arg 6; reduce); refine XG.go (by decide +kernel) ?_))
  refine XL.trip (must_tri (t := tx [123]) hS (i := i) (by omega)) (by rfl) (by rfl) (by rfl) (by rfl) (by rfl) (by rfl) (by rfl) (by (repeat' (first | exact Sels.nil | exact Sel.here | apply Sels.cons | apply Sel.there)); done) (by (repeat (first | exact sub0 | refine subC (by repeat (first | exact List.Mem.head _ | apply List.Mem.tail)) ?_)); done) ?_ ?_
  rotate_left
  · rintro ⟨t1, k1, i1⟩ hb
    dsimp only at hb
    (repeat (first | refine XQ.sqP ?_ | refine XQ.rdP ?_ | refine XQ.mtP ?_ | refine XQ.blockP ?_ | refine XQ.anSP ?_))
    exact XQ.rpBad (by (repeat' (first | exact Sels.nil | exact Sel.here | apply Sels.cons | apply Sel.there)); done) (by simp [PM.bind, PM.pure, hb, recordB])
  rintro ⟨u1, k1⟩ ⟨h1, h1', h1''⟩
  dsimp only at h1 h1' h1''
  conv => arg 9; dsimp only [List.cons_append, List.nil_append]
  try conv => arg 7; dsimp only
  subst h1'
  repeat' (first
    | refine XStep ?_
    | refine Fa.mk fun b => ?_
    | refine Fb.mk fun b2 => ?_
    | refine Fz.mk fun z => ?_
    | (refine Gd.mk (fun h => ?_) (fun h => ?_) <;> try (first | (exfalso; omega) | exact absurd rfl h | (exfalso; simp at h <;> omega)))
    | refine Ands.mk ?_ ?_
    | (refine XC.is ?_; refine W110 ?_; refine XC.planG (by kernel_rfl) (fun _ m h => h.drewn m) ?_; (conv => arg 5; reduce); refine XG0.of ?_; (conv => arg 5; reduce); (conv => arg 6; reduce); refine XG.go (by decide +kernel) ?_))
  rename_i bm br
  refine XC.loop (fun s : Nat × Nat × (Option Addr × Nat) × List NdM => [(0, .pointer (some ⟨pb, 0, none⟩)), (4, .pointer (some ⟨br, 0, none⟩)), (5, .pointer (some ⟨b, 0, none⟩))])
    (fun s w => (i < s.2.1 ∧ s.2.1 ≤ S.T.length ∧ S.T.length < s.1 + s.2.1 ∧ s.2.2.2.length ≤ s.2.1 ∧ recordF S ask m.ty (S.T.length + 1) [] (i + 1) = recordF S ask m.ty s.1 (NdM.nds s.2.2.2) s.2.1) ∧
      St c [cel b (NdM.mk 20 (tx []) 0 m s.2.2.1.1 s.2.2.2.length s.2.2.1.2 []).cells.toArray 27, rowO 27 8 (.slice s.2.2.1.1 s.2.2.2.length s.2.2.1.2) s.2.2.2.length (ndC s.2.2.2), cel br (NdM.mk 0 (tx []) 0 TyM.nil none 0 0 []).cells.toArray 27, pB S lv pb s.2.1 d] [ndsFP s.2.2.2, tkF S lv, tyFP m] w)
    (fun s => s.1) (S.T.length + 1, i + 1, (none, 0), []) (by (repeat (first | exact fits_nil | refine fits_cons (by rfl) ?_)); done) (fun w h => ⟨⟨by dsimp only; omega, by dsimp only; omega, by dsimp only; omega, by simp, rfl⟩, ((h.nilRow 27 8).ndsNil).less (by (repeat' (first | exact Sels.nil | exact Sel.here | apply Sels.cons | apply Sel.there)); done) (by (repeat (first | exact sub0 | refine subC (by repeat (first | exact List.Mem.head _ | apply List.Mem.tail)) ?_)); done)⟩) ?_
  rintro ⟨f, j, ⟨va, vc⟩, l⟩
  dsimp only
  refine XC.pure (fun hh => ?_)
  obtain ⟨h2, h3, h4, h5, h6⟩ := hh
  obtain ⟨f, rfl⟩ : ∃ g, f = g + 1 := ⟨f - 1, by omega⟩
  rw [recordF_succ (f := f)] at h6
  repeat' (first
    | refine XStep ?_
    | refine Fa.mk fun b => ?_
    | refine Fb.mk fun b2 => ?_
    | refine Fz.mk fun z => ?_
    | (refine Gd.mk (fun h => ?_) (fun h => ?_) <;> try (first | (exfalso; omega) | exact absurd rfl h | (exfalso; simp at h <;> omega)))
    | refine Ands.mk ?_ ?_
    | (refine XC.is ?_; refine W110 ?_; refine XC.planG (by kernel_rfl) (fun _ m h => h.drewn m) ?_; (conv => arg 5; reduce); refine XG0.of ?_; (conv => arg 5; reduce); (conv => arg 6; reduce); refine XG.go (by decide +kernel) ?_))
  refine XL.trir (takes_tri (t := tx [125]) (i := j) hS (by omega)) (by rfl) (by rfl) (by rfl) (by rfl) (by rfl) (by rfl) (by rfl) (by (repeat' (first | exact Sels.nil | exact Sel.here | apply Sels.cons | apply Sel.there)); done) (by (repeat (first | exact sub0 | refine subC (by repeat (first | exact List.Mem.head _ | apply List.Mem.tail)) ?_)); done) ?_
  rintro q hq
  conv => arg 9; dsimp only [List.cons_append, List.nil_append]
  try conv => arg 7; dsimp only
  cases q <;> dsimp only [bInc]
  · simp only [hq, if_false, Bool.false_eq_true] at h6
    repeat' (first
      | refine XStep ?_
      | refine Fa.mk fun b => ?_
      | refine Fb.mk fun b2 => ?_
      | refine Fz.mk fun z => ?_
      | (refine Gd.mk (fun h => ?_) (fun h => ?_) <;> try (first | (exfalso; omega) | exact absurd rfl h | (exfalso; simp at h <;> omega)))
      | refine Ands.mk ?_ ?_
      | (refine XC.is ?_; refine W110 ?_; refine XC.planG (by kernel_rfl) (fun _ m h => h.drewn m) ?_; (conv => arg 5; reduce); refine XG0.of ?_; (conv => arg 5; reduce); (conv => arg 6; reduce); refine XG.go (by decide +kernel) ?_))
    refine XL.trip (base_tri hS (i := j) (by omega)) (by rfl) (by rfl) (by rfl) (by rfl) (by rfl) (by rfl) (by rfl) (by (repeat' (first | exact Sels.nil | exact Sel.here | apply Sels.cons | apply Sel.there)); done) (by (repeat (first | exact sub0 | refine subC (by repeat (first | exact List.Mem.head _ | apply List.Mem.tail)) ?_)); done) ?_ ?_
    rotate_left
    · rintro ⟨t1, k1, i1⟩ hb
      dsimp only at hb
      (repeat (first | refine XQ.sqP ?_ | refine XQ.rdP ?_ | refine XQ.mtP ?_ | refine XQ.blockP ?_ | refine XQ.anSP ?_))
      exact XQ.rpBad (by (repeat' (first | exact Sels.nil | exact Sel.here | apply Sels.cons | apply Sel.there)); done) (by simp [PM.bind, PM.pure, hb, recordB, h1, h6])
    rintro ⟨y, k⟩ ⟨hy, hy', hy''⟩
    dsimp only at hy hy' hy''
    conv => arg 9; dsimp only [List.cons_append, List.nil_append]
    try conv => arg 7; dsimp only
    repeat' (first
      | refine XStep ?_
      | refine Fa.mk fun b => ?_
      | refine Fb.mk fun b2 => ?_
      | refine Fz.mk fun z => ?_
      | (refine Gd.mk (fun h => ?_) (fun h => ?_) <;> try (first | (exfalso; omega) | exact absurd rfl h | (exfalso; simp at h <;> omega)))
      | refine Ands.mk ?_ ?_
      | (refine XC.is ?_; refine W110 ?_; refine XC.planG (by kernel_rfl) (fun _ m h => h.drewn m) ?_; (conv => arg 5; reduce); refine XG0.of ?_; (conv => arg 5; reduce); (conv => arg 6; reduce); refine XG.go (by decide +kernel) ?_))
    refine XL.trip (decl_tri hW hS (i := k) (m := y) (by omega) hask) (by rfl) (by rfl) (by rfl) (by rfl) (by rfl) (by rfl) (by rfl) (by (repeat' (first | exact Sels.nil | exact Sel.here | apply Sels.cons | apply Sel.there)); done) (by (repeat (first | exact sub0 | refine subC (by repeat (first | exact List.Mem.head _ | apply List.Mem.tail)) ?_)); done) ?_ ?_
    rotate_left
    · rintro ⟨t1, k1, i1⟩ hb
      dsimp only at hb
      (repeat (first | refine XQ.sqP ?_ | refine XQ.rdP ?_ | refine XQ.mtP ?_ | refine XQ.blockP ?_ | refine XQ.anSP ?_))
      exact XQ.rpBad (by (repeat' (first | exact Sels.nil | exact Sel.here | apply Sels.cons | apply Sel.there)); done) (by simp [PM.bind, PM.pure, hb, recordB, h1, h6, hy])
    rintro ⟨x, k2⟩ ⟨hx, hx', hx''⟩
    dsimp only at hx hx' hx''
    conv => arg 9; dsimp only [List.cons_append, List.nil_append]
    try conv => arg 7; dsimp only
    repeat' (first
      | refine XStep ?_
      | refine Fa.mk fun b => ?_
      | refine Fb.mk fun b2 => ?_
      | refine Fz.mk fun z => ?_
      | (refine Gd.mk (fun h => ?_) (fun h => ?_) <;> try (first | (exfalso; omega) | exact absurd rfl h | (exfalso; simp at h <;> omega)))
      | refine Ands.mk ?_ ?_
      | (refine XC.is ?_; refine W110 ?_; refine XC.planG (by kernel_rfl) (fun _ m h => h.drewn m) ?_; (conv => arg 5; reduce); refine XG0.of ?_; (conv => arg 5; reduce); (conv => arg 6; reduce); refine XG.go (by decide +kernel) ?_))
    refine XL.appendS (e := 27) (size := 8) (us := NdM.cells x) (xs' := ndC (l ++ [x])) (by rfl) (by rfl) (by rfl) (by rfl) (by rfl) (by rfl) (by rfl) (by repeat (first | exact Sel.here | apply Sel.there)) (by repeat (first | exact Sel.here | apply Sel.there)) ⟨_, (by repeat (first | exact Sel.here | apply Sel.there))⟩ (by rfl) (Nat.le_refl _) rfl rfl (by rfl) (by omega) rfl (ndC_app l x) (fun v' => ?_)
    refine XL.ex (fun w h => h.sliced (e := 27) (size := 8) (by repeat (first | exact Sel.here | apply Sel.there))) ?_
    rintro ⟨va', vc'⟩
    refine XL.pureW (fun ev => ?_)
    dsimp only at ev
    subst ev
    repeat' (first
      | refine XStep ?_
      | refine Fa.mk fun b => ?_
      | refine Fb.mk fun b2 => ?_
      | refine Fz.mk fun z => ?_
      | (refine Gd.mk (fun h => ?_) (fun h => ?_) <;> try (first | (exfalso; omega) | exact absurd rfl h | (exfalso; simp at h <;> omega)))
      | refine Ands.mk ?_ ?_
      | (refine XC.is ?_; refine W110 ?_; refine XC.planG (by kernel_rfl) (fun _ m h => h.drewn m) ?_; (conv => arg 5; reduce); refine XG0.of ?_; (conv => arg 5; reduce); (conv => arg 6; reduce); refine XG.go (by decide +kernel) ?_))
    refine XL.trip (must_tri (t := tx [59]) hS (i := k2) (by omega)) (by rfl) (by rfl) (by rfl) (by rfl) (by rfl) (by rfl) (by rfl) (by (repeat' (first | exact Sels.nil | exact Sel.here | apply Sels.cons | apply Sel.there)); done) (by (repeat (first | exact sub0 | refine subC (by repeat (first | exact List.Mem.head _ | apply List.Mem.tail)) ?_)); done) ?_ ?_
    rotate_left
    · rintro ⟨t1, k1, i1⟩ hb
      dsimp only at hb
      (repeat (first | refine XQ.sqP ?_ | refine XQ.rdP ?_ | refine XQ.mtP ?_ | refine XQ.blockP ?_ | refine XQ.anSP ?_))
      exact XQ.rpBad (by (repeat' (first | exact Sels.nil | exact Sel.here | apply Sels.cons | apply Sel.there)); done) (by simp [PM.bind, PM.pure, hb, recordB, h1, h6, hy, hx])
    rintro ⟨u2, k3⟩ ⟨h7, h7', h7''⟩
    dsimp only at h7 h7' h7''
    conv => arg 9; dsimp only [List.cons_append, List.nil_append]
    try conv => arg 7; dsimp only
    subst h7'
    repeat' (first
      | refine XStep ?_
      | refine Fa.mk fun b => ?_
      | refine Fb.mk fun b2 => ?_
      | refine Fz.mk fun z => ?_
      | (refine Gd.mk (fun h => ?_) (fun h => ?_) <;> try (first | (exfalso; omega) | exact absurd rfl h | (exfalso; simp at h <;> omega)))
      | refine Ands.mk ?_ ?_
      | (refine XC.is ?_; refine W110 ?_; refine XC.planG (by kernel_rfl) (fun _ m h => h.drewn m) ?_; (conv => arg 5; reduce); refine XG0.of ?_; (conv => arg 5; reduce); (conv => arg 6; reduce); refine XG.go (by decide +kernel) ?_))
    have e2 : (l ++ [x]).length = l.length + 1 := by simp
    refine XQ.round (f, k2 + 1, (va', vc'), l ++ [x]) (by (repeat (first | exact fits_nil | refine fits_cons (by rfl) ?_)); done) (fun w hw => ⟨⟨by dsimp only; omega, by dsimp only; omega, by dsimp only; omega, by dsimp only; omega, by rw [h6, nds_app]; simp [PM.bind, hy, hx, h7]⟩, ?_⟩) (by dsimp only; omega)
    dsimp only
    rw [e2]
    exact (hw.ndsApp (l := l) (x := x) (by repeat (first | exact List.Mem.head _ | apply List.Mem.tail)) (by repeat (first | exact List.Mem.head _ | apply List.Mem.tail))).less (by (repeat' (first | exact Sels.nil | exact Sel.here | apply Sels.cons | apply Sel.there)); done) (by (repeat (first | exact sub0 | refine subC (by repeat (first | exact List.Mem.head _ | apply List.Mem.tail)) ?_)); done)
  · have hlt2 := isB_lt hq
    simp only [hq, if_true] at h6
    repeat' (first
      | refine XStep ?_
      | refine Fa.mk fun b => ?_
      | refine Fb.mk fun b2 => ?_
      | refine Fz.mk fun z => ?_
      | (refine Gd.mk (fun h => ?_) (fun h => ?_) <;> try (first | (exfalso; omega) | exact absurd rfl h | (exfalso; simp at h <;> omega)))
      | refine Ands.mk ?_ ?_
      | (refine XC.is ?_; refine W110 ?_; refine XC.planG (by kernel_rfl) (fun _ m h => h.drewn m) ?_; (conv => arg 5; reduce); refine XG0.of ?_; (conv => arg 5; reduce); (conv => arg 6; reduce); refine XG.go (by decide +kernel) ?_))
    refine XL.trip (must_tri (t := tx [59]) hS (i := j + 1) (by omega)) (by rfl) (by rfl) (by rfl) (by rfl) (by rfl) (by rfl) (by rfl) (by (repeat' (first | exact Sels.nil | exact Sel.here | apply Sels.cons | apply Sel.there)); done) (by (repeat (first | exact sub0 | refine subC (by repeat (first | exact List.Mem.head _ | apply List.Mem.tail)) ?_)); done) ?_ ?_
    rotate_left
    · rintro ⟨t1, k1, i1⟩ hb
      dsimp only at hb
      (repeat (first | refine XQ.sqP ?_ | refine XQ.rdP ?_ | refine XQ.mtP ?_ | refine XQ.blockP ?_ | refine XQ.anSP ?_))
      exact XQ.rpBad (by (repeat' (first | exact Sels.nil | exact Sel.here | apply Sels.cons | apply Sel.there)); done) (by simp [PM.bind, PM.pure, hb, recordB, h1, h6])
    rintro ⟨u2, k3⟩ ⟨h7, h7', h7''⟩
    dsimp only at h7 h7' h7''
    conv => arg 9; dsimp only [List.cons_append, List.nil_append]
    try conv => arg 7; dsimp only
    subst h7'
    repeat' (first
      | refine XStep ?_
      | refine Fa.mk fun b => ?_
      | refine Fb.mk fun b2 => ?_
      | refine Fz.mk fun z => ?_
      | (refine Gd.mk (fun h => ?_) (fun h => ?_) <;> try (first | (exfalso; omega) | exact absurd rfl h | (exfalso; simp at h <;> omega)))
      | refine Ands.mk ?_ ?_
      | (refine XC.is ?_; refine W110 ?_; refine XC.planG (by kernel_rfl) (fun _ m h => h.drewn m) ?_; (conv => arg 5; reduce); refine XG0.of ?_; (conv => arg 5; reduce); (conv => arg 6; reduce); refine XG.go (by decide +kernel) ?_))
    refine XQ.conv (fun w h => ((h.rowFreeze (e := 27) (size := 8) (xs := ndC l) (by repeat (first | exact Sel.here | apply Sel.there))).ndMk (k := 20) (n := 0) (s := tx []) (t := m) (l := l) (.head _) (by repeat (first | exact List.Mem.head _ | apply List.Mem.tail)) (by repeat (first | exact List.Mem.head _ | apply List.Mem.tail)))) ?_
    exact XQ.doneC (by rfl) (by rfl) (by rfl) (by rfl) (by repeat (first | exact Sel.here | apply Sel.there)) (by rfl) (RP.ok (x := .mk 20 (tx []) 0 m va l.length vc l) (j := j + 1 + 1) ⟨by simp [recordB, PM.bind, PM.pure, h1, h6, h7, NdM.nd], by omega, by omega⟩) (by (repeat' (first | exact Sels.nil | exact Sel.here | apply Sels.cons | apply Sel.there)); done) (by (repeat (first | exact sub0 | refine subC (by repeat (first | exact List.Mem.head _ | apply List.Mem.tail)) ?_)); done)
/-- What lies where a function is gathered. -/
@[reducible] def fnK (pb bt bp : Nat) (s : ByteArray) (m : TyM) (x : (Value × Value) × List NdM) : SP :=
  SP.ex (fun _ : Unit => [cel bt #[.int .i64 22, .string s, .int .i64 0, .int .i64 9, .int .i64 0, .string (tx []), x.1.1, x.1.2] 27, rowO 24 4 x.1.1 (m :: x.2.map NdM.t).length (tyC (m :: x.2.map NdM.t)), rowO 27 8 x.1.2 x.2.length (ndC x.2), cel bp #[.pointer (some ⟨pb, 0, none⟩)] 52]) fun _ => x.2.length ≤ 6
theorem X.St.fnShut {c : Cx} {L F : List SP} {Φ : List FP} {w : World} {pb bt bp : Nat} {s : ByteArray} {m : TyM} {v u : Value} {l : List NdM} (h : St c L Φ w)
    (sl : Sels L [cel bt #[.int .i64 22, .string s, .int .i64 0, .int .i64 9, .int .i64 0, .string (tx []), v, u] 27, rowO 24 4 v (m :: l.map NdM.t).length (tyC (m :: l.map NdM.t)), rowO 27 8 u l.length (ndC l), cel bp #[.pointer (some ⟨pb, 0, none⟩)] 52] F) (h7 : l.length ≤ 6) :
    St c (fnK pb bt bp s m ((v, u), l) :: F) Φ w := h.shut () sl h7
theorem fn1_tri (hW : WrapT) {S : Src} (hS : S.T.length ≤ 20000) {lv : Value} {pb d bt bp : Nat} {s : ByteArray} {m : TyM} {ask : PM Ty}
    (hask : ∀ j, j ≤ S.T.length → Tri Try.prog 68 [.pointer (some ⟨pb, 0, none⟩)] [pB S lv pb j d] [tkF S lv] (TyR S lv pb d j ask)) (g : (Value × Value) × List NdM) (j : Nat) (hj : j ≤ S.T.length) (hl : (NdM.nds g.2).length < 6) :
    Tri Try.prog 50 ([] ++ [] ++ [.pointer (some ⟨bp, 0, none⟩), .pointer (some ⟨bt, 0, none⟩)]) [pB S lv pb j d, fnK pb bt bp s m g] [tkF S lv, ndsFP g.2] (OneR S lv pb d (fnK pb bt bp s m) (fun g => ndsFP g.2) (fun g => NdM.nds g.2) ((base S).bind (declB S ask)) g j) := by
  refine Tri.of Try.func50 rfl fun c => ?_
  refine XC.ex (fun w h => St.open_ h (by repeat (first | exact Sel.here | apply Sel.there))) fun _ => XC.pure fun h7 => ?_
  obtain ⟨⟨v, u⟩, l⟩ := g
  dsimp only at hl h7 ⊢
  refine XC.ex (fun w h => h.sliced (e := 24) (size := 4) (by repeat (first | exact Sel.here | apply Sel.there))) ?_
  rintro ⟨va, vc⟩
  refine XC.pure (fun ev => ?_)
  refine XC.ex (fun w h => h.sliced (e := 27) (size := 8) (by repeat (first | exact Sel.here | apply Sel.there))) ?_
  rintro ⟨ua, uc⟩
  refine XC.pure (fun eu => ?_)
  dsimp only at ev eu
  subst ev eu
  conv => arg 7; dsimp only [List.cons_append, List.nil_append]
  repeat' (first
    | refine XStep ?_
    | refine Fa.mk fun b => ?_
    | refine Fb.mk fun b2 => ?_
    | refine Fz.mk fun z => ?_
    | (refine Gd.mk (fun h => ?_) (fun h => ?_) <;> try (first | (exfalso; omega) | exact absurd rfl h | (exfalso; simp at h <;> omega)))
    | refine Ands.mk ?_ ?_
    | (refine XC.is ?_; refine W110 ?_; refine XC.planG (by kernel_rfl) (fun _ m h => h.drewn m) ?_; (conv => arg 5; reduce); refine XG0.of ?_; (conv => arg 5; reduce); (conv => arg 6; reduce); refine XG.go (by decide +kernel) ?_))
  all_goals
    refine XL.trip (base_tri hS (i := j) (by omega)) (by rfl) (by rfl) (by rfl) (by rfl) (by rfl) (by rfl) (by rfl) (by (repeat' (first | exact Sels.nil | exact Sel.here | apply Sels.cons | apply Sel.there)); done) (by (repeat (first | exact sub0 | refine subC (by repeat (first | exact List.Mem.head _ | apply List.Mem.tail)) ?_)); done) ?_ ?_
    rotate_left
    · rintro ⟨t1, k1, i1⟩ hb
      dsimp only at hb
      (repeat (first | refine XQ.sqP ?_ | refine XQ.rdP ?_ | refine XQ.mtP ?_ | refine XQ.blockP ?_ | refine XQ.anSP ?_))
      exact XQ.rpBad (by (repeat' (first | exact Sels.nil | exact Sel.here | apply Sels.cons | apply Sel.there)); done) (by simp [PM.bind, hb])
    rintro ⟨y, k⟩ ⟨hy, hy', hy''⟩
    dsimp only at hy hy' hy''
    conv => arg 9; dsimp only [List.cons_append, List.nil_append]
    try conv => arg 7; dsimp only
    repeat' (first
      | refine XStep ?_
      | refine Fa.mk fun b => ?_
      | refine Fb.mk fun b2 => ?_
      | refine Fz.mk fun z => ?_
      | (refine Gd.mk (fun h => ?_) (fun h => ?_) <;> try (first | (exfalso; omega) | exact absurd rfl h | (exfalso; simp at h <;> omega)))
      | refine Ands.mk ?_ ?_
      | (refine XC.is ?_; refine W110 ?_; refine XC.planG (by kernel_rfl) (fun _ m h => h.drewn m) ?_; (conv => arg 5; reduce); refine XG0.of ?_; (conv => arg 5; reduce); (conv => arg 6; reduce); refine XG.go (by decide +kernel) ?_))
    all_goals
      refine XL.trip (decl_tri hW hS (i := k) (m := y) (by omega) hask) (by rfl) (by rfl) (by rfl) (by rfl) (by rfl) (by rfl) (by rfl) (by (repeat' (first | exact Sels.nil | exact Sel.here | apply Sels.cons | apply Sel.there)); done) (by (repeat (first | exact sub0 | refine subC (by repeat (first | exact List.Mem.head _ | apply List.Mem.tail)) ?_)); done) ?_ ?_
      rotate_left
      · rintro ⟨t1, k1, i1⟩ hb
        dsimp only at hb
        (repeat (first | refine XQ.sqP ?_ | refine XQ.rdP ?_ | refine XQ.mtP ?_ | refine XQ.blockP ?_ | refine XQ.anSP ?_))
        exact XQ.rpBad (by (repeat' (first | exact Sels.nil | exact Sel.here | apply Sels.cons | apply Sel.there)); done) (by simp [PM.bind, hy, hb])
      rintro ⟨x, k2⟩ ⟨hx, hx', hx''⟩
      dsimp only at hx hx' hx''
      conv => arg 9; dsimp only [List.cons_append, List.nil_append]
      try conv => arg 7; dsimp only
      repeat' (first
        | refine XStep ?_
        | refine Fa.mk fun b => ?_
        | refine Fb.mk fun b2 => ?_
        | refine Fz.mk fun z => ?_
        | (refine Gd.mk (fun h => ?_) (fun h => ?_) <;> try (first | (exfalso; omega) | exact absurd rfl h | (exfalso; simp at h <;> omega)))
        | refine Ands.mk ?_ ?_
        | (refine XC.is ?_; refine W110 ?_; refine XC.planG (by kernel_rfl) (fun _ m h => h.drewn m) ?_; (conv => arg 5; reduce); refine XG0.of ?_; (conv => arg 5; reduce); (conv => arg 6; reduce); refine XG.go (by decide +kernel) ?_))
      refine XL.appendS (e := 24) (size := 4) (m := (m :: l.map NdM.t).length) (by rfl) (by rfl) (by rfl) (by rfl) (by rfl) (by rfl) (by rfl) (by repeat (first | exact Sel.here | apply Sel.there)) (by repeat (first | exact Sel.here | apply Sel.there)) ⟨_, (by repeat (first | exact Sel.here | apply Sel.there))⟩ (by rfl) (Nat.le_refl _) rfl rfl (by rfl) (by simp; omega) rfl rfl (fun v' => ?_)
      refine XL.ex (fun w h => h.sliced (e := 24) (size := 4) (by repeat (first | exact Sel.here | apply Sel.there))) ?_
      rintro ⟨va', vc'⟩
      refine XL.pureW (fun ev => ?_)
      dsimp only at ev
      subst ev
      repeat' (first
        | refine XStep ?_
        | refine Fa.mk fun b => ?_
        | refine Fb.mk fun b2 => ?_
        | refine Fz.mk fun z => ?_
        | (refine Gd.mk (fun h => ?_) (fun h => ?_) <;> try (first | (exfalso; omega) | exact absurd rfl h | (exfalso; simp at h <;> omega)))
        | refine Ands.mk ?_ ?_
        | (refine XC.is ?_; refine W110 ?_; refine XC.planG (by kernel_rfl) (fun _ m h => h.drewn m) ?_; (conv => arg 5; reduce); refine XG0.of ?_; (conv => arg 5; reduce); (conv => arg 6; reduce); refine XG.go (by decide +kernel) ?_))
      all_goals
        refine XL.stsR (xs := tyC (m :: l.map NdM.t)) (by rfl) (by rfl) (by rfl) (by rfl) (by rfl) (by rfl) (by rfl) (by rfl) (by rfl) (by repeat (first | exact Sel.here | apply Sel.there)) (tyC_len (m :: l.map NdM.t)) (by rfl) ?_
        repeat' (first
          | refine XStep ?_
          | refine Fa.mk fun b => ?_
          | refine Fb.mk fun b2 => ?_
          | refine Fz.mk fun z => ?_
          | (refine Gd.mk (fun h => ?_) (fun h => ?_) <;> try (first | (exfalso; omega) | exact absurd rfl h | (exfalso; simp at h <;> omega)))
          | refine Ands.mk ?_ ?_
          | (refine XC.is ?_; refine W110 ?_; refine XC.planG (by kernel_rfl) (fun _ m h => h.drewn m) ?_; (conv => arg 5; reduce); refine XG0.of ?_; (conv => arg 5; reduce); (conv => arg 6; reduce); refine XG.go (by decide +kernel) ?_))
        refine XL.appendS (e := 27) (size := 8) (m := l.length) (by rfl) (by rfl) (by rfl) (by rfl) (by rfl) (by rfl) (by rfl) (by repeat (first | exact Sel.here | apply Sel.there)) (by repeat (first | exact Sel.here | apply Sel.there)) ⟨_, (by repeat (first | exact Sel.here | apply Sel.there))⟩ (by rfl) (Nat.le_refl _) rfl rfl (by rfl) (by omega) rfl rfl (fun v' => ?_)
        refine XL.ex (fun w h => h.sliced (e := 27) (size := 8) (by repeat (first | exact Sel.here | apply Sel.there))) ?_
        rintro ⟨ua', uc'⟩
        refine XL.pureW (fun ev => ?_)
        dsimp only at ev
        subst ev
        repeat' (first
          | refine XStep ?_
          | refine Fa.mk fun b => ?_
          | refine Fb.mk fun b2 => ?_
          | refine Fz.mk fun z => ?_
          | (refine Gd.mk (fun h => ?_) (fun h => ?_) <;> try (first | (exfalso; omega) | exact absurd rfl h | (exfalso; simp at h <;> omega)))
          | refine Ands.mk ?_ ?_
          | (refine XC.is ?_; refine W110 ?_; refine XC.planG (by kernel_rfl) (fun _ m h => h.drewn m) ?_; (conv => arg 5; reduce); refine XG0.of ?_; (conv => arg 5; reduce); (conv => arg 6; reduce); refine XG.go (by decide +kernel) ?_))
        all_goals
          refine XL.stsR (xs := ndC l) (by rfl) (by rfl) (by rfl) (by rfl) (by rfl) (by rfl) (by rfl) (by rfl) (by rfl) (by repeat (first | exact Sel.here | apply Sel.there)) (ndC_len l) (by rfl) ?_
          repeat' (first
            | refine XStep ?_
            | refine Fa.mk fun b => ?_
            | refine Fb.mk fun b2 => ?_
            | refine Fz.mk fun z => ?_
            | (refine Gd.mk (fun h => ?_) (fun h => ?_) <;> try (first | (exfalso; omega) | exact absurd rfl h | (exfalso; simp at h <;> omega)))
            | refine Ands.mk ?_ ?_
            | (refine XC.is ?_; refine W110 ?_; refine XC.planG (by kernel_rfl) (fun _ m h => h.drewn m) ?_; (conv => arg 5; reduce); refine XG0.of ?_; (conv => arg 5; reduce); (conv => arg 6; reduce); refine XG.go (by decide +kernel) ?_))
          have e1 := ndC_end l x
          have e2 : (l ++ [x]).length = l.length + 1 := by simp
          have e3 : NdM.nds (l ++ [x]) = NdM.nds l ++ [x.nd] := nds_app l x
          have e4 := tyC_end (m :: l.map NdM.t) x.t
          have e5 : (m :: l.map NdM.t) ++ [x.t] = m :: (l ++ [x]).map NdM.t := by simp
          have e6 : (m :: l.map NdM.t).length + 1 = (m :: (l ++ [x]).map NdM.t).length := by simp
          rw [e5] at e4
          exact XQ.conv (fun w hw => by
            rw [e1, e4, e6, ← e2] at hw
            exact ((hw.ndsApp (l := l) (x := x) (by repeat (first | exact List.Mem.head _ | apply List.Mem.tail)) (by repeat (first | exact List.Mem.head _ | apply List.Mem.tail))).fnShut (l := l ++ [x]) (by (repeat' (first | exact Sels.nil | exact Sel.here | apply Sels.cons | apply Sel.there)); done) (by rw [e2]; simp [nds_len] at hl; omega)).less (by (repeat' (first | exact Sels.nil | exact Sel.here | apply Sels.cons | apply Sel.there)); done) (by (repeat (first | exact sub0 | refine subC (by repeat (first | exact List.Mem.head _ | apply List.Mem.tail)) ?_)); done))
            (XQ.end0 (by rfl) (.inl ⟨(((.slice va' (m :: (l ++ [x]).map NdM.t).length vc', .slice ua' (l ++ [x]).length uc'), l ++ [x]), k2), ⟨⟨x.nd, by simp [PM.bind, hy, hx], by dsimp only; rw [e3]⟩, by dsimp only; omega, by dsimp only; omega⟩, rfl, rfl, rfl⟩))
end Go.Proofs.Ytjnineeeffecaaa
