/- What the document's check of a program tells: that it ends, and what its 0 means. -/
import Derived.Test.YtafochlcnjeanaaGreatG2
namespace Go.Proofs.YtafochlcnjeanaaGreat
open Go X
set_option maxRecDepth 100000
set_option maxHeartbeats 4000000
attribute [local irreducible] XC XL XQ Tri blk Shows Sq Rd Mt inBlockX
attribute [local irreducible] rowO
def kindOf (p : ProgM) (n : Int) : Int := if 0 ≤ n ∧ n < p.siteL.length then (match p.siteL[n.toNat]? with | some S => S.kind | none => 0) else 0
theorem kind_tri {p : ProgM} {n : Int} : Tri Tryz.prog 26 [p.v, .int .i64 n] [] [progFP p] fun e L Φ => e = .returned (.int .i64 (kindOf p n)) ∧ L = [] ∧ Φ = [] := by
  refine Tri.of Tryz.func26 rfl fun c => ?_
  repeat' (first
    | refine W82 ?_
    | refine W83 ?_
    | refine W84 ?_
    | refine W85 ?_
    | refine W86 ?_
    | refine W87 ?_
    | (refine W89 (fun h => ?_) (fun h => ?_) <;> try (first | (exfalso; omega) | exact absurd rfl h | (exfalso; simp at h <;> omega)))
    | refine W90 ?_
    | refine W91 ?_
    | refine W94 ?_
    | refine W98 ?_
    | refine W99 ?_
    | refine W100 ?_
    | refine W101 ?_
    | refine W102 ?_
    | refine W103 ?_
    | refine W104 ?_
    | refine W105 ?_
    | refine W106 ?_
    | refine W1 ?_
    | (refine W2 (fun h => ?_) (fun h => ?_) <;> try (first | (exfalso; omega) | exact absurd rfl h | (exfalso; simp at h <;> omega)))
    | refine W3 ?_
    | refine W32 ?_
    | refine XL.pure 1 (by rfl) ?_
    | refine W13 ?_
    | refine W5 ?_
    | refine W14 ?_
    | refine W18 ?_
    | refine W6 ?_
    | refine W24 ?_
    | refine W27 ?_
    | refine W19 ?_
    | refine W20 ?_
    | refine W15 ?_
    | refine W7 ?_
    | refine W28 ?_
    | refine W29 ?_
    | refine W34 ?_
    | refine W35 ?_
    | refine W36 ?_
    | refine W37 ?_
    | refine W38 ?_
    | refine W39 ?_
    | refine W30 ?_
    | refine W31 ?_
    | refine W40 ?_
    | refine W41 ?_
    | refine W42 ?_
    | refine W43 ?_
    | refine W44 ?_
    | refine W45 ?_
    | refine W47 ?_
    | refine W108 ?_
    | refine W109 ?_
    | refine W8 ?_
    | refine W21 ?_
    | refine W22 ?_
    | refine W16 ?_
    | refine W9 ?_
    | refine W10 ?_
    | refine W48 ?_
    | (refine W49 (fun b => ?_))
    | (refine W50 (fun b => ?_))
    | (refine W51 (fun b => ?_))
    | refine W25 ?_)
  · rw [kindOf, if_neg (by omega)]
    refine XQ.done1 (by rfl) (by rfl) (⟨rfl, rfl, rfl⟩) (by (repeat' (first | exact Sels.nil | exact Sel.here | apply Sels.cons | apply Sel.there)); done) (by (repeat (first | exact sub0 | refine subC (by repeat (first | exact List.Mem.head _ | apply List.Mem.tail)) ?_)); done)
  · rw [kindOf, if_neg (by omega)]
    refine XQ.done1 (by rfl) (by rfl) (⟨rfl, rfl, rfl⟩) (by (repeat' (first | exact Sels.nil | exact Sel.here | apply Sels.cons | apply Sel.there)); done) (by (repeat (first | exact sub0 | refine subC (by repeat (first | exact List.Mem.head _ | apply List.Mem.tail)) ?_)); done)
  · obtain ⟨m, rfl⟩ := Int.eq_ofNat_of_zero_le (show 0 ≤ n by omega)
    obtain ⟨S, hS, mS⟩ := get_of_lt (l := p.siteL) (i := m) (by omega)
    have aS := site_at hS
    repeat' (first
      | refine W82 ?_
      | refine W83 ?_
      | refine W84 ?_
      | refine W85 ?_
      | refine W86 ?_
      | refine W87 ?_
      | (refine W89 (fun h => ?_) (fun h => ?_) <;> try (first | (exfalso; omega) | exact absurd rfl h | (exfalso; simp at h <;> omega)))
      | refine W90 ?_
      | refine W91 ?_
      | refine W94 ?_
      | refine W98 ?_
      | refine W99 ?_
      | refine W100 ?_
      | refine W101 ?_
      | refine W102 ?_
      | refine W103 ?_
      | refine W104 ?_
      | refine W105 ?_
      | refine W106 ?_
      | refine W1 ?_
      | (refine W2 (fun h => ?_) (fun h => ?_) <;> try (first | (exfalso; omega) | exact absurd rfl h | (exfalso; simp at h <;> omega)))
      | refine W3 ?_
      | refine W32 ?_
      | refine XL.pure 1 (by rfl) ?_
      | refine W13 ?_
      | refine W5 ?_
      | refine W14 ?_
      | refine W18 ?_
      | refine W6 ?_
      | refine W24 ?_
      | refine W27 ?_
      | refine W19 ?_
      | refine W20 ?_
      | refine W15 ?_
      | refine W7 ?_
      | refine W28 ?_
      | refine W29 ?_
      | refine W34 ?_
      | refine W35 ?_
      | refine W36 ?_
      | refine W37 ?_
      | refine W38 ?_
      | refine W39 ?_
      | refine W30 ?_
      | refine W31 ?_
      | refine W40 ?_
      | refine W41 ?_
      | refine W42 ?_
      | refine W43 ?_
      | refine W44 ?_
      | refine W45 ?_
      | refine W47 ?_
      | refine W108 ?_
      | refine W109 ?_
      | refine W8 ?_
      | refine W21 ?_
      | refine W22 ?_
      | refine W16 ?_
      | refine W9 ?_
      | refine W10 ?_
      | refine W48 ?_
      | (refine W49 (fun b => ?_))
      | (refine W50 (fun b => ?_))
      | (refine W51 (fun b => ?_))
      | refine W25 ?_)
    have e : kindOf p (m : Int) = S.kind := by rw [kindOf, if_pos (by omega), Int.toNat_natCast, hS]
    rw [e]
    refine XQ.done1 (by rfl) (by rfl) (⟨rfl, rfl, rfl⟩) (by (repeat' (first | exact Sels.nil | exact Sel.here | apply Sels.cons | apply Sel.there)); done) (by (repeat (first | exact sub0 | refine subC (by repeat (first | exact List.Mem.head _ | apply List.Mem.tail)) ?_)); done)
theorem writes_tri {op : Int} : Tri Tryz.prog 52 [.int .i64 op] [] [] (Ret (fun b : Bool => .bool b) (fun _ => []) (fun _ => []) fun _ => True) := by
  refine Tri.of Tryz.func52 rfl fun c => ?_
  repeat' (first
    | refine W82 ?_
    | refine W83 ?_
    | refine W84 ?_
    | refine W85 ?_
    | refine W86 ?_
    | refine W87 ?_
    | (refine W89 (fun h => ?_) (fun h => ?_) <;> try (first | (exfalso; omega) | exact absurd rfl h | (exfalso; simp at h <;> omega)))
    | refine W90 ?_
    | refine W91 ?_
    | refine W94 ?_
    | refine W98 ?_
    | refine W99 ?_
    | refine W100 ?_
    | refine W101 ?_
    | refine W102 ?_
    | refine W103 ?_
    | refine W104 ?_
    | refine W105 ?_
    | refine W106 ?_
    | refine W1 ?_
    | (refine W2 (fun h => ?_) (fun h => ?_) <;> try (first | (exfalso; omega) | exact absurd rfl h | (exfalso; simp at h <;> omega)))
    | refine W3 ?_
    | refine W32 ?_
    | refine XL.pure 1 (by rfl) ?_
    | refine W13 ?_
    | refine W5 ?_
    | refine W14 ?_
    | refine W18 ?_
    | refine W6 ?_
    | refine W24 ?_
    | refine W27 ?_
    | refine W19 ?_
    | refine W20 ?_
    | refine W15 ?_
    | refine W7 ?_
    | refine W28 ?_
    | refine W29 ?_
    | refine W34 ?_
    | refine W35 ?_
    | refine W36 ?_
    | refine W37 ?_
    | refine W38 ?_
    | refine W39 ?_
    | refine W30 ?_
    | refine W31 ?_
    | refine W40 ?_
    | refine W41 ?_
    | refine W42 ?_
    | refine W43 ?_
    | refine W44 ?_
    | refine W45 ?_
    | refine W47 ?_
    | refine W108 ?_
    | refine W109 ?_
    | refine W8 ?_
    | refine W21 ?_
    | refine W22 ?_
    | refine W16 ?_
    | refine W9 ?_
    | refine W10 ?_
    | refine W48 ?_
    | (refine W49 (fun b => ?_))
    | (refine W50 (fun b => ?_))
    | (refine W51 (fun b => ?_))
    | refine W25 ?_)
  all_goals exact XQ.done1 (by rfl) (by rfl) ⟨_, trivial, rfl, rfl, rfl⟩ (by (repeat' (first | exact Sels.nil | exact Sel.here | apply Sels.cons | apply Sel.there)); done) (by (repeat (first | exact sub0 | refine subC (by repeat (first | exact List.Mem.head _ | apply List.Mem.tail)) ?_)); done)
def allStr : List Value → Bool
  | [] => true
  | .string _ :: l => allStr l
  | _ => false
theorem allStr_get : ∀ {l : List Value} {i : Nat} {u : Value}, allStr l = true → l[i]? = some u → ∃ s, u = .string s
  | [], i, u, _, h => by simp at h
  | x :: l, i, u, ha, h => by
    unfold allStr at ha
    split at ha
    · exact nomatch ‹x :: l = []›
    · rename_i s l' e
      cases e
      cases i with
      | zero => cases h; exact ⟨s, rfl⟩
      | succ i => exact allStr_get ha (by simpa using h)
    · cases ha
theorem sign_tri {v : Value} {l : List Value} {s : ByteArray} (hl : l.length < 1000) (ha : allStr l = true) : Tri Tryz.prog 88 [v, .string s] [] [Row.fp 1 v l.length l] (Ret (fun b : Bool => .bool b) (fun _ => []) (fun _ => []) fun _ => True) := by
  refine Tri.of Tryz.func88 rfl fun c => ?_
  repeat' (first
    | refine W82 ?_
    | refine W83 ?_
    | refine W84 ?_
    | refine W85 ?_
    | refine W86 ?_
    | refine W87 ?_
    | (refine W89 (fun h => ?_) (fun h => ?_) <;> try (first | (exfalso; omega) | exact absurd rfl h | (exfalso; simp at h <;> omega)))
    | refine W90 ?_
    | refine W91 ?_
    | refine W94 ?_
    | refine W98 ?_
    | refine W99 ?_
    | refine W100 ?_
    | refine W101 ?_
    | refine W102 ?_
    | refine W103 ?_
    | refine W104 ?_
    | refine W105 ?_
    | refine W106 ?_
    | refine W1 ?_
    | (refine W2 (fun h => ?_) (fun h => ?_) <;> try (first | (exfalso; omega) | exact absurd rfl h | (exfalso; simp at h <;> omega)))
    | refine W3 ?_
    | refine W32 ?_
    | refine XL.pure 1 (by rfl) ?_
    | refine W13 ?_
    | refine W5 ?_
    | refine W14 ?_
    | refine W18 ?_
    | refine W6 ?_
    | refine W24 ?_
    | refine W27 ?_
    | refine W19 ?_
    | refine W20 ?_
    | refine W15 ?_
    | refine W7 ?_
    | refine W28 ?_
    | refine W29 ?_
    | refine W34 ?_
    | refine W35 ?_
    | refine W36 ?_
    | refine W37 ?_
    | refine W38 ?_
    | refine W39 ?_
    | refine W30 ?_
    | refine W31 ?_
    | refine W40 ?_
    | refine W41 ?_
    | refine W42 ?_
    | refine W43 ?_
    | refine W44 ?_
    | refine W45 ?_
    | refine W47 ?_
    | refine W108 ?_
    | refine W109 ?_
    | refine W8 ?_
    | refine W21 ?_
    | refine W22 ?_
    | refine W16 ?_
    | refine W9 ?_
    | refine W10 ?_
    | refine W48 ?_
    | (refine W49 (fun b => ?_))
    | (refine W50 (fun b => ?_))
    | (refine W51 (fun b => ?_))
    | refine W25 ?_)
  refine XC.loop (fun i : Nat => [(0, v), (1, .string s), (5, .int .i64 (i : Int))])
    (fun i w => i ≤ l.length ∧ St c [] [Row.fp 1 v l.length l] w) (fun i => l.length - i) 0 (by (repeat (first | exact fits_nil | refine fits_cons (by rfl) ?_)); done) (fun w h => ⟨by omega, h⟩) ?_
  intro i
  refine XC.pure (fun hi => ?_)
  by_cases hlt : i < l.length
  · obtain ⟨u, gx, -⟩ := get_of_lt hlt
    obtain ⟨x, rfl⟩ := allStr_get ha gx
    repeat' (first
      | refine W82 ?_
      | refine W83 ?_
      | refine W84 ?_
      | refine W85 ?_
      | refine W86 ?_
      | refine W87 ?_
      | (refine W89 (fun h => ?_) (fun h => ?_) <;> try (first | (exfalso; omega) | exact absurd rfl h | (exfalso; simp at h <;> omega)))
      | refine W90 ?_
      | refine W91 ?_
      | refine W94 ?_
      | refine W98 ?_
      | refine W99 ?_
      | refine W100 ?_
      | refine W101 ?_
      | refine W102 ?_
      | refine W103 ?_
      | refine W104 ?_
      | refine W105 ?_
      | refine W106 ?_
      | refine W1 ?_
      | (refine W2 (fun h => ?_) (fun h => ?_) <;> try (first | (exfalso; omega) | exact absurd rfl h | (exfalso; simp at h <;> omega)))
      | refine W3 ?_
      | refine W32 ?_
      | refine XL.pure 1 (by rfl) ?_
      | refine W13 ?_
      | refine W5 ?_
      | refine W14 ?_
      | refine W18 ?_
      | refine W6 ?_
      | refine W24 ?_
      | refine W27 ?_
      | refine W19 ?_
      | refine W20 ?_
      | refine W15 ?_
      | refine W7 ?_
      | refine W28 ?_
      | refine W29 ?_
      | refine W34 ?_
      | refine W35 ?_
      | refine W36 ?_
      | refine W37 ?_
      | refine W38 ?_
      | refine W39 ?_
      | refine W30 ?_
      | refine W31 ?_
      | refine W40 ?_
      | refine W41 ?_
      | refine W42 ?_
      | refine W43 ?_
      | refine W44 ?_
      | refine W45 ?_
      | refine W47 ?_
      | refine W108 ?_
      | refine W109 ?_
      | refine W8 ?_
      | refine W21 ?_
      | refine W22 ?_
      | refine W16 ?_
      | refine W9 ?_
      | refine W10 ?_
      | refine W48 ?_
      | (refine W49 (fun b => ?_))
      | (refine W50 (fun b => ?_))
      | (refine W51 (fun b => ?_))
      | refine W25 ?_)
    · exact XQ.done1 (by rfl) (by rfl) ⟨_, trivial, rfl, rfl, rfl⟩ (by (repeat' (first | exact Sels.nil | exact Sel.here | apply Sels.cons | apply Sel.there)); done) (by (repeat (first | exact sub0 | refine subC (by repeat (first | exact List.Mem.head _ | apply List.Mem.tail)) ?_)); done)
    · exact XQ.round (i + 1) (by (repeat (first | exact fits_nil | refine fits_cons (by rfl) ?_)); done) (fun w hw => ⟨by omega, hw⟩) (by omega)
  · have e : i = l.length := by omega
    subst e
    repeat' (first
      | refine W82 ?_
      | refine W83 ?_
      | refine W84 ?_
      | refine W85 ?_
      | refine W86 ?_
      | refine W87 ?_
      | (refine W89 (fun h => ?_) (fun h => ?_) <;> try (first | (exfalso; omega) | exact absurd rfl h | (exfalso; simp at h <;> omega)))
      | refine W90 ?_
      | refine W91 ?_
      | refine W94 ?_
      | refine W98 ?_
      | refine W99 ?_
      | refine W100 ?_
      | refine W101 ?_
      | refine W102 ?_
      | refine W103 ?_
      | refine W104 ?_
      | refine W105 ?_
      | refine W106 ?_
      | refine W1 ?_
      | (refine W2 (fun h => ?_) (fun h => ?_) <;> try (first | (exfalso; omega) | exact absurd rfl h | (exfalso; simp at h <;> omega)))
      | refine W3 ?_
      | refine W32 ?_
      | refine XL.pure 1 (by rfl) ?_
      | refine W13 ?_
      | refine W5 ?_
      | refine W14 ?_
      | refine W18 ?_
      | refine W6 ?_
      | refine W24 ?_
      | refine W27 ?_
      | refine W19 ?_
      | refine W20 ?_
      | refine W15 ?_
      | refine W7 ?_
      | refine W28 ?_
      | refine W29 ?_
      | refine W34 ?_
      | refine W35 ?_
      | refine W36 ?_
      | refine W37 ?_
      | refine W38 ?_
      | refine W39 ?_
      | refine W30 ?_
      | refine W31 ?_
      | refine W40 ?_
      | refine W41 ?_
      | refine W42 ?_
      | refine W43 ?_
      | refine W44 ?_
      | refine W45 ?_
      | refine W47 ?_
      | refine W108 ?_
      | refine W109 ?_
      | refine W8 ?_
      | refine W21 ?_
      | refine W22 ?_
      | refine W16 ?_
      | refine W9 ?_
      | refine W10 ?_
      | refine W48 ?_
      | (refine W49 (fun b => ?_))
      | (refine W50 (fun b => ?_))
      | (refine W51 (fun b => ?_))
      | refine W25 ?_)
    exact XQ.done1 (by rfl) (by rfl) ⟨_, trivial, rfl, rfl, rfl⟩ (by (repeat' (first | exact Sels.nil | exact Sel.here | apply Sels.cons | apply Sel.there)); done) (by (repeat (first | exact sub0 | refine subC (by repeat (first | exact List.Mem.head _ | apply List.Mem.tail)) ?_)); done)
/-- A list of whole numbers that the call owns. -/
@[reducible] def OwnInts (x : Value × List Int) : List SP := [rowO 3 1 x.1 x.2.length (ints x.2)]
theorem XQ.ownLit {P : Program} {ρ : Env} {c : Cx} {L L' : List SP} {Φ : List FP} {fn : Func} {q : Value × List Int → Prop} {t b : Nat} (l : List Int) (h : fn.results = #[.tmp t]) (hv : find ρ t = some (.slice (some ⟨b, 0, none⟩) l.length l.length))
    (s : Sel L (cel b (ints l).toArray 3) L') (hl : Nat.ble l.length 65536 = true) (hq : q (.slice (some ⟨b, 0, none⟩) l.length l.length, l)) :
    XQ (bodyX P fn (Shows (Ret (fun x : Value × List Int => x.1) OwnInts (fun _ => []) q) c)) .ret ρ [] (St c L Φ) :=
  XQ.conv (fun _ hw => (hw.celRow (size := 1) s (by rw [ints_len, Nat.mul_one]) hl).less (.cons .here .nil) sub0) (XQ.ret1 h hv ⟨(_, l), hq, rfl, rfl, rfl⟩)
theorem ints_one (l : List Int) : ∀ u ∈ ints l, u.oneCell' = true := fun u hu => by
  obtain ⟨x, _, rfl⟩ := List.mem_map.1 hu
  rfl
theorem reads_tri {p : ProgM} (hw : p.WF) {F : FnM} (mF : F ∈ p.fnL) {I : InsnM} (mI : I ∈ F.codeL) :
    Tri Tryz.prog 51 [I.v] [] [progFP p] (Ret (fun x : Value × List Int => x.1) OwnInts (fun _ => []) fun x => x.2.length ≤ 17592186044000) := by
  refine Tri.of Tryz.func51 rfl fun c => ?_
  have hwa := hw.args F mF I mI
  repeat' (first
    | refine W82 ?_
    | refine W83 ?_
    | refine W84 ?_
    | refine W85 ?_
    | refine W86 ?_
    | refine W87 ?_
    | (refine W89 (fun h => ?_) (fun h => ?_) <;> try (first | (exfalso; omega) | exact absurd rfl h | (exfalso; simp at h <;> omega)))
    | refine W90 ?_
    | refine W91 ?_
    | refine W94 ?_
    | refine W98 ?_
    | refine W99 ?_
    | refine W100 ?_
    | refine W101 ?_
    | refine W102 ?_
    | refine W103 ?_
    | refine W104 ?_
    | refine W105 ?_
    | refine W106 ?_
    | refine W1 ?_
    | (refine W2 (fun h => ?_) (fun h => ?_) <;> try (first | (exfalso; omega) | exact absurd rfl h | (exfalso; simp at h <;> omega)))
    | refine W3 ?_
    | refine W32 ?_
    | refine XL.pure 1 (by rfl) ?_
    | refine W13 ?_
    | refine W5 ?_
    | refine W14 ?_
    | refine W18 ?_
    | refine W6 ?_
    | refine W24 ?_
    | refine W27 ?_
    | refine W19 ?_
    | refine W20 ?_
    | refine W15 ?_
    | refine W7 ?_
    | refine W28 ?_
    | refine W29 ?_
    | refine W34 ?_
    | refine W35 ?_
    | refine W36 ?_
    | refine W37 ?_
    | refine W38 ?_
    | refine W39 ?_
    | refine W30 ?_
    | refine W31 ?_
    | refine W40 ?_
    | refine W41 ?_
    | refine W42 ?_
    | refine W43 ?_
    | refine W44 ?_
    | refine W45 ?_
    | refine W47 ?_
    | refine W108 ?_
    | refine W109 ?_
    | refine W8 ?_
    | refine W21 ?_
    | refine W22 ?_
    | refine W16 ?_
    | refine W9 ?_
    | refine W10 ?_
    | refine W48 ?_
    | (refine W49 (fun b => ?_))
    | (refine W50 (fun b => ?_))
    | (refine W51 (fun b => ?_))
    | refine W25 ?_)
  all_goals first
    | exact XQ.conv (fun w h => (h.nilRow 3 1).less (by (repeat' (first | exact Sels.nil | exact Sel.here | apply Sels.cons | apply Sel.there)); done) (by (repeat (first | exact sub0 | refine subC (by repeat (first | exact List.Mem.head _ | apply List.Mem.tail)) ?_)); done)) (XQ.ret1 (by rfl) (by rfl) ⟨(.slice none 0 0, []), by simp, rfl, rfl, rfl⟩)
    | (refine XL.litE (by rfl) (by rfl) (by rfl) (by rfl) (by rfl) (by rfl) (fun v => ?_)
       repeat' (first
         | refine W82 ?_
         | refine W83 ?_
         | refine W84 ?_
         | refine W85 ?_
         | refine W86 ?_
         | refine W87 ?_
         | (refine W89 (fun h => ?_) (fun h => ?_) <;> try (first | (exfalso; omega) | exact absurd rfl h | (exfalso; simp at h <;> omega)))
         | refine W90 ?_
         | refine W91 ?_
         | refine W94 ?_
         | refine W98 ?_
         | refine W99 ?_
         | refine W100 ?_
         | refine W101 ?_
         | refine W102 ?_
         | refine W103 ?_
         | refine W104 ?_
         | refine W105 ?_
         | refine W106 ?_
         | refine W1 ?_
         | (refine W2 (fun h => ?_) (fun h => ?_) <;> try (first | (exfalso; omega) | exact absurd rfl h | (exfalso; simp at h <;> omega)))
         | refine W3 ?_
         | refine W32 ?_
         | refine XL.pure 1 (by rfl) ?_
         | refine W13 ?_
         | refine W5 ?_
         | refine W14 ?_
         | refine W18 ?_
         | refine W6 ?_
         | refine W24 ?_
         | refine W27 ?_
         | refine W19 ?_
         | refine W20 ?_
         | refine W15 ?_
         | refine W7 ?_
         | refine W28 ?_
         | refine W29 ?_
         | refine W34 ?_
         | refine W35 ?_
         | refine W36 ?_
         | refine W37 ?_
         | refine W38 ?_
         | refine W39 ?_
         | refine W30 ?_
         | refine W31 ?_
         | refine W40 ?_
         | refine W41 ?_
         | refine W42 ?_
         | refine W43 ?_
         | refine W44 ?_
         | refine W45 ?_
         | refine W47 ?_
         | refine W108 ?_
         | refine W109 ?_
         | refine W8 ?_
         | refine W21 ?_
         | refine W22 ?_
         | refine W16 ?_
         | refine W9 ?_
         | refine W10 ?_
         | refine W48 ?_
         | (refine W49 (fun b => ?_))
         | (refine W50 (fun b => ?_))
         | (refine W51 (fun b => ?_))
         | refine W25 ?_)
       refine XL.appendB (xs := []) (news := ints I.argL) (by rfl) (by rfl) (by rfl) (by rfl) (by rfl) (by rfl) (by rfl) (by repeat (first | exact Sel.here | apply Sel.there)) (by rfl) (by first | exact fun w h => St.row (by repeat (first | exact Sel.here | apply Sel.there)) h | exact fun w h => St.rowF (by repeat (first | exact List.Mem.head _ | apply List.Mem.tail)) h | exact fun w h => Hd.rowF (by repeat (first | exact List.Mem.head _ | apply List.Mem.tail)) h | exact fun w h => St.fnsRow (by repeat (first | exact List.Mem.head _ | apply List.Mem.tail)) h | exact fun w h => St.sitesRow (by repeat (first | exact List.Mem.head _ | apply List.Mem.tail)) h | exact fun w h => St.codeRow (by assumption) (by repeat (first | exact List.Mem.head _ | apply List.Mem.tail)) h | exact fun w h => St.argRow (by assumption) (by assumption) (by repeat (first | exact List.Mem.head _ | apply List.Mem.tail)) h | exact fun w h => St.locRow (by assumption) (by repeat (first | exact List.Mem.head _ | apply List.Mem.tail)) h | exact fun w h => St.consRow (by repeat (first | exact List.Mem.head _ | apply List.Mem.tail)) h | exact fun w h => St.conArgs (by assumption) (by repeat (first | exact List.Mem.head _ | apply List.Mem.tail)) h | exact fun w h => Hd.to (St.fnsRow (by repeat (first | exact List.Mem.head _ | apply List.Mem.tail))) h | exact fun w h => Hd.to (St.sitesRow (by repeat (first | exact List.Mem.head _ | apply List.Mem.tail))) h | exact fun w h => Hd.to (St.codeRow (by assumption) (by repeat (first | exact List.Mem.head _ | apply List.Mem.tail))) h | exact fun w h => Hd.to (St.argRow (by assumption) (by assumption) (by repeat (first | exact List.Mem.head _ | apply List.Mem.tail))) h | exact fun w h => Hd.to (St.consRow (by repeat (first | exact List.Mem.head _ | apply List.Mem.tail))) h) (ints_one _) (by simp only [maxLen]; omega) (by show (_ + _) * 8 ≤ _; omega) (fun v' => ?_)
       repeat' (first
         | refine W82 ?_
         | refine W83 ?_
         | refine W84 ?_
         | refine W85 ?_
         | refine W86 ?_
         | refine W87 ?_
         | (refine W89 (fun h => ?_) (fun h => ?_) <;> try (first | (exfalso; omega) | exact absurd rfl h | (exfalso; simp at h <;> omega)))
         | refine W90 ?_
         | refine W91 ?_
         | refine W94 ?_
         | refine W98 ?_
         | refine W99 ?_
         | refine W100 ?_
         | refine W101 ?_
         | refine W102 ?_
         | refine W103 ?_
         | refine W104 ?_
         | refine W105 ?_
         | refine W106 ?_
         | refine W1 ?_
         | (refine W2 (fun h => ?_) (fun h => ?_) <;> try (first | (exfalso; omega) | exact absurd rfl h | (exfalso; simp at h <;> omega)))
         | refine W3 ?_
         | refine W32 ?_
         | refine XL.pure 1 (by rfl) ?_
         | refine W13 ?_
         | refine W5 ?_
         | refine W14 ?_
         | refine W18 ?_
         | refine W6 ?_
         | refine W24 ?_
         | refine W27 ?_
         | refine W19 ?_
         | refine W20 ?_
         | refine W15 ?_
         | refine W7 ?_
         | refine W28 ?_
         | refine W29 ?_
         | refine W34 ?_
         | refine W35 ?_
         | refine W36 ?_
         | refine W37 ?_
         | refine W38 ?_
         | refine W39 ?_
         | refine W30 ?_
         | refine W31 ?_
         | refine W40 ?_
         | refine W41 ?_
         | refine W42 ?_
         | refine W43 ?_
         | refine W44 ?_
         | refine W45 ?_
         | refine W47 ?_
         | refine W108 ?_
         | refine W109 ?_
         | refine W8 ?_
         | refine W21 ?_
         | refine W22 ?_
         | refine W16 ?_
         | refine W9 ?_
         | refine W10 ?_
         | refine W48 ?_
         | (refine W49 (fun b => ?_))
         | (refine W50 (fun b => ?_))
         | (refine W51 (fun b => ?_))
         | refine W25 ?_)
       refine XQ.conv (fun w h => by simp only [Nat.zero_add, List.nil_append] at h; exact h) ?_
       exact XQ.done1 (by rfl) (by rfl) ⟨(v', I.argL), by dsimp only; omega, rfl, rfl, rfl⟩ (by (repeat' (first | exact Sels.nil | exact Sel.here | apply Sels.cons | apply Sel.there)); done) (by (repeat (first | exact sub0 | refine subC (by repeat (first | exact List.Mem.head _ | apply List.Mem.tail)) ?_)); done))
    | (refine XL.lit (by rfl) (by rfl) (by rfl) (by rfl) (by rfl) (by rfl) fun b2 => ?_
       repeat' (first
         | refine W82 ?_
         | refine W83 ?_
         | refine W84 ?_
         | refine W85 ?_
         | refine W86 ?_
         | refine W87 ?_
         | (refine W89 (fun h => ?_) (fun h => ?_) <;> try (first | (exfalso; omega) | exact absurd rfl h | (exfalso; simp at h <;> omega)))
         | refine W90 ?_
         | refine W91 ?_
         | refine W94 ?_
         | refine W98 ?_
         | refine W99 ?_
         | refine W100 ?_
         | refine W101 ?_
         | refine W102 ?_
         | refine W103 ?_
         | refine W104 ?_
         | refine W105 ?_
         | refine W106 ?_
         | refine W1 ?_
         | (refine W2 (fun h => ?_) (fun h => ?_) <;> try (first | (exfalso; omega) | exact absurd rfl h | (exfalso; simp at h <;> omega)))
         | refine W3 ?_
         | refine W32 ?_
         | refine XL.pure 1 (by rfl) ?_
         | refine W13 ?_
         | refine W5 ?_
         | refine W14 ?_
         | refine W18 ?_
         | refine W6 ?_
         | refine W24 ?_
         | refine W27 ?_
         | refine W19 ?_
         | refine W20 ?_
         | refine W15 ?_
         | refine W7 ?_
         | refine W28 ?_
         | refine W29 ?_
         | refine W34 ?_
         | refine W35 ?_
         | refine W36 ?_
         | refine W37 ?_
         | refine W38 ?_
         | refine W39 ?_
         | refine W30 ?_
         | refine W31 ?_
         | refine W40 ?_
         | refine W41 ?_
         | refine W42 ?_
         | refine W43 ?_
         | refine W44 ?_
         | refine W45 ?_
         | refine W47 ?_
         | refine W108 ?_
         | refine W109 ?_
         | refine W8 ?_
         | refine W21 ?_
         | refine W22 ?_
         | refine W16 ?_
         | refine W9 ?_
         | refine W10 ?_
         | refine W48 ?_
         | (refine W49 (fun b => ?_))
         | (refine W50 (fun b => ?_))
         | (refine W51 (fun b => ?_))
         | refine W25 ?_)
       first
         | exact XQ.ownLit [I.b] (by rfl) (by rfl) .here rfl (by simp)
         | exact XQ.ownLit [I.b, I.c] (by rfl) (by rfl) .here rfl (by simp)
         | exact XQ.ownLit [I.a, I.b] (by rfl) (by rfl) .here rfl (by simp)
         | exact XQ.ownLit [I.a, I.b, I.c] (by rfl) (by rfl) .here rfl (by simp)
         | exact XQ.ownLit [I.a] (by rfl) (by rfl) .here rfl (by simp)
         | (refine XL.conv (fun w h => St.celRow (m := 1) (size := 1) (cs := ints [I.b]) (by repeat (first | exact Sel.here | apply Sel.there)) rfl rfl h) ?_
            refine XL.appendB (xs := ints [I.b]) (news := ints I.argL) (by rfl) (by rfl) (by rfl) (by rfl) (by rfl) (by rfl) (by rfl) (by repeat (first | exact Sel.here | apply Sel.there)) (by rfl) (by first | exact fun w h => St.row (by repeat (first | exact Sel.here | apply Sel.there)) h | exact fun w h => St.rowF (by repeat (first | exact List.Mem.head _ | apply List.Mem.tail)) h | exact fun w h => Hd.rowF (by repeat (first | exact List.Mem.head _ | apply List.Mem.tail)) h | exact fun w h => St.fnsRow (by repeat (first | exact List.Mem.head _ | apply List.Mem.tail)) h | exact fun w h => St.sitesRow (by repeat (first | exact List.Mem.head _ | apply List.Mem.tail)) h | exact fun w h => St.codeRow (by assumption) (by repeat (first | exact List.Mem.head _ | apply List.Mem.tail)) h | exact fun w h => St.argRow (by assumption) (by assumption) (by repeat (first | exact List.Mem.head _ | apply List.Mem.tail)) h | exact fun w h => St.locRow (by assumption) (by repeat (first | exact List.Mem.head _ | apply List.Mem.tail)) h | exact fun w h => St.consRow (by repeat (first | exact List.Mem.head _ | apply List.Mem.tail)) h | exact fun w h => St.conArgs (by assumption) (by repeat (first | exact List.Mem.head _ | apply List.Mem.tail)) h | exact fun w h => Hd.to (St.fnsRow (by repeat (first | exact List.Mem.head _ | apply List.Mem.tail))) h | exact fun w h => Hd.to (St.sitesRow (by repeat (first | exact List.Mem.head _ | apply List.Mem.tail))) h | exact fun w h => Hd.to (St.codeRow (by assumption) (by repeat (first | exact List.Mem.head _ | apply List.Mem.tail))) h | exact fun w h => Hd.to (St.argRow (by assumption) (by assumption) (by repeat (first | exact List.Mem.head _ | apply List.Mem.tail))) h | exact fun w h => Hd.to (St.consRow (by repeat (first | exact List.Mem.head _ | apply List.Mem.tail))) h) (ints_one _) (by simp only [maxLen]; omega) (by show (_ + _) * 8 ≤ _; omega) (fun v' => ?_)
            repeat' (first
              | refine W82 ?_
              | refine W83 ?_
              | refine W84 ?_
              | refine W85 ?_
              | refine W86 ?_
              | refine W87 ?_
              | (refine W89 (fun h => ?_) (fun h => ?_) <;> try (first | (exfalso; omega) | exact absurd rfl h | (exfalso; simp at h <;> omega)))
              | refine W90 ?_
              | refine W91 ?_
              | refine W94 ?_
              | refine W98 ?_
              | refine W99 ?_
              | refine W100 ?_
              | refine W101 ?_
              | refine W102 ?_
              | refine W103 ?_
              | refine W104 ?_
              | refine W105 ?_
              | refine W106 ?_
              | refine W1 ?_
              | (refine W2 (fun h => ?_) (fun h => ?_) <;> try (first | (exfalso; omega) | exact absurd rfl h | (exfalso; simp at h <;> omega)))
              | refine W3 ?_
              | refine W32 ?_
              | refine XL.pure 1 (by rfl) ?_
              | refine W13 ?_
              | refine W5 ?_
              | refine W14 ?_
              | refine W18 ?_
              | refine W6 ?_
              | refine W24 ?_
              | refine W27 ?_
              | refine W19 ?_
              | refine W20 ?_
              | refine W15 ?_
              | refine W7 ?_
              | refine W28 ?_
              | refine W29 ?_
              | refine W34 ?_
              | refine W35 ?_
              | refine W36 ?_
              | refine W37 ?_
              | refine W38 ?_
              | refine W39 ?_
              | refine W30 ?_
              | refine W31 ?_
              | refine W40 ?_
              | refine W41 ?_
              | refine W42 ?_
              | refine W43 ?_
              | refine W44 ?_
              | refine W45 ?_
              | refine W47 ?_
              | refine W108 ?_
              | refine W109 ?_
              | refine W8 ?_
              | refine W21 ?_
              | refine W22 ?_
              | refine W16 ?_
              | refine W9 ?_
              | refine W10 ?_
              | refine W48 ?_
              | (refine W49 (fun b => ?_))
              | (refine W50 (fun b => ?_))
              | (refine W51 (fun b => ?_))
              | refine W25 ?_)
            exact XQ.done1 (by rfl) (by rfl) ⟨(v', I.b :: I.argL), by simp; omega, rfl, by rw [OwnInts, List.length_cons, Nat.add_comm], rfl⟩ (by (repeat' (first | exact Sels.nil | exact Sel.here | apply Sels.cons | apply Sel.there)); done) (by (repeat (first | exact sub0 | refine subC (by repeat (first | exact List.Mem.head _ | apply List.Mem.tail)) ?_)); done)))
theorem next_tri {I : InsnM} {k : Nat} (hk : k < 9223372036854775807) : Tri Tryz.prog 54 [I.v, .int .i64 (k : Int)] [] [] (Ret (fun x : Value × List Int => x.1) OwnInts (fun _ => []) fun x => x.2.length ≤ 2) := by
  refine Tri.of Tryz.func54 rfl fun c => ?_
  repeat' (first
    | refine W82 ?_
    | refine W83 ?_
    | refine W84 ?_
    | refine W85 ?_
    | refine W86 ?_
    | refine W87 ?_
    | (refine W89 (fun h => ?_) (fun h => ?_) <;> try (first | (exfalso; omega) | exact absurd rfl h | (exfalso; simp at h <;> omega)))
    | refine W90 ?_
    | refine W91 ?_
    | refine W94 ?_
    | refine W98 ?_
    | refine W99 ?_
    | refine W100 ?_
    | refine W101 ?_
    | refine W102 ?_
    | refine W103 ?_
    | refine W104 ?_
    | refine W105 ?_
    | refine W106 ?_
    | refine W1 ?_
    | (refine W2 (fun h => ?_) (fun h => ?_) <;> try (first | (exfalso; omega) | exact absurd rfl h | (exfalso; simp at h <;> omega)))
    | refine W3 ?_
    | refine W32 ?_
    | refine XL.pure 1 (by rfl) ?_
    | refine W13 ?_
    | refine W5 ?_
    | refine W14 ?_
    | refine W18 ?_
    | refine W6 ?_
    | refine W24 ?_
    | refine W27 ?_
    | refine W19 ?_
    | refine W20 ?_
    | refine W15 ?_
    | refine W7 ?_
    | refine W28 ?_
    | refine W29 ?_
    | refine W34 ?_
    | refine W35 ?_
    | refine W36 ?_
    | refine W37 ?_
    | refine W38 ?_
    | refine W39 ?_
    | refine W30 ?_
    | refine W31 ?_
    | refine W40 ?_
    | refine W41 ?_
    | refine W42 ?_
    | refine W43 ?_
    | refine W44 ?_
    | refine W45 ?_
    | refine W47 ?_
    | refine W108 ?_
    | refine W109 ?_
    | refine W8 ?_
    | refine W21 ?_
    | refine W22 ?_
    | refine W16 ?_
    | refine W9 ?_
    | refine W10 ?_
    | refine W48 ?_
    | (refine W49 (fun b => ?_))
    | (refine W50 (fun b => ?_))
    | (refine W51 (fun b => ?_))
    | refine W25 ?_)
  all_goals first
    | exact XQ.conv (fun w h => (h.nilRow 3 1).less (by (repeat' (first | exact Sels.nil | exact Sel.here | apply Sels.cons | apply Sel.there)); done) (by (repeat (first | exact sub0 | refine subC (by repeat (first | exact List.Mem.head _ | apply List.Mem.tail)) ?_)); done)) (XQ.ret1 (by rfl) (by rfl) ⟨(.slice none 0 0, []), by simp, rfl, rfl, rfl⟩)
    | (refine XL.lit (by rfl) (by rfl) (by rfl) (by rfl) (by rfl) (by rfl) fun b2 => ?_
       repeat' (first
         | refine W82 ?_
         | refine W83 ?_
         | refine W84 ?_
         | refine W85 ?_
         | refine W86 ?_
         | refine W87 ?_
         | (refine W89 (fun h => ?_) (fun h => ?_) <;> try (first | (exfalso; omega) | exact absurd rfl h | (exfalso; simp at h <;> omega)))
         | refine W90 ?_
         | refine W91 ?_
         | refine W94 ?_
         | refine W98 ?_
         | refine W99 ?_
         | refine W100 ?_
         | refine W101 ?_
         | refine W102 ?_
         | refine W103 ?_
         | refine W104 ?_
         | refine W105 ?_
         | refine W106 ?_
         | refine W1 ?_
         | (refine W2 (fun h => ?_) (fun h => ?_) <;> try (first | (exfalso; omega) | exact absurd rfl h | (exfalso; simp at h <;> omega)))
         | refine W3 ?_
         | refine W32 ?_
         | refine XL.pure 1 (by rfl) ?_
         | refine W13 ?_
         | refine W5 ?_
         | refine W14 ?_
         | refine W18 ?_
         | refine W6 ?_
         | refine W24 ?_
         | refine W27 ?_
         | refine W19 ?_
         | refine W20 ?_
         | refine W15 ?_
         | refine W7 ?_
         | refine W28 ?_
         | refine W29 ?_
         | refine W34 ?_
         | refine W35 ?_
         | refine W36 ?_
         | refine W37 ?_
         | refine W38 ?_
         | refine W39 ?_
         | refine W30 ?_
         | refine W31 ?_
         | refine W40 ?_
         | refine W41 ?_
         | refine W42 ?_
         | refine W43 ?_
         | refine W44 ?_
         | refine W45 ?_
         | refine W47 ?_
         | refine W108 ?_
         | refine W109 ?_
         | refine W8 ?_
         | refine W21 ?_
         | refine W22 ?_
         | refine W16 ?_
         | refine W9 ?_
         | refine W10 ?_
         | refine W48 ?_
         | (refine W49 (fun b => ?_))
         | (refine W50 (fun b => ?_))
         | (refine W51 (fun b => ?_))
         | refine W25 ?_)
       first
         | exact XQ.ownLit [I.n] (by rfl) (by rfl) .here rfl (by simp)
         | exact XQ.ownLit [((k + 1 : Nat) : Int), I.n] (by rfl) (by rfl) .here rfl (by simp)
         | exact XQ.ownLit [((k + 1 : Nat) : Int)] (by rfl) (by rfl) .here rfl (by simp))
end Go.Proofs.YtafochlcnjeanaaGreat
