/- The constraints of a program: what is told of them. -/
import Derived.Test.YtafochlcnjeanaaGreatG8
import Derived.Test.YtafochlcnjeanaaGreatX14
namespace Go.Proofs.YtafochlcnjeanaaGreat
open Go X
/-- A row's parts, as far as there. -/
def parts {α β : Type} (f : Nat → α → List β) (l : List α) (i : Nat) : List β := ((l.take i).mapIdx f).flatten
theorem parts_zero {α β : Type} (f : Nat → α → List β) (l : List α) : parts f l 0 = [] := by simp [parts]
theorem parts_succ {α β : Type} {f : Nat → α → List β} {l : List α} {i : Nat} {x : α} (h : l[i]? = some x) : parts f l (i + 1) = parts f l i ++ f i x := by
  have hi := (List.getElem?_eq_some_iff.1 h).1
  unfold parts
  rw [List.take_add_one, h, List.mapIdx_append]
  simp [List.length_take, Nat.min_eq_left (Nat.le_of_lt hi)]
theorem parts_all {α β : Type} (f : Nat → α → List β) (l : List α) : parts f l l.length = (l.mapIdx f).flatten := by simp [parts]
theorem parts_le {α β : Type} {f : Nat → α → List β} {l : List α} {m : Nat} (hm : ∀ i x, l[i]? = some x → (f i x).length ≤ m) : ∀ i, i ≤ l.length → (parts f l i).length ≤ i * m := by
  intro i
  induction i with
  | zero => intro _; simp [parts_zero]
  | succ i ih =>
    intro hi
    have hx : l[i]? = some l[i] := List.getElem?_eq_getElem (by omega)
    rw [parts_succ hx, List.length_append, Nat.add_mul]
    have := hm i _ hx
    have := ih (by omega)
    omega
abbrev place (fn pc : Nat) (P : ConP) : ConP := { P with fn := fn, pc := pc }
def consI (p : ProgM) (fn pc : Nat) (I : InsnM) : List ConP := (insnS p fn I).map (place fn pc)
def consF (p : ProgM) (fn : Nat) (F : FnM) : List ConP := (F.codeL.mapIdx (consI p fn)).flatten
/-- A program's constraints. -/
def genS (p : ProgM) : List ConP := (p.fnL.mapIdx (consF p)).flatten
theorem ite_len {α : Type} {c : Prop} [Decidable c] {a b : List α} {m : Nat} (h1 : c → a.length ≤ m) (h2 : ¬ c → b.length ≤ m) : (if c then a else b).length ≤ m := by
  split
  · exact h1 ‹_›
  · exact h2 ‹_›
theorem insnS_len {p : ProgM} (hp : p.OK) {fn : Nat} {I : InsnM} (hI : okI p I) : (insnS p fn I).length ≤ 4001 := by
  have hargs := hp.args hI
  unfold insnS
  dsimp only
  repeat' (refine ite_len (fun h => ?_) (fun _ => ?_))
  all_goals first
    | (have h9 := hargs (.inl (by assumption))
       rw [List.length_append, List.length_mapIdx, List.length_singleton]
       omega)
    | simp
theorem consI_len {p : ProgM} (hp : p.OK) {fn pc : Nat} {I : InsnM} (hI : okI p I) : (consI p fn pc I).length ≤ 4001 := by
  rw [consI, List.length_map]
  exact insnS_len hp hI
theorem partsF_len {p : ProgM} (hp : p.OK) {fn : Nat} {F : FnM} (hF : F ∈ p.fnL) {pc : Nat} (h : pc ≤ F.codeL.length) : (parts (consI p fn) F.codeL pc).length ≤ pc * 4001 :=
  parts_le (fun _ _ hx => consI_len hp (hp.insn F hF _ (List.mem_of_getElem? hx))) pc h
theorem parts_len {p : ProgM} (hp : p.OK) {i : Nat} (h : i ≤ p.fnL.length) : (parts (consF p) p.fnL i).length ≤ i * 16004000 := by
  refine parts_le (fun j F hF => ?_) i h
  have hm := List.mem_of_getElem? hF
  have h1 := partsF_len hp (fn := j) hm (Nat.le_refl _)
  rw [parts_all] at h1
  have h2 := hp.code F hm
  unfold consF
  omega
theorem consI_at {p : ProgM} {fn pc k : Nat} {I : InsnM} {P : ConP} (h : (insnS p fn I)[k]? = some P) : (consI p fn pc I).take (k + 1) = (consI p fn pc I).take k ++ [place fn pc P] := by
  rw [List.take_add_one, consI, List.getElem?_map, h]
  rfl
namespace X
section
variable {c : Cx} {L L1 Lo F : List SP} {Φ : List FP} {w : World} {P : Program} {ρ : Env} {fn : Func} {S : List ConP}
/-- A row of constraints is told. -/
theorem XQ.consRowF {t n : Nat} {v : Value} {xs : List Value} (l : List ConM) (h : fn.results = #[.tmp t]) (hv : find ρ t = some v) (s : Sel L (rowO 43 9 v n xs) L1) (e1 : n = l.length) (e2 : xs = conC l) (ha : argsFP l ∈ Φ) (hq : l.map (·.p) = S) (s2 : Sels L1 Lo F) :
    XQ (bodyX P fn (Shows (ConsRet Lo S) c)) .ret ρ [] (St c L Φ) := by
  subst e1 e2
  exact XQ.conv (fun w hw => ((hw.consDone s ha).less (Φ' := [consFP v l]) s2 (fun φ hφ => by rw [List.mem_singleton.1 hφ]; exact List.Mem.head _))) (XQ.ret1 h hv ⟨(v, l), hq, rfl, rfl, rfl⟩)
end
end X
end Go.Proofs.YtafochlcnjeanaaGreat
