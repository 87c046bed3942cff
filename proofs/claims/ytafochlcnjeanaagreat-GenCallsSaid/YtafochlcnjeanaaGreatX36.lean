/- Runs by numbers, in parts: what one call has come to stands for it; blocks that nobody reaches are left out. For whatever program. -/
import Derived.Test.YtafochlcnjeanaaGreatX35
namespace Go.Proofs.YtafochlcnjeanaaGreat.E
open Go Go.RowKit X

def eqVs : List EV → List EV → Bool
  | [], [] => true
  | a :: l, b :: k => eqV a b && eqVs l k
  | _, _ => false
theorem eqVs_spec : ∀ {l k : List EV}, eqVs l k = true → l = k
  | [], [], _ => rfl
  | [], _ :: _, h => by cases h
  | _ :: _, [], h => by cases h
  | a :: l, b :: k, h => by
    simp only [eqVs, Bool.and_eq_true] at h
    rw [eqV_spec h.1, eqVs_spec h.2]
def eqRes : Res → Res → Bool
  | .ret (.tup l), .ret (.tup k) => eqVs l k
  | .ret a, .ret b => eqV a b
  | _, _ => false
theorem eqRes_spec {a b : Res} (h : eqRes a b = true) : a = b := by
  unfold eqRes at h
  split at h
  · rw [eqVs_spec h]
  · rw [eqV_spec h]
  · cases h
def eqT : T EV → T EV → Bool
  | .leaf, .leaf => true
  | .node none l r, .node none l' r' => eqT l l' && eqT r r'
  | .node (some a) l r, .node (some b) l' r' => eqV a b && eqT l l' && eqT r r'
  | _, _ => false
theorem eqT_spec : ∀ {a b : T EV}, eqT a b = true → a = b
  | .leaf, .leaf, _ => rfl
  | .node none l r, .node none l' r', h => by
    simp only [eqT, Bool.and_eq_true] at h
    rw [eqT_spec h.1, eqT_spec h.2]
  | .node (some a) l r, .node (some b) l' r', h => by
    simp only [eqT, Bool.and_eq_true] at h
    rw [eqV_spec h.1.1, eqT_spec h.1.2, eqT_spec h.2]
  | .leaf, .node _ _ _, h => by cases h
  | .node _ _ _, .leaf, h => by simp [eqT] at h
  | .node none _ _, .node (some _) _ _, h => by simp [eqT] at h
  | .node (some _) _ _, .node none _ _, h => by simp [eqT] at h
/-- Blocks, written out: number, type, cells. -/
abbrev Lits := List (Nat × TypeId × List EV)
def lit : Lits → T Blk
  | [] => .leaf
  | (k, t, l) :: rest => (lit rest).put k (newRowE t l)
def hasB (H : T Blk) : Lits → Bool
  | [] => true
  | (k, t, l) :: rest => (match H.get k with | some (.row t' n cs) => Nat.beq t t' && Nat.beq n l.length && eqT cs (T.leaf.puts 0 l) | _ => false) && hasB H rest
theorem hasB_sub {H : T Blk} : ∀ {ls : Lits}, hasB H ls = true → ∀ k B, (lit ls).get k = some B → H.get k = some B
  | [], _, k, B, h => by simp [lit, T.get] at h
  | (k0, t, l) :: rest, hb, k, B, h => by
    simp only [hasB, Bool.and_eq_true] at hb
    obtain ⟨h1, h2⟩ := hb
    simp only [lit] at h
    rw [T.get_put] at h
    by_cases e : k = k0
    · subst e
      rw [if_pos rfl] at h
      cases h
      split at h1
      · rename_i t' n cs hg
        simp only [Bool.and_eq_true, Nat.beq_eq] at h1
        obtain ⟨⟨rfl, rfl⟩, h3⟩ := h1
        rw [hg, eqT_spec h3]
        rfl
      · cases h1
    · rw [if_neg e] at h
      exact hasB_sub h2 k B h
def sameR (ls : Lits) (r : Res) (n : Nat) : Option (Res × T Blk × Nat) → Bool
  | some (r', H, n') => eqRes r r' && hasB H ls && Nat.beq n n'
  | none => false
theorem After.less {id hi : Nat} {R R' : Rel} {w w' : World} {H' H2 : Heap} (h : After id hi R (T.leaf : T Blk).get w R' H' w') (hs : ∀ k B, H2 k = some B → H' k = some B) : After id hi R (T.leaf : T Blk).get w R' H2 w' := by
  obtain ⟨h1, h2, h3⟩ := h
  have hl : ∀ k, live H2 k → live H' k := fun k ⟨B, hB, hv⟩ => ⟨B, hs k B hB, hv⟩
  refine ⟨⟨fun k B hB hv => h1.blk k B (hs k B hB) hv, fun k B hB => h1.dom k B (hs k B hB), fun k k' b c c' hk hk' => h1.inj k k' b c c' (hl k hk) (hl k' hk'), h1.fn, h1.lt⟩, ?_, h3⟩
  exact ⟨h2.size, h2.sub, h2.new, h2.keep, fun b ⟨k, c, hk, hr⟩ => h2.own b ⟨k, c, hl k hk, hr⟩, fun k B hB => h2.dom k B (hs k B hB), fun k B hB => by simp [T.get] at hB⟩
/-- A call whose outcome is known. -/
def memo (g0 : FuncId) (a0 : List EV) (ls : Lits) (r : Res) (n1 : Nat) (call : CallE) : CallE := fun g args H n => match Nat.beq g g0 with
  | true => match H, Nat.beq n 0 && eqVs args a0 with
    | .leaf, true => some (r, lit ls, n1)
    | _, _ => none
  | false => call g args H n
theorem memo_OK {P : Program} {call c0 : CallE} {g0 : FuncId} {a0 : List EV} {ls : Lits} {r : Res} {n1 : Nat} (hc : CallOK P call) (h0 : CallOK P c0) (h : sameR ls r n1 (c0 g0 a0 .leaf 0) = true) : CallOK P (memo g0 a0 ls r n1 call) := by
  intro g args H n r' H' n' hm
  unfold memo at hm
  split at hm
  · rename_i hg
    have hg := Nat.eq_of_beq_eq_true hg
    subst hg
    split at hm
    · rename_i hn
      simp only [Bool.and_eq_true, Nat.beq_eq] at hn
      obtain ⟨rfl, hn⟩ := hn
      have := eqVs_spec hn
      subst this
      cases hm
      unfold sameR at h
      split at h
      · rename_i r2 H2 n2 hr
        simp only [Bool.and_eq_true, Nat.beq_eq] at h
        obtain ⟨⟨h1, h2⟩, rfl⟩ := h
        have := eqRes_spec h1
        subst this
        obtain ⟨k1, k2, k3⟩ := h0 _ _ _ _ _ _ _ hr
        refine ⟨k1, k2, fun R w vargs hv HH hF => (k3 R w vargs hv HH hF).mono fun e w' ⟨R', hA, hR⟩ => ⟨R', hA.less (hasB_sub h2), hR⟩⟩
      · cases h
    · cases hm
  · exact hc _ _ _ _ _ _ _ hm
/-- A run whose first calls are known. -/
theorem Tri.runM {P : Program} {f : Nat} {call : CallE} {g : FuncId} {b : Bool} (hm : P.follows .mixedOrders = true) (hc : CallOK P call) (h : isBool b (stepF P (anyE P) f call g [] .leaf 0) = true) :
    Tri P g [] [] [] fun e L Φ => e = .returned (.bool b) ∧ L = [] ∧ Φ = [] := by
  unfold isBool at h
  split at h
  · rename_i c H' n' hr
    have hbc : b = c := by simpa using h
    subst hbc
    obtain ⟨_, _, h3⟩ := stepF_OK (anyE_OK hm) f hc _ _ _ _ _ _ _ hr
    intro c hc
    refine (h3 (fun _ _ _ => False) c.w0 [] (by rw [VRs]) (HR.empty _) (fun _ _ _ h => h.elim)).mono ?_
    rintro e w' ⟨R', hA, v', rfl, hv⟩
    have hv : v' = .bool b := hv
    subst hv
    refine ⟨[], [], ⟨rfl, rfl, rfl⟩, ?_⟩
    obtain ⟨O, h1, h2, h4, h5⟩ := hc.ex
    have hno : ∀ x, ¬ O x := h1
    refine ⟨O, hno, fun φ hφ => (nomatch hφ), ⟨?_, ?_, ?_, ?_, ?_⟩, fun x hx => (hno x hx).elim⟩
    · exact hA.2.2.os
    · exact hA.2.2.tape
    · exact hA.2.2.output
    · exact hA.2.1.size
    · intro x hx _
      exact hA.2.1.keep x hx (fun ⟨k, _, ⟨B, hB, _⟩, _⟩ => by simp [T.get] at hB)
  · cases h
end Go.Proofs.YtafochlcnjeanaaGreat.E
