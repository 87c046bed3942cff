/- Regions whose operations may come in several orders: many plain operations taken first at once. For whatever program. -/
import Derived.Test.YtjnineeeffecaaaX10
namespace Go.Proofs.Ytjnineeeffecaaa.X
open Go Go.RowKit

section
variable {P : Program} {n : Nat} {Q : Post} {ρ : Env} {ds : List Deferred} {A S : World → Prop} {fuel : Nat} {listed : Array Bool} {l : List Oper}
/-- What hangs on slots alone, taken in turn. -/
def takeL (n : Nat) (l : List Oper) : List Nat → Env → Option Env
  | [], ρ => some ρ
  | i :: is, ρ => match nthO l i with
    | some o => match wantB l.toArray ρ o with
      | some true => match pureOp ρ o.op with
        | some v => match fitsB n o.dst with
          | true => match o.dst with
            | some d => takeL n l is ((d, v) :: ρ)
            | none => none
          | false => none
        | none => none
      | some false => match fitsB n o.dst with
        | true => match o.dst with
          | some d => takeL n l is ((d, undef) :: ρ)
          | none => none
        | false => none
      | none => none
    | none => none
def listAll (listed : Array Bool) : List Nat → Array Bool
  | [] => listed
  | i :: is => listAll (listed.setIfInBounds i true) is
def takeOK (ops : Array Oper) (listed : Array Bool) : List Nat → Bool
  | [] => true
  | i :: is => Region.noSelect ops && Region.free .any ops listed i && (Region.ready .any ops listed).contains i && (match ops[i]? with | some o => noEnter o | none => false) && takeOK ops (listed.setIfInBounds i true) is
theorem XA.batch : ∀ (is : List Nat) {m : Nat} {fuel : Nat} {listed : Array Bool} {ρ ρ' : Env}, is.length = m → takeOK l.toArray listed is = true → PF Q → takeL n l is ρ = some ρ' →
    XA P n l.toArray Q S fuel (listAll listed is) ρ' ds A → XA P n l.toArray Q S (fuel + m) listed ρ ds A
  | [], m, fuel, listed, ρ, ρ', hm, _, _, ht, k => by
    subst hm
    simp only [takeL] at ht
    cases ht
    exact k
  | i :: is, m, fuel, listed, ρ, ρ', hm, hB, hQ, ht, k => by
    subst hm
    simp only [takeOK, Bool.and_eq_true] at hB
    obtain ⟨⟨⟨⟨h1, h2⟩, h3⟩, h4⟩, h5⟩ := hB
    simp only [takeL] at ht
    split at ht
    · rename_i o ho
      have ho' := (nthO_eq l i).trans ho
      rw [ho'] at h4
      have h6 : (Region.noSelect l.toArray && Region.free .any l.toArray listed i && (Region.ready .any l.toArray listed).contains i && noEnter o) = true := by
        simp only [Bool.and_eq_true]; exact ⟨⟨⟨h1, h2⟩, h3⟩, h4⟩
      rw [List.length_cons, ← Nat.add_assoc]
      split at ht
      · rename_i hw
        split at ht
        · rename_i v hv
          split at ht
          · rename_i hf
            split at ht
            · rename_i d hd
              exact XA.tk i ho h6 hQ (XL.run (d := some d) hd (by rw [hd] at hf; exact hf) hw (fun σ w hσ _ => pureOp_run hσ hv w) (XL.nil (XQ.tk (XA.batch is rfl h5 hQ ht k))))
            · cases ht
          · cases ht
        · cases ht
      · rename_i hw
        split at ht
        · rename_i hf
          split at ht
          · rename_i d hd
            exact XA.tk i ho h6 hQ (XL.off (d := some d) hd (by rw [hd] at hf; exact hf) hw (XL.nil (XQ.tk (XA.batch is rfl h5 hQ ht k))))
          · cases ht
        · cases ht
      · cases ht
    · cases ht
end
end Go.Proofs.Ytjnineeeffecaaa.X
