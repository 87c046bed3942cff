/- What kind of thing comes next: for choosing rules. For whatever program. -/
import Derived.Test.YtafochlcnjeanaaGreatX13
namespace Go.Proofs.YtafochlcnjeanaaGreat.X
open Go Go.RowKit
section
variable {P : Program} {n : Nat} {Q : Post} {ρ : Env} {ds : List Deferred} {A : World → Prop} {ops : Array Oper} {rest : List Oper} {o : Oper} {q : Nat} {l : List Oper} {c : Code} {e : Exit} {ms : List Nat} {pend : Pend} {s : Plan} {i : Nat}
theorem XC.is (h : XC P n c Q ρ ds A) : XC P n c Q ρ ds A := h
theorem XL.is (h : XL P n ops Q q l ρ ds A) : XL P n ops Q q l ρ ds A := h
theorem XQ.is (h : XQ Q e ρ ds A) : XQ Q e ρ ds A := h
theorem XS.is (h : XS P n l Q ms s pend ρ ds A) : XS P n l Q ms s pend ρ ds A := h
theorem XS.isQ (h : XS P n l Q ms (.q i s) pend ρ ds A) : XS P n l Q ms (.q i s) pend ρ ds A := h
theorem XS.isA (h : XS P n l Q ms (.a i s) pend ρ ds A) : XS P n l Q ms (.a i s) pend ρ ds A := h
theorem XS.isB {j : Nat} {t : Plan} (h : XS P n l Q ms (.b i j s t) pend ρ ds A) : XS P n l Q ms (.b i j s t) pend ρ ds A := h
theorem XS.isC {j k : Nat} {t u : Plan} (h : XS P n l Q ms (.c i j k s t u) pend ρ ds A) : XS P n l Q ms (.c i j k s t u) pend ρ ds A := h
theorem XQ.isAn (h : XQ (AnS P n l Q ms s pend) e ρ ds A) : XQ (AnS P n l Q ms s pend) e ρ ds A := h
theorem XQ.isBE {i j : Nat} (h : XQ (inBlockX i Q) (.exit j) ρ ds A) : XQ (inBlockX i Q) (.exit j) ρ ds A := h
theorem XC.isCond {x : Operand} {c c' : Code} (h : XC P n (.cond x c c') Q ρ ds A) : XC P n (.cond x c c') Q ρ ds A := h
theorem XC.isDraw {i : Nat} (h : XC P n (.region i l.toArray true) Q ρ ds A) : XC P n (.region i l.toArray true) Q ρ ds A := h
theorem XL.isLd {t : TypeId} {x : Operand} (_ : o.op = .load t x) (h : XL P n ops Q q (o :: rest) ρ ds A) : XL P n ops Q q (o :: rest) ρ ds A := h
theorem XL.isFa {t : TypeId} {x : Operand} {f : Nat} (_ : o.op = .fieldAddr t x f) (h : XL P n ops Q q (o :: rest) ρ ds A) : XL P n ops Q q (o :: rest) ρ ds A := h
theorem XL.isIa {t : TypeId} {x y : Operand} (_ : o.op = .indexAddr t x y) (h : XL P n ops Q q (o :: rest) ρ ds A) : XL P n ops Q q (o :: rest) ρ ds A := h
theorem XL.isSt {t : TypeId} {x y : Operand} (_ : o.op = .store t x y) (h : XL P n ops Q q (o :: rest) ρ ds A) : XL P n ops Q q (o :: rest) ρ ds A := h
theorem XL.isCall {cl : Call} (_ : o.op = .call cl) (h : XL P n ops Q q (o :: rest) ρ ds A) : XL P n ops Q q (o :: rest) ρ ds A := h
theorem XL.isBin {b : BinOp} {t t' : TypeId} {x y : Operand} (_ : o.op = .binOp b t x y t') (h : XL P n ops Q q (o :: rest) ρ ds A) : XL P n ops Q q (o :: rest) ρ ds A := h
theorem XS.isLd {t : TypeId} {x : Operand} (_ : nthO l i = some o) (_ : o.op = .load t x) (h : XS P n l Q ms (.q i s) pend ρ ds A) : XS P n l Q ms (.q i s) pend ρ ds A := h
theorem XS.isFa {t : TypeId} {x : Operand} {f : Nat} (_ : nthO l i = some o) (_ : o.op = .fieldAddr t x f) (h : XS P n l Q ms (.q i s) pend ρ ds A) : XS P n l Q ms (.q i s) pend ρ ds A := h
theorem XS.isIa {t : TypeId} {x y : Operand} (_ : nthO l i = some o) (_ : o.op = .indexAddr t x y) (h : XS P n l Q ms (.q i s) pend ρ ds A) : XS P n l Q ms (.q i s) pend ρ ds A := h
theorem XS.isCall {cl : Call} (_ : nthO l i = some o) (_ : o.op = .call cl) (h : XS P n l Q ms (.q i s) pend ρ ds A) : XS P n l Q ms (.q i s) pend ρ ds A := h
def allN : List Oper → Bool
  | [] => true
  | o :: l => noEnter o && allN l
/-- A region that draws, of which all only read, and enter nothing. -/
theorem XC.readsN {id : Nat} (_ : allN l = true) (hm : P.follows .mixedOrders = true) (hB : Region.lexB .any l.toArray = true) (hA : ∀ w m, A w → A { w with drawn := m })
    (h : XL P n l.toArray Q l.length l ρ ds A) : XC P n (.region id l.toArray true) Q ρ ds A := XC.reads hm hB hA h
/-- A struct of two whole numbers. -/
def twoInts (P : Program) (t : TypeId) : Bool := match P.underlying t, P.stoodInHeld t || P.eqGuardType P.depth t with
  | some (.struct fs), false => match fs.toList with
    | [f1, f2] => !decide (f1.name = "_") && !decide (f2.name = "_") && (match aggB P f1.type with | some false => true | _ => false) && (match aggB P f2.type with | some false => true | _ => false) &&
        (match P.underlying f1.type with | some (.int _) => true | _ => false) && (match P.underlying f2.type with | some (.int _) => true | _ => false) && Nat.beq f1.offset 0 && Nat.beq f2.offset 1
    | _ => false
  | _, _ => false
theorem twoInts_spec {P : Program} {t : TypeId} (h : twoInts P t = true) {k1 k2 : IntKind} {a b a' b' : Int} :
    E.aggEqE P .neq t [.int k1 a, .int k2 b] [.int k1 a', .int k2 b'] = some (.bool (!(match E.eqI a a' with | true => E.eqI b b' | false => false))) := by
  unfold twoInts at h
  split at h
  · rename_i fs hu hg
    split at h
    · rename_i f1 f2 hf
      simp only [Bool.and_eq_true, Bool.not_eq_true'] at h
      obtain ⟨⟨⟨⟨⟨⟨⟨h1, h2⟩, h3⟩, h4⟩, h5⟩, h6⟩, h7⟩, h8⟩ := h
      have h7 := Nat.eq_of_beq_eq_true h7
      have h8 := Nat.eq_of_beq_eq_true h8
      split at h3
      · rename_i h3'
        split at h4
        · rename_i h4'
          split at h5
          · rename_i i1 h5'
            split at h6
            · rename_i i2 h6'
              unfold E.aggEqE
              simp only [hu, hg, hf, E.eqFieldsE, h1, h2, h3', h4', h7, h8, E.nthG, E.eqCell, h5', h6', decide_true]
              cases E.eqI a a' <;> cases E.eqI b b' <;> rfl
            · cases h6
          · cases h5
        · cases h4
      · cases h3
    · cases h
  · cases h
theorem XL.ne2' {d : Nat} {t t' : TypeId} {x y : Operand} {k1 k2 : IntKind} {a b a' b' : Int} (hop : o.op = .binOp .neq t x y t') (hd : o.dst = some d) (hn : Nat.blt d n = true) (hw : wantB ops ρ o = some true)
    (hx : evE ρ x = some (.agg #[.int k1 a, .int k2 b])) (hy : evE ρ y = some (.agg #[.int k1 a', .int k2 b'])) (ht : twoInts P t = true)
    (k : XL P n ops Q (q - 1) rest ((d, .bool (decide (¬ (a = a' ∧ b = b')))) :: ρ) ds A) : XL P n ops Q q (o :: rest) ρ ds A := XL.ne2 hop hd hn hw hx hy (twoInts_spec ht) k
end
end Go.Proofs.YtafochlcnjeanaaGreat.X
