/- What kind of thing comes next: for choosing rules. For whatever program. -/
import Derived.Test.YtjnineeeffecaaaX13
namespace Go.Proofs.Ytjnineeeffecaaa.X
open Go Go.RowKit
section
variable {P : Program} {n : Nat} {Q : Post} {ρ : Env} {ds : List Deferred} {A : World → Prop} {ops : Array Oper} {rest : List Oper} {o : Oper} {q : Nat} {l : List Oper} {c : Code} {e : Exit} {ms : List Nat} {pend : Pend} {s : Plan} {i : Nat}
theorem XC.is (h : XC P n c Q ρ ds A) : XC P n c Q ρ ds A := h
theorem XL.is (h : XL P n ops Q q l ρ ds A) : XL P n ops Q q l ρ ds A := h
theorem XQ.is (h : XQ Q e ρ ds A) : XQ Q e ρ ds A := h
theorem XS.is (h : XS P n l Q ms s pend ρ ds A) : XS P n l Q ms s pend ρ ds A := h
theorem XS.isQ (h : XS P n l Q ms (.q i s) pend ρ ds A) : XS P n l Q ms (.q i s) pend ρ ds A := h
theorem XS.isA (h : XS P n l Q ms (.a i s) pend ρ ds A) : XS P n l Q ms (.a i s) pend ρ ds A := h
theorem XS.isB {j : Nat} {t : Plan} (h : XS P n l Q ms (.b i j s t) pend ρ ds A) : XS P n l Q ms (.b i j s t) pend ρ ds A := h
theorem XS.isC {j k : Nat} {t u : Plan} (h : XS P n l Q ms (.c i j k s t u) pend ρ ds A) : XS P n l Q ms (.c i j k s t u) pend ρ ds A := h
theorem XQ.isAn (h : XQ (AnS P n l Q ms s pend) e ρ ds A) : XQ (AnS P n l Q ms s pend) e ρ ds A := h
theorem XQ.isBE {i j : Nat} (h : XQ (inBlockX i Q) (.exit j) ρ ds A) : XQ (inBlockX i Q) (.exit j) ρ ds A := h
theorem XC.isCond {x : Operand} {c c' : Code} (h : XC P n (.cond x c c') Q ρ ds A) : XC P n (.cond x c c') Q ρ ds A := h
theorem XC.isDraw {i : Nat} (h : XC P n (.region i l.toArray true) Q ρ ds A) : XC P n (.region i l.toArray true) Q ρ ds A := h
theorem XL.isLd {t : TypeId} {x : Operand} (_ : o.op = .load t x) (h : XL P n ops Q q (o :: rest) ρ ds A) : XL P n ops Q q (o :: rest) ρ ds A := h
theorem XL.isFa {t : TypeId} {x : Operand} {f : Nat} (_ : o.op = .fieldAddr t x f) (h : XL P n ops Q q (o :: rest) ρ ds A) : XL P n ops Q q (o :: rest) ρ ds A := h
theorem XL.isIa {t : TypeId} {x y : Operand} (_ : o.op = .indexAddr t x y) (h : XL P n ops Q q (o :: rest) ρ ds A) : XL P n ops Q q (o :: rest) ρ ds A := h
theorem XL.isSt {t : TypeId} {x y : Operand} (_ : o.op = .store t x y) (h : XL P n ops Q q (o :: rest) ρ ds A) : XL P n ops Q q (o :: rest) ρ ds A := h
theorem XL.isCall {cl : Call} (_ : o.op = .call cl) (h : XL P n ops Q q (o :: rest) ρ ds A) : XL P n ops Q q (o :: rest) ρ ds A := h
theorem XL.isBin {b : BinOp} {t t' : TypeId} {x y : Operand} (_ : o.op = .binOp b t x y t') (h : XL P n ops Q q (o :: rest) ρ ds A) : XL P n ops Q q (o :: rest) ρ ds A := h
theorem XS.isLd {t : TypeId} {x : Operand} (_ : nthO l i = some o) (_ : o.op = .load t x) (h : XS P n l Q ms (.q i s) pend ρ ds A) : XS P n l Q ms (.q i s) pend ρ ds A := h
theorem XS.isFa {t : TypeId} {x : Operand} {f : Nat} (_ : nthO l i = some o) (_ : o.op = .fieldAddr t x f) (h : XS P n l Q ms (.q i s) pend ρ ds A) : XS P n l Q ms (.q i s) pend ρ ds A := h
theorem XS.isIa {t : TypeId} {x y : Operand} (_ : nthO l i = some o) (_ : o.op = .indexAddr t x y) (h : XS P n l Q ms (.q i s) pend ρ ds A) : XS P n l Q ms (.q i s) pend ρ ds A := h
theorem XS.isCall {cl : Call} (_ : nthO l i = some o) (_ : o.op = .call cl) (h : XS P n l Q ms (.q i s) pend ρ ds A) : XS P n l Q ms (.q i s) pend ρ ds A := h
def allN : List Oper → Bool
  | [] => true
  | o :: l => noEnter o && allN l
/-- A region that draws, of which all only read, and enter nothing. -/
theorem XC.readsN {id : Nat} (_ : allN l = true) (hm : P.follows .mixedOrders = true) (hB : Region.lexB .any l.toArray = true) (hA : ∀ w m, A w → A { w with drawn := m })
    (h : XL P n l.toArray Q l.length l ρ ds A) : XC P n (.region id l.toArray true) Q ρ ds A := XC.reads hm hB hA h
end
end Go.Proofs.Ytjnineeeffecaaa.X
