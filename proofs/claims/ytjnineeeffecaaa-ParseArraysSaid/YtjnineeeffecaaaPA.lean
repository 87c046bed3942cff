/- The rules of a walk, with what they ask found of itself. (Written by genrules.py.) -/
import Derived.Test.YtjnineeeffecaaaP1
import Derived.Test.YtjnineeeffecaaaX50
namespace Go.Proofs.Ytjnineeeffecaaa.X
open Go Go.RowKit
section
variable {P : Program} {n : Nat} {Q : Post} {ρ : Env} {ds : List Deferred} {A p : World → Prop} {ops : Array Oper} {rest : List Oper} {o : Oper} {d q : Nat} {c : Cx} {L L' : List SP} {Φ : List FP} {l : List Oper} {ms : List Nat} {pend : Pend} {s t u : Plan} {i : Nat} {e : Exit} {a b : Bool}
/- XL.nil -/
theorem W1 (h : XQ Q .normal ρ ds A) : XL P n ops Q q [] ρ ds A := XL.nil h
/- XL.guard_d -/
theorem W2 {g : Nat} {p : Prop} [Decidable p] {l : List Oper} (ht : p → XL P n ops Q q (o :: l) ((g, .bool true) :: ρ) ds A) (hf : ¬ p → XL P n ops Q q (o :: l) ((g, .bool false) :: ρ) ds A) (_hg : guardSlot ops o = some g := by rfl) (h : find ρ g = some (.bool (decide p)) := by rfl) : XL P n ops Q q (o :: l) ρ ds A := XL.guard_d _hg h ht hf
/- XL.pures -/
theorem W3 {q' : Nat} {l l' : List Oper} {ρ' : Env} {v : Value} (k : XL P n ops Q q' l' ρ' ds A) (hg : o.guard = none := by rfl) (hd : o.dst = some d := by rfl) (hn : Nat.blt d n = true := by rfl) (hv : pureOpM ρ o.op = some v := by rfl) (h : pureMax n ops (q - 1) l ((d, v) :: ρ) = (q', l', ρ') := by rfl) : XL P n ops Q q (o :: l) ρ ds A := XL.pures hg hd hn hv h k
/- XL.isLd -/
theorem W4 {t : TypeId} {x : Operand} (h : XL P n ops Q q (o :: rest) ρ ds A) (g1 : o.op = .load t x := by rfl) : XL P n ops Q q (o :: rest) ρ ds A := XL.isLd g1 h
/- XL.ld -/
theorem W5 {c : Cx} {L L' : List SP} {Φ : List FP} {t b i T : Nat} {cs : Array Value} {x : Operand} {v : Value} (k : XL P n ops Q (q - 1) rest ((d, v) :: ρ) ds (St c L Φ)) (hop : o.op = .load t x := by rfl) (hd : o.dst = some d := by rfl) (hn : Nat.blt d n = true := by rfl) (hw : wantB ops ρ o = some true := by rfl) (hx : evE ρ x = some (.pointer (some ⟨b, i, none⟩)) := by rfl) (ht : aggB P t = some false := by rfl) (s : Sel L (cel b cs T) L' := by repeat (first | exact Sel.here | apply Sel.there)) (hv : nth cs.toList i = some v := by rfl) : XL P n ops Q q (o :: rest) ρ ds (St c L Φ) := XL.ld hop hd hn hw hx ht s hv k
/- XL.ldr -/
theorem W6 {c : Cx} {L L' : List SP} {Φ : List FP} {t b i T : Nat} {cs : Array Value} {x : Operand} {v : Value} (k : XL P n ops Q (q - 1) rest ((d, v) :: ρ) ds (St c L Φ)) (hop : o.op = .load t x := by rfl) (hd : o.dst = some d := by rfl) (hn : Nat.blt d n = true := by rfl) (hw : wantB ops ρ o = some true := by rfl) (hx : evE ρ x = some (.pointer (some ⟨b, i, none⟩)) := by rfl) (ht : aggB P t = some false := by rfl) (s : Sel L (cel b cs T) L' := by repeat (first | exact Sel.here | apply Sel.there)) (hv : cs[i]? = some v := by assumption) : XL P n ops Q q (o :: rest) ρ ds (St c L Φ) := XL.ldr hop hd hn hw hx ht s hv k
/- XL.ldR -/
theorem W7 {t size m j : Nat} {x : Operand} {v u : Value} {xs : List Value} (k : XL P n ops Q (q - 1) rest ((d, u) :: ρ) ds A) (hop : o.op = .load t x := by rfl) (hd : o.dst = some d := by rfl) (hn : Nat.blt d n = true := by rfl) (hw : wantB ops ρ o = some true := by rfl) (hx : evE ρ x = some (cellP v j) := by rfl) (ht : aggB P t = some false := by rfl) (hr : ∀ w, A w → Row size v m xs w := by first | exact fun w h => St.row (by repeat (first | exact Sel.here | apply Sel.there)) h | exact fun w h => St.rowF (by repeat (first | exact List.Mem.head _ | apply List.Mem.tail)) h | exact fun w h => Hd.rowF (by repeat (first | exact List.Mem.head _ | apply List.Mem.tail)) h) (hv : xs[j]? = some u := by assumption) : XL P n ops Q q (o :: rest) ρ ds A := XL.ldR hop hd hn hw hx ht hr hv k
/- XL.ldsR -/
theorem W8 {t size m j sz : Nat} {x : Operand} {v : Value} {xs vs : List Value} (k : XL P n ops Q (q - 1) rest ((d, .agg vs.toArray) :: ρ) ds A) (hop : o.op = .load t x := by rfl) (hd : o.dst = some d := by rfl) (hn : Nat.blt d n = true := by rfl) (hw : wantB ops ρ o = some true := by rfl) (hx : evE ρ x = some (cellP v j) := by rfl) (ht : aggB P t = some true := by rfl) (hs : sizeB P t = some sz := by rfl) (hr : ∀ w, A w → Row size v m xs w := by first | exact fun w h => St.row (by repeat (first | exact Sel.here | apply Sel.there)) h | exact fun w h => St.rowF (by repeat (first | exact List.Mem.head _ | apply List.Mem.tail)) h | exact fun w h => Hd.rowF (by repeat (first | exact List.Mem.head _ | apply List.Mem.tail)) h) (hv : At xs j vs := by assumption) (hl : vs.length = sz := by rfl) (hpos : 0 < sz := by decide) : XL P n ops Q q (o :: rest) ρ ds A := XL.ldsR hop hd hn hw hx ht hs hr hv hl hpos k
/- XL.ldA -/
theorem W9 {t size m j off : Nat} {x : Operand} {v u : Value} {xs vs : List Value} (k : XL P n ops Q (q - 1) rest ((d, u) :: ρ) ds A) (hop : o.op = .load t x := by rfl) (hd : o.dst = some d := by rfl) (hn : Nat.blt d n = true := by rfl) (hw : wantB ops ρ o = some true := by rfl) (hx : evE ρ x = some (cellP v (j + off)) := by rfl) (ht : aggB P t = some false := by rfl) (hr : ∀ w, A w → Row size v m xs w := by first | exact fun w h => St.row (by repeat (first | exact Sel.here | apply Sel.there)) h | exact fun w h => St.rowF (by repeat (first | exact List.Mem.head _ | apply List.Mem.tail)) h | exact fun w h => Hd.rowF (by repeat (first | exact List.Mem.head _ | apply List.Mem.tail)) h) (hv : At xs j vs := by assumption) (hu : nth vs off = some u := by rfl) : XL P n ops Q q (o :: rest) ρ ds A := XL.ldA hop hd hn hw hx ht hr hv hu k
/- XL.lds -/
theorem W10 {c : Cx} {L L' : List SP} {Φ : List FP} {t b i sz T : Nat} {cs : Array Value} {x : Operand} {vs : List Value} (k : XL P n ops Q (q - 1) rest ((d, .agg vs.toArray) :: ρ) ds (St c L Φ)) (hop : o.op = .load t x := by rfl) (hd : o.dst = some d := by rfl) (hn : Nat.blt d n = true := by rfl) (hw : wantB ops ρ o = some true := by rfl) (hx : evE ρ x = some (.pointer (some ⟨b, i, none⟩)) := by rfl) (ht : aggB P t = some true := by rfl) (hs : sizeB P t = some sz := by rfl) (s : Sel L (cel b cs T) L' := by repeat (first | exact Sel.here | apply Sel.there)) (hv : sub cs.toList i sz = some vs := by rfl) : XL P n ops Q q (o :: rest) ρ ds (St c L Φ) := XL.lds hop hd hn hw hx ht hs s hv k
/- XL.off -/
theorem W11 {d1 : Nat} (k : XL P n ops Q (q - 1) rest (putE ρ (some d1) undef) ds A) (hd : o.dst = (some d1) := by rfl) (hs : fitsB n (some d1) = true := by rfl) (hw : wantB ops ρ o = some false := by rfl) : XL P n ops Q q (o :: rest) ρ ds A := XL.off hd hs hw k (d := some d1)
/- XL.isFa -/
theorem W12 {t : TypeId} {x : Operand} {f : Nat} (h : XL P n ops Q q (o :: rest) ρ ds A) (g1 : o.op = .fieldAddr t x f := by rfl) : XL P n ops Q q (o :: rest) ρ ds A := XL.isFa g1 h
/- XL.fa0 -/
theorem W13 {s f off b : Nat} {x : Operand} (k : XL P n ops Q (q - 1) rest ((d, .pointer (some ⟨b, off, none⟩)) :: ρ) ds A) (hop : o.op = .fieldAddr s x f := by rfl) (hd : o.dst = some d := by rfl) (hn : Nat.blt d n = true := by rfl) (hw : wantB ops ρ o = some true := by rfl) (hx : evE ρ x = some (.pointer (some ⟨b, 0, none⟩)) := by rfl) (hf : fieldOff P s f = some off := by rfl) : XL P n ops Q q (o :: rest) ρ ds A := XL.fa0 hop hd hn hw hx hf k
/- XL.fa -/
theorem W14 {s f off b i : Nat} {x : Operand} (k : XL P n ops Q (q - 1) rest ((d, .pointer (some ⟨b, i + off, none⟩)) :: ρ) ds A) (hop : o.op = .fieldAddr s x f := by rfl) (hd : o.dst = some d := by rfl) (hn : Nat.blt d n = true := by rfl) (hw : wantB ops ρ o = some true := by rfl) (hx : evE ρ x = some (.pointer (some ⟨b, i, none⟩)) := by rfl) (hf : fieldOff P s f = some off := by rfl) : XL P n ops Q q (o :: rest) ρ ds A := XL.fa hop hd hn hw hx hf k
/- XL.faR -/
theorem W15 {s f off size m j : Nat} {x : Operand} {v u : Value} {xs : List Value} (k : XL P n ops Q (q - 1) rest ((d, cellP v (j + off)) :: ρ) ds A) (hop : o.op = .fieldAddr s x f := by rfl) (hd : o.dst = some d := by rfl) (hn : Nat.blt d n = true := by rfl) (hw : wantB ops ρ o = some true := by rfl) (hx : evE ρ x = some (cellP v j) := by rfl) (hf : fieldOff P s f = some off := by rfl) (hr : ∀ w, A w → Row size v m xs w := by first | exact fun w h => St.row (by repeat (first | exact Sel.here | apply Sel.there)) h | exact fun w h => St.rowF (by repeat (first | exact List.Mem.head _ | apply List.Mem.tail)) h | exact fun w h => Hd.rowF (by repeat (first | exact List.Mem.head _ | apply List.Mem.tail)) h) (hv : xs[j]? = some u := by assumption) : XL P n ops Q q (o :: rest) ρ ds A := XL.faR hop hd hn hw hx hf hr hv k
/- XL.faA -/
theorem W16 {s f off size m j : Nat} {x : Operand} {v u : Value} {xs vs : List Value} (k : XL P n ops Q (q - 1) rest ((d, cellP v (j + off)) :: ρ) ds A) (hop : o.op = .fieldAddr s x f := by rfl) (hd : o.dst = some d := by rfl) (hn : Nat.blt d n = true := by rfl) (hw : wantB ops ρ o = some true := by rfl) (hx : evE ρ x = some (cellP v j) := by rfl) (hf : fieldOff P s f = some off := by rfl) (hr : ∀ w, A w → Row size v m xs w := by first | exact fun w h => St.row (by repeat (first | exact Sel.here | apply Sel.there)) h | exact fun w h => St.rowF (by repeat (first | exact List.Mem.head _ | apply List.Mem.tail)) h | exact fun w h => Hd.rowF (by repeat (first | exact List.Mem.head _ | apply List.Mem.tail)) h) (hv : At xs j (u :: vs) := by assumption) : XL P n ops Q q (o :: rest) ρ ds A := XL.faA hop hd hn hw hx hf hr hv k
/- XL.isIa -/
theorem W17 {t : TypeId} {x y : Operand} (h : XL P n ops Q q (o :: rest) ρ ds A) (g1 : o.op = .indexAddr t x y := by rfl) : XL P n ops Q q (o :: rest) ρ ds A := XL.isIa g1 h
/- XL.ia1 -/
theorem W18 {t b len cap m : Nat} {kd : IntKind} {x y : Operand} (k : XL P n ops Q (q - 1) rest ((d, .pointer (some ⟨b, m, none⟩)) :: ρ) ds A) (hop : o.op = .indexAddr t x y := by rfl) (hd : o.dst = some d := by rfl) (hn : Nat.blt d n = true := by rfl) (hw : wantB ops ρ o = some true := by rfl) (hx : evE ρ x = some (.slice (some ⟨b, 0, none⟩) len cap) := by rfl) (hy : evE ρ y = some (.int kd (m : Int)) := by rfl) (he : elemSize P t = some (0 + 1) := by rfl) (h : m < len := by omega) : XL P n ops Q q (o :: rest) ρ ds A := XL.ia1 hop hd hn hw hx hy he h k
/- XL.iaR1 -/
theorem W19 {t m j : Nat} {kd : IntKind} {x y : Operand} {v : Value} {xs : List Value} (k : XL P n ops Q (q - 1) rest ((d, cellP v j) :: ρ) ds A) (hop : o.op = .indexAddr t x y := by rfl) (hd : o.dst = some d := by rfl) (hn : Nat.blt d n = true := by rfl) (hw : wantB ops ρ o = some true := by rfl) (hx : evE ρ x = some v := by rfl) (hy : evE ρ y = some (.int kd (j : Int)) := by rfl) (he : elemSize P t = some (0 + 1) := by rfl) (hr : ∀ w, A w → Row 1 v m xs w := by first | exact fun w h => St.row (by repeat (first | exact Sel.here | apply Sel.there)) h | exact fun w h => St.rowF (by repeat (first | exact List.Mem.head _ | apply List.Mem.tail)) h | exact fun w h => Hd.rowF (by repeat (first | exact List.Mem.head _ | apply List.Mem.tail)) h) (h : j < m := by omega) : XL P n ops Q q (o :: rest) ρ ds A := XL.iaR1 hop hd hn hw hx hy he hr h k
/- XL.iaR2 -/
theorem W20 {t size m j : Nat} {kd : IntKind} {x y : Operand} {v : Value} {xs : List Value} (k : XL P n ops Q (q - 1) rest ((d, cellP v (j * size)) :: ρ) ds A) (hop : o.op = .indexAddr t x y := by rfl) (hd : o.dst = some d := by rfl) (hn : Nat.blt d n = true := by rfl) (hw : wantB ops ρ o = some true := by rfl) (hx : evE ρ x = some v := by rfl) (hy : evE ρ y = some (.int kd (j : Int)) := by rfl) (hr : ∀ w, A w → Row size v m xs w := by first | exact fun w h => St.row (by repeat (first | exact Sel.here | apply Sel.there)) h | exact fun w h => St.rowF (by repeat (first | exact List.Mem.head _ | apply List.Mem.tail)) h | exact fun w h => Hd.rowF (by repeat (first | exact List.Mem.head _ | apply List.Mem.tail)) h) (he : elemSize P t = some size := by rfl) (h : j < m := by omega) : XL P n ops Q q (o :: rest) ρ ds A := XL.iaR2 hop hd hn hw hx hy hr he h k
/- XL.iaI1 -/
theorem W21 {t m : Nat} {i : Int} {kd : IntKind} {x y : Operand} {v : Value} {xs : List Value} (k : XL P n ops Q (q - 1) rest ((d, cellP v i.toNat) :: ρ) ds A) (hop : o.op = .indexAddr t x y := by rfl) (hd : o.dst = some d := by rfl) (hn : Nat.blt d n = true := by rfl) (hw : wantB ops ρ o = some true := by rfl) (hx : evE ρ x = some v := by rfl) (hy : evE ρ y = some (.int kd i) := by rfl) (he : elemSize P t = some (0 + 1) := by rfl) (hr : ∀ w, A w → Row 1 v m xs w := by first | exact fun w h => St.row (by repeat (first | exact Sel.here | apply Sel.there)) h | exact fun w h => St.rowF (by repeat (first | exact List.Mem.head _ | apply List.Mem.tail)) h | exact fun w h => Hd.rowF (by repeat (first | exact List.Mem.head _ | apply List.Mem.tail)) h) (h0 : 0 ≤ i := by omega) (h : i < m := by omega) : XL P n ops Q q (o :: rest) ρ ds A := XL.iaI1 hop hd hn hw hx hy he hr h0 h k
/- XL.iaI -/
theorem W22 {t size m : Nat} {i : Int} {kd : IntKind} {x y : Operand} {v : Value} {xs : List Value} (k : XL P n ops Q (q - 1) rest ((d, cellP v (i.toNat * size)) :: ρ) ds A) (hop : o.op = .indexAddr t x y := by rfl) (hd : o.dst = some d := by rfl) (hn : Nat.blt d n = true := by rfl) (hw : wantB ops ρ o = some true := by rfl) (hx : evE ρ x = some v := by rfl) (hy : evE ρ y = some (.int kd i) := by rfl) (he : elemSize P t = some size := by rfl) (hr : ∀ w, A w → Row size v m xs w := by first | exact fun w h => St.row (by repeat (first | exact Sel.here | apply Sel.there)) h | exact fun w h => St.rowF (by repeat (first | exact List.Mem.head _ | apply List.Mem.tail)) h | exact fun w h => Hd.rowF (by repeat (first | exact List.Mem.head _ | apply List.Mem.tail)) h) (h0 : 0 ≤ i := by omega) (h : i < m := by omega) : XL P n ops Q q (o :: rest) ρ ds A := XL.iaI hop hd hn hw hx hy he hr h0 h k
/- XL.isSt -/
theorem W23 {t : TypeId} {x y : Operand} (h : XL P n ops Q q (o :: rest) ρ ds A) (g1 : o.op = .store t x y := by rfl) : XL P n ops Q q (o :: rest) ρ ds A := XL.isSt g1 h
/- XL.stl -/
theorem W24 {c : Cx} {L L' : List SP} {Φ : List FP} {t b i T : Nat} {cs : Array Value} {x y : Operand} {v : Value} {l' : List Value} (k : XL P n ops Q 0 rest ρ ds (St c (cel b l'.toArray T :: L') Φ)) (hop : o.op = .store t x y := by rfl) (hd : o.dst = none := by rfl) (hw : wantB ops ρ o = some true := by rfl) (hx : evE ρ x = some (.pointer (some ⟨b, i, none⟩)) := by rfl) (hy : evE ρ y = some v := by rfl) (hv : v.oneCell' = true := by rfl) (hs : sizeB P t = some 1 := by rfl) (s : Sel L (cel b cs T) L' := by repeat (first | exact Sel.here | apply Sel.there)) (hl : setL cs.toList i v = some l' := by rfl) : XL P n ops Q 0 (o :: rest) ρ ds (St c L Φ) := XL.stl hop hd hw hx hy hv hs s hl k
/- XL.sts -/
theorem W25 {t b i sz T : Nat} {cs : Array Value} {x y : Operand} {vs l' : List Value} (k : XL P n ops Q 0 rest ρ ds (St c (cel b l'.toArray T :: L') Φ)) (hop : o.op = .store t x y := by rfl) (hd : o.dst = none := by rfl) (hw : wantB ops ρ o = some true := by rfl) (hx : evE ρ x = some (.pointer (some ⟨b, i, none⟩)) := by rfl) (hy : evE ρ y = some (.agg vs.toArray) := by rfl) (hs : sizeB P t = some sz := by rfl) (hl : vs.length = sz := by rfl) (h1 : onesL vs = true := by first | rfl | assumption) (s : Sel L (cel b cs T) L' := by repeat (first | exact Sel.here | apply Sel.there)) (hlay : layL cs.toList i vs = some l' := by rfl) : XL P n ops Q 0 (o :: rest) ρ ds (St c L Φ) := XL.sts hop hd hw hx hy hs hl h1 s hlay k
/- XL.isCall -/
theorem W26 {cl : Call} (h : XL P n ops Q q (o :: rest) ρ ds A) (g1 : o.op = .call cl := by rfl) : XL P n ops Q q (o :: rest) ρ ds A := XL.isCall g1 h
/- XL.lenR -/
theorem W27 {cl : Call} {size m : Nat} {v : Value} {xs : List Value} (k : XL P n ops Q (q - 1) rest ((d, .int .i64 (m : Int)) :: ρ) ds A) (hop : o.op = .call cl := by rfl) (hd : o.dst = some d := by rfl) (hn : Nat.blt d n = true := by rfl) (hw : wantB ops ρ o = some true := by rfl) (hb : cl.callee = .builtin .len := by rfl) (ha : evs ρ cl.args.toList = some [v] := by rfl) (ht : lenKind P cl.argTypes = 1 := by rfl) (hr : ∀ w, A w → Row size v m xs w := by first | exact fun w h => St.row (by repeat (first | exact Sel.here | apply Sel.there)) h | exact fun w h => St.rowF (by repeat (first | exact List.Mem.head _ | apply List.Mem.tail)) h | exact fun w h => Hd.rowF (by repeat (first | exact List.Mem.head _ | apply List.Mem.tail)) h) : XL P n ops Q q (o :: rest) ρ ds A := XL.lenR hop hd hn hw hb ha ht hr k
/- XL.lenS -/
theorem W28 {cl : Call} {p : Option Addr} {m c : Nat} (k : XL P n ops Q (q - 1) rest ((d, .int .i64 (m : Int)) :: ρ) ds A) (hop : o.op = .call cl := by rfl) (hd : o.dst = some d := by rfl) (hn : Nat.blt d n = true := by rfl) (hw : wantB ops ρ o = some true := by rfl) (hb : cl.callee = .builtin .len := by rfl) (ha : evs ρ cl.args.toList = some [.slice p m c] := by rfl) (ht : lenKind P cl.argTypes = 1 := by rfl) : XL P n ops Q q (o :: rest) ρ ds A := XL.lenS hop hd hn hw hb ha ht k
/- XL.lenTx -/
theorem W29 {cl : Call} {l : List UInt8} (k : XL P n ops Q (q - 1) rest ((d, .int .i64 (l.length : Int)) :: ρ) ds A) (hop : o.op = .call cl := by rfl) (hd : o.dst = some d := by rfl) (hn : Nat.blt d n = true := by rfl) (hw : wantB ops ρ o = some true := by rfl) (hb : cl.callee = .builtin .len := by rfl) (ha : evs ρ cl.args.toList = some [.string ⟨l.toArray⟩] := by rfl) (ht : lenKind P cl.argTypes = 2 := by rfl) : XL P n ops Q q (o :: rest) ρ ds A := XL.lenTx hop hd hn hw hb ha ht k
/- XL.lenStr -/
theorem W30 {cl : Call} {s : ByteArray} (k : XL P n ops Q (q - 1) rest ((d, .int .i64 (s.size : Int)) :: ρ) ds A) (hop : o.op = .call cl := by rfl) (hd : o.dst = some d := by rfl) (hn : Nat.blt d n = true := by rfl) (hw : wantB ops ρ o = some true := by rfl) (hb : cl.callee = .builtin .len := by rfl) (ha : evs ρ cl.args.toList = some [.string s] := by rfl) (ht : lenKind P cl.argTypes = 2 := by rfl) : XL P n ops Q q (o :: rest) ρ ds A := XL.lenStr hop hd hn hw hb ha ht k
/- XL.min2 -/
theorem W31 {cl : Call} {kd : IntKind} {a b : Int} (k : XL P n ops Q (q - 1) rest ((d, .int kd (min a b)) :: ρ) ds A) (hop : o.op = .call cl := by rfl) (hd : o.dst = some d := by rfl) (hn : Nat.blt d n = true := by rfl) (hw : wantB ops ρ o = some true := by rfl) (hb : cl.callee = .builtin .min := by rfl) (ha : evs ρ cl.args.toList = some [.int kd a, .int kd b] := by rfl) : XL P n ops Q q (o :: rest) ρ ds A := XL.min2 hop hd hn hw hb ha k
/- XL.max2 -/
theorem W32 {cl : Call} {kd : IntKind} {a b : Int} (k : XL P n ops Q (q - 1) rest ((d, .int kd (max a b)) :: ρ) ds A) (hop : o.op = .call cl := by rfl) (hd : o.dst = some d := by rfl) (hn : Nat.blt d n = true := by rfl) (hw : wantB ops ρ o = some true := by rfl) (hb : cl.callee = .builtin .max := by rfl) (ha : evs ρ cl.args.toList = some [.int kd a, .int kd b] := by rfl) : XL P n ops Q q (o :: rest) ρ ds A := XL.max2 hop hd hn hw hb ha k
/- XL.not_d -/
theorem W33 {t : TypeId} {x : Operand} {p : Prop} [Decidable p] {rest : List Oper} (k : XL P n ops Q (q - 1) rest ((d, .bool (decide (¬ p))) :: ρ) ds A) (hop : o.op = .unOp .not t x := by rfl) (hd : o.dst = some d := by rfl) (hn : Nat.blt d n = true := by rfl) (hw : wantB ops ρ o = some true := by rfl) (hx : evE ρ x = some (.bool (decide p)) := by rfl) : XL P n ops Q q (o :: rest) ρ ds A := XL.not_d hop hd hn hw hx k
/- XL.isBin -/
theorem W34 {b : BinOp} {t t' : TypeId} {x y : Operand} (h : XL P n ops Q q (o :: rest) ρ ds A) (g1 : o.op = .binOp b t x y t' := by rfl) : XL P n ops Q q (o :: rest) ρ ds A := XL.isBin g1 h
/- XL.succ -/
theorem W35 {t t' : TypeId} {x y : Operand} {a : Nat} (k : XL P n ops Q (q - 1) rest ((d, .int .i64 ((a + 1 : Nat) : Int)) :: ρ) ds A) (hop : o.op = .binOp .add t x y t' := by rfl) (hd : o.dst = some d := by rfl) (hn : Nat.blt d n = true := by rfl) (hw : wantB ops ρ o = some true := by rfl) (hx : evE ρ x = some (.int .i64 (a : Int)) := by rfl) (hy : evE ρ y = some (.int .i64 1) := by rfl) (h : a < 9223372036854775807 := by omega) : XL P n ops Q q (o :: rest) ρ ds A := XL.succ hop hd hn hw hx hy h k
/- XL.addn -/
theorem W36 {t t' : TypeId} {x y : Operand} {a b : Nat} (k : XL P n ops Q (q - 1) rest ((d, .int .i64 ((a + b : Nat) : Int)) :: ρ) ds A) (hop : o.op = .binOp .add t x y t' := by rfl) (hd : o.dst = some d := by rfl) (hn : Nat.blt d n = true := by rfl) (hw : wantB ops ρ o = some true := by rfl) (hx : evE ρ x = some (.int .i64 (a : Int)) := by rfl) (hy : evE ρ y = some (.int .i64 (b : Int)) := by rfl) (h : a + b ≤ 9223372036854775807 := by omega) : XL P n ops Q q (o :: rest) ρ ds A := XL.addn hop hd hn hw hx hy h k
/- XL.add -/
theorem W37 {t t' : TypeId} {x y : Operand} {a b : Int} (k : XL P n ops Q (q - 1) rest ((d, .int .i64 (a + b)) :: ρ) ds A) (hop : o.op = .binOp .add t x y t' := by rfl) (hd : o.dst = some d := by rfl) (hn : Nat.blt d n = true := by rfl) (hw : wantB ops ρ o = some true := by rfl) (hx : evE ρ x = some (.int .i64 a) := by rfl) (hy : evE ρ y = some (.int .i64 b) := by rfl) (h : -9223372036854775808 ≤ a + b ∧ a + b ≤ 9223372036854775807 := by omega) : XL P n ops Q q (o :: rest) ρ ds A := XL.add hop hd hn hw hx hy h k
/- XL.pred -/
theorem W38 {t t' : TypeId} {x y : Operand} {a : Nat} (k : XL P n ops Q (q - 1) rest ((d, .int .i64 ((a - 1 : Nat) : Int)) :: ρ) ds A) (hop : o.op = .binOp .sub t x y t' := by rfl) (hd : o.dst = some d := by rfl) (hn : Nat.blt d n = true := by rfl) (hw : wantB ops ρ o = some true := by rfl) (hx : evE ρ x = some (.int .i64 (a : Int)) := by rfl) (hy : evE ρ y = some (.int .i64 1) := by rfl) (h : 0 < a ∧ a ≤ 9223372036854775807 := by omega) : XL P n ops Q q (o :: rest) ρ ds A := XL.pred hop hd hn hw hx hy h k
/- XL.subn -/
theorem W39 {t t' : TypeId} {x y : Operand} {a b : Nat} (k : XL P n ops Q (q - 1) rest ((d, .int .i64 ((a - b : Nat) : Int)) :: ρ) ds A) (hop : o.op = .binOp .sub t x y t' := by rfl) (hd : o.dst = some d := by rfl) (hn : Nat.blt d n = true := by rfl) (hw : wantB ops ρ o = some true := by rfl) (hx : evE ρ x = some (.int .i64 (a : Int)) := by rfl) (hy : evE ρ y = some (.int .i64 (b : Int)) := by rfl) (h : b ≤ a ∧ a ≤ 9223372036854775807 := by omega) : XL P n ops Q q (o :: rest) ρ ds A := XL.subn hop hd hn hw hx hy h k
/- XL.sub -/
theorem W40 {t t' : TypeId} {x y : Operand} {a b : Int} (k : XL P n ops Q (q - 1) rest ((d, .int .i64 (a - b)) :: ρ) ds A) (hop : o.op = .binOp .sub t x y t' := by rfl) (hd : o.dst = some d := by rfl) (hn : Nat.blt d n = true := by rfl) (hw : wantB ops ρ o = some true := by rfl) (hx : evE ρ x = some (.int .i64 a) := by rfl) (hy : evE ρ y = some (.int .i64 b) := by rfl) (h : -9223372036854775808 ≤ a - b ∧ a - b ≤ 9223372036854775807 := by omega) : XL P n ops Q q (o :: rest) ρ ds A := XL.sub hop hd hn hw hx hy h k
/- XL.eqB -/
theorem W41 {t t' : TypeId} {x y : Operand} {a b : Bool} (k : XL P n ops Q (q - 1) rest ((d, .bool (decide (a = b))) :: ρ) ds A) (hop : o.op = .binOp .eql t x y t' := by rfl) (hd : o.dst = some d := by rfl) (hn : Nat.blt d n = true := by rfl) (hw : wantB ops ρ o = some true := by rfl) (hx : evE ρ x = some (.bool a) := by rfl) (hy : evE ρ y = some (.bool b) := by rfl) (ht : boolB P t = true := by rfl) : XL P n ops Q q (o :: rest) ρ ds A := XL.eqB hop hd hn hw hx hy ht k
/- XL.neB -/
theorem W42 {t t' : TypeId} {x y : Operand} {a b : Bool} (k : XL P n ops Q (q - 1) rest ((d, .bool (decide (¬ a = b))) :: ρ) ds A) (hop : o.op = .binOp .neq t x y t' := by rfl) (hd : o.dst = some d := by rfl) (hn : Nat.blt d n = true := by rfl) (hw : wantB ops ρ o = some true := by rfl) (hx : evE ρ x = some (.bool a) := by rfl) (hy : evE ρ y = some (.bool b) := by rfl) (ht : boolB P t = true := by rfl) : XL P n ops Q q (o :: rest) ρ ds A := XL.neB hop hd hn hw hx hy ht k
/- XL.psome -/
theorem W43 {t t' : TypeId} {x y : Operand} {p : Addr} (k : XL P n ops Q (q - 1) rest ((d, .bool false) :: ρ) ds A) (hop : o.op = .binOp .eql t x y t' := by rfl) (hd : o.dst = some d := by rfl) (hn : Nat.blt d n = true := by rfl) (hw : wantB ops ρ o = some true := by rfl) (hx : evE ρ x = some (.pointer (some p)) := by rfl) (hy : evE ρ y = some (.pointer none) := by rfl) (ht : ptrB P t = true := by rfl) : XL P n ops Q q (o :: rest) ρ ds A := XL.psome hop hd hn hw hx hy ht k
/- XL.pnone -/
theorem W44 {t t' : TypeId} {x y : Operand} (k : XL P n ops Q (q - 1) rest ((d, .bool true) :: ρ) ds A) (hop : o.op = .binOp .eql t x y t' := by rfl) (hd : o.dst = some d := by rfl) (hn : Nat.blt d n = true := by rfl) (hw : wantB ops ρ o = some true := by rfl) (hx : evE ρ x = some (.pointer none) := by rfl) (hy : evE ρ y = some (.pointer none) := by rfl) (ht : ptrB P t = true := by rfl) : XL P n ops Q q (o :: rest) ρ ds A := XL.pnone hop hd hn hw hx hy ht k
/- XL.psome' -/
theorem W45 {t t' : TypeId} {x y : Operand} {p : Addr} (k : XL P n ops Q (q - 1) rest ((d, .bool true) :: ρ) ds A) (hop : o.op = .binOp .neq t x y t' := by rfl) (hd : o.dst = some d := by rfl) (hn : Nat.blt d n = true := by rfl) (hw : wantB ops ρ o = some true := by rfl) (hx : evE ρ x = some (.pointer (some p)) := by rfl) (hy : evE ρ y = some (.pointer none) := by rfl) (ht : ptrB P t = true := by rfl) : XL P n ops Q q (o :: rest) ρ ds A := XL.psome' hop hd hn hw hx hy ht k
/- XL.pnone' -/
theorem W46 {t t' : TypeId} {x y : Operand} (k : XL P n ops Q (q - 1) rest ((d, .bool false) :: ρ) ds A) (hop : o.op = .binOp .neq t x y t' := by rfl) (hd : o.dst = some d := by rfl) (hn : Nat.blt d n = true := by rfl) (hw : wantB ops ρ o = some true := by rfl) (hx : evE ρ x = some (.pointer none) := by rfl) (hy : evE ρ y = some (.pointer none) := by rfl) (ht : ptrB P t = true := by rfl) : XL P n ops Q q (o :: rest) ρ ds A := XL.pnone' hop hd hn hw hx hy ht k
/- XL.conv64 -/
theorem W47 {src dst : TypeId} {x : Operand} {kd ks : IntKind} {a : Int} (k : XL P n ops Q (q - 1) rest ((d, .int .i64 a) :: ρ) ds A) (hop : o.op = .convert src dst x := by rfl) (hd : o.dst = some d := by rfl) (hn : Nat.blt d n = true := by rfl) (hw : wantB ops ρ o = some true := by rfl) (hx : evE ρ x = some (.int kd a) := by rfl) (hs : intB P src = some ks := by rfl) (ht : intB P dst = some .i64 := by rfl) (h : -9223372036854775808 ≤ a ∧ a ≤ 9223372036854775807 := by omega) : XL P n ops Q q (o :: rest) ρ ds A := XL.conv64 hop hd hn hw hx hs ht h k
/- XL.build -/
theorem W48 {t : TypeId} {ps : Array (Nat × Operand)} {parts : List (Nat × Value)} {l : List Value} (k : XL P n ops Q (q - 1) rest ((d, .agg l.toArray) :: ρ) ds A) (hop : o.op = .build t ps := by rfl) (hd : o.dst = some d := by rfl) (hn : Nat.blt d n = true := by rfl) (hw : wantB ops ρ o = some true := by rfl) (hp : partsE ρ ps.toList = some parts := by rfl) (hb : builtL P t parts = some l := by rfl) : XL P n ops Q q (o :: rest) ρ ds A := XL.build hop hd hn hw hp hb k
/- XL.boxA -/
theorem W49 {t : TypeId} {x : Operand} {l : List Value} (k : ∀ b, XL P n ops Q 0 rest ((d, .pointer (some ⟨b, 0, none⟩)) :: ρ) ds (St c (cel b l.toArray t :: L) Φ)) (hop : o.op = .box t x := by rfl) (hd : o.dst = some d := by rfl) (hn : Nat.blt d n = true := by rfl) (hw : wantB ops ρ o = some true := by rfl) (hx : evE ρ x = some (.agg l.toArray) := by rfl) : XL P n ops Q 0 (o :: rest) ρ ds (St c L Φ) := XL.boxA hop hd hn hw hx k
/- XL.box -/
theorem W50 {t : TypeId} {x : Operand} {v : Value} {l : List Value} (k : ∀ b, XL P n ops Q 0 rest ((d, .pointer (some ⟨b, 0, none⟩)) :: ρ) ds (St c (cel b l.toArray t :: L) Φ)) (hop : o.op = .box t x := by rfl) (hd : o.dst = some d := by rfl) (hn : Nat.blt d n = true := by rfl) (hw : wantB ops ρ o = some true := by rfl) (hx : evE ρ x = some v := by rfl) (hl : cellsL v = l := by rfl) : XL P n ops Q 0 (o :: rest) ρ ds (St c L Φ) := XL.box hop hd hn hw hx hl k
/- XL.var -/
theorem W51 {t : TypeId} {l : List Value} (k : ∀ b, XL P n ops Q 0 rest ((d, .pointer (some ⟨b, 0, none⟩)) :: ρ) ds (St c (cel b l.toArray t :: L) Φ)) (hop : o.op = .alloc t := by rfl) (hd : o.dst = some d := by rfl) (hn : Nat.blt d n = true := by rfl) (hw : wantB ops ρ o = some true := by rfl) (hl : zeroB P t = some l := by rfl) : XL P n ops Q 0 (o :: rest) ρ ds (St c L Φ) := XL.var hop hd hn hw hl k
/- XL.lit -/
theorem W52 {t len e : Nat} {ps : Array (Nat × Operand)} {parts : List (Nat × Value)} {l : List Value} (k : ∀ b, XL P n ops Q 0 rest ((d, .slice (some ⟨b, 0, none⟩) len len) :: ρ) ds (St c (cel b l.toArray e :: L) Φ)) (hop : o.op = .buildSlice t len ps := by rfl) (hd : o.dst = some d := by rfl) (hn : Nat.blt d n = true := by rfl) (hw : wantB ops ρ o = some true := by rfl) (hp : partsE ρ ps.toList = some parts := by rfl) (hb : rowL P t len parts = some (e, l) := by rfl) : XL P n ops Q 0 (o :: rest) ρ ds (St c L Φ) := XL.lit hop hd hn hw hp hb k
/- XL.deferF -/
theorem W53 {P : Program} {n : Nat} {Q : Post} {ρ : Env} {ds : List Deferred} {A : World → Prop} {ops : Array Oper} {rest : List Oper} {o : Oper} {cl : Call} {x : Operand} {f : FuncId} {fs cap args : List Value} (k : XL P n ops Q 0 rest ρ ({ target := .fn (.func f) cap.toArray, args := (fs ++ args).toArray } :: ds) A) (hop : o.op = .defer cl := by rfl) (hd : o.dst = none := by rfl) (hw : wantB ops ρ o = some true := by rfl) (hf : cl.callee = .value x := by rfl) (hx : evE ρ x = some (.func (.func f) fs.toArray cap.toArray) := by rfl) (ha : evs ρ cl.args.toList = some args := by rfl) : XL P n ops Q 0 (o :: rest) ρ ds A := XL.deferF hop hd hw hf hx ha k
/- XL.field -/
theorem W54 {s : TypeId} {f : Nat} {x : Operand} {vs : List Value} {v : Value} (k : XL P n ops Q (q - 1) rest ((d, v) :: ρ) ds A) (hop : o.op = .field s x f := by rfl) (hd : o.dst = some d := by rfl) (hn : Nat.blt d n = true := by rfl) (hw : wantB ops ρ o = some true := by rfl) (hx : evE ρ x = some (.agg vs.toArray) := by rfl) (hf : fieldV P s f vs = some v := by rfl) : XL P n ops Q q (o :: rest) ρ ds A := XL.field hop hd hn hw hx hf k
/- XL.iface -/
theorem W55 {t : TypeId} {x : Operand} {v : Value} (k : XL P n ops Q (q - 1) rest ((d, .iface t v) :: ρ) ds A) (hop : o.op = .makeInterface t x := by rfl) (hd : o.dst = some d := by rfl) (hn : Nat.blt d n = true := by rfl) (hw : wantB ops ρ o = some true := by rfl) (hx : evE ρ x = some v := by rfl) (ht : concB P t = true := by rfl) : XL P n ops Q q (o :: rest) ρ ds A := XL.iface hop hd hn hw hx ht k
/- XL.mkMap -/
theorem W56 {t : TypeId} (k : ∀ b, XL P n ops Q 0 rest ((d, .map (some b)) :: ρ) ds (St c (mapB b [] :: L) Φ)) (hop : o.op = .makeMap t none := by rfl) (hd : o.dst = some d := by rfl) (hn : Nat.blt d n = true := by rfl) (hw : wantB ops ρ o = some true := by rfl) : XL P n ops Q 0 (o :: rest) ρ ds (St c L Φ) := XL.mkMap hop hd hn hw k
/- XL.insS -/
theorem W57 {t : TypeId} {x y z : Operand} {b : Nat} {l : List (ByteArray × Int)} {s : ByteArray} {v : Int} (k : XL P n ops Q 0 rest ρ ds (St c (mapB b (l ++ [(s, v)]) :: L') Φ)) (hop : o.op = .insert t x y z := by rfl) (hd : o.dst = none := by rfl) (hw : wantB ops ρ o = some true := by rfl) (hx : evE ρ x = some (.map (some b)) := by rfl) (hy : evE ρ y = some (.string s) := by rfl) (hz : evE ρ z = some (.int .i64 v) := by rfl) (ht : strMap P t = true := by rfl) (hs : Sel L (mapB b l) L' := by repeat (first | exact Sel.here | apply Sel.there)) (hne : lookS s l = none := by rfl) : XL P n ops Q 0 (o :: rest) ρ ds (St c L Φ) := XL.insS hop hd hw hx hy hz ht hs hne k
/- XL.lookS -/
theorem W58 {t : TypeId} {x y : Operand} {b : Nat} {l : List (ByteArray × Int)} {s : ByteArray} (k : XL P n ops Q (q - 1) rest ((d, .int .i64 ((lookS s l).getD 0)) :: ρ) ds (St c L Φ)) (hop : o.op = .lookup t x y false := by rfl) (hd : o.dst = some d := by rfl) (hn : Nat.blt d n = true := by rfl) (hw : wantB ops ρ o = some true := by rfl) (hx : evE ρ x = some (.map (some b)) := by rfl) (hy : evE ρ y = some (.string s) := by rfl) (ht : strMap P t = true := by rfl) (hs : Sel L (mapB b l) L' := by repeat (first | exact Sel.here | apply Sel.there)) : XL P n ops Q q (o :: rest) ρ ds (St c L Φ) := XL.lookS hop hd hn hw hx hy ht hs k
/- XL.panics -/
theorem W59 {t : TypeId} {x : Operand} {v : Value} (k : XQ Q (.panic (pn (.iface t v))) ρ ds A) (hop : o.op = .panic x := by rfl) (hw : wantB ops ρ o = some true := by rfl) (hx : evE ρ x = some (.iface t v) := by rfl) : XL P n ops Q 0 (o :: rest) ρ ds A := XL.panics hop hw hx k
/- XL.sidxN -/
theorem W60 {t : TypeId} {x y : Operand} {l : List UInt8} {kd : IntKind} {i : Nat} (k : XL P n ops Q (q - 1) rest ((d, .int .u8 ((l.getD i 0).toNat : Int)) :: ρ) ds A) (hop : o.op = .index t x y := by rfl) (hd : o.dst = some d := by rfl) (hn : Nat.blt d n = true := by rfl) (hw : wantB ops ρ o = some true := by rfl) (hx : evE ρ x = some (.string ⟨l.toArray⟩) := by rfl) (hy : evE ρ y = some (.int kd (i : Int)) := by rfl) (ht : strB P t = true := by rfl) (h : i < l.length := by omega) : XL P n ops Q q (o :: rest) ρ ds A := XL.sidxN hop hd hn hw hx hy ht h k
/- XL.sidx -/
theorem W61 {t : TypeId} {x y : Operand} {l : List UInt8} {kd : IntKind} {i : Int} (k : XL P n ops Q (q - 1) rest ((d, .int .u8 ((l.getD i.toNat 0).toNat : Int)) :: ρ) ds A) (hop : o.op = .index t x y := by rfl) (hd : o.dst = some d := by rfl) (hn : Nat.blt d n = true := by rfl) (hw : wantB ops ρ o = some true := by rfl) (hx : evE ρ x = some (.string ⟨l.toArray⟩) := by rfl) (hy : evE ρ y = some (.int kd i) := by rfl) (ht : strB P t = true := by rfl) (h : 0 ≤ i ∧ i < l.length := by omega) : XL P n ops Q q (o :: rest) ρ ds A := XL.sidx hop hd hn hw hx hy ht h k
/- XL.sslN -/
theorem W62 {t : TypeId} {x y : Operand} {l : List UInt8} {kd : IntKind} {i : Nat} (k : XL P n ops Q (q - 1) rest ((d, .string ⟨(l.drop i).toArray⟩) :: ρ) ds A) (hop : o.op = .slice t x (some y) none none := by rfl) (hd : o.dst = some d := by rfl) (hn : Nat.blt d n = true := by rfl) (hw : wantB ops ρ o = some true := by rfl) (hx : evE ρ x = some (.string ⟨l.toArray⟩) := by rfl) (hy : evE ρ y = some (.int kd (i : Int)) := by rfl) (ht : strB P t = true := by rfl) (h : i ≤ l.length := by omega) : XL P n ops Q q (o :: rest) ρ ds A := XL.sslN hop hd hn hw hx hy ht h k
/- XL.sslI -/
theorem W63 {t : TypeId} {x y : Operand} {l : List UInt8} {kd : IntKind} {i : Int} (k : XL P n ops Q (q - 1) rest ((d, .string ⟨(l.drop i.toNat).toArray⟩) :: ρ) ds A) (hop : o.op = .slice t x (some y) none none := by rfl) (hd : o.dst = some d := by rfl) (hn : Nat.blt d n = true := by rfl) (hw : wantB ops ρ o = some true := by rfl) (hx : evE ρ x = some (.string ⟨l.toArray⟩) := by rfl) (hy : evE ρ y = some (.int kd i) := by rfl) (ht : strB P t = true := by rfl) (h : 0 ≤ i ∧ i ≤ l.length := by omega) : XL P n ops Q q (o :: rest) ρ ds A := XL.sslI hop hd hn hw hx hy ht h k
/- XL.sshN -/
theorem W64 {t : TypeId} {x y : Operand} {l : List UInt8} {kd : IntKind} {i : Nat} (k : XL P n ops Q (q - 1) rest ((d, .string ⟨(l.take i).toArray⟩) :: ρ) ds A) (hop : o.op = .slice t x none (some y) none := by rfl) (hd : o.dst = some d := by rfl) (hn : Nat.blt d n = true := by rfl) (hw : wantB ops ρ o = some true := by rfl) (hx : evE ρ x = some (.string ⟨l.toArray⟩) := by rfl) (hy : evE ρ y = some (.int kd (i : Int)) := by rfl) (ht : strB P t = true := by rfl) (h : i ≤ l.length := by omega) : XL P n ops Q q (o :: rest) ρ ds A := XL.sshN hop hd hn hw hx hy ht h k
/- XL.sshI -/
theorem W65 {t : TypeId} {x y : Operand} {l : List UInt8} {kd : IntKind} {i : Int} (k : XL P n ops Q (q - 1) rest ((d, .string ⟨(l.take i.toNat).toArray⟩) :: ρ) ds A) (hop : o.op = .slice t x none (some y) none := by rfl) (hd : o.dst = some d := by rfl) (hn : Nat.blt d n = true := by rfl) (hw : wantB ops ρ o = some true := by rfl) (hx : evE ρ x = some (.string ⟨l.toArray⟩) := by rfl) (hy : evE ρ y = some (.int kd i) := by rfl) (ht : strB P t = true := by rfl) (h : 0 ≤ i ∧ i ≤ l.length := by omega) : XL P n ops Q q (o :: rest) ρ ds A := XL.sshI hop hd hn hw hx hy ht h k
/- XL.sslh -/
theorem W66 {t : TypeId} {x y z : Operand} {l : List UInt8} {kd ke : IntKind} {i j : Nat} (k : XL P n ops Q (q - 1) rest ((d, .string ⟨((l.take j).drop i).toArray⟩) :: ρ) ds A) (hop : o.op = .slice t x (some y) (some z) none := by rfl) (hd : o.dst = some d := by rfl) (hn : Nat.blt d n = true := by rfl) (hw : wantB ops ρ o = some true := by rfl) (hx : evE ρ x = some (.string ⟨l.toArray⟩) := by rfl) (hy : evE ρ y = some (.int kd (i : Int)) := by rfl) (hz : evE ρ z = some (.int ke (j : Int)) := by rfl) (ht : strB P t = true := by rfl) (h : i ≤ j ∧ j ≤ l.length := by omega) : XL P n ops Q q (o :: rest) ρ ds A := XL.sslh hop hd hn hw hx hy hz ht h k
/- XL.or32 -/
theorem W67 {t t' : TypeId} {x y : Operand} {a : UInt8} (k : XL P n ops Q (q - 1) rest ((d, .int .u8 ((a ||| 32).toNat : Int)) :: ρ) ds A) (hop : o.op = .binOp .or t x y t' := by rfl) (hd : o.dst = some d := by rfl) (hn : Nat.blt d n = true := by rfl) (hw : wantB ops ρ o = some true := by rfl) (hx : evE ρ x = some (.int .u8 (a.toNat : Int)) := by rfl) (hy : evE ρ y = some (.int .u8 32) := by rfl) : XL P n ops Q q (o :: rest) ρ ds A := XL.or32 hop hd hn hw hx hy k
/- XL.subU8 -/
theorem W68 {t t' : TypeId} {x y : Operand} {a b : Int} (k : XL P n ops Q (q - 1) rest ((d, .int .u8 (a - b)) :: ρ) ds A) (hop : o.op = .binOp .sub t x y t' := by rfl) (hd : o.dst = some d := by rfl) (hn : Nat.blt d n = true := by rfl) (hw : wantB ops ρ o = some true := by rfl) (hx : evE ρ x = some (.int .u8 a) := by rfl) (hy : evE ρ y = some (.int .u8 b) := by rfl) (h : 0 ≤ a - b ∧ a - b ≤ 255 := by omega) : XL P n ops Q q (o :: rest) ρ ds A := XL.subU8 hop hd hn hw hx hy h k
/- XL.quo -/
theorem W69 {t t' : TypeId} {x y : Operand} {a b : Int} (k : XL P n ops Q (q - 1) rest ((d, .int .i64 (a / b)) :: ρ) ds A) (hop : o.op = .binOp .quo t x y t' := by rfl) (hd : o.dst = some d := by rfl) (hn : Nat.blt d n = true := by rfl) (hw : wantB ops ρ o = some true := by rfl) (hx : evE ρ x = some (.int .i64 a) := by rfl) (hy : evE ρ y = some (.int .i64 b) := by rfl) (h : 0 ≤ a ∧ a ≤ 9223372036854775807 ∧ 0 < b := by omega) : XL P n ops Q q (o :: rest) ρ ds A := XL.quo hop hd hn hw hx hy h k
/- XL.bytes -/
theorem W70 {s t : TypeId} {x : Operand} {l : List UInt8} (k : ∀ z : Nat × Nat, XL P n ops Q 0 rest ((d, .slice (some ⟨z.1, 0, none⟩) l.length z.2) :: ρ) ds (St c L (Row.fp 1 (.slice (some ⟨z.1, 0, none⟩) l.length z.2) l.length (bytV l) :: Φ))) (hop : o.op = .convert s t x := by rfl) (hd : o.dst = some d := by rfl) (hn : Nat.blt d n = true := by rfl) (hw : wantB ops ρ o = some true := by rfl) (hx : evE ρ x = some (.string ⟨l.toArray⟩) := by rfl) (ht : bytB P s t = true := by rfl) : XL P n ops Q 0 (o :: rest) ρ ds (St c L Φ) := XL.bytes hop hd hn hw hx ht k
/- XS.isA -/
theorem W71 (h : XS P n l Q ms (.a i s) pend ρ ds A) : XS P n l Q ms (.a i s) pend ρ ds A := XS.isA h
/- XS.a -/
theorem W72 {pend' : Pend} (h : XL P n l.toArray (AnS P n l Q ms s pend') 0 [o] ρ ds A) (ho : nthO l i = some o := by rfl) (hp : Lft (nthN ms i) pend pend' := by (repeat (first | exact Lft.nil | (apply Lft.drop; · rfl) | apply Lft.keep)); done) : XS P n l Q ms (.a i s) pend ρ ds A := XS.a ho hp h
/- XS.isQ -/
theorem W73 (h : XS P n l Q ms (.q i s) pend ρ ds A) : XS P n l Q ms (.q i s) pend ρ ds A := XS.isQ h
/- XS.pures -/
theorem W74 {s' : Plan} {v : Value} {d : Nat} {ρ' : Env} (k : XS P n l Q ms s' pend ρ' ds A) (ho : nthO l i = some o := by rfl) (hQ : PF Q := by repeat (first | exact PF.body | exact PF.bodyD | exact PF.endR | exact PF.np | apply PF.sq | apply PF.rd | apply PF.mt | apply PF.block)) (hg : o.guard = none := by rfl) (hd : o.dst = some d := by rfl) (hn : Nat.blt d n = true := by rfl) (hv : pureOpM ρ o.op = some v := by rfl) (h : pureS n l s ((d, v) :: ρ) = (s', ρ') := by rfl) : XS P n l Q ms (.q i s) pend ρ ds A := XS.pures ho hQ hg hd hn hv h k
/- XS.guard_d -/
theorem W75 {g : Nat} {p : Prop} [Decidable p] (ht : p → XS P n l Q ms (.q i s) pend ((g, .bool true) :: ρ) ds A) (hf : ¬ p → XS P n l Q ms (.q i s) pend ((g, .bool false) :: ρ) ds A) (ho : nthO l i = some o := by rfl) (_hg : guardSlot l.toArray o = some g := by rfl) (h : find ρ g = some (.bool (decide p)) := by rfl) : XS P n l Q ms (.q i s) pend ρ ds A := XS.guard_d ho _hg h ht hf
/- XS.pure -/
theorem W76 {v : Value} {d : Nat} (k : XS P n l Q ms s pend ((d, v) :: ρ) ds A) (ho : nthO l i = some o := by rfl) (hQ : PF Q := by repeat (first | exact PF.body | exact PF.bodyD | exact PF.endR | exact PF.np | apply PF.sq | apply PF.rd | apply PF.mt | apply PF.block)) (hd : o.dst = some d := by rfl) (hn : Nat.blt d n = true := by rfl) (hw : wantB l.toArray ρ o = some true := by rfl) (hv : pureOp ρ o.op = some v := by rfl) : XS P n l Q ms (.q i s) pend ρ ds A := XS.pure ho hQ hd hn hw hv k
/- XS.isLd -/
theorem W77 {t : TypeId} {x : Operand} (h : XS P n l Q ms (.q i s) pend ρ ds A) (g1 : nthO l i = some o := by rfl) (g2 : o.op = .load t x := by rfl) : XS P n l Q ms (.q i s) pend ρ ds A := XS.isLd g1 g2 h
/- XS.ld -/
theorem W78 {t b k T : Nat} {cs : Array Value} {x : Operand} {v : Value} (h : XS P n l Q ms s ((i, fun w => w.cell? ⟨b, k, none⟩ = some v) :: pend) ((d, v) :: ρ) ds (St c L Φ)) (ho : nthO l i = some o := by rfl) (hQ : PF Q := by repeat (first | exact PF.body | exact PF.bodyD | exact PF.endR | exact PF.np | apply PF.sq | apply PF.rd | apply PF.mt | apply PF.block)) (hop : o.op = .load t x := by rfl) (hd : o.dst = some d := by rfl) (hn : Nat.blt d n = true := by rfl) (hw : wantB l.toArray ρ o = some true := by rfl) (hx : evE ρ x = some (.pointer (some ⟨b, k, none⟩)) := by rfl) (ht : aggB P t = some false := by rfl) (sl : Sel L (cel b cs T) L' := by repeat (first | exact Sel.here | apply Sel.there)) (hv : nth cs.toList k = some v := by rfl) : XS P n l Q ms (.q i s) pend ρ ds (St c L Φ) := XS.ld ho hQ hop hd hn hw hx ht sl hv h
/- XS.lds -/
theorem W79 {t b k sz T : Nat} {cs : Array Value} {x : Operand} {vs : List Value} (h : XS P n l Q ms s ((i, fun w => ∀ j v, vs[j]? = some v → w.cell? ⟨b, k + j, none⟩ = some v) :: pend) ((d, .agg vs.toArray) :: ρ) ds (St c L Φ)) (ho : nthO l i = some o := by rfl) (hQ : PF Q := by repeat (first | exact PF.body | exact PF.bodyD | exact PF.endR | exact PF.np | apply PF.sq | apply PF.rd | apply PF.mt | apply PF.block)) (hop : o.op = .load t x := by rfl) (hd : o.dst = some d := by rfl) (hn : Nat.blt d n = true := by rfl) (hw : wantB l.toArray ρ o = some true := by rfl) (hx : evE ρ x = some (.pointer (some ⟨b, k, none⟩)) := by rfl) (ht : aggB P t = some true := by rfl) (hs : sizeB P t = some sz := by rfl) (sl : Sel L (cel b cs T) L' := by repeat (first | exact Sel.here | apply Sel.there)) (hv : sub cs.toList k sz = some vs := by rfl) : XS P n l Q ms (.q i s) pend ρ ds (St c L Φ) := XS.lds ho hQ hop hd hn hw hx ht hs sl hv h
/- XS.ldR -/
theorem W80 {t size m j : Nat} {x : Operand} {v u : Value} {xs : List Value} (k : XS P n l Q ms s ((i, Row size v m xs) :: pend) ((d, u) :: ρ) ds A) (ho : nthO l i = some o := by rfl) (hQ : PF Q := by repeat (first | exact PF.body | exact PF.bodyD | exact PF.endR | exact PF.np | apply PF.sq | apply PF.rd | apply PF.mt | apply PF.block)) (hop : o.op = .load t x := by rfl) (hd : o.dst = some d := by rfl) (hn : Nat.blt d n = true := by rfl) (hw : wantB l.toArray ρ o = some true := by rfl) (hx : evE ρ x = some (cellP v j) := by rfl) (ht : aggB P t = some false := by rfl) (hr : ∀ w, A w → Row size v m xs w := by first | exact fun w h => St.row (by repeat (first | exact Sel.here | apply Sel.there)) h | exact fun w h => St.rowF (by repeat (first | exact List.Mem.head _ | apply List.Mem.tail)) h | exact fun w h => Hd.rowF (by repeat (first | exact List.Mem.head _ | apply List.Mem.tail)) h) (hv : xs[j]? = some u := by assumption) : XS P n l Q ms (.q i s) pend ρ ds A := XS.ldR ho hQ hop hd hn hw hx ht hr hv k
/- XS.ldA -/
theorem W81 {t size m j off : Nat} {x : Operand} {v u : Value} {xs vs : List Value} (k : XS P n l Q ms s ((i, Row size v m xs) :: pend) ((d, u) :: ρ) ds A) (ho : nthO l i = some o := by rfl) (hQ : PF Q := by repeat (first | exact PF.body | exact PF.bodyD | exact PF.endR | exact PF.np | apply PF.sq | apply PF.rd | apply PF.mt | apply PF.block)) (hop : o.op = .load t x := by rfl) (hd : o.dst = some d := by rfl) (hn : Nat.blt d n = true := by rfl) (hw : wantB l.toArray ρ o = some true := by rfl) (hx : evE ρ x = some (cellP v (j + off)) := by rfl) (ht : aggB P t = some false := by rfl) (hr : ∀ w, A w → Row size v m xs w := by first | exact fun w h => St.row (by repeat (first | exact Sel.here | apply Sel.there)) h | exact fun w h => St.rowF (by repeat (first | exact List.Mem.head _ | apply List.Mem.tail)) h | exact fun w h => Hd.rowF (by repeat (first | exact List.Mem.head _ | apply List.Mem.tail)) h) (hv : At xs j vs := by assumption) (hu : nth vs off = some u := by rfl) : XS P n l Q ms (.q i s) pend ρ ds A := XS.ldA ho hQ hop hd hn hw hx ht hr hv hu k
/- XS.ldsR -/
theorem W82 {t size m j sz : Nat} {x : Operand} {v : Value} {xs vs : List Value} (k : XS P n l Q ms s ((i, Row size v m xs) :: pend) ((d, .agg vs.toArray) :: ρ) ds A) (ho : nthO l i = some o := by rfl) (hQ : PF Q := by repeat (first | exact PF.body | exact PF.bodyD | exact PF.endR | exact PF.np | apply PF.sq | apply PF.rd | apply PF.mt | apply PF.block)) (hop : o.op = .load t x := by rfl) (hd : o.dst = some d := by rfl) (hn : Nat.blt d n = true := by rfl) (hw : wantB l.toArray ρ o = some true := by rfl) (hx : evE ρ x = some (cellP v j) := by rfl) (ht : aggB P t = some true := by rfl) (hs : sizeB P t = some sz := by rfl) (hr : ∀ w, A w → Row size v m xs w := by first | exact fun w h => St.row (by repeat (first | exact Sel.here | apply Sel.there)) h | exact fun w h => St.rowF (by repeat (first | exact List.Mem.head _ | apply List.Mem.tail)) h | exact fun w h => Hd.rowF (by repeat (first | exact List.Mem.head _ | apply List.Mem.tail)) h) (hv : At xs j vs := by assumption) (hl : vs.length = sz := by rfl) (hpos : 0 < sz := by decide) : XS P n l Q ms (.q i s) pend ρ ds A := XS.ldsR ho hQ hop hd hn hw hx ht hs hr hv hl hpos k
/- XS.off -/
theorem W83 {d : Nat} (k : XS P n l Q ms s pend ((d, undef) :: ρ) ds A) (ho : nthO l i = some o := by rfl) (hQ : PF Q := by repeat (first | exact PF.body | exact PF.bodyD | exact PF.endR | exact PF.np | apply PF.sq | apply PF.rd | apply PF.mt | apply PF.block)) (hd : o.dst = some d := by rfl) (hn : Nat.blt d n = true := by rfl) (hw : wantB l.toArray ρ o = some false := by rfl) : XS P n l Q ms (.q i s) pend ρ ds A := XS.off ho hQ hd hn hw k
/- XS.isFa -/
theorem W84 {t : TypeId} {x : Operand} {f : Nat} (h : XS P n l Q ms (.q i s) pend ρ ds A) (g1 : nthO l i = some o := by rfl) (g2 : o.op = .fieldAddr t x f := by rfl) : XS P n l Q ms (.q i s) pend ρ ds A := XS.isFa g1 g2 h
/- XS.faR -/
theorem W85 {st f off size m j : Nat} {x : Operand} {v u : Value} {xs : List Value} (k : XS P n l Q ms s ((i, Row size v m xs) :: pend) ((d, cellP v (j + off)) :: ρ) ds A) (ho : nthO l i = some o := by rfl) (hQ : PF Q := by repeat (first | exact PF.body | exact PF.bodyD | exact PF.endR | exact PF.np | apply PF.sq | apply PF.rd | apply PF.mt | apply PF.block)) (hop : o.op = .fieldAddr st x f := by rfl) (hd : o.dst = some d := by rfl) (hn : Nat.blt d n = true := by rfl) (hw : wantB l.toArray ρ o = some true := by rfl) (hx : evE ρ x = some (cellP v j) := by rfl) (hf : fieldOff P st f = some off := by rfl) (hr : ∀ w, A w → Row size v m xs w := by first | exact fun w h => St.row (by repeat (first | exact Sel.here | apply Sel.there)) h | exact fun w h => St.rowF (by repeat (first | exact List.Mem.head _ | apply List.Mem.tail)) h | exact fun w h => Hd.rowF (by repeat (first | exact List.Mem.head _ | apply List.Mem.tail)) h) (hv : xs[j]? = some u := by assumption) : XS P n l Q ms (.q i s) pend ρ ds A := XS.faR ho hQ hop hd hn hw hx hf hr hv k
/- XS.faA -/
theorem W86 {st f off size m j : Nat} {x : Operand} {v u : Value} {xs vs : List Value} (k : XS P n l Q ms s ((i, Row size v m xs) :: pend) ((d, cellP v (j + off)) :: ρ) ds A) (ho : nthO l i = some o := by rfl) (hQ : PF Q := by repeat (first | exact PF.body | exact PF.bodyD | exact PF.endR | exact PF.np | apply PF.sq | apply PF.rd | apply PF.mt | apply PF.block)) (hop : o.op = .fieldAddr st x f := by rfl) (hd : o.dst = some d := by rfl) (hn : Nat.blt d n = true := by rfl) (hw : wantB l.toArray ρ o = some true := by rfl) (hx : evE ρ x = some (cellP v j) := by rfl) (hf : fieldOff P st f = some off := by rfl) (hr : ∀ w, A w → Row size v m xs w := by first | exact fun w h => St.row (by repeat (first | exact Sel.here | apply Sel.there)) h | exact fun w h => St.rowF (by repeat (first | exact List.Mem.head _ | apply List.Mem.tail)) h | exact fun w h => Hd.rowF (by repeat (first | exact List.Mem.head _ | apply List.Mem.tail)) h) (hv : At xs j (u :: vs) := by assumption) : XS P n l Q ms (.q i s) pend ρ ds A := XS.faA ho hQ hop hd hn hw hx hf hr hv k
/- XS.qT -/
theorem W87 (h : XL P n l.toArray (TkS P n l Q ms s pend A) 1 [o] ρ ds fun _ => True) (ho : nthO l i = some o := by rfl) (hQ : PF Q := by repeat (first | exact PF.body | exact PF.bodyD | exact PF.endR | exact PF.np | apply PF.sq | apply PF.rd | apply PF.mt | apply PF.block)) : XS P n l Q ms (.q i s) pend ρ ds A := XS.qT ho hQ h
/- XS.isIa -/
theorem W88 {t : TypeId} {x y : Operand} (h : XS P n l Q ms (.q i s) pend ρ ds A) (g1 : nthO l i = some o := by rfl) (g2 : o.op = .indexAddr t x y := by rfl) : XS P n l Q ms (.q i s) pend ρ ds A := XS.isIa g1 g2 h
/- XS.iaR1 -/
theorem W89 {t m j : Nat} {kd : IntKind} {x y : Operand} {v : Value} {xs : List Value} (k : XS P n l Q ms s ((i, Row 1 v m xs) :: pend) ((d, cellP v j) :: ρ) ds A) (ho : nthO l i = some o := by rfl) (hQ : PF Q := by repeat (first | exact PF.body | exact PF.bodyD | exact PF.endR | exact PF.np | apply PF.sq | apply PF.rd | apply PF.mt | apply PF.block)) (hop : o.op = .indexAddr t x y := by rfl) (hd : o.dst = some d := by rfl) (hn : Nat.blt d n = true := by rfl) (hw : wantB l.toArray ρ o = some true := by rfl) (hx : evE ρ x = some v := by rfl) (hy : evE ρ y = some (.int kd (j : Int)) := by rfl) (he : elemSize P t = some (0 + 1) := by rfl) (hr : ∀ w, A w → Row 1 v m xs w := by first | exact fun w h => St.row (by repeat (first | exact Sel.here | apply Sel.there)) h | exact fun w h => St.rowF (by repeat (first | exact List.Mem.head _ | apply List.Mem.tail)) h | exact fun w h => Hd.rowF (by repeat (first | exact List.Mem.head _ | apply List.Mem.tail)) h) (h : j < m := by omega) : XS P n l Q ms (.q i s) pend ρ ds A := XS.iaR1 ho hQ hop hd hn hw hx hy he hr h k
/- XS.iaR -/
theorem W90 {t size m j : Nat} {kd : IntKind} {x y : Operand} {v : Value} {xs : List Value} (k : XS P n l Q ms s ((i, Row size v m xs) :: pend) ((d, cellP v (j * size)) :: ρ) ds A) (ho : nthO l i = some o := by rfl) (hQ : PF Q := by repeat (first | exact PF.body | exact PF.bodyD | exact PF.endR | exact PF.np | apply PF.sq | apply PF.rd | apply PF.mt | apply PF.block)) (hop : o.op = .indexAddr t x y := by rfl) (hd : o.dst = some d := by rfl) (hn : Nat.blt d n = true := by rfl) (hw : wantB l.toArray ρ o = some true := by rfl) (hx : evE ρ x = some v := by rfl) (hy : evE ρ y = some (.int kd (j : Int)) := by rfl) (hr : ∀ w, A w → Row size v m xs w := by first | exact fun w h => St.row (by repeat (first | exact Sel.here | apply Sel.there)) h | exact fun w h => St.rowF (by repeat (first | exact List.Mem.head _ | apply List.Mem.tail)) h | exact fun w h => Hd.rowF (by repeat (first | exact List.Mem.head _ | apply List.Mem.tail)) h) (he : elemSize P t = some size := by rfl) (h : j < m := by omega) : XS P n l Q ms (.q i s) pend ρ ds A := XS.iaR ho hQ hop hd hn hw hx hy hr he h k
/- XS.iaI1 -/
theorem W91 {t m : Nat} {j : Int} {kd : IntKind} {x y : Operand} {v : Value} {xs : List Value} (k : XS P n l Q ms s ((i, Row 1 v m xs) :: pend) ((d, cellP v j.toNat) :: ρ) ds A) (ho : nthO l i = some o := by rfl) (hQ : PF Q := by repeat (first | exact PF.body | exact PF.bodyD | exact PF.endR | exact PF.np | apply PF.sq | apply PF.rd | apply PF.mt | apply PF.block)) (hop : o.op = .indexAddr t x y := by rfl) (hd : o.dst = some d := by rfl) (hn : Nat.blt d n = true := by rfl) (hw : wantB l.toArray ρ o = some true := by rfl) (hx : evE ρ x = some v := by rfl) (hy : evE ρ y = some (.int kd j) := by rfl) (he : elemSize P t = some (0 + 1) := by rfl) (hr : ∀ w, A w → Row 1 v m xs w := by first | exact fun w h => St.row (by repeat (first | exact Sel.here | apply Sel.there)) h | exact fun w h => St.rowF (by repeat (first | exact List.Mem.head _ | apply List.Mem.tail)) h | exact fun w h => Hd.rowF (by repeat (first | exact List.Mem.head _ | apply List.Mem.tail)) h) (h0 : 0 ≤ j := by omega) (h : j < m := by omega) : XS P n l Q ms (.q i s) pend ρ ds A := XS.iaI1 ho hQ hop hd hn hw hx hy he hr h0 h k
/- XS.iaI -/
theorem W92 {t size m : Nat} {j : Int} {kd : IntKind} {x y : Operand} {v : Value} {xs : List Value} (k : XS P n l Q ms s ((i, Row size v m xs) :: pend) ((d, cellP v (j.toNat * size)) :: ρ) ds A) (ho : nthO l i = some o := by rfl) (hQ : PF Q := by repeat (first | exact PF.body | exact PF.bodyD | exact PF.endR | exact PF.np | apply PF.sq | apply PF.rd | apply PF.mt | apply PF.block)) (hop : o.op = .indexAddr t x y := by rfl) (hd : o.dst = some d := by rfl) (hn : Nat.blt d n = true := by rfl) (hw : wantB l.toArray ρ o = some true := by rfl) (hx : evE ρ x = some v := by rfl) (hy : evE ρ y = some (.int kd j) := by rfl) (he : elemSize P t = some size := by rfl) (hr : ∀ w, A w → Row size v m xs w := by first | exact fun w h => St.row (by repeat (first | exact Sel.here | apply Sel.there)) h | exact fun w h => St.rowF (by repeat (first | exact List.Mem.head _ | apply List.Mem.tail)) h | exact fun w h => Hd.rowF (by repeat (first | exact List.Mem.head _ | apply List.Mem.tail)) h) (h0 : 0 ≤ j := by omega) (h : j < m := by omega) : XS P n l Q ms (.q i s) pend ρ ds A := XS.iaI ho hQ hop hd hn hw hx hy he hr h0 h k
/- XS.isCall -/
theorem W93 {cl : Call} (h : XS P n l Q ms (.q i s) pend ρ ds A) (g1 : nthO l i = some o := by rfl) (g2 : o.op = .call cl := by rfl) : XS P n l Q ms (.q i s) pend ρ ds A := XS.isCall g1 g2 h
/- XS.lenR -/
theorem W94 {cl : Call} {size m : Nat} {v : Value} {xs : List Value} (k : XS P n l Q ms s ((i, Row size v m xs) :: pend) ((d, .int .i64 (m : Int)) :: ρ) ds A) (ho : nthO l i = some o := by rfl) (hQ : PF Q := by repeat (first | exact PF.body | exact PF.bodyD | exact PF.endR | exact PF.np | apply PF.sq | apply PF.rd | apply PF.mt | apply PF.block)) (hop : o.op = .call cl := by rfl) (hd : o.dst = some d := by rfl) (hn : Nat.blt d n = true := by rfl) (hw : wantB l.toArray ρ o = some true := by rfl) (hb : cl.callee = .builtin .len := by rfl) (ha : evs ρ cl.args.toList = some [v] := by rfl) (ht : lenKind P cl.argTypes = 1 := by rfl) (hr : ∀ w, A w → Row size v m xs w := by first | exact fun w h => St.row (by repeat (first | exact Sel.here | apply Sel.there)) h | exact fun w h => St.rowF (by repeat (first | exact List.Mem.head _ | apply List.Mem.tail)) h | exact fun w h => Hd.rowF (by repeat (first | exact List.Mem.head _ | apply List.Mem.tail)) h) : XS P n l Q ms (.q i s) pend ρ ds A := XS.lenR ho hQ hop hd hn hw hb ha ht hr k
/- XS.done -/
theorem W95 (h : XQ Q .normal ρ ds A) : XS P n l Q ms .done pend ρ ds A := XS.done h
/- XS.isB -/
theorem W96 {j : Nat} {t : Plan} (h : XS P n l Q ms (.b i j s t) pend ρ ds A) : XS P n l Q ms (.b i j s t) pend ρ ds A := XS.isB h
/- XS.b -/
theorem W97 {j : Nat} {o2 : Oper} {pend1 pend2 : Pend} (h : XL P n l.toArray (AnS P n l Q ms s pend1) 0 [o] ρ ds A) (h' : XL P n l.toArray (AnS P n l Q ms t pend2) 0 [o2] ρ ds A) (ho : nthO l i = some o := by rfl) (ho2 : nthO l j = some o2 := by rfl) (hp : Lft (nthN ms i) pend pend1 := by (repeat (first | exact Lft.nil | (apply Lft.drop; · rfl) | apply Lft.keep)); done) (hp2 : Lft (nthN ms j) pend pend2 := by (repeat (first | exact Lft.nil | (apply Lft.drop; · rfl) | apply Lft.keep)); done) : XS P n l Q ms (.b i j s t) pend ρ ds A := XS.b ho ho2 hp hp2 h h'
/- XS.isC -/
theorem W98 {j k : Nat} {t u : Plan} (h : XS P n l Q ms (.c i j k s t u) pend ρ ds A) : XS P n l Q ms (.c i j k s t u) pend ρ ds A := XS.isC h
/- XS.c -/
theorem W99 {j k : Nat} {o2 o3 : Oper} {pend1 pend2 pend3 : Pend} (h : XL P n l.toArray (AnS P n l Q ms s pend1) 0 [o] ρ ds A) (h' : XL P n l.toArray (AnS P n l Q ms t pend2) 0 [o2] ρ ds A) (h'' : XL P n l.toArray (AnS P n l Q ms u pend3) 0 [o3] ρ ds A) (ho : nthO l i = some o := by rfl) (ho2 : nthO l j = some o2 := by rfl) (ho3 : nthO l k = some o3 := by rfl) (hp : Lft (nthN ms i) pend pend1 := by (repeat (first | exact Lft.nil | (apply Lft.drop; · rfl) | apply Lft.keep)); done) (hp2 : Lft (nthN ms j) pend pend2 := by (repeat (first | exact Lft.nil | (apply Lft.drop; · rfl) | apply Lft.keep)); done) (hp3 : Lft (nthN ms k) pend pend3 := by (repeat (first | exact Lft.nil | (apply Lft.drop; · rfl) | apply Lft.keep)); done) : XS P n l Q ms (.c i j k s t u) pend ρ ds A := XS.c ho ho2 ho3 hp hp2 hp3 h h' h''
/- XC.seq -/
theorem W100 {x y : Code} (h : XC P n x (Sq P n y Q) ρ ds A) : XC P n (.seq x y) Q ρ ds A := XC.seq h
/- XC.region -/
theorem W101 {id : Nat} {l : List Oper} (h : XL P n l.toArray Q 0 l ρ ds A) : XC P n (.region id l.toArray false) Q ρ ds A := XC.region h
/- XC.block -/
theorem W102 {id : Nat} {c : Code} (h : XC P n c (inBlockX id Q) ρ ds A) : XC P n (.block id c) Q ρ ds A := XC.block h
/- XC.skip -/
theorem W103 (h : XQ Q .normal ρ ds A) : XC P n .skip Q ρ ds A := XC.skip h
/- XC.ret -/
theorem W104 (h : XQ Q .ret ρ ds A) : XC P n .ret Q ρ ds A := XC.ret h
/- XC.exit -/
theorem W105 {id : Nat} (h : XQ Q (.exit id) ρ ds A) : XC P n (.exit id) Q ρ ds A := XC.exit h
/- XC.isCond -/
theorem W106 {x : Operand} {c c' : Code} (h : XC P n (.cond x c c') Q ρ ds A) : XC P n (.cond x c c') Q ρ ds A := XC.isCond h
/- XC.cond_d -/
theorem W107 {c : Operand} {x y : Code} {p : Prop} [Decidable p] (ht : p → XC P n x Q ρ ds A) (hf : ¬ p → XC P n y Q ρ ds A) (h : evE ρ c = some (.bool (decide p)) := by rfl) : XC P n (.cond c x y) Q ρ ds A := XC.cond_d h ht hf
/- XC.cond_t -/
theorem W108 {c : Operand} {x y : Code} (ht : XC P n x Q ρ ds A) (h : evE ρ c = some (.bool true) := by rfl) : XC P n (.cond c x y) Q ρ ds A := XC.cond_t h ht
/- XC.cond_f -/
theorem W109 {c : Operand} {x y : Code} (hf : XC P n y Q ρ ds A) (h : evE ρ c = some (.bool false) := by rfl) : XC P n (.cond c x y) Q ρ ds A := XC.cond_f h hf
/- XC.isDraw -/
theorem W110 {i : Nat} (h : XC P n (.region i l.toArray true) Q ρ ds A) : XC P n (.region i l.toArray true) Q ρ ds A := XC.isDraw h
/- XC.readsN -/
theorem W111 {id : Nat} (h : XL P n l.toArray Q l.length l ρ ds A) (g1 : allN l = true := by rfl) (hm : P.follows .mixedOrders = true := by kernel_rfl) (hB : Region.lexB .any l.toArray = true := by decide +kernel) (hA : ∀ w m, A w → A { w with drawn := m } := by exact (fun _ m h => h.drewn m)) : XC P n (.region id l.toArray true) Q ρ ds A := XC.readsN g1 hm hB hA h
/- XQ.next -/
theorem W112 {y : Code} (h : XC P n y Q ρ ds A) : XQ (Sq P n y Q) .normal ρ ds A := XQ.next h
/- XQ.tkS -/
theorem W113 (h : XS P n l Q ms s pend ρ ds A) : XQ (TkS P n l Q ms s pend A) .normal ρ ds p := XQ.tkS h
/- XQ.isAn -/
theorem W114 (h : XQ (AnS P n l Q ms s pend) e ρ ds A) : XQ (AnS P n l Q ms s pend) e ρ ds A := XQ.isAn h
/- XQ.anS -/
theorem W115 (h : XS P n l Q ms s pend ρ ds A) (hp : ∀ w, A w → Held pend w := by (repeat (first | exact heldNil | refine heldCons ?_ ?_ | exact fun w h => h.cell (by first | exact Sel.here | exact (Sel.there Sel.here) | exact (Sel.there (Sel.there Sel.here)) | exact (Sel.there (Sel.there (Sel.there Sel.here))) | exact (Sel.there (Sel.there (Sel.there (Sel.there Sel.here)))) | exact (Sel.there (Sel.there (Sel.there (Sel.there (Sel.there Sel.here))))) | exact (Sel.there (Sel.there (Sel.there (Sel.there (Sel.there (Sel.there Sel.here)))))) | exact (Sel.there (Sel.there (Sel.there (Sel.there (Sel.there (Sel.there (Sel.there Sel.here))))))) | exact (Sel.there (Sel.there (Sel.there (Sel.there (Sel.there (Sel.there (Sel.there (Sel.there Sel.here))))))))) (by rfl) | exact fun w h => h.cells (by first | exact Sel.here | exact (Sel.there Sel.here) | exact (Sel.there (Sel.there Sel.here)) | exact (Sel.there (Sel.there (Sel.there Sel.here))) | exact (Sel.there (Sel.there (Sel.there (Sel.there Sel.here)))) | exact (Sel.there (Sel.there (Sel.there (Sel.there (Sel.there Sel.here))))) | exact (Sel.there (Sel.there (Sel.there (Sel.there (Sel.there (Sel.there Sel.here)))))) | exact (Sel.there (Sel.there (Sel.there (Sel.there (Sel.there (Sel.there (Sel.there Sel.here))))))) | exact (Sel.there (Sel.there (Sel.there (Sel.there (Sel.there (Sel.there (Sel.there (Sel.there Sel.here))))))))) (by rfl) | refine (by first | exact fun w h => St.row (by first | exact Sel.here | exact (Sel.there Sel.here) | exact (Sel.there (Sel.there Sel.here)) | exact (Sel.there (Sel.there (Sel.there Sel.here))) | exact (Sel.there (Sel.there (Sel.there (Sel.there Sel.here)))) | exact (Sel.there (Sel.there (Sel.there (Sel.there (Sel.there Sel.here))))) | exact (Sel.there (Sel.there (Sel.there (Sel.there (Sel.there (Sel.there Sel.here)))))) | exact (Sel.there (Sel.there (Sel.there (Sel.there (Sel.there (Sel.there (Sel.there Sel.here))))))) | exact (Sel.there (Sel.there (Sel.there (Sel.there (Sel.there (Sel.there (Sel.there (Sel.there Sel.here))))))))) h | exact fun w h => St.rowF (by first | exact (List.Mem.head _) | exact (List.Mem.tail _ (List.Mem.head _)) | exact (List.Mem.tail _ (List.Mem.tail _ (List.Mem.head _))) | exact (List.Mem.tail _ (List.Mem.tail _ (List.Mem.tail _ (List.Mem.head _)))) | exact (List.Mem.tail _ (List.Mem.tail _ (List.Mem.tail _ (List.Mem.tail _ (List.Mem.head _))))) | exact (List.Mem.tail _ (List.Mem.tail _ (List.Mem.tail _ (List.Mem.tail _ (List.Mem.tail _ (List.Mem.head _))))))) h | exact fun w h => Hd.rowF (by first | exact (List.Mem.head _) | exact (List.Mem.tail _ (List.Mem.head _)) | exact (List.Mem.tail _ (List.Mem.tail _ (List.Mem.head _))) | exact (List.Mem.tail _ (List.Mem.tail _ (List.Mem.tail _ (List.Mem.head _)))) | exact (List.Mem.tail _ (List.Mem.tail _ (List.Mem.tail _ (List.Mem.tail _ (List.Mem.head _))))) | exact (List.Mem.tail _ (List.Mem.tail _ (List.Mem.tail _ (List.Mem.tail _ (List.Mem.tail _ (List.Mem.head _))))))) h))); done) : XQ (AnS P n l Q ms s pend) .normal ρ ds A := XQ.anS hp h
/- XQ.blockN -/
theorem W116 {id : Nat} (h : XQ Q .normal ρ ds A) : XQ (inBlockX id Q) .normal ρ ds A := XQ.blockN h
/- XQ.blockR -/
theorem W117 {id : Nat} (h : XQ Q .ret ρ ds A) : XQ (inBlockX id Q) .ret ρ ds A := XQ.blockR h
/- XQ.blockE -/
theorem W118 {id : Nat} (h : XQ Q .normal ρ ds A) : XQ (inBlockX id Q) (.exit id) ρ ds A := XQ.blockE h
/- XQ.sqR -/
theorem W119 {y : Code} (h : XQ Q .ret ρ ds A) : XQ (Sq P n y Q) .ret ρ ds A := XQ.sqR h
/- XQ.sqE -/
theorem W120 {y : Code} {id : Nat} (h : XQ Q (.exit id) ρ ds A) : XQ (Sq P n y Q) (.exit id) ρ ds A := XQ.sqE h
/- XQ.rdR -/
theorem W121 {α : Type} {sl : α → Env} {I : α → World → Prop} {μ : α → Nat} {m : Nat} {ds' : List Deferred} (h : XQ Q .ret ρ ds A) : XQ (Rd sl I μ m ds' Q) .ret ρ ds A := XQ.rdR h
/- XQ.rdE -/
theorem W122 {α : Type} {sl : α → Env} {I : α → World → Prop} {μ : α → Nat} {m : Nat} {ds' : List Deferred} {id : Nat} (h : XQ Q (.exit id) ρ ds A) : XQ (Rd sl I μ m ds' Q) (.exit id) ρ ds A := XQ.rdE h
/- XQ.mtR -/
theorem W123 {α : Type} {ρ' : α → Env} {B : α → World → Prop} {ds' : List Deferred} (h : XQ Q .ret ρ ds A) : XQ (Mt ρ' B ds' Q) .ret ρ ds A := XQ.mtR h
/- XQ.mtE -/
theorem W124 {α : Type} {ρ' : α → Env} {B : α → World → Prop} {ds' : List Deferred} {id : Nat} (h : XQ Q (.exit id) ρ ds A) : XQ (Mt ρ' B ds' Q) (.exit id) ρ ds A := XQ.mtE h
/- XQ.isBE -/
theorem W125 {i j : Nat} (h : XQ (inBlockX i Q) (.exit j) ρ ds A) : XQ (inBlockX i Q) (.exit j) ρ ds A := XQ.isBE h
/- XQ.blockE' -/
theorem W126 {id id' : Nat} (h : XQ Q (.exit id') ρ ds A) (hne : Nat.beq id' id = false := by rfl) : XQ (inBlockX id Q) (.exit id') ρ ds A := XQ.blockE' hne h
/- XQ.sqP -/
theorem W127 {y : Code} {c : List PanicEntry} (h : XQ Q (.panic c) ρ ds A) : XQ (Sq P n y Q) (.panic c) ρ ds A := XQ.sqP h
/- XQ.rdP -/
theorem W128 {α : Type} {sl : α → Env} {I : α → World → Prop} {μ : α → Nat} {m : Nat} {ds' : List Deferred} {c : List PanicEntry} (h : XQ Q (.panic c) ρ ds A) : XQ (Rd sl I μ m ds' Q) (.panic c) ρ ds A := XQ.rdP h
/- XQ.mtP -/
theorem W129 {α : Type} {ρ' : α → Env} {B : α → World → Prop} {ds' : List Deferred} {c : List PanicEntry} (h : XQ Q (.panic c) ρ ds A) : XQ (Mt ρ' B ds' Q) (.panic c) ρ ds A := XQ.mtP h
/- XQ.blockP -/
theorem W130 {id : Nat} {c : List PanicEntry} (h : XQ Q (.panic c) ρ ds A) : XQ (inBlockX id Q) (.panic c) ρ ds A := XQ.blockP h
/- XQ.anSP -/
theorem W131 {c : List PanicEntry} (h : XQ Q (.panic c) ρ ds A) : XQ (AnS P n l Q ms s pend) (.panic c) ρ ds A := XQ.anSP h
/- XC.readsQ -/
theorem W132 {id : Nat} {l : List Oper} (h : XL P n l.toArray Q l.length l ρ ds A) (g1 : allRead l = true := by rfl) (hm : P.follows .mixedOrders = true := by kernel_rfl) (hB : Region.lexB .any l.toArray = true := by decide +kernel) (hA : ∀ w m, A w → A { w with drawn := m } := by exact (fun _ m h => h.drewn m)) : XC P n (.region id l.toArray true) Q ρ ds A := XC.readsQ g1 hm hB hA h
end
/-- For whatever b. -/
structure Fa {α : Type} (p : α → Prop) : Prop where
  of : ∀ x, p x
/-- For whatever b2. -/
structure Fb {α : Type} (p : α → Prop) : Prop where
  of : ∀ x, p x
/-- For whatever z. -/
structure Fz {α : Type} (p : α → Prop) : Prop where
  of : ∀ x, p x
/-- Both ways of a condition. -/
structure Gd (p x y : Prop) : Prop where
  fst : p → x
  snd : ¬ p → y
structure Ands (x y : Prop) : Prop where
  fst : x
  snd : y
/-- A step of a walk: by whichever rule fits. -/
theorem XStep {p q : Prop} (k : q) (h : q → p := by intro k; first
        | (refine XL.is ?_; first
          | exact W1 k
          | exact W2 (Gd.fst k) (Gd.snd k)
          | exact W3 k
          | (refine W4 ?_; first
            | exact W5 k
            | exact W6 k
            | exact W7 k
            | exact W8 k
            | exact W9 k
            | exact W10 k
            | exact W11 k)
          | (refine W12 ?_; first
            | exact W13 k
            | exact W14 k
            | exact W15 k
            | exact W16 k
            | exact W11 k)
          | (refine W17 ?_; first
            | exact W18 k
            | exact W19 k
            | exact W20 k
            | exact W21 k
            | exact W22 k
            | exact W11 k)
          | (refine W23 ?_; first
            | exact W24 k
            | exact W25 k)
          | (refine W26 ?_; first
            | exact W27 k
            | exact W28 k
            | exact W29 k
            | exact W30 k
            | exact W31 k
            | exact W32 k)
          | exact XL.pure 1 (by rfl) k
          | exact W33 k
          | (refine W34 ?_; first
            | exact W35 k
            | exact W36 k
            | exact W37 k
            | exact W38 k
            | exact W39 k
            | exact W40 k
            | exact W41 k
            | exact W42 k
            | exact W43 k
            | exact W44 k
            | exact W45 k
            | exact W46 k)
          | exact W47 k
          | exact W48 k
          | exact W49 (Fa.of k)
          | exact W50 (Fa.of k)
          | exact W51 (Fa.of k)
          | exact W52 (Fb.of k)
          | exact W53 k
          | exact W54 k
          | exact W55 k
          | exact W56 (Fa.of k)
          | exact W57 k
          | exact W58 k
          | exact W59 k
          | exact W60 k
          | exact W61 k
          | exact W62 k
          | exact W63 k
          | exact W64 k
          | exact W65 k
          | exact W66 k
          | exact W67 k
          | exact W68 k
          | exact W69 k
          | exact W70 (Fz.of k))
        | (refine XC.is ?_; first
          | exact W100 k
          | exact W101 k
          | exact W102 k
          | exact W103 k
          | exact W104 k
          | exact W105 k
          | (refine W106 ?_; first
            | exact W107 (Gd.fst k) (Gd.snd k)
            | exact W108 k
            | exact W109 k)
          | (refine W110 ?_; first
            | exact W111 k
            | fail))
        | (refine XQ.is ?_; first
          | exact W112 k
          | exact W113 k
          | (refine W114 ?_; exact W115 k)
          | exact W116 k
          | exact W117 k
          | exact W118 k
          | exact W119 k
          | exact W120 k
          | exact W121 k
          | exact W122 k
          | exact W123 k
          | exact W124 k
          | (refine W125 ?_; exact W126 k)
          | exact W127 k
          | exact W128 k
          | exact W129 k
          | exact W130 k
          | exact W131 k)
        | (refine XS.is ?_; first
          | (refine W71 ?_; exact W72 k)
          | (refine W73 ?_; first
            | exact W74 k
            | exact W75 (Gd.fst k) (Gd.snd k)
            | exact W76 k
            | (refine W77 ?_; first
              | exact W78 k
              | exact W79 k
              | exact W80 k
              | exact W81 k
              | exact W82 k
              | exact W83 k)
            | (refine W84 ?_; first
              | exact W85 k
              | exact W86 k
              | exact W87 k)
            | (refine W88 ?_; first
              | exact W89 k
              | exact W90 k
              | exact W91 k
              | exact W92 k
              | exact W87 k)
            | (refine W93 ?_; first
              | exact W94 k
              | exact W87 k)
            | exact W87 k)
          | exact W95 k
          | (refine W96 ?_; exact W97 (Ands.fst k) (Ands.snd k))
          | (refine W98 ?_; exact W99 (Ands.fst k) (Ands.fst (Ands.snd k)) (Ands.snd (Ands.snd k))))) : p := h k
section
end
end Go.Proofs.Ytjnineeeffecaaa.X
