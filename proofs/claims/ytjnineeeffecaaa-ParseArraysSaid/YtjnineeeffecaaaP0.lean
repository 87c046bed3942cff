/- The tree of tokens, by rules: what a parse comes to. Plain Lean. -/
import Derived.Test.YtjnineeeffecaaaX2
namespace Go.Proofs.Ytjnineeeffecaaa
open Go

/-! ### Texts, tokens, trees -/
@[reducible] def tx (l : List UInt8) : ByteArray := ⟨l.toArray⟩
structure Tok where
  kind : Int
  pos : Int
  text : ByteArray
  n : Int
inductive Ty where
  | mk (kind n : Int) (name : ByteArray) (of : List Ty)
inductive Nd where
  | mk (kind : Int) (text : ByteArray) (n : Int) (t : Ty) (kids : List Nd)
@[reducible] def Ty.nil : Ty := .mk 0 0 (tx []) []
@[reducible] def Nd.nil : Nd := .mk 0 (tx []) 0 .nil []
@[reducible] def Ty.kind : Ty → Int
  | .mk k _ _ _ => k
@[reducible] def Nd.kind : Nd → Int
  | .mk k _ _ _ _ => k
@[reducible] def Nd.t : Nd → Ty
  | .mk _ _ _ t _ => t
@[reducible] def Nd.kids : Nd → List Nd
  | .mk _ _ _ _ l => l

def Nd.setKids (l : List Nd) : Nd → Nd
  | .mk k s n t _ => .mk k s n t l
def Nd.toGlobal : Nd → Nd
  | .mk _ s n t l => .mk 21 s n t l
/-! ### What a rule comes to: a thing, and the token that is due; or a place, and an error's number -/
inductive Out (α : Type) where
  | ok (a : α) (i : Nat)
  | bad (t k : Int)
abbrev PM (α : Type) := Nat → Out α
def PM.pure {α : Type} (a : α) : PM α := fun i => .ok a i
def PM.bind {α β : Type} (m : PM α) (f : α → PM β) : PM β := fun i => match m i with
  | .ok a j => f a j
  | .bad t k => .bad t k
structure Src where
  T : List Tok
  e : Int
section
variable (S : Src)
def due (n : Nat) : Tok := match S.T[n]? with
  | some t => t
  | none => ⟨0, S.e, tx [], 0⟩
def give {α : Type} (k : Int) : PM α := fun i => .bad (due S i).pos k
def isB (ts : List ByteArray) (i : Nat) : Bool := (decide ((due S i).kind = 4) || decide ((due S i).kind = 2)) && ts.any fun t => decide (t = (due S i).text)
def takes (t : ByteArray) : PM Bool := fun i => if isB S [t] i = true then .ok true (i + 1) else .ok false i
def must (t : ByteArray) : PM Unit := fun i => if isB S [t] i = true then .ok () (i + 1) else .bad (due S i).pos 2
def name : PM ByteArray := fun i => if (due S i).kind = 1 then .ok (due S i).text (i + 1) else .bad (due S i).pos 2
@[reducible] def words : List (ByteArray × Int) := [(tx [118, 111, 105, 100], 1), (tx [99, 104, 97, 114], 2), (tx [105, 110, 116], 3), (tx [108, 111, 110, 103], 4), (tx [115, 116, 114, 117, 99, 116], 7), (tx [117, 110, 105, 111, 110], 8)]
def typed (i : Nat) : Bool := isB S (words.map (·.1)) i
def wordOf (t : ByteArray) : List (ByteArray × Int) → Int
  | [] => 0
  | (s, k) :: l => if t = s then k else wordOf t l
def base : PM Ty := fun i => if typed S i = true then
    let k := wordOf (due S i).text words
    if k = 7 ∨ k = 8 then (name S).bind (fun s => .pure (.mk k 0 s [])) (i + 1) else .ok (.mk k 0 (tx []) []) (i + 1)
  else .bad (due S i).pos 2
@[reducible] def ptr (t : Ty) : Ty := .mk 5 0 (tx []) [t]
def starsF : Nat → Ty → PM Ty
  | 0, t => .pure t
  | f + 1, t => fun i => if isB S [tx [42]] i = true then starsF f (ptr t) (i + 1) else .ok t i
def stars (t : Ty) : PM Ty := starsF S (S.T.length + 1) t
def arraysF : Nat → List Int → PM (List Int)
  | 0, l => .pure l
  | f + 1, l => fun i => if isB S [tx [91]] i = true then
      let t := due S (i + 1)
      if t.kind ≠ 3 then .bad t.pos 2 else if t.n < 1 ∨ 4096 < t.n then .bad t.pos 5 else
      (must S (tx [93])).bind (fun _ => arraysF f (l ++ [t.n])) (i + 2)
    else .ok l i
def arrays : PM (List Int) := arraysF S (S.T.length + 1) []
def wrapS (t : Ty) : List Int → Ty
  | [] => t
  | n :: l => .mk 6 n (tx []) [wrapS t l]
def listF {α : Type} (one : PM α) : Nat → List α → PM (List α)
  | f, l => fun i => if isB S [tx [41]] i = true then .ok l (i + 1) else match f with
    | 0 => .bad (due S i).pos 5
    | f + 1 => (if l.length = 0 then .pure () else must S (tx [44])).bind (fun _ => one.bind fun a => fun j => if isB S [tx [44], tx [41]] j = true then listF one f (l ++ [a]) j else .bad (due S j).pos 2) i
def list {α : Type} (one : PM α) : PM (List α) := (must S (tx [40])).bind fun _ => listF S one 6 []
@[reducible] def fnT (t : Ty) (l : List Ty) : Ty := .mk 9 0 (tx []) (t :: l)
def asksB (ask : PM Ty) (t : Ty) : PM Ty := (list S ask).bind fun l => .pure (fnT t l)
def askB (ask : PM Ty) : PM Ty := (base S).bind fun b => (stars S b).bind fun t => fun i =>
  if isB S [tx [40]] i = true then ((must S (tx [42])).bind fun _ => (must S (tx [41])).bind fun _ => (asksB S ask t).bind fun u => .pure (ptr u)) (i + 1) else .ok t i
/-- The rules by how many of those that count may still stand around. -/
def askL : Nat → PM Ty
  | 0 => give S 4
  | n + 1 => askB S (askL n)
@[reducible] def declN (s : ByteArray) (t : Ty) : Nd := .mk 13 s 0 t []
def declB (ask : PM Ty) (b : Ty) : PM Nd := (stars S b).bind fun t => fun i =>
  if isB S [tx [40]] i = true then
    ((must S (tx [42])).bind fun _ => (name S).bind fun s => (arrays S).bind fun l => (must S (tx [41])).bind fun _ => (asksB S ask t).bind fun u => .pure (declN s (wrapS (ptr u) l))) (i + 1)
  else ((name S).bind fun s => (arrays S).bind fun l => .pure (declN s (wrapS t l))) i
def bracedB (ex : PM Nd) : PM Nd := (must S (tx [40])).bind fun _ => ex.bind fun x => (must S (tx [41])).bind fun _ => .pure x
def termB (ex : PM Nd) : PM Nd := fun i => if (due S i).kind = 3 then .ok (.mk 1 (tx []) (due S i).n .nil []) (i + 1) else
  if isB S [tx [40]] i = true then bracedB S ex i else (name S).bind (fun s => .pure (.mk 2 s 0 .nil [])) i
def postF (ex : PM Nd) : Nat → Nd → PM Nd
  | 0, x => .pure x
  | f + 1, x => fun i =>
    if isB S [tx [91]] i = true then (ex.bind fun y => (must S (tx [93])).bind fun _ => postF ex f (.mk 6 (tx []) 0 .nil [x, y])) (i + 1) else
    if isB S [tx [46]] i = true then ((name S).bind fun s => postF ex f (.mk 7 s 0 .nil [x])) (i + 1) else
    if isB S [tx [45, 62]] i = true then ((name S).bind fun s => postF ex f (.mk 8 s 0 .nil [x])) (i + 1) else
    if isB S [tx [40]] i = true then ((list S ex).bind fun l => postF ex f (.mk 9 (tx []) 0 .nil (x :: l))) i else .ok x i
def postB (ex : PM Nd) : PM Nd := (termB S ex).bind (postF S ex (S.T.length + 1))
def unaryB (ex un : PM Nd) (ask : PM Ty) : PM Nd := fun i =>
  if isB S [tx [45], tx [33], tx [126], tx [42], tx [38]] i = true then (un.bind fun x => .pure (.mk 3 (due S i).text 0 .nil [x])) (i + 1) else
  if isB S [tx [40]] i = true ∧ (due S (i + 1)).kind = 2 ∧ (due S (i + 1)).text ≠ tx [115, 105, 122, 101, 111, 102] then
    (ask.bind fun t => (must S (tx [41])).bind fun _ => un.bind fun x => .pure (.mk 10 (tx []) 0 t [x])) (i + 1) else
  if isB S [tx [115, 105, 122, 101, 111, 102]] i = true then ((must S (tx [40])).bind fun _ => ask.bind fun t => (must S (tx [41])).bind fun _ => .pure (.mk 11 (tx []) 0 t [])) (i + 1) else
  postB S ex i
@[reducible] def signs : List (List ByteArray) := [[tx [124]], [tx [94]], [tx [38]], [tx [61, 61], tx [33, 61]], [tx [60], tx [60, 61], tx [62], tx [62, 61]], [tx [60, 60], tx [62, 62]], [tx [43], tx [45]], [tx [42], tx [47], tx [37]]]
def rowF (s : List ByteArray) (sub : PM Nd) : Nat → Nd → PM Nd
  | 0, x => .pure x
  | f + 1, x => fun i => if isB S s i = true then (sub.bind fun y => rowF s sub f (.mk 4 (due S i).text 0 .nil [x, y])) (i + 1) else .ok x i
def rowB (un : PM Nd) : List (List ByteArray) → PM Nd
  | [] => un
  | s :: l => (rowB un l).bind (rowF S s (rowB un l) (S.T.length + 1))
def exprB (ex un : PM Nd) : PM Nd := (rowB S un signs).bind fun x => fun i => if isB S [tx [61]] i = true then (ex.bind fun y => .pure (.mk 5 (tx []) 0 .nil [x, y])) (i + 1) else .ok x i
def euL : Nat → PM Nd × PM Nd
  | 0 => (give S 4, give S 4)
  | n + 1 => (exprB S (euL n).1 (euL n).2, unaryB S (euL n).1 (euL n).2 (askL S n))
def exprL (n : Nat) : PM Nd := (euL S n).1
def unaryL (n : Nat) : PM Nd := (euL S n).2
def simpleB (ex : PM Nd) (ask : PM Ty) : PM Nd := fun i =>
  if isB S [tx [114, 101, 116, 117, 114, 110]] i = true then (if isB S [tx [59]] (i + 1) = true then .ok (.mk 16 (tx []) 0 .nil []) (i + 1) else (ex.bind fun x => .pure (.mk 16 (tx []) 0 .nil [x])) (i + 1)) else
  if isB S [tx [98, 114, 101, 97, 107]] i = true then .ok (.mk 18 (tx []) 0 .nil []) (i + 1) else
  if isB S [tx [99, 111, 110, 116, 105, 110, 117, 101]] i = true then .ok (.mk 19 (tx []) 0 .nil []) (i + 1) else
  if typed S i = true then ((base S).bind fun b => (declB S ask b).bind fun d => fun j => if isB S [tx [61]] j = true then (ex.bind fun x => .pure (d.setKids [x])) (j + 1) else .ok d j) i else
  (ex.bind fun x => .pure (.mk 12 (tx []) 0 .nil [x])) i
def blockF (st : PM Nd) : Nat → List Nd → PM Nd
  | 0, l => .pure (.mk 17 (tx []) 0 .nil l)
  | f + 1, l => fun i => if isB S [tx [125]] i = true then .ok (.mk 17 (tx []) 0 .nil l) (i + 1) else (st.bind fun x => blockF st f (l ++ [x])) i
def stmtB (st ex : PM Nd) (ask : PM Ty) : PM Nd := fun i =>
  if isB S [tx [123]] i = true then blockF S st (S.T.length + 1) [] (i + 1) else
  if isB S [tx [59]] i = true then .ok (.mk 17 (tx []) 0 .nil []) (i + 1) else
  if isB S [tx [105, 102]] i = true then ((bracedB S ex).bind fun c => st.bind fun x => fun j => if isB S [tx [101, 108, 115, 101]] j = true then (st.bind fun y => .pure (.mk 14 (tx []) 0 .nil [c, x, y])) (j + 1) else .ok (.mk 14 (tx []) 0 .nil [c, x]) j) (i + 1) else
  if isB S [tx [119, 104, 105, 108, 101]] i = true then ((bracedB S ex).bind fun c => st.bind fun x => .pure (.mk 15 (tx []) 0 .nil [c, x])) (i + 1) else
  ((simpleB S ex ask).bind fun x => (must S (tx [59])).bind fun _ => .pure x) i
def stmtL : Nat → PM Nd
  | 0 => give S 4
  | n + 1 => stmtB S (stmtL n) (exprL S n) (askL S n)
def recordF (ask : PM Ty) (t : Ty) : Nat → List Nd → PM Nd
  | 0, l => .pure (.mk 20 (tx []) 0 t l)
  | f + 1, l => fun i => if isB S [tx [125]] i = true then ((must S (tx [59])).bind fun _ => .pure (.mk 20 (tx []) 0 t l)) (i + 1) else
    ((base S).bind fun b => (declB S ask b).bind fun d => (must S (tx [59])).bind fun _ => recordF ask t f (l ++ [d])) i
def recordB (ask : PM Ty) (t : Ty) : PM Nd := (must S (tx [123])).bind fun _ => recordF S ask t (S.T.length + 1) []
def fnB (ask : PM Ty) (st : PM Nd) (t : Ty) : PM Nd := (name S).bind fun s => (list S ((base S).bind (declB S ask))).bind fun l => fun i =>
  if isB S [tx [123]] i = true then (st.bind fun x => .pure (.mk 22 s 0 (fnT t (l.map Nd.t)) (l ++ [x]))) i else .bad (due S i).pos 2
def itemB (ask : PM Ty) (st : PM Nd) : PM Nd := fun i => ((base S).bind fun b =>
  if (b.kind = 7 ∨ b.kind = 8) ∧ (due S (i + 2)).kind = 4 ∧ (due S (i + 2)).text = tx [123] then recordB S ask b else
  (stars S b).bind fun t => fun j =>
    if (due S j).kind = 1 ∧ (due S (j + 1)).kind = 4 ∧ (due S (j + 1)).text = tx [40] then fnB S ask st t j else
    ((declB S ask t).bind fun d => (must S (tx [59])).bind fun _ => .pure d.toGlobal) j) i
def item : PM Nd := itemB S (askL S 60) (stmtL S 60)
def unitF : Nat → List Nd → PM (List Nd)
  | 0, l => .pure l
  | f + 1, l => fun i => if i < S.T.length then ((item S).bind fun x => unitF f (l ++ [x])) i else .ok l i
end
/-- How deep a tree is, as far as is asked. -/
def depthL : Nat → Nd → Nat
  | 0, _ => 1
  | f + 1, x => (x.kids.map (depthL f)).foldl max 0 + 1
/-- What the parser answers: a tree, a place, an error's number. -/
def parseT (S : Src) : Nd × Int × Int := match unitF S (S.T.length + 1) [] 0 with
  | .bad t k => (.nil, t, k)
  | .ok l _ => let u := Nd.mk 23 (tx []) 0 .nil l
    if 250 < depthL 250 u then (.nil, 0, 4) else (u, 0, 0)
end Go.Proofs.Ytjnineeeffecaaa
