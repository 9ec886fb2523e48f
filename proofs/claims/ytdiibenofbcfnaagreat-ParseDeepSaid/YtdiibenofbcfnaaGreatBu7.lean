/- Several texts put together: LexA, ParA, LexH, LexP. -/
import Derived.Test.YtdiibenofbcfnaaGreatBu6
import Derived.Test.YtdiibenofbcfnaaGreatBu1
set_option linter.unusedSimpArgs false
set_option linter.unusedVariables false
namespace Go.Proofs.YtdiibenofbcfnaaGreat
open Go.RowKit
structure TokF where
  k : Nat
  at' : Nat
  s : List Nat
  z : Int
deriving DecidableEq
def isDig (c : Nat) : Bool := decide (48 ≤ c ∧ c ≤ 57)
def isLet (c : Nat) : Bool := decide (65 ≤ c ∧ c ≤ 90) || decide (97 ≤ c ∧ c ≤ 122) || decide (c = 95)
def passS : Bool → List Nat → Nat
  | _, [] => 0
  | true, _ :: r => passS false r + 1
  | false, c :: r => if c = 9 ∨ c = 13 ∨ c = 32 then passS false r + 1
    else if c = 92 then (if r.getD 0 0 = 10 then passS true r + 1 else 0)
    else if c = 35 then 1 + (r.takeWhile (· ≠ 10)).length
    else 0
def passN (l : List Nat) : Nat := passS false l
def numL (l : List Nat) : Nat :=
  let d := (l.takeWhile isDig).length
  match l.drop d with
  | 46 :: r => d + 1 + (r.takeWhile isDig).length
  | _ => d
def quotS (sign : Nat) : Bool → List Nat → Option Nat
  | _, [] => none
  | e, c :: r => if c = 10 then none else if e then (quotS sign false r).map (· + 1) else if c = sign then some 0 else (quotS sign (decide (c = 92)) r).map (· + 1)
def quotN (sign : Nat) (l : List Nat) : Option Nat := quotS sign false l
def isOct (c : Nat) : Bool := decide (48 ≤ c ∧ c ≤ 55)
def octD : Nat → List Nat → Nat → Nat × Nat
  | 0, _, n => (n, 0)
  | _ + 1, [], n => (n, 0)
  | k + 1, c :: r, n => if isOct c then ((octD k r (n * 8 + (c - 48))).1, (octD k r (n * 8 + (c - 48))).2 + 1) else (n, 0)
def escB (c : Nat) : Nat := if c = 97 then 7 else if c = 98 then 8 else if c = 102 then 12 else if c = 110 then 10 else if c = 114 then 13 else if c = 116 then 9 else if c = 118 then 11 else c
def unesc : Nat → List Nat → List Nat
  | 0, _ => []
  | _ + 1, [] => []
  | f + 1, c :: r => if c = 92 then
      (if (octD 3 r 0).2 = 0 then (match r with | [] => [] | d :: r' => escB d :: unesc f r') else (octD 3 r 0).1 % 256 :: unesc f (r.drop (octD 3 r 0).2))
    else c :: unesc f r
def unreg : List Nat → List Nat
  | [] => []
  | [c] => [c]
  | c :: d :: r => if c = 92 then (if d = 47 then 47 :: unreg r else 92 :: d :: unreg r) else c :: unreg (d :: r)
def wordsL : List (List Nat) := [[66, 69, 71, 73, 78], [69, 78, 68], [79, 80, 69, 78], [67, 76, 79, 83, 69], [102, 117, 110, 99, 116, 105, 111, 110], [105, 102], [101, 108, 115, 101], [119, 104, 105, 108, 101], [102, 111, 114], [100, 111], [98, 114, 101, 97, 107], [99, 111, 110, 116, 105, 110, 117, 101], [110, 101, 120, 116], [101, 120, 105, 116], [114, 101, 116, 117, 114, 110], [100, 101, 108, 101, 116, 101], [105, 110], [103, 101, 116, 108, 105, 110, 101], [112, 114, 105, 110, 116], [112, 114, 105, 110, 116, 102]]
def builtL : List (List Nat) := [[108, 101, 110, 103, 116, 104], [115, 117, 98, 115, 116, 114], [105, 110, 100, 101, 120], [115, 112, 108, 105, 116], [115, 117, 98], [103, 115, 117, 98], [109, 97, 116, 99, 104], [115, 112, 114, 105, 110, 116, 102], [105, 110, 116], [116, 111, 108, 111, 119, 101, 114], [116, 111, 117, 112, 112, 101, 114], [99, 108, 111, 115, 101]]
def singleL : List Nat := [123, 125, 40, 41, 91, 93, 59, 44, 43, 45, 42, 47, 37, 94, 33, 62, 60, 63, 58, 126, 36, 61]
def doubleL : List (List Nat) := [[124, 38], [124, 124], [38, 38], [33, 126], [61, 61], [33, 61], [60, 61], [62, 61], [43, 43], [45, 45], [43, 61], [45, 61], [42, 61], [47, 61], [37, 61], [94, 61]]
def operandL : Option TokF → Bool
  | none => true
  | some t => if t.k = 1 ∨ t.k = 7 then true else if t.k = 9 then decide (t.s ≠ [41]) && (decide (t.s ≠ [93]) && (decide (t.s ≠ [43, 43]) && decide (t.s ≠ [45, 45]))) else false
def nameN (l : List Nat) : Nat := (l.takeWhile fun c => isLet c || isDig c).length
def nameK (l : List Nat) : Nat := if l.take (nameN l) ∈ wordsL then 7 else if l.take (nameN l) ∈ builtL then 8 else if (l.drop (nameN l)).head? = some 40 then 6 else 5
def signN (l : List Nat) : Nat := if l.length ≥ 2 ∧ l.take 2 ∈ doubleL then 2 else if l.getD 0 0 ∈ singleL then 1 else 0
def numZ (T : List Nat) : Int := if nW T + nB T = 0 then 0 else pz T
def nextL (last : Option TokF) (a : Nat) (l : List Nat) : Except Int (TokF × Nat) :=
  match l with
  | [] => .error 0
  | c :: r =>
    if c = 10 then .ok (⟨1, a, [], 0⟩, 1)
    else if isDig c ∨ (c = 46 ∧ isDig (r.getD 0 0)) then
      (if 0 < nW (l.take (numL l)) + nB (l.take (numL l)) ∧ 30 < (strip (wholeL (l.take (numL l)))).length then .error 2 else .ok (⟨2, a, [], numZ (l.take (numL l))⟩, numL l))
    else if c = 34 then (match quotN 34 r with | none => .error 7 | some n => .ok (⟨3, a, unesc (n + 1) (r.take n), 0⟩, n + 2))
    else if c = 47 ∧ operandL last then (match quotN 47 r with | none => .error 7 | some n => .ok (⟨4, a, unreg (r.take n), 0⟩, n + 2))
    else if isLet c then .ok (⟨nameK l, a, l.take (nameN l), 0⟩, nameN l)
    else if signN l = 0 then .error 4 else .ok (⟨9, a, l.take (signN l), 0⟩, signN l)
def allF : Nat → Nat → List Nat → List TokF → Except (Nat × Int) (List TokF)
  | 0, a, _, ts => .ok (ts ++ [⟨0, a, [], 0⟩])
  | f + 1, a, l, ts =>
    match l.drop (passN l) with
    | [] => .ok (ts ++ [⟨0, a + l.length, [], 0⟩])
    | c :: r => match nextL ts.getLast? (a + passN l) (c :: r) with
      | .error e => .error (a + passN l, e)
      | .ok (t, n) => allF f (a + passN l + n) ((c :: r).drop n) (ts ++ [t])
inductive NodeT where
  | mk (k at' : Nat) (s : List Nat) (z : Int) (i : Nat) (l : List NodeT)
def NodeT.k : NodeT → Nat | .mk k _ _ _ _ _ => k
def NodeT.at' : NodeT → Nat | .mk _ a _ _ _ _ => a
def NodeT.s : NodeT → List Nat | .mk _ _ s _ _ _ => s
def NodeT.z : NodeT → Int | .mk _ _ _ z _ _ => z
def NodeT.i : NodeT → Nat | .mk _ _ _ _ i _ => i
def NodeT.l : NodeT → List NodeT | .mk _ _ _ _ _ l => l
structure FuncT where
  name : List Nat
  params : List (List Nat)
  body : NodeT
  at' : Nat
structure RuleT where
  k : Nat
  at' : Nat
  l : List NodeT
  body : NodeT
  bare : Bool
structure TreeT where
  funcs : List FuncT
  rules : List RuleT
inductive PR (α : Type) where
  | ok (x : α) (a d : Nat)
  | err (pl : Nat) (k : Int)
def PP (α : Type) : Type := Nat → Nat → PR α
def PP.pure {α : Type} (x : α) : PP α := fun a d => .ok x a d
def PP.bind {α β : Type} (m : PP α) (f : α → PP β) : PP β := fun a d => match m a d with
  | .ok x a' d' => f x a' d'
  | .err p k => .err p k
instance : Monad PP where
  pure := PP.pure
  bind := PP.bind
section
variable (ts : List TokF)
def tk (a : Nat) : TokF := ts.getD a ⟨0, 0, [], 0⟩
def isS (a : Nat) (ss : List (List Nat)) : Bool := (((tk ts a).k : Int) == 9) && decide ((tk ts a).s ∈ ss)
def isW (a : Nat) (ss : List (List Nat)) : Bool := (((tk ts a).k : Int) == 7) && decide ((tk ts a).s ∈ ss)
def failP {α : Type} (k : Int) : PP α := fun a _ => .err (tk ts a).at' k
def tokP : PP TokF := fun a d => .ok (tk ts a) a d
def askP (f : Nat → Bool) : PP Bool := fun a d => .ok (f a) a d
def sgnP (ss : List (List Nat)) : PP Bool := fun a d => .ok (isS ts a ss) a d
def wrdP (ss : List (List Nat)) : PP Bool := fun a d => .ok (isW ts a ss) a d
def nx (a : Nat) : Nat := if (((tk ts a).k : Int) == 0) = true then a else a + 1
def nextP : PP TokF := fun a d => .ok (tk ts a) (nx ts a) d
def takeP (s : List Nat) : PP Unit := do
  if ← sgnP ts [s] then let _ ← nextP ts; pure () else failP ts 4
def keyP (s : List Nat) : PP Unit := do
  if ← wrdP ts [s] then let _ ← nextP ts; pure () else failP ts 4
def nameP : PP TokF := do
  let t ← tokP ts
  if ((t.k : Int) == 5) = true then nextP ts else failP ts 4
def enterP : PP Unit := fun a d => if 64 ≤ d then .err (tk ts a).at' 6 else .ok () a (d + 1)
def leaveP : PP Unit := fun a d => .ok () a (d - 1)
def iter {α : Type} (go : Nat → Bool) (step : α → PP α) : Nat → α → PP α
  | 0, x => PP.pure x
  | f + 1, x => fun a d => if go a then (PP.bind (step x) (iter go step f)) a d else .ok x a d
def linesF : Nat → Nat → Nat
  | 0, a => a
  | f + 1, a => if (((tk ts a).k : Int) == 1) = true then linesF f (nx ts a) else a
def linesP : PP Unit := fun a d => .ok () (linesF ts ts.length a) d
def endsF : Nat → Nat → Nat
  | 0, a => a
  | f + 1, a => if ((((tk ts a).k : Int) == 1) || isS ts a [[59]]) = true then endsF f (nx ts a) else a
def endsP : PP Unit := fun a d => .ok () (endsF ts ts.length a) d
def overA (a : Nat) : Bool := (((tk ts a).k : Int) == 1) || ((((tk ts a).k : Int) == 0) || isS ts a [[59], [125]])
def closeP : PP Unit := do
  if ← askP (overA ts) then endsP ts else failP ts 4
def lval (n : NodeT) : Bool := ((n.k : Int) == 4) || (((n.k : Int) == 5) || ((n.k : Int) == 6))
def twoT (k : Nat) (s : List Nat) (a b : NodeT) : NodeT := .mk k a.at' s 0 0 [a, b]
structure Par where
  cond : PP NodeT
  expr : PP NodeT
  signed : PP NodeT
  atom : PP NodeT
  stepped : PP NodeT
  statement : PP NodeT
variable (p : Par)
def exprF : PP NodeT := do
  enterP ts
  let n ← p.cond
  let b ← (if lval n = true then sgnP ts [[61], [43, 61], [45, 61], [42, 61], [47, 61], [37, 61], [94, 61]] else pure false)
  if b then
    let t ← nextP ts
    linesP ts
    let y ← p.expr
    leaveP
    pure (twoT 7 t.s n y)
  else
    leaveP
    pure n
def listS (l : List NodeT) : PP (List NodeT) := do
  let _ ← nextP ts
  linesP ts
  let y ← exprF ts p
  pure (l ++ [y])
def listF : PP (List NodeT) := do
  let x ← exprF ts p
  iter (fun a => isS ts a [[44]]) (listS ts p) ts.length [x]
def withinF (s e : List Nat) : PP (List NodeT) := do
  takeP ts s
  let l ← listF ts p
  takeP ts e
  pure l
def ahead (n a : Nat) : TokF := tk ts (min (a + n) (ts.length - 1))
def aheadP (n : Nat) : PP TokF := fun a d => .ok (ahead ts n a) a d
def argsF : PP (List NodeT) := do
  let e ← aheadP ts 1
  let b ← sgnP ts [[40]]
  if (b && (((e.k : Int) == 9) && decide (e.s = [41]))) = true then
    let _ ← nextP ts
    let _ ← nextP ts
    pure []
  else withinF ts p [40] [41]
def placedA (a : Nat) : Bool := (((tk ts a).k : Int) == 5) || isS ts a [[36]]
def placeF : PP NodeT := do
  if ← askP (placedA ts) then
    let t ← nextP ts
    if ((t.k : Int) == 5) = true then
      if ← sgnP ts [[91]] then
        let l ← withinF ts p [91] [93]
        pure (.mk 5 t.at' t.s 0 0 l)
      else pure (.mk 4 t.at' t.s 0 0 [])
    else
      enterP ts
      let b ← sgnP ts [[43, 43], [45, 45]]
      let n ← if b then p.stepped else p.atom
      leaveP
      pure (.mk 6 t.at' [] 0 0 [n])
  else failP ts 4
def steppedF : PP NodeT := do
  let t ← nextP ts
  let n ← placeF ts p
  pure (.mk 17 t.at' (t.s.take 1 ++ [120]) 0 0 [n])
def otherF : PP NodeT := do
  let t ← tokP ts
  if ← askP (placedA ts) then placeF ts p
  else if ← wrdP ts [[103, 101, 116, 108, 105, 110, 101]] then
    let _ ← nextP ts
    if ← askP (placedA ts) then
      let x ← placeF ts p
      pure (.mk 20 t.at' [] 0 1 [x])
    else pure (.mk 20 t.at' [] 0 0 [])
  else if ← sgnP ts [[40]] then
    let l ← withinF ts p [40] [41]
    match l with
    | [x] => pure x
    | _ =>
      keyP ts [105, 110]
      let m ← nameP ts
      pure (.mk 11 t.at' m.s 0 0 l)
  else failP ts 4
def atomF : PP NodeT := do
  let t ← tokP ts
  if ((t.k : Int) == 2) = true then
    let _ ← nextP ts
    pure (.mk 1 t.at' t.s t.z 0 [])
  else if ((t.k : Int) == 3) = true then
    let _ ← nextP ts
    pure (.mk 2 t.at' t.s t.z 0 [])
  else if ((t.k : Int) == 4) = true then
    let _ ← nextP ts
    pure (.mk 3 t.at' t.s t.z 0 [])
  else if ((t.k : Int) == 6) = true then
    let _ ← nextP ts
    let l ← argsF ts p
    pure (.mk 18 t.at' t.s t.z 0 l)
  else if ((t.k : Int) == 8) = true then
    let _ ← nextP ts
    let b ← (if t.s = [108, 101, 110, 103, 116, 104] then sgnP ts [[40]] else pure true)
    if b then
      let l ← argsF ts p
      pure (.mk 19 t.at' t.s t.z 0 l)
    else pure (.mk 19 t.at' t.s t.z 0 [])
  else otherF ts p
def stepF : PP NodeT := do
  if ← sgnP ts [[43, 43], [45, 45]] then steppedF ts p
  else
    let n ← atomF ts p
    let b ← (if lval n = true then sgnP ts [[43, 43], [45, 45]] else pure false)
    if b then
      let t ← nextP ts
      pure (.mk 17 n.at' ([120] ++ t.s.take 1) 0 0 [n])
    else pure n
def deeperF : PP NodeT := do
  enterP ts
  let n ← p.signed
  leaveP
  pure n
def signedF : PP NodeT := do
  if ← sgnP ts [[43], [45], [33]] then
    let t ← nextP ts
    let n ← deeperF ts p
    pure (.mk 16 t.at' t.s 0 0 [n])
  else
    let n ← stepF ts p
    if ← sgnP ts [[94]] then
      let _ ← nextP ts
      let y ← deeperF ts p
      pure (twoT 15 [94] n y)
    else pure n
def productS (n : NodeT) : PP (NodeT) := do
  let t ← nextP ts
  let y ← signedF ts p
  pure (twoT 15 t.s n y)
def productF : PP NodeT := do
  let x ← signedF ts p
  iter (fun a => isS ts a [[42], [47], [37]]) (productS ts p) ts.length x
def sumS (n : NodeT) : PP (NodeT) := do
  let t ← nextP ts
  let y ← productF ts p
  pure (twoT 15 t.s n y)
def sumF : PP NodeT := do
  let x ← productF ts p
  iter (fun a => isS ts a [[43], [45]]) (sumS ts p) ts.length x
def furtherA (a : Nat) : Bool := (((tk ts a).k : Int) == 2) || ((((tk ts a).k : Int) == 3) || ((((tk ts a).k : Int) == 4) || ((((tk ts a).k : Int) == 5) || ((((tk ts a).k : Int) == 6) || ((((tk ts a).k : Int) == 8) || isS ts a [[36], [33], [40], [43, 43], [45, 45]])))))
def readsA (a : Nat) : Bool := isS ts a [[124, 38]] && ((((ahead ts 1 a).k : Int) == 7) && decide ((ahead ts 1 a).s = [103, 101, 116, 108, 105, 110, 101]))
def catS (n : NodeT) : PP (NodeT) := do
  let y ← sumF ts p
  pure (twoT 14 [] n y)
def catS2 (n : NodeT) : PP (NodeT) := do
  let _ ← nextP ts
  let _ ← nextP ts
  if ← askP (placedA ts) then
    let y ← placeF ts p
    pure (.mk 20 n.at' [] 0 3 [n, y])
  else pure (.mk 20 n.at' [] 0 2 [n])
def catF : PP NodeT := do
  let x ← sumF ts p
  let n ← iter (furtherA ts) (catS ts p) ts.length x
  iter (readsA ts) (catS2 ts p) ts.length n
def compF : PP NodeT := do
  let n ← catF ts p
  if ← sgnP ts [[60], [60, 61], [61, 61], [33, 61], [62], [62, 61]] then
    let t ← nextP ts
    let y ← catF ts p
    pure (twoT 13 t.s n y)
  else pure n
def matchS (n : NodeT) : PP (NodeT) := do
  let t ← nextP ts
  let y ← compF ts p
  pure (twoT 12 t.s n y)
def matchF : PP NodeT := do
  let x ← compF ts p
  iter (fun a => isS ts a [[126], [33, 126]]) (matchS ts p) ts.length x
def isinS (n : NodeT) : PP (NodeT) := do
  let _ ← nextP ts
  let m ← nameP ts
  pure (.mk 11 n.at' m.s 0 0 [n])
def isinF : PP NodeT := do
  let x ← matchF ts p
  iter (fun a => isW ts a [[105, 110]]) (isinS ts) ts.length x
def andS (n : NodeT) : PP (NodeT) := do
  let _ ← nextP ts
  linesP ts
  let y ← isinF ts p
  pure (twoT 9 [] n y)
def andF : PP NodeT := do
  let x ← isinF ts p
  iter (fun a => isS ts a [[38, 38]]) (andS ts p) ts.length x
def orS (n : NodeT) : PP (NodeT) := do
  let _ ← nextP ts
  linesP ts
  let y ← andF ts p
  pure (twoT 10 [] n y)
def orF : PP NodeT := do
  let x ← andF ts p
  iter (fun a => isS ts a [[124, 124]]) (orS ts p) ts.length x
def condF : PP NodeT := do
  let n ← orF ts p
  if ← sgnP ts [[63]] then
    let _ ← nextP ts
    linesP ts
    let y ← exprF ts p
    takeP ts [58]
    linesP ts
    enterP ts
    let o ← p.cond
    leaveP
    pure (.mk 8 n.at' [] 0 0 [n, y, o])
  else pure n
def stmtF : PP NodeT := do
  enterP ts
  let n ← p.statement
  leaveP
  pure n
def blockS (l : List NodeT) : PP (List NodeT) := do
  let x ← stmtF ts p
  pure (l ++ [x])
def blockF : PP NodeT := do
  let t ← tokP ts
  takeP ts [123]
  endsP ts
  let l ← iter (fun a => !isS ts a [[125]]) (blockS ts p) ts.length []
  let _ ← nextP ts
  pure (.mk 41 t.at' [] 0 0 l)
def askedF : PP NodeT := do
  takeP ts [40]
  let n ← exprF ts p
  takeP ts [41]
  pure n
def belowF : PP NodeT := do
  linesP ts
  stmtF ts p
def printF : PP NodeT := do
  let t ← nextP ts
  let b ← (if t.s = [112, 114, 105, 110, 116, 102] then pure true else do
    if ← askP (overA ts) then pure false else
      let c ← sgnP ts [[124, 38]]
      pure !c)
  let l ← if b then listF ts p else pure []
  if ← sgnP ts [[124, 38]] then
    let _ ← nextP ts
    let x ← sumF ts p
    pure (.mk 53 t.at' t.s 0 1 (l ++ [x]))
  else pure (.mk 53 t.at' t.s 0 0 l)
def simpleF : PP NodeT := do
  let t ← tokP ts
  if ← wrdP ts [[98, 114, 101, 97, 107]] then
    let _ ← nextP ts
    pure (.mk 47 t.at' [] 0 0 [])
  else if ← wrdP ts [[99, 111, 110, 116, 105, 110, 117, 101]] then
    let _ ← nextP ts
    pure (.mk 48 t.at' [] 0 0 [])
  else if ← wrdP ts [[110, 101, 120, 116]] then
    let _ ← nextP ts
    pure (.mk 49 t.at' [] 0 0 [])
  else if ← wrdP ts [[101, 120, 105, 116]] then
    let _ ← nextP ts
    if ← askP (overA ts) then pure (.mk 50 t.at' [] 0 0 [])
    else
      let x ← exprF ts p
      pure (.mk 50 t.at' [] 0 0 [x])
  else if ← wrdP ts [[114, 101, 116, 117, 114, 110]] then
    let _ ← nextP ts
    if ← askP (overA ts) then pure (.mk 51 t.at' [] 0 0 [])
    else
      let x ← exprF ts p
      pure (.mk 51 t.at' [] 0 0 [x])
  else if ← wrdP ts [[100, 101, 108, 101, 116, 101]] then
    let _ ← nextP ts
    let m ← nameP ts
    if ← sgnP ts [[91]] then
      let l ← withinF ts p [91] [93]
      pure (.mk 52 t.at' m.s 0 1 l)
    else pure (.mk 52 t.at' m.s 0 0 [])
  else if ← wrdP ts [[112, 114, 105, 110, 116], [112, 114, 105, 110, 116, 102]] then printF ts p
  else
    let x ← exprF ts p
    pure (.mk 54 x.at' [] 0 0 [x])
def perhapsF : PP NodeT := do
  if ← sgnP ts [[59], [41]] then pure (.mk 40 0 [] 0 0 []) else simpleF ts p
def eachA (a : Nat) : Bool := (((tk ts a).k : Int) == 5) && ((((ahead ts 1 a).k : Int) == 7) && (decide ((ahead ts 1 a).s = [105, 110]) && ((((ahead ts 2 a).k : Int) == 5) && ((((ahead ts 3 a).k : Int) == 9) && decide ((ahead ts 3 a).s = [41])))))
def loopF : PP NodeT := do
  let t ← nextP ts
  takeP ts [40]
  if ← askP (eachA ts) then
    let x ← nextP ts
    let _ ← nextP ts
    let y ← nextP ts
    let _ ← nextP ts
    let b ← belowF ts p
    pure (.mk 46 t.at' y.s 0 0 [.mk 4 x.at' x.s 0 0 [], b])
  else
    let f ← perhapsF ts p
    takeP ts [59]
    linesP ts
    let s ← (do if ← sgnP ts [[59]] then pure (NodeT.mk 40 0 [] 0 0 []) else exprF ts p)
    takeP ts [59]
    linesP ts
    let h ← perhapsF ts p
    takeP ts [41]
    let b ← belowF ts p
    pure (.mk 45 t.at' [] 0 0 [f, s, h, b])
def statementF : PP NodeT := do
  let t ← tokP ts
  if ← sgnP ts [[123]] then
    let n ← blockF ts p
    endsP ts
    pure n
  else if ← sgnP ts [[59]] then
    endsP ts
    pure (.mk 40 t.at' [] 0 0 [])
  else if ← wrdP ts [[105, 102]] then
    let _ ← nextP ts
    let c ← askedF ts p
    let b ← belowF ts p
    if ← wrdP ts [[101, 108, 115, 101]] then
      let _ ← nextP ts
      let e ← belowF ts p
      pure (.mk 42 t.at' [] 0 0 [c, b, e])
    else pure (.mk 42 t.at' [] 0 0 [c, b])
  else if ← wrdP ts [[119, 104, 105, 108, 101]] then
    let _ ← nextP ts
    let c ← askedF ts p
    let b ← belowF ts p
    pure (.mk 43 t.at' [] 0 0 [c, b])
  else if ← wrdP ts [[100, 111]] then
    let _ ← nextP ts
    let b ← belowF ts p
    keyP ts [119, 104, 105, 108, 101]
    let c ← askedF ts p
    closeP ts
    pure (.mk 44 t.at' [] 0 0 [b, c])
  else if ← wrdP ts [[102, 111, 114]] then loopF ts p
  else
    let n ← simpleF ts p
    closeP ts
    pure n
end
def par (ts : List TokF) : Nat → Par
  | 0 => ⟨failP ts 6, failP ts 6, failP ts 6, failP ts 6, failP ts 6, failP ts 6⟩
  | n + 1 => ⟨condF ts (par ts n), exprF ts (par ts n), signedF ts (par ts n), atomF ts (par ts n), steppedF ts (par ts n), statementF ts (par ts n)⟩
section
variable (ts : List TokF) (p : Par)
def patternF (at' : Nat) : PP RuleT := do
  let x ← exprF ts p
  let q ← (do
    if ← sgnP ts [[44]] then
      let _ ← nextP ts
      linesP ts
      let y ← exprF ts p
      pure ((7 : Nat), [x, y])
    else pure (6, [x]))
  if ← sgnP ts [[123]] then
    let b ← blockF ts p
    pure ⟨q.1, at', q.2, b, false⟩
  else pure ⟨q.1, at', q.2, .mk 40 0 [] 0 0 [], true⟩
def headF (k at' : Nat) : PP RuleT := do
  let _ ← nextP ts
  let b ← blockF ts p
  pure ⟨k, at', [], b, false⟩
def ruleF : PP RuleT := do
  let t ← tokP ts
  if ← wrdP ts [[66, 69, 71, 73, 78]] then headF ts p 1 t.at'
  else if ← wrdP ts [[69, 78, 68]] then headF ts p 2 t.at'
  else if ← wrdP ts [[79, 80, 69, 78]] then headF ts p 3 t.at'
  else if ← wrdP ts [[67, 76, 79, 83, 69]] then headF ts p 4 t.at'
  else if ← sgnP ts [[123]] then
    let b ← blockF ts p
    pure ⟨5, t.at', [], b, false⟩
  else patternF ts p t.at'
def paramsS (l : List (List Nat)) : PP (List (List Nat)) := do
  let _ ← nextP ts
  linesP ts
  let y ← nameP ts
  pure (l ++ [y.s])
def paramsF : PP (List (List Nat)) := do
  if ← sgnP ts [[41]] then
    let _ ← nextP ts
    pure []
  else
    let x ← nameP ts
    let l ← iter (fun a => isS ts a [[44]]) (paramsS ts) ts.length [x.s]
    takeP ts [41]
    pure l
def functionF : PP FuncT := do
  let t ← nextP ts
  let n ← tokP ts
  if (((n.k : Int) == 5) || ((n.k : Int) == 6)) = true then
    let _ ← nextP ts
    takeP ts [40]
    let l ← paramsF ts
    linesP ts
    let b ← blockF ts p
    pure ⟨n.s, l, b, t.at'⟩
  else failP ts 4
def itemF (t : TreeT) : PP TreeT := do
  if ← wrdP ts [[102, 117, 110, 99, 116, 105, 111, 110]] then
    let f ← functionF ts p
    endsP ts
    pure ⟨t.funcs ++ [f], t.rules⟩
  else
    let r ← ruleF ts p
    if r.bare then closeP ts else endsP ts
    pure ⟨t.funcs, t.rules ++ [r]⟩
def programF : PP TreeT := do
  endsP ts
  iter (fun a => !(((tk ts a).k : Int) == 0)) (itemF ts p) ts.length ⟨[], []⟩
end
def parseT (ts : List TokF) : PR TreeT := programF ts (par ts 65) 0 0
open Go.RowKit
def wellS : Bool → List Nat → Bool
  | e, [] => !e
  | true, _ :: r => wellS false r
  | false, c :: r => wellS (decide (c = 92)) r
theorem quotS_well (sign : Nat) : ∀ (l : List Nat) (e : Bool) (n : Nat), quotS sign e l = some n → wellS e (l.take n) = true
  | [], e, n, h => by cases e <;> simp [quotS] at h
  | c :: r, e, n, h => by
    rw [quotS] at h
    by_cases h10 : c = 10
    · rw [if_pos h10] at h; cases h
    · rw [if_neg h10] at h
      cases e with
      | true =>
        simp only [if_true] at h
        cases hq : quotS sign false r with
        | none => rw [hq] at h; cases h
        | some m =>
          rw [hq] at h
          obtain rfl : m + 1 = n := Option.some.inj h
          rw [List.take_succ_cons]
          exact quotS_well sign r false m hq
      | false =>
        simp only [Bool.false_eq_true, if_false] at h
        by_cases hs : c = sign
        · rw [if_pos hs] at h
          obtain rfl : 0 = n := Option.some.inj h
          rfl
        · rw [if_neg hs] at h
          cases hq : quotS sign (decide (c = 92)) r with
          | none => rw [hq] at h; cases h
          | some m =>
            rw [hq] at h
            obtain rfl : m + 1 = n := Option.some.inj h
            rw [List.take_succ_cons]
            exact quotS_well sign r _ m hq
open Go.RowKit
theorem w1_nat {k : Nat} (h : k ≤ 1000000) : wrap64 ((k : Int) + 1) = (k : Int) + 1 := IntWalk.wrap64_in _ (by omega)
theorem meas2 {n k k' : Nat} {v : Int} (hv : v = (k' : Int)) (h : k < k') (h2 : k < n) : n - (intOf (.int .i64 v)).toNat < n - (intOf (.int .i64 (k : Int))).toNat := by
  subst hv
  show n - (k' : Int).toNat < n - (k : Int).toNat
  rw [Int.toNat_natCast, Int.toNat_natCast]; omega
theorem octD_le : ∀ (k : Nat) (r : List Nat) (n : Nat), (octD k r n).2 ≤ k ∧ (octD k r n).2 ≤ r.length
  | 0, r, n => by rw [octD]; simp
  | k + 1, [], n => by rw [octD]; simp
  | k + 1, c :: r, n => by
    rw [octD]
    split
    · have := octD_le k r (n * 8 + (c - 48))
      simp only [List.length_cons]
      omega
    · simp
theorem unesc_step (f c : Nat) (r : List Nat) : unesc (f + 1) (c :: r) = if c = 92 then (if (octD 3 r 0).2 = 0 then (match r with | [] => [] | d :: r' => escB d :: unesc f r') else (octD 3 r 0).1 % 256 :: unesc f (r.drop (octD 3 r 0).2)) else c :: unesc f r := by
  cases r <;> rfl
theorem unesc_fuel : ∀ (f f' : Nat) (l : List Nat), l.length < f → l.length < f' → unesc f l = unesc f' l
  | 0, _, l, h, _ => by omega
  | _, 0, l, _, h => by omega
  | f + 1, f' + 1, [], _, _ => by rw [unesc, unesc]
  | f + 1, f' + 1, c :: r, h, h' => by
    simp only [List.length_cons] at h h'
    rw [unesc_step, unesc_step]
    split
    · split
      · cases r with
        | nil => rfl
        | cons d r' =>
          simp only [List.length_cons] at h h'
          simp only
          rw [unesc_fuel f f' r' (by omega) (by omega)]
      · rw [unesc_fuel f f' (r.drop (octD 3 r 0).2) (by rw [List.length_drop]; omega) (by rw [List.length_drop]; omega)]
    · rw [unesc_fuel f f' r (by omega) (by omega)]
def uns (l : List Nat) : List Nat := unesc (l.length + 1) l
theorem uns_nil : uns [] = [] := rfl
theorem uns_cons {c : Nat} (h : c ≠ 92) (r : List Nat) : uns (c :: r) = c :: uns r := by
  unfold uns
  rw [List.length_cons, unesc_step, if_neg h]
theorem uns_oct {r : List Nat} (h : (octD 3 r 0).2 ≠ 0) : uns (92 :: r) = (octD 3 r 0).1 % 256 :: uns (r.drop (octD 3 r 0).2) := by
  unfold uns
  rw [List.length_cons, unesc_step, if_pos rfl, if_neg h, unesc_fuel (r.length + 1) ((r.drop (octD 3 r 0).2).length + 1) _ (by rw [List.length_drop]; omega) (by omega)]
theorem uns_esc {d : Nat} {r : List Nat} (h : (octD 3 (d :: r) 0).2 = 0) : uns (92 :: d :: r) = escB d :: uns r := by
  unfold uns
  rw [List.length_cons, unesc_step, if_pos rfl, if_pos h]
  simp only
  rw [unesc_fuel ((d :: r).length + 1) (r.length + 1) r (by simp; omega) (by omega)]
def OctI (r : List Nat) (q v : Nat) : Prop := q ≤ 3 ∧ octD 3 r 0 = ((octD (3 - q) (r.drop q) v).1, q + (octD (3 - q) (r.drop q) v).2)
theorem OctI.start (r : List Nat) : OctI r 0 0 := ⟨by omega, by simp⟩
theorem OctI.go {r : List Nat} {q v : Nat} (h : OctI r q v) (hq : q < 3) (hl : q < r.length) (hd : isOct r[q] = true) : OctI r (q + 1) (v * 8 + (r[q] - 48)) := by
  obtain ⟨_, h⟩ := h
  refine ⟨by omega, ?_⟩
  rw [List.drop_eq_getElem_cons hl, show 3 - q = (3 - (q + 1)) + 1 by omega, octD, if_pos hd] at h
  rw [h]
  congr 1
  omega
theorem OctI.stop {r : List Nat} {q v : Nat} (h : OctI r q v) (hs : q = 3 ∨ r.length ≤ q ∨ ∃ hl : q < r.length, isOct r[q] = false) : octD 3 r 0 = (v, q) := by
  obtain ⟨_, h⟩ := h
  rw [h]
  rcases hs with rfl | hl | ⟨hl, hd⟩
  · simp [octD]
  · rw [List.drop_eq_nil_of_le hl]
    cases 3 - q <;> simp [octD]
  · rw [List.drop_eq_getElem_cons hl]
    cases h3 : 3 - q with
    | zero => simp [octD]
    | succ k => rw [octD, hd]; simp
theorem wellS_false {c : Nat} (h : c ≠ 92) (r : List Nat) (hw : wellS false (c :: r) = true) : wellS false r = true := by
  rw [wellS, decide_eq_false h] at hw
  exact hw
theorem wellS_true {r : List Nat} (hw : wellS false (92 :: r) = true) : ∃ d r', r = d :: r' ∧ wellS false r' = true := by
  rw [wellS, decide_eq_true rfl] at hw
  cases r with
  | nil => rw [wellS] at hw; cases hw
  | cons d r' => rw [wellS] at hw; exact ⟨d, r', rfl, hw⟩
theorem wellS_oct : ∀ (k : Nat) (r : List Nat) (n : Nat), wellS false r = true → wellS false (r.drop (octD k r n).2) = true
  | 0, r, n, h => by rw [octD]; exact h
  | k + 1, [], n, h => by rw [octD]; exact h
  | k + 1, c :: r, n, h => by
    rw [octD]
    split
    · rename_i hc
      simp only [List.drop_succ_cons]
      refine wellS_oct k r _ (wellS_false ?_ r h)
      intro e
      subst e
      revert hc
      decide
    · exact h
theorem wellS_oct3 {r : List Nat} (h : wellS false (92 :: r) = true) (h0 : (octD 3 r 0).2 ≠ 0) : wellS false (r.drop (octD 3 r 0).2) = true := by
  obtain ⟨d, r', rfl, h'⟩ := wellS_true h
  rw [octD] at h0 ⊢
  split
  · simp only [List.drop_succ_cons]
    exact wellS_oct 2 r' _ h'
  · rename_i hd
    rw [if_neg hd] at h0
    exact absurd rfl h0
theorem octD_lt : ∀ (k : Nat) (r : List Nat) (n m : Nat), n < m → (octD k r n).1 < m * 8 ^ k
  | 0, r, n, m, h => by rw [octD]; simpa using h
  | k + 1, [], n, m, h => by
    rw [octD]
    have : m * 1 ≤ m * 8 ^ (k + 1) := Nat.mul_le_mul_left _ (Nat.one_le_pow _ _ (by decide))
    simp only
    omega
  | k + 1, c :: r, n, m, h => by
    rw [octD]
    split
    · rename_i hc
      simp only
      have := octD_lt k r (n * 8 + (c - 48)) (m * 8) (by
        unfold isOct at hc
        have := of_decide_eq_true hc
        omega)
      rw [Nat.pow_succ, Nat.mul_comm (8 ^ k) 8, ← Nat.mul_assoc]
      exact this
    · have : m * 1 ≤ m * 8 ^ (k + 1) := Nat.mul_le_mul_left _ (Nat.one_le_pow _ _ (by decide))
      simp only
      omega
def UnsI (T R : List Nat) (k : Nat) (out : List Nat) : Prop := k ≤ T.length ∧ out ++ uns (T.drop k) = R ∧ wellS false (T.drop k) = true ∧ out.length ≤ k
theorem UnsI.plain {T R : List Nat} {k : Nat} {out : List Nat} (h : UnsI T R k out) (hk : k < T.length) (hc : T[k] ≠ 92) : UnsI T R (k + 1) (out ++ [T[k]]) := by
  obtain ⟨h0, h1, h2, h3⟩ := h
  rw [List.drop_eq_getElem_cons hk] at h1 h2
  rw [uns_cons hc] at h1
  exact ⟨by omega, by rw [List.append_assoc]; exact h1, wellS_false hc _ h2, by simp; omega⟩
theorem UnsI.next {T R : List Nat} {k : Nat} {out : List Nat} (h : UnsI T R k out) (hk : k < T.length) (hc : T[k] = 92) : k + 1 < T.length := by
  obtain ⟨h0, h1, h2, h3⟩ := h
  rw [List.drop_eq_getElem_cons hk, hc] at h2
  obtain ⟨d, r', e, _⟩ := wellS_true h2
  have := congrArg List.length e
  rw [List.length_drop] at this
  simp at this
  omega
theorem UnsI.esc {T R : List Nat} {k : Nat} {out : List Nat} (h : UnsI T R k out) (hk : k + 1 < T.length) (hc : T[k] = 92) (ho : (octD 3 (T.drop (k + 1)) 0).2 = 0) : UnsI T R (k + 2) (out ++ [escB T[k + 1]]) := by
  obtain ⟨h0, h1, h2, h3⟩ := h
  rw [List.drop_eq_getElem_cons (by omega), hc] at h1 h2
  rw [List.drop_eq_getElem_cons hk] at h1 h2 ho
  obtain ⟨d, r', e, h5⟩ := wellS_true h2
  injection e with e1 e2
  rw [uns_esc ho] at h1
  refine ⟨by omega, by rw [List.append_assoc]; exact h1, by rw [e2]; exact h5, by simp; omega⟩
theorem UnsI.oct {T R : List Nat} {k q v : Nat} {out : List Nat} (h : UnsI T R k out) (hk : k < T.length) (hc : T[k] = 92) (ho : octD 3 (T.drop (k + 1)) 0 = (v, q)) (hq : q ≠ 0) : UnsI T R (k + 1 + q) (out ++ [v % 256]) := by
  obtain ⟨h0, h1, h2, h3⟩ := h
  rw [List.drop_eq_getElem_cons hk, hc] at h1 h2
  have hq2 : (octD 3 (T.drop (k + 1)) 0).2 = q := by rw [ho]
  have hl := (octD_le 3 (T.drop (k + 1)) 0).2
  rw [hq2, List.length_drop] at hl
  rw [uns_oct (by rw [hq2]; exact hq), ho, List.drop_drop] at h1
  have h5 := wellS_oct3 h2 (by rw [hq2]; exact hq)
  rw [hq2, List.drop_drop] at h5
  refine ⟨by omega, by rw [List.append_assoc]; exact h1, h5, by simp; omega⟩
theorem UnsI.done {T R : List Nat} {k : Nat} {out : List Nat} (h : UnsI T R k out) (hk : T.length ≤ k) : out = R := by
  obtain ⟨h0, h1, h2, h3⟩ := h
  rw [List.drop_eq_nil_of_le hk, uns_nil, List.append_nil] at h1
  exact h1
theorem UnsI.start {T : List Nat} (h : wellS false T = true) : UnsI T (uns T) 0 [] := ⟨Nat.zero_le _, rfl, h, Nat.le_refl _⟩
def RegI (T R : List Nat) (k : Nat) (out : List Nat) : Prop := k ≤ T.length ∧ out ++ unreg (T.drop k) = R ∧ wellS false (T.drop k) = true ∧ out.length ≤ k
theorem unreg_cons {c : Nat} (h : c ≠ 92) : ∀ r : List Nat, unreg (c :: r) = c :: unreg r
  | [] => by rw [unreg, unreg]
  | d :: r => by rw [unreg, if_neg h]
theorem RegI.plain {T R : List Nat} {k : Nat} {out : List Nat} (h : RegI T R k out) (hk : k < T.length) (hc : T[k] ≠ 92) : RegI T R (k + 1) (out ++ [T[k]]) := by
  obtain ⟨h0, h1, h2, h3⟩ := h
  rw [List.drop_eq_getElem_cons hk] at h1 h2
  rw [unreg_cons hc] at h1
  exact ⟨by omega, by rw [List.append_assoc]; exact h1, wellS_false hc _ h2, by simp; omega⟩
theorem RegI.next {T R : List Nat} {k : Nat} {out : List Nat} (h : RegI T R k out) (hk : k < T.length) (hc : T[k] = 92) : k + 1 < T.length := by
  obtain ⟨h0, h1, h2, h3⟩ := h
  rw [List.drop_eq_getElem_cons hk, hc] at h2
  obtain ⟨d, r', e, _⟩ := wellS_true h2
  have := congrArg List.length e
  rw [List.length_drop] at this
  simp at this
  omega
theorem RegI.slash {T R : List Nat} {k : Nat} {out : List Nat} (h : RegI T R k out) (hk : k + 1 < T.length) (hc : T[k] = 92) (hd : T[k + 1] = 47) : RegI T R (k + 2) (out ++ [T[k + 1]]) := by
  obtain ⟨h0, h1, h2, h3⟩ := h
  rw [List.drop_eq_getElem_cons (by omega), hc] at h1 h2
  rw [List.drop_eq_getElem_cons hk] at h1 h2
  obtain ⟨d, r', e, h5⟩ := wellS_true h2
  injection e with e1 e2
  rw [unreg, if_pos rfl, if_pos hd] at h1
  refine ⟨by omega, by rw [List.append_assoc, hd]; exact h1, by rw [e2]; exact h5, by simp; omega⟩
theorem RegI.other {T R : List Nat} {k : Nat} {out : List Nat} (h : RegI T R k out) (hk : k + 1 < T.length) (hc : T[k] = 92) (hd : T[k + 1] ≠ 47) : RegI T R (k + 2) (out ++ [92] ++ [T[k + 1]]) := by
  obtain ⟨h0, h1, h2, h3⟩ := h
  rw [List.drop_eq_getElem_cons (by omega), hc] at h1 h2
  rw [List.drop_eq_getElem_cons hk] at h1 h2
  obtain ⟨d, r', e, h5⟩ := wellS_true h2
  injection e with e1 e2
  rw [unreg, if_pos rfl, if_neg hd] at h1
  refine ⟨by omega, by rw [List.append_assoc, List.append_assoc]; exact h1, by rw [e2]; exact h5, by simp; omega⟩
theorem RegI.done {T R : List Nat} {k : Nat} {out : List Nat} (h : RegI T R k out) (hk : T.length ≤ k) : out = R := by
  obtain ⟨h0, h1, h2, h3⟩ := h
  rw [List.drop_eq_nil_of_le hk, unreg, List.append_nil] at h1
  exact h1
theorem RegI.start {T : List Nat} (h : wellS false T = true) : RegI T (unreg T) 0 [] := ⟨Nat.zero_le _, rfl, h, Nat.le_refl _⟩
theorem escB_lt {c : Nat} (h : c < 256) : escB c < 256 := by unfold escB; repeat (first | (split; omega) | omega)
theorem unesc_byte : ∀ (f : Nat) (l : List Nat), (∀ x ∈ l, x < 256) → ∀ x ∈ unesc f l, x < 256
  | 0, _, _, x, h => by rw [unesc] at h; cases h
  | f + 1, [], _, x, h => by rw [unesc] at h; cases h
  | f + 1, c :: r, hb, x, h => by
    have hr : ∀ x ∈ r, x < 256 := fun x hx => hb x (List.mem_cons_of_mem _ hx)
    rw [unesc_step] at h
    split at h
    · split at h
      · cases r with
        | nil => cases h
        | cons d r' =>
          rcases List.mem_cons.1 h with rfl | h
          · exact escB_lt (hr _ List.mem_cons_self)
          · exact unesc_byte f r' (fun x hx => hr x (List.mem_cons_of_mem _ hx)) x h
      · rcases List.mem_cons.1 h with rfl | h
        · exact Nat.mod_lt _ (by decide)
        · exact unesc_byte f _ (fun x hx => hr x (List.mem_of_mem_drop hx)) x h
    · rcases List.mem_cons.1 h with rfl | h
      · exact hb _ List.mem_cons_self
      · exact unesc_byte f r hr x h
theorem unreg_sub : ∀ (n : Nat) (l : List Nat), l.length ≤ n → ∀ x ∈ unreg l, x ∈ l
  | _, [], _, x, h => by rw [unreg] at h; cases h
  | _, [c], _, x, h => by rw [unreg] at h; exact h
  | 0, c :: d :: r, hn, x, h => by simp at hn
  | n + 1, c :: d :: r, hn, x, h => by
    simp only [List.length_cons] at hn
    rw [unreg] at h
    split at h
    · split at h
      · rename_i hd
        rcases List.mem_cons.1 h with rfl | h
        · exact List.mem_cons_of_mem _ (by rw [hd]; exact List.mem_cons_self)
        · exact List.mem_cons_of_mem _ (List.mem_cons_of_mem _ (unreg_sub n r (by omega) x h))
      · rename_i hc _
        rcases List.mem_cons.1 h with rfl | h
        · rw [hc]; exact List.mem_cons_self
        · rcases List.mem_cons.1 h with rfl | h
          · exact List.mem_cons_of_mem _ List.mem_cons_self
          · exact List.mem_cons_of_mem _ (List.mem_cons_of_mem _ (unreg_sub n r (by omega) x h))
    · rcases List.mem_cons.1 h with rfl | h
      · exact List.mem_cons_self
      · exact List.mem_cons_of_mem _ (unreg_sub n (d :: r) (by simp; omega) x h)
end Go.Proofs.YtdiibenofbcfnaaGreat
