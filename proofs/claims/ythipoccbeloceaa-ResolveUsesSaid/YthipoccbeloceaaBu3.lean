/- Several texts put together: LexA, ParA, RsA, RtA, RpA, LexH, LexP, RvB. -/
import Derived.Test.YthipoccbeloceaaBu2
import Derived.Test.YthipoccbeloceaaBu1
import Derived.MapKept
import Derived.Laws.StructEq
set_option linter.unusedSimpArgs false
set_option linter.unusedVariables false
namespace Go.Proofs.Ythipoccbeloceaa
open Go.RowKit
structure TokF where
  k : Nat
  at' : Nat
  s : List Nat
  z : Int
deriving DecidableEq
def isDig (c : Nat) : Bool := decide (48 ≤ c ∧ c ≤ 57)
def isLet (c : Nat) : Bool := decide (65 ≤ c ∧ c ≤ 90) || decide (97 ≤ c ∧ c ≤ 122) || decide (c = 95)
def passS : Bool → List Nat → Nat
  | _, [] => 0
  | true, _ :: r => passS false r + 1
  | false, c :: r => if c = 9 ∨ c = 13 ∨ c = 32 then passS false r + 1
    else if c = 92 then (if r.getD 0 0 = 10 then passS true r + 1 else 0)
    else if c = 35 then 1 + (r.takeWhile (· ≠ 10)).length
    else 0
def passN (l : List Nat) : Nat := passS false l
def numL (l : List Nat) : Nat :=
  let d := (l.takeWhile isDig).length
  match l.drop d with
  | 46 :: r => d + 1 + (r.takeWhile isDig).length
  | _ => d
def quotS (sign : Nat) : Bool → List Nat → Option Nat
  | _, [] => none
  | e, c :: r => if c = 10 then none else if e then (quotS sign false r).map (· + 1) else if c = sign then some 0 else (quotS sign (decide (c = 92)) r).map (· + 1)
def quotN (sign : Nat) (l : List Nat) : Option Nat := quotS sign false l
def isOct (c : Nat) : Bool := decide (48 ≤ c ∧ c ≤ 55)
def octD : Nat → List Nat → Nat → Nat × Nat
  | 0, _, n => (n, 0)
  | _ + 1, [], n => (n, 0)
  | k + 1, c :: r, n => if isOct c then ((octD k r (n * 8 + (c - 48))).1, (octD k r (n * 8 + (c - 48))).2 + 1) else (n, 0)
def escB (c : Nat) : Nat := if c = 97 then 7 else if c = 98 then 8 else if c = 102 then 12 else if c = 110 then 10 else if c = 114 then 13 else if c = 116 then 9 else if c = 118 then 11 else c
def unesc : Nat → List Nat → List Nat
  | 0, _ => []
  | _ + 1, [] => []
  | f + 1, c :: r => if c = 92 then
      (if (octD 3 r 0).2 = 0 then (match r with | [] => [] | d :: r' => escB d :: unesc f r') else (octD 3 r 0).1 % 256 :: unesc f (r.drop (octD 3 r 0).2))
    else c :: unesc f r
def unreg : List Nat → List Nat
  | [] => []
  | [c] => [c]
  | c :: d :: r => if c = 92 then (if d = 47 then 47 :: unreg r else 92 :: d :: unreg r) else c :: unreg (d :: r)
def wordsL : List (List Nat) := [[66, 69, 71, 73, 78], [69, 78, 68], [79, 80, 69, 78], [67, 76, 79, 83, 69], [102, 117, 110, 99, 116, 105, 111, 110], [105, 102], [101, 108, 115, 101], [119, 104, 105, 108, 101], [102, 111, 114], [100, 111], [98, 114, 101, 97, 107], [99, 111, 110, 116, 105, 110, 117, 101], [110, 101, 120, 116], [101, 120, 105, 116], [114, 101, 116, 117, 114, 110], [100, 101, 108, 101, 116, 101], [105, 110], [103, 101, 116, 108, 105, 110, 101], [112, 114, 105, 110, 116], [112, 114, 105, 110, 116, 102]]
def builtL : List (List Nat) := [[108, 101, 110, 103, 116, 104], [115, 117, 98, 115, 116, 114], [105, 110, 100, 101, 120], [115, 112, 108, 105, 116], [115, 117, 98], [103, 115, 117, 98], [109, 97, 116, 99, 104], [115, 112, 114, 105, 110, 116, 102], [105, 110, 116], [116, 111, 108, 111, 119, 101, 114], [116, 111, 117, 112, 112, 101, 114], [99, 108, 111, 115, 101]]
def singleL : List Nat := [123, 125, 40, 41, 91, 93, 59, 44, 43, 45, 42, 47, 37, 94, 33, 62, 60, 63, 58, 126, 36, 61]
def doubleL : List (List Nat) := [[124, 38], [124, 124], [38, 38], [33, 126], [61, 61], [33, 61], [60, 61], [62, 61], [43, 43], [45, 45], [43, 61], [45, 61], [42, 61], [47, 61], [37, 61], [94, 61]]
def operandL : Option TokF → Bool
  | none => true
  | some t => if t.k = 1 ∨ t.k = 7 then true else if t.k = 9 then decide (t.s ≠ [41]) && (decide (t.s ≠ [93]) && (decide (t.s ≠ [43, 43]) && decide (t.s ≠ [45, 45]))) else false
def nameN (l : List Nat) : Nat := (l.takeWhile fun c => isLet c || isDig c).length
def nameK (l : List Nat) : Nat := if l.take (nameN l) ∈ wordsL then 7 else if l.take (nameN l) ∈ builtL then 8 else if (l.drop (nameN l)).head? = some 40 then 6 else 5
def signN (l : List Nat) : Nat := if l.length ≥ 2 ∧ l.take 2 ∈ doubleL then 2 else if l.getD 0 0 ∈ singleL then 1 else 0
def numZ (T : List Nat) : Int := if nW T + nB T = 0 then 0 else pz T
def nextL (last : Option TokF) (a : Nat) (l : List Nat) : Except Int (TokF × Nat) :=
  match l with
  | [] => .error 0
  | c :: r =>
    if c = 10 then .ok (⟨1, a, [], 0⟩, 1)
    else if isDig c ∨ (c = 46 ∧ isDig (r.getD 0 0)) then
      (if 0 < nW (l.take (numL l)) + nB (l.take (numL l)) ∧ 30 < (strip (wholeL (l.take (numL l)))).length then .error 2 else .ok (⟨2, a, [], numZ (l.take (numL l))⟩, numL l))
    else if c = 34 then (match quotN 34 r with | none => .error 7 | some n => .ok (⟨3, a, unesc (n + 1) (r.take n), 0⟩, n + 2))
    else if c = 47 ∧ operandL last then (match quotN 47 r with | none => .error 7 | some n => .ok (⟨4, a, unreg (r.take n), 0⟩, n + 2))
    else if isLet c then .ok (⟨nameK l, a, l.take (nameN l), 0⟩, nameN l)
    else if signN l = 0 then .error 4 else .ok (⟨9, a, l.take (signN l), 0⟩, signN l)
def allF : Nat → Nat → List Nat → List TokF → Except (Nat × Int) (List TokF)
  | 0, a, _, ts => .ok (ts ++ [⟨0, a, [], 0⟩])
  | f + 1, a, l, ts =>
    match l.drop (passN l) with
    | [] => .ok (ts ++ [⟨0, a + l.length, [], 0⟩])
    | c :: r => match nextL ts.getLast? (a + passN l) (c :: r) with
      | .error e => .error (a + passN l, e)
      | .ok (t, n) => allF f (a + passN l + n) ((c :: r).drop n) (ts ++ [t])
inductive NodeT where
  | mk (k at' : Nat) (s : List Nat) (z : Int) (i : Nat) (l : List NodeT)
def NodeT.k : NodeT → Nat | .mk k _ _ _ _ _ => k
def NodeT.at' : NodeT → Nat | .mk _ a _ _ _ _ => a
def NodeT.s : NodeT → List Nat | .mk _ _ s _ _ _ => s
def NodeT.z : NodeT → Int | .mk _ _ _ z _ _ => z
def NodeT.i : NodeT → Nat | .mk _ _ _ _ i _ => i
def NodeT.l : NodeT → List NodeT | .mk _ _ _ _ _ l => l
structure FuncT where
  name : List Nat
  params : List (List Nat)
  body : NodeT
  at' : Nat
structure RuleT where
  k : Nat
  at' : Nat
  l : List NodeT
  body : NodeT
  bare : Bool
structure TreeT where
  funcs : List FuncT
  rules : List RuleT
inductive PR (α : Type) where
  | ok (x : α) (a d : Nat)
  | err (pl : Nat) (k : Int)
def PP (α : Type) : Type := Nat → Nat → PR α
def PP.pure {α : Type} (x : α) : PP α := fun a d => .ok x a d
def PP.bind {α β : Type} (m : PP α) (f : α → PP β) : PP β := fun a d => match m a d with
  | .ok x a' d' => f x a' d'
  | .err p k => .err p k
instance : Monad PP where
  pure := PP.pure
  bind := PP.bind
section
variable (ts : List TokF)
def tk (a : Nat) : TokF := ts.getD a ⟨0, 0, [], 0⟩
def lval (n : NodeT) : Bool := ((n.k : Int) == 4) || (((n.k : Int) == 5) || ((n.k : Int) == 6))
def twoT (k : Nat) (s : List Nat) (a b : NodeT) : NodeT := .mk k a.at' s 0 0 [a, b]
structure Par where
  cond : PP NodeT
  expr : PP NodeT
  signed : PP NodeT
  atom : PP NodeT
  stepped : PP NodeT
  statement : PP NodeT
variable (p : Par)
def ahead (n a : Nat) : TokF := tk ts (min (a + n) (ts.length - 1))
end
section
variable (ts : List TokF) (p : Par)
end
structure Pl where
  n : NodeT
  up : Option NodeT
  i : Nat
  fn : Int
  kd : Nat
  lp : Bool
structure Rf where
  fn : Int
  i : Nat
deriving DecidableEq
def isLoop (n : NodeT) : Bool := ((n.k : Int) == 43) || (((n.k : Int) == 44) || (((n.k : Int) == 45) || ((n.k : Int) == 46)))
mutual
def preN (up : Option NodeT) (i : Nat) (fn : Int) (kd : Nat) (lp : Bool) : NodeT → List Pl
  | .mk k a s z v l => ⟨.mk k a s z v l, up, i, fn, kd, lp⟩ :: preL (.mk k a s z v l) 0 fn kd (lp || isLoop (.mk k a s z v l)) l
def preL (up : NodeT) (i : Nat) (fn : Int) (kd : Nat) (lp : Bool) : List NodeT → List Pl
  | [] => []
  | n :: l => preN (some up) i fn kd lp n ++ preL up (i + 1) fn kd lp l
end
def plFuncs : Nat → List FuncT → List Pl
  | _, [] => []
  | i, f :: l => preN none 0 (i : Int) 0 false f.body ++ plFuncs (i + 1) l
def plRule (r : RuleT) : List Pl := r.l.flatMap (fun n => preN none 0 (-1) r.k false n) ++ preN none 0 (-1) r.k false r.body
def places (t : TreeT) : List Pl := plFuncs 0 t.funcs ++ t.rules.flatMap plRule
def posF (s : List Nat) : List (List Nat) → Nat → Option Nat
  | [], _ => none
  | x :: l, i => if x = s then some i else posF s l (i + 1)
def fnOf (t : TreeT) (s : List Nat) : Option Nat := posF s (t.funcs.map (·.name)) 0
def dupP (nm : List Nat) : List (List Nat) → List (List Nat) → Bool
  | _, [] => false
  | seen, s :: l => (decide (s ∈ seen) || decide (s = nm)) || dupP nm (s :: seen) l
def headsS : List (List Nat) → List FuncT → Option Nat
  | _, [] => none
  | seen, f :: l => if decide (f.name ∈ seen) || dupP f.name [] f.params then some f.at' else headsS (f.name :: seen) l
def namedB (n : NodeT) : Bool := ((n.k : Int) == 4) || (((n.k : Int) == 5) || (((n.k : Int) == 11) || (((n.k : Int) == 46) || ((n.k : Int) == 52))))
def unknownB (t : TreeT) (p : Pl) : Bool := ((p.n.k : Int) == 18) && !(fnOf t p.n.s).isSome
def boundsB (s : List Nat) : Int × Int :=
  if s = [108, 101, 110, 103, 116, 104] then (0, 1)
  else if s = [115, 117, 98, 115, 116, 114] ∨ s = [115, 112, 108, 105, 116] ∨ s = [115, 117, 98] ∨ s = [103, 115, 117, 98] then (2, 3)
  else if s = [105, 110, 100, 101, 120] ∨ s = [109, 97, 116, 99, 104] then (2, 2)
  else if s = [115, 112, 114, 105, 110, 116, 102] then (1, 16)
  else if s = [105, 110, 116] ∨ s = [116, 111, 108, 111, 119, 101, 114] ∨ s = [116, 111, 117, 112, 112, 101, 114] ∨ s = [99, 108, 111, 115, 101] then (1, 1)
  else (0, -1)
def parsOf (t : TreeT) (i : Nat) : List (List Nat) := match t.funcs[i]? with
  | some f => f.params
  | none => []
def countsB (t : TreeT) (p : Pl) : Bool :=
  if ((p.n.k : Int) == 18) = true then decide (((parsOf t ((fnOf t p.n.s).getD 0)).length : Int) < (p.n.l.length : Int))
  else if ((p.n.k : Int) == 19) = true then decide ((p.n.l.length : Int) < (boundsB p.n.s).1) || decide ((boundsB p.n.s).2 < (p.n.l.length : Int))
  else false
def functionB (t : TreeT) (p : Pl) : Bool := namedB p.n && (fnOf t p.n.s).isSome
def targetB (n : NodeT) (i : Int) : Bool := decide (0 ≤ i) && (decide (i < (n.l.length : Int)) && match n.l[i.toNat]? with | some x => lval x | none => false)
def formB (p : Pl) : Bool :=
  if ((p.n.k : Int) == 51) = true then decide (p.fn < 0)
  else if (((p.n.k : Int) == 47) || ((p.n.k : Int) == 48)) = true then !p.lp
  else if ((p.n.k : Int) == 49) = true then decide (0 ≤ p.fn) || decide ((p.kd : Int) < 5)
  else if (((p.n.k : Int) == 7) || ((p.n.k : Int) == 17)) = true then !targetB p.n 0
  else if ((p.n.k : Int) == 20) = true then !((p.n.i % 2 : Nat) == 0) && !targetB p.n ((p.n.l.length : Int) - 1)
  else if ((p.n.k : Int) == 19) = true then
    if p.n.s = [115, 117, 98] ∨ p.n.s = [103, 115, 117, 98] then decide ((2 : Int) < (p.n.l.length : Int)) && !targetB p.n 2
    else if p.n.s = [115, 112, 108, 105, 116] then match p.n.l[1]? with
      | some x => !((x.k : Int) == 4)
      | none => false
    else false
  else false
def checkS (wrong : Pl → Bool) : List Pl → Option Nat
  | [] => none
  | p :: l => if wrong p then some p.n.at' else checkS wrong l
structure NSt where
  L : List (List Nat)
  arr : List Rf
  q : List Rf
  hd : List (Rf × Rf)
def refS (t : TreeT) (L : List (List Nat)) (fn : Int) (s : List Nat) : Rf :=
  if 0 ≤ fn then match posF s (parsOf t fn.toNat) 0 with
    | some j => ⟨fn, j⟩
    | none => ⟨-1, (posF s L 0).getD 0⟩
  else ⟨-1, (posF s L 0).getD 0⟩
def arrayS (v : Rf) (st : NSt) : NSt := if v ∈ st.arr then st else ⟨st.L, st.arr ++ [v], st.q ++ [v], st.hd⟩
def knownS (t : TreeT) (p : Pl) (st : NSt) : NSt := if decide ((refS t st.L p.fn p.n.s).fn < 0) && !(posF p.n.s st.L 0).isSome then ⟨st.L ++ [p.n.s], st.arr, st.q, st.hd⟩ else st
def isSplit (p : Pl) : Bool := match p.up with
  | some u => ((u.k : Int) == 19) && (decide (u.s = [115, 112, 108, 105, 116]) && ((p.i : Int) == 1))
  | none => false
def isHanded (p : Pl) : Bool := match p.up with
  | some u => ((u.k : Int) == 18)
  | none => false
def paramOf (t : TreeT) (p : Pl) : Rf := match p.up with
  | some u => ⟨((fnOf t u.s).getD 0 : Nat), p.i⟩
  | none => ⟨0, 0⟩
def noteS (t : TreeT) (p : Pl) (st : NSt) : NSt :=
  if namedB p.n then
    let st := knownS t p st
    let v := refS t st.L p.fn p.n.s
    if !((p.n.k : Int) == 4) then arrayS v st
    else if isSplit p then arrayS v st
    else if isHanded p then ⟨st.L, st.arr, st.q, st.hd ++ [(paramOf t p, v)]⟩
    else st
  else st
def handS (v : Rf) (hd : List (Rf × Rf)) : List Rf := (hd.filter fun x => decide (x.1 = v)).map (·.2)
def spreadF : Nat → NSt → NSt
  | 0, st => st
  | f + 1, st => match st.q.getLast? with
    | none => st
    | some v => spreadF f ((handS v st.hd).foldl (fun st x => arrayS x st) ⟨st.L, st.arr, st.q.dropLast, st.hd⟩)
def misusedB (t : TreeT) (st : NSt) (p : Pl) : Bool :=
  if isHanded p && decide (paramOf t p ∈ st.arr) then !((p.n.k : Int) == 4)
  else if !((p.n.k : Int) == 4) || !decide (refS t st.L p.fn p.n.s ∈ st.arr) then false
  else !isSplit p
def ownL : List (List Nat) := [[78, 70], [78, 82], [70, 83], [79, 70, 83], [82, 83], [79, 82, 83], [82, 83, 84, 65, 82, 84], [82, 76, 69, 78, 71, 84, 72], [83, 85, 66, 83, 69, 80]]
def ownB (t : TreeT) (st : NSt) (p : Pl) : Bool := namedB p.n && (decide (p.n.s ∈ ownL) && (decide ((refS t st.L p.fn p.n.s).fn < 0) && decide (refS t st.L p.fn p.n.s ∈ st.arr)))
structure NamesT where
  globals : List (List Nat × Bool)
  locals : List (List (List Nat × Bool))
def flagL (arr : List Rf) (fn : Int) : List (List Nat) → Nat → List (List Nat × Bool)
  | [], _ => []
  | s :: l, i => (s, decide ((⟨fn, i⟩ : Rf) ∈ arr)) :: flagL arr fn l (i + 1)
def localsL (arr : List Rf) : List FuncT → Nat → List (List (List Nat × Bool))
  | [], _ => []
  | f :: l, i => flagL arr (i : Int) f.params 0 :: localsL arr l (i + 1)
def namesS (t : TreeT) (st : NSt) : NamesT := ⟨flagL st.arr (-1) st.L 0, localsL st.arr t.funcs 0⟩
def longS (t : TreeT) : Option Nat := (t.funcs.find? fun f => decide ((16 : Int) < (f.params.length : Int))).map (·.at')
def notedS (t : TreeT) : NSt := (places t).foldl (fun st p => noteS t p st) ⟨[], [], [], []⟩
def fuelS (t : TreeT) : Nat := (places t).length + 1
def spreadS (t : TreeT) : NSt := spreadF (fuelS t) (notedS t)
def resolveS (t : TreeT) : Except (Nat × Int) NamesT :=
  match headsS [] t.funcs with
  | some a => .error (a, 15)
  | none => match longS t with
    | some a => .error (a, 9)
    | none => match checkS (unknownB t) (places t) with
      | some a => .error (a, 8)
      | none => match checkS (countsB t) (places t) with
        | some a => .error (a, 9)
        | none => match checkS (functionB t) (places t) with
          | some a => .error (a, 10)
          | none => match checkS formB (places t) with
            | some a => .error (a, 4)
            | none => match checkS (misusedB t (spreadS t)) (places t) with
              | some a => .error (a, 10)
              | none => match checkS (ownB t (spreadS t)) (places t) with
                | some a => .error (a, 10)
                | none => if decide ((256 : Int) < ((spreadS t).L.length : Int)) then .error (0, 5) else .ok (namesS t (spreadS t))
open Go.RowKit
def entsF : List (Value × Value) → Nat → List MapEntry
  | [], _ => []
  | (k, v) :: l, i => ⟨k, v, i⟩ :: entsF l (i + 1)
def mapO (l : List (Value × Value)) : Obj := .map (entsF l 0).toArray l.length
theorem entsF_len : ∀ (l : List (Value × Value)) (i : Nat), (entsF l i).length = l.length
  | [], _ => rfl
  | (_, _) :: l, i => by rw [entsF, List.length_cons, entsF_len l, List.length_cons]
theorem entsF_get : ∀ (l : List (Value × Value)) (i j : Nat) (x : Value × Value), l[j]? = some x → (entsF l i)[j]? = some ⟨x.1, x.2, i + j⟩
  | [], _, _, _, h => by simp at h
  | (k, v) :: l, i, 0, x, h => by
    simp at h
    subst h
    rfl
  | (k, v) :: l, i, j + 1, x, h => by
    rw [entsF, List.getElem?_cons_succ]
    rw [List.getElem?_cons_succ] at h
    rw [entsF_get l (i + 1) j x h]
    congr 2
    omega
theorem entsF_app : ∀ (l m : List (Value × Value)) (i : Nat), entsF (l ++ m) i = entsF l i ++ entsF m (i + l.length)
  | [], m, i => rfl
  | (k, v) :: l, m, i => by
    rw [List.cons_append, entsF, entsF, List.cons_append, entsF_app l m (i + 1), List.length_cons]
    congr 3
    omega
theorem entsF_set : ∀ (l : List (Value × Value)) (i j : Nat) (k v w : Value), l[j]? = some (k, w) → entsF (l.set j (k, v)) i = (entsF l i).modify j (fun e => { e with key := k, val := v })
  | [], _, _, _, _, _, h => by simp at h
  | (a, b) :: l, i, 0, k, v, w, h => by
    simp at h
    obtain ⟨rfl, rfl⟩ := h
    rfl
  | (a, b) :: l, i, j + 1, k, v, w, h => by
    rw [List.getElem?_cons_succ] at h
    rw [List.set_cons_succ, entsF, entsF, entsF_set l (i + 1) j k v w h]
    rfl
def World.putM (w : World) (m : Nat) (o : Obj) : World := { w with heap := w.heap.setIfInBounds m o }
theorem putM_self {w : World} {m : Nat} {o : Obj} (h : m < w.heap.size) : (World.putM w m o).heap[m]? = some o := by
  show (w.heap.setIfInBounds m o)[m]? = some o
  simp [h]
theorem putM_other {w : World} {m k : Nat} {o : Obj} (h : k ≠ m) : (World.putM w m o).heap[k]? = w.heap[k]? := by
  show (w.heap.setIfInBounds m o)[k]? = w.heap[k]?
  simp [Ne.symm h]
theorem putM_size {w : World} {m : Nat} {o : Obj} : (World.putM w m o).heap.size = w.heap.size := by
  show (w.heap.setIfInBounds m o).size = _
  simp
theorem putM_kept {w : World} {m : Nat} {o : Obj} : Kept [m] w (World.putM w m o) := ⟨rfl, rfl, rfl, Nat.le_of_eq putM_size.symm, fun k _ h => putM_other (fun e => h (e ▸ List.mem_singleton.2 rfl))⟩
section
variable {κ : Type} [DecidableEq κ]
def posK (k : κ) : List (κ × Value) → Nat → Option (Nat × Value)
  | [], _ => none
  | x :: l, i => if x.1 = k then some (i, x.2) else posK k l (i + 1)
def lookK (k : κ) (l : List (κ × Value)) : Option Value := (posK k l 0).map (·.2)
def updK (k : κ) (v : Value) : List (κ × Value) → List (κ × Value)
  | [] => [(k, v)]
  | x :: l => if x.1 = k then (k, v) :: l else x :: updK k v l
def encK (enc : κ → Value) (l : List (κ × Value)) : List (Value × Value) := l.map fun x => (enc x.1, x.2)
theorem posK_none {k : κ} {v : Value} : ∀ (l : List (κ × Value)) (i : Nat), posK k l i = none → updK k v l = l ++ [(k, v)]
  | [], _, _ => rfl
  | x :: l, i, h => by
    unfold posK at h
    split at h
    · cases h
    · rename_i hx
      rw [updK, if_neg hx, posK_none l (i + 1) h]
      rfl
theorem posK_some {k : κ} {v : Value} : ∀ (l : List (κ × Value)) (i j : Nat) (u : Value), posK k l i = some (j, u) → ∃ n, j = i + n ∧ l[n]? = some (k, u) ∧ updK k v l = l.set n (k, v)
  | [], _, _, _, h => by cases h
  | x :: l, i, j, u, h => by
    unfold posK at h
    split at h
    · rename_i hx
      injection h with h
      injection h with h1 h2
      subst h1 h2
      refine ⟨0, rfl, ?_, by rw [updK, if_pos hx]; rfl⟩
      rw [← hx]
      rfl
    · rename_i hx
      obtain ⟨n, h1, h2, h3⟩ := posK_some l (i + 1) j u h
      exact ⟨n + 1, by omega, by simpa using h2, by rw [updK, if_neg hx, h3]; rfl⟩
structure KeyOk (kt : TypeId) (enc : κ → Value) (ok : κ → Prop) : Prop where
  chk : ∀ e k w, ok k → (Instr.checkKey e 10000 kt (enc k)).run Try.prog w = .ok () w
  find : ∀ k l w, ok k → (∀ x ∈ l, ok x.1) → (Instr.findKey kt (enc k) (entsF (encK enc l) 0)).run Try.prog w = .ok (posK k l 0) w
  stay : ∀ k w, ok k → (Instr.keyThatStays (enc k) (enc k)).run Try.prog w = .ok (enc k) w
section
variable {kt et mt : TypeId} {enc : κ → Value} {ok : κ → Prop} {w : World} {m : Nat} {l : List (κ × Value)} {k : κ}
theorem run_lookM (M : KeyOk kt enc ok) (hm : Try.prog.underlying mt = some (.map kt et)) {z : Value} (hz : ∀ w, (zeroValue et).run Try.prog w = .ok z w) (hb : w.heap[m]? = some (mapO (encK enc l))) (hl : ∀ x ∈ l, ok x.1) (hk : ok k) (c : Bool) :
    (Instr.lookup mt (.map (some m)) (enc k) c).run Try.prog w = .ok (if c then .tuple #[(lookK k l).getD z, .bool (lookK k l).isSome] else (lookK k l).getD z) w := by
  have hb' : w.heap[m]? = some (.map (entsF (encK enc l) 0).toArray (encK enc l).length) := hb
  have h1 := fun e => M.chk e k w hk
  have h2 := M.find k l w hk hl
  unfold lookK
  cases hp : posK k l 0 with
  | none =>
    rw [hp] at h2
    cases c <;> simp [Instr.lookup, run_underlying hm, MapKept.run_getObj_map hb', h1, h2, hz, Result.andThen]
  | some y =>
    rw [hp] at h2
    cases c <;> simp [Instr.lookup, run_underlying hm, MapKept.run_getObj_map hb', h1, h2, hz, Result.andThen]
omit [DecidableEq κ] in
theorem encK_get {n : Nat} {u : Value} (h : l[n]? = some (k, u)) : (encK enc l)[n]? = some (enc k, u) := by unfold encK; rw [List.getElem?_map, h]; rfl
omit [DecidableEq κ] in
theorem encK_set {n : Nat} {v : Value} : encK enc (l.set n (k, v)) = (encK enc l).set n (enc k, v) := by unfold encK; rw [List.map_set]
omit [DecidableEq κ] in
theorem encK_len : (encK enc l).length = l.length := by unfold encK; rw [List.length_map]
theorem mapO_push {v : Value} (h : posK k l 0 = none) : mapO (encK enc (updK k v l)) = .map ((entsF (encK enc l) 0).toArray.push ⟨enc k, v, (encK enc l).length⟩) ((encK enc l).length + 1) := by
  rw [posK_none l 0 h]
  unfold mapO
  rw [show encK enc (l ++ [(k, v)]) = encK enc l ++ [(enc k, v)] by unfold encK; simp, entsF_app]
  simp [entsF]
theorem mapO_mod {v u : Value} {j : Nat} (h : posK k l 0 = some (j, u)) : (entsF (encK enc l) 0).toArray[j]? = some ⟨enc k, u, j⟩ ∧ j < l.length ∧ mapO (encK enc (updK k v l)) = .map ((entsF (encK enc l) 0).toArray.modify j fun e => { e with key := enc k, val := v }) (encK enc l).length := by
  obtain ⟨n, hj, hn, hu⟩ := posK_some (v := v) l 0 j u h
  have hj' : j = n := by omega
  subst hj'
  have hg := entsF_get _ 0 j _ (encK_get (enc := enc) hn)
  refine ⟨by simpa using hg, (List.getElem?_eq_some_iff.1 hn).1, ?_⟩
  unfold mapO
  rw [hu, encK_set, entsF_set _ 0 j _ _ _ (encK_get (enc := enc) hn), List.length_set]
  congr 1
  rw [← Array.toList_inj]
  simp
theorem run_updM (M : KeyOk kt enc ok) (hm : Try.prog.underlying mt = some (.map kt et)) (hb : w.heap[m]? = some (mapO (encK enc l))) (hl : ∀ x ∈ l, ok x.1) (hk : ok k) (v : Value) :
    (Instr.mapUpdate mt (.map (some m)) (enc k) v).run Try.prog w = .ok () (World.putM w m (mapO (encK enc (updK k v l)))) := by
  have hb' : w.heap[m]? = some (.map (entsF (encK enc l) 0).toArray (encK enc l).length) := hb
  have h1 := fun e => M.chk e k w hk
  have h2 := M.find k l w hk hl
  cases hp : posK k l 0 with
  | none =>
    rw [hp] at h2
    rw [mapO_push hp]
    simp [Instr.mapUpdate, run_underlying hm, MapKept.run_getObj_map hb', h1, h2, MapKept.run_setObj_map _ hb', Result.andThen, World.putM]
  | some y =>
    obtain ⟨j, u⟩ := y
    rw [hp] at h2
    obtain ⟨hg, _, e⟩ := mapO_mod (enc := enc) (v := v) hp
    rw [e]
    have hst := M.stay k w hk
    simp only [Instr.mapUpdate, Sem.run_bind, run_underlying hm, MapKept.run_getObj_map hb', h1, h2, hg, Option.map_some, Option.getD_some, hst, MapKept.run_setObj_map _ hb', Result.andThen_ok, World.putM]
def entK (k : κ) (z : Value) (l : List (κ × Value)) : List (κ × Value) := updK k ((lookK k l).getD z) l
theorem run_entM (M : KeyOk kt enc ok) (hm : Try.prog.underlying mt = some (.map kt et)) {z : Value} (hz : ∀ w, (zeroValue et).run Try.prog w = .ok z w) (hb : w.heap[m]? = some (mapO (encK enc l))) (hl : ∀ x ∈ l, ok x.1) (hk : ok k) :
    ∃ j : Nat, (Instr.mapEntry mt (.map (some m)) (enc k)).run Try.prog w = .ok (.tuple #[(lookK k l).getD z, goInt j]) (World.putM w m (mapO (encK enc (entK k z l)))) ∧ (entK k z l)[j]? = some (k, (lookK k l).getD z) ∧ ∀ v, updK k v l = (entK k z l).set j (k, v) := by
  have hb' : w.heap[m]? = some (.map (entsF (encK enc l) 0).toArray (encK enc l).length) := hb
  have h1 := fun e => M.chk e k w hk
  have h2 := M.find k l w hk hl
  cases hp : posK k l 0 with
  | none =>
    rw [hp] at h2
    have hlk : lookK k l = none := by unfold lookK; rw [hp]; rfl
    unfold entK
    rw [hlk]
    refine ⟨l.length, ?_, by rw [posK_none l 0 hp]; simp, fun v => by rw [posK_none l 0 hp, posK_none l 0 hp]; simp⟩
    rw [mapO_push hp]
    simp [Instr.mapEntry, run_underlying hm, MapKept.run_getObj_map hb', h1, h2, hz, MapKept.run_setObj_map _ hb', Result.andThen, World.putM, encK_len]
  | some y =>
    obtain ⟨j, u⟩ := y
    rw [hp] at h2
    have hlk : lookK k l = some u := by unfold lookK; rw [hp]; rfl
    unfold entK
    rw [hlk]
    obtain ⟨n, hj, hn, hu⟩ := posK_some (v := u) l 0 j u hp
    have hj' : j = n := by omega
    subst hj'
    obtain ⟨hg, hlt, e⟩ := mapO_mod (enc := enc) (v := u) hp
    have hself : l.set j (k, u) = l := by
      apply List.ext_getElem?
      intro i
      rw [List.getElem?_set]
      split
      · rename_i h; subst h; exact hn.symm
      · rfl
    refine ⟨j, ?_, ?_, fun v => ?_⟩
    · have hst := M.stay k w hk
      have e2 : mapO (encK enc (updK k u l)) = .map ((entsF (encK enc l) 0).toArray.modify j fun e => { e with key := enc k }) (encK enc l).length := by
        rw [e]
        refine congrArg (fun a => Obj.map a (encK enc l).length) ?_
        apply Array.ext_getElem?
        intro i
        simp only [Array.getElem?_modify]
        split
        · rename_i h
          subst h
          rw [hg]
          rfl
        · rfl
      show _ = Result.ok (Value.tuple #[(some u).getD z, goInt j]) (World.putM w m (mapO (encK enc (updK k ((some u).getD z) l))))
      rw [show (some u).getD z = u from rfl, e2]
      simp only [Instr.mapEntry, Sem.run_bind, run_underlying hm, MapKept.run_getObj_map hb', h1, h2, hg, Option.map_some, Option.getD_some, hst, MapKept.run_setObj_map _ hb', Result.andThen_ok, World.putM, Sem.run_pure]
    · show (updK k u l)[j]? = some (k, u)
      rw [hu, hself, hn]
    · show _ = (updK k u l).set j (k, v)
      rw [hu, hself]
      obtain ⟨n', hj2, _, hu'⟩ := posK_some (v := v) l 0 j u hp
      have : n' = j := by omega
      subst this
      exact hu'
omit [DecidableEq κ] in
theorem run_entS {j : Nat} {u v : Value} (hb : w.heap[m]? = some (mapO (encK enc l))) (hj : l[j]? = some (k, u)) :
    (Instr.entryStore mt (.map (some m)) (goInt j) v).run Try.prog w = .ok () (World.putM w m (mapO (encK enc (l.set j (k, v))))) := by
  have hb' : w.heap[m]? = some (.map (entsF (encK enc l) 0).toArray (encK enc l).length) := hb
  have hg := entsF_get _ 0 j _ (encK_get (enc := enc) hj)
  have hf : (entsF (encK enc l) 0).toArray.findIdx? (fun e => (e.born : Int) == (j : Int)) = some j := by
    rw [List.findIdx?_toArray, List.findIdx?_eq_some_iff_getElem]
    have hlt : j < (entsF (encK enc l) 0).length := (List.getElem?_eq_some_iff.1 hg).1
    refine ⟨hlt, ?_, fun i hi => ?_⟩
    · rw [(List.getElem?_eq_some_iff.1 hg).2]
      simp
    · have hi' : i < (entsF (encK enc l) 0).length := by omega
      have hil : i < (encK enc l).length := by rw [entsF_len] at hi'; exact hi'
      have hg2 := entsF_get (encK enc l) 0 i _ (List.getElem?_eq_getElem hil)
      rw [(List.getElem?_eq_some_iff.1 hg2).2]
      simp
      omega
  have e : mapO (encK enc (l.set j (k, v))) = .map ((entsF (encK enc l) 0).toArray.modify j fun e => { e with val := v }) (encK enc l).length := by
    unfold mapO
    rw [encK_set, entsF_set _ 0 j _ _ _ (encK_get (enc := enc) hj), List.length_set]
    congr 1
    apply Array.ext_getElem?
    intro i
    rw [Array.getElem?_modify, List.getElem?_toArray, List.getElem?_modify, List.getElem?_toArray]
    split
    · rename_i h
      subst h
      rw [hg]
      rfl
    · simp
  rw [e]
  have hj0 : (goInt j) = .int .i64 (j : Int) := rfl
  simp only [Instr.entryStore, Sem.run_bind, Sem.run_pure, MapKept.run_getObj_map hb', hj0, asInt, asIntOf, Result.andThen_ok, hf, MapKept.run_setObj_map _ hb', World.putM]
end
end
inductive GR (α : Type) where
  | ok (x : α) (k : Nat)
  | err (k : Nat) (e : Int)
def GR.bind {α β : Type} (m : GR α) (f : α → Nat → GR β) : GR β := match m with
  | .ok x k => f x k
  | .err k e => .err k e
def loopG {α : Type} (test : α → Nat → Bool) (step : α → Nat → GR α) : Nat → α → Nat → GR α
  | 0, x, k => .ok x k
  | f + 1, x, k => if test x k then (step x k).bind (loopG test step f) else .ok x k
def infixB (w : List Nat) : List Nat → Bool
  | [] => decide (([] : List Nat) = w)
  | x :: l => decide ((x :: l).take w.length = w) || infixB w l
section
variable (ts : List TokF)
def rkd (k : Nat) (n : Nat) : Bool := (((tk ts k).k : Int) == (n : Int))
def ris (k : Nat) (s : List Nat) : Bool := ((((tk ts k).k : Int) == 9) || (((tk ts k).k : Int) == 7)) && decide ((tk ts k).s = s)
def ramong (k : Nat) (all : List Nat) : Bool := (((tk ts k).k : Int) == 9) && infixB ([32] ++ (tk ts k).s ++ [32]) all
def rlinesF : Nat → Nat → Nat
  | 0, k => k
  | f + 1, k => if (((tk ts k).k : Int) == 1) = true then rlinesF f (k + 1) else k
def rlines (k : Nat) : Nat := rlinesF ts ts.length k
def rendsF : Nat → Nat → Nat
  | 0, k => k
  | f + 1, k => if ((((tk ts k).k : Int) == 1) || ris ts k [59]) = true then rendsF f (k + 1) else k
def rends (k : Nat) : Nat := rendsF ts ts.length k
def rstops (k : Nat) : Bool := (((tk ts k).k : Int) == 1) || ((((tk ts k).k : Int) == 0) || (ris ts k [59] || ris ts k [125]))
structure RPar where
  z : Bool
  expr : Nat → GR NodeT
  cond : Nat → GR NodeT
  signed : Nat → GR NodeT
  step : Nat → GR NodeT
  atom : Nat → GR NodeT
  stmt : Nat → GR NodeT
  block : Nat → GR NodeT
  clause : Nat → GR NodeT
  loop : Nat → GR NodeT
  simple : Nat → GR NodeT
variable (p : RPar)
def rexpr (k : Nat) : GR NodeT :=
  if p.z then .err k 6 else (p.cond k).bind fun n k1 =>
    if lval n && ramong ts k1 [32, 61, 32, 43, 61, 32, 45, 61, 32, 42, 61, 32, 47, 61, 32, 37, 61, 32, 94, 61, 32] then (p.expr (rlines ts (k1 + 1))).bind fun x k2 => .ok (twoT 7 (tk ts k1).s n x) k2
    else .ok n k1
def rlistF (e : List Nat) : Nat → List NodeT → Nat → GR (List NodeT)
  | 0, l, k => .ok l k
  | f + 1, l, k => (rexpr ts p k).bind fun x k1 =>
    if ris ts k1 [44] then rlistF e f (l ++ [x]) (rlines ts (k1 + 1))
    else if e = [] then .ok (l ++ [x]) k1
    else if ris ts k1 e then .ok (l ++ [x]) (k1 + 1) else .err k1 4
def rlist (k : Nat) (e : List Nat) (none : Bool) : GR (List NodeT) := if none && ris ts k e then .ok [] (k + 1) else rlistF ts p e ts.length [] k
def rplace (k : Nat) : GR NodeT :=
  if ris ts k [36] then
    if p.z then .err (k + 1) 6
    else (if ramong ts (k + 1) [32, 43, 43, 32, 45, 45, 32] then p.step (k + 1) else p.atom (k + 1)).bind fun x k1 => .ok (.mk 6 (tk ts k).at' [] 0 0 [x]) k1
  else if rkd ts k 5 then
    if ris ts (k + 1) [91] then (rlist ts p (k + 2) [93] false).bind fun l k1 => .ok (.mk 5 (tk ts k).at' (tk ts k).s 0 0 l) k1
    else .ok (.mk 4 (tk ts k).at' (tk ts k).s 0 0 []) (k + 1)
  else .err k 4
def rinto (n : NodeT) (k : Nat) : GR NodeT :=
  if rkd ts k 5 || ris ts k [36] then (rplace ts p k).bind fun x k1 => .ok (.mk n.k n.at' n.s n.z (n.i + 1) (n.l ++ [x])) k1
  else .ok n k
def rcall (kd k : Nat) : GR NodeT :=
  if ris ts (k + 1) [40] then (rlist ts p (k + 2) [41] true).bind fun l k1 => .ok (.mk kd (tk ts k).at' (tk ts k).s 0 0 l) k1
  else if (tk ts k).s = [108, 101, 110, 103, 116, 104] then .ok (.mk kd (tk ts k).at' (tk ts k).s 0 0 []) (k + 1)
  else .err (k + 1) 4
def rparen (k : Nat) : GR NodeT := (rlist ts p (k + 1) [41] false).bind fun l k1 => match l with
  | [x] => .ok x k1
  | l => if ris ts k1 [105, 110] then
      if rkd ts (k1 + 1) 5 then .ok (.mk 11 (tk ts k).at' (tk ts (k1 + 1)).s 0 0 l) (k1 + 2) else .err (k1 + 1) 4
    else .err k1 4
def ratom (k : Nat) : GR NodeT :=
  if rkd ts k 2 then .ok (.mk 1 (tk ts k).at' (tk ts k).s (tk ts k).z 0 []) (k + 1)
  else if rkd ts k 3 then .ok (.mk 2 (tk ts k).at' (tk ts k).s 0 0 []) (k + 1)
  else if rkd ts k 4 then .ok (.mk 3 (tk ts k).at' (tk ts k).s 0 0 []) (k + 1)
  else if rkd ts k 5 then rplace ts p k
  else if rkd ts k 6 then rcall ts p 18 k
  else if rkd ts k 8 then rcall ts p 19 k
  else if ris ts k [36] then rplace ts p k
  else if ris ts k [103, 101, 116, 108, 105, 110, 101] then rinto ts p (.mk 20 (tk ts k).at' [] 0 0 []) (k + 1)
  else if ris ts k [40] then rparen ts p k
  else .err k 4
def rstep (k : Nat) : GR NodeT :=
  if ramong ts k [32, 43, 43, 32, 45, 45, 32] then (rplace ts p (k + 1)).bind fun x k1 => .ok (.mk 17 (tk ts k).at' ((tk ts k).s.take 1 ++ [120]) 0 0 [x]) k1
  else (ratom ts p k).bind fun n k1 =>
    if lval n && ramong ts k1 [32, 43, 43, 32, 45, 45, 32] then .ok (.mk 17 n.at' ([120] ++ (tk ts k1).s.take 1) 0 0 [n]) (k1 + 1)
    else .ok n k1
def rpower (k : Nat) : GR NodeT := (rstep ts p k).bind fun n k1 =>
  if ris ts k1 [94] then
    if p.z then .err (k1 + 1) 6 else (p.signed (k1 + 1)).bind fun x k2 => .ok (twoT 15 [94] n x) k2
  else .ok n k1
def rsigned (k : Nat) : GR NodeT :=
  if ramong ts k [32, 43, 32, 45, 32, 33, 32] then
    if p.z then .err (k + 1) 6 else (p.signed (k + 1)).bind fun x k1 => .ok (.mk 16 (tk ts k).at' (tk ts k).s 0 0 [x]) k1
  else rpower ts p k
def signsS (next : Nat → GR NodeT) (kd : Nat) (x : NodeT) (k : Nat) : GR NodeT := (next (k + 1)).bind fun y k2 => .ok (twoT kd (tk ts k).s x y) k2
def rlev7 (k : Nat) : GR NodeT := (rsigned ts p k).bind (loopG (fun _ k => ramong ts k [32, 42, 32, 47, 32, 37, 32]) (signsS ts (rsigned ts p) 15) ts.length)
def rlev6 (k : Nat) : GR NodeT := (rlev7 ts p k).bind (loopG (fun _ k => ramong ts k [32, 43, 32, 45, 32]) (signsS ts (rlev7 ts p) 15) ts.length)
def rcatT (k : Nat) : Bool := (decide ((2 : Int) ≤ ((tk ts k).k : Int)) && decide (((tk ts k).k : Int) ≤ 6)) || ((((tk ts k).k : Int) == 8) || ramong ts k [32, 36, 32, 33, 32, 40, 32, 43, 43, 32, 45, 45, 32])
def rcatS (x : NodeT) (k : Nat) : GR NodeT := (rlev6 ts p k).bind fun y k2 => .ok (twoT 14 [] x y) k2
def rreads (x : NodeT) (k : Nat) : GR NodeT := loopG (fun _ k => ris ts k [124, 38] && ris ts (k + 1) [103, 101, 116, 108, 105, 110, 101]) (fun x k => rinto ts p (.mk 20 x.at' [] 0 2 [x]) (k + 2)) ts.length x k
def rlev5 (k : Nat) : GR NodeT := (rlev6 ts p k).bind fun x k1 => (loopG (fun _ k => rcatT ts k) (rcatS ts p) ts.length x k1).bind (rreads ts p)
def rlev4 (k : Nat) : GR NodeT := (rlev5 ts p k).bind (loopG (fun _ k => ramong ts k [32, 60, 32, 60, 61, 32, 61, 61, 32, 33, 61, 32, 62, 32, 62, 61, 32]) (signsS ts (rlev5 ts p) 13) 1)
def rlev3 (k : Nat) : GR NodeT := (rlev4 ts p k).bind (loopG (fun _ k => ramong ts k [32, 126, 32, 33, 126, 32]) (signsS ts (rlev4 ts p) 12) ts.length)
def rinS (x : NodeT) (k : Nat) : GR NodeT := if rkd ts (k + 1) 5 then .ok (.mk 11 x.at' (tk ts (k + 1)).s 0 0 [x]) (k + 2) else .err (k + 1) 4
def rlev2 (k : Nat) : GR NodeT := (rlev3 ts p k).bind (loopG (fun _ k => ris ts k [105, 110]) (rinS ts) ts.length)
def wordS (next : Nat → GR NodeT) (kd : Nat) (x : NodeT) (k : Nat) : GR NodeT := (next (rlines ts (k + 1))).bind fun y k2 => .ok (twoT kd [] x y) k2
def rlev1 (k : Nat) : GR NodeT := (rlev2 ts p k).bind (loopG (fun _ k => ris ts k [38, 38]) (wordS ts (rlev2 ts p) 9) ts.length)
def rlev0 (k : Nat) : GR NodeT := (rlev1 ts p k).bind (loopG (fun _ k => ris ts k [124, 124]) (wordS ts (rlev1 ts p) 10) ts.length)
def rcond (k : Nat) : GR NodeT := (rlev0 ts p k).bind fun n k1 =>
  if ris ts k1 [63] then (rexpr ts p (rlines ts (k1 + 1))).bind fun a k2 =>
    if ris ts k2 [58] then
      if p.z then .err (rlines ts (k2 + 1)) 6 else (p.cond (rlines ts (k2 + 1))).bind fun b k3 => .ok (.mk 8 n.at' [] 0 0 [n, a, b]) k3
    else .err k2 4
  else .ok n k1
def rshut (n : NodeT) (k : Nat) : GR NodeT := if rstops ts k then .ok n (rends ts k) else .err k 4
def rclause (k : Nat) : GR NodeT :=
  if ris ts k [40] then (rexpr ts p (k + 1)).bind fun n k1 => if ris ts k1 [41] then .ok n (k1 + 1) else .err k1 4
  else .err k 4
def rstmt (k : Nat) : GR NodeT :=
  if p.z then .err k 6
  else if ris ts k [123] then (p.block k).bind fun n k1 => .ok n (rends ts k1)
  else if ris ts k [59] then .ok (.mk 40 (tk ts k).at' [] 0 0 []) (rends ts (k + 1))
  else if ris ts k [105, 102] || ris ts k [119, 104, 105, 108, 101] then (p.clause (k + 1)).bind fun c k1 => (p.stmt (rlines ts k1)).bind fun a k2 =>
    if ris ts k [119, 104, 105, 108, 101] then .ok (.mk 43 (tk ts k).at' [] 0 0 [c, a]) k2
    else if ris ts k2 [101, 108, 115, 101] then (p.stmt (rlines ts (k2 + 1))).bind fun b k3 => .ok (.mk 42 (tk ts k).at' [] 0 0 [c, a, b]) k3
    else .ok (.mk 42 (tk ts k).at' [] 0 0 [c, a]) k2
  else if ris ts k [100, 111] then (p.stmt (rlines ts (k + 1))).bind fun a k1 =>
    if ris ts k1 [119, 104, 105, 108, 101] then (p.clause (k1 + 1)).bind fun c k2 => rshut ts (.mk 44 (tk ts k).at' [] 0 0 [a, c]) k2
    else .err k1 4
  else if ris ts k [102, 111, 114] then p.loop k
  else (p.simple k).bind (rshut ts)
def rblockS (l : List NodeT) (k : Nat) : GR (List NodeT) := (rstmt ts p k).bind fun x k1 => .ok (l ++ [x]) k1
def rblock (k : Nat) : GR NodeT :=
  if ris ts k [123] then (loopG (fun _ k => !ris ts k [125]) (rblockS ts p) ts.length [] (rends ts (k + 1))).bind fun l k1 => .ok (.mk 41 (tk ts k).at' [] 0 0 l) (k1 + 1)
  else .err k 4
def rjump (kd k : Nat) : GR NodeT :=
  if rstops ts (k + 1) then .ok (.mk kd (tk ts k).at' [] 0 0 []) (k + 1)
  else (rexpr ts p (k + 1)).bind fun x k1 => .ok (.mk kd (tk ts k).at' [] 0 0 [x]) k1
def rdelete (k : Nat) : GR NodeT :=
  if rkd ts (k + 1) 5 then
    if ris ts (k + 2) [91] then (rlist ts p (k + 3) [93] false).bind fun l k1 => .ok (.mk 52 (tk ts k).at' (tk ts (k + 1)).s 0 1 l) k1
    else .ok (.mk 52 (tk ts k).at' (tk ts (k + 1)).s 0 0 []) (k + 2)
  else .err (k + 1) 4
def rprintE (k : Nat) (l : List NodeT) (k1 : Nat) : GR NodeT :=
  if ris ts k1 [124, 38] then (rlev6 ts p (k1 + 1)).bind fun x k2 => .ok (.mk 53 (tk ts k).at' (tk ts k).s 0 1 (l ++ [x])) k2
  else .ok (.mk 53 (tk ts k).at' (tk ts k).s 0 0 l) k1
def rprint (k : Nat) : GR NodeT :=
  if decide ((tk ts k).s = [112, 114, 105, 110, 116, 102]) || (!rstops ts (k + 1) && !ris ts (k + 1) [124, 38]) then (rlist ts p (k + 1) [] false).bind (rprintE ts p k)
  else rprintE ts p k [] (k + 1)
def rsimple (k : Nat) : GR NodeT :=
  if rkd ts k 7 && decide ((tk ts k).s = [98, 114, 101, 97, 107]) then .ok (.mk 47 (tk ts k).at' [] 0 0 []) (k + 1)
  else if rkd ts k 7 && decide ((tk ts k).s = [99, 111, 110, 116, 105, 110, 117, 101]) then .ok (.mk 48 (tk ts k).at' [] 0 0 []) (k + 1)
  else if rkd ts k 7 && decide ((tk ts k).s = [110, 101, 120, 116]) then .ok (.mk 49 (tk ts k).at' [] 0 0 []) (k + 1)
  else if rkd ts k 7 && decide ((tk ts k).s = [101, 120, 105, 116]) then rjump ts p 50 k
  else if rkd ts k 7 && decide ((tk ts k).s = [114, 101, 116, 117, 114, 110]) then rjump ts p 51 k
  else if rkd ts k 7 && decide ((tk ts k).s = [100, 101, 108, 101, 116, 101]) then rdelete ts p k
  else if rkd ts k 7 && (decide ((tk ts k).s = [112, 114, 105, 110, 116]) || decide ((tk ts k).s = [112, 114, 105, 110, 116, 102])) then rprint ts p k
  else (rexpr ts p k).bind fun x k1 => .ok (.mk 54 (tk ts k).at' [] 0 0 [x]) k1
def rpart (i : Nat) (e : List Nat) (l : List NodeT) (k : Nat) : GR (List NodeT) :=
  (if !ris ts k e && (decide (i = 1) || (!ris ts k [59] && !ris ts k [41])) then (if i = 1 then rexpr ts p k else rsimple ts p k) else .ok (.mk 40 0 [] 0 0 []) k).bind fun x k1 =>
    if ris ts k1 e then .ok (l ++ [x]) (rlines ts (k1 + 1)) else .err k1 4
def reach (k : Nat) : Bool := rkd ts k 5 && (ris ts (k + 1) [105, 110] && (rkd ts (k + 2) 5 && ris ts (k + 3) [41]))
def rloop (k : Nat) : GR NodeT :=
  if ris ts (k + 1) [40] then
    if reach ts (k + 2) then (rstmt ts p (rlines ts (k + 6))).bind fun b k3 => .ok (.mk 46 (tk ts k).at' (tk ts (k + 4)).s 0 0 [.mk 4 (tk ts (k + 2)).at' (tk ts (k + 2)).s 0 0 [], b]) k3
    else (rpart ts p 0 [59] [] (k + 2)).bind fun l k3 => (rpart ts p 1 [59] l k3).bind fun l k4 => (rpart ts p 2 [41] l k4).bind fun l k5 =>
      (rstmt ts p k5).bind fun b k6 => .ok (.mk 45 (tk ts k).at' [] 0 0 (l ++ [b])) k6
  else .err (k + 1) 4
end
def rp (ts : List TokF) : Nat → RPar
  | 0 => ⟨true, fun k => .err k 6, fun k => .err k 6, fun k => .err k 6, fun k => .err k 6, fun k => .err k 6, fun k => .err k 6, fun k => .err k 6, fun k => .err k 6, fun k => .err k 6, fun k => .err k 6⟩
  | n + 1 => ⟨false, rexpr ts (rp ts n), rcond ts (rp ts n), rsigned ts (rp ts n), rstep ts (rp ts n), ratom ts (rp ts n), rstmt ts (rp ts n), rblock ts (rp ts n), rclause ts (rp ts n), rloop ts (rp ts n), rsimple ts (rp ts n)⟩
section
variable (ts : List TokF) (p : RPar)
def rparamF : Nat → List (List Nat) → Nat → GR (List (List Nat))
  | 0, l, k => .ok l k
  | f + 1, l, k =>
    if ris ts k [41] then .ok l k
    else if decide (0 < l.length) then
      if ris ts k [44] then
        if rkd ts (rlines ts (k + 1)) 5 then rparamF f (l ++ [(tk ts (rlines ts (k + 1))).s]) (rlines ts (k + 1) + 1) else .err (rlines ts (k + 1)) 4
      else .err k 4
    else if rkd ts k 5 then rparamF f (l ++ [(tk ts k).s]) (k + 1) else .err k 4
def rfunction (t : TreeT) (k : Nat) : GR TreeT :=
  if rkd ts (k + 1) 5 || rkd ts (k + 1) 6 then
    if ris ts (k + 2) [40] then (rparamF ts ts.length [] (k + 3)).bind fun l k1 => (p.block (rlines ts (k1 + 1))).bind fun b k2 =>
      .ok ⟨t.funcs ++ [⟨(tk ts (k + 1)).s, l, b, (tk ts k).at'⟩], t.rules⟩ k2
    else .err (k + 2) 4
  else .err (k + 1) 4
def rkind (k : Nat) : Nat := if ris ts k [67, 76, 79, 83, 69] then 4 else if ris ts k [79, 80, 69, 78] then 3 else if ris ts k [69, 78, 68] then 2 else if ris ts k [66, 69, 71, 73, 78] then 1 else 5
def rbody (k kd : Nat) (l : List NodeT) (t : TreeT) (k1 : Nat) : GR TreeT := (p.block k1).bind fun b k2 => .ok ⟨t.funcs, t.rules ++ [⟨kd, (tk ts k).at', l, b, false⟩]⟩ k2
def rrule (k kd : Nat) (l : List NodeT) (t : TreeT) (k1 : Nat) : GR TreeT :=
  if ris ts k1 [123] then rbody ts p k kd l t k1 else .ok ⟨t.funcs, t.rules ++ [⟨kd, (tk ts k).at', l, .mk 40 0 [] 0 0 [], true⟩]⟩ k1
def ritem (t : TreeT) (k : Nat) : GR TreeT :=
  if ris ts k [102, 117, 110, 99, 116, 105, 111, 110] then rfunction ts p t k
  else if !(rkind ts k == 5) then rbody ts p k (rkind ts k) [] t (k + 1)
  else if ris ts k [123] then rbody ts p k 5 [] t k
  else (p.expr k).bind fun x k1 =>
    if ris ts k1 [44] then (p.expr (rlines ts (k1 + 1))).bind fun y k2 => rrule ts p k 7 [x, y] t k2
    else rrule ts p k 6 [x] t k1
def rprogF : Nat → TreeT → Nat → GR TreeT
  | 0, t, k => .ok t k
  | f + 1, t, k => if rkd ts k 0 then .ok t k else (ritem ts p t k).bind fun t k =>
    if !ris ts (k - 1) [125] && (!rstops ts k || ris ts k [125]) then .err k 4 else rprogF f t (rends ts k)
def rparse : GR TreeT := rprogF ts (rp ts 65) ts.length ⟨[], []⟩ (rends ts 0)
end
open Go.RowKit
def wellS : Bool → List Nat → Bool
  | e, [] => !e
  | true, _ :: r => wellS false r
  | false, c :: r => wellS (decide (c = 92)) r
theorem quotS_well (sign : Nat) : ∀ (l : List Nat) (e : Bool) (n : Nat), quotS sign e l = some n → wellS e (l.take n) = true
  | [], e, n, h => by cases e <;> simp [quotS] at h
  | c :: r, e, n, h => by
    rw [quotS] at h
    by_cases h10 : c = 10
    · rw [if_pos h10] at h; cases h
    · rw [if_neg h10] at h
      cases e with
      | true =>
        simp only [if_true] at h
        cases hq : quotS sign false r with
        | none => rw [hq] at h; cases h
        | some m =>
          rw [hq] at h
          obtain rfl : m + 1 = n := Option.some.inj h
          rw [List.take_succ_cons]
          exact quotS_well sign r false m hq
      | false =>
        simp only [Bool.false_eq_true, if_false] at h
        by_cases hs : c = sign
        · rw [if_pos hs] at h
          obtain rfl : 0 = n := Option.some.inj h
          rfl
        · rw [if_neg hs] at h
          cases hq : quotS sign (decide (c = 92)) r with
          | none => rw [hq] at h; cases h
          | some m =>
            rw [hq] at h
            obtain rfl : m + 1 = n := Option.some.inj h
            rw [List.take_succ_cons]
            exact quotS_well sign r _ m hq
open Go.RowKit
theorem w1_nat {k : Nat} (h : k ≤ 1000000) : wrap64 ((k : Int) + 1) = (k : Int) + 1 := IntWalk.wrap64_in _ (by omega)
theorem meas2 {n k k' : Nat} {v : Int} (hv : v = (k' : Int)) (h : k < k') (h2 : k < n) : n - (intOf (.int .i64 v)).toNat < n - (intOf (.int .i64 (k : Int))).toNat := by
  subst hv
  show n - (k' : Int).toNat < n - (k : Int).toNat
  rw [Int.toNat_natCast, Int.toNat_natCast]; omega
theorem octD_le : ∀ (k : Nat) (r : List Nat) (n : Nat), (octD k r n).2 ≤ k ∧ (octD k r n).2 ≤ r.length
  | 0, r, n => by rw [octD]; simp
  | k + 1, [], n => by rw [octD]; simp
  | k + 1, c :: r, n => by
    rw [octD]
    split
    · have := octD_le k r (n * 8 + (c - 48))
      simp only [List.length_cons]
      omega
    · simp
theorem unesc_step (f c : Nat) (r : List Nat) : unesc (f + 1) (c :: r) = if c = 92 then (if (octD 3 r 0).2 = 0 then (match r with | [] => [] | d :: r' => escB d :: unesc f r') else (octD 3 r 0).1 % 256 :: unesc f (r.drop (octD 3 r 0).2)) else c :: unesc f r := by
  cases r <;> rfl
theorem unesc_fuel : ∀ (f f' : Nat) (l : List Nat), l.length < f → l.length < f' → unesc f l = unesc f' l
  | 0, _, l, h, _ => by omega
  | _, 0, l, _, h => by omega
  | f + 1, f' + 1, [], _, _ => by rw [unesc, unesc]
  | f + 1, f' + 1, c :: r, h, h' => by
    simp only [List.length_cons] at h h'
    rw [unesc_step, unesc_step]
    split
    · split
      · cases r with
        | nil => rfl
        | cons d r' =>
          simp only [List.length_cons] at h h'
          simp only
          rw [unesc_fuel f f' r' (by omega) (by omega)]
      · rw [unesc_fuel f f' (r.drop (octD 3 r 0).2) (by rw [List.length_drop]; omega) (by rw [List.length_drop]; omega)]
    · rw [unesc_fuel f f' r (by omega) (by omega)]
def uns (l : List Nat) : List Nat := unesc (l.length + 1) l
theorem uns_nil : uns [] = [] := rfl
theorem uns_cons {c : Nat} (h : c ≠ 92) (r : List Nat) : uns (c :: r) = c :: uns r := by
  unfold uns
  rw [List.length_cons, unesc_step, if_neg h]
theorem uns_oct {r : List Nat} (h : (octD 3 r 0).2 ≠ 0) : uns (92 :: r) = (octD 3 r 0).1 % 256 :: uns (r.drop (octD 3 r 0).2) := by
  unfold uns
  rw [List.length_cons, unesc_step, if_pos rfl, if_neg h, unesc_fuel (r.length + 1) ((r.drop (octD 3 r 0).2).length + 1) _ (by rw [List.length_drop]; omega) (by omega)]
theorem uns_esc {d : Nat} {r : List Nat} (h : (octD 3 (d :: r) 0).2 = 0) : uns (92 :: d :: r) = escB d :: uns r := by
  unfold uns
  rw [List.length_cons, unesc_step, if_pos rfl, if_pos h]
  simp only
  rw [unesc_fuel ((d :: r).length + 1) (r.length + 1) r (by simp; omega) (by omega)]
def OctI (r : List Nat) (q v : Nat) : Prop := q ≤ 3 ∧ octD 3 r 0 = ((octD (3 - q) (r.drop q) v).1, q + (octD (3 - q) (r.drop q) v).2)
theorem OctI.start (r : List Nat) : OctI r 0 0 := ⟨by omega, by simp⟩
theorem OctI.go {r : List Nat} {q v : Nat} (h : OctI r q v) (hq : q < 3) (hl : q < r.length) (hd : isOct r[q] = true) : OctI r (q + 1) (v * 8 + (r[q] - 48)) := by
  obtain ⟨_, h⟩ := h
  refine ⟨by omega, ?_⟩
  rw [List.drop_eq_getElem_cons hl, show 3 - q = (3 - (q + 1)) + 1 by omega, octD, if_pos hd] at h
  rw [h]
  congr 1
  omega
theorem OctI.stop {r : List Nat} {q v : Nat} (h : OctI r q v) (hs : q = 3 ∨ r.length ≤ q ∨ ∃ hl : q < r.length, isOct r[q] = false) : octD 3 r 0 = (v, q) := by
  obtain ⟨_, h⟩ := h
  rw [h]
  rcases hs with rfl | hl | ⟨hl, hd⟩
  · simp [octD]
  · rw [List.drop_eq_nil_of_le hl]
    cases 3 - q <;> simp [octD]
  · rw [List.drop_eq_getElem_cons hl]
    cases h3 : 3 - q with
    | zero => simp [octD]
    | succ k => rw [octD, hd]; simp
theorem wellS_false {c : Nat} (h : c ≠ 92) (r : List Nat) (hw : wellS false (c :: r) = true) : wellS false r = true := by
  rw [wellS, decide_eq_false h] at hw
  exact hw
theorem wellS_true {r : List Nat} (hw : wellS false (92 :: r) = true) : ∃ d r', r = d :: r' ∧ wellS false r' = true := by
  rw [wellS, decide_eq_true rfl] at hw
  cases r with
  | nil => rw [wellS] at hw; cases hw
  | cons d r' => rw [wellS] at hw; exact ⟨d, r', rfl, hw⟩
theorem wellS_oct : ∀ (k : Nat) (r : List Nat) (n : Nat), wellS false r = true → wellS false (r.drop (octD k r n).2) = true
  | 0, r, n, h => by rw [octD]; exact h
  | k + 1, [], n, h => by rw [octD]; exact h
  | k + 1, c :: r, n, h => by
    rw [octD]
    split
    · rename_i hc
      simp only [List.drop_succ_cons]
      refine wellS_oct k r _ (wellS_false ?_ r h)
      intro e
      subst e
      revert hc
      decide
    · exact h
theorem wellS_oct3 {r : List Nat} (h : wellS false (92 :: r) = true) (h0 : (octD 3 r 0).2 ≠ 0) : wellS false (r.drop (octD 3 r 0).2) = true := by
  obtain ⟨d, r', rfl, h'⟩ := wellS_true h
  rw [octD] at h0 ⊢
  split
  · simp only [List.drop_succ_cons]
    exact wellS_oct 2 r' _ h'
  · rename_i hd
    rw [if_neg hd] at h0
    exact absurd rfl h0
theorem octD_lt : ∀ (k : Nat) (r : List Nat) (n m : Nat), n < m → (octD k r n).1 < m * 8 ^ k
  | 0, r, n, m, h => by rw [octD]; simpa using h
  | k + 1, [], n, m, h => by
    rw [octD]
    have : m * 1 ≤ m * 8 ^ (k + 1) := Nat.mul_le_mul_left _ (Nat.one_le_pow _ _ (by decide))
    simp only
    omega
  | k + 1, c :: r, n, m, h => by
    rw [octD]
    split
    · rename_i hc
      simp only
      have := octD_lt k r (n * 8 + (c - 48)) (m * 8) (by
        unfold isOct at hc
        have := of_decide_eq_true hc
        omega)
      rw [Nat.pow_succ, Nat.mul_comm (8 ^ k) 8, ← Nat.mul_assoc]
      exact this
    · have : m * 1 ≤ m * 8 ^ (k + 1) := Nat.mul_le_mul_left _ (Nat.one_le_pow _ _ (by decide))
      simp only
      omega
def UnsI (T R : List Nat) (k : Nat) (out : List Nat) : Prop := k ≤ T.length ∧ out ++ uns (T.drop k) = R ∧ wellS false (T.drop k) = true ∧ out.length ≤ k
theorem UnsI.plain {T R : List Nat} {k : Nat} {out : List Nat} (h : UnsI T R k out) (hk : k < T.length) (hc : T[k] ≠ 92) : UnsI T R (k + 1) (out ++ [T[k]]) := by
  obtain ⟨h0, h1, h2, h3⟩ := h
  rw [List.drop_eq_getElem_cons hk] at h1 h2
  rw [uns_cons hc] at h1
  exact ⟨by omega, by rw [List.append_assoc]; exact h1, wellS_false hc _ h2, by simp; omega⟩
theorem UnsI.next {T R : List Nat} {k : Nat} {out : List Nat} (h : UnsI T R k out) (hk : k < T.length) (hc : T[k] = 92) : k + 1 < T.length := by
  obtain ⟨h0, h1, h2, h3⟩ := h
  rw [List.drop_eq_getElem_cons hk, hc] at h2
  obtain ⟨d, r', e, _⟩ := wellS_true h2
  have := congrArg List.length e
  rw [List.length_drop] at this
  simp at this
  omega
theorem UnsI.esc {T R : List Nat} {k : Nat} {out : List Nat} (h : UnsI T R k out) (hk : k + 1 < T.length) (hc : T[k] = 92) (ho : (octD 3 (T.drop (k + 1)) 0).2 = 0) : UnsI T R (k + 2) (out ++ [escB T[k + 1]]) := by
  obtain ⟨h0, h1, h2, h3⟩ := h
  rw [List.drop_eq_getElem_cons (by omega), hc] at h1 h2
  rw [List.drop_eq_getElem_cons hk] at h1 h2 ho
  obtain ⟨d, r', e, h5⟩ := wellS_true h2
  injection e with e1 e2
  rw [uns_esc ho] at h1
  refine ⟨by omega, by rw [List.append_assoc]; exact h1, by rw [e2]; exact h5, by simp; omega⟩
theorem UnsI.oct {T R : List Nat} {k q v : Nat} {out : List Nat} (h : UnsI T R k out) (hk : k < T.length) (hc : T[k] = 92) (ho : octD 3 (T.drop (k + 1)) 0 = (v, q)) (hq : q ≠ 0) : UnsI T R (k + 1 + q) (out ++ [v % 256]) := by
  obtain ⟨h0, h1, h2, h3⟩ := h
  rw [List.drop_eq_getElem_cons hk, hc] at h1 h2
  have hq2 : (octD 3 (T.drop (k + 1)) 0).2 = q := by rw [ho]
  have hl := (octD_le 3 (T.drop (k + 1)) 0).2
  rw [hq2, List.length_drop] at hl
  rw [uns_oct (by rw [hq2]; exact hq), ho, List.drop_drop] at h1
  have h5 := wellS_oct3 h2 (by rw [hq2]; exact hq)
  rw [hq2, List.drop_drop] at h5
  refine ⟨by omega, by rw [List.append_assoc]; exact h1, h5, by simp; omega⟩
theorem UnsI.done {T R : List Nat} {k : Nat} {out : List Nat} (h : UnsI T R k out) (hk : T.length ≤ k) : out = R := by
  obtain ⟨h0, h1, h2, h3⟩ := h
  rw [List.drop_eq_nil_of_le hk, uns_nil, List.append_nil] at h1
  exact h1
theorem UnsI.start {T : List Nat} (h : wellS false T = true) : UnsI T (uns T) 0 [] := ⟨Nat.zero_le _, rfl, h, Nat.le_refl _⟩
def RegI (T R : List Nat) (k : Nat) (out : List Nat) : Prop := k ≤ T.length ∧ out ++ unreg (T.drop k) = R ∧ wellS false (T.drop k) = true ∧ out.length ≤ k
theorem unreg_cons {c : Nat} (h : c ≠ 92) : ∀ r : List Nat, unreg (c :: r) = c :: unreg r
  | [] => by rw [unreg, unreg]
  | d :: r => by rw [unreg, if_neg h]
theorem RegI.plain {T R : List Nat} {k : Nat} {out : List Nat} (h : RegI T R k out) (hk : k < T.length) (hc : T[k] ≠ 92) : RegI T R (k + 1) (out ++ [T[k]]) := by
  obtain ⟨h0, h1, h2, h3⟩ := h
  rw [List.drop_eq_getElem_cons hk] at h1 h2
  rw [unreg_cons hc] at h1
  exact ⟨by omega, by rw [List.append_assoc]; exact h1, wellS_false hc _ h2, by simp; omega⟩
theorem RegI.next {T R : List Nat} {k : Nat} {out : List Nat} (h : RegI T R k out) (hk : k < T.length) (hc : T[k] = 92) : k + 1 < T.length := by
  obtain ⟨h0, h1, h2, h3⟩ := h
  rw [List.drop_eq_getElem_cons hk, hc] at h2
  obtain ⟨d, r', e, _⟩ := wellS_true h2
  have := congrArg List.length e
  rw [List.length_drop] at this
  simp at this
  omega
theorem RegI.slash {T R : List Nat} {k : Nat} {out : List Nat} (h : RegI T R k out) (hk : k + 1 < T.length) (hc : T[k] = 92) (hd : T[k + 1] = 47) : RegI T R (k + 2) (out ++ [T[k + 1]]) := by
  obtain ⟨h0, h1, h2, h3⟩ := h
  rw [List.drop_eq_getElem_cons (by omega), hc] at h1 h2
  rw [List.drop_eq_getElem_cons hk] at h1 h2
  obtain ⟨d, r', e, h5⟩ := wellS_true h2
  injection e with e1 e2
  rw [unreg, if_pos rfl, if_pos hd] at h1
  refine ⟨by omega, by rw [List.append_assoc, hd]; exact h1, by rw [e2]; exact h5, by simp; omega⟩
theorem RegI.other {T R : List Nat} {k : Nat} {out : List Nat} (h : RegI T R k out) (hk : k + 1 < T.length) (hc : T[k] = 92) (hd : T[k + 1] ≠ 47) : RegI T R (k + 2) (out ++ [92] ++ [T[k + 1]]) := by
  obtain ⟨h0, h1, h2, h3⟩ := h
  rw [List.drop_eq_getElem_cons (by omega), hc] at h1 h2
  rw [List.drop_eq_getElem_cons hk] at h1 h2
  obtain ⟨d, r', e, h5⟩ := wellS_true h2
  injection e with e1 e2
  rw [unreg, if_pos rfl, if_neg hd] at h1
  refine ⟨by omega, by rw [List.append_assoc, List.append_assoc]; exact h1, by rw [e2]; exact h5, by simp; omega⟩
theorem RegI.done {T R : List Nat} {k : Nat} {out : List Nat} (h : RegI T R k out) (hk : T.length ≤ k) : out = R := by
  obtain ⟨h0, h1, h2, h3⟩ := h
  rw [List.drop_eq_nil_of_le hk, unreg, List.append_nil] at h1
  exact h1
theorem RegI.start {T : List Nat} (h : wellS false T = true) : RegI T (unreg T) 0 [] := ⟨Nat.zero_le _, rfl, h, Nat.le_refl _⟩
theorem escB_lt {c : Nat} (h : c < 256) : escB c < 256 := by unfold escB; repeat (first | (split; omega) | omega)
theorem unesc_byte : ∀ (f : Nat) (l : List Nat), (∀ x ∈ l, x < 256) → ∀ x ∈ unesc f l, x < 256
  | 0, _, _, x, h => by rw [unesc] at h; cases h
  | f + 1, [], _, x, h => by rw [unesc] at h; cases h
  | f + 1, c :: r, hb, x, h => by
    have hr : ∀ x ∈ r, x < 256 := fun x hx => hb x (List.mem_cons_of_mem _ hx)
    rw [unesc_step] at h
    split at h
    · split at h
      · cases r with
        | nil => cases h
        | cons d r' =>
          rcases List.mem_cons.1 h with rfl | h
          · exact escB_lt (hr _ List.mem_cons_self)
          · exact unesc_byte f r' (fun x hx => hr x (List.mem_cons_of_mem _ hx)) x h
      · rcases List.mem_cons.1 h with rfl | h
        · exact Nat.mod_lt _ (by decide)
        · exact unesc_byte f _ (fun x hx => hr x (List.mem_of_mem_drop hx)) x h
    · rcases List.mem_cons.1 h with rfl | h
      · exact hb _ List.mem_cons_self
      · exact unesc_byte f r hr x h
theorem unreg_sub : ∀ (n : Nat) (l : List Nat), l.length ≤ n → ∀ x ∈ unreg l, x ∈ l
  | _, [], _, x, h => by rw [unreg] at h; cases h
  | _, [c], _, x, h => by rw [unreg] at h; exact h
  | 0, c :: d :: r, hn, x, h => by simp at hn
  | n + 1, c :: d :: r, hn, x, h => by
    simp only [List.length_cons] at hn
    rw [unreg] at h
    split at h
    · split at h
      · rename_i hd
        rcases List.mem_cons.1 h with rfl | h
        · exact List.mem_cons_of_mem _ (by rw [hd]; exact List.mem_cons_self)
        · exact List.mem_cons_of_mem _ (List.mem_cons_of_mem _ (unreg_sub n r (by omega) x h))
      · rename_i hc _
        rcases List.mem_cons.1 h with rfl | h
        · rw [hc]; exact List.mem_cons_self
        · rcases List.mem_cons.1 h with rfl | h
          · exact List.mem_cons_of_mem _ List.mem_cons_self
          · exact List.mem_cons_of_mem _ (List.mem_cons_of_mem _ (unreg_sub n r (by omega) x h))
    · rcases List.mem_cons.1 h with rfl | h
      · exact List.mem_cons_self
      · exact List.mem_cons_of_mem _ (unreg_sub n (d :: r) (by simp; omega) x h)
structure Spt where
  n : NodeT
  fn : Int
  kd : Nat
  deep : Nat
  call : List Nat
  arg : Nat
  split : Bool
  called : Bool
def isCall (u : NodeT) : Bool := ((u.k : Int) == 18)
def isSplitN (u : NodeT) (i : Nat) : Bool := ((u.k : Int) == 19) && (decide (u.s = [115, 112, 108, 105, 116]) && ((i : Int) == 1))
mutual
def spN (fn : Int) (kd deep : Nat) (call : List Nat) (arg : Nat) (split called : Bool) : NodeT → List Spt
  | .mk k a s z v l => ⟨.mk k a s z v l, fn, kd, deep, call, arg, split, called⟩ :: spL (.mk k a s z v l) fn kd (if isLoop (.mk k a s z v l) then deep + 1 else deep) 0 l
def spL (up : NodeT) (fn : Int) (kd deep i : Nat) : List NodeT → List Spt
  | [] => []
  | n :: l => spN fn kd deep (if isCall up then up.s else []) (if isCall up then i else 0) (isSplitN up i) (isCall up) n ++ spL up fn kd deep (i + 1) l
end
def spFuncs : Nat → List FuncT → List Spt
  | _, [] => []
  | i, f :: l => spN (i : Int) 0 0 [] 0 false false f.body ++ spFuncs (i + 1) l
def spRule (r : RuleT) : List Spt := r.l.flatMap (fun n => spN (-1) r.k 0 [] 0 false false n) ++ spN (-1) r.k 0 [] 0 false false r.body
def spots (t : TreeT) : List Spt := spFuncs 0 t.funcs ++ t.rules.flatMap spRule
def tellS (s : Spt) : NodeT × Int × Bool × Bool := (s.n, s.fn, s.split, s.called)
def tellP (p : Pl) : NodeT × Int × Bool × Bool := (p.n, p.fn, isSplit p, isHanded p)
mutual
theorem tell_N (fn : Int) (kd deep : Nat) (call : List Nat) (arg : Nat) (split called : Bool) (up : Option NodeT) (i : Nat) (lp : Bool) : ∀ n : NodeT, (match up with | some u => isSplitN u i | none => false) = split → (match up with | some u => isCall u | none => false) = called → (spN fn kd deep call arg split called n).map tellS = (preN up i fn kd lp n).map tellP
  | .mk k a s z v l, h1, h2 => by
    rw [spN, preN, List.map_cons, List.map_cons, tell_L _ fn kd _ 0 _ l]
    congr 1
    unfold tellS tellP isSplit isHanded
    subst h1 h2
    cases up <;> rfl
theorem tell_L (up : NodeT) (fn : Int) (kd deep i : Nat) (lp : Bool) : ∀ l : List NodeT, (spL up fn kd deep i l).map tellS = (preL up i fn kd lp l).map tellP
  | [] => by rw [spL, preL]; rfl
  | n :: l => by
    rw [spL, preL, List.map_append, List.map_append, tell_L up fn kd deep (i + 1) lp l, tell_N fn kd deep _ _ _ _ (some up) i lp n rfl rfl]
end
theorem tell_F : ∀ (i : Nat) (l : List FuncT), (spFuncs i l).map tellS = (plFuncs i l).map tellP
  | _, [] => rfl
  | i, f :: l => by rw [spFuncs, plFuncs, List.map_append, List.map_append, tell_F (i + 1) l, tell_N _ _ _ _ _ _ _ none 0 false _ rfl rfl]
theorem tell_R (r : RuleT) : (spRule r).map tellS = (plRule r).map tellP := by
  unfold spRule plRule
  rw [List.map_append, List.map_append, tell_N _ _ _ _ _ _ _ none 0 false r.body rfl rfl]
  congr 1
  induction r.l with
  | nil => rfl
  | cons n l ih => rw [List.flatMap_cons, List.flatMap_cons, List.map_append, List.map_append, ih, tell_N _ _ _ _ _ _ _ none 0 false n rfl rfl]
theorem tell_all (t : TreeT) : (spots t).map tellS = (places t).map tellP := by
  unfold spots places
  rw [List.map_append, List.map_append, tell_F]
  congr 1
  induction t.rules with
  | nil => rfl
  | cons r l ih => rw [List.flatMap_cons, List.flatMap_cons, List.map_append, List.map_append, ih, tell_R]
theorem posF_lt (s : List Nat) : ∀ (l : List (List Nat)) (i j : Nat), posF s l i = some j → i ≤ j ∧ j < i + l.length ∧ l[j - i]? = some s
  | [], i, j, h => by cases h
  | x :: l, i, j, h => by
    unfold posF at h
    split at h
    · rename_i hx
      cases h
      refine ⟨Nat.le_refl _, by simp, ?_⟩
      rw [Nat.sub_self, hx]
      rfl
    · obtain ⟨h1, h2, h3⟩ := posF_lt s l (i + 1) j h
      refine ⟨by omega, by simp; omega, ?_⟩
      rw [show j - i = (j - (i + 1)) + 1 by omega]
      exact h3
theorem posF_app (s : List Nat) (m : List (List Nat)) : ∀ (l : List (List Nat)) (i j : Nat), posF s l i = some j → posF s (l ++ m) i = some j
  | [], i, j, h => by cases h
  | x :: l, i, j, h => by
    unfold posF at h
    rw [List.cons_append, posF]
    split at h
    · rename_i hx
      rw [if_pos hx]
      exact h
    · rename_i hx
      rw [if_neg hx]
      exact posF_app s m l (i + 1) j h
theorem posF_none (s : List Nat) : ∀ (l : List (List Nat)) (i : Nat), posF s l i = none → posF s (l ++ [s]) i = some (i + l.length)
  | [], i, h => by rw [List.nil_append, posF, if_pos rfl]; rfl
  | x :: l, i, h => by
    unfold posF at h
    split at h
    · cases h
    · rename_i hx
      rw [List.cons_append, posF, if_neg hx, posF_none s l (i + 1) h, List.length_cons]
      congr 1
      omega
def NLe (a b : NSt) : Prop := (∃ m, b.L = a.L ++ m) ∧ ∀ v ∈ a.arr, v ∈ b.arr
theorem NLe.refl (a : NSt) : NLe a a := ⟨⟨[], by simp⟩, fun _ h => h⟩
theorem NLe.trans {a b c : NSt} (h : NLe a b) (k : NLe b c) : NLe a c := by
  obtain ⟨⟨m, h1⟩, h2⟩ := h
  obtain ⟨⟨m', k1⟩, k2⟩ := k
  exact ⟨⟨m ++ m', by rw [k1, h1, List.append_assoc]⟩, fun v hv => k2 v (h2 v hv)⟩
theorem array_le (v : Rf) (st : NSt) : NLe st (arrayS v st) := by
  unfold arrayS
  split
  · exact NLe.refl _
  · exact ⟨⟨[], by simp⟩, fun _ h => List.mem_append_left _ h⟩
theorem array_mem (v : Rf) (st : NSt) : v ∈ (arrayS v st).arr := by
  unfold arrayS
  split
  · assumption
  · exact List.mem_append_right _ (List.mem_singleton.2 rfl)
theorem array_L (v : Rf) (st : NSt) : (arrayS v st).L = st.L := by unfold arrayS; split <;> rfl
theorem known_le (t : TreeT) (p : Pl) (st : NSt) : NLe st (knownS t p st) := by
  unfold knownS
  split
  · exact ⟨⟨[p.n.s], rfl⟩, fun _ h => h⟩
  · exact NLe.refl _
theorem note_le (t : TreeT) (p : Pl) (st : NSt) : NLe st (noteS t p st) := by
  unfold noteS
  dsimp only
  split
  · refine (known_le t p st).trans ?_
    split
    · exact array_le _ _
    · split
      · exact array_le _ _
      · split
        · exact ⟨⟨[], by simp⟩, fun _ h => h⟩
        · exact NLe.refl _
  · exact NLe.refl _
theorem notes_le (t : TreeT) : ∀ (l : List Pl) (st : NSt), NLe st (l.foldl (fun st p => noteS t p st) st)
  | [], st => NLe.refl _
  | p :: l, st => (note_le t p st).trans (notes_le t l _)
theorem hand_le : ∀ (l : List Rf) (st : NSt), NLe st (l.foldl (fun st x => arrayS x st) st)
  | [], st => NLe.refl _
  | v :: l, st => (array_le v st).trans (hand_le l _)
theorem spread_le : ∀ (f : Nat) (st : NSt), NLe st (spreadF f st)
  | 0, st => NLe.refl _
  | f + 1, st => by
    rw [spreadF]
    split
    · exact NLe.refl _
    · rename_i v _
      refine NLe.trans ?_ (spread_le f _)
      refine NLe.trans ?_ (hand_le _ _)
      exact ⟨⟨[], by simp⟩, fun _ h => h⟩
def knownB (t : TreeT) (L : List (List Nat)) (fn : Int) (s : List Nat) : Prop := 0 ≤ (refS t L fn s).fn ∨ ∃ j, posF s L 0 = some j
theorem ref_app (t : TreeT) (L m : List (List Nat)) (fn : Int) (s : List Nat) (h : knownB t L fn s) : refS t (L ++ m) fn s = refS t L fn s ∧ knownB t (L ++ m) fn s := by
  rcases h with h | ⟨j, h⟩
  · have e : refS t (L ++ m) fn s = refS t L fn s := by
      unfold refS at h ⊢
      split
      · rename_i h0
        rw [if_pos h0] at h
        split
        · rfl
        · rename_i hp
          rw [hp] at h
          exact absurd h (show ¬ (0 : Int) ≤ -1 by decide)
      · rename_i h0
        rw [if_neg h0] at h
        exact absurd h (show ¬ (0 : Int) ≤ -1 by decide)
    exact ⟨e, .inl (by rw [e]; exact h)⟩
  · have h2 := posF_app s m L 0 j h
    refine ⟨?_, .inr ⟨j, h2⟩⟩
    unfold refS
    rw [h, h2]
theorem known_note (t : TreeT) (p : Pl) (st : NSt) : knownB t (knownS t p st).L p.fn p.n.s := by
  unfold knownS
  split
  · rename_i h
    rw [Bool.and_eq_true, decide_eq_true_eq, Bool.not_eq_true'] at h
    right
    cases hp : posF p.n.s st.L 0 with
    | some j => rw [hp] at h; exact absurd h.2 (by simp)
    | none => exact ⟨_, posF_none p.n.s st.L 0 hp⟩
  · rename_i h
    rw [Bool.and_eq_true, decide_eq_true_eq, Bool.not_eq_true'] at h
    by_cases h0 : (refS t st.L p.fn p.n.s).fn < 0
    · right
      cases hp : posF p.n.s st.L 0 with
      | some j => exact ⟨j, rfl⟩
      | none => exact absurd ⟨h0, by rw [hp]; rfl⟩ h
    · left
      omega
theorem note_done (t : TreeT) (p : Pl) (st st' : NSt) (hn : namedB p.n = true) (h : NLe (noteS t p st) st') : knownB t st'.L p.fn p.n.s ∧ (((p.n.k : Int) == 4) = false → refS t st'.L p.fn p.n.s ∈ st'.arr) := by
  have hk := known_note t p st
  have hL : (noteS t p st).L = (knownS t p st).L := by
    unfold noteS
    dsimp only
    rw [if_pos hn]
    split
    · exact array_L _ _
    · split
      · exact array_L _ _
      · split <;> rfl
  obtain ⟨⟨m, h1⟩, h2⟩ := h
  rw [hL] at h1
  have hr := ref_app t _ m p.fn p.n.s hk
  rw [← h1] at hr
  refine ⟨hr.2, fun h4 => ?_⟩
  rw [hr.1]
  refine h2 _ ?_
  unfold noteS
  dsimp only
  rw [if_pos hn, if_pos (by rw [h4]; rfl)]
  exact array_mem _ _
theorem noted_all (t : TreeT) : ∀ (l : List Pl) (st st' : NSt), NLe (l.foldl (fun st p => noteS t p st) st) st' → ∀ p ∈ l, namedB p.n = true → knownB t st'.L p.fn p.n.s ∧ (((p.n.k : Int) == 4) = false → refS t st'.L p.fn p.n.s ∈ st'.arr)
  | [], _, _, _, p, hp, _ => by cases hp
  | q :: l, st, st', h, p, hp, hn => by
    rcases List.mem_cons.1 hp with rfl | hp
    · exact note_done t p st st' hn ((notes_le t l _).trans h)
    · exact noted_all t l _ st' h p hp hn
theorem flag_fst (arr : List Rf) (fn : Int) : ∀ (l : List (List Nat)) (i : Nat), (flagL arr fn l i).map (·.1) = l
  | [], _ => rfl
  | s :: l, i => by rw [flagL, List.map_cons, flag_fst arr fn l (i + 1)]
theorem flag_get (arr : List Rf) (fn : Int) : ∀ (l : List (List Nat)) (i j : Nat), j < l.length → ((flagL arr fn l i)[j]?).map (·.2) = some (decide ((⟨fn, i + j⟩ : Rf) ∈ arr))
  | [], i, j, h => by simp at h
  | s :: l, i, 0, h => by rw [flagL]; rfl
  | s :: l, i, j + 1, h => by
    rw [flagL, List.getElem?_cons_succ, flag_get arr fn l (i + 1) j (by simpa using h)]
    rw [show i + 1 + j = i + (j + 1) by omega]
theorem locals_get (arr : List Rf) : ∀ (l : List FuncT) (i j : Nat), (localsL arr l i)[j]? = (l[j]?).map fun f => flagL arr ((i + j : Nat) : Int) f.params 0
  | [], i, j => by simp [localsL]
  | f :: l, i, 0 => by rw [localsL]; simp
  | f :: l, i, j + 1 => by
    rw [localsL, List.getElem?_cons_succ, List.getElem?_cons_succ, locals_get arr l (i + 1) j]
    rw [show i + 1 + j = i + (j + 1) by omega]
theorem locals_len (arr : List Rf) : ∀ (l : List FuncT) (i : Nat), (localsL arr l i).length = l.length
  | [], _ => rfl
  | f :: l, i => by rw [localsL, List.length_cons, locals_len arr l (i + 1), List.length_cons]
def localB (t : TreeT) (fn : Int) (s : List Nat) : Bool := decide (0 ≤ fn) && (posF s (parsOf t fn.toNat) 0).isSome
def rowOf (t : TreeT) (nm : NamesT) (fn : Int) (s : List Nat) : List (List Nat × Bool) := if localB t fn s then (nm.locals[fn.toNat]?).getD [] else nm.globals
def useB (t : TreeT) (nm : NamesT) (n : NodeT) (fn : Int) (split called : Bool) : Bool :=
  if namedB n then
    match posF n.s ((rowOf t nm fn n.s).map (·.1)) 0 with
    | none => false
    | some k =>
      if !((n.k : Int) == 4) && !(((rowOf t nm fn n.s)[k]?).map (·.2)).getD false then false
      else if ((n.k : Int) == 4) && (!split && (!called && (((rowOf t nm fn n.s)[k]?).map (·.2)).getD false)) then false
      else true
  else true
theorem row_flag (t : TreeT) (st : NSt) (fn : Int) (s : List Nat) (h : knownB t st.L fn s) : ∃ k, posF s ((rowOf t (namesS t st) fn s).map (·.1)) 0 = some k ∧ (((rowOf t (namesS t st) fn s)[k]?).map (·.2)) = some (decide (refS t st.L fn s ∈ st.arr)) := by
  unfold rowOf
  cases hl : localB t fn s with
  | true =>
    unfold localB at hl
    rw [Bool.and_eq_true, decide_eq_true_eq] at hl
    obtain ⟨h0, h1⟩ := hl
    obtain ⟨k, hk⟩ := Option.isSome_iff_exists.1 h1
    have hr : refS t st.L fn s = ⟨fn, k⟩ := by unfold refS; rw [if_pos h0, hk]
    have hrow : ((namesS t st).locals[fn.toNat]?).getD [] = flagL st.arr fn (parsOf t fn.toNat) 0 := by
      show ((localsL st.arr t.funcs 0)[fn.toNat]?).getD [] = _
      rw [locals_get]
      unfold parsOf at hk ⊢
      cases hf : t.funcs[fn.toNat]? with
      | none => rw [hf] at hk; cases hk
      | some f =>
        dsimp only [Option.map_some, Option.getD_some]
        rw [show ((0 + fn.toNat : Nat) : Int) = fn by omega]
    have hlt := posF_lt _ _ _ _ hk
    rw [if_pos rfl, hrow, hr]
    refine ⟨k, by rw [flag_fst]; exact hk, ?_⟩
    rw [flag_get _ _ _ _ _ (by omega), Nat.zero_add]
  | false =>
    have hr : refS t st.L fn s = ⟨-1, (posF s st.L 0).getD 0⟩ := by
      unfold localB at hl
      unfold refS
      split
      · rename_i h0
        rw [decide_eq_true h0, Bool.true_and] at hl
        cases hp : posF s (parsOf t fn.toNat) 0 with
        | none => rfl
        | some j => rw [hp] at hl; cases hl
      · rfl
    rcases h with h | ⟨j, h⟩
    · rw [hr] at h; exact absurd h (show ¬ (0 : Int) ≤ -1 by decide)
    · have hlt := posF_lt _ _ _ _ h
      rw [if_neg (by decide)]
      show ∃ k, posF s ((flagL st.arr (-1) st.L 0).map (·.1)) 0 = some k ∧ _
      rw [hr, h]
      refine ⟨j, by rw [flag_fst]; exact h, ?_⟩
      show ((flagL st.arr (-1) st.L 0)[j]?).map (·.2) = _
      rw [flag_get _ _ _ _ _ (by omega), Nat.zero_add]
      rfl
theorem check_none (wrong : Pl → Bool) : ∀ l : List Pl, checkS wrong l = none → ∀ p ∈ l, wrong p = false
  | [], _, p, hp => by cases hp
  | q :: l, h, p, hp => by
    unfold checkS at h
    split at h
    · cases h
    · rename_i hq
      rcases List.mem_cons.1 hp with rfl | hp
      · simpa using hq
      · exact check_none wrong l h p hp
theorem resolve_ok {t : TreeT} {nm : NamesT} (h : resolveS t = .ok nm) : nm = namesS t (spreadS t) ∧ ∀ p ∈ places t, misusedB t (spreadS t) p = false := by
  unfold resolveS at h
  repeat' split at h
  all_goals first
    | (cases h; done)
    | skip
  rename_i hm _ _ _
  cases h
  exact ⟨rfl, check_none _ _ hm⟩
theorem uses_ok {t : TreeT} {nm : NamesT} (h : resolveS t = .ok nm) : nm.locals.length = t.funcs.length ∧ ∀ s ∈ spots t, useB t nm s.n s.fn s.split s.called = true := by
  obtain ⟨rfl, hm⟩ := resolve_ok h
  refine ⟨locals_len _ _ _, fun s hs => ?_⟩
  have h1 : tellS s ∈ (places t).map tellP := by rw [← tell_all]; exact List.mem_map_of_mem hs
  obtain ⟨p, hp, e⟩ := List.mem_map.1 h1
  have e1 : p.n = s.n := congrArg (·.1) e
  have e2 : p.fn = s.fn := congrArg (·.2.1) e
  have e3 : isSplit p = s.split := congrArg (·.2.2.1) e
  have e4 : isHanded p = s.called := congrArg (·.2.2.2) e
  rw [← e1, ← e2, ← e3, ← e4]
  unfold useB
  split
  · rename_i hn
    have hd := noted_all t (places t) ⟨[], [], [], []⟩ (spreadS t) (spread_le _ _) p hp hn
    obtain ⟨k, hk1, hk2⟩ := row_flag t (spreadS t) p.fn p.n.s hd.1
    rw [hk1]
    dsimp only
    rw [hk2, Option.getD_some]
    cases h4 : ((p.n.k : Int) == 4) with
    | false =>
      have := hd.2 h4
      rw [decide_eq_true this]
      rfl
    | true =>
      have := hm p hp
      unfold misusedB at this
      rw [h4] at this
      cases hh : isHanded p <;> cases hsp : isSplit p <;> cases ha : decide (refS t (spreadS t).L p.fn p.n.s ∈ (spreadS t).arr) <;> rw [hh] at this <;> simp_all
  · rfl
end Go.Proofs.Ythipoccbeloceaa
