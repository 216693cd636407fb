/- What print says: the plain words (binds, brackets, which trees are right, their texts, which are the same). Plain definitions and facts. -/
import Derived.Test.YtlnhhffhmeekoaaGreatDoorNode
import Derived.Test.YtlnhhffhmeekoaaGreatDoorLexSpec
set_option linter.unusedVariables false
set_option linter.unusedSimpArgs false
namespace Go.Proofs.YtlnhhffhmeekoaaGreatDoor

/-- how much a sign binds -/
def bindS (s : List UInt8) : Int :=
  if s = [124, 124] then 1 else if s = [38, 38] then 2
  else if s = [61, 61] ∨ s = [33, 61] ∨ s = [60] ∨ s = [60, 61] ∨ s = [62] ∨ s = [62, 61] then 3
  else if s = [43] ∨ s = [45] then 4 else if s = [42] ∨ s = [47] ∨ s = [37] then 5 else 0
def bindingS (n : N) : Int := if n.kind = 17 then bindS n.text else if n.kind = 16 then 6 else 7
/-- does the i-th kid, that binds so much, stand in brackets? -/
def wrapK (kind : Int) (text : List UInt8) (b : Int) (i : Nat) : Bool :=
  if kind = 16 then decide (b < 6)
  else if kind = 21 ∨ kind = 22 then decide (i = 0) && decide (b < 7)
  else if kind = 17 then decide (b < bindS text) || (decide (b = bindS text) && (decide (i = 1) || decide (bindS text = 3)))
  else false
def wrapS (n : N) (i : Nat) (kid : N) : Bool := wrapK n.kind n.text (bindingS kid) i
def exprK (k : Int) : Bool := decide (13 ≤ k) && (decide (k ≤ 22) && decide (k ≠ 20))
def stmtK (k : Int) : Bool := decide (5 ≤ k) && decide (k ≤ 12)
def kidsK (n : N) : List Int := n.kids.map N.kind
/-- are the kids such as the row says? (by their kinds) -/
def shapeK (kind : Int) (l : List Int) : Bool :=
  if kind = 1 then l.all (· == 2)
  else if kind = 2 then decide (l ≠ []) && (l.getLastD 0 == 4 && l.dropLast.all (· == 3))
  else if kind = 4 then l.all stmtK
  else if kind = 5 ∨ kind = 9 then decide (l.length ≤ 1) && l.all exprK
  else if kind = 6 ∨ kind = 12 ∨ kind = 16 ∨ kind = 22 ∨ kind = 20 then decide (l.length = 1) && l.all exprK
  else if kind = 17 ∨ kind = 21 then decide (l.length = 2) && l.all exprK
  else if kind = 15 ∨ kind = 18 then l.all exprK
  else if kind = 19 then l.all (· == 20)
  else if kind = 8 then decide (l.length = 2) && (exprK (l.getD 0 0) && l.getD 1 0 == 4)
  else if kind = 7 then (decide (l.length = 2) || decide (l.length = 3)) && (exprK (l.getD 0 0) && (l.getD 1 0 == 4 && (l.getLastD 0 == 4 || l.getLastD 0 == 7)))
  else decide (l = [])
def unitV (v : V) : Bool := decide (v.kind = 0) && (decide (v.num = 0) && (decide (v.str = []) && (decide (v.parts.length = 0) && decide (v.keys.length = 0))))
def saidText (kind : Int) (t : List UInt8) : Bool :=
  if kind = 2 ∨ kind = 3 ∨ kind = 5 ∨ kind = 6 ∨ kind = 14 ∨ kind = 15 ∨ kind = 22 then isNameB t
  else if kind = 16 then decide (t = [45]) || decide (t = [33])
  else if kind = 17 then decide (0 < bindS t)
  else if kind = 20 then decide (t.length ≤ 32)
  else decide (t = [])
def saidVal (kind : Int) (v : V) : Bool :=
  if kind = 13 then decide (v.kind ≤ 3) && ((decide (v.kind ≠ 2) || decide (0 ≤ v.num)) && rightB v) else decide (v.kind = 0) && rightB v
def saidS (n : N) : Bool := saidText n.kind n.text && (saidVal n.kind n.val && (!n.flag || decide (n.kind = 2)))
/-- how many more are open within a node, ahead of its kids -/
def openK (kind : Int) : Nat := if kind = 4 ∨ kind = 16 ∨ kind = 15 ∨ kind = 18 ∨ kind = 19 then 1 else 0
def innerK (kind : Int) (text : List UInt8) (b : Int) (i : Nat) : Nat := if (kind = 21 ∧ i = 1) ∨ (exprK kind = true ∧ kind ≠ 19 ∧ wrapK kind text b i = true) then 1 else 0
mutual
/-- is a node right, within so many that are open? -/
def rightN (openN : Nat) : N → Bool
  | .mk k t x f l a => decide (1 ≤ k) && (decide (k ≤ 22) && (saidS (.mk k t x f l a) && (shapeK k (l.map N.kind) && (decide (openN + openK k ≤ 24) && rightNs k t (openN + openK k) 0 l))))
def rightNs (k : Int) (t : List UInt8) (openN i : Nat) : List N → Bool
  | [] => true
  | x :: l => decide (openN + innerK k t (bindingS x) i ≤ 24) && (rightN (openN + innerK k t (bindingS x) i) x && rightNs k t openN (i + 1) l)
end
mutual
def vsize : V → Nat
  | .mk _ _ _ l _ => 1 + vsizes l
def vsizes : List V → Nat
  | [] => 0
  | x :: l => vsize x + vsizes l
end
mutual
def nsize : N → Nat
  | .mk _ _ x _ l _ => vsize x + nsizes l
def nsizes : List N → Nat
  | [] => 0
  | x :: l => nsize x + nsizes l
end
def fitsN (n : N) : Bool := decide (nsize n ≤ 20000)
/-- a number in decimals -/
def decS (n : Nat) : List UInt8 := (Nat.toDigits 10 n).map fun c => UInt8.ofNat c.toNat
/-- what value.Print writes of unit, a Bool, a number not below 0, bytes -/
def litS (v : V) : List UInt8 :=
  if v.kind = 0 then [117, 110, 105, 116] else if v.kind = 1 then (if v.num = 1 then [116, 114, 117, 101] else [102, 97, 108, 115, 101])
  else if v.kind = 2 then decS v.num.toNat else quoteS v.str
def keyT (t : List UInt8) : List UInt8 := if isNameB t = true then t else quoteS t
def inBr (b : Bool) (s : List UInt8) : List UInt8 := if b = true then 40 :: (s ++ [41]) else s
mutual
/-- an expression's one form -/
def exprT : N → List UInt8
  | .mk k t x f l a =>
    if k = 13 then litS x
    else if k = 14 then t
    else if k = 15 then t ++ 40 :: (rowT 0 l ++ [41])
    else if k = 18 then 91 :: (rowT 0 l ++ [93])
    else if k = 19 then 123 :: (rowT 0 l ++ [125])
    else if k = 20 then keyT t ++ [58, 32] ++ rowT 0 l
    else if k = 16 then t ++ partT k t 0 0 l
    else if k = 17 then partT k t 0 0 l ++ 32 :: (t ++ 32 :: partT k t 1 1 l)
    else if k = 21 then partT k t 0 0 l ++ 91 :: (kidT 1 l ++ [93])
    else if k = 22 then partT k t 0 0 l ++ 46 :: t
    else []
/-- several with a comma between -/
def rowT (i : Nat) : List N → List UInt8
  | [] => []
  | x :: l => (if i = 0 then [] else [44, 32]) ++ exprT x ++ rowT (i + 1) l
/-- kid i of an expression, in brackets where it must (j: how many are still ahead of it) -/
def partT (k : Int) (t : List UInt8) (i j : Nat) : List N → List UInt8
  | [] => []
  | x :: l => match j with
    | 0 => inBr (wrapK k t (bindingS x) i) (exprT x)
    | j + 1 => partT k t i j l
def kidT (j : Nat) : List N → List UInt8
  | [] => []
  | x :: l => match j with
    | 0 => exprT x
    | j + 1 => kidT j l
end
/-- so many tabs -/
def tabsT (n : Nat) : List UInt8 := List.replicate n 9
/-- a text and the first kid, if there is one -/
def behT (s : List UInt8) : List N → List UInt8
  | [] => []
  | x :: _ => s ++ exprT x
mutual
/-- a statement's one form, within so many Blocks -/
def stmtT (w : Nat) : N → List UInt8
  | .mk k t x f l a =>
    if k = 5 then [108, 101, 116, 32] ++ t ++ behT [32, 61, 32] l ++ [59]
    else if k = 6 then t ++ behT [32, 61, 32] l ++ [59]
    else if k = 9 then [114, 101, 116, 117, 114, 110] ++ behT [32] l ++ [59]
    else if k = 10 then [98, 114, 101, 97, 107] ++ behT [] l ++ [59]
    else if k = 11 then [99, 111, 110, 116, 105, 110, 117, 101] ++ behT [] l ++ [59]
    else if k = 12 then behT [] l ++ [59]
    else if k = 8 then [119, 104, 105, 108, 101] ++ [32, 40] ++ kidT 0 l ++ [41, 32] ++ blkT w 1 l
    else if k = 7 then [105, 102] ++ [32, 40] ++ kidT 0 l ++ [41, 32] ++ blkT w 1 l ++ elseT w 2 l
    else []
/-- a Block's -/
def blockT (w : Nat) : N → List UInt8
  | .mk _ _ _ _ l _ => [123, 10] ++ stmtsT (w + 1) l ++ tabsT w ++ [125]
def stmtsT (w : Nat) : List N → List UInt8
  | [] => []
  | x :: l => tabsT w ++ stmtT w x ++ [10] ++ stmtsT w l
def blkT (w j : Nat) : List N → List UInt8
  | [] => []
  | x :: l => match j with
    | 0 => blockT w x
    | j + 1 => blkT w j l
def elseT (w j : Nat) : List N → List UInt8
  | [] => []
  | x :: l => match j with
    | 0 => [32, 101, 108, 115, 101, 32] ++ (if x.kind = 7 then stmtT w x else blockT w x)
    | j + 1 => elseT w j l
end
/-- parameters -/
def parsT (i : Nat) : List N → List UInt8
  | [] => []
  | x :: l => (if i = 0 then [] else [44, 32]) ++ x.text ++ parsT (i + 1) l
def fnT : N → List UInt8
  | .mk k t x f l a => (if f = true then [101, 120, 112, 111, 114, 116, 32] else []) ++ ([102, 110, 32] ++ t ++ [40]) ++ parsT 0 l.dropLast ++ [41, 32] ++ blkT 0 (l.length - 1) l ++ [10]
def fnsT (i : Nat) : List N → List UInt8
  | [] => []
  | x :: l => (if i = 0 then [] else [10]) ++ fnT x ++ fnsT (i + 1) l
/-- Right, Program and Expr -/
def rightP (n : N) : Bool := decide (n.kind = 1) && (fitsN n && rightN 0 n)
def rightE (n : N) : Bool := exprK n.kind && (fitsN n && rightN 0 n)
def progS (n : N) : List UInt8 × Int := if rightP n = true then (fnsT 0 n.kids, 0) else ([], 180)
def exprS (n : N) : List UInt8 × Int := if rightE n = true then (exprT n, 0) else ([], 180)
mutual
def eqV : V → V → Bool
  | .mk k n s l ks, .mk k' n' s' l' ks' => decide (k = k') && (decide (n = n') && (decide (s = s') && (decide (ks = ks') && eqVs l l')))
def eqVs : List V → List V → Bool
  | [], [] => true
  | x :: l, y :: l' => eqV x y && eqVs l l'
  | [], _ :: _ => false
  | _ :: _, [] => false
end
mutual
/-- the same, but for places -/
def eqN : N → N → Bool
  | .mk k t x f l a, .mk k' t' x' f' l' a' => decide (k = k') && (decide (t = t') && (decide (f = f') && (eqV x x' && eqNs l l')))
def eqNs : List N → List N → Bool
  | [], [] => true
  | x :: l, y :: l' => eqN x y && eqNs l l'
  | [], _ :: _ => false
  | _ :: _, [] => false
end
def sameN (a b : N) : Bool := fitsN a && (fitsN b && eqN a b)
end Go.Proofs.YtlnhhffhmeekoaaGreatDoor
