/- Plain functions: what the package gr does, over lists of bytes and of arcs. No program in sight. -/
import Init
namespace Go.Proofs.YtegikndkokemjaaDoor.GrFn

structure Arc where
  src : Int
  dst : Int
  w : Int
deriving DecidableEq

structure M where
  n : Int
  arcs : List Arc

/-- cut at a byte; never empty -/
def cutAt (b : UInt8) : List UInt8 → List (List UInt8)
  | [] => [[]]
  | c :: l => if c = b then [] :: cutAt b l else
      match cutAt b l with
      | [] => [[c]]
      | h :: t => (c :: h) :: t

def words (s : List UInt8) : List (List UInt8) := (cutAt 32 s).filter (fun w => !w.isEmpty)

def isDigit (c : UInt8) : Bool := 48 ≤ c && c ≤ 57
def num (l : List UInt8) : Nat := l.foldl (fun n c => 10 * n + (c.toNat - 48)) 0

def number (s : List UInt8) (most : Int) : Option Int :=
  if s.length < 1 ∨ 10 < s.length then none
  else if s.head? = some 48 ∧ 1 < s.length then none
  else if s.all isDigit then (if most < (num s : Int) then none else some (num s : Int))
  else none

def numbers : List (List UInt8) → List Int → Option (List Int)
  | [], [] => some []
  | w :: ws, m :: ms => match number w m with
    | none => none
    | some n => match numbers ws ms with
      | none => none
      | some l => some (n :: l)
  | _, _ => none

structure St where
  n : Int
  arcs : List Arc
  many : Int

def size (t : St) : List (List UInt8) → Option St
  | [] => none
  | x :: ys => if t.many ≥ 0 then none else if x = [115, 112] then
      match numbers ys [16777216, 67108864] with
      | some [a, b] => some { t with n := a, many := b }
      | _ => none
    else none

def arc (t : St) (ws : List (List UInt8)) : Option St :=
  match numbers ws [t.n, t.n, 2147483648] with
  | some [u, v, k] => if u = 0 ∨ v = 0 ∨ (t.arcs.length : Int) ≥ t.many then none else some { t with arcs := t.arcs ++ [⟨u - 1, v - 1, k⟩] }
  | _ => none

def line (t : St) (s : List UInt8) : Option St :=
  match words s with
  | [] => some t
  | w :: ws => if w = [99] then some t else if w = [112] then size t ws else if w = [97] then arc t ws else none

def lines (t : St) : List (List UInt8) → Int → St ⊕ Int
  | [], _ => .inl t
  | l :: ls, i => match line t l with
    | none => .inr (i + 1)
    | some u => lines u ls (i + 1)

/-- without the last byte, if that is a line's end; was it? -/
def strip (s : List UInt8) : List UInt8 × Bool := if s.getLast? = some 10 then (s.dropLast, true) else (s, false)

/-- a map, or the line at which it is none -/
def parse (s : List UInt8) : M ⊕ Int :=
  if (strip s).1 = [] ∧ (strip s).2 = false then .inr 1
  else match lines ⟨0, [], -1⟩ (cutAt 10 (strip s).1) 0 with
    | .inr i => .inr i
    | .inl t => if t.many = t.arcs.length then .inl ⟨t.n, t.arcs⟩ else .inr ((cutAt 10 (strip s).1).length + 1)

def badArc (n : Int) (a : Arc) : Bool := a.src < 0 || n ≤ a.src || a.dst < 0 || n ≤ a.dst || a.w < 0 || 2147483648 < a.w
def check (m : M) : Int :=
  if 16777216 < m.n ∨ 67108864 < m.arcs.length then 3
  else if m.n < 0 then 2
  else if m.arcs.any (badArc m.n) then 2 else 0

def digits (n : Nat) : List UInt8 := if n < 10 then [UInt8.ofNat (48 + n)] else digits (n / 10) ++ [UInt8.ofNat (48 + n % 10)]
decreasing_by omega
def arcLine (a : Arc) : List UInt8 := [97, 32] ++ digits (a.src + 1).toNat ++ [32] ++ digits (a.dst + 1).toNat ++ [32] ++ digits a.w.toNat ++ [10]
def headLine (m : M) : List UInt8 := [112, 32, 115, 112, 32] ++ digits m.n.toNat ++ [32] ++ digits m.arcs.length ++ [10]
def text (m : M) : List UInt8 := headLine m ++ m.arcs.flatMap arcLine
def print (m : M) : List UInt8 ⊕ Int := if check m = 0 then .inl (text m) else .inr (check m)

end Go.Proofs.YtegikndkokemjaaDoor.GrFn
