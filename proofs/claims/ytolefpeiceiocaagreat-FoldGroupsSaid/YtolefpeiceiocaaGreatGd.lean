/- WHAT THE FUNCTIONS THAT ARE TOLD BY HAND ANSWER. Definitions alone. -/
import Derived.Test.YtolefpeiceiocaaGreatPs0
import Derived.Test.YtolefpeiceiocaaGreatFop
import Derived.Test.YtolefpeiceiocaaGreatV1
namespace Go.Proofs.YtolefpeiceiocaaGreat.Ps
open Go.RowKit Go.Proofs.YtolefpeiceiocaaGreatW.PrintWords
set_option linter.unusedVariables false

/-- A value of the program's. -/
abbrev Sv := S25
def emp : ByteArray := (⟨#[]⟩ : ByteArray)
def toV (x : Sv) : AnteVal.V := ⟨x.f0, x.f1, x.f2⟩
/-- How two values lie to each other. -/
def cmpS (x y : Sv) : Int := AnteVal.vcmp (toV x) (toV y)
/-- An int64. -/
def inI (n : Int) : Prop := -9223372036854775808 ≤ n ∧ n ≤ 9223372036854775807
instance (n : Int) : Decidable (inI n) := by unfold inI; exact inferInstance
def okS (x : Sv) : Prop := inI x.f0 ∧ inI x.f1 ∧ x.f2.size ≤ maxLen
instance (x : Sv) : Decidable (okS x) := by unfold okS; exact inferInstance
/-- Values as Go may have them, not too many. -/
def okL (l : List Sv) : Prop := l.length < 1000000 ∧ ∀ x ∈ l, okS x
instance (l : List Sv) : Decidable (okL l) := by unfold okL; exact inferInstance
def okLL (l : List (List Sv)) : Prop := l.length < 1000000 ∧ ∀ x ∈ l, okL x
instance (l : List (List Sv)) : Decidable (okLL l) := by unfold okLL; exact inferInstance
/-- Something put into a list in order, unless it is there. -/
def insC {α : Type} (c : α → α → Int) (x : α) : List α → List α
  | [] => [x]
  | y :: l => if c x y < 0 then x :: y :: l else if c x y = 0 then y :: l else y :: insC c x l
/-- A list in order, each once. -/
def setC {α : Type} (c : α → α → Int) (l : List α) : List α := l.foldr (insC c) []
def setL (l : List Sv) : List Sv := setC cmpS l
def flo_Add.f (a b : Int) : Option Int := if inI a ∧ inI b then some (AnteFlo.gAdd a b) else none
def flo_Div.f (a b : Int) : Option Int := if inI a ∧ inI b then some (AnteFlo.gDiv a b) else none
def flo_Of.f (a : Int) : Option Int := if inI a then some (AnteFlo.gOf a) else none
def bits_Add64.f (a b c : Int) : Option (Int × Int) := if 0 ≤ a ∧ 0 ≤ b ∧ 0 ≤ c ∧ c ≤ 1 then some ((a + b + c) % 18446744073709551616, (a + b + c) / 18446744073709551616) else none
def fold_Set.f (l : List Sv) : Option (List Sv) := if okL l then some (setL l) else none
def rightS (x : Sv) : Bool := vright (toV x)
def oddS (kind : Int) (l : List Sv) (x : Sv) : Bool := decide (x.f0 ≠ (l.headD z25).f0 ∨ (x.f0 = 3 ∧ (kind = 2 ∨ kind = 5)))
/-- What is wrong with a set of values. -/
def wrongP (kind : Int) (l : List Sv) : Int := if kind < 1 ∨ 5 < kind ∨ (l.any fun x => !rightS x) = true then 1 else if l = [] then 12 else if l.any (oddS kind l) = true then 6 else 0
def fold_wrong.f (kind : Int) (l : List Sv) : Option Int := if okL l ∧ inI kind then some (wrongP kind l) else none
def numS (x : Sv) : Int := if x.f0 = 1 then AnteFlo.gOf x.f1 else x.f1
/-- The sum of numbers, as numbers with a point. -/
def pointsP : List Sv → Int
  | [] => 0
  | x :: l => l.foldl (fun s y => AnteFlo.gAdd s (numS y)) (numS x)
def sumP (l : List Sv) : Int := (l.map fun x => x.f1).sum
/-- What a set of values is folded to, and the error's number. -/
def setP (kind : Int) (l : List Sv) : Sv × Int :=
  if wrongP kind l ≠ 0 then (z25, wrongP kind l)
  else if kind = 1 then (⟨1, l.length, emp⟩, 0)
  else if kind = 3 then (l.headD z25, 0)
  else if kind = 4 then (l.getLastD z25, 0)
  else if kind = 5 then (⟨2, AnteFlo.gDiv (pointsP l) (AnteFlo.gOf l.length), emp⟩, 0)
  else if (l.headD z25).f0 = 1 then (if inI (sumP l) then (⟨1, sumP l, emp⟩, 0) else (z25, 10))
  else (⟨2, pointsP l, emp⟩, 0)
def ofP (kind : Int) (l : List Sv) : Sv × Int := setP kind (setL l)
/-- How two lists lie to each other, column by column. -/
def lexS : List Sv → List Sv → Int
  | [], [] => 0
  | [], _ :: _ => -1
  | _ :: _, [] => 1
  | x :: l, y :: m => if cmpS x y = 0 then lexS l m else cmpS x y
def setT (l : List (List Sv)) : List (List Sv) := setC lexS l
/-- The last values of the tuples that begin so. -/
def valsT (h : List Sv) (l : List (List Sv)) : List Sv := (l.filter fun t => decide (lexS t.dropLast h = 0)).map fun t => t.getLastD z25
/-- Group by group: what each is folded to, or the first error. -/
def goP (kind : Int) (l : List (List Sv)) : List (List Sv) → List (List Sv) → List (List Sv) × Int
  | [], out => (out, 0)
  | h :: hs, out => if (ofP kind (valsT h l)).2 ≠ 0 then ([], (ofP kind (valsT h l)).2) else goP kind l hs (out ++ [h ++ [(ofP kind (valsT h l)).1]])
def unevenP (l : List (List Sv)) : Bool := l.any fun t => decide (t.length = 0 ∨ t.length ≠ (l.headD []).length)
def groupsP (kind : Int) (l : List (List Sv)) : List (List Sv) × Int := if unevenP l = true then ([], 1) else goP kind l (setT (l.map List.dropLast)) []
def fold_Groups.f (kind : Int) (l : List (List Sv)) : Option (List (List Sv) × Int) := if okLL l ∧ inI kind then some (groupsP kind l) else none
end Go.Proofs.YtolefpeiceiocaaGreat.Ps
