/- WHAT THE FUNCTIONS THAT ARE NOT PRINTED ANSWER: the library's, and those with closures. Definitions alone. -/
import Derived.Test.YtmgbfgloegcloaaPs0
import Derived.Lib.SlicesCompact
import Derived.Lib.SlicesS
namespace Go.Proofs.Ytmgbfgloegcloaa.Ps
open Go.RowKit Go.Proofs.YtmgbfgloegcloaaW.PrintWords
set_option linter.unusedVariables false
def bytesUp (l : List UInt8) : ByteArray := ⟨l.toArray⟩
def yo.f (l0 : List ByteArray) : Option (List ByteArray) := if l0.length < 8796093022208 then some l0 else none
def sortStr (l : List ByteArray) : List ByteArray := (((l.map (·.data.toList)).mergeSort fun x y => decide (x ≤ y)).map bytesUp)
def yE.f (l0 : List ByteArray) : Option (List ByteArray) := if l0.length < 8796093022208 then some (sortStr l0) else none
def compStr (l : List ByteArray) : List ByteArray := (Lib.compact (l.map (·.data.toList))).map bytesUp
def yi.f (l0 : List ByteArray) : Option (List ByteArray) := if l0.length < 8796093022208 then some (compStr l0) else none
def yz.f (l0 : List ByteArray) (a1 : ByteArray) : Option Bool := some (Lib.containsS l0 a1)
def isB (v : ByteArray) (l : List ByteArray) : Bool := v.toList == ([] : List UInt8) || Lib.containsS l v
def readyB (k : Int) (op a b c : ByteArray) (args : List S40) (l : List ByteArray) : Bool :=
  if k = 2 then !(args.any fun t => !isB t.f0 l) && isB a l && isB b l && isB c l
  else if k = 3 then (isB a l && isB b l) || (op.toList == ([61] : List UInt8)) && (isB a l || isB b l)
  else if k = 4 then isB b l && isB c l else true
def qu.f (a0_0 : Int) (a0_1 : ByteArray) (l0_2 : List (S40)) (a0_3 : ByteArray) (a0_4 : ByteArray) (a0_5 : Int) (a0_6 : Int) (a0_7 : ByteArray) (a0_8 : ByteArray) (a0_9 : Int) (a0_10 : Int) (a0_11 : ByteArray) (a0_12 : ByteArray) (a0_13 : Int) (a0_14 : Int) (a0_15 : ByteArray) (l0_16 : List (S82)) (l1 : List ByteArray) : Option (Bool) := some (readyB a0_0 a0_3 a0_4 a0_8 a0_12 l0_2 l1)
def qj.f (l0 : List S40) (l1 : List ByteArray) : Option Bool := some (l0.any fun t => !isB t.f0 l1)
def api_Term_49.f (l0 : List S40) (a1 : Int) : Option (List S40) := if l0 = [] ∧ 0 ≤ a1 ∧ a1 < 2932031007402 then some [] else none
def eqT (a b : S40) : Bool := (a.f0.toList == b.f0.toList) && ((a.f1.f0 == b.f1.f0) && ((a.f1.f1 == b.f1.f1) && (a.f1.f2.toList == b.f1.f2.toList)))
def eqRow {α : Type} (eq : α → α → Bool) : List α → List α → Bool
  | [], [] => true
  | a :: l, b :: m => eq a b && eqRow eq l m
  | _, _ => false
def eqAtom (p : ByteArray) (l : List S40) (q : ByteArray) (m : List S40) : Bool := (p.toList == q.toList) && eqRow eqT l m
def eqStep (a b : S82) : Bool := (a.f0 == b.f0) && (a.f1.toList == b.f1.toList)
def eqLit (a b : S43) : Bool := (a.f0 == b.f0) && ((a.f2.toList == b.f2.toList) && (eqT a.f3 b.f3 && (eqT a.f4 b.f4 && (eqT a.f5 b.f5 && (eqAtom a.f1.f0 a.f1.f1 b.f1.f0 b.f1.f1 && eqRow eqStep a.f6 b.f6)))))
def antecedentref09_SameRule.f (a0_0 : ByteArray) (l0_1 : List S40) (a0_2 : Int) (l0_3 : List S43) (a1_0 : ByteArray) (l1_1 : List S40) (a1_2 : Int) (l1_3 : List S43) : Option Bool := some ((a0_2 == a1_2) && (eqAtom a0_0 l0_1 a1_0 l1_1 && eqRow eqLit l0_3 l1_3))
end Go.Proofs.Ytmgbfgloegcloaa.Ps
