/-
  No cell of these rows narrows 'for every input' (looked for: loops, veiled, ifaces, maps, wideKeys, modest, calm, conditions, laid).
  DERIVED. THE GIVEN ROWS OF THIS SEAT. 7 by the template 'for every input the law returns true; each argument reads behind the call as it read before'; 0 by the template 'total and deterministic' (their statements: YtlcdkeajbboeiaaTotals.lean).
  GIVEN WITH THE SEED: the statements are not yours to turn. If you find one false, say at which input.
  Laid BY PROGRAM, IN A SANDBOX (cutbox-rows.mjs): the forced cells as the released guide's own fill.sh prints them over the translation 63b2b4120b2d0f94… (all of the seat's roots in one cut). By AI agents, Wed Nov 11 2026. No macro, syntax, notation, axiom, sorry.
-/
import Derived.Test.YtlcdkeajbboeiaaChecked
import GoSem.Claim
import GoSem.ClaimJoined
import GoSem.ClaimMapViews
import Derived.JoinedTies
import Derived.KernelRfl
namespace Go.Proofs.Ytlcdkeajbboeiaa
/- THE CELL 'sum', in the pinned program and in every row, IS THE sha256 OF THE DUMP (.gsa) THAT YtlcdkeajbboeiaaProg.lean LOADS. Nothing in Lean hashes anything: it is a label: what it is worth is what the hold of that sum in a sandbox is worth. -/
noncomputable def Try.pinned : Pinned := { name := "ytlcdkeajbboeiaa", sum := "63b2b4120b2d0f9493d82d45ffb8354bcf635a2c9a2ee04e6b8da5de0651ddae", checked := Try.checked }
namespace Rows
def none {H : Type} : Left H := { results := [], args := [] }

/-- 'antecedentlaw01.FloCodes': WHATEVER THE INPUT: true; the input reads as it did. -/
def floCodesSpec : ChangeSpec := { name := "floCodes", fn := fun _ => fun
  | [d1, d2] => { results := [.lit (.bool true)], args := [d1, d2] }
  | _ => none }
def floCodesRow : OpenClaim := { program := "ytlcdkeajbboeiaa", sum := "63b2b4120b2d0f9493d82d45ffb8354bcf635a2c9a2ee04e6b8da5de0651ddae", func := "antecedent/antecedentlaw01.FloCodes", spec := "floCodes", inPlace := ["math.Float64bits", "math.Float64frombits"], recurses := true, apart := false }
def FloCodesSaid : Prop := floCodesRow.holds Try.pinned (OpenSpec.ofChange floCodesSpec)

/-- ITS FALSE NEIGHBOUR: 'it returns false'. Refute it at one input. -/
def floCodesWrong : ChangeSpec := { name := "floCodes", fn := fun _ => fun
  | [d1, d2] => { results := [.lit (.bool false)], args := [d1, d2] }
  | _ => none }
def FloCodesWrongFalsely : Prop := floCodesRow.holds Try.pinned (OpenSpec.ofChange floCodesWrong)

/-- 'antecedentlaw01.FloBack': WHATEVER THE INPUT: true; the input reads as it did. -/
def floBackSpec : ChangeSpec := { name := "floBack", fn := fun _ => fun
  | [d1, d2] => { results := [.lit (.bool true)], args := [d1, d2] }
  | _ => none }
def floBackRow : OpenClaim := { program := "ytlcdkeajbboeiaa", sum := "63b2b4120b2d0f9493d82d45ffb8354bcf635a2c9a2ee04e6b8da5de0651ddae", func := "antecedent/antecedentlaw01.FloBack", spec := "floBack", inPlace := ["math.Float64bits", "math.Float64frombits"], apart := false }
def FloBackSaid : Prop := floBackRow.holds Try.pinned (OpenSpec.ofChange floBackSpec)

/-- ITS FALSE NEIGHBOUR: 'it returns false'. Refute it at one input. -/
def floBackWrong : ChangeSpec := { name := "floBack", fn := fun _ => fun
  | [d1, d2] => { results := [.lit (.bool false)], args := [d1, d2] }
  | _ => none }
def FloBackWrongFalsely : Prop := floBackRow.holds Try.pinned (OpenSpec.ofChange floBackWrong)

/-- 'antecedentlaw01.FloOrder': WHATEVER THE INPUT: true; the input reads as it did. -/
def floOrderSpec : ChangeSpec := { name := "floOrder", fn := fun _ => fun
  | [d1, d2] => { results := [.lit (.bool true)], args := [d1, d2] }
  | _ => none }
def floOrderRow : OpenClaim := { program := "ytlcdkeajbboeiaa", sum := "63b2b4120b2d0f9493d82d45ffb8354bcf635a2c9a2ee04e6b8da5de0651ddae", func := "antecedent/antecedentlaw01.FloOrder", spec := "floOrder", inPlace := ["math.Float64bits", "math.Float64frombits"], apart := false }
def FloOrderSaid : Prop := floOrderRow.holds Try.pinned (OpenSpec.ofChange floOrderSpec)

/-- ITS FALSE NEIGHBOUR: 'it returns false'. Refute it at one input. -/
def floOrderWrong : ChangeSpec := { name := "floOrder", fn := fun _ => fun
  | [d1, d2] => { results := [.lit (.bool false)], args := [d1, d2] }
  | _ => none }
def FloOrderWrongFalsely : Prop := floOrderRow.holds Try.pinned (OpenSpec.ofChange floOrderWrong)

/-- 'antecedentlaw01.FloSides': WHATEVER THE INPUT: true; the input reads as it did. -/
def floSidesSpec : ChangeSpec := { name := "floSides", fn := fun _ => fun
  | [d1, d2] => { results := [.lit (.bool true)], args := [d1, d2] }
  | _ => none }
def floSidesRow : OpenClaim := { program := "ytlcdkeajbboeiaa", sum := "63b2b4120b2d0f9493d82d45ffb8354bcf635a2c9a2ee04e6b8da5de0651ddae", func := "antecedent/antecedentlaw01.FloSides", spec := "floSides", inPlace := ["math.Float64bits", "math.Float64frombits"], apart := false }
def FloSidesSaid : Prop := floSidesRow.holds Try.pinned (OpenSpec.ofChange floSidesSpec)

/-- ITS FALSE NEIGHBOUR: 'it returns false'. Refute it at one input. -/
def floSidesWrong : ChangeSpec := { name := "floSides", fn := fun _ => fun
  | [d1, d2] => { results := [.lit (.bool false)], args := [d1, d2] }
  | _ => none }
def FloSidesWrongFalsely : Prop := floSidesRow.holds Try.pinned (OpenSpec.ofChange floSidesWrong)

/-- 'antecedentlaw01.FloDouble': WHATEVER THE INPUT: true; the input reads as it did. -/
def floDoubleSpec : ChangeSpec := { name := "floDouble", fn := fun _ => fun
  | [d] => { results := [.lit (.bool true)], args := [d] }
  | _ => none }
def floDoubleRow : OpenClaim := { program := "ytlcdkeajbboeiaa", sum := "63b2b4120b2d0f9493d82d45ffb8354bcf635a2c9a2ee04e6b8da5de0651ddae", func := "antecedent/antecedentlaw01.FloDouble", spec := "floDouble", inPlace := ["math.Float64bits", "math.Float64frombits"], apart := false }
def FloDoubleSaid : Prop := floDoubleRow.holds Try.pinned (OpenSpec.ofChange floDoubleSpec)

/-- ITS FALSE NEIGHBOUR: 'it returns false'. Refute it at one input. -/
def floDoubleWrong : ChangeSpec := { name := "floDouble", fn := fun _ => fun
  | [d] => { results := [.lit (.bool false)], args := [d] }
  | _ => none }
def FloDoubleWrongFalsely : Prop := floDoubleRow.holds Try.pinned (OpenSpec.ofChange floDoubleWrong)

/-- 'antecedentlaw01.FloReckons': WHATEVER THE INPUT: true; the input reads as it did. -/
def floReckonsSpec : ChangeSpec := { name := "floReckons", fn := fun _ => fun
  | [d1, d2, d3] => { results := [.lit (.bool true)], args := [d1, d2, d3] }
  | _ => none }
def floReckonsRow : OpenClaim := { program := "ytlcdkeajbboeiaa", sum := "63b2b4120b2d0f9493d82d45ffb8354bcf635a2c9a2ee04e6b8da5de0651ddae", func := "antecedent/antecedentlaw01.FloReckons", spec := "floReckons", inPlace := ["math.Float64bits", "math.Float64frombits"], recurses := true, apart := false }
def FloReckonsSaid : Prop := floReckonsRow.holds Try.pinned (OpenSpec.ofChange floReckonsSpec)

/-- ITS FALSE NEIGHBOUR: 'it returns false'. Refute it at one input. -/
def floReckonsWrong : ChangeSpec := { name := "floReckons", fn := fun _ => fun
  | [d1, d2, d3] => { results := [.lit (.bool false)], args := [d1, d2, d3] }
  | _ => none }
def FloReckonsWrongFalsely : Prop := floReckonsRow.holds Try.pinned (OpenSpec.ofChange floReckonsWrong)

/-- 'antecedentlaw01.FloEdges': WHATEVER THE INPUT: true; the input reads as it did. -/
def floEdgesSpec : ChangeSpec := { name := "floEdges", fn := fun _ => fun
  | [d] => { results := [.lit (.bool true)], args := [d] }
  | _ => none }
def floEdgesRow : OpenClaim := { program := "ytlcdkeajbboeiaa", sum := "63b2b4120b2d0f9493d82d45ffb8354bcf635a2c9a2ee04e6b8da5de0651ddae", func := "antecedent/antecedentlaw01.FloEdges", spec := "floEdges", inPlace := ["math.Float64bits", "math.Float64frombits"], apart := false }
def FloEdgesSaid : Prop := floEdgesRow.holds Try.pinned (OpenSpec.ofChange floEdgesSpec)

/-- ITS FALSE NEIGHBOUR: 'it returns false'. Refute it at one input. -/
def floEdgesWrong : ChangeSpec := { name := "floEdges", fn := fun _ => fun
  | [d] => { results := [.lit (.bool false)], args := [d] }
  | _ => none }
def FloEdgesWrongFalsely : Prop := floEdgesRow.holds Try.pinned (OpenSpec.ofChange floEdgesWrong)

/- THE SECOND FORM. 'bulk': how many values and letters a reading holds, each counted each time it is reached (what is shared counts as often as it is met; a slice's spare places count too). A statement '..UptoSaid' is the law's where the arguments, and the package variables that the reading takes, are together of bulk at most 1048576: NARROWER than '..Said'. Prove '..Said' where nothing that the law and all that it calls make is longer than what came in: it says more and counts as full. Else prove '..UptoSaid'. A law counts once. -/
mutual
def uptoBulk {H : Type} : DataW H → Nat
  | .lit (.string bytes) => bytes.length + 1
  | .lit _ => 1
  | .nil => 1
  | .ptr d => uptoBulk d + 1
  | .slice elems spare => uptoBulkAll elems + uptoBulkAll spare + 1
  | .agg parts => uptoBulkAll parts + 1
  | .iface _ d => uptoBulk d + 1
  | .map entries => uptoBulkEntries entries + 1
  | .held _ => 1
def uptoBulkAll {H : Type} : List (DataW H) → Nat
  | [] => 0
  | d :: r => uptoBulk d + uptoBulkAll r
def uptoBulkEntries {H : Type} : List (Lit × DataW H) → Nat
  | [] => 0
  | x :: r => uptoBulkEntry x + uptoBulkEntries r
def uptoBulkEntry {H : Type} : Lit × DataW H → Nat
  | (.string bytes, d) => bytes.length + uptoBulk d + 1
  | (_, d) => uptoBulk d + 1
 end
def uptoSmall : (H : Type) → List (DataW H) → Bool := fun _ ds => decide (uptoBulkAll ds ≤ 1048576)
def OpenSpec.upto (s : _root_.Go.ChangeSpec) : _root_.Go.OpenSpec := { _root_.Go.OpenSpec.ofChange s with cond := some uptoSmall }

/-- 'antecedentlaw01.FloCodes', WHERE WHAT IT READS IS OF BULK AT MOST 1048576: true; the input reads as it did. -/
def floCodesUptoRow : OpenClaim := { program := "ytlcdkeajbboeiaa", sum := "63b2b4120b2d0f9493d82d45ffb8354bcf635a2c9a2ee04e6b8da5de0651ddae", func := "antecedent/antecedentlaw01.FloCodes", spec := "floCodes", inPlace := ["math.Float64bits", "math.Float64frombits"], recurses := true, apart := false, narrowed := true }
def FloCodesUptoSaid : Prop := floCodesUptoRow.holds Try.pinned (OpenSpec.upto floCodesSpec)

/-- 'antecedentlaw01.FloBack', WHERE WHAT IT READS IS OF BULK AT MOST 1048576: true; the input reads as it did. -/
def floBackUptoRow : OpenClaim := { program := "ytlcdkeajbboeiaa", sum := "63b2b4120b2d0f9493d82d45ffb8354bcf635a2c9a2ee04e6b8da5de0651ddae", func := "antecedent/antecedentlaw01.FloBack", spec := "floBack", inPlace := ["math.Float64bits", "math.Float64frombits"], apart := false, narrowed := true }
def FloBackUptoSaid : Prop := floBackUptoRow.holds Try.pinned (OpenSpec.upto floBackSpec)

/-- 'antecedentlaw01.FloOrder', WHERE WHAT IT READS IS OF BULK AT MOST 1048576: true; the input reads as it did. -/
def floOrderUptoRow : OpenClaim := { program := "ytlcdkeajbboeiaa", sum := "63b2b4120b2d0f9493d82d45ffb8354bcf635a2c9a2ee04e6b8da5de0651ddae", func := "antecedent/antecedentlaw01.FloOrder", spec := "floOrder", inPlace := ["math.Float64bits", "math.Float64frombits"], apart := false, narrowed := true }
def FloOrderUptoSaid : Prop := floOrderUptoRow.holds Try.pinned (OpenSpec.upto floOrderSpec)

/-- 'antecedentlaw01.FloSides', WHERE WHAT IT READS IS OF BULK AT MOST 1048576: true; the input reads as it did. -/
def floSidesUptoRow : OpenClaim := { program := "ytlcdkeajbboeiaa", sum := "63b2b4120b2d0f9493d82d45ffb8354bcf635a2c9a2ee04e6b8da5de0651ddae", func := "antecedent/antecedentlaw01.FloSides", spec := "floSides", inPlace := ["math.Float64bits", "math.Float64frombits"], apart := false, narrowed := true }
def FloSidesUptoSaid : Prop := floSidesUptoRow.holds Try.pinned (OpenSpec.upto floSidesSpec)

/-- 'antecedentlaw01.FloDouble', WHERE WHAT IT READS IS OF BULK AT MOST 1048576: true; the input reads as it did. -/
def floDoubleUptoRow : OpenClaim := { program := "ytlcdkeajbboeiaa", sum := "63b2b4120b2d0f9493d82d45ffb8354bcf635a2c9a2ee04e6b8da5de0651ddae", func := "antecedent/antecedentlaw01.FloDouble", spec := "floDouble", inPlace := ["math.Float64bits", "math.Float64frombits"], apart := false, narrowed := true }
def FloDoubleUptoSaid : Prop := floDoubleUptoRow.holds Try.pinned (OpenSpec.upto floDoubleSpec)

/-- 'antecedentlaw01.FloReckons', WHERE WHAT IT READS IS OF BULK AT MOST 1048576: true; the input reads as it did. -/
def floReckonsUptoRow : OpenClaim := { program := "ytlcdkeajbboeiaa", sum := "63b2b4120b2d0f9493d82d45ffb8354bcf635a2c9a2ee04e6b8da5de0651ddae", func := "antecedent/antecedentlaw01.FloReckons", spec := "floReckons", inPlace := ["math.Float64bits", "math.Float64frombits"], recurses := true, apart := false, narrowed := true }
def FloReckonsUptoSaid : Prop := floReckonsUptoRow.holds Try.pinned (OpenSpec.upto floReckonsSpec)

/-- 'antecedentlaw01.FloEdges', WHERE WHAT IT READS IS OF BULK AT MOST 1048576: true; the input reads as it did. -/
def floEdgesUptoRow : OpenClaim := { program := "ytlcdkeajbboeiaa", sum := "63b2b4120b2d0f9493d82d45ffb8354bcf635a2c9a2ee04e6b8da5de0651ddae", func := "antecedent/antecedentlaw01.FloEdges", spec := "floEdges", inPlace := ["math.Float64bits", "math.Float64frombits"], apart := false, narrowed := true }
def FloEdgesUptoSaid : Prop := floEdgesUptoRow.holds Try.pinned (OpenSpec.upto floEdgesSpec)

end Rows
end Go.Proofs.Ytlcdkeajbboeiaa
