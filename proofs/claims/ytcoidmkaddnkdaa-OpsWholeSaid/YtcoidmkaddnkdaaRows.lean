/-
  No cell of these rows narrows 'for every input' (looked for: loops, veiled, ifaces, maps, wideKeys, modest, calm, conditions, laid).
  DERIVED. THE GIVEN ROWS OF THIS SEAT. 6 by the template 'for every input the law returns true; each argument reads behind the call as it read before'; 0 by the template 'total and deterministic' (their statements: YtcoidmkaddnkdaaTotals.lean).
  GIVEN WITH THE SEED: the statements are not yours to turn. If you find one false, say at which input.
  Laid BY PROGRAM, IN A SANDBOX (cutbox-rows.mjs): the forced cells as the released guide's own fill.sh prints them over the translation 52804ad98ff3d2a2… (all of the seat's roots in one cut). By AI agents, Wed Nov 11 2026. No macro, syntax, notation, axiom, sorry.
-/
import Derived.Test.YtcoidmkaddnkdaaChecked
import GoSem.Claim
import GoSem.ClaimJoined
import GoSem.ClaimMapViews
import Derived.JoinedTies
import Derived.KernelRfl
namespace Go.Proofs.Ytcoidmkaddnkdaa
/- THE CELL 'sum', in the pinned program and in every row, IS THE sha256 OF THE DUMP (.gsa) THAT YtcoidmkaddnkdaaProg.lean LOADS. Nothing in Lean hashes anything: it is a label: what it is worth is what the hold of that sum in a sandbox is worth. -/
noncomputable def Try.pinned : Pinned := { name := "ytcoidmkaddnkdaa", sum := "52804ad98ff3d2a22ff4eb28b6b3b5bf9ee004c9caa748da97d7f66a0eb9de37", checked := Try.checked }
namespace Rows
def none {H : Type} : Left H := { results := [], args := [] }

/-- 'antecedentlaw19.OpsReckon': WHATEVER THE INPUT: true; the input reads as it did. -/
def opsReckonSpec : ChangeSpec := { name := "opsReckon", fn := fun _ => fun
  | [d1, d2, d3] => { results := [.lit (.bool true)], args := [d1, d2, d3] }
  | _ => none }
def opsReckonRow : OpenClaim := { program := "ytcoidmkaddnkdaa", sum := "52804ad98ff3d2a22ff4eb28b6b3b5bf9ee004c9caa748da97d7f66a0eb9de37", func := "antecedent/antecedentlaw19.OpsReckon", spec := "opsReckon", inPlace := ["math.Float64frombits", "math.Float64bits", "internal/bytealg.abigen_runtime_cmpstring"], unfollowed := true, recurses := true, apart := false }
def OpsReckonSaid : Prop := opsReckonRow.holds Try.pinned (OpenSpec.ofChange opsReckonSpec)

/-- ITS FALSE NEIGHBOUR: 'it returns false'. Refute it at one input. -/
def opsReckonWrong : ChangeSpec := { name := "opsReckon", fn := fun _ => fun
  | [d1, d2, d3] => { results := [.lit (.bool false)], args := [d1, d2, d3] }
  | _ => none }
def OpsReckonWrongFalsely : Prop := opsReckonRow.holds Try.pinned (OpenSpec.ofChange opsReckonWrong)

/-- 'antecedentlaw19.OpsWhole': WHATEVER THE INPUT: true; the input reads as it did. -/
def opsWholeSpec : ChangeSpec := { name := "opsWhole", fn := fun _ => fun
  | [d1, d2] => { results := [.lit (.bool true)], args := [d1, d2] }
  | _ => none }
def opsWholeRow : OpenClaim := { program := "ytcoidmkaddnkdaa", sum := "52804ad98ff3d2a22ff4eb28b6b3b5bf9ee004c9caa748da97d7f66a0eb9de37", func := "antecedent/antecedentlaw19.OpsWhole", spec := "opsWhole", inPlace := ["math.Float64frombits", "math.Float64bits", "internal/bytealg.abigen_runtime_cmpstring"], unfollowed := true, recurses := true, apart := false }
def OpsWholeSaid : Prop := opsWholeRow.holds Try.pinned (OpenSpec.ofChange opsWholeSpec)

/-- ITS FALSE NEIGHBOUR: 'it returns false'. Refute it at one input. -/
def opsWholeWrong : ChangeSpec := { name := "opsWhole", fn := fun _ => fun
  | [d1, d2] => { results := [.lit (.bool false)], args := [d1, d2] }
  | _ => none }
def OpsWholeWrongFalsely : Prop := opsWholeRow.holds Try.pinned (OpenSpec.ofChange opsWholeWrong)

/-- 'antecedentlaw19.OpsSmall': WHATEVER THE INPUT: true; the input reads as it did. -/
def opsSmallSpec : ChangeSpec := { name := "opsSmall", fn := fun _ => fun
  | [d1, d2] => { results := [.lit (.bool true)], args := [d1, d2] }
  | _ => none }
def opsSmallRow : OpenClaim := { program := "ytcoidmkaddnkdaa", sum := "52804ad98ff3d2a22ff4eb28b6b3b5bf9ee004c9caa748da97d7f66a0eb9de37", func := "antecedent/antecedentlaw19.OpsSmall", spec := "opsSmall", inPlace := ["math.Float64frombits", "math.Float64bits", "internal/bytealg.abigen_runtime_cmpstring"], unfollowed := true, recurses := true, apart := false }
def OpsSmallSaid : Prop := opsSmallRow.holds Try.pinned (OpenSpec.ofChange opsSmallSpec)

/-- ITS FALSE NEIGHBOUR: 'it returns false'. Refute it at one input. -/
def opsSmallWrong : ChangeSpec := { name := "opsSmall", fn := fun _ => fun
  | [d1, d2] => { results := [.lit (.bool false)], args := [d1, d2] }
  | _ => none }
def OpsSmallWrongFalsely : Prop := opsSmallRow.holds Try.pinned (OpenSpec.ofChange opsSmallWrong)

/-- 'antecedentlaw19.OpsPoints': WHATEVER THE INPUT: true; the input reads as it did. -/
def opsPointsSpec : ChangeSpec := { name := "opsPoints", fn := fun _ => fun
  | [d1, d2] => { results := [.lit (.bool true)], args := [d1, d2] }
  | _ => none }
def opsPointsRow : OpenClaim := { program := "ytcoidmkaddnkdaa", sum := "52804ad98ff3d2a22ff4eb28b6b3b5bf9ee004c9caa748da97d7f66a0eb9de37", func := "antecedent/antecedentlaw19.OpsPoints", spec := "opsPoints", inPlace := ["math.Float64frombits", "math.Float64bits", "internal/bytealg.abigen_runtime_cmpstring"], unfollowed := true, recurses := true, apart := false }
def OpsPointsSaid : Prop := opsPointsRow.holds Try.pinned (OpenSpec.ofChange opsPointsSpec)

/-- ITS FALSE NEIGHBOUR: 'it returns false'. Refute it at one input. -/
def opsPointsWrong : ChangeSpec := { name := "opsPoints", fn := fun _ => fun
  | [d1, d2] => { results := [.lit (.bool false)], args := [d1, d2] }
  | _ => none }
def OpsPointsWrongFalsely : Prop := opsPointsRow.holds Try.pinned (OpenSpec.ofChange opsPointsWrong)

/-- 'antecedentlaw19.OpsOne': WHATEVER THE INPUT: true; the input reads as it did. -/
def opsOneSpec : ChangeSpec := { name := "opsOne", fn := fun _ => fun
  | [d1, d2] => { results := [.lit (.bool true)], args := [d1, d2] }
  | _ => none }
def opsOneRow : OpenClaim := { program := "ytcoidmkaddnkdaa", sum := "52804ad98ff3d2a22ff4eb28b6b3b5bf9ee004c9caa748da97d7f66a0eb9de37", func := "antecedent/antecedentlaw19.OpsOne", spec := "opsOne", inPlace := ["math.Float64frombits", "math.Float64bits", "internal/bytealg.abigen_runtime_cmpstring"], unfollowed := true, recurses := true, apart := false }
def OpsOneSaid : Prop := opsOneRow.holds Try.pinned (OpenSpec.ofChange opsOneSpec)

/-- ITS FALSE NEIGHBOUR: 'it returns false'. Refute it at one input. -/
def opsOneWrong : ChangeSpec := { name := "opsOne", fn := fun _ => fun
  | [d1, d2] => { results := [.lit (.bool false)], args := [d1, d2] }
  | _ => none }
def OpsOneWrongFalsely : Prop := opsOneRow.holds Try.pinned (OpenSpec.ofChange opsOneWrong)

/-- 'antecedentlaw19.OpsOrder': WHATEVER THE INPUT: true; the input reads as it did. -/
def opsOrderSpec : ChangeSpec := { name := "opsOrder", fn := fun _ => fun
  | [d1, d2, d3] => { results := [.lit (.bool true)], args := [d1, d2, d3] }
  | _ => none }
def opsOrderRow : OpenClaim := { program := "ytcoidmkaddnkdaa", sum := "52804ad98ff3d2a22ff4eb28b6b3b5bf9ee004c9caa748da97d7f66a0eb9de37", func := "antecedent/antecedentlaw19.OpsOrder", spec := "opsOrder", inPlace := ["math.Float64frombits", "math.Float64bits", "internal/bytealg.abigen_runtime_cmpstring"], unfollowed := true, recurses := true, apart := false }
def OpsOrderSaid : Prop := opsOrderRow.holds Try.pinned (OpenSpec.ofChange opsOrderSpec)

/-- ITS FALSE NEIGHBOUR: 'it returns false'. Refute it at one input. -/
def opsOrderWrong : ChangeSpec := { name := "opsOrder", fn := fun _ => fun
  | [d1, d2, d3] => { results := [.lit (.bool false)], args := [d1, d2, d3] }
  | _ => none }
def OpsOrderWrongFalsely : Prop := opsOrderRow.holds Try.pinned (OpenSpec.ofChange opsOrderWrong)

/- THE SECOND FORM. 'bulk': how many values and letters a reading holds, each counted each time it is reached (what is shared counts as often as it is met; a slice's spare places count too). A statement '..UptoSaid' is the law's where the arguments, and the package variables that the reading takes, are together of bulk at most 1048576: NARROWER than '..Said'. Prove '..Said' where nothing that the law and all that it calls make is longer than what came in: it says more and counts as full. Else prove '..UptoSaid'. A law counts once. -/
mutual
def uptoBulk {H : Type} : DataW H → Nat
  | .lit (.string bytes) => bytes.length + 1
  | .lit _ => 1
  | .nil => 1
  | .ptr d => uptoBulk d + 1
  | .slice elems spare => uptoBulkAll elems + uptoBulkAll spare + 1
  | .agg parts => uptoBulkAll parts + 1
  | .iface _ d => uptoBulk d + 1
  | .map entries => uptoBulkEntries entries + 1
  | .held _ => 1
def uptoBulkAll {H : Type} : List (DataW H) → Nat
  | [] => 0
  | d :: r => uptoBulk d + uptoBulkAll r
def uptoBulkEntries {H : Type} : List (Lit × DataW H) → Nat
  | [] => 0
  | x :: r => uptoBulkEntry x + uptoBulkEntries r
def uptoBulkEntry {H : Type} : Lit × DataW H → Nat
  | (.string bytes, d) => bytes.length + uptoBulk d + 1
  | (_, d) => uptoBulk d + 1
 end
def uptoSmall : (H : Type) → List (DataW H) → Bool := fun _ ds => decide (uptoBulkAll ds ≤ 1048576)
def OpenSpec.upto (s : _root_.Go.ChangeSpec) : _root_.Go.OpenSpec := { _root_.Go.OpenSpec.ofChange s with cond := some uptoSmall }

/-- 'antecedentlaw19.OpsReckon', WHERE WHAT IT READS IS OF BULK AT MOST 1048576: true; the input reads as it did. -/
def opsReckonUptoRow : OpenClaim := { program := "ytcoidmkaddnkdaa", sum := "52804ad98ff3d2a22ff4eb28b6b3b5bf9ee004c9caa748da97d7f66a0eb9de37", func := "antecedent/antecedentlaw19.OpsReckon", spec := "opsReckon", inPlace := ["math.Float64frombits", "math.Float64bits", "internal/bytealg.abigen_runtime_cmpstring"], unfollowed := true, recurses := true, apart := false, narrowed := true }
def OpsReckonUptoSaid : Prop := opsReckonUptoRow.holds Try.pinned (OpenSpec.upto opsReckonSpec)

/-- 'antecedentlaw19.OpsWhole', WHERE WHAT IT READS IS OF BULK AT MOST 1048576: true; the input reads as it did. -/
def opsWholeUptoRow : OpenClaim := { program := "ytcoidmkaddnkdaa", sum := "52804ad98ff3d2a22ff4eb28b6b3b5bf9ee004c9caa748da97d7f66a0eb9de37", func := "antecedent/antecedentlaw19.OpsWhole", spec := "opsWhole", inPlace := ["math.Float64frombits", "math.Float64bits", "internal/bytealg.abigen_runtime_cmpstring"], unfollowed := true, recurses := true, apart := false, narrowed := true }
def OpsWholeUptoSaid : Prop := opsWholeUptoRow.holds Try.pinned (OpenSpec.upto opsWholeSpec)

/-- 'antecedentlaw19.OpsSmall', WHERE WHAT IT READS IS OF BULK AT MOST 1048576: true; the input reads as it did. -/
def opsSmallUptoRow : OpenClaim := { program := "ytcoidmkaddnkdaa", sum := "52804ad98ff3d2a22ff4eb28b6b3b5bf9ee004c9caa748da97d7f66a0eb9de37", func := "antecedent/antecedentlaw19.OpsSmall", spec := "opsSmall", inPlace := ["math.Float64frombits", "math.Float64bits", "internal/bytealg.abigen_runtime_cmpstring"], unfollowed := true, recurses := true, apart := false, narrowed := true }
def OpsSmallUptoSaid : Prop := opsSmallUptoRow.holds Try.pinned (OpenSpec.upto opsSmallSpec)

/-- 'antecedentlaw19.OpsPoints', WHERE WHAT IT READS IS OF BULK AT MOST 1048576: true; the input reads as it did. -/
def opsPointsUptoRow : OpenClaim := { program := "ytcoidmkaddnkdaa", sum := "52804ad98ff3d2a22ff4eb28b6b3b5bf9ee004c9caa748da97d7f66a0eb9de37", func := "antecedent/antecedentlaw19.OpsPoints", spec := "opsPoints", inPlace := ["math.Float64frombits", "math.Float64bits", "internal/bytealg.abigen_runtime_cmpstring"], unfollowed := true, recurses := true, apart := false, narrowed := true }
def OpsPointsUptoSaid : Prop := opsPointsUptoRow.holds Try.pinned (OpenSpec.upto opsPointsSpec)

/-- 'antecedentlaw19.OpsOne', WHERE WHAT IT READS IS OF BULK AT MOST 1048576: true; the input reads as it did. -/
def opsOneUptoRow : OpenClaim := { program := "ytcoidmkaddnkdaa", sum := "52804ad98ff3d2a22ff4eb28b6b3b5bf9ee004c9caa748da97d7f66a0eb9de37", func := "antecedent/antecedentlaw19.OpsOne", spec := "opsOne", inPlace := ["math.Float64frombits", "math.Float64bits", "internal/bytealg.abigen_runtime_cmpstring"], unfollowed := true, recurses := true, apart := false, narrowed := true }
def OpsOneUptoSaid : Prop := opsOneUptoRow.holds Try.pinned (OpenSpec.upto opsOneSpec)

/-- 'antecedentlaw19.OpsOrder', WHERE WHAT IT READS IS OF BULK AT MOST 1048576: true; the input reads as it did. -/
def opsOrderUptoRow : OpenClaim := { program := "ytcoidmkaddnkdaa", sum := "52804ad98ff3d2a22ff4eb28b6b3b5bf9ee004c9caa748da97d7f66a0eb9de37", func := "antecedent/antecedentlaw19.OpsOrder", spec := "opsOrder", inPlace := ["math.Float64frombits", "math.Float64bits", "internal/bytealg.abigen_runtime_cmpstring"], unfollowed := true, recurses := true, apart := false, narrowed := true }
def OpsOrderUptoSaid : Prop := opsOrderUptoRow.holds Try.pinned (OpenSpec.upto opsOrderSpec)

end Rows
end Go.Proofs.Ytcoidmkaddnkdaa
