/-
  No cell of these rows narrows 'for every input' (looked for: loops, veiled, ifaces, maps, wideKeys, modest, calm, conditions, laid).
  DERIVED. THE GIVEN ROWS OF THIS SEAT. 5 by the template 'for every input the law returns true; each argument reads behind the call as it read before'; 0 by the template 'total and deterministic' (their statements: YtliocmjeglbpiaaTotals.lean).
  GIVEN WITH THE SEED: the statements are not yours to turn. If you find one false, say at which input.
  Laid BY PROGRAM, IN A SANDBOX (cutbox-rows.mjs): the forced cells as the released guide's own fill.sh prints them over the translation bb84f83c8d73cd7d… (all of the seat's roots in one cut). By AI agents, Wed Nov 11 2026. No macro, syntax, notation, axiom, sorry.
-/
import Derived.Test.YtliocmjeglbpiaaChecked
import GoSem.Claim
import GoSem.ClaimJoined
import GoSem.ClaimMapViews
import Derived.JoinedTies
import Derived.KernelRfl
namespace Go.Proofs.Ytliocmjeglbpiaa
/- THE CELL 'sum', in the pinned program and in every row, IS THE sha256 OF THE DUMP (.gsa) THAT YtliocmjeglbpiaaProg.lean LOADS. Nothing in Lean hashes anything: it is a label: what it is worth is what the hold of that sum in a sandbox is worth. -/
noncomputable def Try.pinned : Pinned := { name := "ytliocmjeglbpiaa", sum := "bb84f83c8d73cd7d28adb64522aad93cf1dfebcd3ad93d95c234e882d49f10b0", checked := Try.checked }
namespace Rows
def none {H : Type} : Left H := { results := [], args := [] }

/-- 'antecedentlaw18.ChainLeast': WHATEVER THE INPUT: true; the input reads as it did. -/
def chainLeastSpec : ChangeSpec := { name := "chainLeast", fn := fun _ => fun
  | [d1, d2] => { results := [.lit (.bool true)], args := [d1, d2] }
  | _ => none }
def chainLeastRow : OpenClaim := { program := "ytliocmjeglbpiaa", sum := "bb84f83c8d73cd7d28adb64522aad93cf1dfebcd3ad93d95c234e882d49f10b0", func := "antecedent/antecedentlaw18.ChainLeast", spec := "chainLeast", unfollowed := true, recurses := true, apart := false }
def ChainLeastSaid : Prop := chainLeastRow.holds Try.pinned (OpenSpec.ofChange chainLeastSpec)

/-- ITS FALSE NEIGHBOUR: 'it returns false'. Refute it at one input. -/
def chainLeastWrong : ChangeSpec := { name := "chainLeast", fn := fun _ => fun
  | [d1, d2] => { results := [.lit (.bool false)], args := [d1, d2] }
  | _ => none }
def ChainLeastWrongFalsely : Prop := chainLeastRow.holds Try.pinned (OpenSpec.ofChange chainLeastWrong)

/-- 'antecedentlaw18.ChainCovers': WHATEVER THE INPUT: true; the input reads as it did. -/
def chainCoversSpec : ChangeSpec := { name := "chainCovers", fn := fun _ => fun
  | [d1, d2] => { results := [.lit (.bool true)], args := [d1, d2] }
  | _ => none }
def chainCoversRow : OpenClaim := { program := "ytliocmjeglbpiaa", sum := "bb84f83c8d73cd7d28adb64522aad93cf1dfebcd3ad93d95c234e882d49f10b0", func := "antecedent/antecedentlaw18.ChainCovers", spec := "chainCovers", unfollowed := true, recurses := true, apart := false }
def ChainCoversSaid : Prop := chainCoversRow.holds Try.pinned (OpenSpec.ofChange chainCoversSpec)

/-- ITS FALSE NEIGHBOUR: 'it returns false'. Refute it at one input. -/
def chainCoversWrong : ChangeSpec := { name := "chainCovers", fn := fun _ => fun
  | [d1, d2] => { results := [.lit (.bool false)], args := [d1, d2] }
  | _ => none }
def ChainCoversWrongFalsely : Prop := chainCoversRow.holds Try.pinned (OpenSpec.ofChange chainCoversWrong)

/-- 'antecedentlaw18.ChainTwice': WHATEVER THE INPUT: true; the input reads as it did. -/
def chainTwiceSpec : ChangeSpec := { name := "chainTwice", fn := fun _ => fun
  | [d1, d2, d3] => { results := [.lit (.bool true)], args := [d1, d2, d3] }
  | _ => none }
def chainTwiceRow : OpenClaim := { program := "ytliocmjeglbpiaa", sum := "bb84f83c8d73cd7d28adb64522aad93cf1dfebcd3ad93d95c234e882d49f10b0", func := "antecedent/antecedentlaw18.ChainTwice", spec := "chainTwice", unfollowed := true, recurses := true, apart := false }
def ChainTwiceSaid : Prop := chainTwiceRow.holds Try.pinned (OpenSpec.ofChange chainTwiceSpec)

/-- ITS FALSE NEIGHBOUR: 'it returns false'. Refute it at one input. -/
def chainTwiceWrong : ChangeSpec := { name := "chainTwice", fn := fun _ => fun
  | [d1, d2, d3] => { results := [.lit (.bool false)], args := [d1, d2, d3] }
  | _ => none }
def ChainTwiceWrongFalsely : Prop := chainTwiceRow.holds Try.pinned (OpenSpec.ofChange chainTwiceWrong)

/-- 'antecedentlaw18.ChainWhole': WHATEVER THE INPUT: true; the input reads as it did. -/
def chainWholeSpec : ChangeSpec := { name := "chainWhole", fn := fun _ => fun
  | [d1, d2, d3] => { results := [.lit (.bool true)], args := [d1, d2, d3] }
  | _ => none }
def chainWholeRow : OpenClaim := { program := "ytliocmjeglbpiaa", sum := "bb84f83c8d73cd7d28adb64522aad93cf1dfebcd3ad93d95c234e882d49f10b0", func := "antecedent/antecedentlaw18.ChainWhole", spec := "chainWhole", unfollowed := true, recurses := true, apart := false }
def ChainWholeSaid : Prop := chainWholeRow.holds Try.pinned (OpenSpec.ofChange chainWholeSpec)

/-- ITS FALSE NEIGHBOUR: 'it returns false'. Refute it at one input. -/
def chainWholeWrong : ChangeSpec := { name := "chainWhole", fn := fun _ => fun
  | [d1, d2, d3] => { results := [.lit (.bool false)], args := [d1, d2, d3] }
  | _ => none }
def ChainWholeWrongFalsely : Prop := chainWholeRow.holds Try.pinned (OpenSpec.ofChange chainWholeWrong)

/-- 'antecedentlaw18.ChainTurned': WHATEVER THE INPUT: true; the input reads as it did. -/
def chainTurnedSpec : ChangeSpec := { name := "chainTurned", fn := fun _ => fun
  | [d1, d2] => { results := [.lit (.bool true)], args := [d1, d2] }
  | _ => none }
def chainTurnedRow : OpenClaim := { program := "ytliocmjeglbpiaa", sum := "bb84f83c8d73cd7d28adb64522aad93cf1dfebcd3ad93d95c234e882d49f10b0", func := "antecedent/antecedentlaw18.ChainTurned", spec := "chainTurned", unfollowed := true, recurses := true, apart := false }
def ChainTurnedSaid : Prop := chainTurnedRow.holds Try.pinned (OpenSpec.ofChange chainTurnedSpec)

/-- ITS FALSE NEIGHBOUR: 'it returns false'. Refute it at one input. -/
def chainTurnedWrong : ChangeSpec := { name := "chainTurned", fn := fun _ => fun
  | [d1, d2] => { results := [.lit (.bool false)], args := [d1, d2] }
  | _ => none }
def ChainTurnedWrongFalsely : Prop := chainTurnedRow.holds Try.pinned (OpenSpec.ofChange chainTurnedWrong)

/- THE SECOND FORM. 'bulk': how many values and letters a reading holds, each counted each time it is reached (what is shared counts as often as it is met; a slice's spare places count too). A statement '..UptoSaid' is the law's where the arguments, and the package variables that the reading takes, are together of bulk at most 1048576: NARROWER than '..Said'. Prove '..Said' where nothing that the law and all that it calls make is longer than what came in: it says more and counts as full. Else prove '..UptoSaid'. A law counts once. -/
mutual
def uptoBulk {H : Type} : DataW H → Nat
  | .lit (.string bytes) => bytes.length + 1
  | .lit _ => 1
  | .nil => 1
  | .ptr d => uptoBulk d + 1
  | .slice elems spare => uptoBulkAll elems + uptoBulkAll spare + 1
  | .agg parts => uptoBulkAll parts + 1
  | .iface _ d => uptoBulk d + 1
  | .map entries => uptoBulkEntries entries + 1
  | .held _ => 1
def uptoBulkAll {H : Type} : List (DataW H) → Nat
  | [] => 0
  | d :: r => uptoBulk d + uptoBulkAll r
def uptoBulkEntries {H : Type} : List (Lit × DataW H) → Nat
  | [] => 0
  | x :: r => uptoBulkEntry x + uptoBulkEntries r
def uptoBulkEntry {H : Type} : Lit × DataW H → Nat
  | (.string bytes, d) => bytes.length + uptoBulk d + 1
  | (_, d) => uptoBulk d + 1
 end
def uptoSmall : (H : Type) → List (DataW H) → Bool := fun _ ds => decide (uptoBulkAll ds ≤ 1048576)
def OpenSpec.upto (s : _root_.Go.ChangeSpec) : _root_.Go.OpenSpec := { _root_.Go.OpenSpec.ofChange s with cond := some uptoSmall }

/-- 'antecedentlaw18.ChainLeast', WHERE WHAT IT READS IS OF BULK AT MOST 1048576: true; the input reads as it did. -/
def chainLeastUptoRow : OpenClaim := { program := "ytliocmjeglbpiaa", sum := "bb84f83c8d73cd7d28adb64522aad93cf1dfebcd3ad93d95c234e882d49f10b0", func := "antecedent/antecedentlaw18.ChainLeast", spec := "chainLeast", unfollowed := true, recurses := true, apart := false, narrowed := true }
def ChainLeastUptoSaid : Prop := chainLeastUptoRow.holds Try.pinned (OpenSpec.upto chainLeastSpec)

/-- 'antecedentlaw18.ChainCovers', WHERE WHAT IT READS IS OF BULK AT MOST 1048576: true; the input reads as it did. -/
def chainCoversUptoRow : OpenClaim := { program := "ytliocmjeglbpiaa", sum := "bb84f83c8d73cd7d28adb64522aad93cf1dfebcd3ad93d95c234e882d49f10b0", func := "antecedent/antecedentlaw18.ChainCovers", spec := "chainCovers", unfollowed := true, recurses := true, apart := false, narrowed := true }
def ChainCoversUptoSaid : Prop := chainCoversUptoRow.holds Try.pinned (OpenSpec.upto chainCoversSpec)

/-- 'antecedentlaw18.ChainTwice', WHERE WHAT IT READS IS OF BULK AT MOST 1048576: true; the input reads as it did. -/
def chainTwiceUptoRow : OpenClaim := { program := "ytliocmjeglbpiaa", sum := "bb84f83c8d73cd7d28adb64522aad93cf1dfebcd3ad93d95c234e882d49f10b0", func := "antecedent/antecedentlaw18.ChainTwice", spec := "chainTwice", unfollowed := true, recurses := true, apart := false, narrowed := true }
def ChainTwiceUptoSaid : Prop := chainTwiceUptoRow.holds Try.pinned (OpenSpec.upto chainTwiceSpec)

/-- 'antecedentlaw18.ChainWhole', WHERE WHAT IT READS IS OF BULK AT MOST 1048576: true; the input reads as it did. -/
def chainWholeUptoRow : OpenClaim := { program := "ytliocmjeglbpiaa", sum := "bb84f83c8d73cd7d28adb64522aad93cf1dfebcd3ad93d95c234e882d49f10b0", func := "antecedent/antecedentlaw18.ChainWhole", spec := "chainWhole", unfollowed := true, recurses := true, apart := false, narrowed := true }
def ChainWholeUptoSaid : Prop := chainWholeUptoRow.holds Try.pinned (OpenSpec.upto chainWholeSpec)

/-- 'antecedentlaw18.ChainTurned', WHERE WHAT IT READS IS OF BULK AT MOST 1048576: true; the input reads as it did. -/
def chainTurnedUptoRow : OpenClaim := { program := "ytliocmjeglbpiaa", sum := "bb84f83c8d73cd7d28adb64522aad93cf1dfebcd3ad93d95c234e882d49f10b0", func := "antecedent/antecedentlaw18.ChainTurned", spec := "chainTurned", unfollowed := true, recurses := true, apart := false, narrowed := true }
def ChainTurnedUptoSaid : Prop := chainTurnedUptoRow.holds Try.pinned (OpenSpec.upto chainTurnedSpec)

end Rows
end Go.Proofs.Ytliocmjeglbpiaa
