/-
  No cell of these rows narrows 'for every input' (looked for: loops, veiled, ifaces, maps, wideKeys, modest, calm, conditions, laid).
  DERIVED. THE GIVEN ROWS OF THIS SEAT. 5 by the template 'for every input the law returns true; each argument reads behind the call as it read before'; 0 by the template 'total and deterministic' (their statements: YtolefpeiceiocaaTotals.lean).
  GIVEN WITH THE SEED: the statements are not yours to turn. If you find one false, say at which input.
  Laid BY PROGRAM, IN A SANDBOX (cutbox-rows.mjs): the forced cells as the released guide's own fill.sh prints them over the translation 57c09a89f84bb2dd… (all of the seat's roots in one cut). By AI agents, Wed Nov 11 2026. No macro, syntax, notation, axiom, sorry.
-/
import Derived.Test.YtolefpeiceiocaaChecked
import GoSem.Claim
import GoSem.ClaimJoined
import GoSem.ClaimMapViews
import Derived.JoinedTies
import Derived.KernelRfl
namespace Go.Proofs.Ytolefpeiceiocaa
/- THE CELL 'sum', in the pinned program and in every row, IS THE sha256 OF THE DUMP (.gsa) THAT YtolefpeiceiocaaProg.lean LOADS. Nothing in Lean hashes anything: it is a label: what it is worth is what the hold of that sum in a sandbox is worth. -/
noncomputable def Try.pinned : Pinned := { name := "ytolefpeiceiocaa", sum := "57c09a89f84bb2dd7559f5903a5d5f45a3e76f0e815afa6d6539462c0b9491ba", checked := Try.checked }
namespace Rows
def none {H : Type} : Left H := { results := [], args := [] }

/-- 'antecedentlaw20.FoldOrder': WHATEVER THE INPUT: true; the input reads as it did. -/
def foldOrderSpec : ChangeSpec := { name := "foldOrder", fn := fun _ => fun
  | [d1, d2, d3, d4] => { results := [.lit (.bool true)], args := [d1, d2, d3, d4] }
  | _ => none }
def foldOrderRow : OpenClaim := { program := "ytolefpeiceiocaa", sum := "57c09a89f84bb2dd7559f5903a5d5f45a3e76f0e815afa6d6539462c0b9491ba", func := "antecedent/antecedentlaw20.FoldOrder", spec := "foldOrder", inPlace := ["internal/bytealg.abigen_runtime_cmpstring", "math.Float64bits", "math.Float64frombits", "math/bits.Add64"], unfollowed := true, recurses := true, apart := false }
def FoldOrderSaid : Prop := foldOrderRow.holds Try.pinned (OpenSpec.ofChange foldOrderSpec)

/-- ITS FALSE NEIGHBOUR: 'it returns false'. Refute it at one input. -/
def foldOrderWrong : ChangeSpec := { name := "foldOrder", fn := fun _ => fun
  | [d1, d2, d3, d4] => { results := [.lit (.bool false)], args := [d1, d2, d3, d4] }
  | _ => none }
def FoldOrderWrongFalsely : Prop := foldOrderRow.holds Try.pinned (OpenSpec.ofChange foldOrderWrong)

/-- 'antecedentlaw20.FoldEnds': WHATEVER THE INPUT: true; the input reads as it did. -/
def foldEndsSpec : ChangeSpec := { name := "foldEnds", fn := fun _ => fun
  | [d] => { results := [.lit (.bool true)], args := [d] }
  | _ => none }
def foldEndsRow : OpenClaim := { program := "ytolefpeiceiocaa", sum := "57c09a89f84bb2dd7559f5903a5d5f45a3e76f0e815afa6d6539462c0b9491ba", func := "antecedent/antecedentlaw20.FoldEnds", spec := "foldEnds", inPlace := ["internal/bytealg.abigen_runtime_cmpstring", "math.Float64bits", "math.Float64frombits", "math/bits.Add64"], unfollowed := true, recurses := true, apart := false }
def FoldEndsSaid : Prop := foldEndsRow.holds Try.pinned (OpenSpec.ofChange foldEndsSpec)

/-- ITS FALSE NEIGHBOUR: 'it returns false'. Refute it at one input. -/
def foldEndsWrong : ChangeSpec := { name := "foldEnds", fn := fun _ => fun
  | [d] => { results := [.lit (.bool false)], args := [d] }
  | _ => none }
def FoldEndsWrongFalsely : Prop := foldEndsRow.holds Try.pinned (OpenSpec.ofChange foldEndsWrong)

/-- 'antecedentlaw20.FoldSmall': WHATEVER THE INPUT: true; the input reads as it did. -/
def foldSmallSpec : ChangeSpec := { name := "foldSmall", fn := fun _ => fun
  | [d] => { results := [.lit (.bool true)], args := [d] }
  | _ => none }
def foldSmallRow : OpenClaim := { program := "ytolefpeiceiocaa", sum := "57c09a89f84bb2dd7559f5903a5d5f45a3e76f0e815afa6d6539462c0b9491ba", func := "antecedent/antecedentlaw20.FoldSmall", spec := "foldSmall", inPlace := ["internal/bytealg.abigen_runtime_cmpstring", "math.Float64bits", "math.Float64frombits", "math/bits.Add64"], unfollowed := true, recurses := true, apart := false }
def FoldSmallSaid : Prop := foldSmallRow.holds Try.pinned (OpenSpec.ofChange foldSmallSpec)

/-- ITS FALSE NEIGHBOUR: 'it returns false'. Refute it at one input. -/
def foldSmallWrong : ChangeSpec := { name := "foldSmall", fn := fun _ => fun
  | [d] => { results := [.lit (.bool false)], args := [d] }
  | _ => none }
def FoldSmallWrongFalsely : Prop := foldSmallRow.holds Try.pinned (OpenSpec.ofChange foldSmallWrong)

/-- 'antecedentlaw20.FoldWide': WHATEVER THE INPUT: true; the input reads as it did. -/
def foldWideSpec : ChangeSpec := { name := "foldWide", fn := fun _ => fun
  | [d1, d2] => { results := [.lit (.bool true)], args := [d1, d2] }
  | _ => none }
def foldWideRow : OpenClaim := { program := "ytolefpeiceiocaa", sum := "57c09a89f84bb2dd7559f5903a5d5f45a3e76f0e815afa6d6539462c0b9491ba", func := "antecedent/antecedentlaw20.FoldWide", spec := "foldWide", inPlace := ["internal/bytealg.abigen_runtime_cmpstring", "math.Float64bits", "math.Float64frombits", "math/bits.Add64"], unfollowed := true, recurses := true, apart := false }
def FoldWideSaid : Prop := foldWideRow.holds Try.pinned (OpenSpec.ofChange foldWideSpec)

/-- ITS FALSE NEIGHBOUR: 'it returns false'. Refute it at one input. -/
def foldWideWrong : ChangeSpec := { name := "foldWide", fn := fun _ => fun
  | [d1, d2] => { results := [.lit (.bool false)], args := [d1, d2] }
  | _ => none }
def FoldWideWrongFalsely : Prop := foldWideRow.holds Try.pinned (OpenSpec.ofChange foldWideWrong)

/-- 'antecedentlaw20.FoldJoins': WHATEVER THE INPUT: true; the input reads as it did. -/
def foldJoinsSpec : ChangeSpec := { name := "foldJoins", fn := fun _ => fun
  | [d1, d2] => { results := [.lit (.bool true)], args := [d1, d2] }
  | _ => none }
def foldJoinsRow : OpenClaim := { program := "ytolefpeiceiocaa", sum := "57c09a89f84bb2dd7559f5903a5d5f45a3e76f0e815afa6d6539462c0b9491ba", func := "antecedent/antecedentlaw20.FoldJoins", spec := "foldJoins", inPlace := ["internal/bytealg.abigen_runtime_cmpstring", "math.Float64bits", "math.Float64frombits", "math/bits.Add64"], unfollowed := true, recurses := true, apart := false }
def FoldJoinsSaid : Prop := foldJoinsRow.holds Try.pinned (OpenSpec.ofChange foldJoinsSpec)

/-- ITS FALSE NEIGHBOUR: 'it returns false'. Refute it at one input. -/
def foldJoinsWrong : ChangeSpec := { name := "foldJoins", fn := fun _ => fun
  | [d1, d2] => { results := [.lit (.bool false)], args := [d1, d2] }
  | _ => none }
def FoldJoinsWrongFalsely : Prop := foldJoinsRow.holds Try.pinned (OpenSpec.ofChange foldJoinsWrong)

/- THE SECOND FORM. 'bulk': how many values and letters a reading holds, each counted each time it is reached (what is shared counts as often as it is met; a slice's spare places count too). A statement '..UptoSaid' is the law's where the arguments, and the package variables that the reading takes, are together of bulk at most 1048576: NARROWER than '..Said'. Prove '..Said' where nothing that the law and all that it calls make is longer than what came in: it says more and counts as full. Else prove '..UptoSaid'. A law counts once. -/
mutual
def uptoBulk {H : Type} : DataW H → Nat
  | .lit (.string bytes) => bytes.length + 1
  | .lit _ => 1
  | .nil => 1
  | .ptr d => uptoBulk d + 1
  | .slice elems spare => uptoBulkAll elems + uptoBulkAll spare + 1
  | .agg parts => uptoBulkAll parts + 1
  | .iface _ d => uptoBulk d + 1
  | .map entries => uptoBulkEntries entries + 1
  | .held _ => 1
def uptoBulkAll {H : Type} : List (DataW H) → Nat
  | [] => 0
  | d :: r => uptoBulk d + uptoBulkAll r
def uptoBulkEntries {H : Type} : List (Lit × DataW H) → Nat
  | [] => 0
  | x :: r => uptoBulkEntry x + uptoBulkEntries r
def uptoBulkEntry {H : Type} : Lit × DataW H → Nat
  | (.string bytes, d) => bytes.length + uptoBulk d + 1
  | (_, d) => uptoBulk d + 1
 end
def uptoSmall : (H : Type) → List (DataW H) → Bool := fun _ ds => decide (uptoBulkAll ds ≤ 1048576)
def OpenSpec.upto (s : _root_.Go.ChangeSpec) : _root_.Go.OpenSpec := { _root_.Go.OpenSpec.ofChange s with cond := some uptoSmall }

/-- 'antecedentlaw20.FoldOrder', WHERE WHAT IT READS IS OF BULK AT MOST 1048576: true; the input reads as it did. -/
def foldOrderUptoRow : OpenClaim := { program := "ytolefpeiceiocaa", sum := "57c09a89f84bb2dd7559f5903a5d5f45a3e76f0e815afa6d6539462c0b9491ba", func := "antecedent/antecedentlaw20.FoldOrder", spec := "foldOrder", inPlace := ["internal/bytealg.abigen_runtime_cmpstring", "math.Float64bits", "math.Float64frombits", "math/bits.Add64"], unfollowed := true, recurses := true, apart := false, narrowed := true }
def FoldOrderUptoSaid : Prop := foldOrderUptoRow.holds Try.pinned (OpenSpec.upto foldOrderSpec)

/-- 'antecedentlaw20.FoldEnds', WHERE WHAT IT READS IS OF BULK AT MOST 1048576: true; the input reads as it did. -/
def foldEndsUptoRow : OpenClaim := { program := "ytolefpeiceiocaa", sum := "57c09a89f84bb2dd7559f5903a5d5f45a3e76f0e815afa6d6539462c0b9491ba", func := "antecedent/antecedentlaw20.FoldEnds", spec := "foldEnds", inPlace := ["internal/bytealg.abigen_runtime_cmpstring", "math.Float64bits", "math.Float64frombits", "math/bits.Add64"], unfollowed := true, recurses := true, apart := false, narrowed := true }
def FoldEndsUptoSaid : Prop := foldEndsUptoRow.holds Try.pinned (OpenSpec.upto foldEndsSpec)

/-- 'antecedentlaw20.FoldSmall', WHERE WHAT IT READS IS OF BULK AT MOST 1048576: true; the input reads as it did. -/
def foldSmallUptoRow : OpenClaim := { program := "ytolefpeiceiocaa", sum := "57c09a89f84bb2dd7559f5903a5d5f45a3e76f0e815afa6d6539462c0b9491ba", func := "antecedent/antecedentlaw20.FoldSmall", spec := "foldSmall", inPlace := ["internal/bytealg.abigen_runtime_cmpstring", "math.Float64bits", "math.Float64frombits", "math/bits.Add64"], unfollowed := true, recurses := true, apart := false, narrowed := true }
def FoldSmallUptoSaid : Prop := foldSmallUptoRow.holds Try.pinned (OpenSpec.upto foldSmallSpec)

/-- 'antecedentlaw20.FoldWide', WHERE WHAT IT READS IS OF BULK AT MOST 1048576: true; the input reads as it did. -/
def foldWideUptoRow : OpenClaim := { program := "ytolefpeiceiocaa", sum := "57c09a89f84bb2dd7559f5903a5d5f45a3e76f0e815afa6d6539462c0b9491ba", func := "antecedent/antecedentlaw20.FoldWide", spec := "foldWide", inPlace := ["internal/bytealg.abigen_runtime_cmpstring", "math.Float64bits", "math.Float64frombits", "math/bits.Add64"], unfollowed := true, recurses := true, apart := false, narrowed := true }
def FoldWideUptoSaid : Prop := foldWideUptoRow.holds Try.pinned (OpenSpec.upto foldWideSpec)

/-- 'antecedentlaw20.FoldJoins', WHERE WHAT IT READS IS OF BULK AT MOST 1048576: true; the input reads as it did. -/
def foldJoinsUptoRow : OpenClaim := { program := "ytolefpeiceiocaa", sum := "57c09a89f84bb2dd7559f5903a5d5f45a3e76f0e815afa6d6539462c0b9491ba", func := "antecedent/antecedentlaw20.FoldJoins", spec := "foldJoins", inPlace := ["internal/bytealg.abigen_runtime_cmpstring", "math.Float64bits", "math.Float64frombits", "math/bits.Add64"], unfollowed := true, recurses := true, apart := false, narrowed := true }
def FoldJoinsUptoSaid : Prop := foldJoinsUptoRow.holds Try.pinned (OpenSpec.upto foldJoinsSpec)

end Rows
end Go.Proofs.Ytolefpeiceiocaa
