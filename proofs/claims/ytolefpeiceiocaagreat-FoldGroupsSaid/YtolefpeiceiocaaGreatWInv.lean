import Derived.Test.YtolefpeiceiocaaGreatWTab
namespace Go.Proofs.YtolefpeiceiocaaGreatW.PrintLast
/-- Number i is listed too. -/
def up (b : Nat → Bool) (i : Nat) : Nat → Bool := fun j => if j = i then true else b j
section
end
end Go.Proofs.YtolefpeiceiocaaGreatW.PrintLast
