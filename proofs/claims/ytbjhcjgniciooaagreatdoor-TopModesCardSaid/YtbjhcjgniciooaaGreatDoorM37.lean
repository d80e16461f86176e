/- TopModes: a part of the proof, merged. -/
import Derived.Test.YtbjhcjgniciooaaGreatDoorM33
namespace Go.Proofs.YtbjhcjgniciooaaGreatDoor.E
theorem run1 : outsE (runX (memoH []) 40 memo1.id memo1.st memo1.args) memo1.outs = true := by decide +kernel
end Go.Proofs.YtbjhcjgniciooaaGreatDoor.E
