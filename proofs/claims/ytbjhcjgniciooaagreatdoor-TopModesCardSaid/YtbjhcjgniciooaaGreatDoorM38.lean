/- TopModes: a part of the proof, merged. -/
import Derived.Test.YtbjhcjgniciooaaGreatDoorM33
namespace Go.Proofs.YtbjhcjgniciooaaGreatDoor.E
theorem run2 : outsE (runX (memoH []) 40 memo2.id memo2.st memo2.args) memo2.outs = true := by decide +kernel
end Go.Proofs.YtbjhcjgniciooaaGreatDoor.E
