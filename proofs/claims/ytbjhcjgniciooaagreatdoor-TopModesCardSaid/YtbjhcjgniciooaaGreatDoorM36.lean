/- TopModes: a part of the proof, merged. -/
import Derived.Test.YtbjhcjgniciooaaGreatDoorM33
namespace Go.Proofs.YtbjhcjgniciooaaGreatDoor.E
theorem run0 : outsE (runX (memoH []) 40 memo0.id memo0.st memo0.args) memo0.outs = true := by decide +kernel
end Go.Proofs.YtbjhcjgniciooaaGreatDoor.E
