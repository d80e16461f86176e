/- TopModes: a part of the proof, merged. -/
import Derived.Test.YtbjhcjgniciooaaGreatDoorM33
namespace Go.Proofs.YtbjhcjgniciooaaGreatDoor.E
theorem run3 : outsE (runX (memoH []) 40 memo3.id memo3.st memo3.args) memo3.outs = true := by decide +kernel
end Go.Proofs.YtbjhcjgniciooaaGreatDoor.E
