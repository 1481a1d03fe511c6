/-
  What the proofs of the origin's laws lean on.
-/
import Derived.Test.YtnnpoodcdibpiaaGreatDoorB43
namespace Go.Proofs.YtnnpoodcdibpiaaGreatDoor
set_option maxRecDepth 100000
set_option maxHeartbeats 8000000
theorem orBase:True:=trivial
end Go.Proofs.YtnnpoodcdibpiaaGreatDoor
