/- A part of the proof of the claim that the last text of this folder states. -/
import Derived.Test.YtebgbhgehnpahaaGreatDoorB17
namespace Go.Proofs.YtebgbhgehnpahaaGreatDoor
open Go.E
set_option linter.all false
set_option maxRecDepth 100000
theorem Brk1 : OpenClaim.wfByText (OpenSpec.ofChange Rows.topBadgesSpec) Rows.topBadgesRow = true := by kernel_rfl
end Go.Proofs.YtebgbhgehnpahaaGreatDoor
