/- A part of the proof of the claim that the last text of this folder states. -/
import Derived.Test.YtebgbhgehnpahaaGreatDoorL17
namespace Go.Proofs.YtebgbhgehnpahaaGreatDoor
open Go.E
set_option linter.all false
set_option maxRecDepth 100000
theorem Lrk1 : OpenClaim.wfByText (OpenSpec.ofChange Rows.topLinesSpec) Rows.topLinesRow = true := by kernel_rfl
end Go.Proofs.YtebgbhgehnpahaaGreatDoor
