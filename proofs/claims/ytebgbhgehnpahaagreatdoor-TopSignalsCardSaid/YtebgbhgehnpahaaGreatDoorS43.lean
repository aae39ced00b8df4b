/- A part of the proof of the claim that the last text of this folder states. -/
import Derived.Test.YtebgbhgehnpahaaGreatDoorS18
namespace Go.Proofs.YtebgbhgehnpahaaGreatDoor
open Go.E
set_option linter.all false
set_option maxRecDepth 100000
theorem Srk1 : OpenClaim.wfByText (OpenSpec.ofChange Rows.topSignalsSpec) Rows.topSignalsRow = true := by kernel_rfl
end Go.Proofs.YtebgbhgehnpahaaGreatDoor
