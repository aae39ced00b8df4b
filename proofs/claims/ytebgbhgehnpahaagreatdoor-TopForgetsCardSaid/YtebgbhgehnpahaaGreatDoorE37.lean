/- A part of the proof of the claim that the last text of this folder states. -/
import Derived.Test.YtebgbhgehnpahaaGreatDoorE14
namespace Go.Proofs.YtebgbhgehnpahaaGreatDoor
open Go.E
set_option linter.all false
set_option maxRecDepth 100000
theorem Fgk1 : OpenClaim.wfByText (OpenSpec.ofChange Rows.topForgetsSpec) Rows.topForgetsRow = true := by kernel_rfl
end Go.Proofs.YtebgbhgehnpahaaGreatDoor
