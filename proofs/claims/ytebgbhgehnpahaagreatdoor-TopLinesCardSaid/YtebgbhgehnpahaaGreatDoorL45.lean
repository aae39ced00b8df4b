/- A part of the proof of the claim that the last text of this folder states. -/
import Derived.Test.YtebgbhgehnpahaaGreatDoorL17
namespace Go.Proofs.YtebgbhgehnpahaaGreatDoor
open Go.E
set_option linter.all false
set_option maxRecDepth 100000
theorem Lrk2 : Tryz.prog.mainIs = some ((true, Rows.topLinesCard.stood.harness.snd).fst, (true, Rows.topLinesCard.stood.harness.snd).snd.toList) := by kernel_rfl
theorem Lrk4 : false = Tryz.prog.looks [] := by kernel_rfl
theorem Lrk5 : ([3, 3, 3].all fun u => !Tryz.prog.wantsStandIn u) = true := by kernel_rfl
end Go.Proofs.YtebgbhgehnpahaaGreatDoor
