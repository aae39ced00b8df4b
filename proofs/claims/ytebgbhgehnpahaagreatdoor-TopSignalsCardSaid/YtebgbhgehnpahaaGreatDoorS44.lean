/- A part of the proof of the claim that the last text of this folder states. -/
import Derived.Test.YtebgbhgehnpahaaGreatDoorS18
namespace Go.Proofs.YtebgbhgehnpahaaGreatDoor
open Go.E
set_option linter.all false
set_option maxRecDepth 100000
theorem Srk2 : Tryz.prog.mainIs = some ((true, Rows.topSignalsCard.stood.harness.snd).fst, (true, Rows.topSignalsCard.stood.harness.snd).snd.toList) := by kernel_rfl
theorem Srk4 : false = Tryz.prog.looks [] := by kernel_rfl
theorem Srk5 : ([22].all fun u => !Tryz.prog.wantsStandIn u) = true := by kernel_rfl
end Go.Proofs.YtebgbhgehnpahaaGreatDoor
