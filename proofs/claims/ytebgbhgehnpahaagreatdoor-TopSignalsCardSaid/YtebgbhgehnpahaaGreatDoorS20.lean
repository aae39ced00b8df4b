/- A part of the proof of the claim that the last text of this folder states. -/
import Derived.Test.YtebgbhgehnpahaaGreatDoorS18
namespace Go.Proofs.YtebgbhgehnpahaaGreatDoor
open Go.E
set_option linter.all false
set_option maxRecDepth 100000
theorem Srj22 : (Rows.topSignalsRow.plainKeys == Tryz.prog.plainKeys) = true := by kernel_rfl
theorem Srj24 : (Tryz.prog.stopsHeard) = true := by kernel_rfl
theorem Srj25 : (Tryz.prog.mayEnter) = true := by kernel_rfl
theorem Srj26 : (Rows.topSignalsRow.lifted == Tryz.prog.liftsFinal) = true := by kernel_rfl
theorem Srj27 : (Tryz.prog.make == some Rows.topSignalsRow.make) = true := by kernel_rfl
theorem Srw1 (os : Os) : World.variablesRefB Tryz.prog ((World.doorLaid Tryz.prog 400 os).forCall (fun _ _ => 0) { blocks := #[], args := #[Value.slice Option.none 0 0] }) = true := by kernel_rfl
theorem Srw2 (os : Os) : List.take ((begin Tryz.prog (fun _ _ => 0) default).world.heap.size - Tryz.prog.globals.size) (List.drop Tryz.prog.globals.size (((World.doorLaid Tryz.prog 400 os).forCall (fun _ _ => 0) { blocks := #[], args := #[Value.slice Option.none 0 0] })).heap.toList) = List.drop Tryz.prog.globals.size (begin Tryz.prog (fun _ _ => 0) default).world.heap.toList := by kernel_rfl
end Go.Proofs.YtebgbhgehnpahaaGreatDoor
