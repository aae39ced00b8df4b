/- A part of the proof of the claim that the last text of this folder states. -/
import Derived.Test.YtebgbhgehnpahaaGreatDoorL17
namespace Go.Proofs.YtebgbhgehnpahaaGreatDoor
open Go.E
set_option linter.all false
set_option maxRecDepth 100000
theorem Lrj22 : (Rows.topLinesRow.plainKeys == Tryz.prog.plainKeys) = true := by kernel_rfl
theorem Lrj24 : (Tryz.prog.stopsHeard) = true := by kernel_rfl
theorem Lrj25 : (Tryz.prog.mayEnter) = true := by kernel_rfl
theorem Lrj26 : (Rows.topLinesRow.lifted == Tryz.prog.liftsFinal) = true := by kernel_rfl
theorem Lrj27 : (Tryz.prog.make == some Rows.topLinesRow.make) = true := by kernel_rfl
theorem Lrw1 (os : Os) : World.variablesRefB Tryz.prog ((World.doorLaid Tryz.prog 400 os).forCall (fun _ _ => 0) { blocks := #[], args := #[Value.int .i64 0, Value.int .i64 0, Value.int .i64 0] }) = true := by kernel_rfl
theorem Lrw2 (os : Os) : List.take ((begin Tryz.prog (fun _ _ => 0) default).world.heap.size - Tryz.prog.globals.size) (List.drop Tryz.prog.globals.size (((World.doorLaid Tryz.prog 400 os).forCall (fun _ _ => 0) { blocks := #[], args := #[Value.int .i64 0, Value.int .i64 0, Value.int .i64 0] })).heap.toList) = List.drop Tryz.prog.globals.size (begin Tryz.prog (fun _ _ => 0) default).world.heap.toList := by kernel_rfl
end Go.Proofs.YtebgbhgehnpahaaGreatDoor
