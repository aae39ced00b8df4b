/- A part of the proof of the claim that the last text of this folder states. -/
import Derived.Test.YtebgbhgehnpahaaGreatDoorL17
namespace Go.Proofs.YtebgbhgehnpahaaGreatDoor
open Go.E
set_option linter.all false
set_option maxRecDepth 100000
theorem Lrj1 : laidOutB Tryz.prog = true := laid
theorem Lrj2 : mapsRowed Tryz.prog = true := rowed
theorem Lrj0 : (Rows.topLinesRow.wf (OpenSpec.ofChange Rows.topLinesSpec)) = true := by kernel_rfl
theorem Lrj3 : (Tryz.f9.params.all (Tryz.prog.readableRec ·)) = true := by kernel_rfl
theorem Lrj4 : (namedTie Tryz.prog Rows.topLinesRow.named Rows.topLinesSpec.vars) = true := by kernel_rfl
theorem Lrj5 : (Rows.topLinesRow.stops == []) = true := by kernel_rfl
theorem Lrj6 : (Tryz.prog.stops == []) = true := by kernel_rfl
theorem Lrj7 : (Rows.topLinesRow.knobs == []) = true := by kernel_rfl
theorem Lrj8 : (Tryz.prog.stopKnobs == []) = true := by kernel_rfl
theorem Lrj13 : (Rows.topLinesRow.maps == (Tryz.f9.params.toList ++ Rows.topLinesSpec.plain.varTypes Tryz.prog).any (Tryz.prog.mapsRec ·)) = true := by kernel_rfl
theorem Lrj14 : (Rows.topLinesRow.ifaces == (Tryz.f9.params.toList ++ Rows.topLinesSpec.plain.varTypes Tryz.prog).any (Tryz.prog.ifacesRec ·)) = true := by kernel_rfl
theorem Lrj15 : (Rows.topLinesRow.mapsOut == Tryz.prog.mapsAmong Tryz.f9.resultTypes.toList) = true := by kernel_rfl
theorem Lrj16 : (Rows.topLinesRow.loops == (Tryz.f9.params.toList ++ Rows.topLinesSpec.plain.varTypes Tryz.prog).any (Tryz.prog.loopsFrom ·)) = true := by kernel_rfl
theorem Lrj17 : (Rows.topLinesRow.wideKeys == (Tryz.f9.params.toList ++ Rows.topLinesSpec.plain.varTypes Tryz.prog ++ Tryz.f9.resultTypes.toList).any (Tryz.prog.wideKeysFrom ·)) = true := by kernel_rfl
theorem Lrj18 : (Rows.topLinesSpec.vars.all (Tryz.prog.varReadable ·)) = true := by kernel_rfl
theorem Lrj19 : (Tryz.f9.resultTypes.all (fun t => Tryz.prog.readableRec t && decide (t < Tryz.prog.types.size))) = true := by kernel_rfl
theorem Lrj20 : (Rows.topLinesRow.ifacesOut == Tryz.f9.resultTypes.toList.any (Tryz.prog.ifacesRec ·)) = true := by kernel_rfl
theorem Lrj21 : (Rows.topLinesRow.loopsOut == Tryz.f9.resultTypes.toList.any (Tryz.prog.loopsFrom ·)) = true := by kernel_rfl
theorem Lrj23 : (Rows.topLinesRow.shortTexts.isNone) = true := by kernel_rfl
theorem Lrj28 : (Rows.topLinesRow.kinds == (if Rows.topLinesRow.domain.isEmpty then [] else Tryz.f9.params.toList.map fun t => match Tryz.prog.underlying t with | some (.int k) => some k | _ => none)) = true := by kernel_rfl
theorem Lrj29 : (Rows.topLinesRow.pinned == Rows.topLinesRow.pinnedBy) = true := by kernel_rfl
theorem Lrj30 : (Rows.topLinesRow.veiled == (Tryz.f9.params.toList ++ Rows.topLinesSpec.plain.varTypes Tryz.prog ++ Tryz.f9.resultTypes.toList).any (Tryz.prog.veiledRec ·)) = true := by kernel_rfl
theorem Lrj31 : (Rows.topLinesRow.veiledFits Tryz.prog Tryz.f9.params.toList (Tryz.f9.params.toList ++ Rows.topLinesSpec.plain.varTypes Tryz.prog ++ Tryz.f9.resultTypes.toList)) = true := by kernel_rfl
theorem Lrw3 (os : Os) : Input.okWideB Tryz.prog ((World.doorLaid Tryz.prog 400 os).forCall (fun _ _ => 0) { blocks := #[], args := #[Value.int .i64 0, Value.int .i64 0, Value.int .i64 0] }) 9 { blocks := #[], args := #[Value.int .i64 0, Value.int .i64 0, Value.int .i64 0] } = true := by kernel_rfl
theorem Lrw4 (os : Os) {H : Type} (enc : TypeId × Value → H) : ChangeSpec.preB enc Tryz.prog Tryz.f9 Rows.topLinesSpec Rows.topLinesRow.domain Rows.topLinesRow.apart (((World.doorLaid Tryz.prog 400 os).forCall (fun _ _ => 0) { blocks := #[], args := #[Value.int .i64 0, Value.int .i64 0, Value.int .i64 0] })).memory #[Value.int .i64 0, Value.int .i64 0, Value.int .i64 0] 8 = true := by kernel_rfl
theorem Lrw5 (os : Os) {H : Type} (enc : TypeId × Value → H) : ChangeSpec.sizedB enc Tryz.prog Tryz.f9 Rows.topLinesSpec Rows.topLinesRow.apart (((World.doorLaid Tryz.prog 400 os).forCall (fun _ _ => 0) { blocks := #[], args := #[Value.int .i64 0, Value.int .i64 0, Value.int .i64 0] })).memory #[Value.int .i64 0, Value.int .i64 0, Value.int .i64 0] 8 = true := by kernel_rfl
theorem Lrr1 : Tryz.prog.funcNamed Rows.topLinesRow.func = some 9 := by kernel_rfl
theorem Lrr3 : decide (Func.isInstance Tryz.prog Tryz.f9 Rows.topLinesRow.origin Rows.topLinesRow.targs) = true := by kernel_rfl
theorem Lrr4 : Func.isWrapper Tryz.prog Tryz.f9 Rows.topLinesRow.wrapper Rows.topLinesRow.mainSum := by unfold Func.isWrapper; first | (rw [if_pos (by decide +kernel)]; kernel_rfl) | (rw [if_neg (by decide +kernel)]; exact ⟨rfl, rfl⟩)
theorem topLines_row : RowOkI Tryz.prog 9 Tryz.f9 Rows.topLinesSpec [.i64, .i64, .i64] Rows.topLinesRow.laid where
  own := own
  noInit := by kernel_rfl
  isf := Tryz.func9
  laid := laid
  rowed := rowed
  full := full
  params := by kernel_rfl
  vars := rfl
  ret := ⟨_, rfl, by kernel_rfl⟩
  spec := fun H ds e => by
    match ds, e with
    | [_, _, _], _ => rfl
  tys := by kernel_rfl
end Go.Proofs.YtebgbhgehnpahaaGreatDoor
