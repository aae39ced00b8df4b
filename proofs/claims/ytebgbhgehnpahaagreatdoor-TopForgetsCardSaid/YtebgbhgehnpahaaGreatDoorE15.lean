/- A part of the proof of the claim that the last text of this folder states. -/
import Derived.Test.YtebgbhgehnpahaaGreatDoorE14
namespace Go.Proofs.YtebgbhgehnpahaaGreatDoor
open Go.E
set_option linter.all false
set_option maxRecDepth 100000
theorem Fgj1 : laidOutB Tryz.prog = true := laid
theorem Fgj2 : mapsRowed Tryz.prog = true := rowed
theorem Fgj0 : (Rows.topForgetsRow.wf (OpenSpec.ofChange Rows.topForgetsSpec)) = true := by kernel_rfl
theorem Fgj3 : (Tryz.f10.params.all (Tryz.prog.readableRec ·)) = true := by kernel_rfl
theorem Fgj4 : (namedTie Tryz.prog Rows.topForgetsRow.named Rows.topForgetsSpec.vars) = true := by kernel_rfl
theorem Fgj5 : (Rows.topForgetsRow.stops == []) = true := by kernel_rfl
theorem Fgj6 : (Tryz.prog.stops == []) = true := by kernel_rfl
theorem Fgj7 : (Rows.topForgetsRow.knobs == []) = true := by kernel_rfl
theorem Fgj8 : (Tryz.prog.stopKnobs == []) = true := by kernel_rfl
theorem Fgj13 : (Rows.topForgetsRow.maps == (Tryz.f10.params.toList ++ Rows.topForgetsSpec.plain.varTypes Tryz.prog).any (Tryz.prog.mapsRec ·)) = true := by kernel_rfl
theorem Fgj14 : (Rows.topForgetsRow.ifaces == (Tryz.f10.params.toList ++ Rows.topForgetsSpec.plain.varTypes Tryz.prog).any (Tryz.prog.ifacesRec ·)) = true := by kernel_rfl
theorem Fgj15 : (Rows.topForgetsRow.mapsOut == Tryz.prog.mapsAmong Tryz.f10.resultTypes.toList) = true := by kernel_rfl
theorem Fgj16 : (Rows.topForgetsRow.loops == (Tryz.f10.params.toList ++ Rows.topForgetsSpec.plain.varTypes Tryz.prog).any (Tryz.prog.loopsFrom ·)) = true := by kernel_rfl
theorem Fgj17 : (Rows.topForgetsRow.wideKeys == (Tryz.f10.params.toList ++ Rows.topForgetsSpec.plain.varTypes Tryz.prog ++ Tryz.f10.resultTypes.toList).any (Tryz.prog.wideKeysFrom ·)) = true := by kernel_rfl
theorem Fgj18 : (Rows.topForgetsSpec.vars.all (Tryz.prog.varReadable ·)) = true := by kernel_rfl
theorem Fgj19 : (Tryz.f10.resultTypes.all (fun t => Tryz.prog.readableRec t && decide (t < Tryz.prog.types.size))) = true := by kernel_rfl
theorem Fgj20 : (Rows.topForgetsRow.ifacesOut == Tryz.f10.resultTypes.toList.any (Tryz.prog.ifacesRec ·)) = true := by kernel_rfl
theorem Fgj21 : (Rows.topForgetsRow.loopsOut == Tryz.f10.resultTypes.toList.any (Tryz.prog.loopsFrom ·)) = true := by kernel_rfl
theorem Fgj23 : (Rows.topForgetsRow.shortTexts.isNone) = true := by kernel_rfl
theorem Fgj28 : (Rows.topForgetsRow.kinds == (if Rows.topForgetsRow.domain.isEmpty then [] else Tryz.f10.params.toList.map fun t => match Tryz.prog.underlying t with | some (.int k) => some k | _ => none)) = true := by kernel_rfl
theorem Fgj29 : (Rows.topForgetsRow.pinned == Rows.topForgetsRow.pinnedBy) = true := by kernel_rfl
theorem Fgj30 : (Rows.topForgetsRow.veiled == (Tryz.f10.params.toList ++ Rows.topForgetsSpec.plain.varTypes Tryz.prog ++ Tryz.f10.resultTypes.toList).any (Tryz.prog.veiledRec ·)) = true := by kernel_rfl
theorem Fgj31 : (Rows.topForgetsRow.veiledFits Tryz.prog Tryz.f10.params.toList (Tryz.f10.params.toList ++ Rows.topForgetsSpec.plain.varTypes Tryz.prog ++ Tryz.f10.resultTypes.toList)) = true := by kernel_rfl
theorem Fgw3 (os : Os) : Input.okWideB Tryz.prog ((World.doorLaid Tryz.prog 400 os).forCall (fun _ _ => 0) { blocks := #[], args := #[Value.int .u64 0, Value.int .i64 0] }) 10 { blocks := #[], args := #[Value.int .u64 0, Value.int .i64 0] } = true := by kernel_rfl
theorem Fgw4 (os : Os) {H : Type} (enc : TypeId × Value → H) : ChangeSpec.preB enc Tryz.prog Tryz.f10 Rows.topForgetsSpec Rows.topForgetsRow.domain Rows.topForgetsRow.apart (((World.doorLaid Tryz.prog 400 os).forCall (fun _ _ => 0) { blocks := #[], args := #[Value.int .u64 0, Value.int .i64 0] })).memory #[Value.int .u64 0, Value.int .i64 0] 8 = true := by kernel_rfl
theorem Fgw5 (os : Os) {H : Type} (enc : TypeId × Value → H) : ChangeSpec.sizedB enc Tryz.prog Tryz.f10 Rows.topForgetsSpec Rows.topForgetsRow.apart (((World.doorLaid Tryz.prog 400 os).forCall (fun _ _ => 0) { blocks := #[], args := #[Value.int .u64 0, Value.int .i64 0] })).memory #[Value.int .u64 0, Value.int .i64 0] 8 = true := by kernel_rfl
theorem Fgr1 : Tryz.prog.funcNamed Rows.topForgetsRow.func = some 10 := by kernel_rfl
theorem Fgr3 : decide (Func.isInstance Tryz.prog Tryz.f10 Rows.topForgetsRow.origin Rows.topForgetsRow.targs) = true := by kernel_rfl
theorem Fgr4 : Func.isWrapper Tryz.prog Tryz.f10 Rows.topForgetsRow.wrapper Rows.topForgetsRow.mainSum := by unfold Func.isWrapper; first | (rw [if_pos (by decide +kernel)]; kernel_rfl) | (rw [if_neg (by decide +kernel)]; exact ⟨rfl, rfl⟩)
theorem topForgets_row : RowOkI Tryz.prog 10 Tryz.f10 Rows.topForgetsSpec [.u64, .i64] Rows.topForgetsRow.laid where
  own := own
  noInit := by kernel_rfl
  isf := Tryz.func10
  laid := laid
  rowed := rowed
  full := full
  params := by kernel_rfl
  vars := rfl
  ret := ⟨_, rfl, by kernel_rfl⟩
  spec := fun H ds e => by
    match ds, e with
    | [_, _], _ => rfl
  tys := by kernel_rfl
end Go.Proofs.YtebgbhgehnpahaaGreatDoor
