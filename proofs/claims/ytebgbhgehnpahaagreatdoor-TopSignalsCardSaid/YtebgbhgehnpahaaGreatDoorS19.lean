/- A part of the proof of the claim that the last text of this folder states. -/
import Derived.Test.YtebgbhgehnpahaaGreatDoorS18
namespace Go.Proofs.YtebgbhgehnpahaaGreatDoor
open Go.E
set_option linter.all false
set_option maxRecDepth 100000
theorem Srj1 : laidOutB Tryz.prog = true := laid
theorem Srj2 : mapsRowed Tryz.prog = true := rowed
theorem Srj0 : (Rows.topSignalsRow.wf (OpenSpec.ofChange Rows.topSignalsSpec)) = true := by kernel_rfl
theorem Srj3 : (Tryz.f3.params.all (Tryz.prog.readableRec ·)) = true := by kernel_rfl
theorem Srj4 : (namedTie Tryz.prog Rows.topSignalsRow.named Rows.topSignalsSpec.vars) = true := by kernel_rfl
theorem Srj5 : (Rows.topSignalsRow.stops == []) = true := by kernel_rfl
theorem Srj6 : (Tryz.prog.stops == []) = true := by kernel_rfl
theorem Srj7 : (Rows.topSignalsRow.knobs == []) = true := by kernel_rfl
theorem Srj8 : (Tryz.prog.stopKnobs == []) = true := by kernel_rfl
theorem Srj13 : (Rows.topSignalsRow.maps == (Tryz.f3.params.toList ++ Rows.topSignalsSpec.plain.varTypes Tryz.prog).any (Tryz.prog.mapsRec ·)) = true := by kernel_rfl
theorem Srj14 : (Rows.topSignalsRow.ifaces == (Tryz.f3.params.toList ++ Rows.topSignalsSpec.plain.varTypes Tryz.prog).any (Tryz.prog.ifacesRec ·)) = true := by kernel_rfl
theorem Srj15 : (Rows.topSignalsRow.mapsOut == Tryz.prog.mapsAmong Tryz.f3.resultTypes.toList) = true := by kernel_rfl
theorem Srj16 : (Rows.topSignalsRow.loops == (Tryz.f3.params.toList ++ Rows.topSignalsSpec.plain.varTypes Tryz.prog).any (Tryz.prog.loopsFrom ·)) = true := by kernel_rfl
theorem Srj17 : (Rows.topSignalsRow.wideKeys == (Tryz.f3.params.toList ++ Rows.topSignalsSpec.plain.varTypes Tryz.prog ++ Tryz.f3.resultTypes.toList).any (Tryz.prog.wideKeysFrom ·)) = true := by kernel_rfl
theorem Srj18 : (Rows.topSignalsSpec.vars.all (Tryz.prog.varReadable ·)) = true := by kernel_rfl
theorem Srj19 : (Tryz.f3.resultTypes.all (fun t => Tryz.prog.readableRec t && decide (t < Tryz.prog.types.size))) = true := by kernel_rfl
theorem Srj20 : (Rows.topSignalsRow.ifacesOut == Tryz.f3.resultTypes.toList.any (Tryz.prog.ifacesRec ·)) = true := by kernel_rfl
theorem Srj21 : (Rows.topSignalsRow.loopsOut == Tryz.f3.resultTypes.toList.any (Tryz.prog.loopsFrom ·)) = true := by kernel_rfl
theorem Srj23 : (Rows.topSignalsRow.shortTexts.isNone) = true := by kernel_rfl
theorem Srj28 : (Rows.topSignalsRow.kinds == (if Rows.topSignalsRow.domain.isEmpty then [] else Tryz.f3.params.toList.map fun t => match Tryz.prog.underlying t with | some (.int k) => some k | _ => none)) = true := by kernel_rfl
theorem Srj29 : (Rows.topSignalsRow.pinned == Rows.topSignalsRow.pinnedBy) = true := by kernel_rfl
theorem Srj30 : (Rows.topSignalsRow.veiled == (Tryz.f3.params.toList ++ Rows.topSignalsSpec.plain.varTypes Tryz.prog ++ Tryz.f3.resultTypes.toList).any (Tryz.prog.veiledRec ·)) = true := by kernel_rfl
theorem Srj31 : (Rows.topSignalsRow.veiledFits Tryz.prog Tryz.f3.params.toList (Tryz.f3.params.toList ++ Rows.topSignalsSpec.plain.varTypes Tryz.prog ++ Tryz.f3.resultTypes.toList)) = true := by kernel_rfl
theorem Srw3 (os : Os) : Input.okWideB Tryz.prog ((World.doorLaid Tryz.prog 400 os).forCall (fun _ _ => 0) { blocks := #[], args := #[Value.slice Option.none 0 0] }) 3 { blocks := #[], args := #[Value.slice Option.none 0 0] } = true := by kernel_rfl
theorem Srw4 (os : Os) {H : Type} (enc : TypeId × Value → H) : ChangeSpec.preB enc Tryz.prog Tryz.f3 Rows.topSignalsSpec Rows.topSignalsRow.domain Rows.topSignalsRow.apart (((World.doorLaid Tryz.prog 400 os).forCall (fun _ _ => 0) { blocks := #[], args := #[Value.slice Option.none 0 0] })).memory #[Value.slice Option.none 0 0] 8 = true := by kernel_rfl
theorem Srw5 (os : Os) {H : Type} (enc : TypeId × Value → H) : ChangeSpec.sizedB enc Tryz.prog Tryz.f3 Rows.topSignalsSpec Rows.topSignalsRow.apart (((World.doorLaid Tryz.prog 400 os).forCall (fun _ _ => 0) { blocks := #[], args := #[Value.slice Option.none 0 0] })).memory #[Value.slice Option.none 0 0] 8 = true := by kernel_rfl
theorem Srr1 : Tryz.prog.funcNamed Rows.topSignalsRow.func = some 3 := by kernel_rfl
theorem Srr3 : decide (Func.isInstance Tryz.prog Tryz.f3 Rows.topSignalsRow.origin Rows.topSignalsRow.targs) = true := by kernel_rfl
theorem Srr4 : Func.isWrapper Tryz.prog Tryz.f3 Rows.topSignalsRow.wrapper Rows.topSignalsRow.mainSum := by unfold Func.isWrapper; first | (rw [if_pos (by decide +kernel)]; kernel_rfl) | (rw [if_neg (by decide +kernel)]; exact ⟨rfl, rfl⟩)
theorem topSignals_row : RowOkB Tryz.prog 3 Tryz.f3 Rows.topSignalsSpec Rows.topSignalsRow.laid where
  own := own
  noInit := by kernel_rfl
  isf := Tryz.func3
  laid := laid
  rowed := rowed
  full := full
  params := by kernel_rfl
  vars := rfl
  ret := ⟨_, rfl, by kernel_rfl⟩
  spec := fun H ds e => by
    match ds, e with
    | [_], _ => rfl
  tys := ⟨22, 4, by kernel_rfl, by kernel_rfl, by kernel_rfl, by kernel_rfl⟩
end Go.Proofs.YtebgbhgehnpahaaGreatDoor
