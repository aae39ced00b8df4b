/- A part of the proof of the claim that the last text of this folder states. -/
import Derived.Test.YtebgbhgehnpahaaGreatDoorV16
namespace Go.Proofs.YtebgbhgehnpahaaGreatDoor
open Go.E
set_option linter.all false
set_option maxRecDepth 100000
theorem Vrj1 : laidOutB Tryz.prog = true := laid
theorem Vrj2 : mapsRowed Tryz.prog = true := rowed
theorem Vrj0 : (Rows.topRevokedRow.wf (OpenSpec.ofChange Rows.topRevokedSpec)) = true := by kernel_rfl
theorem Vrj3 : (Tryz.f7.params.all (Tryz.prog.readableRec ·)) = true := by kernel_rfl
theorem Vrj4 : (namedTie Tryz.prog Rows.topRevokedRow.named Rows.topRevokedSpec.vars) = true := by kernel_rfl
theorem Vrj5 : (Rows.topRevokedRow.stops == []) = true := by kernel_rfl
theorem Vrj6 : (Tryz.prog.stops == []) = true := by kernel_rfl
theorem Vrj7 : (Rows.topRevokedRow.knobs == []) = true := by kernel_rfl
theorem Vrj8 : (Tryz.prog.stopKnobs == []) = true := by kernel_rfl
theorem Vrj13 : (Rows.topRevokedRow.maps == (Tryz.f7.params.toList ++ Rows.topRevokedSpec.plain.varTypes Tryz.prog).any (Tryz.prog.mapsRec ·)) = true := by kernel_rfl
theorem Vrj14 : (Rows.topRevokedRow.ifaces == (Tryz.f7.params.toList ++ Rows.topRevokedSpec.plain.varTypes Tryz.prog).any (Tryz.prog.ifacesRec ·)) = true := by kernel_rfl
theorem Vrj15 : (Rows.topRevokedRow.mapsOut == Tryz.prog.mapsAmong Tryz.f7.resultTypes.toList) = true := by kernel_rfl
theorem Vrj16 : (Rows.topRevokedRow.loops == (Tryz.f7.params.toList ++ Rows.topRevokedSpec.plain.varTypes Tryz.prog).any (Tryz.prog.loopsFrom ·)) = true := by kernel_rfl
theorem Vrj17 : (Rows.topRevokedRow.wideKeys == (Tryz.f7.params.toList ++ Rows.topRevokedSpec.plain.varTypes Tryz.prog ++ Tryz.f7.resultTypes.toList).any (Tryz.prog.wideKeysFrom ·)) = true := by kernel_rfl
theorem Vrj18 : (Rows.topRevokedSpec.vars.all (Tryz.prog.varReadable ·)) = true := by kernel_rfl
theorem Vrj19 : (Tryz.f7.resultTypes.all (fun t => Tryz.prog.readableRec t && decide (t < Tryz.prog.types.size))) = true := by kernel_rfl
theorem Vrj20 : (Rows.topRevokedRow.ifacesOut == Tryz.f7.resultTypes.toList.any (Tryz.prog.ifacesRec ·)) = true := by kernel_rfl
theorem Vrj21 : (Rows.topRevokedRow.loopsOut == Tryz.f7.resultTypes.toList.any (Tryz.prog.loopsFrom ·)) = true := by kernel_rfl
theorem Vrj23 : (Rows.topRevokedRow.shortTexts.isNone) = true := by kernel_rfl
theorem Vrj28 : (Rows.topRevokedRow.kinds == (if Rows.topRevokedRow.domain.isEmpty then [] else Tryz.f7.params.toList.map fun t => match Tryz.prog.underlying t with | some (.int k) => some k | _ => none)) = true := by kernel_rfl
theorem Vrj29 : (Rows.topRevokedRow.pinned == Rows.topRevokedRow.pinnedBy) = true := by kernel_rfl
theorem Vrj30 : (Rows.topRevokedRow.veiled == (Tryz.f7.params.toList ++ Rows.topRevokedSpec.plain.varTypes Tryz.prog ++ Tryz.f7.resultTypes.toList).any (Tryz.prog.veiledRec ·)) = true := by kernel_rfl
theorem Vrj31 : (Rows.topRevokedRow.veiledFits Tryz.prog Tryz.f7.params.toList (Tryz.f7.params.toList ++ Rows.topRevokedSpec.plain.varTypes Tryz.prog ++ Tryz.f7.resultTypes.toList)) = true := by kernel_rfl
theorem Vrw3 (os : Os) : Input.okWideB Tryz.prog ((World.doorLaid Tryz.prog 400 os).forCall (fun _ _ => 0) { blocks := #[], args := #[Value.int .i64 0] }) 7 { blocks := #[], args := #[Value.int .i64 0] } = true := by kernel_rfl
theorem Vrw4 (os : Os) {H : Type} (enc : TypeId × Value → H) : ChangeSpec.preB enc Tryz.prog Tryz.f7 Rows.topRevokedSpec Rows.topRevokedRow.domain Rows.topRevokedRow.apart (((World.doorLaid Tryz.prog 400 os).forCall (fun _ _ => 0) { blocks := #[], args := #[Value.int .i64 0] })).memory #[Value.int .i64 0] 8 = true := by kernel_rfl
theorem Vrw5 (os : Os) {H : Type} (enc : TypeId × Value → H) : ChangeSpec.sizedB enc Tryz.prog Tryz.f7 Rows.topRevokedSpec Rows.topRevokedRow.apart (((World.doorLaid Tryz.prog 400 os).forCall (fun _ _ => 0) { blocks := #[], args := #[Value.int .i64 0] })).memory #[Value.int .i64 0] 8 = true := by kernel_rfl
theorem Vrr1 : Tryz.prog.funcNamed Rows.topRevokedRow.func = some 7 := by kernel_rfl
theorem Vrr3 : decide (Func.isInstance Tryz.prog Tryz.f7 Rows.topRevokedRow.origin Rows.topRevokedRow.targs) = true := by kernel_rfl
theorem Vrr4 : Func.isWrapper Tryz.prog Tryz.f7 Rows.topRevokedRow.wrapper Rows.topRevokedRow.mainSum := by unfold Func.isWrapper; first | (rw [if_pos (by decide +kernel)]; kernel_rfl) | (rw [if_neg (by decide +kernel)]; exact ⟨rfl, rfl⟩)
theorem topRevoked_row : RowOkI Tryz.prog 7 Tryz.f7 Rows.topRevokedSpec [.i64] Rows.topRevokedRow.laid where
  own := own
  noInit := by kernel_rfl
  isf := Tryz.func7
  laid := laid
  rowed := rowed
  full := full
  params := by kernel_rfl
  vars := rfl
  ret := ⟨_, rfl, by kernel_rfl⟩
  spec := fun H ds e => by
    match ds, e with
    | [_], _ => rfl
  tys := by kernel_rfl
end Go.Proofs.YtebgbhgehnpahaaGreatDoor
