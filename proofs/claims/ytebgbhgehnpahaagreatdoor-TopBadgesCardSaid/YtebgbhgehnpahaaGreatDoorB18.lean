/- A part of the proof of the claim that the last text of this folder states. -/
import Derived.Test.YtebgbhgehnpahaaGreatDoorB17
namespace Go.Proofs.YtebgbhgehnpahaaGreatDoor
open Go.E
set_option linter.all false
set_option maxRecDepth 100000
theorem Brj1 : laidOutB Tryz.prog = true := laid
theorem Brj2 : mapsRowed Tryz.prog = true := rowed
theorem Brj0 : (Rows.topBadgesRow.wf (OpenSpec.ofChange Rows.topBadgesSpec)) = true := by kernel_rfl
theorem Brj3 : (Tryz.f6.params.all (Tryz.prog.readableRec ·)) = true := by kernel_rfl
theorem Brj4 : (namedTie Tryz.prog Rows.topBadgesRow.named Rows.topBadgesSpec.vars) = true := by kernel_rfl
theorem Brj5 : (Rows.topBadgesRow.stops == []) = true := by kernel_rfl
theorem Brj6 : (Tryz.prog.stops == []) = true := by kernel_rfl
theorem Brj7 : (Rows.topBadgesRow.knobs == []) = true := by kernel_rfl
theorem Brj8 : (Tryz.prog.stopKnobs == []) = true := by kernel_rfl
theorem Brj13 : (Rows.topBadgesRow.maps == (Tryz.f6.params.toList ++ Rows.topBadgesSpec.plain.varTypes Tryz.prog).any (Tryz.prog.mapsRec ·)) = true := by kernel_rfl
theorem Brj14 : (Rows.topBadgesRow.ifaces == (Tryz.f6.params.toList ++ Rows.topBadgesSpec.plain.varTypes Tryz.prog).any (Tryz.prog.ifacesRec ·)) = true := by kernel_rfl
theorem Brj15 : (Rows.topBadgesRow.mapsOut == Tryz.prog.mapsAmong Tryz.f6.resultTypes.toList) = true := by kernel_rfl
theorem Brj16 : (Rows.topBadgesRow.loops == (Tryz.f6.params.toList ++ Rows.topBadgesSpec.plain.varTypes Tryz.prog).any (Tryz.prog.loopsFrom ·)) = true := by kernel_rfl
theorem Brj17 : (Rows.topBadgesRow.wideKeys == (Tryz.f6.params.toList ++ Rows.topBadgesSpec.plain.varTypes Tryz.prog ++ Tryz.f6.resultTypes.toList).any (Tryz.prog.wideKeysFrom ·)) = true := by kernel_rfl
theorem Brj18 : (Rows.topBadgesSpec.vars.all (Tryz.prog.varReadable ·)) = true := by kernel_rfl
theorem Brj19 : (Tryz.f6.resultTypes.all (fun t => Tryz.prog.readableRec t && decide (t < Tryz.prog.types.size))) = true := by kernel_rfl
theorem Brj20 : (Rows.topBadgesRow.ifacesOut == Tryz.f6.resultTypes.toList.any (Tryz.prog.ifacesRec ·)) = true := by kernel_rfl
theorem Brj21 : (Rows.topBadgesRow.loopsOut == Tryz.f6.resultTypes.toList.any (Tryz.prog.loopsFrom ·)) = true := by kernel_rfl
theorem Brj23 : (Rows.topBadgesRow.shortTexts.isNone) = true := by kernel_rfl
theorem Brj28 : (Rows.topBadgesRow.kinds == (if Rows.topBadgesRow.domain.isEmpty then [] else Tryz.f6.params.toList.map fun t => match Tryz.prog.underlying t with | some (.int k) => some k | _ => none)) = true := by kernel_rfl
theorem Brj29 : (Rows.topBadgesRow.pinned == Rows.topBadgesRow.pinnedBy) = true := by kernel_rfl
theorem Brj30 : (Rows.topBadgesRow.veiled == (Tryz.f6.params.toList ++ Rows.topBadgesSpec.plain.varTypes Tryz.prog ++ Tryz.f6.resultTypes.toList).any (Tryz.prog.veiledRec ·)) = true := by kernel_rfl
theorem Brj31 : (Rows.topBadgesRow.veiledFits Tryz.prog Tryz.f6.params.toList (Tryz.f6.params.toList ++ Rows.topBadgesSpec.plain.varTypes Tryz.prog ++ Tryz.f6.resultTypes.toList)) = true := by kernel_rfl
theorem Brw3 (os : Os) : Input.okWideB Tryz.prog ((World.doorLaid Tryz.prog 400 os).forCall (fun _ _ => 0) { blocks := #[], args := #[Value.int .i64 0, Value.int .i64 0] }) 6 { blocks := #[], args := #[Value.int .i64 0, Value.int .i64 0] } = true := by kernel_rfl
theorem Brw4 (os : Os) {H : Type} (enc : TypeId × Value → H) : ChangeSpec.preB enc Tryz.prog Tryz.f6 Rows.topBadgesSpec Rows.topBadgesRow.domain Rows.topBadgesRow.apart (((World.doorLaid Tryz.prog 400 os).forCall (fun _ _ => 0) { blocks := #[], args := #[Value.int .i64 0, Value.int .i64 0] })).memory #[Value.int .i64 0, Value.int .i64 0] 8 = true := by kernel_rfl
theorem Brw5 (os : Os) {H : Type} (enc : TypeId × Value → H) : ChangeSpec.sizedB enc Tryz.prog Tryz.f6 Rows.topBadgesSpec Rows.topBadgesRow.apart (((World.doorLaid Tryz.prog 400 os).forCall (fun _ _ => 0) { blocks := #[], args := #[Value.int .i64 0, Value.int .i64 0] })).memory #[Value.int .i64 0, Value.int .i64 0] 8 = true := by kernel_rfl
theorem Brr1 : Tryz.prog.funcNamed Rows.topBadgesRow.func = some 6 := by kernel_rfl
theorem Brr3 : decide (Func.isInstance Tryz.prog Tryz.f6 Rows.topBadgesRow.origin Rows.topBadgesRow.targs) = true := by kernel_rfl
theorem Brr4 : Func.isWrapper Tryz.prog Tryz.f6 Rows.topBadgesRow.wrapper Rows.topBadgesRow.mainSum := by unfold Func.isWrapper; first | (rw [if_pos (by decide +kernel)]; kernel_rfl) | (rw [if_neg (by decide +kernel)]; exact ⟨rfl, rfl⟩)
theorem topBadges_row : RowOkI Tryz.prog 6 Tryz.f6 Rows.topBadgesSpec [.i64, .i64] Rows.topBadgesRow.laid where
  own := own
  noInit := by kernel_rfl
  isf := Tryz.func6
  laid := laid
  rowed := rowed
  full := full
  params := by kernel_rfl
  vars := rfl
  ret := ⟨_, rfl, by kernel_rfl⟩
  spec := fun H ds e => by
    match ds, e with
    | [_, _], _ => rfl
  tys := by kernel_rfl
end Go.Proofs.YtebgbhgehnpahaaGreatDoor
