/- A part of the proof of the claim that the last text of this folder states. -/
import Derived.Test.YtebgbhgehnpahaaGreatDoorRows
import Derived.Test.YtebgbhgehnpahaaGreatDoorTie
import Derived.Test.YtebgbhgehnpahaaGreatDoorCards
import Derived.SevenTiedAt
import Derived.Test.YtebgbhgehnpahaaGreatDoorN10
namespace Go.Proofs.YtebgbhgehnpahaaGreatDoor
open Go.E
set_option linter.all false
set_option maxRecDepth 100000
theorem own : ownKnob Tryz.prog.godebug = Option.none := by kernel_rfl
theorem laid : laidOutB Tryz.prog = true := by kernel_rfl
theorem rowed : mapsRowed Tryz.prog = true := by kernel_rfl
theorem full : slicesFull Tryz.prog = true := by kernel_rfl
theorem mixed : Tryz.prog.follows .mixedOrders = true := by kernel_rfl
def tabZ : List Int := [0,1,28,2,29,14,24,3,30,22,20,15,25,17,4,8,31,27,13,23,21,19,16,7,26,12,18,6,11,5,10,9]
theorem tab_named : Tryz.prog.globalNamed "math/bits.deBruijn32tab" = some 0 := by kernel_rfl
theorem tabs_met : ∀ W : World, laidMetH Tryz.prog Rows.topTurnsRow.laid W → ∀ (i : Nat) (n : Int), tabZ[i]? = some n → W.cell? ⟨0, i, Option.none⟩ = some (.int .u8 n) := fun W hW i n hn => by
  have h1 := Lib.tabIs_of_head (zs := tabZ) (k := .u8) (n := 32) (t := 283) (e := 5) tab_named (by kernel_rfl) (by kernel_rfl) (by kernel_rfl) (by kernel_rfl) (by kernel_rfl) hW
  have h2 := h1.cell tab_named i (List.getElem?_eq_some_iff.1 hn).1
  rw [h2, List.getD, hn]; rfl
theorem door_met (os : Os) (args : Array Value) : laidMetH Tryz.prog Rows.topTurnsRow.laid ((World.doorLaid Tryz.prog 400 os).forCall (fun _ _ => 0) ⟨#[], args, []⟩).memory :=
  laidMet_of_run' 8 (by kernel_rfl) (by kernel_rfl)
end Go.Proofs.YtebgbhgehnpahaaGreatDoor
namespace Go.Proofs.YtebgbhgehnpahaaGreatDoor
open Go.E
set_option linter.all false
set_option maxRecDepth 100000
theorem Nrj1 : laidOutB Tryz.prog = true := laid
theorem Nrj2 : mapsRowed Tryz.prog = true := rowed
theorem Nrj0 : (Rows.topTurnsRow.wf (OpenSpec.ofChange Rows.topTurnsSpec)) = true := by kernel_rfl
theorem Nrj3 : (Tryz.f4.params.all (Tryz.prog.readableRec ·)) = true := by kernel_rfl
theorem Nrj4 : (namedTie Tryz.prog Rows.topTurnsRow.named Rows.topTurnsSpec.vars) = true := by kernel_rfl
theorem Nrj5 : (Rows.topTurnsRow.stops == []) = true := by kernel_rfl
theorem Nrj6 : (Tryz.prog.stops == []) = true := by kernel_rfl
theorem Nrj7 : (Rows.topTurnsRow.knobs == []) = true := by kernel_rfl
theorem Nrj8 : (Tryz.prog.stopKnobs == []) = true := by kernel_rfl
theorem Nrj13 : (Rows.topTurnsRow.maps == (Tryz.f4.params.toList ++ Rows.topTurnsSpec.plain.varTypes Tryz.prog).any (Tryz.prog.mapsRec ·)) = true := by kernel_rfl
theorem Nrj14 : (Rows.topTurnsRow.ifaces == (Tryz.f4.params.toList ++ Rows.topTurnsSpec.plain.varTypes Tryz.prog).any (Tryz.prog.ifacesRec ·)) = true := by kernel_rfl
theorem Nrj15 : (Rows.topTurnsRow.mapsOut == Tryz.prog.mapsAmong Tryz.f4.resultTypes.toList) = true := by kernel_rfl
theorem Nrj16 : (Rows.topTurnsRow.loops == (Tryz.f4.params.toList ++ Rows.topTurnsSpec.plain.varTypes Tryz.prog).any (Tryz.prog.loopsFrom ·)) = true := by kernel_rfl
theorem Nrj17 : (Rows.topTurnsRow.wideKeys == (Tryz.f4.params.toList ++ Rows.topTurnsSpec.plain.varTypes Tryz.prog ++ Tryz.f4.resultTypes.toList).any (Tryz.prog.wideKeysFrom ·)) = true := by kernel_rfl
theorem Nrj18 : (Rows.topTurnsSpec.vars.all (Tryz.prog.varReadable ·)) = true := by kernel_rfl
theorem Nrj19 : (Tryz.f4.resultTypes.all (fun t => Tryz.prog.readableRec t && decide (t < Tryz.prog.types.size))) = true := by kernel_rfl
theorem Nrj20 : (Rows.topTurnsRow.ifacesOut == Tryz.f4.resultTypes.toList.any (Tryz.prog.ifacesRec ·)) = true := by kernel_rfl
theorem Nrj21 : (Rows.topTurnsRow.loopsOut == Tryz.f4.resultTypes.toList.any (Tryz.prog.loopsFrom ·)) = true := by kernel_rfl
theorem Nrj23 : (Rows.topTurnsRow.shortTexts.isNone) = true := by kernel_rfl
theorem Nrj28 : (Rows.topTurnsRow.kinds == (if Rows.topTurnsRow.domain.isEmpty then [] else Tryz.f4.params.toList.map fun t => match Tryz.prog.underlying t with | some (.int k) => some k | _ => none)) = true := by kernel_rfl
theorem Nrj29 : (Rows.topTurnsRow.pinned == Rows.topTurnsRow.pinnedBy) = true := by kernel_rfl
theorem Nrj30 : (Rows.topTurnsRow.veiled == (Tryz.f4.params.toList ++ Rows.topTurnsSpec.plain.varTypes Tryz.prog ++ Tryz.f4.resultTypes.toList).any (Tryz.prog.veiledRec ·)) = true := by kernel_rfl
theorem Nrj31 : (Rows.topTurnsRow.veiledFits Tryz.prog Tryz.f4.params.toList (Tryz.f4.params.toList ++ Rows.topTurnsSpec.plain.varTypes Tryz.prog ++ Tryz.f4.resultTypes.toList)) = true := by kernel_rfl
theorem Nrw3 (os : Os) : Input.okWideB Tryz.prog ((World.doorLaid Tryz.prog 400 os).forCall (fun _ _ => 0) { blocks := #[], args := #[Value.int .i64 0, Value.int .i64 0, Value.int .i64 0] }) 4 { blocks := #[], args := #[Value.int .i64 0, Value.int .i64 0, Value.int .i64 0] } = true := by kernel_rfl
theorem Nrw4 (os : Os) {H : Type} (enc : TypeId × Value → H) : ChangeSpec.preB enc Tryz.prog Tryz.f4 Rows.topTurnsSpec Rows.topTurnsRow.domain Rows.topTurnsRow.apart (((World.doorLaid Tryz.prog 400 os).forCall (fun _ _ => 0) { blocks := #[], args := #[Value.int .i64 0, Value.int .i64 0, Value.int .i64 0] })).memory #[Value.int .i64 0, Value.int .i64 0, Value.int .i64 0] 8 = true := by kernel_rfl
theorem Nrw5 (os : Os) {H : Type} (enc : TypeId × Value → H) : ChangeSpec.sizedB enc Tryz.prog Tryz.f4 Rows.topTurnsSpec Rows.topTurnsRow.apart (((World.doorLaid Tryz.prog 400 os).forCall (fun _ _ => 0) { blocks := #[], args := #[Value.int .i64 0, Value.int .i64 0, Value.int .i64 0] })).memory #[Value.int .i64 0, Value.int .i64 0, Value.int .i64 0] 8 = true := by kernel_rfl
theorem Nrr1 : Tryz.prog.funcNamed Rows.topTurnsRow.func = some 4 := by kernel_rfl
theorem Nrr3 : decide (Func.isInstance Tryz.prog Tryz.f4 Rows.topTurnsRow.origin Rows.topTurnsRow.targs) = true := by kernel_rfl
theorem Nrr4 : Func.isWrapper Tryz.prog Tryz.f4 Rows.topTurnsRow.wrapper Rows.topTurnsRow.mainSum := by unfold Func.isWrapper; first | (rw [if_pos (by decide +kernel)]; kernel_rfl) | (rw [if_neg (by decide +kernel)]; exact ⟨rfl, rfl⟩)
theorem topTurns_row : RowOkI Tryz.prog 4 Tryz.f4 Rows.topTurnsSpec [.i64, .i64, .i64] Rows.topTurnsRow.laid where
  own := own
  noInit := by kernel_rfl
  isf := Tryz.func4
  laid := laid
  rowed := rowed
  full := full
  params := by kernel_rfl
  vars := rfl
  ret := ⟨_, rfl, by kernel_rfl⟩
  spec := fun H ds e => by
    match ds, e with
    | [_, _, _], _ => rfl
  tys := by kernel_rfl
end Go.Proofs.YtebgbhgehnpahaaGreatDoor
namespace Go.Proofs.YtebgbhgehnpahaaGreatDoor
open Go.E
set_option linter.all false
set_option maxRecDepth 100000
theorem Nrj22 : (Rows.topTurnsRow.plainKeys == Tryz.prog.plainKeys) = true := by kernel_rfl
theorem Nrj24 : (Tryz.prog.stopsHeard) = true := by kernel_rfl
theorem Nrj25 : (Tryz.prog.mayEnter) = true := by kernel_rfl
theorem Nrj26 : (Rows.topTurnsRow.lifted == Tryz.prog.liftsFinal) = true := by kernel_rfl
theorem Nrj27 : (Tryz.prog.make == some Rows.topTurnsRow.make) = true := by kernel_rfl
theorem Nrw1 (os : Os) : World.variablesRefB Tryz.prog ((World.doorLaid Tryz.prog 400 os).forCall (fun _ _ => 0) { blocks := #[], args := #[Value.int .i64 0, Value.int .i64 0, Value.int .i64 0] }) = true := by kernel_rfl
theorem Nrw2 (os : Os) : List.take ((begin Tryz.prog (fun _ _ => 0) default).world.heap.size - Tryz.prog.globals.size) (List.drop Tryz.prog.globals.size (((World.doorLaid Tryz.prog 400 os).forCall (fun _ _ => 0) { blocks := #[], args := #[Value.int .i64 0, Value.int .i64 0, Value.int .i64 0] })).heap.toList) = List.drop Tryz.prog.globals.size (begin Tryz.prog (fun _ _ => 0) default).world.heap.toList := by kernel_rfl
end Go.Proofs.YtebgbhgehnpahaaGreatDoor
