/- A part of the proof of the claim that the last text of this folder states. -/
import Derived.Test.YtebgbhgehnpahaaGreatDoorRows
import Derived.Test.YtebgbhgehnpahaaGreatDoorTie
import Derived.Test.YtebgbhgehnpahaaGreatDoorCards
import Derived.SevenTiedAt
import Derived.Test.YtebgbhgehnpahaaGreatDoorP10
namespace Go.Proofs.YtebgbhgehnpahaaGreatDoor
open Go.E
set_option linter.all false
set_option maxRecDepth 100000
theorem own : ownKnob Tryz.prog.godebug = Option.none := by kernel_rfl
theorem laid : laidOutB Tryz.prog = true := by kernel_rfl
theorem rowed : mapsRowed Tryz.prog = true := by kernel_rfl
theorem full : slicesFull Tryz.prog = true := by kernel_rfl
theorem mixed : Tryz.prog.follows .mixedOrders = true := by kernel_rfl
def tabZ : List Int := [0,1,28,2,29,14,24,3,30,22,20,15,25,17,4,8,31,27,13,23,21,19,16,7,26,12,18,6,11,5,10,9]
theorem tab_named : Tryz.prog.globalNamed "math/bits.deBruijn32tab" = some 0 := by kernel_rfl
theorem tabs_met : ∀ W : World, laidMetH Tryz.prog Rows.topSpawnRow.laid W → ∀ (i : Nat) (n : Int), tabZ[i]? = some n → W.cell? ⟨0, i, Option.none⟩ = some (.int .u8 n) := fun W hW i n hn => by
  have h1 := Lib.tabIs_of_head (zs := tabZ) (k := .u8) (n := 32) (t := 283) (e := 5) tab_named (by kernel_rfl) (by kernel_rfl) (by kernel_rfl) (by kernel_rfl) (by kernel_rfl) hW
  have h2 := h1.cell tab_named i (List.getElem?_eq_some_iff.1 hn).1
  rw [h2, List.getD, hn]; rfl
theorem door_met (os : Os) (args : Array Value) : laidMetH Tryz.prog Rows.topSpawnRow.laid ((World.doorLaid Tryz.prog 400 os).forCall (fun _ _ => 0) ⟨#[], args, []⟩).memory :=
  laidMet_of_run' 8 (by kernel_rfl) (by kernel_rfl)
end Go.Proofs.YtebgbhgehnpahaaGreatDoor
namespace Go.Proofs.YtebgbhgehnpahaaGreatDoor
open Go.E
set_option linter.all false
set_option maxRecDepth 100000
theorem Prj1 : laidOutB Tryz.prog = true := laid
theorem Prj2 : mapsRowed Tryz.prog = true := rowed
theorem Prj0 : (Rows.topSpawnRow.wf (OpenSpec.ofChange Rows.topSpawnSpec)) = true := by kernel_rfl
theorem Prj3 : (Tryz.f8.params.all (Tryz.prog.readableRec ·)) = true := by kernel_rfl
theorem Prj4 : (namedTie Tryz.prog Rows.topSpawnRow.named Rows.topSpawnSpec.vars) = true := by kernel_rfl
theorem Prj5 : (Rows.topSpawnRow.stops == []) = true := by kernel_rfl
theorem Prj6 : (Tryz.prog.stops == []) = true := by kernel_rfl
theorem Prj7 : (Rows.topSpawnRow.knobs == []) = true := by kernel_rfl
theorem Prj8 : (Tryz.prog.stopKnobs == []) = true := by kernel_rfl
theorem Prj13 : (Rows.topSpawnRow.maps == (Tryz.f8.params.toList ++ Rows.topSpawnSpec.plain.varTypes Tryz.prog).any (Tryz.prog.mapsRec ·)) = true := by kernel_rfl
theorem Prj14 : (Rows.topSpawnRow.ifaces == (Tryz.f8.params.toList ++ Rows.topSpawnSpec.plain.varTypes Tryz.prog).any (Tryz.prog.ifacesRec ·)) = true := by kernel_rfl
theorem Prj15 : (Rows.topSpawnRow.mapsOut == Tryz.prog.mapsAmong Tryz.f8.resultTypes.toList) = true := by kernel_rfl
theorem Prj16 : (Rows.topSpawnRow.loops == (Tryz.f8.params.toList ++ Rows.topSpawnSpec.plain.varTypes Tryz.prog).any (Tryz.prog.loopsFrom ·)) = true := by kernel_rfl
theorem Prj17 : (Rows.topSpawnRow.wideKeys == (Tryz.f8.params.toList ++ Rows.topSpawnSpec.plain.varTypes Tryz.prog ++ Tryz.f8.resultTypes.toList).any (Tryz.prog.wideKeysFrom ·)) = true := by kernel_rfl
theorem Prj18 : (Rows.topSpawnSpec.vars.all (Tryz.prog.varReadable ·)) = true := by kernel_rfl
theorem Prj19 : (Tryz.f8.resultTypes.all (fun t => Tryz.prog.readableRec t && decide (t < Tryz.prog.types.size))) = true := by kernel_rfl
theorem Prj20 : (Rows.topSpawnRow.ifacesOut == Tryz.f8.resultTypes.toList.any (Tryz.prog.ifacesRec ·)) = true := by kernel_rfl
theorem Prj21 : (Rows.topSpawnRow.loopsOut == Tryz.f8.resultTypes.toList.any (Tryz.prog.loopsFrom ·)) = true := by kernel_rfl
theorem Prj23 : (Rows.topSpawnRow.shortTexts.isNone) = true := by kernel_rfl
theorem Prj28 : (Rows.topSpawnRow.kinds == (if Rows.topSpawnRow.domain.isEmpty then [] else Tryz.f8.params.toList.map fun t => match Tryz.prog.underlying t with | some (.int k) => some k | _ => none)) = true := by kernel_rfl
theorem Prj29 : (Rows.topSpawnRow.pinned == Rows.topSpawnRow.pinnedBy) = true := by kernel_rfl
theorem Prj30 : (Rows.topSpawnRow.veiled == (Tryz.f8.params.toList ++ Rows.topSpawnSpec.plain.varTypes Tryz.prog ++ Tryz.f8.resultTypes.toList).any (Tryz.prog.veiledRec ·)) = true := by kernel_rfl
theorem Prj31 : (Rows.topSpawnRow.veiledFits Tryz.prog Tryz.f8.params.toList (Tryz.f8.params.toList ++ Rows.topSpawnSpec.plain.varTypes Tryz.prog ++ Tryz.f8.resultTypes.toList)) = true := by kernel_rfl
theorem Prw3 (os : Os) : Input.okWideB Tryz.prog ((World.doorLaid Tryz.prog 400 os).forCall (fun _ _ => 0) { blocks := #[], args := #[Value.int .i64 0, Value.int .i64 0, Value.int .u64 0, Value.int .i64 0] }) 8 { blocks := #[], args := #[Value.int .i64 0, Value.int .i64 0, Value.int .u64 0, Value.int .i64 0] } = true := by kernel_rfl
theorem Prw4 (os : Os) {H : Type} (enc : TypeId × Value → H) : ChangeSpec.preB enc Tryz.prog Tryz.f8 Rows.topSpawnSpec Rows.topSpawnRow.domain Rows.topSpawnRow.apart (((World.doorLaid Tryz.prog 400 os).forCall (fun _ _ => 0) { blocks := #[], args := #[Value.int .i64 0, Value.int .i64 0, Value.int .u64 0, Value.int .i64 0] })).memory #[Value.int .i64 0, Value.int .i64 0, Value.int .u64 0, Value.int .i64 0] 8 = true := by kernel_rfl
theorem Prw5 (os : Os) {H : Type} (enc : TypeId × Value → H) : ChangeSpec.sizedB enc Tryz.prog Tryz.f8 Rows.topSpawnSpec Rows.topSpawnRow.apart (((World.doorLaid Tryz.prog 400 os).forCall (fun _ _ => 0) { blocks := #[], args := #[Value.int .i64 0, Value.int .i64 0, Value.int .u64 0, Value.int .i64 0] })).memory #[Value.int .i64 0, Value.int .i64 0, Value.int .u64 0, Value.int .i64 0] 8 = true := by kernel_rfl
theorem Prr1 : Tryz.prog.funcNamed Rows.topSpawnRow.func = some 8 := by kernel_rfl
theorem Prr3 : decide (Func.isInstance Tryz.prog Tryz.f8 Rows.topSpawnRow.origin Rows.topSpawnRow.targs) = true := by kernel_rfl
theorem Prr4 : Func.isWrapper Tryz.prog Tryz.f8 Rows.topSpawnRow.wrapper Rows.topSpawnRow.mainSum := by unfold Func.isWrapper; first | (rw [if_pos (by decide +kernel)]; kernel_rfl) | (rw [if_neg (by decide +kernel)]; exact ⟨rfl, rfl⟩)
theorem topSpawn_row : RowOkI Tryz.prog 8 Tryz.f8 Rows.topSpawnSpec [.i64, .i64, .u64, .i64] Rows.topSpawnRow.laid where
  own := own
  noInit := by kernel_rfl
  isf := Tryz.func8
  laid := laid
  rowed := rowed
  full := full
  params := by kernel_rfl
  vars := rfl
  ret := ⟨_, rfl, by kernel_rfl⟩
  spec := fun H ds e => by
    match ds, e with
    | [_, _, _, _], _ => rfl
  tys := by kernel_rfl
end Go.Proofs.YtebgbhgehnpahaaGreatDoor
namespace Go.Proofs.YtebgbhgehnpahaaGreatDoor
open Go.E
set_option linter.all false
set_option maxRecDepth 100000
theorem Prj22 : (Rows.topSpawnRow.plainKeys == Tryz.prog.plainKeys) = true := by kernel_rfl
theorem Prj24 : (Tryz.prog.stopsHeard) = true := by kernel_rfl
theorem Prj25 : (Tryz.prog.mayEnter) = true := by kernel_rfl
theorem Prj26 : (Rows.topSpawnRow.lifted == Tryz.prog.liftsFinal) = true := by kernel_rfl
theorem Prj27 : (Tryz.prog.make == some Rows.topSpawnRow.make) = true := by kernel_rfl
theorem Prw1 (os : Os) : World.variablesRefB Tryz.prog ((World.doorLaid Tryz.prog 400 os).forCall (fun _ _ => 0) { blocks := #[], args := #[Value.int .i64 0, Value.int .i64 0, Value.int .u64 0, Value.int .i64 0] }) = true := by kernel_rfl
theorem Prw2 (os : Os) : List.take ((begin Tryz.prog (fun _ _ => 0) default).world.heap.size - Tryz.prog.globals.size) (List.drop Tryz.prog.globals.size (((World.doorLaid Tryz.prog 400 os).forCall (fun _ _ => 0) { blocks := #[], args := #[Value.int .i64 0, Value.int .i64 0, Value.int .u64 0, Value.int .i64 0] })).heap.toList) = List.drop Tryz.prog.globals.size (begin Tryz.prog (fun _ _ => 0) default).world.heap.toList := by kernel_rfl
end Go.Proofs.YtebgbhgehnpahaaGreatDoor
