/- A part of the proof of the claim that the last text of this folder states. -/
import Derived.Test.YtebgbhgehnpahaaGreatDoorRows
import Derived.Test.YtebgbhgehnpahaaGreatDoorTie
import Derived.Test.YtebgbhgehnpahaaGreatDoorCards
import Derived.SevenTiedAt
import Derived.Test.YtebgbhgehnpahaaGreatDoorS17
namespace Go.Proofs.YtebgbhgehnpahaaGreatDoor
open Go.E
set_option linter.all false
set_option maxRecDepth 100000
theorem own : ownKnob Tryz.prog.godebug = Option.none := by kernel_rfl
theorem laid : laidOutB Tryz.prog = true := by kernel_rfl
theorem rowed : mapsRowed Tryz.prog = true := by kernel_rfl
theorem full : slicesFull Tryz.prog = true := by kernel_rfl
theorem mixed : Tryz.prog.follows .mixedOrders = true := by kernel_rfl
def tabZ : List Int := [0,1,28,2,29,14,24,3,30,22,20,15,25,17,4,8,31,27,13,23,21,19,16,7,26,12,18,6,11,5,10,9]
theorem tab_named : Tryz.prog.globalNamed "math/bits.deBruijn32tab" = some 0 := by kernel_rfl
theorem tabs_met : ∀ W : World, laidMetH Tryz.prog Rows.topSignalsRow.laid W → ∀ (i : Nat) (n : Int), tabZ[i]? = some n → W.cell? ⟨0, i, Option.none⟩ = some (.int .u8 n) := fun W hW i n hn => by
  have h1 := Lib.tabIs_of_head (zs := tabZ) (k := .u8) (n := 32) (t := 283) (e := 5) tab_named (by kernel_rfl) (by kernel_rfl) (by kernel_rfl) (by kernel_rfl) (by kernel_rfl) hW
  have h2 := h1.cell tab_named i (List.getElem?_eq_some_iff.1 hn).1
  rw [h2, List.getD, hn]; rfl
theorem door_met (os : Os) (args : Array Value) : laidMetH Tryz.prog Rows.topSignalsRow.laid ((World.doorLaid Tryz.prog 400 os).forCall (fun _ _ => 0) ⟨#[], args, []⟩).memory :=
  laidMet_of_run' 8 (by kernel_rfl) (by kernel_rfl)
end Go.Proofs.YtebgbhgehnpahaaGreatDoor
