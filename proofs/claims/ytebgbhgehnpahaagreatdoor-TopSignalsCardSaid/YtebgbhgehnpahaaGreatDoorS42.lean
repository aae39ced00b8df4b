/- A part of the proof of the claim that the last text of this folder states. -/
import Derived.Test.YtebgbhgehnpahaaGreatDoorS19
import Derived.Test.YtebgbhgehnpahaaGreatDoorS20
import Derived.Test.YtebgbhgehnpahaaGreatDoorS21
import Derived.Test.YtebgbhgehnpahaaGreatDoorS41
namespace Go.Proofs.YtebgbhgehnpahaaGreatDoor
open Go.E
set_option linter.all false
set_option maxRecDepth 100000
theorem andT {a b : Bool} (h : a = true) (g : b = true) : (a && b) = true := by rw [h, g]; rfl
theorem Srr2 : joinedFacts Tryz.prog 3 Tryz.f3 Rows.topSignalsSpec Rows.topSignalsRow = true := by
  delta joinedFacts
  exact andT (andT (andT (andT (andT (andT (andT (andT (andT (andT (andT (andT (andT (andT (andT (andT (andT (andT (andT (andT (andT (andT (andT (andT (andT (andT (andT (andT (andT (andT (andT (Srj0) Srj1) Srj2) Srj3) Srj4) Srj5) Srj6) Srj7) Srj8) Srj9) Srj10) Srj11) Srj12) Srj13) Srj14) Srj15) Srj16) Srj17) Srj18) Srj19) Srj20) Srj21) Srj22) Srj23) Srj24) Srj25) Srj26) Srj27) Srj28) Srj29) Srj30) Srj31
theorem topSignals_said : Rows.TopSignalsSaid :=
  OpenClaim.holds_of_wide 3 Tryz.f3 rfl rfl rfl rfl rfl rfl rfl ⟨rfl, rfl, rfl, rfl, rfl⟩ rfl rfl rfl rfl rfl Srr1 Tryz.func3 Srr2
    (of_decide_eq_true Srr3) Srr4
    (fun os started H enc _ => topSignals_row.lifted (C := Tryz.checked) topSignals_law started (ChangeSpec.witness_shaped (enc := enc) (C := Tryz.checked) (os := os) (X := fun w _ => laidMetH Tryz.prog Rows.topSignalsRow.laid w) false (World.doorLaid Tryz.prog 400 os) #[Value.slice Option.none 0 0] 8 rfl (World.shaped_of_RefB (Srw1 os) (Srw2 os)) (Srw3 os) (Srw4 os enc) (Srw5 os enc) (door_met os _)))
end Go.Proofs.YtebgbhgehnpahaaGreatDoor
