/- A part of the proof of the claim that the last text of this folder states. -/
import Derived.Test.YtebgbhgehnpahaaGreatDoorL18
import Derived.Test.YtebgbhgehnpahaaGreatDoorL19
import Derived.Test.YtebgbhgehnpahaaGreatDoorL20
import Derived.Test.YtebgbhgehnpahaaGreatDoorL42
namespace Go.Proofs.YtebgbhgehnpahaaGreatDoor
open Go.E
set_option linter.all false
set_option maxRecDepth 100000
theorem andT {a b : Bool} (h : a = true) (g : b = true) : (a && b) = true := by rw [h, g]; rfl
theorem Lrr2 : joinedFacts Tryz.prog 9 Tryz.f9 Rows.topLinesSpec Rows.topLinesRow = true := by
  delta joinedFacts
  exact andT (andT (andT (andT (andT (andT (andT (andT (andT (andT (andT (andT (andT (andT (andT (andT (andT (andT (andT (andT (andT (andT (andT (andT (andT (andT (andT (andT (andT (andT (andT (Lrj0) Lrj1) Lrj2) Lrj3) Lrj4) Lrj5) Lrj6) Lrj7) Lrj8) Lrj9) Lrj10) Lrj11) Lrj12) Lrj13) Lrj14) Lrj15) Lrj16) Lrj17) Lrj18) Lrj19) Lrj20) Lrj21) Lrj22) Lrj23) Lrj24) Lrj25) Lrj26) Lrj27) Lrj28) Lrj29) Lrj30) Lrj31
theorem topLines_said : Rows.TopLinesSaid :=
  OpenClaim.holds_of_wide 9 Tryz.f9 rfl rfl rfl rfl rfl rfl rfl ⟨rfl, rfl, rfl, rfl, rfl⟩ rfl rfl rfl rfl rfl Lrr1 Tryz.func9 Lrr2
    (of_decide_eq_true Lrr3) Lrr4
    (fun os started H enc _ => topLines_row.lifted (C := Tryz.checked) topLines_law started (ChangeSpec.witness_shaped (enc := enc) (C := Tryz.checked) (os := os) (X := fun w _ => laidMetH Tryz.prog Rows.topLinesRow.laid w) false (World.doorLaid Tryz.prog 400 os) #[Value.int .i64 0, Value.int .i64 0, Value.int .i64 0] 8 rfl (World.shaped_of_RefB (Lrw1 os) (Lrw2 os)) (Lrw3 os) (Lrw4 os enc) (Lrw5 os enc) (door_met os _)))
end Go.Proofs.YtebgbhgehnpahaaGreatDoor
