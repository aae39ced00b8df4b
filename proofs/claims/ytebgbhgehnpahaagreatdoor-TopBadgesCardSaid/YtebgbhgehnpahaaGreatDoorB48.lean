/- A part of the proof of the claim that the last text of this folder states. -/
import Derived.Test.YtebgbhgehnpahaaGreatDoorB18
import Derived.Test.YtebgbhgehnpahaaGreatDoorB19
import Derived.Test.YtebgbhgehnpahaaGreatDoorB20
import Derived.Test.YtebgbhgehnpahaaGreatDoorB47
namespace Go.Proofs.YtebgbhgehnpahaaGreatDoor
open Go.E
set_option linter.all false
set_option maxRecDepth 100000
theorem andT {a b : Bool} (h : a = true) (g : b = true) : (a && b) = true := by rw [h, g]; rfl
theorem Brr2 : joinedFacts Tryz.prog 6 Tryz.f6 Rows.topBadgesSpec Rows.topBadgesRow = true := by
  delta joinedFacts
  exact andT (andT (andT (andT (andT (andT (andT (andT (andT (andT (andT (andT (andT (andT (andT (andT (andT (andT (andT (andT (andT (andT (andT (andT (andT (andT (andT (andT (andT (andT (andT (Brj0) Brj1) Brj2) Brj3) Brj4) Brj5) Brj6) Brj7) Brj8) Brj9) Brj10) Brj11) Brj12) Brj13) Brj14) Brj15) Brj16) Brj17) Brj18) Brj19) Brj20) Brj21) Brj22) Brj23) Brj24) Brj25) Brj26) Brj27) Brj28) Brj29) Brj30) Brj31
theorem topBadges_said : Rows.TopBadgesSaid :=
  OpenClaim.holds_of_wide 6 Tryz.f6 rfl rfl rfl rfl rfl rfl rfl ⟨rfl, rfl, rfl, rfl, rfl⟩ rfl rfl rfl rfl rfl Brr1 Tryz.func6 Brr2
    (of_decide_eq_true Brr3) Brr4
    (fun os started H enc _ => topBadges_row.lifted (C := Tryz.checked) topBadges_law started (ChangeSpec.witness_shaped (enc := enc) (C := Tryz.checked) (os := os) (X := fun w _ => laidMetH Tryz.prog Rows.topBadgesRow.laid w) false (World.doorLaid Tryz.prog 400 os) #[Value.int .i64 0, Value.int .i64 0] 8 rfl (World.shaped_of_RefB (Brw1 os) (Brw2 os)) (Brw3 os) (Brw4 os enc) (Brw5 os enc) (door_met os _)))
end Go.Proofs.YtebgbhgehnpahaaGreatDoor
