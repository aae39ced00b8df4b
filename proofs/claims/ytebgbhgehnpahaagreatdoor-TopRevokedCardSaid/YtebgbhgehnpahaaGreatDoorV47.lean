/- A part of the proof of the claim that the last text of this folder states. -/
import Derived.Test.YtebgbhgehnpahaaGreatDoorV17
import Derived.Test.YtebgbhgehnpahaaGreatDoorV18
import Derived.Test.YtebgbhgehnpahaaGreatDoorV19
import Derived.Test.YtebgbhgehnpahaaGreatDoorV46
namespace Go.Proofs.YtebgbhgehnpahaaGreatDoor
open Go.E
set_option linter.all false
set_option maxRecDepth 100000
theorem andT {a b : Bool} (h : a = true) (g : b = true) : (a && b) = true := by rw [h, g]; rfl
theorem Vrr2 : joinedFacts Tryz.prog 7 Tryz.f7 Rows.topRevokedSpec Rows.topRevokedRow = true := by
  delta joinedFacts
  exact andT (andT (andT (andT (andT (andT (andT (andT (andT (andT (andT (andT (andT (andT (andT (andT (andT (andT (andT (andT (andT (andT (andT (andT (andT (andT (andT (andT (andT (andT (andT (Vrj0) Vrj1) Vrj2) Vrj3) Vrj4) Vrj5) Vrj6) Vrj7) Vrj8) Vrj9) Vrj10) Vrj11) Vrj12) Vrj13) Vrj14) Vrj15) Vrj16) Vrj17) Vrj18) Vrj19) Vrj20) Vrj21) Vrj22) Vrj23) Vrj24) Vrj25) Vrj26) Vrj27) Vrj28) Vrj29) Vrj30) Vrj31
theorem topRevoked_said : Rows.TopRevokedSaid :=
  OpenClaim.holds_of_wide 7 Tryz.f7 rfl rfl rfl rfl rfl rfl rfl ⟨rfl, rfl, rfl, rfl, rfl⟩ rfl rfl rfl rfl rfl Vrr1 Tryz.func7 Vrr2
    (of_decide_eq_true Vrr3) Vrr4
    (fun os started H enc _ => topRevoked_row.lifted (C := Tryz.checked) topRevoked_law started (ChangeSpec.witness_shaped (enc := enc) (C := Tryz.checked) (os := os) (X := fun w _ => laidMetH Tryz.prog Rows.topRevokedRow.laid w) false (World.doorLaid Tryz.prog 400 os) #[Value.int .i64 0] 8 rfl (World.shaped_of_RefB (Vrw1 os) (Vrw2 os)) (Vrw3 os) (Vrw4 os enc) (Vrw5 os enc) (door_met os _)))
end Go.Proofs.YtebgbhgehnpahaaGreatDoor
