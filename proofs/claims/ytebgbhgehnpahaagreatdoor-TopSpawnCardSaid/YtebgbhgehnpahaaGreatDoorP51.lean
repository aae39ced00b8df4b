/- A part of the proof of the claim that the last text of this folder states. -/
import Derived.Test.YtebgbhgehnpahaaGreatDoorP11
import Derived.Test.YtebgbhgehnpahaaGreatDoorP12
import Derived.Test.YtebgbhgehnpahaaGreatDoorP50
namespace Go.Proofs.YtebgbhgehnpahaaGreatDoor
open Go.E
set_option linter.all false
set_option maxRecDepth 100000
theorem andT {a b : Bool} (h : a = true) (g : b = true) : (a && b) = true := by rw [h, g]; rfl
theorem Prr2 : joinedFacts Tryz.prog 8 Tryz.f8 Rows.topSpawnSpec Rows.topSpawnRow = true := by
  delta joinedFacts
  exact andT (andT (andT (andT (andT (andT (andT (andT (andT (andT (andT (andT (andT (andT (andT (andT (andT (andT (andT (andT (andT (andT (andT (andT (andT (andT (andT (andT (andT (andT (andT (Prj0) Prj1) Prj2) Prj3) Prj4) Prj5) Prj6) Prj7) Prj8) Prj9) Prj10) Prj11) Prj12) Prj13) Prj14) Prj15) Prj16) Prj17) Prj18) Prj19) Prj20) Prj21) Prj22) Prj23) Prj24) Prj25) Prj26) Prj27) Prj28) Prj29) Prj30) Prj31
theorem topSpawn_said : Rows.TopSpawnSaid :=
  OpenClaim.holds_of_wide 8 Tryz.f8 rfl rfl rfl rfl rfl rfl rfl ⟨rfl, rfl, rfl, rfl, rfl⟩ rfl rfl rfl rfl rfl Prr1 Tryz.func8 Prr2
    (of_decide_eq_true Prr3) Prr4
    (fun os started H enc _ => topSpawn_row.lifted (C := Tryz.checked) topSpawn_law started (ChangeSpec.witness_shaped (enc := enc) (C := Tryz.checked) (os := os) (X := fun w _ => laidMetH Tryz.prog Rows.topSpawnRow.laid w) false (World.doorLaid Tryz.prog 400 os) #[Value.int .i64 0, Value.int .i64 0, Value.int .u64 0, Value.int .i64 0] 8 rfl (World.shaped_of_RefB (Prw1 os) (Prw2 os)) (Prw3 os) (Prw4 os enc) (Prw5 os enc) (door_met os _)))
end Go.Proofs.YtebgbhgehnpahaaGreatDoor
