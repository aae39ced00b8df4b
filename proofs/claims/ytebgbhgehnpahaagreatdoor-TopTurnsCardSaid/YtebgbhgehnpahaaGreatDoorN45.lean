/- A part of the proof of the claim that the last text of this folder states. -/
import Derived.Test.YtebgbhgehnpahaaGreatDoorN11
import Derived.Test.YtebgbhgehnpahaaGreatDoorN12
import Derived.Test.YtebgbhgehnpahaaGreatDoorN44
namespace Go.Proofs.YtebgbhgehnpahaaGreatDoor
open Go.E
set_option linter.all false
set_option maxRecDepth 100000
theorem andT {a b : Bool} (h : a = true) (g : b = true) : (a && b) = true := by rw [h, g]; rfl
theorem Nrr2 : joinedFacts Tryz.prog 4 Tryz.f4 Rows.topTurnsSpec Rows.topTurnsRow = true := by
  delta joinedFacts
  exact andT (andT (andT (andT (andT (andT (andT (andT (andT (andT (andT (andT (andT (andT (andT (andT (andT (andT (andT (andT (andT (andT (andT (andT (andT (andT (andT (andT (andT (andT (andT (Nrj0) Nrj1) Nrj2) Nrj3) Nrj4) Nrj5) Nrj6) Nrj7) Nrj8) Nrj9) Nrj10) Nrj11) Nrj12) Nrj13) Nrj14) Nrj15) Nrj16) Nrj17) Nrj18) Nrj19) Nrj20) Nrj21) Nrj22) Nrj23) Nrj24) Nrj25) Nrj26) Nrj27) Nrj28) Nrj29) Nrj30) Nrj31
theorem topTurns_said : Rows.TopTurnsSaid :=
  OpenClaim.holds_of_wide 4 Tryz.f4 rfl rfl rfl rfl rfl rfl rfl ⟨rfl, rfl, rfl, rfl, rfl⟩ rfl rfl rfl rfl rfl Nrr1 Tryz.func4 Nrr2
    (of_decide_eq_true Nrr3) Nrr4
    (fun os started H enc _ => topTurns_row.lifted (C := Tryz.checked) topTurns_law started (ChangeSpec.witness_shaped (enc := enc) (C := Tryz.checked) (os := os) (X := fun w _ => laidMetH Tryz.prog Rows.topTurnsRow.laid w) false (World.doorLaid Tryz.prog 400 os) #[Value.int .i64 0, Value.int .i64 0, Value.int .i64 0] 8 rfl (World.shaped_of_RefB (Nrw1 os) (Nrw2 os)) (Nrw3 os) (Nrw4 os enc) (Nrw5 os enc) (door_met os _)))
end Go.Proofs.YtebgbhgehnpahaaGreatDoor
