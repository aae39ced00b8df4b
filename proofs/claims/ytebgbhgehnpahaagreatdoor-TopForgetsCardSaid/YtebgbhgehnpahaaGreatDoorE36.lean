/- A part of the proof of the claim that the last text of this folder states. -/
import Derived.Test.YtebgbhgehnpahaaGreatDoorE15
import Derived.Test.YtebgbhgehnpahaaGreatDoorE16
import Derived.Test.YtebgbhgehnpahaaGreatDoorE17
import Derived.Test.YtebgbhgehnpahaaGreatDoorE35
namespace Go.Proofs.YtebgbhgehnpahaaGreatDoor
open Go.E
set_option linter.all false
set_option maxRecDepth 100000
theorem andT {a b : Bool} (h : a = true) (g : b = true) : (a && b) = true := by rw [h, g]; rfl
theorem Fgr2 : joinedFacts Tryz.prog 10 Tryz.f10 Rows.topForgetsSpec Rows.topForgetsRow = true := by
  delta joinedFacts
  exact andT (andT (andT (andT (andT (andT (andT (andT (andT (andT (andT (andT (andT (andT (andT (andT (andT (andT (andT (andT (andT (andT (andT (andT (andT (andT (andT (andT (andT (andT (andT (Fgj0) Fgj1) Fgj2) Fgj3) Fgj4) Fgj5) Fgj6) Fgj7) Fgj8) Fgj9) Fgj10) Fgj11) Fgj12) Fgj13) Fgj14) Fgj15) Fgj16) Fgj17) Fgj18) Fgj19) Fgj20) Fgj21) Fgj22) Fgj23) Fgj24) Fgj25) Fgj26) Fgj27) Fgj28) Fgj29) Fgj30) Fgj31
theorem topForgets_said : Rows.TopForgetsSaid :=
  OpenClaim.holds_of_wide 10 Tryz.f10 rfl rfl rfl rfl rfl rfl rfl ⟨rfl, rfl, rfl, rfl, rfl⟩ rfl rfl rfl rfl rfl Fgr1 Tryz.func10 Fgr2
    (of_decide_eq_true Fgr3) Fgr4
    (fun os started H enc _ => topForgets_row.lifted (C := Tryz.checked) forgets_law started (ChangeSpec.witness_shaped (enc := enc) (C := Tryz.checked) (os := os) (X := fun w _ => laidMetH Tryz.prog Rows.topForgetsRow.laid w) false (World.doorLaid Tryz.prog 400 os) #[Value.int .u64 0, Value.int .i64 0] 8 rfl (World.shaped_of_RefB (Fgw1 os) (Fgw2 os)) (Fgw3 os) (Fgw4 os enc) (Fgw5 os enc) (door_met os _)))
end Go.Proofs.YtebgbhgehnpahaaGreatDoor
