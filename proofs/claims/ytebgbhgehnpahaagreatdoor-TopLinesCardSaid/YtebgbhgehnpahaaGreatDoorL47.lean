/- TopLines: for every input the law's Go function answers true, and its arguments read behind the call as before; math/bits.deBruijn32tab reads as the program's text lays it. -/
import Derived.Test.YtebgbhgehnpahaaGreatDoorL43
import Derived.Test.YtebgbhgehnpahaaGreatDoorL44
import Derived.Test.YtebgbhgehnpahaaGreatDoorL45
import Derived.Test.YtebgbhgehnpahaaGreatDoorL46
namespace Go.Proofs.YtebgbhgehnpahaaGreatDoor
open Go.E
set_option linter.all false
set_option maxRecDepth 100000
theorem topLines_holds : Rows.TopLinesCardSaid :=
  Claim7.holds_tied_plain_at .later [] [.data] true (true, Rows.topLinesCard.stood.harness.2) false
    topLines_said (fun _ h => by cases h) Lrk1 (fun _ h => by cases h) topLines_row_tie rfl ⟨rfl, rfl⟩ Lrk2 rfl
    (fun f fn hf hfn => by
      obtain rfl : f = 9 := Option.some.inj (Lrr1.symm.trans hf) |>.symm
      obtain rfl : fn = Tryz.f9 := (Option.some.inj (Tryz.func9.symm.trans hfn)).symm
      exact ⟨Lrk4, fun j t ht => by
        rw [Tryz.params9] at ht
        have hm : t ∈ [3, 3, 3] := by simpa using Array.mem_of_getElem? ht
        exact (show Tryz.prog.wantsStandIn t = false by simpa using List.all_eq_true.1 Lrk5 t hm)⟩)
    Lrk3
end Go.Proofs.YtebgbhgehnpahaaGreatDoor
