/- TopBadges: for every input the law's Go function answers true, and its arguments read behind the call as before; math/bits.deBruijn32tab reads as the program's text lays it. -/
import Derived.Test.YtebgbhgehnpahaaGreatDoorB48
import Derived.Test.YtebgbhgehnpahaaGreatDoorB49
import Derived.Test.YtebgbhgehnpahaaGreatDoorB50
import Derived.Test.YtebgbhgehnpahaaGreatDoorB51
namespace Go.Proofs.YtebgbhgehnpahaaGreatDoor
open Go.E
set_option linter.all false
set_option maxRecDepth 100000
theorem topBadges_holds : Rows.TopBadgesCardSaid :=
  Claim7.holds_tied_plain_at .later [] [.data] true (true, Rows.topBadgesCard.stood.harness.2) false
    topBadges_said (fun _ h => by cases h) Brk1 (fun _ h => by cases h) topBadges_row_tie rfl ⟨rfl, rfl⟩ Brk2 rfl
    (fun f fn hf hfn => by
      obtain rfl : f = 6 := Option.some.inj (Brr1.symm.trans hf) |>.symm
      obtain rfl : fn = Tryz.f6 := (Option.some.inj (Tryz.func6.symm.trans hfn)).symm
      exact ⟨Brk4, fun j t ht => by
        rw [Tryz.params6] at ht
        have hm : t ∈ [3, 3] := by simpa using Array.mem_of_getElem? ht
        exact (show Tryz.prog.wantsStandIn t = false by simpa using List.all_eq_true.1 Brk5 t hm)⟩)
    Brk3
end Go.Proofs.YtebgbhgehnpahaaGreatDoor
