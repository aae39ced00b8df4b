/- TopRevoked: for every input the law's Go function answers true, and its argument reads behind the call as before; math/bits.deBruijn32tab reads as the program's text lays it. -/
import Derived.Test.YtebgbhgehnpahaaGreatDoorV47
import Derived.Test.YtebgbhgehnpahaaGreatDoorV48
import Derived.Test.YtebgbhgehnpahaaGreatDoorV49
import Derived.Test.YtebgbhgehnpahaaGreatDoorV50
namespace Go.Proofs.YtebgbhgehnpahaaGreatDoor
open Go.E
set_option linter.all false
set_option maxRecDepth 100000
theorem topRevoked_holds : Rows.TopRevokedCardSaid :=
  Claim7.holds_tied_plain_at .later [] [.data] true (true, Rows.topRevokedCard.stood.harness.2) false
    topRevoked_said (fun _ h => by cases h) Vrk1 (fun _ h => by cases h) topRevoked_row_tie rfl ⟨rfl, rfl⟩ Vrk2 rfl
    (fun f fn hf hfn => by
      obtain rfl : f = 7 := Option.some.inj (Vrr1.symm.trans hf) |>.symm
      obtain rfl : fn = Tryz.f7 := (Option.some.inj (Tryz.func7.symm.trans hfn)).symm
      exact ⟨Vrk4, fun j t ht => by
        rw [Tryz.params7] at ht
        have hm : t ∈ [3] := by simpa using Array.mem_of_getElem? ht
        exact (show Tryz.prog.wantsStandIn t = false by simpa using List.all_eq_true.1 Vrk5 t hm)⟩)
    Vrk3
end Go.Proofs.YtebgbhgehnpahaaGreatDoor
