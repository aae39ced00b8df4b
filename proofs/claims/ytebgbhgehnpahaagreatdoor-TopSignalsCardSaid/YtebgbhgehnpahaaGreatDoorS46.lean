/- TopSignals: for every input the law's Go function answers true, and its argument reads behind the call as before; math/bits.deBruijn32tab reads as the program's text lays it. -/
import Derived.Test.YtebgbhgehnpahaaGreatDoorS42
import Derived.Test.YtebgbhgehnpahaaGreatDoorS43
import Derived.Test.YtebgbhgehnpahaaGreatDoorS44
import Derived.Test.YtebgbhgehnpahaaGreatDoorS45
namespace Go.Proofs.YtebgbhgehnpahaaGreatDoor
open Go.E
set_option linter.all false
set_option maxRecDepth 100000
theorem topSignals_holds : Rows.TopSignalsCardSaid :=
  Claim7.holds_tied_plain_at .later [] [.data] true (true, Rows.topSignalsCard.stood.harness.2) false
    topSignals_said (fun _ h => by cases h) Srk1 (fun _ h => by cases h) topSignals_row_tie rfl ⟨rfl, rfl⟩ Srk2 rfl
    (fun f fn hf hfn => by
      obtain rfl : f = 3 := Option.some.inj (Srr1.symm.trans hf) |>.symm
      obtain rfl : fn = Tryz.f3 := (Option.some.inj (Tryz.func3.symm.trans hfn)).symm
      exact ⟨Srk4, fun j t ht => by
        rw [Tryz.params3] at ht
        have hm : t ∈ [22] := by simpa using Array.mem_of_getElem? ht
        exact (show Tryz.prog.wantsStandIn t = false by simpa using List.all_eq_true.1 Srk5 t hm)⟩)
    Srk3
end Go.Proofs.YtebgbhgehnpahaaGreatDoor
