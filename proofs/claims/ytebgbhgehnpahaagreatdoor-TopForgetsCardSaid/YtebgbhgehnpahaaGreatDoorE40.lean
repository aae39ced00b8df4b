/- TopForgets: for every input the law's Go function answers true, and its arguments read behind the call as before; math/bits.deBruijn32tab reads as the program's text lays it. -/
import Derived.Test.YtebgbhgehnpahaaGreatDoorE36
import Derived.Test.YtebgbhgehnpahaaGreatDoorE37
import Derived.Test.YtebgbhgehnpahaaGreatDoorE38
import Derived.Test.YtebgbhgehnpahaaGreatDoorE39
namespace Go.Proofs.YtebgbhgehnpahaaGreatDoor
open Go.E
set_option linter.all false
set_option maxRecDepth 100000
theorem topForgets_holds : Rows.TopForgetsCardSaid :=
  Claim7.holds_tied_plain_at .later [] [.data] true (true, Rows.topForgetsCard.stood.harness.2) false
    topForgets_said (fun _ h => by cases h) Fgk1 (fun _ h => by cases h) topForgets_row_tie rfl ⟨rfl, rfl⟩ Fgk2 rfl
    (fun f fn hf hfn => by
      obtain rfl : f = 10 := Option.some.inj (Fgr1.symm.trans hf) |>.symm
      obtain rfl : fn = Tryz.f10 := (Option.some.inj (Tryz.func10.symm.trans hfn)).symm
      exact ⟨Fgk4, fun j t ht => by
        rw [Tryz.params10] at ht
        have hm : t ∈ [31, 3] := by simpa using Array.mem_of_getElem? ht
        exact (show Tryz.prog.wantsStandIn t = false by simpa using List.all_eq_true.1 Fgk5 t hm)⟩)
    Fgk3
end Go.Proofs.YtebgbhgehnpahaaGreatDoor
