/- A thread can be made, written, read and let go: what is written into a new Tcb's registers is read back from them; resumed, it is ready, of the priority it was given; suspended, it is not. -/
import Derived.Test.YtebgbhgehnpahaaGreatDoorP11
import Derived.Test.YtebgbhgehnpahaaGreatDoorP12
import Derived.Test.YtebgbhgehnpahaaGreatDoorP51
namespace Go.Proofs.YtebgbhgehnpahaaGreatDoor
open Go.E
set_option linter.all false
set_option maxRecDepth 100000
theorem Prk1 : OpenClaim.wfByText (OpenSpec.ofChange Rows.topSpawnSpec) Rows.topSpawnRow = true := by kernel_rfl
end Go.Proofs.YtebgbhgehnpahaaGreatDoor
namespace Go.Proofs.YtebgbhgehnpahaaGreatDoor
open Go.E
set_option linter.all false
set_option maxRecDepth 100000
theorem Prk2 : Tryz.prog.mainIs = some ((true, Rows.topSpawnCard.stood.harness.snd).fst, (true, Rows.topSpawnCard.stood.harness.snd).snd.toList) := by kernel_rfl
theorem Prk4 : false = Tryz.prog.looks [] := by kernel_rfl
theorem Prk5 : ([3, 3, 31, 3].all fun u => !Tryz.prog.wantsStandIn u) = true := by kernel_rfl
end Go.Proofs.YtebgbhgehnpahaaGreatDoor
namespace Go.Proofs.YtebgbhgehnpahaaGreatDoor
open Go.E
set_option linter.all false
set_option maxRecDepth 100000
theorem goes_by {P : Program} {c : OpenClaim} {f : Nat} (h1 : c.start = .entering) (h2 : P.funcNamed c.func = some f) (h3 : P.goes f = false) : false = c.goesBy P := by
  unfold OpenClaim.goesBy Program.goesAt Program.goesFrom
  rw [h1, h2]
  simp [h3]
theorem Prk3 : false = Rows.topSpawnRow.goesBy Tryz.prog := goes_by rfl Prr1 Prgo3
end Go.Proofs.YtebgbhgehnpahaaGreatDoor
namespace Go.Proofs.YtebgbhgehnpahaaGreatDoor
open Go.E
set_option linter.all false
set_option maxRecDepth 100000
theorem topSpawn_holds : Rows.TopSpawnCardSaid :=
  Claim7.holds_tied_plain_at .later [] [.data] true (true, Rows.topSpawnCard.stood.harness.2) false
    topSpawn_said (fun _ h => by cases h) Prk1 (fun _ h => by cases h) topSpawn_row_tie rfl ⟨rfl, rfl⟩ Prk2 rfl
    (fun f fn hf hfn => by
      obtain rfl : f = 8 := Option.some.inj (Prr1.symm.trans hf) |>.symm
      obtain rfl : fn = Tryz.f8 := (Option.some.inj (Tryz.func8.symm.trans hfn)).symm
      exact ⟨Prk4, fun j t ht => by
        rw [Tryz.params8] at ht
        have hm : t ∈ [3, 3, 31, 3] := by simpa using Array.mem_of_getElem? ht
        exact (show Tryz.prog.wantsStandIn t = false by simpa using List.all_eq_true.1 Prk5 t hm)⟩)
    Prk3
end Go.Proofs.YtebgbhgehnpahaaGreatDoor
