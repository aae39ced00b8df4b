/- Threads of one priority that never stop each run five ticks in turn, as many as there are. -/
import Derived.Test.YtebgbhgehnpahaaGreatDoorN11
import Derived.Test.YtebgbhgehnpahaaGreatDoorN12
import Derived.Test.YtebgbhgehnpahaaGreatDoorN45
namespace Go.Proofs.YtebgbhgehnpahaaGreatDoor
open Go.E
set_option linter.all false
set_option maxRecDepth 100000
theorem Nrk1 : OpenClaim.wfByText (OpenSpec.ofChange Rows.topTurnsSpec) Rows.topTurnsRow = true := by kernel_rfl
end Go.Proofs.YtebgbhgehnpahaaGreatDoor
namespace Go.Proofs.YtebgbhgehnpahaaGreatDoor
open Go.E
set_option linter.all false
set_option maxRecDepth 100000
theorem Nrk2 : Tryz.prog.mainIs = some ((true, Rows.topTurnsCard.stood.harness.snd).fst, (true, Rows.topTurnsCard.stood.harness.snd).snd.toList) := by kernel_rfl
theorem Nrk4 : false = Tryz.prog.looks [] := by kernel_rfl
theorem Nrk5 : ([3, 3, 3].all fun u => !Tryz.prog.wantsStandIn u) = true := by kernel_rfl
end Go.Proofs.YtebgbhgehnpahaaGreatDoor
namespace Go.Proofs.YtebgbhgehnpahaaGreatDoor
open Go.E
set_option linter.all false
set_option maxRecDepth 100000
theorem goes_by {P : Program} {c : OpenClaim} {f : Nat} (h1 : c.start = .entering) (h2 : P.funcNamed c.func = some f) (h3 : P.goes f = false) : false = c.goesBy P := by
  unfold OpenClaim.goesBy Program.goesAt Program.goesFrom
  rw [h1, h2]
  simp [h3]
theorem Nrk3 : false = Rows.topTurnsRow.goesBy Tryz.prog := goes_by rfl Nrr1 Nrgo3
end Go.Proofs.YtebgbhgehnpahaaGreatDoor
namespace Go.Proofs.YtebgbhgehnpahaaGreatDoor
open Go.E
set_option linter.all false
set_option maxRecDepth 100000
theorem topTurns_holds : Rows.TopTurnsCardSaid :=
  Claim7.holds_tied_plain_at .later [] [.data] true (true, Rows.topTurnsCard.stood.harness.2) false
    topTurns_said (fun _ h => by cases h) Nrk1 (fun _ h => by cases h) topTurns_row_tie rfl ⟨rfl, rfl⟩ Nrk2 rfl
    (fun f fn hf hfn => by
      obtain rfl : f = 4 := Option.some.inj (Nrr1.symm.trans hf) |>.symm
      obtain rfl : fn = Tryz.f4 := (Option.some.inj (Tryz.func4.symm.trans hfn)).symm
      exact ⟨Nrk4, fun j t ht => by
        rw [Tryz.params4] at ht
        have hm : t ∈ [3, 3, 3] := by simpa using Array.mem_of_getElem? ht
        exact (show Tryz.prog.wantsStandIn t = false by simpa using List.all_eq_true.1 Nrk5 t hm)⟩)
    Nrk3
end Go.Proofs.YtebgbhgehnpahaaGreatDoor
