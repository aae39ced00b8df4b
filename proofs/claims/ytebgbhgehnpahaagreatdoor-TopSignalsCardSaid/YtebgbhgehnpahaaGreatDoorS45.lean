/- A part of the proof of the claim that the last text of this folder states. -/
import Derived.Test.YtebgbhgehnpahaaGreatDoorS19
import Derived.Test.YtebgbhgehnpahaaGreatDoorS21
namespace Go.Proofs.YtebgbhgehnpahaaGreatDoor
open Go.E
set_option linter.all false
set_option maxRecDepth 100000
theorem goes_by {P : Program} {c : OpenClaim} {f : Nat} (h1 : c.start = .entering) (h2 : P.funcNamed c.func = some f) (h3 : P.goes f = false) : false = c.goesBy P := by
  unfold OpenClaim.goesBy Program.goesAt Program.goesFrom
  rw [h1, h2]
  simp [h3]
theorem Srk3 : false = Rows.topSignalsRow.goesBy Tryz.prog := goes_by rfl Srr1 Srgo3
end Go.Proofs.YtebgbhgehnpahaaGreatDoor
