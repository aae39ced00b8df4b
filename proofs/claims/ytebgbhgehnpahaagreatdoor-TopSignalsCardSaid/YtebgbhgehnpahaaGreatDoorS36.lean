/- A part of the proof of the claim that the last text of this folder states. -/
import Derived.Test.YtebgbhgehnpahaaGreatDoorS35
namespace Go.E
set_option linter.all false
set_option maxRecDepth 100000
theorem nil0 : valB (calM prog natS 60 (.fn a3 []) [.s .ns] (heapB tabL 0)) (.s (.b true)) = true := by decide +kernel
theorem es0 (a : Addr) (c : Nat) : valB (calM prog natS 60 (.fn a3 []) [.s (.es a c)] (heapB tabL 0)) (.s (.b true)) = true := by kernel_rfl
end Go.E
