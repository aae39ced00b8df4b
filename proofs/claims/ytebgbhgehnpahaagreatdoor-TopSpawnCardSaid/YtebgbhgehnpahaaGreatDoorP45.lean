/- A part of the proof of the claim that the last text of this folder states. -/
import Derived.Test.YtebgbhgehnpahaaGreatDoorP23
namespace Go.E
set_option linter.all false
set_option maxRecDepth 100000
theorem w50_28 : splL (calM prog nat 60) 64 28 w50S w50A w50H w50V w50R = true := by decide +kernel
theorem w50_29 : splL (calM prog nat 60) 64 29 w50S w50A w50H w50V w50R = true := by decide +kernel
theorem w50_k : okR w50V w50R = true := by decide +kernel
end Go.E
