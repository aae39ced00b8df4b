/- A part of the proof of the claim that the last text of this folder states. -/
import Derived.Test.YtebgbhgehnpahaaGreatDoorP23
namespace Go.E
set_option linter.all false
set_option maxRecDepth 100000
theorem w50_16 : splL (calM prog nat 60) 64 16 w50S w50A w50H w50V w50R = true := by decide +kernel
theorem w50_17 : splL (calM prog nat 60) 64 17 w50S w50A w50H w50V w50R = true := by decide +kernel
theorem w50_18 : splL (calM prog nat 60) 64 18 w50S w50A w50H w50V w50R = true := by decide +kernel
theorem w50_19 : splL (calM prog nat 60) 64 19 w50S w50A w50H w50V w50R = true := by decide +kernel
theorem w50_20 : splL (calM prog nat 60) 64 20 w50S w50A w50H w50V w50R = true := by decide +kernel
theorem w50_21 : splL (calM prog nat 60) 64 21 w50S w50A w50H w50V w50R = true := by decide +kernel
set_option maxRecDepth 100000
theorem w50_22 : splL (calM prog nat 60) 64 22 w50S w50A w50H w50V w50R = true := by decide +kernel
theorem w50_23 : splL (calM prog nat 60) 64 23 w50S w50A w50H w50V w50R = true := by decide +kernel
theorem w50_24 : splL (calM prog nat 60) 64 24 w50S w50A w50H w50V w50R = true := by decide +kernel
theorem w50_25 : splL (calM prog nat 60) 64 25 w50S w50A w50H w50V w50R = true := by decide +kernel
theorem w50_26 : splL (calM prog nat 60) 64 26 w50S w50A w50H w50V w50R = true := by decide +kernel
theorem w50_27 : splL (calM prog nat 60) 64 27 w50S w50A w50H w50V w50R = true := by decide +kernel
end Go.E
