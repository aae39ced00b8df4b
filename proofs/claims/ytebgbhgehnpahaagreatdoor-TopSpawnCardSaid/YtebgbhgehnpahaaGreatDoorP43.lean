/- A part of the proof of the claim that the last text of this folder states. -/
import Derived.Test.YtebgbhgehnpahaaGreatDoorP23
namespace Go.E
set_option linter.all false
set_option maxRecDepth 100000
theorem w50_4 : splL (calM prog nat 60) 64 4 w50S w50A w50H w50V w50R = true := by decide +kernel
theorem w50_5 : splL (calM prog nat 60) 64 5 w50S w50A w50H w50V w50R = true := by decide +kernel
theorem w50_6 : splL (calM prog nat 60) 64 6 w50S w50A w50H w50V w50R = true := by decide +kernel
theorem w50_7 : splL (calM prog nat 60) 64 7 w50S w50A w50H w50V w50R = true := by decide +kernel
theorem w50_8 : splL (calM prog nat 60) 64 8 w50S w50A w50H w50V w50R = true := by decide +kernel
theorem w50_9 : splL (calM prog nat 60) 64 9 w50S w50A w50H w50V w50R = true := by decide +kernel
set_option maxRecDepth 100000
theorem w50_10 : splL (calM prog nat 60) 64 10 w50S w50A w50H w50V w50R = true := by decide +kernel
theorem w50_11 : splL (calM prog nat 60) 64 11 w50S w50A w50H w50V w50R = true := by decide +kernel
theorem w50_12 : splL (calM prog nat 60) 64 12 w50S w50A w50H w50V w50R = true := by decide +kernel
theorem w50_13 : splL (calM prog nat 60) 64 13 w50S w50A w50H w50V w50R = true := by decide +kernel
theorem w50_14 : splL (calM prog nat 60) 64 14 w50S w50A w50H w50V w50R = true := by decide +kernel
theorem w50_15 : splL (calM prog nat 60) 64 15 w50S w50A w50H w50V w50R = true := by decide +kernel
end Go.E
