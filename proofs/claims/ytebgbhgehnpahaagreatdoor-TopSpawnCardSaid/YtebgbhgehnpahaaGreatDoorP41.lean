/- A part of the proof of the claim that the last text of this folder states. -/
import Derived.Test.YtebgbhgehnpahaaGreatDoorP23
namespace Go.E
set_option linter.all false
set_option maxRecDepth 100000
theorem w45_22 : splL (calM prog nat 60) 64 22 w45S w45A w45H w45V w45R = true := by decide +kernel
theorem w45_23 : splL (calM prog nat 60) 64 23 w45S w45A w45H w45V w45R = true := by decide +kernel
theorem w45_24 : splL (calM prog nat 60) 64 24 w45S w45A w45H w45V w45R = true := by decide +kernel
theorem w45_25 : splL (calM prog nat 60) 64 25 w45S w45A w45H w45V w45R = true := by decide +kernel
theorem w45_26 : splL (calM prog nat 60) 64 26 w45S w45A w45H w45V w45R = true := by decide +kernel
theorem w45_27 : splL (calM prog nat 60) 64 27 w45S w45A w45H w45V w45R = true := by decide +kernel
set_option maxRecDepth 100000
theorem w45_28 : splL (calM prog nat 60) 64 28 w45S w45A w45H w45V w45R = true := by decide +kernel
theorem w45_29 : splL (calM prog nat 60) 64 29 w45S w45A w45H w45V w45R = true := by decide +kernel
theorem w45_k : okR w45V w45R = true := by decide +kernel
theorem w47_0 : splL (calM prog nat 60) 64 0 w47S w47A w47H w47V w47R = true := by decide +kernel
theorem w47_1 : splL (calM prog nat 60) 64 1 w47S w47A w47H w47V w47R = true := by decide +kernel
theorem w47_2 : splL (calM prog nat 60) 64 2 w47S w47A w47H w47V w47R = true := by decide +kernel
theorem w47_3 : splL (calM prog nat 60) 64 3 w47S w47A w47H w47V w47R = true := by decide +kernel
theorem w47_4 : splL (calM prog nat 60) 64 4 w47S w47A w47H w47V w47R = true := by decide +kernel
theorem w47_5 : splL (calM prog nat 60) 64 5 w47S w47A w47H w47V w47R = true := by decide +kernel
theorem w47_6 : splL (calM prog nat 60) 64 6 w47S w47A w47H w47V w47R = true := by decide +kernel
theorem w47_7 : splL (calM prog nat 60) 64 7 w47S w47A w47H w47V w47R = true := by decide +kernel
theorem w47_8 : splL (calM prog nat 60) 64 8 w47S w47A w47H w47V w47R = true := by decide +kernel
theorem w47_9 : splL (calM prog nat 60) 64 9 w47S w47A w47H w47V w47R = true := by decide +kernel
theorem w47_10 : splL (calM prog nat 60) 64 10 w47S w47A w47H w47V w47R = true := by decide +kernel
theorem w47_11 : splL (calM prog nat 60) 64 11 w47S w47A w47H w47V w47R = true := by decide +kernel
theorem w47_12 : splL (calM prog nat 60) 64 12 w47S w47A w47H w47V w47R = true := by decide +kernel
theorem w47_13 : splL (calM prog nat 60) 64 13 w47S w47A w47H w47V w47R = true := by decide +kernel
theorem w47_14 : splL (calM prog nat 60) 64 14 w47S w47A w47H w47V w47R = true := by decide +kernel
theorem w47_15 : splL (calM prog nat 60) 64 15 w47S w47A w47H w47V w47R = true := by decide +kernel
theorem w47_16 : splL (calM prog nat 60) 64 16 w47S w47A w47H w47V w47R = true := by decide +kernel
theorem w47_17 : splL (calM prog nat 60) 64 17 w47S w47A w47H w47V w47R = true := by decide +kernel
theorem w47_18 : splL (calM prog nat 60) 64 18 w47S w47A w47H w47V w47R = true := by decide +kernel
theorem w47_19 : splL (calM prog nat 60) 64 19 w47S w47A w47H w47V w47R = true := by decide +kernel
theorem w47_20 : splL (calM prog nat 60) 64 20 w47S w47A w47H w47V w47R = true := by decide +kernel
theorem w47_21 : splL (calM prog nat 60) 64 21 w47S w47A w47H w47V w47R = true := by decide +kernel
theorem w47_22 : splL (calM prog nat 60) 64 22 w47S w47A w47H w47V w47R = true := by decide +kernel
theorem w47_23 : splL (calM prog nat 60) 64 23 w47S w47A w47H w47V w47R = true := by decide +kernel
theorem w47_24 : splL (calM prog nat 60) 64 24 w47S w47A w47H w47V w47R = true := by decide +kernel
theorem w47_25 : splL (calM prog nat 60) 64 25 w47S w47A w47H w47V w47R = true := by decide +kernel
theorem w47_26 : splL (calM prog nat 60) 64 26 w47S w47A w47H w47V w47R = true := by decide +kernel
end Go.E
