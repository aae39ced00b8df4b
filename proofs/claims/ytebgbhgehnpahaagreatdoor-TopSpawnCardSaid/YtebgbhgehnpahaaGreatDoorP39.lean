/- A part of the proof of the claim that the last text of this folder states. -/
import Derived.Test.YtebgbhgehnpahaaGreatDoorP23
namespace Go.E
set_option linter.all false
set_option maxRecDepth 100000
theorem w44_20 : splL (calM prog nat 60) 64 20 w44S w44A w44H w44V w44R = true := by decide +kernel
theorem w44_21 : splL (calM prog nat 60) 64 21 w44S w44A w44H w44V w44R = true := by decide +kernel
theorem w44_22 : splL (calM prog nat 60) 64 22 w44S w44A w44H w44V w44R = true := by decide +kernel
theorem w44_23 : splL (calM prog nat 60) 64 23 w44S w44A w44H w44V w44R = true := by decide +kernel
theorem w44_24 : splL (calM prog nat 60) 64 24 w44S w44A w44H w44V w44R = true := by decide +kernel
theorem w44_25 : splL (calM prog nat 60) 64 25 w44S w44A w44H w44V w44R = true := by decide +kernel
theorem w44_26 : splL (calM prog nat 60) 64 26 w44S w44A w44H w44V w44R = true := by decide +kernel
theorem w44_27 : splL (calM prog nat 60) 64 27 w44S w44A w44H w44V w44R = true := by decide +kernel
theorem w44_28 : splL (calM prog nat 60) 64 28 w44S w44A w44H w44V w44R = true := by decide +kernel
theorem w44_29 : splL (calM prog nat 60) 64 29 w44S w44A w44H w44V w44R = true := by decide +kernel
theorem w44_k : okR w44V w44R = true := by decide +kernel
theorem w45_0 : splL (calM prog nat 60) 64 0 w45S w45A w45H w45V w45R = true := by decide +kernel
theorem w45_1 : splL (calM prog nat 60) 64 1 w45S w45A w45H w45V w45R = true := by decide +kernel
theorem w45_2 : splL (calM prog nat 60) 64 2 w45S w45A w45H w45V w45R = true := by decide +kernel
theorem w45_3 : splL (calM prog nat 60) 64 3 w45S w45A w45H w45V w45R = true := by decide +kernel
set_option maxRecDepth 100000
theorem w45_4 : splL (calM prog nat 60) 64 4 w45S w45A w45H w45V w45R = true := by decide +kernel
theorem w45_5 : splL (calM prog nat 60) 64 5 w45S w45A w45H w45V w45R = true := by decide +kernel
theorem w45_6 : splL (calM prog nat 60) 64 6 w45S w45A w45H w45V w45R = true := by decide +kernel
theorem w45_7 : splL (calM prog nat 60) 64 7 w45S w45A w45H w45V w45R = true := by decide +kernel
theorem w45_8 : splL (calM prog nat 60) 64 8 w45S w45A w45H w45V w45R = true := by decide +kernel
theorem w45_9 : splL (calM prog nat 60) 64 9 w45S w45A w45H w45V w45R = true := by decide +kernel
end Go.E
