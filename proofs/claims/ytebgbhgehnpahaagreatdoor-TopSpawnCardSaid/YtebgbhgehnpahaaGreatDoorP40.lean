/- A part of the proof of the claim that the last text of this folder states. -/
import Derived.Test.YtebgbhgehnpahaaGreatDoorP23
namespace Go.E
set_option linter.all false
set_option maxRecDepth 100000
theorem w45_10 : splL (calM prog nat 60) 64 10 w45S w45A w45H w45V w45R = true := by decide +kernel
theorem w45_11 : splL (calM prog nat 60) 64 11 w45S w45A w45H w45V w45R = true := by decide +kernel
theorem w45_12 : splL (calM prog nat 60) 64 12 w45S w45A w45H w45V w45R = true := by decide +kernel
theorem w45_13 : splL (calM prog nat 60) 64 13 w45S w45A w45H w45V w45R = true := by decide +kernel
theorem w45_14 : splL (calM prog nat 60) 64 14 w45S w45A w45H w45V w45R = true := by decide +kernel
theorem w45_15 : splL (calM prog nat 60) 64 15 w45S w45A w45H w45V w45R = true := by decide +kernel
set_option maxRecDepth 100000
theorem w45_16 : splL (calM prog nat 60) 64 16 w45S w45A w45H w45V w45R = true := by decide +kernel
theorem w45_17 : splL (calM prog nat 60) 64 17 w45S w45A w45H w45V w45R = true := by decide +kernel
theorem w45_18 : splL (calM prog nat 60) 64 18 w45S w45A w45H w45V w45R = true := by decide +kernel
theorem w45_19 : splL (calM prog nat 60) 64 19 w45S w45A w45H w45V w45R = true := by decide +kernel
theorem w45_20 : splL (calM prog nat 60) 64 20 w45S w45A w45H w45V w45R = true := by decide +kernel
theorem w45_21 : splL (calM prog nat 60) 64 21 w45S w45A w45H w45V w45R = true := by decide +kernel
end Go.E
