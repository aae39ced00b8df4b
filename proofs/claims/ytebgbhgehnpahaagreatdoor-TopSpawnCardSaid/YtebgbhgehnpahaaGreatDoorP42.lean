/- A part of the proof of the claim that the last text of this folder states. -/
import Derived.Test.YtebgbhgehnpahaaGreatDoorP23
namespace Go.E
set_option linter.all false
set_option maxRecDepth 100000
theorem w47_27 : splL (calM prog nat 60) 64 27 w47S w47A w47H w47V w47R = true := by decide +kernel
theorem w47_28 : splL (calM prog nat 60) 64 28 w47S w47A w47H w47V w47R = true := by decide +kernel
theorem w47_29 : splL (calM prog nat 60) 64 29 w47S w47A w47H w47V w47R = true := by decide +kernel
theorem w47_k : okR w47V w47R = true := by decide +kernel
theorem w46 : runB (calM prog (orC (memS w47S w47A w47H w47V w47R) (nat)) 60 w46S w46A w46H) w46V w46R = true := by decide +kernel
theorem w49_0 : splL (calM prog nat 60) 64 0 w49S w49A w49H w49V w49R = true := by decide +kernel
theorem w49_1 : splL (calM prog nat 60) 64 1 w49S w49A w49H w49V w49R = true := by decide +kernel
theorem w49_2 : splL (calM prog nat 60) 64 2 w49S w49A w49H w49V w49R = true := by decide +kernel
theorem w49_3 : splL (calM prog nat 60) 64 3 w49S w49A w49H w49V w49R = true := by decide +kernel
theorem w49_4 : splL (calM prog nat 60) 64 4 w49S w49A w49H w49V w49R = true := by decide +kernel
theorem w49_5 : splL (calM prog nat 60) 64 5 w49S w49A w49H w49V w49R = true := by decide +kernel
theorem w49_6 : splL (calM prog nat 60) 64 6 w49S w49A w49H w49V w49R = true := by decide +kernel
theorem w49_7 : splL (calM prog nat 60) 64 7 w49S w49A w49H w49V w49R = true := by decide +kernel
theorem w49_8 : splL (calM prog nat 60) 64 8 w49S w49A w49H w49V w49R = true := by decide +kernel
theorem w49_9 : splL (calM prog nat 60) 64 9 w49S w49A w49H w49V w49R = true := by decide +kernel
theorem w49_10 : splL (calM prog nat 60) 64 10 w49S w49A w49H w49V w49R = true := by decide +kernel
theorem w49_11 : splL (calM prog nat 60) 64 11 w49S w49A w49H w49V w49R = true := by decide +kernel
theorem w49_12 : splL (calM prog nat 60) 64 12 w49S w49A w49H w49V w49R = true := by decide +kernel
theorem w49_13 : splL (calM prog nat 60) 64 13 w49S w49A w49H w49V w49R = true := by decide +kernel
theorem w49_14 : splL (calM prog nat 60) 64 14 w49S w49A w49H w49V w49R = true := by decide +kernel
theorem w49_15 : splL (calM prog nat 60) 64 15 w49S w49A w49H w49V w49R = true := by decide +kernel
theorem w49_16 : splL (calM prog nat 60) 64 16 w49S w49A w49H w49V w49R = true := by decide +kernel
theorem w49_17 : splL (calM prog nat 60) 64 17 w49S w49A w49H w49V w49R = true := by decide +kernel
theorem w49_18 : splL (calM prog nat 60) 64 18 w49S w49A w49H w49V w49R = true := by decide +kernel
theorem w49_19 : splL (calM prog nat 60) 64 19 w49S w49A w49H w49V w49R = true := by decide +kernel
set_option maxRecDepth 100000
theorem w49_20 : splL (calM prog nat 60) 64 20 w49S w49A w49H w49V w49R = true := by decide +kernel
theorem w49_21 : splL (calM prog nat 60) 64 21 w49S w49A w49H w49V w49R = true := by decide +kernel
theorem w49_22 : splL (calM prog nat 60) 64 22 w49S w49A w49H w49V w49R = true := by decide +kernel
theorem w49_23 : splL (calM prog nat 60) 64 23 w49S w49A w49H w49V w49R = true := by decide +kernel
theorem w49_24 : splL (calM prog nat 60) 64 24 w49S w49A w49H w49V w49R = true := by decide +kernel
theorem w49_25 : splL (calM prog nat 60) 64 25 w49S w49A w49H w49V w49R = true := by decide +kernel
theorem w49_26 : splL (calM prog nat 60) 64 26 w49S w49A w49H w49V w49R = true := by decide +kernel
theorem w49_27 : splL (calM prog nat 60) 64 27 w49S w49A w49H w49V w49R = true := by decide +kernel
theorem w49_28 : splL (calM prog nat 60) 64 28 w49S w49A w49H w49V w49R = true := by decide +kernel
theorem w49_29 : splL (calM prog nat 60) 64 29 w49S w49A w49H w49V w49R = true := by decide +kernel
theorem w49_k : okR w49V w49R = true := by decide +kernel
theorem w50_0 : splL (calM prog nat 60) 64 0 w50S w50A w50H w50V w50R = true := by decide +kernel
theorem w50_1 : splL (calM prog nat 60) 64 1 w50S w50A w50H w50V w50R = true := by decide +kernel
theorem w50_2 : splL (calM prog nat 60) 64 2 w50S w50A w50H w50V w50R = true := by decide +kernel
theorem w50_3 : splL (calM prog nat 60) 64 3 w50S w50A w50H w50V w50R = true := by decide +kernel
end Go.E
