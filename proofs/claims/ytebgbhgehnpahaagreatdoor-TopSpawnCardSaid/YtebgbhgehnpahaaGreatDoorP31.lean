/- A part of the proof of the claim that the last text of this folder states. -/
import Derived.Test.YtebgbhgehnpahaaGreatDoorP23
namespace Go.E
set_option linter.all false
set_option maxRecDepth 100000
theorem w21_3 : splL (calM prog nat 60) 64 3 w21S w21A w21H w21V w21R = true := by decide +kernel
theorem w21_4 : splL (calM prog nat 60) 64 4 w21S w21A w21H w21V w21R = true := by decide +kernel
theorem w21_5 : splL (calM prog nat 60) 64 5 w21S w21A w21H w21V w21R = true := by decide +kernel
theorem w21_6 : splL (calM prog nat 60) 64 6 w21S w21A w21H w21V w21R = true := by decide +kernel
theorem w21_7 : splL (calM prog nat 60) 64 7 w21S w21A w21H w21V w21R = true := by decide +kernel
theorem w21_8 : splL (calM prog nat 60) 64 8 w21S w21A w21H w21V w21R = true := by decide +kernel
set_option maxRecDepth 100000
theorem w21_9 : splL (calM prog nat 60) 64 9 w21S w21A w21H w21V w21R = true := by decide +kernel
theorem w21_10 : splL (calM prog nat 60) 64 10 w21S w21A w21H w21V w21R = true := by decide +kernel
theorem w21_11 : splL (calM prog nat 60) 64 11 w21S w21A w21H w21V w21R = true := by decide +kernel
theorem w21_12 : splL (calM prog nat 60) 64 12 w21S w21A w21H w21V w21R = true := by decide +kernel
theorem w21_13 : splL (calM prog nat 60) 64 13 w21S w21A w21H w21V w21R = true := by decide +kernel
theorem w21_14 : splL (calM prog nat 60) 64 14 w21S w21A w21H w21V w21R = true := by decide +kernel
end Go.E
