/- A part of the proof of the claim that the last text of this folder states. -/
import Derived.Test.YtebgbhgehnpahaaGreatDoorP23
namespace Go.E
set_option linter.all false
set_option maxRecDepth 100000
theorem w21_15 : splL (calM prog nat 60) 64 15 w21S w21A w21H w21V w21R = true := by decide +kernel
theorem w21_16 : splL (calM prog nat 60) 64 16 w21S w21A w21H w21V w21R = true := by decide +kernel
theorem w21_17 : splL (calM prog nat 60) 64 17 w21S w21A w21H w21V w21R = true := by decide +kernel
theorem w21_18 : splL (calM prog nat 60) 64 18 w21S w21A w21H w21V w21R = true := by decide +kernel
theorem w21_19 : splL (calM prog nat 60) 64 19 w21S w21A w21H w21V w21R = true := by decide +kernel
theorem w21_20 : splL (calM prog nat 60) 64 20 w21S w21A w21H w21V w21R = true := by decide +kernel
set_option maxRecDepth 100000
theorem w21_21 : splL (calM prog nat 60) 64 21 w21S w21A w21H w21V w21R = true := by decide +kernel
theorem w21_22 : splL (calM prog nat 60) 64 22 w21S w21A w21H w21V w21R = true := by decide +kernel
theorem w21_23 : splL (calM prog nat 60) 64 23 w21S w21A w21H w21V w21R = true := by decide +kernel
theorem w21_24 : splL (calM prog nat 60) 64 24 w21S w21A w21H w21V w21R = true := by decide +kernel
theorem w21_25 : splL (calM prog nat 60) 64 25 w21S w21A w21H w21V w21R = true := by decide +kernel
theorem w21_26 : splL (calM prog nat 60) 64 26 w21S w21A w21H w21V w21R = true := by decide +kernel
end Go.E
