/- A part of the proof of the claim that the last text of this folder states. -/
import Derived.Test.YtebgbhgehnpahaaGreatDoorP23
namespace Go.E
set_option linter.all false
set_option maxRecDepth 100000
theorem w36_10 : splL (calM prog nat 60) 64 10 w36S w36A w36H w36V w36R = true := by decide +kernel
theorem w36_11 : splL (calM prog nat 60) 64 11 w36S w36A w36H w36V w36R = true := by decide +kernel
theorem w36_12 : splL (calM prog nat 60) 64 12 w36S w36A w36H w36V w36R = true := by decide +kernel
theorem w36_13 : splL (calM prog nat 60) 64 13 w36S w36A w36H w36V w36R = true := by decide +kernel
theorem w36_14 : splL (calM prog nat 60) 64 14 w36S w36A w36H w36V w36R = true := by decide +kernel
theorem w36_15 : splL (calM prog nat 60) 64 15 w36S w36A w36H w36V w36R = true := by decide +kernel
set_option maxRecDepth 100000
theorem w36_16 : splL (calM prog nat 60) 64 16 w36S w36A w36H w36V w36R = true := by decide +kernel
theorem w36_17 : splL (calM prog nat 60) 64 17 w36S w36A w36H w36V w36R = true := by decide +kernel
theorem w36_18 : splL (calM prog nat 60) 64 18 w36S w36A w36H w36V w36R = true := by decide +kernel
theorem w36_19 : splL (calM prog nat 60) 64 19 w36S w36A w36H w36V w36R = true := by decide +kernel
theorem w36_20 : splL (calM prog nat 60) 64 20 w36S w36A w36H w36V w36R = true := by decide +kernel
theorem w36_21 : splL (calM prog nat 60) 64 21 w36S w36A w36H w36V w36R = true := by decide +kernel
end Go.E
