/- A part of the proof of the claim that the last text of this folder states. -/
import Derived.Test.YtebgbhgehnpahaaGreatDoorP23
namespace Go.E
set_option linter.all false
set_option maxRecDepth 100000
theorem w35_21 : splL (calM prog nat 60) 64 21 w35S w35A w35H w35V w35R = true := by decide +kernel
theorem w35_22 : splL (calM prog nat 60) 64 22 w35S w35A w35H w35V w35R = true := by decide +kernel
theorem w35_23 : splL (calM prog nat 60) 64 23 w35S w35A w35H w35V w35R = true := by decide +kernel
theorem w35_24 : splL (calM prog nat 60) 64 24 w35S w35A w35H w35V w35R = true := by decide +kernel
theorem w35_25 : splL (calM prog nat 60) 64 25 w35S w35A w35H w35V w35R = true := by decide +kernel
theorem w35_26 : splL (calM prog nat 60) 64 26 w35S w35A w35H w35V w35R = true := by decide +kernel
theorem w35_27 : splL (calM prog nat 60) 64 27 w35S w35A w35H w35V w35R = true := by decide +kernel
theorem w35_28 : splL (calM prog nat 60) 64 28 w35S w35A w35H w35V w35R = true := by decide +kernel
theorem w35_29 : splL (calM prog nat 60) 64 29 w35S w35A w35H w35V w35R = true := by decide +kernel
theorem w35_k : okR w35V w35R = true := by decide +kernel
theorem w36_0 : splL (calM prog nat 60) 64 0 w36S w36A w36H w36V w36R = true := by decide +kernel
theorem w36_1 : splL (calM prog nat 60) 64 1 w36S w36A w36H w36V w36R = true := by decide +kernel
theorem w36_2 : splL (calM prog nat 60) 64 2 w36S w36A w36H w36V w36R = true := by decide +kernel
theorem w36_3 : splL (calM prog nat 60) 64 3 w36S w36A w36H w36V w36R = true := by decide +kernel
set_option maxRecDepth 100000
theorem w36_4 : splL (calM prog nat 60) 64 4 w36S w36A w36H w36V w36R = true := by decide +kernel
theorem w36_5 : splL (calM prog nat 60) 64 5 w36S w36A w36H w36V w36R = true := by decide +kernel
theorem w36_6 : splL (calM prog nat 60) 64 6 w36S w36A w36H w36V w36R = true := by decide +kernel
theorem w36_7 : splL (calM prog nat 60) 64 7 w36S w36A w36H w36V w36R = true := by decide +kernel
theorem w36_8 : splL (calM prog nat 60) 64 8 w36S w36A w36H w36V w36R = true := by decide +kernel
theorem w36_9 : splL (calM prog nat 60) 64 9 w36S w36A w36H w36V w36R = true := by decide +kernel
end Go.E
