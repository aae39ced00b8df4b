/- A part of the proof of the claim that the last text of this folder states. -/
import Derived.Test.YtebgbhgehnpahaaGreatDoorP23
namespace Go.E
set_option linter.all false
set_option maxRecDepth 100000
theorem w8_6 : splL (calM prog nat 60) 64 6 w8S w8A w8H w8V w8R = true := by decide +kernel
theorem w8_7 : splL (calM prog nat 60) 64 7 w8S w8A w8H w8V w8R = true := by decide +kernel
theorem w8_8 : splL (calM prog nat 60) 64 8 w8S w8A w8H w8V w8R = true := by decide +kernel
theorem w8_9 : splL (calM prog nat 60) 64 9 w8S w8A w8H w8V w8R = true := by decide +kernel
theorem w8_10 : splL (calM prog nat 60) 64 10 w8S w8A w8H w8V w8R = true := by decide +kernel
theorem w8_11 : splL (calM prog nat 60) 64 11 w8S w8A w8H w8V w8R = true := by decide +kernel
theorem w8_12 : splL (calM prog nat 60) 64 12 w8S w8A w8H w8V w8R = true := by decide +kernel
theorem w8_13 : splL (calM prog nat 60) 64 13 w8S w8A w8H w8V w8R = true := by decide +kernel
theorem w8_14 : splL (calM prog nat 60) 64 14 w8S w8A w8H w8V w8R = true := by decide +kernel
theorem w8_15 : splL (calM prog nat 60) 64 15 w8S w8A w8H w8V w8R = true := by decide +kernel
theorem w8_16 : splL (calM prog nat 60) 64 16 w8S w8A w8H w8V w8R = true := by decide +kernel
theorem w8_17 : splL (calM prog nat 60) 64 17 w8S w8A w8H w8V w8R = true := by decide +kernel
theorem w8_18 : splL (calM prog nat 60) 64 18 w8S w8A w8H w8V w8R = true := by decide +kernel
theorem w8_19 : splL (calM prog nat 60) 64 19 w8S w8A w8H w8V w8R = true := by decide +kernel
theorem w8_20 : splL (calM prog nat 60) 64 20 w8S w8A w8H w8V w8R = true := by decide +kernel
theorem w8_21 : splL (calM prog nat 60) 64 21 w8S w8A w8H w8V w8R = true := by decide +kernel
theorem w8_22 : splL (calM prog nat 60) 64 22 w8S w8A w8H w8V w8R = true := by decide +kernel
theorem w8_23 : splL (calM prog nat 60) 64 23 w8S w8A w8H w8V w8R = true := by decide +kernel
theorem w8_24 : splL (calM prog nat 60) 64 24 w8S w8A w8H w8V w8R = true := by decide +kernel
theorem w8_25 : splL (calM prog nat 60) 64 25 w8S w8A w8H w8V w8R = true := by decide +kernel
theorem w8_26 : splL (calM prog nat 60) 64 26 w8S w8A w8H w8V w8R = true := by decide +kernel
theorem w8_27 : splL (calM prog nat 60) 64 27 w8S w8A w8H w8V w8R = true := by decide +kernel
theorem w8_28 : splL (calM prog nat 60) 64 28 w8S w8A w8H w8V w8R = true := by decide +kernel
theorem w8_29 : splL (calM prog nat 60) 64 29 w8S w8A w8H w8V w8R = true := by decide +kernel
theorem w8_k : okR w8V w8R = true := by decide +kernel
theorem w9_0 : splL (calM prog nat 60) 80 0 w9S w9A w9H w9V w9R = true := by decide +kernel
theorem w9_1 : splL (calM prog nat 60) 80 1 w9S w9A w9H w9V w9R = true := by decide +kernel
theorem w9_2 : splL (calM prog nat 60) 80 2 w9S w9A w9H w9V w9R = true := by decide +kernel
theorem w9_3 : splL (calM prog nat 60) 80 3 w9S w9A w9H w9V w9R = true := by decide +kernel
theorem w9_4 : splL (calM prog nat 60) 80 4 w9S w9A w9H w9V w9R = true := by decide +kernel
theorem w9_5 : splL (calM prog nat 60) 80 5 w9S w9A w9H w9V w9R = true := by decide +kernel
theorem w9_6 : splL (calM prog nat 60) 80 6 w9S w9A w9H w9V w9R = true := by decide +kernel
theorem w9_7 : splL (calM prog nat 60) 80 7 w9S w9A w9H w9V w9R = true := by decide +kernel
theorem w9_8 : splL (calM prog nat 60) 80 8 w9S w9A w9H w9V w9R = true := by decide +kernel
theorem w9_9 : splL (calM prog nat 60) 80 9 w9S w9A w9H w9V w9R = true := by decide +kernel
theorem w9_10 : splL (calM prog nat 60) 80 10 w9S w9A w9H w9V w9R = true := by decide +kernel
theorem w9_11 : splL (calM prog nat 60) 80 11 w9S w9A w9H w9V w9R = true := by decide +kernel
theorem w9_12 : splL (calM prog nat 60) 80 12 w9S w9A w9H w9V w9R = true := by decide +kernel
theorem w9_13 : splL (calM prog nat 60) 80 13 w9S w9A w9H w9V w9R = true := by decide +kernel
theorem w9_14 : splL (calM prog nat 60) 80 14 w9S w9A w9H w9V w9R = true := by decide +kernel
theorem w9_15 : splL (calM prog nat 60) 80 15 w9S w9A w9H w9V w9R = true := by decide +kernel
theorem w9_k : okR w9V w9R = true := by decide +kernel
theorem w7 : runB (calM prog (orC (memS w8S w8A w8H w8V w8R) (orC (memS w9S w9A w9H w9V w9R) (nat))) 60 w7S w7A w7H) w7V w7R = true := by decide +kernel
theorem w10 : runB (calM prog (nat) 60 w10S w10A w10H) w10V w10R = true := by decide +kernel
theorem w12_0 : splL (calM prog nat 60) 64 0 w12S w12A w12H w12V w12R = true := by decide +kernel
theorem w12_1 : splL (calM prog nat 60) 64 1 w12S w12A w12H w12V w12R = true := by decide +kernel
theorem w12_2 : splL (calM prog nat 60) 64 2 w12S w12A w12H w12V w12R = true := by decide +kernel
theorem w12_3 : splL (calM prog nat 60) 64 3 w12S w12A w12H w12V w12R = true := by decide +kernel
theorem w12_4 : splL (calM prog nat 60) 64 4 w12S w12A w12H w12V w12R = true := by decide +kernel
theorem w12_5 : splL (calM prog nat 60) 64 5 w12S w12A w12H w12V w12R = true := by decide +kernel
theorem w12_6 : splL (calM prog nat 60) 64 6 w12S w12A w12H w12V w12R = true := by decide +kernel
theorem w12_7 : splL (calM prog nat 60) 64 7 w12S w12A w12H w12V w12R = true := by decide +kernel
theorem w12_8 : splL (calM prog nat 60) 64 8 w12S w12A w12H w12V w12R = true := by decide +kernel
theorem w12_9 : splL (calM prog nat 60) 64 9 w12S w12A w12H w12V w12R = true := by decide +kernel
theorem w12_10 : splL (calM prog nat 60) 64 10 w12S w12A w12H w12V w12R = true := by decide +kernel
theorem w12_11 : splL (calM prog nat 60) 64 11 w12S w12A w12H w12V w12R = true := by decide +kernel
theorem w12_12 : splL (calM prog nat 60) 64 12 w12S w12A w12H w12V w12R = true := by decide +kernel
theorem w12_13 : splL (calM prog nat 60) 64 13 w12S w12A w12H w12V w12R = true := by decide +kernel
theorem w12_14 : splL (calM prog nat 60) 64 14 w12S w12A w12H w12V w12R = true := by decide +kernel
theorem w12_15 : splL (calM prog nat 60) 64 15 w12S w12A w12H w12V w12R = true := by decide +kernel
theorem w12_16 : splL (calM prog nat 60) 64 16 w12S w12A w12H w12V w12R = true := by decide +kernel
theorem w12_17 : splL (calM prog nat 60) 64 17 w12S w12A w12H w12V w12R = true := by decide +kernel
theorem w12_18 : splL (calM prog nat 60) 64 18 w12S w12A w12H w12V w12R = true := by decide +kernel
theorem w12_19 : splL (calM prog nat 60) 64 19 w12S w12A w12H w12V w12R = true := by decide +kernel
theorem w12_20 : splL (calM prog nat 60) 64 20 w12S w12A w12H w12V w12R = true := by decide +kernel
theorem w12_21 : splL (calM prog nat 60) 64 21 w12S w12A w12H w12V w12R = true := by decide +kernel
theorem w12_22 : splL (calM prog nat 60) 64 22 w12S w12A w12H w12V w12R = true := by decide +kernel
theorem w12_23 : splL (calM prog nat 60) 64 23 w12S w12A w12H w12V w12R = true := by decide +kernel
theorem w12_24 : splL (calM prog nat 60) 64 24 w12S w12A w12H w12V w12R = true := by decide +kernel
theorem w12_25 : splL (calM prog nat 60) 64 25 w12S w12A w12H w12V w12R = true := by decide +kernel
theorem w12_26 : splL (calM prog nat 60) 64 26 w12S w12A w12H w12V w12R = true := by decide +kernel
theorem w12_27 : splL (calM prog nat 60) 64 27 w12S w12A w12H w12V w12R = true := by decide +kernel
theorem w12_28 : splL (calM prog nat 60) 64 28 w12S w12A w12H w12V w12R = true := by decide +kernel
theorem w12_29 : splL (calM prog nat 60) 64 29 w12S w12A w12H w12V w12R = true := by decide +kernel
theorem w12_k : okR w12V w12R = true := by decide +kernel
end Go.E
