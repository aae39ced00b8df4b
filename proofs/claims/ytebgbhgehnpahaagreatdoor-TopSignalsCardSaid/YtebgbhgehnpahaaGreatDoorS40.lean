/- A part of the proof of the claim that the last text of this folder states. -/
import Derived.Test.YtebgbhgehnpahaaGreatDoorS35
namespace Go.E
set_option linter.all false
set_option maxRecDepth 100000
theorem sg4 : (runS 4294967300 4 4 && (verS 4294967300 4 4 && posS 4294967300 4 4)) = true := by decide +kernel
theorem sg8 : (runS 4294967304 8 8 && (verS 4294967304 8 8 && posS 4294967304 8 8)) = true := by decide +kernel
theorem sg12 : (runS 4294967308 12 12 && (verS 4294967308 12 12 && posS 4294967308 12 12)) = true := by decide +kernel
theorem sg16 : (runS 4294967312 16 16 && (verS 4294967312 16 16 && posS 4294967312 16 16)) = true := by decide +kernel
theorem sg20 : (runS 4294967316 20 20 && (verS 4294967316 20 20 && posS 4294967316 20 20)) = true := by decide +kernel
theorem sg24 : (runS 4294967320 24 24 && (verS 4294967320 24 24 && posS 4294967320 24 24)) = true := by decide +kernel
theorem sg28 : (runS 4294967324 28 28 && (verS 4294967324 28 28 && posS 4294967324 28 28)) = true := by decide +kernel
end Go.E
