/- A part of the proof of the claim that the last text of this folder states. -/
import Derived.Test.YtebgbhgehnpahaaGreatDoorS35
namespace Go.E
set_option linter.all false
set_option maxRecDepth 100000
theorem sg3 : (runS 4294967299 3 3 && (verS 4294967299 3 3 && posS 4294967299 3 3)) = true := by decide +kernel
theorem sg7 : (runS 4294967303 7 7 && (verS 4294967303 7 7 && posS 4294967303 7 7)) = true := by decide +kernel
theorem sg11 : (runS 4294967307 11 11 && (verS 4294967307 11 11 && posS 4294967307 11 11)) = true := by decide +kernel
theorem sg15 : (runS 4294967311 15 15 && (verS 4294967311 15 15 && posS 4294967311 15 15)) = true := by decide +kernel
theorem sg19 : (runS 4294967315 19 19 && (verS 4294967315 19 19 && posS 4294967315 19 19)) = true := by decide +kernel
theorem sg23 : (runS 4294967319 23 23 && (verS 4294967319 23 23 && posS 4294967319 23 23)) = true := by decide +kernel
theorem sg27 : (runS 4294967323 27 27 && (verS 4294967323 27 27 && posS 4294967323 27 27)) = true := by decide +kernel
theorem sg31 : (runS 31 31 30 && (verS 31 31 30 && posS 31 31 30)) = true := by decide +kernel
end Go.E
