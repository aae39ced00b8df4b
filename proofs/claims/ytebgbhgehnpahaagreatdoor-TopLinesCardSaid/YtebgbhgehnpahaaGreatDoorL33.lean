/- A part of the proof of the claim that the last text of this folder states. -/
import Derived.Test.YtebgbhgehnpahaaGreatDoorL26
import Derived.Test.YtebgbhgehnpahaaGreatDoorL32
namespace Go.E
set_option linter.all false
set_option maxRecDepth 100000
noncomputable def dL : DJ := (dp2 (dp2 (dp2 (dp2 (dp2 (dp2 (dp2 (dp2 (dp2 (fb f9))))))))))
noncomputable def dB : DJ := dp1 (dp1 (dp2 (dp1 dL)))
noncomputable def js9 : List WJ := [.leaf (dp1 (fb f9)), .leaf (dp1 (dp2 (fb f9))), .leaf (dp1 (dp2 (dp2 (fb f9)))), .leaf (dp1 (dp2 (dp2 (dp2 (fb f9))))), .leaf (dp1 (dp2 (dp2 (dp2 (dp2 (fb f9)))))), .leaf (dp1 (dp2 (dp2 (dp2 (dp2 (dp2 (fb f9))))))), .leaf (dp1 (dp2 (dp2 (dp2 (dp2 (dp2 (dp2 (fb f9)))))))), .leaf (dp1 (dp2 (dp2 (dp2 (dp2 (dp2 (dp2 (dp2 (fb f9))))))))), .leaf (dp1 (dp2 (dp2 (dp2 (dp2 (dp2 (dp2 (dp2 (dp2 (fb f9))))))))))]
noncomputable def jI : WJ := .leaf (dp1 (dp1 dL))
noncomputable def jZ : WJ := .leaf (dp2 dL)
noncomputable def jB : WJ := .seq (.seq (.leaf (dp1 (dp1 dB))) (.cond (.t a51) (.leaf .skip) (.leaf (.exit 0)))) (.leaf (dp2 dB))
end Go.E
