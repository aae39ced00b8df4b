/- A part of the proof of the claim that the last text of this folder states. -/
import Derived.Test.YtebgbhgehnpahaaGreatDoorN32
namespace Go.E
set_option linter.all false
set_option maxRecDepth 100000
noncomputable def e3_34A : List V := [(.s (.p a45 0)),(.agg [(.i .i64 5),z0,z0,(.i .u64 0)])]
noncomputable def e3_34H : Hp := hset hs3_24 [] a47 0 46
noncomputable def e3_34V : V := (.s z0)
noncomputable def e3_34R : Hp := hset e3_34H [(a23,wBQ e3_34H a23 83887168 [(1,1024),(1040,37852718839251999926273),(1041,0),(1105,75497472),(1233,83887232),(1296,37852718839251999942657),(1297,1216)])] a47 0 46
noncomputable def e3_34S : S := (.fn a18 [])
theorem e3_34 : runB (calM prog (nat) 60 e3_34S e3_34A e3_34H) e3_34V e3_34R = true := by decide +kernel
end Go.E
