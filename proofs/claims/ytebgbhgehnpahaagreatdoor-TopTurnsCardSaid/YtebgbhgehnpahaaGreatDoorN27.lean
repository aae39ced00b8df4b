/- A part of the proof of the claim that the last text of this folder states. -/
import Derived.Test.YtebgbhgehnpahaaGreatDoorN26
namespace Go.E
set_option linter.all false
set_option maxRecDepth 100000
noncomputable def e1_22A : List V := [(.s (.p a35 0)),(.agg [(.i .i64 5),z0,z0,(.i .u64 0)])]
noncomputable def e1_22H : Hp := hset hs1_12 [] a37 0 36
noncomputable def e1_22V : V := (.s z0)
noncomputable def e1_22R : Hp := hset e1_22H [(a17,wB e1_22H a17 [(1168,37852718839251999920129)])] a37 0 36
noncomputable def e1_22S : S := (.fn a18 [])
theorem e1_22 : runB (calM prog (nat) 60 e1_22S e1_22A e1_22H) e1_22V e1_22R = true := by decide +kernel
noncomputable def e1_23A : List V := [(.s (.p a35 0)),(.agg [(.i .i64 5),z0,z0,(.i .u64 0)])]
noncomputable def e1_23H : Hp := hset hs1_13 [] a37 0 36
noncomputable def e1_23V : V := (.s z0)
noncomputable def e1_23R : Hp := hset e1_23H [(a17,wB e1_23H a17 [(1168,37852718839251999918081)])] a37 0 36
noncomputable def e1_23S : S := (.fn a18 [])
theorem e1_23 : runB (calM prog (nat) 60 e1_23S e1_23A e1_23H) e1_23V e1_23R = true := by decide +kernel
noncomputable def e1_24A : List V := [(.s (.p a35 0)),(.agg [(.i .i64 5),z0,z0,(.i .u64 0)])]
noncomputable def e1_24H : Hp := hset hs1_14 [] a37 0 36
noncomputable def e1_24V : V := (.s z0)
noncomputable def e1_24R : Hp := hset e1_24H [(a17,wBQ e1_24H a17 75498560 [(1,1024),(1040,37852718839251999926273),(1041,0),(1105,75497472),(1168,37852718839251999942657),(1169,1088)])] a37 0 36
noncomputable def e1_24S : S := (.fn a18 [])
theorem e1_24 : runB (calM prog (nat) 60 e1_24S e1_24A e1_24H) e1_24V e1_24R = true := by decide +kernel
end Go.E
