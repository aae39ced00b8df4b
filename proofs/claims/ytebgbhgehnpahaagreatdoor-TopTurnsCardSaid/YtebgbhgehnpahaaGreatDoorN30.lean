/- A part of the proof of the claim that the last text of this folder states. -/
import Derived.Test.YtebgbhgehnpahaaGreatDoorN29
namespace Go.E
set_option linter.all false
set_option maxRecDepth 100000
noncomputable def e2_22A : List V := [(.s (.p a40 0)),(.agg [(.i .i64 5),z0,z0,(.i .u64 0)])]
noncomputable def e2_22H : Hp := hset hs2_12 [] a42 0 41
noncomputable def e2_22V : V := (.s z0)
noncomputable def e2_22R : Hp := hset e2_22H [(a20,wB e2_22H a20 [(1168,37852718839251999920129)])] a42 0 41
noncomputable def e2_22S : S := (.fn a18 [])
theorem e2_22 : runB (calM prog (nat) 60 e2_22S e2_22A e2_22H) e2_22V e2_22R = true := by decide +kernel
noncomputable def e2_23A : List V := [(.s (.p a40 0)),(.agg [(.i .i64 5),z0,z0,(.i .u64 0)])]
noncomputable def e2_23H : Hp := hset hs2_13 [] a42 0 41
noncomputable def e2_23V : V := (.s z0)
noncomputable def e2_23R : Hp := hset e2_23H [(a20,wB e2_23H a20 [(1168,37852718839251999918081)])] a42 0 41
noncomputable def e2_23S : S := (.fn a18 [])
theorem e2_23 : runB (calM prog (nat) 60 e2_23S e2_23A e2_23H) e2_23V e2_23R = true := by decide +kernel
noncomputable def e2_24A : List V := [(.s (.p a40 0)),(.agg [(.i .i64 5),z0,z0,(.i .u64 0)])]
noncomputable def e2_24H : Hp := hset hs2_14 [] a42 0 41
noncomputable def e2_24V : V := (.s z0)
noncomputable def e2_24R : Hp := hset e2_24H [(a20,wBQ e2_24H a20 75498496 [(1,1216),(1041,71303168),(1105,75498496),(1168,37852718839251999942657),(1169,1088),(1232,37852718839251999926273),(1233,0)])] a42 0 41
noncomputable def e2_24S : S := (.fn a18 [])
theorem e2_24 : runB (calM prog (nat) 60 e2_24S e2_24A e2_24H) e2_24V e2_24R = true := by decide +kernel
noncomputable def e2_25A : List V := [(.s (.p a40 0)),(.agg [(.i .i64 5),z0,z0,(.i .u64 0)])]
noncomputable def e2_25H : Hp := hset hs2_15 [] a42 0 41
noncomputable def e2_25V : V := (.s z0)
noncomputable def e2_25R : Hp := hset e2_25H [(a20,wB e2_25H a20 [(1232,37852718839251999924225)])] a42 0 41
noncomputable def e2_25S : S := (.fn a18 [])
theorem e2_25 : runB (calM prog (nat) 60 e2_25S e2_25A e2_25H) e2_25V e2_25R = true := by decide +kernel
noncomputable def e2_26A : List V := [(.s (.p a40 0)),(.agg [(.i .i64 5),z0,z0,(.i .u64 0)])]
noncomputable def e2_26H : Hp := hset hs2_16 [] a42 0 41
noncomputable def e2_26V : V := (.s z0)
noncomputable def e2_26R : Hp := hset e2_26H [(a20,wB e2_26H a20 [(1232,37852718839251999922177)])] a42 0 41
noncomputable def e2_26S : S := (.fn a18 [])
theorem e2_26 : runB (calM prog (nat) 60 e2_26S e2_26A e2_26H) e2_26V e2_26R = true := by decide +kernel
noncomputable def e2_27A : List V := [(.s (.p a40 0)),(.agg [(.i .i64 5),z0,z0,(.i .u64 0)])]
noncomputable def e2_27H : Hp := hset hs2_17 [] a42 0 41
noncomputable def e2_27V : V := (.s z0)
noncomputable def e2_27R : Hp := hset e2_27H [(a20,wB e2_27H a20 [(1232,37852718839251999920129)])] a42 0 41
noncomputable def e2_27S : S := (.fn a18 [])
theorem e2_27 : runB (calM prog (nat) 60 e2_27S e2_27A e2_27H) e2_27V e2_27R = true := by decide +kernel
noncomputable def e2_28A : List V := [(.s (.p a40 0)),(.agg [(.i .i64 5),z0,z0,(.i .u64 0)])]
noncomputable def e2_28H : Hp := hset hs2_18 [] a42 0 41
noncomputable def e2_28V : V := (.s z0)
noncomputable def e2_28R : Hp := hset e2_28H [(a20,wB e2_28H a20 [(1232,37852718839251999918081)])] a42 0 41
noncomputable def e2_28S : S := (.fn a18 [])
theorem e2_28 : runB (calM prog (nat) 60 e2_28S e2_28A e2_28H) e2_28V e2_28R = true := by decide +kernel
noncomputable def e2_29A : List V := [(.s (.p a40 0)),(.agg [(.i .i64 5),z0,z0,(.i .u64 0)])]
noncomputable def e2_29H : Hp := hset hs2_19 [] a42 0 41
noncomputable def e2_29V : V := (.s z0)
noncomputable def e2_29R : Hp := hset e2_29H [(a20,wBQ e2_29H a20 79692864 [(1,1024),(1040,37852718839251999926273),(1041,0),(1105,75497472),(1169,79692864),(1232,37852718839251999942657),(1233,1152)])] a42 0 41
noncomputable def e2_29S : S := (.fn a18 [])
theorem e2_29 : runB (calM prog (nat) 60 e2_29S e2_29A e2_29H) e2_29V e2_29R = true := by decide +kernel
end Go.E
