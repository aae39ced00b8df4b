/- A part of the proof of the claim that the last text of this folder states. -/
import Derived.Test.YtebgbhgehnpahaaGreatDoorN32
namespace Go.E
set_option linter.all false
set_option maxRecDepth 100000
noncomputable def e3_22A : List V := [(.s (.p a45 0)),(.agg [(.i .i64 5),z0,z0,(.i .u64 0)])]
noncomputable def e3_22H : Hp := hset hs3_12 [] a47 0 46
noncomputable def e3_22V : V := (.s z0)
noncomputable def e3_22R : Hp := hset e3_22H [(a23,wB e3_22H a23 [(1168,37852718839251999920129)])] a47 0 46
noncomputable def e3_22S : S := (.fn a18 [])
theorem e3_22 : runB (calM prog (nat) 60 e3_22S e3_22A e3_22H) e3_22V e3_22R = true := by decide +kernel
noncomputable def e3_23A : List V := [(.s (.p a45 0)),(.agg [(.i .i64 5),z0,z0,(.i .u64 0)])]
noncomputable def e3_23H : Hp := hset hs3_13 [] a47 0 46
noncomputable def e3_23V : V := (.s z0)
noncomputable def e3_23R : Hp := hset e3_23H [(a23,wB e3_23H a23 [(1168,37852718839251999918081)])] a47 0 46
noncomputable def e3_23S : S := (.fn a18 [])
theorem e3_23 : runB (calM prog (nat) 60 e3_23S e3_23A e3_23H) e3_23V e3_23R = true := by decide +kernel
noncomputable def e3_24A : List V := [(.s (.p a45 0)),(.agg [(.i .i64 5),z0,z0,(.i .u64 0)])]
noncomputable def e3_24H : Hp := hset hs3_14 [] a47 0 46
noncomputable def e3_24V : V := (.s z0)
noncomputable def e3_24R : Hp := hset e3_24H [(a23,wBQ e3_24H a23 75498752 [(1,1216),(1105,75498496),(1168,37852718839251999942657),(1169,1088),(1232,37852718839251999926273),(1233,0),(1297,67108864)])] a47 0 46
noncomputable def e3_24S : S := (.fn a18 [])
theorem e3_24 : runB (calM prog (nat) 60 e3_24S e3_24A e3_24H) e3_24V e3_24R = true := by decide +kernel
noncomputable def e3_25A : List V := [(.s (.p a45 0)),(.agg [(.i .i64 5),z0,z0,(.i .u64 0)])]
noncomputable def e3_25H : Hp := hset hs3_15 [] a47 0 46
noncomputable def e3_25V : V := (.s z0)
noncomputable def e3_25R : Hp := hset e3_25H [(a23,wB e3_25H a23 [(1232,37852718839251999924225)])] a47 0 46
noncomputable def e3_25S : S := (.fn a18 [])
theorem e3_25 : runB (calM prog (nat) 60 e3_25S e3_25A e3_25H) e3_25V e3_25R = true := by decide +kernel
noncomputable def e3_26A : List V := [(.s (.p a45 0)),(.agg [(.i .i64 5),z0,z0,(.i .u64 0)])]
noncomputable def e3_26H : Hp := hset hs3_16 [] a47 0 46
noncomputable def e3_26V : V := (.s z0)
noncomputable def e3_26R : Hp := hset e3_26H [(a23,wB e3_26H a23 [(1232,37852718839251999922177)])] a47 0 46
noncomputable def e3_26S : S := (.fn a18 [])
theorem e3_26 : runB (calM prog (nat) 60 e3_26S e3_26A e3_26H) e3_26V e3_26R = true := by decide +kernel
noncomputable def e3_27A : List V := [(.s (.p a45 0)),(.agg [(.i .i64 5),z0,z0,(.i .u64 0)])]
noncomputable def e3_27H : Hp := hset hs3_17 [] a47 0 46
noncomputable def e3_27V : V := (.s z0)
noncomputable def e3_27R : Hp := hset e3_27H [(a23,wB e3_27H a23 [(1232,37852718839251999920129)])] a47 0 46
noncomputable def e3_27S : S := (.fn a18 [])
theorem e3_27 : runB (calM prog (nat) 60 e3_27S e3_27A e3_27H) e3_27V e3_27R = true := by decide +kernel
noncomputable def e3_28A : List V := [(.s (.p a45 0)),(.agg [(.i .i64 5),z0,z0,(.i .u64 0)])]
noncomputable def e3_28H : Hp := hset hs3_18 [] a47 0 46
noncomputable def e3_28V : V := (.s z0)
noncomputable def e3_28R : Hp := hset e3_28H [(a23,wB e3_28H a23 [(1232,37852718839251999918081)])] a47 0 46
noncomputable def e3_28S : S := (.fn a18 [])
theorem e3_28 : runB (calM prog (nat) 60 e3_28S e3_28A e3_28H) e3_28V e3_28R = true := by decide +kernel
noncomputable def e3_29A : List V := [(.s (.p a45 0)),(.agg [(.i .i64 5),z0,z0,(.i .u64 0)])]
noncomputable def e3_29H : Hp := hset hs3_19 [] a47 0 46
noncomputable def e3_29V : V := (.s z0)
noncomputable def e3_29R : Hp := hset e3_29H [(a23,wBQ e3_29H a23 79692800 [(1,1280),(1041,71303168),(1169,79692864),(1232,37852718839251999942657),(1233,1152),(1296,37852718839251999926273),(1297,0)])] a47 0 46
noncomputable def e3_29S : S := (.fn a18 [])
theorem e3_29 : runB (calM prog (nat) 60 e3_29S e3_29A e3_29H) e3_29V e3_29R = true := by decide +kernel
noncomputable def e3_30A : List V := [(.s (.p a45 0)),(.agg [(.i .i64 5),z0,z0,(.i .u64 0)])]
noncomputable def e3_30H : Hp := hset hs3_20 [] a47 0 46
noncomputable def e3_30V : V := (.s z0)
noncomputable def e3_30R : Hp := hset e3_30H [(a23,wB e3_30H a23 [(1296,37852718839251999924225)])] a47 0 46
noncomputable def e3_30S : S := (.fn a18 [])
theorem e3_30 : runB (calM prog (nat) 60 e3_30S e3_30A e3_30H) e3_30V e3_30R = true := by decide +kernel
noncomputable def e3_31A : List V := [(.s (.p a45 0)),(.agg [(.i .i64 5),z0,z0,(.i .u64 0)])]
noncomputable def e3_31H : Hp := hset hs3_21 [] a47 0 46
noncomputable def e3_31V : V := (.s z0)
noncomputable def e3_31R : Hp := hset e3_31H [(a23,wB e3_31H a23 [(1296,37852718839251999922177)])] a47 0 46
noncomputable def e3_31S : S := (.fn a18 [])
theorem e3_31 : runB (calM prog (nat) 60 e3_31S e3_31A e3_31H) e3_31V e3_31R = true := by decide +kernel
noncomputable def e3_32A : List V := [(.s (.p a45 0)),(.agg [(.i .i64 5),z0,z0,(.i .u64 0)])]
noncomputable def e3_32H : Hp := hset hs3_22 [] a47 0 46
noncomputable def e3_32V : V := (.s z0)
noncomputable def e3_32R : Hp := hset e3_32H [(a23,wB e3_32H a23 [(1296,37852718839251999920129)])] a47 0 46
noncomputable def e3_32S : S := (.fn a18 [])
theorem e3_32 : runB (calM prog (nat) 60 e3_32S e3_32A e3_32H) e3_32V e3_32R = true := by decide +kernel
noncomputable def e3_33A : List V := [(.s (.p a45 0)),(.agg [(.i .i64 5),z0,z0,(.i .u64 0)])]
noncomputable def e3_33H : Hp := hset hs3_23 [] a47 0 46
noncomputable def e3_33V : V := (.s z0)
noncomputable def e3_33R : Hp := hset e3_33H [(a23,wB e3_33H a23 [(1296,37852718839251999918081)])] a47 0 46
noncomputable def e3_33S : S := (.fn a18 [])
theorem e3_33 : runB (calM prog (nat) 60 e3_33S e3_33A e3_33H) e3_33V e3_33R = true := by decide +kernel
end Go.E
