/- A part of the proof of the claim that the last text of this folder states. -/
import Derived.Test.YtebgbhgehnpahaaGreatDoorN36
namespace Go.E
set_option linter.all false
set_option maxRecDepth 100000
noncomputable def e4_22A : List V := [(.s (.p a50 0)),(.agg [(.i .i64 5),z0,z0,(.i .u64 0)])]
noncomputable def e4_22H : Hp := hset hs4_12 [] a52 0 51
noncomputable def e4_22V : V := (.s z0)
noncomputable def e4_22R : Hp := hset e4_22H [(a26,wB e4_22H a26 [(1168,37852718839251999920129)])] a52 0 51
noncomputable def e4_22S : S := (.fn a18 [])
theorem e4_22 : runB (calM prog (nat) 60 e4_22S e4_22A e4_22H) e4_22V e4_22R = true := by decide +kernel
noncomputable def e4_23A : List V := [(.s (.p a50 0)),(.agg [(.i .i64 5),z0,z0,(.i .u64 0)])]
noncomputable def e4_23H : Hp := hset hs4_13 [] a52 0 51
noncomputable def e4_23V : V := (.s z0)
noncomputable def e4_23R : Hp := hset e4_23H [(a26,wB e4_23H a26 [(1168,37852718839251999918081)])] a52 0 51
noncomputable def e4_23S : S := (.fn a18 [])
theorem e4_23 : runB (calM prog (nat) 60 e4_23S e4_23A e4_23H) e4_23V e4_23R = true := by decide +kernel
noncomputable def e4_24A : List V := [(.s (.p a50 0)),(.agg [(.i .i64 5),z0,z0,(.i .u64 0)])]
noncomputable def e4_24H : Hp := hset hs4_14 [] a52 0 51
noncomputable def e4_24V : V := (.s z0)
noncomputable def e4_24R : Hp := hset e4_24H [(a26,wBQ e4_24H a26 75498752 [(1,1216),(1105,75498496),(1168,37852718839251999942657),(1169,1088),(1232,37852718839251999926273),(1233,0),(1297,88080384)])] a52 0 51
noncomputable def e4_24S : S := (.fn a18 [])
theorem e4_24 : runB (calM prog (nat) 60 e4_24S e4_24A e4_24H) e4_24V e4_24R = true := by decide +kernel
noncomputable def e4_25A : List V := [(.s (.p a50 0)),(.agg [(.i .i64 5),z0,z0,(.i .u64 0)])]
noncomputable def e4_25H : Hp := hset hs4_15 [] a52 0 51
noncomputable def e4_25V : V := (.s z0)
noncomputable def e4_25R : Hp := hset e4_25H [(a26,wB e4_25H a26 [(1232,37852718839251999924225)])] a52 0 51
noncomputable def e4_25S : S := (.fn a18 [])
theorem e4_25 : runB (calM prog (nat) 60 e4_25S e4_25A e4_25H) e4_25V e4_25R = true := by decide +kernel
noncomputable def e4_26A : List V := [(.s (.p a50 0)),(.agg [(.i .i64 5),z0,z0,(.i .u64 0)])]
noncomputable def e4_26H : Hp := hset hs4_16 [] a52 0 51
noncomputable def e4_26V : V := (.s z0)
noncomputable def e4_26R : Hp := hset e4_26H [(a26,wB e4_26H a26 [(1232,37852718839251999922177)])] a52 0 51
noncomputable def e4_26S : S := (.fn a18 [])
theorem e4_26 : runB (calM prog (nat) 60 e4_26S e4_26A e4_26H) e4_26V e4_26R = true := by decide +kernel
noncomputable def e4_27A : List V := [(.s (.p a50 0)),(.agg [(.i .i64 5),z0,z0,(.i .u64 0)])]
noncomputable def e4_27H : Hp := hset hs4_17 [] a52 0 51
noncomputable def e4_27V : V := (.s z0)
noncomputable def e4_27R : Hp := hset e4_27H [(a26,wB e4_27H a26 [(1232,37852718839251999920129)])] a52 0 51
noncomputable def e4_27S : S := (.fn a18 [])
theorem e4_27 : runB (calM prog (nat) 60 e4_27S e4_27A e4_27H) e4_27V e4_27R = true := by decide +kernel
noncomputable def e4_28A : List V := [(.s (.p a50 0)),(.agg [(.i .i64 5),z0,z0,(.i .u64 0)])]
noncomputable def e4_28H : Hp := hset hs4_18 [] a52 0 51
noncomputable def e4_28V : V := (.s z0)
noncomputable def e4_28R : Hp := hset e4_28H [(a26,wB e4_28H a26 [(1232,37852718839251999918081)])] a52 0 51
noncomputable def e4_28S : S := (.fn a18 [])
theorem e4_28 : runB (calM prog (nat) 60 e4_28S e4_28A e4_28H) e4_28V e4_28R = true := by decide +kernel
noncomputable def e4_29A : List V := [(.s (.p a50 0)),(.agg [(.i .i64 5),z0,z0,(.i .u64 0)])]
noncomputable def e4_29H : Hp := hset hs4_19 [] a52 0 51
noncomputable def e4_29V : V := (.s z0)
noncomputable def e4_29R : Hp := hset e4_29H [(a26,wBQ e4_29H a26 79693120 [(1,1280),(1169,79692864),(1232,37852718839251999942657),(1233,1152),(1296,37852718839251999926273),(1297,0),(1361,67108864)])] a52 0 51
noncomputable def e4_29S : S := (.fn a18 [])
theorem e4_29 : runB (calM prog (nat) 60 e4_29S e4_29A e4_29H) e4_29V e4_29R = true := by decide +kernel
noncomputable def e4_30A : List V := [(.s (.p a50 0)),(.agg [(.i .i64 5),z0,z0,(.i .u64 0)])]
noncomputable def e4_30H : Hp := hset hs4_20 [] a52 0 51
noncomputable def e4_30V : V := (.s z0)
noncomputable def e4_30R : Hp := hset e4_30H [(a26,wB e4_30H a26 [(1296,37852718839251999924225)])] a52 0 51
noncomputable def e4_30S : S := (.fn a18 [])
theorem e4_30 : runB (calM prog (nat) 60 e4_30S e4_30A e4_30H) e4_30V e4_30R = true := by decide +kernel
noncomputable def e4_31A : List V := [(.s (.p a50 0)),(.agg [(.i .i64 5),z0,z0,(.i .u64 0)])]
noncomputable def e4_31H : Hp := hset hs4_21 [] a52 0 51
noncomputable def e4_31V : V := (.s z0)
noncomputable def e4_31R : Hp := hset e4_31H [(a26,wB e4_31H a26 [(1296,37852718839251999922177)])] a52 0 51
noncomputable def e4_31S : S := (.fn a18 [])
theorem e4_31 : runB (calM prog (nat) 60 e4_31S e4_31A e4_31H) e4_31V e4_31R = true := by decide +kernel
noncomputable def e4_32A : List V := [(.s (.p a50 0)),(.agg [(.i .i64 5),z0,z0,(.i .u64 0)])]
noncomputable def e4_32H : Hp := hset hs4_22 [] a52 0 51
noncomputable def e4_32V : V := (.s z0)
noncomputable def e4_32R : Hp := hset e4_32H [(a26,wB e4_32H a26 [(1296,37852718839251999920129)])] a52 0 51
noncomputable def e4_32S : S := (.fn a18 [])
theorem e4_32 : runB (calM prog (nat) 60 e4_32S e4_32A e4_32H) e4_32V e4_32R = true := by decide +kernel
noncomputable def e4_33A : List V := [(.s (.p a50 0)),(.agg [(.i .i64 5),z0,z0,(.i .u64 0)])]
noncomputable def e4_33H : Hp := hset hs4_23 [] a52 0 51
noncomputable def e4_33V : V := (.s z0)
noncomputable def e4_33R : Hp := hset e4_33H [(a26,wB e4_33H a26 [(1296,37852718839251999918081)])] a52 0 51
noncomputable def e4_33S : S := (.fn a18 [])
theorem e4_33 : runB (calM prog (nat) 60 e4_33S e4_33A e4_33H) e4_33V e4_33R = true := by decide +kernel
end Go.E
