/- A part of the proof of the claim that the last text of this folder states. -/
import Derived.Test.YtebgbhgehnpahaaGreatDoorN40
namespace Go.E
set_option linter.all false
set_option maxRecDepth 100000
noncomputable def e5_22A : List V := [(.s (.p a55 0)),(.agg [(.i .i64 5),z0,z0,(.i .u64 0)])]
noncomputable def e5_22H : Hp := hset hs5_12 [] a57 0 56
noncomputable def e5_22V : V := (.s z0)
noncomputable def e5_22R : Hp := hset e5_22H [(a29,wB e5_22H a29 [(1168,37852718839251999920129)])] a57 0 56
noncomputable def e5_22S : S := (.fn a18 [])
theorem e5_22 : runB (calM prog (nat) 60 e5_22S e5_22A e5_22H) e5_22V e5_22R = true := by decide +kernel
noncomputable def e5_23A : List V := [(.s (.p a55 0)),(.agg [(.i .i64 5),z0,z0,(.i .u64 0)])]
noncomputable def e5_23H : Hp := hset hs5_13 [] a57 0 56
noncomputable def e5_23V : V := (.s z0)
noncomputable def e5_23R : Hp := hset e5_23H [(a29,wB e5_23H a29 [(1168,37852718839251999918081)])] a57 0 56
noncomputable def e5_23S : S := (.fn a18 [])
theorem e5_23 : runB (calM prog (nat) 60 e5_23S e5_23A e5_23H) e5_23V e5_23R = true := by decide +kernel
noncomputable def e5_24A : List V := [(.s (.p a55 0)),(.agg [(.i .i64 5),z0,z0,(.i .u64 0)])]
noncomputable def e5_24H : Hp := hset hs5_14 [] a57 0 56
noncomputable def e5_24V : V := (.s z0)
noncomputable def e5_24R : Hp := hset e5_24H [(a29,wBQ e5_24H a29 75498752 [(1,1216),(1105,75498496),(1168,37852718839251999942657),(1169,1088),(1232,37852718839251999926273),(1233,0),(1297,88080384)])] a57 0 56
noncomputable def e5_24S : S := (.fn a18 [])
theorem e5_24 : runB (calM prog (nat) 60 e5_24S e5_24A e5_24H) e5_24V e5_24R = true := by decide +kernel
noncomputable def e5_25A : List V := [(.s (.p a55 0)),(.agg [(.i .i64 5),z0,z0,(.i .u64 0)])]
noncomputable def e5_25H : Hp := hset hs5_15 [] a57 0 56
noncomputable def e5_25V : V := (.s z0)
noncomputable def e5_25R : Hp := hset e5_25H [(a29,wB e5_25H a29 [(1232,37852718839251999924225)])] a57 0 56
noncomputable def e5_25S : S := (.fn a18 [])
theorem e5_25 : runB (calM prog (nat) 60 e5_25S e5_25A e5_25H) e5_25V e5_25R = true := by decide +kernel
noncomputable def e5_26A : List V := [(.s (.p a55 0)),(.agg [(.i .i64 5),z0,z0,(.i .u64 0)])]
noncomputable def e5_26H : Hp := hset hs5_16 [] a57 0 56
noncomputable def e5_26V : V := (.s z0)
noncomputable def e5_26R : Hp := hset e5_26H [(a29,wB e5_26H a29 [(1232,37852718839251999922177)])] a57 0 56
noncomputable def e5_26S : S := (.fn a18 [])
theorem e5_26 : runB (calM prog (nat) 60 e5_26S e5_26A e5_26H) e5_26V e5_26R = true := by decide +kernel
noncomputable def e5_27A : List V := [(.s (.p a55 0)),(.agg [(.i .i64 5),z0,z0,(.i .u64 0)])]
noncomputable def e5_27H : Hp := hset hs5_17 [] a57 0 56
noncomputable def e5_27V : V := (.s z0)
noncomputable def e5_27R : Hp := hset e5_27H [(a29,wB e5_27H a29 [(1232,37852718839251999920129)])] a57 0 56
noncomputable def e5_27S : S := (.fn a18 [])
theorem e5_27 : runB (calM prog (nat) 60 e5_27S e5_27A e5_27H) e5_27V e5_27R = true := by decide +kernel
noncomputable def e5_28A : List V := [(.s (.p a55 0)),(.agg [(.i .i64 5),z0,z0,(.i .u64 0)])]
noncomputable def e5_28H : Hp := hset hs5_18 [] a57 0 56
noncomputable def e5_28V : V := (.s z0)
noncomputable def e5_28R : Hp := hset e5_28H [(a29,wB e5_28H a29 [(1232,37852718839251999918081)])] a57 0 56
noncomputable def e5_28S : S := (.fn a18 [])
theorem e5_28 : runB (calM prog (nat) 60 e5_28S e5_28A e5_28H) e5_28V e5_28R = true := by decide +kernel
noncomputable def e5_29A : List V := [(.s (.p a55 0)),(.agg [(.i .i64 5),z0,z0,(.i .u64 0)])]
noncomputable def e5_29H : Hp := hset hs5_19 [] a57 0 56
noncomputable def e5_29V : V := (.s z0)
noncomputable def e5_29R : Hp := hset e5_29H [(a29,wBQ e5_29H a29 79693120 [(1,1280),(1169,79692864),(1232,37852718839251999942657),(1233,1152),(1296,37852718839251999926273),(1297,0),(1361,92274688)])] a57 0 56
noncomputable def e5_29S : S := (.fn a18 [])
theorem e5_29 : runB (calM prog (nat) 60 e5_29S e5_29A e5_29H) e5_29V e5_29R = true := by decide +kernel
noncomputable def e5_30A : List V := [(.s (.p a55 0)),(.agg [(.i .i64 5),z0,z0,(.i .u64 0)])]
noncomputable def e5_30H : Hp := hset hs5_20 [] a57 0 56
noncomputable def e5_30V : V := (.s z0)
noncomputable def e5_30R : Hp := hset e5_30H [(a29,wB e5_30H a29 [(1296,37852718839251999924225)])] a57 0 56
noncomputable def e5_30S : S := (.fn a18 [])
theorem e5_30 : runB (calM prog (nat) 60 e5_30S e5_30A e5_30H) e5_30V e5_30R = true := by decide +kernel
noncomputable def e5_31A : List V := [(.s (.p a55 0)),(.agg [(.i .i64 5),z0,z0,(.i .u64 0)])]
noncomputable def e5_31H : Hp := hset hs5_21 [] a57 0 56
noncomputable def e5_31V : V := (.s z0)
noncomputable def e5_31R : Hp := hset e5_31H [(a29,wB e5_31H a29 [(1296,37852718839251999922177)])] a57 0 56
noncomputable def e5_31S : S := (.fn a18 [])
theorem e5_31 : runB (calM prog (nat) 60 e5_31S e5_31A e5_31H) e5_31V e5_31R = true := by decide +kernel
noncomputable def e5_32A : List V := [(.s (.p a55 0)),(.agg [(.i .i64 5),z0,z0,(.i .u64 0)])]
noncomputable def e5_32H : Hp := hset hs5_22 [] a57 0 56
noncomputable def e5_32V : V := (.s z0)
noncomputable def e5_32R : Hp := hset e5_32H [(a29,wB e5_32H a29 [(1296,37852718839251999920129)])] a57 0 56
noncomputable def e5_32S : S := (.fn a18 [])
theorem e5_32 : runB (calM prog (nat) 60 e5_32S e5_32A e5_32H) e5_32V e5_32R = true := by decide +kernel
noncomputable def e5_33A : List V := [(.s (.p a55 0)),(.agg [(.i .i64 5),z0,z0,(.i .u64 0)])]
noncomputable def e5_33H : Hp := hset hs5_23 [] a57 0 56
noncomputable def e5_33V : V := (.s z0)
noncomputable def e5_33R : Hp := hset e5_33H [(a29,wB e5_33H a29 [(1296,37852718839251999918081)])] a57 0 56
noncomputable def e5_33S : S := (.fn a18 [])
theorem e5_33 : runB (calM prog (nat) 60 e5_33S e5_33A e5_33H) e5_33V e5_33R = true := by decide +kernel
end Go.E
