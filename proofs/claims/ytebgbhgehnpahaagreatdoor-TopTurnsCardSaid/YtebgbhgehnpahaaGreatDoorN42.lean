/- A part of the proof of the claim that the last text of this folder states. -/
import Derived.Test.YtebgbhgehnpahaaGreatDoorN40
namespace Go.E
set_option linter.all false
set_option maxRecDepth 100000
noncomputable def e5_34A : List V := [(.s (.p a55 0)),(.agg [(.i .i64 5),z0,z0,(.i .u64 0)])]
noncomputable def e5_34H : Hp := hset hs5_24 [] a57 0 56
noncomputable def e5_34V : V := (.s z0)
noncomputable def e5_34R : Hp := hset e5_34H [(a29,wBQ e5_34H a29 83887488 [(1,1344),(1233,83887232),(1296,37852718839251999942657),(1297,1216),(1360,37852718839251999926273),(1361,0),(1425,67108864)])] a57 0 56
noncomputable def e5_34S : S := (.fn a18 [])
theorem e5_34 : runB (calM prog (nat) 60 e5_34S e5_34A e5_34H) e5_34V e5_34R = true := by decide +kernel
noncomputable def e5_35A : List V := [(.s (.p a55 0)),(.agg [(.i .i64 5),z0,z0,(.i .u64 0)])]
noncomputable def e5_35H : Hp := hset hs5_25 [] a57 0 56
noncomputable def e5_35V : V := (.s z0)
noncomputable def e5_35R : Hp := hset e5_35H [(a29,wB e5_35H a29 [(1360,37852718839251999924225)])] a57 0 56
noncomputable def e5_35S : S := (.fn a18 [])
theorem e5_35 : runB (calM prog (nat) 60 e5_35S e5_35A e5_35H) e5_35V e5_35R = true := by decide +kernel
noncomputable def e5_36A : List V := [(.s (.p a55 0)),(.agg [(.i .i64 5),z0,z0,(.i .u64 0)])]
noncomputable def e5_36H : Hp := hset hs5_26 [] a57 0 56
noncomputable def e5_36V : V := (.s z0)
noncomputable def e5_36R : Hp := hset e5_36H [(a29,wB e5_36H a29 [(1360,37852718839251999922177)])] a57 0 56
noncomputable def e5_36S : S := (.fn a18 [])
theorem e5_36 : runB (calM prog (nat) 60 e5_36S e5_36A e5_36H) e5_36V e5_36R = true := by decide +kernel
noncomputable def e5_37A : List V := [(.s (.p a55 0)),(.agg [(.i .i64 5),z0,z0,(.i .u64 0)])]
noncomputable def e5_37H : Hp := hset hs5_27 [] a57 0 56
noncomputable def e5_37V : V := (.s z0)
noncomputable def e5_37R : Hp := hset e5_37H [(a29,wB e5_37H a29 [(1360,37852718839251999920129)])] a57 0 56
noncomputable def e5_37S : S := (.fn a18 [])
theorem e5_37 : runB (calM prog (nat) 60 e5_37S e5_37A e5_37H) e5_37V e5_37R = true := by decide +kernel
noncomputable def e5_38A : List V := [(.s (.p a55 0)),(.agg [(.i .i64 5),z0,z0,(.i .u64 0)])]
noncomputable def e5_38H : Hp := hset hs5_28 [] a57 0 56
noncomputable def e5_38V : V := (.s z0)
noncomputable def e5_38R : Hp := hset e5_38H [(a29,wB e5_38H a29 [(1360,37852718839251999918081)])] a57 0 56
noncomputable def e5_38S : S := (.fn a18 [])
theorem e5_38 : runB (calM prog (nat) 60 e5_38S e5_38A e5_38H) e5_38V e5_38R = true := by decide +kernel
noncomputable def e5_39A : List V := [(.s (.p a55 0)),(.agg [(.i .i64 5),z0,z0,(.i .u64 0)])]
noncomputable def e5_39H : Hp := hset hs5_29 [] a57 0 56
noncomputable def e5_39V : V := (.s z0)
noncomputable def e5_39R : Hp := hset e5_39H [(a29,wBQ e5_39H a29 88081408 [(1,1408),(1041,71303168),(1297,88081600),(1360,37852718839251999942657),(1361,1280),(1424,37852718839251999926273),(1425,0)])] a57 0 56
noncomputable def e5_39S : S := (.fn a18 [])
theorem e5_39 : runB (calM prog (nat) 60 e5_39S e5_39A e5_39H) e5_39V e5_39R = true := by decide +kernel
noncomputable def e5_40A : List V := [(.s (.p a55 0)),(.agg [(.i .i64 5),z0,z0,(.i .u64 0)])]
noncomputable def e5_40H : Hp := hset hs5_30 [] a57 0 56
noncomputable def e5_40V : V := (.s z0)
noncomputable def e5_40R : Hp := hset e5_40H [(a29,wB e5_40H a29 [(1424,37852718839251999924225)])] a57 0 56
noncomputable def e5_40S : S := (.fn a18 [])
theorem e5_40 : runB (calM prog (nat) 60 e5_40S e5_40A e5_40H) e5_40V e5_40R = true := by decide +kernel
noncomputable def e5_41A : List V := [(.s (.p a55 0)),(.agg [(.i .i64 5),z0,z0,(.i .u64 0)])]
noncomputable def e5_41H : Hp := hset hs5_31 [] a57 0 56
noncomputable def e5_41V : V := (.s z0)
noncomputable def e5_41R : Hp := hset e5_41H [(a29,wB e5_41H a29 [(1424,37852718839251999922177)])] a57 0 56
noncomputable def e5_41S : S := (.fn a18 [])
theorem e5_41 : runB (calM prog (nat) 60 e5_41S e5_41A e5_41H) e5_41V e5_41R = true := by decide +kernel
noncomputable def e5_42A : List V := [(.s (.p a55 0)),(.agg [(.i .i64 5),z0,z0,(.i .u64 0)])]
noncomputable def e5_42H : Hp := hset hs5_32 [] a57 0 56
noncomputable def e5_42V : V := (.s z0)
noncomputable def e5_42R : Hp := hset e5_42H [(a29,wB e5_42H a29 [(1424,37852718839251999920129)])] a57 0 56
noncomputable def e5_42S : S := (.fn a18 [])
theorem e5_42 : runB (calM prog (nat) 60 e5_42S e5_42A e5_42H) e5_42V e5_42R = true := by decide +kernel
noncomputable def e5_43A : List V := [(.s (.p a55 0)),(.agg [(.i .i64 5),z0,z0,(.i .u64 0)])]
noncomputable def e5_43H : Hp := hset hs5_33 [] a57 0 56
noncomputable def e5_43V : V := (.s z0)
noncomputable def e5_43R : Hp := hset e5_43H [(a29,wB e5_43H a29 [(1424,37852718839251999918081)])] a57 0 56
noncomputable def e5_43S : S := (.fn a18 [])
theorem e5_43 : runB (calM prog (nat) 60 e5_43S e5_43A e5_43H) e5_43V e5_43R = true := by decide +kernel
noncomputable def e5_44A : List V := [(.s (.p a55 0)),(.agg [(.i .i64 5),z0,z0,(.i .u64 0)])]
noncomputable def e5_44H : Hp := hset hs5_34 [] a57 0 56
noncomputable def e5_44V : V := (.s z0)
noncomputable def e5_44R : Hp := hset e5_44H [(a29,wBQ e5_44H a29 92275776 [(1,1024),(1040,37852718839251999926273),(1041,0),(1105,75497472),(1361,92275968),(1424,37852718839251999942657),(1425,1344)])] a57 0 56
noncomputable def e5_44S : S := (.fn a18 [])
theorem e5_44 : runB (calM prog (nat) 60 e5_44S e5_44A e5_44H) e5_44V e5_44R = true := by decide +kernel
end Go.E
