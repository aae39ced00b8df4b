/- A part of the proof of the claim that the last text of this folder states. -/
import Derived.Test.YtebgbhgehnpahaaGreatDoorN36
namespace Go.E
set_option linter.all false
set_option maxRecDepth 100000
noncomputable def e4_34A : List V := [(.s (.p a50 0)),(.agg [(.i .i64 5),z0,z0,(.i .u64 0)])]
noncomputable def e4_34H : Hp := hset hs4_24 [] a52 0 51
noncomputable def e4_34V : V := (.s z0)
noncomputable def e4_34R : Hp := hset e4_34H [(a26,wBQ e4_34H a26 83887104 [(1,1344),(1041,71303168),(1233,83887232),(1296,37852718839251999942657),(1297,1216),(1360,37852718839251999926273),(1361,0)])] a52 0 51
noncomputable def e4_34S : S := (.fn a18 [])
theorem e4_34 : runB (calM prog (nat) 60 e4_34S e4_34A e4_34H) e4_34V e4_34R = true := by decide +kernel
noncomputable def e4_35A : List V := [(.s (.p a50 0)),(.agg [(.i .i64 5),z0,z0,(.i .u64 0)])]
noncomputable def e4_35H : Hp := hset hs4_25 [] a52 0 51
noncomputable def e4_35V : V := (.s z0)
noncomputable def e4_35R : Hp := hset e4_35H [(a26,wB e4_35H a26 [(1360,37852718839251999924225)])] a52 0 51
noncomputable def e4_35S : S := (.fn a18 [])
theorem e4_35 : runB (calM prog (nat) 60 e4_35S e4_35A e4_35H) e4_35V e4_35R = true := by decide +kernel
noncomputable def e4_36A : List V := [(.s (.p a50 0)),(.agg [(.i .i64 5),z0,z0,(.i .u64 0)])]
noncomputable def e4_36H : Hp := hset hs4_26 [] a52 0 51
noncomputable def e4_36V : V := (.s z0)
noncomputable def e4_36R : Hp := hset e4_36H [(a26,wB e4_36H a26 [(1360,37852718839251999922177)])] a52 0 51
noncomputable def e4_36S : S := (.fn a18 [])
theorem e4_36 : runB (calM prog (nat) 60 e4_36S e4_36A e4_36H) e4_36V e4_36R = true := by decide +kernel
noncomputable def e4_37A : List V := [(.s (.p a50 0)),(.agg [(.i .i64 5),z0,z0,(.i .u64 0)])]
noncomputable def e4_37H : Hp := hset hs4_27 [] a52 0 51
noncomputable def e4_37V : V := (.s z0)
noncomputable def e4_37R : Hp := hset e4_37H [(a26,wB e4_37H a26 [(1360,37852718839251999920129)])] a52 0 51
noncomputable def e4_37S : S := (.fn a18 [])
theorem e4_37 : runB (calM prog (nat) 60 e4_37S e4_37A e4_37H) e4_37V e4_37R = true := by decide +kernel
noncomputable def e4_38A : List V := [(.s (.p a50 0)),(.agg [(.i .i64 5),z0,z0,(.i .u64 0)])]
noncomputable def e4_38H : Hp := hset hs4_28 [] a52 0 51
noncomputable def e4_38V : V := (.s z0)
noncomputable def e4_38R : Hp := hset e4_38H [(a26,wB e4_38H a26 [(1360,37852718839251999918081)])] a52 0 51
noncomputable def e4_38S : S := (.fn a18 [])
theorem e4_38 : runB (calM prog (nat) 60 e4_38S e4_38A e4_38H) e4_38V e4_38R = true := by decide +kernel
noncomputable def e4_39A : List V := [(.s (.p a50 0)),(.agg [(.i .i64 5),z0,z0,(.i .u64 0)])]
noncomputable def e4_39H : Hp := hset hs4_29 [] a52 0 51
noncomputable def e4_39V : V := (.s z0)
noncomputable def e4_39R : Hp := hset e4_39H [(a26,wBQ e4_39H a26 88081472 [(1,1024),(1040,37852718839251999926273),(1041,0),(1105,75497472),(1297,88081600),(1360,37852718839251999942657),(1361,1280)])] a52 0 51
noncomputable def e4_39S : S := (.fn a18 [])
theorem e4_39 : runB (calM prog (nat) 60 e4_39S e4_39A e4_39H) e4_39V e4_39R = true := by decide +kernel
end Go.E
