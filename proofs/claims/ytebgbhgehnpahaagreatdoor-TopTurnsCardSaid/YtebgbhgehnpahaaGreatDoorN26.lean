/- A part of the proof of the claim that the last text of this folder states. -/
import Derived.Test.YtebgbhgehnpahaaGreatDoorN23
namespace Go.E
set_option linter.all false
set_option maxRecDepth 100000
noncomputable def gb1A : List V := [(.agg [(.i .i64 12),(.sl a7 0 3 1152921504606846979),z0,z0,.ns])]
noncomputable def gb1H : Hp := hmk [(a0,(.ro [(.i .u8 0),(.i .u8 1),(.i .u8 28),(.i .u8 2),(.i .u8 29),(.i .u8 14),(.i .u8 24),(.i .u8 3),(.i .u8 30),(.i .u8 22),(.i .u8 20),(.i .u8 15),(.i .u8 25),(.i .u8 17),(.i .u8 4),(.i .u8 8),(.i .u8 31),(.i .u8 27),(.i .u8 13),(.i .u8 23),(.i .u8 21),(.i .u8 19),(.i .u8 16),(.i .u8 7),(.i .u8 26),(.i .u8 12),(.i .u8 18),(.i .u8 6),(.i .u8 11),(.i .u8 5),(.i .u8 10),(.i .u8 9)])),(a1,(.c [(.i .i64 12),(.sl a7 0 3 1152921504606846979),z0,z0,.ns])),(a2,(.c [(.i .i64 2),(.i .i64 37797378607030871261184),z0,z0,.ns])),(a4,(.c [(.i .i64 2),(.i .i64 37797378607030871261184),z0,z0,.ns])),(a6,(.c [(.i .i64 2),(.i .i64 37797378607030871261184),z0,z0,.ns])),(a7,(.gr [(.i .i64 2),(.i .i64 37797378607030871261184),z0,z0,.ns,(.i .i64 2),(.i .i64 37797378607030871261184),z0,z0,.ns,(.i .i64 2),(.i .i64 37797378607030871261184),z0,z0,.ns] 3 5))] a8 1 8
noncomputable def gb1V : V := (.s (.p a36 0))
noncomputable def gb1R : Hp := hset gb1H [(a8,(.c [(.i .i64 12),(.sl a7 0 3 1152921504606846979),z0,z0,.ns])),(a9,(.c [(.i .i64 12),(.sl a7 0 3 1152921504606846979),z0,z0,.ns])),(a10,(.c [(.i .i64 12),(.sl a7 0 3 1152921504606846979),z0,z0,.ns])),(a11,(.mp [((.agg [(.i .i64 3),z0]),(.s (.i .i64 1024)),0),((.agg [(.i .i64 3),(.i .i64 1)]),(.s (.i .i64 1088)),1),((.agg [(.i .i64 3),(.i .i64 2)]),(.s (.i .i64 1152)),2),((.agg [(.i .i64 2),z0]),(.s (.i .i64 1216)),3),((.agg [(.i .i64 2),(.i .i64 1)]),(.s (.i .i64 1232)),4),((.agg [(.i .i64 2),(.i .i64 2)]),(.s (.i .i64 1248)),5),((.agg [(.i .i64 7),z0]),(.s (.i .i64 1264)),6)] 7)),(a12,(.c [(.i .i64 12),(.sl a7 0 3 1152921504606846979),z0,z0,.ns,(.mp a11),(.i .i64 1272)])),(a13,(.mp [] 0)),(a14,(.c [(.i .i64 2),(.i .i64 37797378607030871261184),z0,z0,.ns])),(a15,(.c [(.i .i64 2),(.i .i64 37797378607030871261184),z0,z0,.ns])),(a16,(.c [(.i .i64 2),(.i .i64 37797378607030871261184),z0,z0,.ns])),(a17,(.w .u64 4096 13 (WQ 75498560 [(1,1106804644422573097984),(17,1264),(32,10768819838586019818463130164366511619972232283168109467122210330998859087439428124598717776511184554085405727238363862106698277762584307017860644183470977874574963309168287683679823299174222333493251),(60,25690458468707277859049147450090912489249197831),(1024,892400035156434906709676882478828470392605698),(1088,22836355088582051018042485318739691825442868482),(1105,75497472),(1152,24263231192943333234298669283117871470938705410),(1169,1088)] [(1040,37852718839251999926273),(1104,37852718839251999942657),(1168,37852718839251999942657)]))),(a18,(.cu (.sl a17 0 4096 4096))),(a19,(.c [(.p a18 0)])),(a20,(.c [(.p a12 0)])),(a21,(.mp [((.agg [(.i .i64 2),z0]),(.s (.i .i64 1024)),0),((.agg [(.i .i64 2),(.i .i64 1)]),(.s (.i .i64 1088)),1),((.agg [(.i .i64 2),(.i .i64 2)]),(.s (.i .i64 1152)),2)] 3)),(a22,(.c [(.mp a21)])),(a23,(.c [(.b false)])),(a24,(.c [(.i .i64 2),(.i .i64 37797378607030871261184),z0,z0,.ns])),(a25,(.c [(.i .i64 2),(.i .i64 37797378607030871261184),z0,z0,.ns])),(a26,(.c [(.i .i64 2),(.i .i64 37797378607030871261184),z0,z0,.ns])),(a29,(.c [(.i .i64 2),(.i .i64 37797378607030871261184),z0,z0,.ns])),(a30,(.c [(.i .i64 2),(.i .i64 37797378607030871261184),z0,z0,.ns])),(a31,(.c [(.i .i64 2),(.i .i64 37797378607030871261184),z0,z0,.ns])),(a32,(.c [(.i .u16 0),(.i .u16 65535),(.i .u32 0)])),(a33,(.c (Zi 32))),(a34,(.c [(.p a18 0),(.p a32 0),(.p a33 0)])),(a35,(.c [(.p a18 0),(.p a32 0),(.p a33 0),z0])),(a36,(.c [(.p a18 0),(.p a35 0)]))] a37 1 8
noncomputable def gb1S : S := (.fn a12 [])
theorem gb1 : runB (calM prog (nat) 60 gb1S gb1A gb1H) gb1V gb1R = true := by decide +kernel
noncomputable def hs1_0 : Hp := hset gb1R [] a37 0 36
set_option maxRecDepth 100000
noncomputable def hs1_1 : Hp := hset hs1_0 [(a17,wB hs1_0 a17 [(1040,37852718839251999924225)])] a37 0 36
noncomputable def hs1_2 : Hp := hset hs1_0 [(a17,wB hs1_0 a17 [(1040,37852718839251999922177)])] a37 0 36
noncomputable def hs1_3 : Hp := hset hs1_0 [(a17,wB hs1_0 a17 [(1040,37852718839251999920129)])] a37 0 36
noncomputable def hs1_4 : Hp := hset hs1_0 [(a17,wB hs1_0 a17 [(1040,37852718839251999918081)])] a37 0 36
noncomputable def hs1_5 : Hp := hset hs1_0 [(a17,wBQ hs1_0 a17 67110016 [(1,1088),(1040,37852718839251999942657),(1041,1152),(1104,37852718839251999926273),(1105,0),(1169,67108864)])] a37 0 36
noncomputable def hs1_6 : Hp := hset hs1_0 [(a17,wBQ hs1_0 a17 67110016 [(1,1088),(1040,37852718839251999942657),(1041,1152),(1104,37852718839251999924225),(1105,0),(1169,67108864)])] a37 0 36
noncomputable def hs1_7 : Hp := hset hs1_0 [(a17,wBQ hs1_0 a17 67110016 [(1,1088),(1040,37852718839251999942657),(1041,1152),(1104,37852718839251999922177),(1105,0),(1169,67108864)])] a37 0 36
noncomputable def hs1_8 : Hp := hset hs1_0 [(a17,wBQ hs1_0 a17 67110016 [(1,1088),(1040,37852718839251999942657),(1041,1152),(1104,37852718839251999920129),(1105,0),(1169,67108864)])] a37 0 36
noncomputable def hs1_9 : Hp := hset hs1_0 [(a17,wBQ hs1_0 a17 67110016 [(1,1088),(1040,37852718839251999942657),(1041,1152),(1104,37852718839251999918081),(1105,0),(1169,67108864)])] a37 0 36
noncomputable def hs1_10 : Hp := hset hs1_0 [(a17,wBQ hs1_0 a17 71304192 [(1,1152),(1040,37852718839251999942657),(1041,71303168),(1105,1024),(1168,37852718839251999926273),(1169,0)])] a37 0 36
noncomputable def hs1_11 : Hp := hset hs1_0 [(a17,wBQ hs1_0 a17 71304192 [(1,1152),(1040,37852718839251999942657),(1041,71303168),(1105,1024),(1168,37852718839251999924225),(1169,0)])] a37 0 36
noncomputable def hs1_12 : Hp := hset hs1_0 [(a17,wBQ hs1_0 a17 71304192 [(1,1152),(1040,37852718839251999942657),(1041,71303168),(1105,1024),(1168,37852718839251999922177),(1169,0)])] a37 0 36
noncomputable def hs1_13 : Hp := hset hs1_0 [(a17,wBQ hs1_0 a17 71304192 [(1,1152),(1040,37852718839251999942657),(1041,71303168),(1105,1024),(1168,37852718839251999920129),(1169,0)])] a37 0 36
noncomputable def hs1_14 : Hp := hset hs1_0 [(a17,wBQ hs1_0 a17 71304192 [(1,1152),(1040,37852718839251999942657),(1041,71303168),(1105,1024),(1168,37852718839251999918081),(1169,0)])] a37 0 36
set_option maxRecDepth 100000
noncomputable def e1_10A : List V := [(.s (.p a35 0)),(.agg [(.i .i64 5),z0,z0,(.i .u64 0)])]
noncomputable def e1_10H : Hp := hset hs1_0 [] a37 0 36
noncomputable def e1_10V : V := (.s z0)
noncomputable def e1_10R : Hp := hset e1_10H [(a17,wB e1_10H a17 [(1040,37852718839251999924225)])] a37 0 36
noncomputable def e1_10S : S := (.fn a18 [])
theorem e1_10 : runB (calM prog (nat) 60 e1_10S e1_10A e1_10H) e1_10V e1_10R = true := by decide +kernel
noncomputable def e1_11A : List V := [(.s (.p a35 0)),(.agg [(.i .i64 5),z0,z0,(.i .u64 0)])]
noncomputable def e1_11H : Hp := hset hs1_1 [] a37 0 36
noncomputable def e1_11V : V := (.s z0)
noncomputable def e1_11R : Hp := hset e1_11H [(a17,wB e1_11H a17 [(1040,37852718839251999922177)])] a37 0 36
noncomputable def e1_11S : S := (.fn a18 [])
theorem e1_11 : runB (calM prog (nat) 60 e1_11S e1_11A e1_11H) e1_11V e1_11R = true := by decide +kernel
noncomputable def e1_12A : List V := [(.s (.p a35 0)),(.agg [(.i .i64 5),z0,z0,(.i .u64 0)])]
noncomputable def e1_12H : Hp := hset hs1_2 [] a37 0 36
noncomputable def e1_12V : V := (.s z0)
noncomputable def e1_12R : Hp := hset e1_12H [(a17,wB e1_12H a17 [(1040,37852718839251999920129)])] a37 0 36
noncomputable def e1_12S : S := (.fn a18 [])
theorem e1_12 : runB (calM prog (nat) 60 e1_12S e1_12A e1_12H) e1_12V e1_12R = true := by decide +kernel
noncomputable def e1_13A : List V := [(.s (.p a35 0)),(.agg [(.i .i64 5),z0,z0,(.i .u64 0)])]
noncomputable def e1_13H : Hp := hset hs1_3 [] a37 0 36
noncomputable def e1_13V : V := (.s z0)
noncomputable def e1_13R : Hp := hset e1_13H [(a17,wB e1_13H a17 [(1040,37852718839251999918081)])] a37 0 36
noncomputable def e1_13S : S := (.fn a18 [])
theorem e1_13 : runB (calM prog (nat) 60 e1_13S e1_13A e1_13H) e1_13V e1_13R = true := by decide +kernel
noncomputable def e1_14A : List V := [(.s (.p a35 0)),(.agg [(.i .i64 5),z0,z0,(.i .u64 0)])]
noncomputable def e1_14H : Hp := hset hs1_4 [] a37 0 36
noncomputable def e1_14V : V := (.s z0)
noncomputable def e1_14R : Hp := hset e1_14H [(a17,wBQ e1_14H a17 67110016 [(1,1088),(1040,37852718839251999942657),(1041,1152),(1104,37852718839251999926273),(1105,0),(1169,67108864)])] a37 0 36
noncomputable def e1_14S : S := (.fn a18 [])
theorem e1_14 : runB (calM prog (nat) 60 e1_14S e1_14A e1_14H) e1_14V e1_14R = true := by decide +kernel
noncomputable def e1_15A : List V := [(.s (.p a35 0)),(.agg [(.i .i64 5),z0,z0,(.i .u64 0)])]
noncomputable def e1_15H : Hp := hset hs1_5 [] a37 0 36
noncomputable def e1_15V : V := (.s z0)
noncomputable def e1_15R : Hp := hset e1_15H [(a17,wB e1_15H a17 [(1104,37852718839251999924225)])] a37 0 36
noncomputable def e1_15S : S := (.fn a18 [])
theorem e1_15 : runB (calM prog (nat) 60 e1_15S e1_15A e1_15H) e1_15V e1_15R = true := by decide +kernel
noncomputable def e1_16A : List V := [(.s (.p a35 0)),(.agg [(.i .i64 5),z0,z0,(.i .u64 0)])]
noncomputable def e1_16H : Hp := hset hs1_6 [] a37 0 36
noncomputable def e1_16V : V := (.s z0)
noncomputable def e1_16R : Hp := hset e1_16H [(a17,wB e1_16H a17 [(1104,37852718839251999922177)])] a37 0 36
noncomputable def e1_16S : S := (.fn a18 [])
theorem e1_16 : runB (calM prog (nat) 60 e1_16S e1_16A e1_16H) e1_16V e1_16R = true := by decide +kernel
noncomputable def e1_17A : List V := [(.s (.p a35 0)),(.agg [(.i .i64 5),z0,z0,(.i .u64 0)])]
noncomputable def e1_17H : Hp := hset hs1_7 [] a37 0 36
noncomputable def e1_17V : V := (.s z0)
noncomputable def e1_17R : Hp := hset e1_17H [(a17,wB e1_17H a17 [(1104,37852718839251999920129)])] a37 0 36
noncomputable def e1_17S : S := (.fn a18 [])
theorem e1_17 : runB (calM prog (nat) 60 e1_17S e1_17A e1_17H) e1_17V e1_17R = true := by decide +kernel
noncomputable def e1_18A : List V := [(.s (.p a35 0)),(.agg [(.i .i64 5),z0,z0,(.i .u64 0)])]
noncomputable def e1_18H : Hp := hset hs1_8 [] a37 0 36
noncomputable def e1_18V : V := (.s z0)
noncomputable def e1_18R : Hp := hset e1_18H [(a17,wB e1_18H a17 [(1104,37852718839251999918081)])] a37 0 36
noncomputable def e1_18S : S := (.fn a18 [])
theorem e1_18 : runB (calM prog (nat) 60 e1_18S e1_18A e1_18H) e1_18V e1_18R = true := by decide +kernel
noncomputable def e1_19A : List V := [(.s (.p a35 0)),(.agg [(.i .i64 5),z0,z0,(.i .u64 0)])]
noncomputable def e1_19H : Hp := hset hs1_9 [] a37 0 36
noncomputable def e1_19V : V := (.s z0)
noncomputable def e1_19R : Hp := hset e1_19H [(a17,wBQ e1_19H a17 71304192 [(1,1152),(1041,71303168),(1104,37852718839251999942657),(1105,1024),(1168,37852718839251999926273),(1169,0)])] a37 0 36
noncomputable def e1_19S : S := (.fn a18 [])
theorem e1_19 : runB (calM prog (nat) 60 e1_19S e1_19A e1_19H) e1_19V e1_19R = true := by decide +kernel
noncomputable def e1_20A : List V := [(.s (.p a35 0)),(.agg [(.i .i64 5),z0,z0,(.i .u64 0)])]
noncomputable def e1_20H : Hp := hset hs1_10 [] a37 0 36
noncomputable def e1_20V : V := (.s z0)
noncomputable def e1_20R : Hp := hset e1_20H [(a17,wB e1_20H a17 [(1168,37852718839251999924225)])] a37 0 36
noncomputable def e1_20S : S := (.fn a18 [])
theorem e1_20 : runB (calM prog (nat) 60 e1_20S e1_20A e1_20H) e1_20V e1_20R = true := by decide +kernel
noncomputable def e1_21A : List V := [(.s (.p a35 0)),(.agg [(.i .i64 5),z0,z0,(.i .u64 0)])]
noncomputable def e1_21H : Hp := hset hs1_11 [] a37 0 36
noncomputable def e1_21V : V := (.s z0)
noncomputable def e1_21R : Hp := hset e1_21H [(a17,wB e1_21H a17 [(1168,37852718839251999922177)])] a37 0 36
noncomputable def e1_21S : S := (.fn a18 [])
theorem e1_21 : runB (calM prog (nat) 60 e1_21S e1_21A e1_21H) e1_21V e1_21R = true := by decide +kernel
end Go.E
