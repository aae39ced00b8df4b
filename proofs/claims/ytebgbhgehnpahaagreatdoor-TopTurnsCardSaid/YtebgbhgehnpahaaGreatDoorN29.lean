/- A part of the proof of the claim that the last text of this folder states. -/
import Derived.Test.YtebgbhgehnpahaaGreatDoorN23
namespace Go.E
set_option linter.all false
set_option maxRecDepth 100000
noncomputable def gb2A : List V := [(.agg [(.i .i64 12),(.sl a9 0 4 1152921504606846980),z0,z0,.ns])]
noncomputable def gb2H : Hp := hmk [(a0,(.ro [(.i .u8 0),(.i .u8 1),(.i .u8 28),(.i .u8 2),(.i .u8 29),(.i .u8 14),(.i .u8 24),(.i .u8 3),(.i .u8 30),(.i .u8 22),(.i .u8 20),(.i .u8 15),(.i .u8 25),(.i .u8 17),(.i .u8 4),(.i .u8 8),(.i .u8 31),(.i .u8 27),(.i .u8 13),(.i .u8 23),(.i .u8 21),(.i .u8 19),(.i .u8 16),(.i .u8 7),(.i .u8 26),(.i .u8 12),(.i .u8 18),(.i .u8 6),(.i .u8 11),(.i .u8 5),(.i .u8 10),(.i .u8 9)])),(a1,(.c [(.i .i64 12),(.sl a9 0 4 1152921504606846980),z0,z0,.ns])),(a2,(.c [(.i .i64 2),(.i .i64 37797378607030871261184),z0,z0,.ns])),(a4,(.c [(.i .i64 2),(.i .i64 37797378607030871261184),z0,z0,.ns])),(a6,(.c [(.i .i64 2),(.i .i64 37797378607030871261184),z0,z0,.ns])),(a8,(.c [(.i .i64 2),(.i .i64 37797378607030871261184),z0,z0,.ns])),(a9,(.gr [(.i .i64 2),(.i .i64 37797378607030871261184),z0,z0,.ns,(.i .i64 2),(.i .i64 37797378607030871261184),z0,z0,.ns,(.i .i64 2),(.i .i64 37797378607030871261184),z0,z0,.ns,(.i .i64 2),(.i .i64 37797378607030871261184),z0,z0,.ns] 4 5))] a10 1 10
noncomputable def gb2V : V := (.s (.p a41 0))
noncomputable def gb2R : Hp := hset gb2H [(a10,(.c [(.i .i64 12),(.sl a9 0 4 1152921504606846980),z0,z0,.ns])),(a11,(.c [(.i .i64 12),(.sl a9 0 4 1152921504606846980),z0,z0,.ns])),(a12,(.c [(.i .i64 12),(.sl a9 0 4 1152921504606846980),z0,z0,.ns])),(a13,(.mp [((.agg [(.i .i64 3),z0]),(.s (.i .i64 1024)),0),((.agg [(.i .i64 3),(.i .i64 1)]),(.s (.i .i64 1088)),1),((.agg [(.i .i64 3),(.i .i64 2)]),(.s (.i .i64 1152)),2),((.agg [(.i .i64 3),(.i .i64 3)]),(.s (.i .i64 1216)),3),((.agg [(.i .i64 2),z0]),(.s (.i .i64 1280)),4),((.agg [(.i .i64 2),(.i .i64 1)]),(.s (.i .i64 1296)),5),((.agg [(.i .i64 2),(.i .i64 2)]),(.s (.i .i64 1312)),6),((.agg [(.i .i64 2),(.i .i64 3)]),(.s (.i .i64 1328)),7),((.agg [(.i .i64 7),z0]),(.s (.i .i64 1344)),8)] 9)),(a14,(.c [(.i .i64 12),(.sl a9 0 4 1152921504606846980),z0,z0,.ns,(.mp a13),(.i .i64 1352)])),(a15,(.mp [] 0)),(a16,(.c [(.i .i64 2),(.i .i64 37797378607030871261184),z0,z0,.ns])),(a17,(.c [(.i .i64 2),(.i .i64 37797378607030871261184),z0,z0,.ns])),(a18,(.c [(.i .i64 2),(.i .i64 37797378607030871261184),z0,z0,.ns])),(a19,(.c [(.i .i64 2),(.i .i64 37797378607030871261184),z0,z0,.ns])),(a20,(.w .u64 4096 13 (WQ 79692864 [(1,1106804644422573097984),(17,1344),(32,1385433389300161224610142401711307805997872644475549470900949416828793341031752409970372029093592323270443534442419860748486860279119437599296967310165245411791754211624801392752825067815651998393053455221609493064496379837490914528123622953783895489670113671004799809399832579),(60,27117706161413237740107433419540407625631945735),(1024,981603015950557399275819755569421916416528386),(1088,22836355088582051018042485318739691825442869506),(1105,75497472),(1152,24263624559359493839162432944164062594991149570),(1169,79692864),(1216,25690478885649293115356955252567366607321453314),(1233,1152)] [(1040,37852718839251999926273),(1104,37852718839251999942657),(1168,37852718839251999942657),(1232,37852718839251999942657)]))),(a21,(.cu (.sl a20 0 4096 4096))),(a22,(.c [(.p a21 0)])),(a23,(.c [(.p a14 0)])),(a24,(.mp [((.agg [(.i .i64 2),z0]),(.s (.i .i64 1024)),0),((.agg [(.i .i64 2),(.i .i64 1)]),(.s (.i .i64 1088)),1),((.agg [(.i .i64 2),(.i .i64 2)]),(.s (.i .i64 1152)),2),((.agg [(.i .i64 2),(.i .i64 3)]),(.s (.i .i64 1216)),3)] 4)),(a25,(.c [(.mp a24)])),(a26,(.c [(.b false)])),(a27,(.c [(.i .i64 2),(.i .i64 37797378607030871261184),z0,z0,.ns])),(a28,(.c [(.i .i64 2),(.i .i64 37797378607030871261184),z0,z0,.ns])),(a29,(.c [(.i .i64 2),(.i .i64 37797378607030871261184),z0,z0,.ns])),(a30,(.c [(.i .i64 2),(.i .i64 37797378607030871261184),z0,z0,.ns])),(a33,(.c [(.i .i64 2),(.i .i64 37797378607030871261184),z0,z0,.ns])),(a34,(.c [(.i .i64 2),(.i .i64 37797378607030871261184),z0,z0,.ns])),(a35,(.c [(.i .i64 2),(.i .i64 37797378607030871261184),z0,z0,.ns])),(a36,(.c [(.i .i64 2),(.i .i64 37797378607030871261184),z0,z0,.ns])),(a37,(.c [(.i .u16 0),(.i .u16 65535),(.i .u32 0)])),(a38,(.c (Zi 32))),(a39,(.c [(.p a21 0),(.p a37 0),(.p a38 0)])),(a40,(.c [(.p a21 0),(.p a37 0),(.p a38 0),z0])),(a41,(.c [(.p a21 0),(.p a40 0)]))] a42 1 10
noncomputable def gb2S : S := (.fn a12 [])
theorem gb2 : runB (calM prog (nat) 60 gb2S gb2A gb2H) gb2V gb2R = true := by decide +kernel
noncomputable def hs2_0 : Hp := hset gb2R [] a42 0 41
set_option maxRecDepth 100000
noncomputable def hs2_1 : Hp := hset hs2_0 [(a20,wB hs2_0 a20 [(1040,37852718839251999924225)])] a42 0 41
noncomputable def hs2_2 : Hp := hset hs2_0 [(a20,wB hs2_0 a20 [(1040,37852718839251999922177)])] a42 0 41
noncomputable def hs2_3 : Hp := hset hs2_0 [(a20,wB hs2_0 a20 [(1040,37852718839251999920129)])] a42 0 41
noncomputable def hs2_4 : Hp := hset hs2_0 [(a20,wB hs2_0 a20 [(1040,37852718839251999918081)])] a42 0 41
noncomputable def hs2_5 : Hp := hset hs2_0 [(a20,wBQ hs2_0 a20 67110016 [(1,1088),(1040,37852718839251999942657),(1041,1216),(1104,37852718839251999926273),(1105,0),(1169,79691776),(1233,67110016)])] a42 0 41
noncomputable def hs2_6 : Hp := hset hs2_0 [(a20,wBQ hs2_0 a20 67110016 [(1,1088),(1040,37852718839251999942657),(1041,1216),(1104,37852718839251999924225),(1105,0),(1169,79691776),(1233,67110016)])] a42 0 41
noncomputable def hs2_7 : Hp := hset hs2_0 [(a20,wBQ hs2_0 a20 67110016 [(1,1088),(1040,37852718839251999942657),(1041,1216),(1104,37852718839251999922177),(1105,0),(1169,79691776),(1233,67110016)])] a42 0 41
noncomputable def hs2_8 : Hp := hset hs2_0 [(a20,wBQ hs2_0 a20 67110016 [(1,1088),(1040,37852718839251999942657),(1041,1216),(1104,37852718839251999920129),(1105,0),(1169,79691776),(1233,67110016)])] a42 0 41
noncomputable def hs2_9 : Hp := hset hs2_0 [(a20,wBQ hs2_0 a20 67110016 [(1,1088),(1040,37852718839251999942657),(1041,1216),(1104,37852718839251999918081),(1105,0),(1169,79691776),(1233,67110016)])] a42 0 41
noncomputable def hs2_10 : Hp := hset hs2_0 [(a20,wBQ hs2_0 a20 71304384 [(1,1152),(1040,37852718839251999942657),(1041,71304384),(1105,1024),(1168,37852718839251999926273),(1169,0),(1233,67108864)])] a42 0 41
noncomputable def hs2_11 : Hp := hset hs2_0 [(a20,wBQ hs2_0 a20 71304384 [(1,1152),(1040,37852718839251999942657),(1041,71304384),(1105,1024),(1168,37852718839251999924225),(1169,0),(1233,67108864)])] a42 0 41
noncomputable def hs2_12 : Hp := hset hs2_0 [(a20,wBQ hs2_0 a20 71304384 [(1,1152),(1040,37852718839251999942657),(1041,71304384),(1105,1024),(1168,37852718839251999922177),(1169,0),(1233,67108864)])] a42 0 41
noncomputable def hs2_13 : Hp := hset hs2_0 [(a20,wBQ hs2_0 a20 71304384 [(1,1152),(1040,37852718839251999942657),(1041,71304384),(1105,1024),(1168,37852718839251999920129),(1169,0),(1233,67108864)])] a42 0 41
noncomputable def hs2_14 : Hp := hset hs2_0 [(a20,wBQ hs2_0 a20 71304384 [(1,1152),(1040,37852718839251999942657),(1041,71304384),(1105,1024),(1168,37852718839251999918081),(1169,0),(1233,67108864)])] a42 0 41
noncomputable def hs2_15 : Hp := hset hs2_0 [(a20,wBQ hs2_0 a20 75498496 [(1,1216),(1040,37852718839251999942657),(1041,71303168),(1105,75498496),(1169,1088),(1232,37852718839251999926273),(1233,0)])] a42 0 41
noncomputable def hs2_16 : Hp := hset hs2_0 [(a20,wBQ hs2_0 a20 75498496 [(1,1216),(1040,37852718839251999942657),(1041,71303168),(1105,75498496),(1169,1088),(1232,37852718839251999924225),(1233,0)])] a42 0 41
noncomputable def hs2_17 : Hp := hset hs2_0 [(a20,wBQ hs2_0 a20 75498496 [(1,1216),(1040,37852718839251999942657),(1041,71303168),(1105,75498496),(1169,1088),(1232,37852718839251999922177),(1233,0)])] a42 0 41
noncomputable def hs2_18 : Hp := hset hs2_0 [(a20,wBQ hs2_0 a20 75498496 [(1,1216),(1040,37852718839251999942657),(1041,71303168),(1105,75498496),(1169,1088),(1232,37852718839251999920129),(1233,0)])] a42 0 41
noncomputable def hs2_19 : Hp := hset hs2_0 [(a20,wBQ hs2_0 a20 75498496 [(1,1216),(1040,37852718839251999942657),(1041,71303168),(1105,75498496),(1169,1088),(1232,37852718839251999918081),(1233,0)])] a42 0 41
set_option maxRecDepth 100000
noncomputable def e2_10A : List V := [(.s (.p a40 0)),(.agg [(.i .i64 5),z0,z0,(.i .u64 0)])]
noncomputable def e2_10H : Hp := hset hs2_0 [] a42 0 41
noncomputable def e2_10V : V := (.s z0)
noncomputable def e2_10R : Hp := hset e2_10H [(a20,wB e2_10H a20 [(1040,37852718839251999924225)])] a42 0 41
noncomputable def e2_10S : S := (.fn a18 [])
theorem e2_10 : runB (calM prog (nat) 60 e2_10S e2_10A e2_10H) e2_10V e2_10R = true := by decide +kernel
noncomputable def e2_11A : List V := [(.s (.p a40 0)),(.agg [(.i .i64 5),z0,z0,(.i .u64 0)])]
noncomputable def e2_11H : Hp := hset hs2_1 [] a42 0 41
noncomputable def e2_11V : V := (.s z0)
noncomputable def e2_11R : Hp := hset e2_11H [(a20,wB e2_11H a20 [(1040,37852718839251999922177)])] a42 0 41
noncomputable def e2_11S : S := (.fn a18 [])
theorem e2_11 : runB (calM prog (nat) 60 e2_11S e2_11A e2_11H) e2_11V e2_11R = true := by decide +kernel
noncomputable def e2_12A : List V := [(.s (.p a40 0)),(.agg [(.i .i64 5),z0,z0,(.i .u64 0)])]
noncomputable def e2_12H : Hp := hset hs2_2 [] a42 0 41
noncomputable def e2_12V : V := (.s z0)
noncomputable def e2_12R : Hp := hset e2_12H [(a20,wB e2_12H a20 [(1040,37852718839251999920129)])] a42 0 41
noncomputable def e2_12S : S := (.fn a18 [])
theorem e2_12 : runB (calM prog (nat) 60 e2_12S e2_12A e2_12H) e2_12V e2_12R = true := by decide +kernel
noncomputable def e2_13A : List V := [(.s (.p a40 0)),(.agg [(.i .i64 5),z0,z0,(.i .u64 0)])]
noncomputable def e2_13H : Hp := hset hs2_3 [] a42 0 41
noncomputable def e2_13V : V := (.s z0)
noncomputable def e2_13R : Hp := hset e2_13H [(a20,wB e2_13H a20 [(1040,37852718839251999918081)])] a42 0 41
noncomputable def e2_13S : S := (.fn a18 [])
theorem e2_13 : runB (calM prog (nat) 60 e2_13S e2_13A e2_13H) e2_13V e2_13R = true := by decide +kernel
noncomputable def e2_14A : List V := [(.s (.p a40 0)),(.agg [(.i .i64 5),z0,z0,(.i .u64 0)])]
noncomputable def e2_14H : Hp := hset hs2_4 [] a42 0 41
noncomputable def e2_14V : V := (.s z0)
noncomputable def e2_14R : Hp := hset e2_14H [(a20,wBQ e2_14H a20 67110016 [(1,1088),(1040,37852718839251999942657),(1041,1216),(1104,37852718839251999926273),(1105,0),(1169,79691776),(1233,67110016)])] a42 0 41
noncomputable def e2_14S : S := (.fn a18 [])
theorem e2_14 : runB (calM prog (nat) 60 e2_14S e2_14A e2_14H) e2_14V e2_14R = true := by decide +kernel
noncomputable def e2_15A : List V := [(.s (.p a40 0)),(.agg [(.i .i64 5),z0,z0,(.i .u64 0)])]
noncomputable def e2_15H : Hp := hset hs2_5 [] a42 0 41
noncomputable def e2_15V : V := (.s z0)
noncomputable def e2_15R : Hp := hset e2_15H [(a20,wB e2_15H a20 [(1104,37852718839251999924225)])] a42 0 41
noncomputable def e2_15S : S := (.fn a18 [])
theorem e2_15 : runB (calM prog (nat) 60 e2_15S e2_15A e2_15H) e2_15V e2_15R = true := by decide +kernel
noncomputable def e2_16A : List V := [(.s (.p a40 0)),(.agg [(.i .i64 5),z0,z0,(.i .u64 0)])]
noncomputable def e2_16H : Hp := hset hs2_6 [] a42 0 41
noncomputable def e2_16V : V := (.s z0)
noncomputable def e2_16R : Hp := hset e2_16H [(a20,wB e2_16H a20 [(1104,37852718839251999922177)])] a42 0 41
noncomputable def e2_16S : S := (.fn a18 [])
theorem e2_16 : runB (calM prog (nat) 60 e2_16S e2_16A e2_16H) e2_16V e2_16R = true := by decide +kernel
noncomputable def e2_17A : List V := [(.s (.p a40 0)),(.agg [(.i .i64 5),z0,z0,(.i .u64 0)])]
noncomputable def e2_17H : Hp := hset hs2_7 [] a42 0 41
noncomputable def e2_17V : V := (.s z0)
noncomputable def e2_17R : Hp := hset e2_17H [(a20,wB e2_17H a20 [(1104,37852718839251999920129)])] a42 0 41
noncomputable def e2_17S : S := (.fn a18 [])
theorem e2_17 : runB (calM prog (nat) 60 e2_17S e2_17A e2_17H) e2_17V e2_17R = true := by decide +kernel
noncomputable def e2_18A : List V := [(.s (.p a40 0)),(.agg [(.i .i64 5),z0,z0,(.i .u64 0)])]
noncomputable def e2_18H : Hp := hset hs2_8 [] a42 0 41
noncomputable def e2_18V : V := (.s z0)
noncomputable def e2_18R : Hp := hset e2_18H [(a20,wB e2_18H a20 [(1104,37852718839251999918081)])] a42 0 41
noncomputable def e2_18S : S := (.fn a18 [])
theorem e2_18 : runB (calM prog (nat) 60 e2_18S e2_18A e2_18H) e2_18V e2_18R = true := by decide +kernel
noncomputable def e2_19A : List V := [(.s (.p a40 0)),(.agg [(.i .i64 5),z0,z0,(.i .u64 0)])]
noncomputable def e2_19H : Hp := hset hs2_9 [] a42 0 41
noncomputable def e2_19V : V := (.s z0)
noncomputable def e2_19R : Hp := hset e2_19H [(a20,wBQ e2_19H a20 71304384 [(1,1152),(1041,71304384),(1104,37852718839251999942657),(1105,1024),(1168,37852718839251999926273),(1169,0),(1233,67108864)])] a42 0 41
noncomputable def e2_19S : S := (.fn a18 [])
theorem e2_19 : runB (calM prog (nat) 60 e2_19S e2_19A e2_19H) e2_19V e2_19R = true := by decide +kernel
noncomputable def e2_20A : List V := [(.s (.p a40 0)),(.agg [(.i .i64 5),z0,z0,(.i .u64 0)])]
noncomputable def e2_20H : Hp := hset hs2_10 [] a42 0 41
noncomputable def e2_20V : V := (.s z0)
noncomputable def e2_20R : Hp := hset e2_20H [(a20,wB e2_20H a20 [(1168,37852718839251999924225)])] a42 0 41
noncomputable def e2_20S : S := (.fn a18 [])
theorem e2_20 : runB (calM prog (nat) 60 e2_20S e2_20A e2_20H) e2_20V e2_20R = true := by decide +kernel
noncomputable def e2_21A : List V := [(.s (.p a40 0)),(.agg [(.i .i64 5),z0,z0,(.i .u64 0)])]
noncomputable def e2_21H : Hp := hset hs2_11 [] a42 0 41
noncomputable def e2_21V : V := (.s z0)
noncomputable def e2_21R : Hp := hset e2_21H [(a20,wB e2_21H a20 [(1168,37852718839251999922177)])] a42 0 41
noncomputable def e2_21S : S := (.fn a18 [])
theorem e2_21 : runB (calM prog (nat) 60 e2_21S e2_21A e2_21H) e2_21V e2_21R = true := by decide +kernel
end Go.E
