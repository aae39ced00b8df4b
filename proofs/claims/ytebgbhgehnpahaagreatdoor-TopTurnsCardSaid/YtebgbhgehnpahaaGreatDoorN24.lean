/- A part of the proof of the claim that the last text of this folder states. -/
import Derived.Test.YtebgbhgehnpahaaGreatDoorN23
namespace Go.E
set_option linter.all false
set_option maxRecDepth 100000
noncomputable def gb0A : List V := [(.agg [(.i .i64 12),(.sl a5 0 2 1152921504606846978),z0,z0,.ns])]
noncomputable def gb0H : Hp := hmk [(a0,(.ro [(.i .u8 0),(.i .u8 1),(.i .u8 28),(.i .u8 2),(.i .u8 29),(.i .u8 14),(.i .u8 24),(.i .u8 3),(.i .u8 30),(.i .u8 22),(.i .u8 20),(.i .u8 15),(.i .u8 25),(.i .u8 17),(.i .u8 4),(.i .u8 8),(.i .u8 31),(.i .u8 27),(.i .u8 13),(.i .u8 23),(.i .u8 21),(.i .u8 19),(.i .u8 16),(.i .u8 7),(.i .u8 26),(.i .u8 12),(.i .u8 18),(.i .u8 6),(.i .u8 11),(.i .u8 5),(.i .u8 10),(.i .u8 9)])),(a1,(.c [(.i .i64 12),(.sl a5 0 2 1152921504606846978),z0,z0,.ns])),(a2,(.c [(.i .i64 2),(.i .i64 37797378607030871261184),z0,z0,.ns])),(a4,(.c [(.i .i64 2),(.i .i64 37797378607030871261184),z0,z0,.ns])),(a5,(.gr [(.i .i64 2),(.i .i64 37797378607030871261184),z0,z0,.ns,(.i .i64 2),(.i .i64 37797378607030871261184),z0,z0,.ns] 2 5))] a6 1 6
noncomputable def gb0V : V := (.s (.p a31 0))
noncomputable def gb0R : Hp := hset gb0H [(a6,(.c [(.i .i64 12),(.sl a5 0 2 1152921504606846978),z0,z0,.ns])),(a7,(.c [(.i .i64 12),(.sl a5 0 2 1152921504606846978),z0,z0,.ns])),(a8,(.c [(.i .i64 12),(.sl a5 0 2 1152921504606846978),z0,z0,.ns])),(a9,(.mp [((.agg [(.i .i64 3),z0]),(.s (.i .i64 1024)),0),((.agg [(.i .i64 3),(.i .i64 1)]),(.s (.i .i64 1088)),1),((.agg [(.i .i64 2),z0]),(.s (.i .i64 1152)),2),((.agg [(.i .i64 2),(.i .i64 1)]),(.s (.i .i64 1168)),3),((.agg [(.i .i64 7),z0]),(.s (.i .i64 1184)),4)] 5)),(a10,(.c [(.i .i64 12),(.sl a5 0 2 1152921504606846978),z0,z0,.ns,(.mp a9),(.i .i64 1192)])),(a11,(.mp [] 0)),(a12,(.c [(.i .i64 2),(.i .i64 37797378607030871261184),z0,z0,.ns])),(a13,(.c [(.i .i64 2),(.i .i64 37797378607030871261184),z0,z0,.ns])),(a14,(.w .u64 4096 13 (WQ 71304256 [(1,1106804644422573097984),(17,1184),(32,82672343753126182815702787241158927039089003079613819940247598256166657788796564667767918190623688440241735133233810522115),(60,24263210776001317977990861480641417352866449927),(1024,803197054362312414143534009388235024368683010),(1088,22835983500237373353240383313668376334555957506)] [(1040,37852718839251999926273),(1104,37852718839251999942657)]))),(a15,(.cu (.sl a14 0 4096 4096))),(a16,(.c [(.p a15 0)])),(a17,(.c [(.p a10 0)])),(a18,(.mp [((.agg [(.i .i64 2),z0]),(.s (.i .i64 1024)),0),((.agg [(.i .i64 2),(.i .i64 1)]),(.s (.i .i64 1088)),1)] 2)),(a19,(.c [(.mp a18)])),(a20,(.c [(.b false)])),(a21,(.c [(.i .i64 2),(.i .i64 37797378607030871261184),z0,z0,.ns])),(a22,(.c [(.i .i64 2),(.i .i64 37797378607030871261184),z0,z0,.ns])),(a25,(.c [(.i .i64 2),(.i .i64 37797378607030871261184),z0,z0,.ns])),(a26,(.c [(.i .i64 2),(.i .i64 37797378607030871261184),z0,z0,.ns])),(a27,(.c [(.i .u16 0),(.i .u16 65535),(.i .u32 0)])),(a28,(.c (Zi 32))),(a29,(.c [(.p a15 0),(.p a27 0),(.p a28 0)])),(a30,(.c [(.p a15 0),(.p a27 0),(.p a28 0),z0])),(a31,(.c [(.p a15 0),(.p a30 0)]))] a32 1 6
noncomputable def gb0S : S := (.fn a12 [])
theorem gb0 : runB (calM prog (nat) 60 gb0S gb0A gb0H) gb0V gb0R = true := by decide +kernel
noncomputable def hs0_0 : Hp := hset gb0R [] a32 0 31
set_option maxRecDepth 100000
noncomputable def hs0_1 : Hp := hset hs0_0 [(a14,wB hs0_0 a14 [(1040,37852718839251999924225)])] a32 0 31
noncomputable def hs0_2 : Hp := hset hs0_0 [(a14,wB hs0_0 a14 [(1040,37852718839251999922177)])] a32 0 31
noncomputable def hs0_3 : Hp := hset hs0_0 [(a14,wB hs0_0 a14 [(1040,37852718839251999920129)])] a32 0 31
noncomputable def hs0_4 : Hp := hset hs0_0 [(a14,wB hs0_0 a14 [(1040,37852718839251999918081)])] a32 0 31
noncomputable def hs0_5 : Hp := hset hs0_0 [(a14,wBQ hs0_0 a14 67109888 [(1,1088),(1040,37852718839251999942657),(1104,37852718839251999926273)])] a32 0 31
noncomputable def hs0_6 : Hp := hset hs0_0 [(a14,wBQ hs0_0 a14 67109888 [(1,1088),(1040,37852718839251999942657),(1104,37852718839251999924225)])] a32 0 31
noncomputable def hs0_7 : Hp := hset hs0_0 [(a14,wBQ hs0_0 a14 67109888 [(1,1088),(1040,37852718839251999942657),(1104,37852718839251999922177)])] a32 0 31
noncomputable def hs0_8 : Hp := hset hs0_0 [(a14,wBQ hs0_0 a14 67109888 [(1,1088),(1040,37852718839251999942657),(1104,37852718839251999920129)])] a32 0 31
noncomputable def hs0_9 : Hp := hset hs0_0 [(a14,wBQ hs0_0 a14 67109888 [(1,1088),(1040,37852718839251999942657),(1104,37852718839251999918081)])] a32 0 31
set_option maxRecDepth 100000
noncomputable def e0_10A : List V := [(.s (.p a30 0)),(.agg [(.i .i64 5),z0,z0,(.i .u64 0)])]
noncomputable def e0_10H : Hp := hset hs0_0 [] a32 0 31
noncomputable def e0_10V : V := (.s z0)
noncomputable def e0_10R : Hp := hset e0_10H [(a14,wB e0_10H a14 [(1040,37852718839251999924225)])] a32 0 31
noncomputable def e0_10S : S := (.fn a18 [])
theorem e0_10 : runB (calM prog (nat) 60 e0_10S e0_10A e0_10H) e0_10V e0_10R = true := by decide +kernel
noncomputable def e0_11A : List V := [(.s (.p a30 0)),(.agg [(.i .i64 5),z0,z0,(.i .u64 0)])]
noncomputable def e0_11H : Hp := hset hs0_1 [] a32 0 31
noncomputable def e0_11V : V := (.s z0)
noncomputable def e0_11R : Hp := hset e0_11H [(a14,wB e0_11H a14 [(1040,37852718839251999922177)])] a32 0 31
noncomputable def e0_11S : S := (.fn a18 [])
theorem e0_11 : runB (calM prog (nat) 60 e0_11S e0_11A e0_11H) e0_11V e0_11R = true := by decide +kernel
noncomputable def e0_12A : List V := [(.s (.p a30 0)),(.agg [(.i .i64 5),z0,z0,(.i .u64 0)])]
noncomputable def e0_12H : Hp := hset hs0_2 [] a32 0 31
noncomputable def e0_12V : V := (.s z0)
noncomputable def e0_12R : Hp := hset e0_12H [(a14,wB e0_12H a14 [(1040,37852718839251999920129)])] a32 0 31
noncomputable def e0_12S : S := (.fn a18 [])
theorem e0_12 : runB (calM prog (nat) 60 e0_12S e0_12A e0_12H) e0_12V e0_12R = true := by decide +kernel
noncomputable def e0_13A : List V := [(.s (.p a30 0)),(.agg [(.i .i64 5),z0,z0,(.i .u64 0)])]
noncomputable def e0_13H : Hp := hset hs0_3 [] a32 0 31
noncomputable def e0_13V : V := (.s z0)
noncomputable def e0_13R : Hp := hset e0_13H [(a14,wB e0_13H a14 [(1040,37852718839251999918081)])] a32 0 31
noncomputable def e0_13S : S := (.fn a18 [])
theorem e0_13 : runB (calM prog (nat) 60 e0_13S e0_13A e0_13H) e0_13V e0_13R = true := by decide +kernel
noncomputable def e0_14A : List V := [(.s (.p a30 0)),(.agg [(.i .i64 5),z0,z0,(.i .u64 0)])]
noncomputable def e0_14H : Hp := hset hs0_4 [] a32 0 31
noncomputable def e0_14V : V := (.s z0)
noncomputable def e0_14R : Hp := hset e0_14H [(a14,wBQ e0_14H a14 67109888 [(1,1088),(1040,37852718839251999942657),(1104,37852718839251999926273)])] a32 0 31
noncomputable def e0_14S : S := (.fn a18 [])
theorem e0_14 : runB (calM prog (nat) 60 e0_14S e0_14A e0_14H) e0_14V e0_14R = true := by decide +kernel
noncomputable def e0_15A : List V := [(.s (.p a30 0)),(.agg [(.i .i64 5),z0,z0,(.i .u64 0)])]
noncomputable def e0_15H : Hp := hset hs0_5 [] a32 0 31
noncomputable def e0_15V : V := (.s z0)
noncomputable def e0_15R : Hp := hset e0_15H [(a14,wB e0_15H a14 [(1104,37852718839251999924225)])] a32 0 31
noncomputable def e0_15S : S := (.fn a18 [])
theorem e0_15 : runB (calM prog (nat) 60 e0_15S e0_15A e0_15H) e0_15V e0_15R = true := by decide +kernel
noncomputable def e0_16A : List V := [(.s (.p a30 0)),(.agg [(.i .i64 5),z0,z0,(.i .u64 0)])]
noncomputable def e0_16H : Hp := hset hs0_6 [] a32 0 31
noncomputable def e0_16V : V := (.s z0)
noncomputable def e0_16R : Hp := hset e0_16H [(a14,wB e0_16H a14 [(1104,37852718839251999922177)])] a32 0 31
noncomputable def e0_16S : S := (.fn a18 [])
theorem e0_16 : runB (calM prog (nat) 60 e0_16S e0_16A e0_16H) e0_16V e0_16R = true := by decide +kernel
noncomputable def e0_17A : List V := [(.s (.p a30 0)),(.agg [(.i .i64 5),z0,z0,(.i .u64 0)])]
noncomputable def e0_17H : Hp := hset hs0_7 [] a32 0 31
noncomputable def e0_17V : V := (.s z0)
noncomputable def e0_17R : Hp := hset e0_17H [(a14,wB e0_17H a14 [(1104,37852718839251999920129)])] a32 0 31
noncomputable def e0_17S : S := (.fn a18 [])
theorem e0_17 : runB (calM prog (nat) 60 e0_17S e0_17A e0_17H) e0_17V e0_17R = true := by decide +kernel
noncomputable def e0_18A : List V := [(.s (.p a30 0)),(.agg [(.i .i64 5),z0,z0,(.i .u64 0)])]
noncomputable def e0_18H : Hp := hset hs0_8 [] a32 0 31
noncomputable def e0_18V : V := (.s z0)
noncomputable def e0_18R : Hp := hset e0_18H [(a14,wB e0_18H a14 [(1104,37852718839251999918081)])] a32 0 31
noncomputable def e0_18S : S := (.fn a18 [])
theorem e0_18 : runB (calM prog (nat) 60 e0_18S e0_18A e0_18H) e0_18V e0_18R = true := by decide +kernel
noncomputable def e0_19A : List V := [(.s (.p a30 0)),(.agg [(.i .i64 5),z0,z0,(.i .u64 0)])]
noncomputable def e0_19H : Hp := hset hs0_9 [] a32 0 31
noncomputable def e0_19V : V := (.s z0)
noncomputable def e0_19R : Hp := hset e0_19H [(a14,wBQ e0_19H a14 71304256 [(1,1024),(1040,37852718839251999926273),(1104,37852718839251999942657)])] a32 0 31
noncomputable def e0_19S : S := (.fn a18 [])
theorem e0_19 : runB (calM prog (nat) 60 e0_19S e0_19A e0_19H) e0_19V e0_19R = true := by decide +kernel
end Go.E
