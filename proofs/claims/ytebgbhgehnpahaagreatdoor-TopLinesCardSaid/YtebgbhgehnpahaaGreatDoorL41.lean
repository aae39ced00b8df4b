/- A part of the proof of the claim that the last text of this folder states. -/
import Derived.Test.YtebgbhgehnpahaaGreatDoorL33
namespace Go.E
set_option linter.all false
set_option maxRecDepth 100000
noncomputable def g14_0A : List V := [(.agg [(.i .i64 12),(.sl a3 0 1 1),z0,(.i .i64 1),.ns])]
noncomputable def g14_0H : Hp := hmk [(a0,(.ro [(.i .u8 0),(.i .u8 1),(.i .u8 28),(.i .u8 2),(.i .u8 29),(.i .u8 14),(.i .u8 24),(.i .u8 3),(.i .u8 30),(.i .u8 22),(.i .u8 20),(.i .u8 15),(.i .u8 25),(.i .u8 17),(.i .u8 4),(.i .u8 8),(.i .u8 31),(.i .u8 27),(.i .u8 13),(.i .u8 23),(.i .u8 21),(.i .u8 19),(.i .u8 16),(.i .u8 7),(.i .u8 26),(.i .u8 12),(.i .u8 18),(.i .u8 6),(.i .u8 11),(.i .u8 5),(.i .u8 10),(.i .u8 9)])),(a1,(.c [(.i .i64 12),(.i .i64 14),z0,z0,(.i .i64 5),z0,(.i .i64 7),(.i .i64 18907912675552290406400)])),(a2,(.c [(.i .i64 3),(.i .i64 5),z0,z0,(.sl a1 0 2 2)])),(a3,(.c [(.i .i64 3),(.i .i64 5),z0,z0,(.sl a1 0 2 2)]))] a4 1000000000 0
noncomputable def g14_0V : V := (.s (.p a32 0))
noncomputable def g14_0R : Hp := hset g14_0H [(a4,(.c [(.i .i64 12),(.sl a3 0 1 1),z0,(.i .i64 1),.ns])),(a5,(.c [(.i .i64 12),(.sl a3 0 1 1),z0,(.i .i64 1),.ns])),(a6,(.c [(.i .i64 12),(.sl a3 0 1 1),z0,(.i .i64 1),.ns])),(a7,(.mp [((.agg [(.i .i64 3),z0]),(.s (.i .i64 1024)),0),((.agg [(.i .i64 2),z0]),(.s (.i .i64 1088)),1),((.agg [(.i .i64 5),z0]),(.s (.i .i64 1120)),2),((.agg [(.i .i64 7),z0]),(.s (.i .i64 1128)),3)] 4)),(a8,(.c [(.i .i64 12),(.sl a3 0 1 1),z0,(.i .i64 1),.ns,(.mp a7),(.i .i64 1136)])),(a9,(.mp [((.agg [(.i .i64 12),(.i .i64 14)]),(.s (.b true)),0),((.agg [(.i .i64 5),z0]),(.s (.b true)),1)] 2)),(a10,(.c [(.i .i64 3),(.i .i64 5),z0,z0,(.sl a1 0 2 2)])),(a11,(.c [(.i .i64 12),(.i .i64 14),z0,z0])),(a12,(.c [(.i .i64 12),(.i .i64 14)])),(a13,(.c [(.i .i64 5),z0,(.i .i64 7),(.i .i64 18907912675552290406400)])),(a14,(.c [(.i .i64 5),z0])),(a15,(.w .u64 4096 13 (W [(1,20217631504785668572160),(17,1128),(32,348449143727040986586495598010130648547331),(60,22836334671640035761734677516263237707370612359),(1024,713644263294995196836950787201201445746525186),(1040,10281),(1092,2819816866870904179904263735827288966795238165833871861896755451547822748666133888564439196669283341040499194276874054270988)] [(1097,18907912675552290406400)]))),(a16,(.cu (.sl a15 0 4096 4096))),(a17,(.c [(.p a16 0)])),(a18,(.c [(.p a8 0)])),(a19,(.mp [((.agg [(.i .i64 2),z0]),(.s (.i .i64 1024)),0),((.agg [(.i .i64 12),(.i .i64 14)]),(.s (.i .i64 1092)),1),((.agg [(.i .i64 5),z0]),(.s (.i .i64 1096)),2)] 3)),(a20,(.c [(.mp a19)])),(a21,(.c [(.b false)])),(a22,(.c [(.i .i64 3),(.i .i64 5),z0,z0,(.sl a1 0 2 2)])),(a23,(.c [(.i .i64 12),(.i .i64 14),z0,z0])),(a24,(.c [(.i .i64 5),z0,(.i .i64 7),(.i .i64 18907912675552290406400)])),(a27,(.c [(.i .i64 3),(.i .i64 5),z0,z0,(.sl a1 0 2 2)])),(a28,(.c [(.i .u16 0),(.i .u16 65535),(.i .u32 0)])),(a29,(.c (Zi 32))),(a30,(.c [(.p a16 0),(.p a28 0),(.p a29 0)])),(a31,(.c [(.p a16 0),(.p a28 0),(.p a29 0),z0])),(a32,(.c [(.p a16 0),(.p a31 0)]))] a33 1000000000 0
noncomputable def g14_0S : S := (.fn a12 [])
theorem g14_0 : runB (calM prog (nat) 60 g14_0S g14_0A g14_0H) g14_0V g14_0R = true := by decide +kernel
noncomputable def g14_1A : List V := [(.s (.p a32 0)),(.s (.i .i64 1)),(.s (.i .i64 23)),(.agg [(.i .u64 0),(.i .u64 0),(.i .u64 0),(.i .u64 0)]),(.s (.i .i64 2)),(.s z0)]
noncomputable def g14_1H : Hp := hset g14_0R [] a33 1000000000 0
noncomputable def g14_1V : V := (.s z0)
noncomputable def g14_1R : Hp := hset g14_1H [(a15,wB g14_1H a15 [(120,234898949),(121,18907912675552290406400),(122,4366533704),(1062,2),(1094,3932280),(1098,7864320)])] a33 1000000000 0
noncomputable def g14_1S : S := (.fn a21 [])
theorem g14_1 : runB (calM prog (nat) 60 g14_1S g14_1A g14_1H) g14_1V g14_1R = true := by decide +kernel
noncomputable def g14_2A : List V := [(.s (.p a32 0)),(.s (.i .i64 1)),(.s (.i .i64 25)),(.agg [(.i .u64 0),(.i .u64 0),(.i .u64 0),(.i .u64 0)]),(.s z0),(.s z0)]
noncomputable def g14_2H : Hp := hset g14_1R [] a33 0 32
noncomputable def g14_2V : V := (.s z0)
noncomputable def g14_2R : Hp := hset g14_2H [(a15,wB g14_2H a15 [(1062,0)]),(a28,(.c [(.i .u16 0),(.i .u16 49151),(.i .u32 0)]))] a33 0 32
noncomputable def g14_2S : S := (.fn a21 [])
theorem g14_2 : runB (calM prog (nat) 60 g14_2S g14_2A g14_2H) g14_2V g14_2R = true := by decide +kernel
noncomputable def g14_3A : List V := [(.s (.p a32 0)),(.s (.i .i64 5)),(.s (.sl a33 0 1 1))]
noncomputable def g14_3H : Hp := hset g14_2R [(a15,wB g14_2R a15 [(1120,2),(1121,18907912675552290406400)]),(a28,(.c [(.i .u16 16384),(.i .u16 65535),(.i .u32 0)])),(a33,(.c [(.i .u64 2)]))] a34 0 32
noncomputable def g14_3V : V := (.s z0)
noncomputable def g14_3R : Hp := hset g14_3H [(a15,wB g14_3H a15 [(1056,18907912675552290406400),(1120,0),(1121,0)])] a34 0 32
noncomputable def g14_3S : S := (.fn a14 [])
theorem g14_3 : runB (calM prog (nat) 60 g14_3S g14_3A g14_3H) g14_3V g14_3R = true := by decide +kernel
noncomputable def g14_4A : List V := [(.s (.p a32 0)),(.s (.i .i64 5)),(.s (.sl a34 0 1 1))]
noncomputable def g14_4H : Hp := hset g14_3R [(a34,(.c [(.i .u64 2)]))] a35 0 32
noncomputable def g14_4V : V := (.s z0)
noncomputable def g14_4R : Hp := hset g14_4H [(a15,wB g14_4H a15 [(1056,0)])] a35 0 32
noncomputable def g14_4S : S := (.fn a14 [])
theorem g14_4 : runB (calM prog (nat) 60 g14_4S g14_4A g14_4H) g14_4V g14_4R = true := by decide +kernel
noncomputable def g14_5A : List V := [(.s (.p a32 0)),(.s (.i .i64 1)),(.s (.i .i64 25)),(.agg [(.i .u64 0),(.i .u64 0),(.i .u64 0),(.i .u64 0)]),(.s z0),(.s z0)]
noncomputable def g14_5H : Hp := hset g14_4R [] a33 0 32
noncomputable def g14_5V : V := (.s z0)
noncomputable def g14_5R : Hp := hset g14_5H [(a28,(.c [(.i .u16 0),(.i .u16 49151),(.i .u32 0)]))] a33 0 32
noncomputable def g14_5S : S := (.fn a21 [])
theorem g14_5 : runB (calM prog (nat) 60 g14_5S g14_5A g14_5H) g14_5V g14_5R = true := by decide +kernel
noncomputable def g14_6A : List V := [(.s (.p a16 0))]
noncomputable def g14_6H : Hp := hset g14_5R [(a28,(.c [(.i .u16 16384),(.i .u16 65535),(.i .u32 0)]))] a33 0 32
noncomputable def g14_6V : V := (.s z0)
noncomputable def g14_6R : Hp := hset g14_6H [] a33 0 32
noncomputable def g14_6S : S := (.fn a24 [])
theorem g14_6 : runB (trimC (calM prog (nat) 60) g14_6S g14_6A g14_6H) g14_6V g14_6R = true := by decide +kernel
noncomputable def hs14_0 : Hp := hset g14_1R [] a33 0 32
noncomputable def hs14_1 : Hp := hset hs14_0 [(a15,wB hs14_0 a15 [(1062,0)]),(a28,(.c [(.i .u16 16384),(.i .u16 65535),(.i .u32 0)]))] a33 0 32
noncomputable def S14 : List LS := [⟨[(a2,(.s (.i .i64 340282366920938463463374607431768211458))),(a7,(.s (.b true))),(a8,(.s (.i .i64 14))),(a9,(.s (.i .i64 18907912675552290406400))),(a11,(.s (.p a32 0))),(a13,(.s z0))], hs14_0⟩, ⟨[(a2,(.s (.i .i64 340282366920938463463374607431768211458))),(a7,(.s (.b true))),(a8,(.s (.i .i64 14))),(a9,(.s (.i .i64 18907912675552290406400))),(a11,(.s (.p a32 0))),(a13,(.s (.i .i64 1)))], hs14_1⟩, ⟨[(a2,(.s (.i .i64 340282366920938463463374607431768211458))),(a7,(.s (.b true))),(a8,(.s (.i .i64 14))),(a9,(.s (.i .i64 18907912675552290406400))),(a11,(.s (.p a32 0))),(a13,(.s (.i .i64 2)))], hs14_1⟩, ⟨[(a2,(.s (.i .i64 340282366920938463463374607431768211458))),(a7,(.s (.b true))),(a8,(.s (.i .i64 14))),(a9,(.s (.i .i64 18907912675552290406400))),(a11,(.s (.p a32 0))),(a13,(.s (.i .i64 3)))], hs14_1⟩, ⟨[(a2,(.s (.i .i64 340282366920938463463374607431768211458))),(a7,(.s (.b true))),(a8,(.s (.i .i64 14))),(a9,(.s (.i .i64 18907912675552290406400))),(a11,(.s (.p a32 0))),(a13,(.s (.i .i64 4)))], hs14_1⟩, ⟨[(a2,(.s (.i .i64 340282366920938463463374607431768211458))),(a7,(.s (.b true))),(a8,(.s (.i .i64 14))),(a9,(.s (.i .i64 18907912675552290406400))),(a11,(.s (.p a32 0))),(a13,(.s (.i .i64 5)))], hs14_1⟩, ⟨[(a2,(.s (.i .i64 340282366920938463463374607431768211458))),(a7,(.s (.b true))),(a8,(.s (.i .i64 14))),(a9,(.s (.i .i64 18907912675552290406400))),(a11,(.s (.p a32 0))),(a13,(.s (.i .i64 6)))], hs14_1⟩]
noncomputable def natL14 : Cal := orC (oraC (Pth.of 17) [.s (.i .i64 ((symN + 0 : Nat) : Int)), .s (.i .i64 (.ofNat 16))] (.s (.i .i64 (.ofNat 14)))) (orC (oraC (Pth.of 17) [.s (.i .i64 ((symN + 1 : Nat) : Int)), .s (.i .i64 (.ofNat 268435455))] (.s (.i .i64 (.ofNat 20088504296269701709824)))) (orC (oraC (Pth.of 17) [.s (.i .i64 ((symN + 2 : Nat) : Int)), .s (.i .i64 (.ofNat 6))] (.s (.i .i64 (.ofNat 114535833953662605983744)))) (orC (memS fa0S fa0A fa0H fa0V fa0R) (orC (memS g14_0S g14_0A g14_0H g14_0V g14_0R) (orC (memS g14_1S g14_1A g14_1H g14_1V g14_1R) (orC (memS g14_2S g14_2A g14_2H g14_2V g14_2R) (orC (memS g14_3S g14_3A g14_3H g14_3V g14_3R) (orC (memS g14_4S g14_4A g14_4H g14_4V g14_4R) (orC (memS g14_5S g14_5A g14_5H g14_5V g14_5R) (orC (memS g14_6S g14_6A g14_6H g14_6V g14_6R) (nat)))))))))))
theorem run14 : iniB (symA [.i64, .i64, .i64] 0) (exWs js9 (calM prog natL14 60) (kF (fr f9) (.s (.b true))) (fun _ => noB) fun t h => exW jI (calM prog natL14 60) t h (inL S14) (kF (fr f9) (.s (.b true))) fun _ => noB) (heap0 tabL) = true := by decide +kernel
theorem ver14 : verC jB (calM prog natL14 60) (kF (fr f9) (.s (.b true))) (kxZ 0 jZ (calM prog natL14 60) (kF (fr f9) (.s (.b true)))) [] S14 = true := by decide +kernel
noncomputable def g15_0A : List V := [(.agg [(.i .i64 12),(.sl a3 0 1 1),z0,(.i .i64 1),.ns])]
noncomputable def g15_0H : Hp := hmk [(a0,(.ro [(.i .u8 0),(.i .u8 1),(.i .u8 28),(.i .u8 2),(.i .u8 29),(.i .u8 14),(.i .u8 24),(.i .u8 3),(.i .u8 30),(.i .u8 22),(.i .u8 20),(.i .u8 15),(.i .u8 25),(.i .u8 17),(.i .u8 4),(.i .u8 8),(.i .u8 31),(.i .u8 27),(.i .u8 13),(.i .u8 23),(.i .u8 21),(.i .u8 19),(.i .u8 16),(.i .u8 7),(.i .u8 26),(.i .u8 12),(.i .u8 18),(.i .u8 6),(.i .u8 11),(.i .u8 5),(.i .u8 10),(.i .u8 9)])),(a1,(.c [(.i .i64 12),(.i .i64 15),z0,z0,(.i .i64 5),z0,(.i .i64 7),(.i .i64 18907912675552290406400)])),(a2,(.c [(.i .i64 3),(.i .i64 5),z0,z0,(.sl a1 0 2 2)])),(a3,(.c [(.i .i64 3),(.i .i64 5),z0,z0,(.sl a1 0 2 2)]))] a4 1000000000 0
noncomputable def g15_0V : V := (.s (.p a32 0))
noncomputable def g15_0R : Hp := hset g15_0H [(a4,(.c [(.i .i64 12),(.sl a3 0 1 1),z0,(.i .i64 1),.ns])),(a5,(.c [(.i .i64 12),(.sl a3 0 1 1),z0,(.i .i64 1),.ns])),(a6,(.c [(.i .i64 12),(.sl a3 0 1 1),z0,(.i .i64 1),.ns])),(a7,(.mp [((.agg [(.i .i64 3),z0]),(.s (.i .i64 1024)),0),((.agg [(.i .i64 2),z0]),(.s (.i .i64 1088)),1),((.agg [(.i .i64 5),z0]),(.s (.i .i64 1120)),2),((.agg [(.i .i64 7),z0]),(.s (.i .i64 1128)),3)] 4)),(a8,(.c [(.i .i64 12),(.sl a3 0 1 1),z0,(.i .i64 1),.ns,(.mp a7),(.i .i64 1136)])),(a9,(.mp [((.agg [(.i .i64 12),(.i .i64 15)]),(.s (.b true)),0),((.agg [(.i .i64 5),z0]),(.s (.b true)),1)] 2)),(a10,(.c [(.i .i64 3),(.i .i64 5),z0,z0,(.sl a1 0 2 2)])),(a11,(.c [(.i .i64 12),(.i .i64 15),z0,z0])),(a12,(.c [(.i .i64 12),(.i .i64 15)])),(a13,(.c [(.i .i64 5),z0,(.i .i64 7),(.i .i64 18907912675552290406400)])),(a14,(.c [(.i .i64 5),z0])),(a15,(.w .u64 4096 13 (W [(1,20217631504785668572160),(17,1128),(32,348449143727040986586495598010130648547331),(60,22836334671640035761734677516263237707370612359),(1024,713644263294995196836950787201201445746525186),(1040,10281),(1092,2819816866870904179904263735827288966795238165833871861896755451547822748666133888564439196669283341040499194276874322706444)] [(1097,18907912675552290406400)]))),(a16,(.cu (.sl a15 0 4096 4096))),(a17,(.c [(.p a16 0)])),(a18,(.c [(.p a8 0)])),(a19,(.mp [((.agg [(.i .i64 2),z0]),(.s (.i .i64 1024)),0),((.agg [(.i .i64 12),(.i .i64 15)]),(.s (.i .i64 1092)),1),((.agg [(.i .i64 5),z0]),(.s (.i .i64 1096)),2)] 3)),(a20,(.c [(.mp a19)])),(a21,(.c [(.b false)])),(a22,(.c [(.i .i64 3),(.i .i64 5),z0,z0,(.sl a1 0 2 2)])),(a23,(.c [(.i .i64 12),(.i .i64 15),z0,z0])),(a24,(.c [(.i .i64 5),z0,(.i .i64 7),(.i .i64 18907912675552290406400)])),(a27,(.c [(.i .i64 3),(.i .i64 5),z0,z0,(.sl a1 0 2 2)])),(a28,(.c [(.i .u16 0),(.i .u16 65535),(.i .u32 0)])),(a29,(.c (Zi 32))),(a30,(.c [(.p a16 0),(.p a28 0),(.p a29 0)])),(a31,(.c [(.p a16 0),(.p a28 0),(.p a29 0),z0])),(a32,(.c [(.p a16 0),(.p a31 0)]))] a33 1000000000 0
noncomputable def g15_0S : S := (.fn a12 [])
theorem g15_0 : runB (calM prog (nat) 60 g15_0S g15_0A g15_0H) g15_0V g15_0R = true := by decide +kernel
noncomputable def g15_1A : List V := [(.s (.p a32 0)),(.s (.i .i64 1)),(.s (.i .i64 23)),(.agg [(.i .u64 0),(.i .u64 0),(.i .u64 0),(.i .u64 0)]),(.s (.i .i64 2)),(.s z0)]
noncomputable def g15_1H : Hp := hset g15_0R [] a33 1000000000 0
noncomputable def g15_1V : V := (.s z0)
noncomputable def g15_1R : Hp := hset g15_1H [(a15,wB g15_1H a15 [(124,234898949),(125,18907912675552290406400),(126,4366533704),(1062,2),(1094,3932284),(1098,8126464)])] a33 1000000000 0
noncomputable def g15_1S : S := (.fn a21 [])
theorem g15_1 : runB (calM prog (nat) 60 g15_1S g15_1A g15_1H) g15_1V g15_1R = true := by decide +kernel
noncomputable def g15_2A : List V := [(.s (.p a32 0)),(.s (.i .i64 1)),(.s (.i .i64 25)),(.agg [(.i .u64 0),(.i .u64 0),(.i .u64 0),(.i .u64 0)]),(.s z0),(.s z0)]
noncomputable def g15_2H : Hp := hset g15_1R [] a33 0 32
noncomputable def g15_2V : V := (.s z0)
noncomputable def g15_2R : Hp := hset g15_2H [(a15,wB g15_2H a15 [(1062,0)]),(a28,(.c [(.i .u16 0),(.i .u16 32767),(.i .u32 0)]))] a33 0 32
noncomputable def g15_2S : S := (.fn a21 [])
theorem g15_2 : runB (calM prog (nat) 60 g15_2S g15_2A g15_2H) g15_2V g15_2R = true := by decide +kernel
noncomputable def g15_3A : List V := [(.s (.p a32 0)),(.s (.i .i64 5)),(.s (.sl a33 0 1 1))]
noncomputable def g15_3H : Hp := hset g15_2R [(a15,wB g15_2R a15 [(1120,2),(1121,18907912675552290406400)]),(a28,(.c [(.i .u16 32768),(.i .u16 65535),(.i .u32 0)])),(a33,(.c [(.i .u64 2)]))] a34 0 32
noncomputable def g15_3V : V := (.s z0)
noncomputable def g15_3R : Hp := hset g15_3H [(a15,wB g15_3H a15 [(1056,18907912675552290406400),(1120,0),(1121,0)])] a34 0 32
noncomputable def g15_3S : S := (.fn a14 [])
theorem g15_3 : runB (calM prog (nat) 60 g15_3S g15_3A g15_3H) g15_3V g15_3R = true := by decide +kernel
noncomputable def g15_4A : List V := [(.s (.p a32 0)),(.s (.i .i64 5)),(.s (.sl a34 0 1 1))]
noncomputable def g15_4H : Hp := hset g15_3R [(a34,(.c [(.i .u64 2)]))] a35 0 32
noncomputable def g15_4V : V := (.s z0)
noncomputable def g15_4R : Hp := hset g15_4H [(a15,wB g15_4H a15 [(1056,0)])] a35 0 32
noncomputable def g15_4S : S := (.fn a14 [])
theorem g15_4 : runB (calM prog (nat) 60 g15_4S g15_4A g15_4H) g15_4V g15_4R = true := by decide +kernel
noncomputable def g15_5A : List V := [(.s (.p a32 0)),(.s (.i .i64 1)),(.s (.i .i64 25)),(.agg [(.i .u64 0),(.i .u64 0),(.i .u64 0),(.i .u64 0)]),(.s z0),(.s z0)]
noncomputable def g15_5H : Hp := hset g15_4R [] a33 0 32
noncomputable def g15_5V : V := (.s z0)
noncomputable def g15_5R : Hp := hset g15_5H [(a28,(.c [(.i .u16 0),(.i .u16 32767),(.i .u32 0)]))] a33 0 32
noncomputable def g15_5S : S := (.fn a21 [])
theorem g15_5 : runB (calM prog (nat) 60 g15_5S g15_5A g15_5H) g15_5V g15_5R = true := by decide +kernel
noncomputable def g15_6A : List V := [(.s (.p a16 0))]
noncomputable def g15_6H : Hp := hset g15_5R [(a28,(.c [(.i .u16 32768),(.i .u16 65535),(.i .u32 0)]))] a33 0 32
noncomputable def g15_6V : V := (.s z0)
noncomputable def g15_6R : Hp := hset g15_6H [] a33 0 32
noncomputable def g15_6S : S := (.fn a24 [])
theorem g15_6 : runB (trimC (calM prog (nat) 60) g15_6S g15_6A g15_6H) g15_6V g15_6R = true := by decide +kernel
noncomputable def hs15_0 : Hp := hset g15_1R [] a33 0 32
noncomputable def hs15_1 : Hp := hset hs15_0 [(a15,wB hs15_0 a15 [(1062,0)]),(a28,(.c [(.i .u16 32768),(.i .u16 65535),(.i .u32 0)]))] a33 0 32
noncomputable def S15 : List LS := [⟨[(a2,(.s (.i .i64 340282366920938463463374607431768211458))),(a7,(.s (.b true))),(a8,(.s (.i .i64 15))),(a9,(.s (.i .i64 18907912675552290406400))),(a11,(.s (.p a32 0))),(a13,(.s z0))], hs15_0⟩, ⟨[(a2,(.s (.i .i64 340282366920938463463374607431768211458))),(a7,(.s (.b true))),(a8,(.s (.i .i64 15))),(a9,(.s (.i .i64 18907912675552290406400))),(a11,(.s (.p a32 0))),(a13,(.s (.i .i64 1)))], hs15_1⟩, ⟨[(a2,(.s (.i .i64 340282366920938463463374607431768211458))),(a7,(.s (.b true))),(a8,(.s (.i .i64 15))),(a9,(.s (.i .i64 18907912675552290406400))),(a11,(.s (.p a32 0))),(a13,(.s (.i .i64 2)))], hs15_1⟩, ⟨[(a2,(.s (.i .i64 340282366920938463463374607431768211458))),(a7,(.s (.b true))),(a8,(.s (.i .i64 15))),(a9,(.s (.i .i64 18907912675552290406400))),(a11,(.s (.p a32 0))),(a13,(.s (.i .i64 3)))], hs15_1⟩, ⟨[(a2,(.s (.i .i64 340282366920938463463374607431768211458))),(a7,(.s (.b true))),(a8,(.s (.i .i64 15))),(a9,(.s (.i .i64 18907912675552290406400))),(a11,(.s (.p a32 0))),(a13,(.s (.i .i64 4)))], hs15_1⟩, ⟨[(a2,(.s (.i .i64 340282366920938463463374607431768211458))),(a7,(.s (.b true))),(a8,(.s (.i .i64 15))),(a9,(.s (.i .i64 18907912675552290406400))),(a11,(.s (.p a32 0))),(a13,(.s (.i .i64 5)))], hs15_1⟩, ⟨[(a2,(.s (.i .i64 340282366920938463463374607431768211458))),(a7,(.s (.b true))),(a8,(.s (.i .i64 15))),(a9,(.s (.i .i64 18907912675552290406400))),(a11,(.s (.p a32 0))),(a13,(.s (.i .i64 6)))], hs15_1⟩]
noncomputable def natL15 : Cal := orC (oraC (Pth.of 17) [.s (.i .i64 ((symN + 0 : Nat) : Int)), .s (.i .i64 (.ofNat 16))] (.s (.i .i64 (.ofNat 15)))) (orC (oraC (Pth.of 17) [.s (.i .i64 ((symN + 1 : Nat) : Int)), .s (.i .i64 (.ofNat 268435455))] (.s (.i .i64 (.ofNat 20088504296269701709824)))) (orC (oraC (Pth.of 17) [.s (.i .i64 ((symN + 2 : Nat) : Int)), .s (.i .i64 (.ofNat 6))] (.s (.i .i64 (.ofNat 114535833953662605983744)))) (orC (memS fa0S fa0A fa0H fa0V fa0R) (orC (memS g15_0S g15_0A g15_0H g15_0V g15_0R) (orC (memS g15_1S g15_1A g15_1H g15_1V g15_1R) (orC (memS g15_2S g15_2A g15_2H g15_2V g15_2R) (orC (memS g15_3S g15_3A g15_3H g15_3V g15_3R) (orC (memS g15_4S g15_4A g15_4H g15_4V g15_4R) (orC (memS g15_5S g15_5A g15_5H g15_5V g15_5R) (orC (memS g15_6S g15_6A g15_6H g15_6V g15_6R) (nat)))))))))))
theorem run15 : iniB (symA [.i64, .i64, .i64] 0) (exWs js9 (calM prog natL15 60) (kF (fr f9) (.s (.b true))) (fun _ => noB) fun t h => exW jI (calM prog natL15 60) t h (inL S15) (kF (fr f9) (.s (.b true))) fun _ => noB) (heap0 tabL) = true := by decide +kernel
theorem ver15 : verC jB (calM prog natL15 60) (kF (fr f9) (.s (.b true))) (kxZ 0 jZ (calM prog natL15 60) (kF (fr f9) (.s (.b true)))) [] S15 = true := by decide +kernel
end Go.E
