/- A part of the proof of the claim that the last text of this folder states. -/
import Derived.Test.YtebgbhgehnpahaaGreatDoorL33
namespace Go.E
set_option linter.all false
set_option maxRecDepth 100000
noncomputable def g6_0A : List V := [(.agg [(.i .i64 12),(.sl a3 0 1 1),z0,(.i .i64 1),.ns])]
noncomputable def g6_0H : Hp := hmk [(a0,(.ro [(.i .u8 0),(.i .u8 1),(.i .u8 28),(.i .u8 2),(.i .u8 29),(.i .u8 14),(.i .u8 24),(.i .u8 3),(.i .u8 30),(.i .u8 22),(.i .u8 20),(.i .u8 15),(.i .u8 25),(.i .u8 17),(.i .u8 4),(.i .u8 8),(.i .u8 31),(.i .u8 27),(.i .u8 13),(.i .u8 23),(.i .u8 21),(.i .u8 19),(.i .u8 16),(.i .u8 7),(.i .u8 26),(.i .u8 12),(.i .u8 18),(.i .u8 6),(.i .u8 11),(.i .u8 5),(.i .u8 10),(.i .u8 9)])),(a1,(.c [(.i .i64 12),(.i .i64 6),z0,z0,(.i .i64 5),z0,(.i .i64 7),(.i .i64 18907912675552290406400)])),(a2,(.c [(.i .i64 3),(.i .i64 5),z0,z0,(.sl a1 0 2 2)])),(a3,(.c [(.i .i64 3),(.i .i64 5),z0,z0,(.sl a1 0 2 2)]))] a4 1000000000 0
noncomputable def g6_0V : V := (.s (.p a32 0))
noncomputable def g6_0R : Hp := hset g6_0H [(a4,(.c [(.i .i64 12),(.sl a3 0 1 1),z0,(.i .i64 1),.ns])),(a5,(.c [(.i .i64 12),(.sl a3 0 1 1),z0,(.i .i64 1),.ns])),(a6,(.c [(.i .i64 12),(.sl a3 0 1 1),z0,(.i .i64 1),.ns])),(a7,(.mp [((.agg [(.i .i64 3),z0]),(.s (.i .i64 1024)),0),((.agg [(.i .i64 2),z0]),(.s (.i .i64 1088)),1),((.agg [(.i .i64 5),z0]),(.s (.i .i64 1120)),2),((.agg [(.i .i64 7),z0]),(.s (.i .i64 1128)),3)] 4)),(a8,(.c [(.i .i64 12),(.sl a3 0 1 1),z0,(.i .i64 1),.ns,(.mp a7),(.i .i64 1136)])),(a9,(.mp [((.agg [(.i .i64 12),(.i .i64 6)]),(.s (.b true)),0),((.agg [(.i .i64 5),z0]),(.s (.b true)),1)] 2)),(a10,(.c [(.i .i64 3),(.i .i64 5),z0,z0,(.sl a1 0 2 2)])),(a11,(.c [(.i .i64 12),(.i .i64 6),z0,z0])),(a12,(.c [(.i .i64 12),(.i .i64 6)])),(a13,(.c [(.i .i64 5),z0,(.i .i64 7),(.i .i64 18907912675552290406400)])),(a14,(.c [(.i .i64 5),z0])),(a15,(.w .u64 4096 13 (W [(1,20217631504785668572160),(17,1128),(32,348449143727040986586495598010130648547331),(60,22836334671640035761734677516263237707370612359),(1024,713644263294995196836950787201201445746525186),(1040,10281),(1092,2819816866870904179904263735827288966795238165833871861896755451547822748666133888564439196669283341040499194276871906787340)] [(1097,18907912675552290406400)]))),(a16,(.cu (.sl a15 0 4096 4096))),(a17,(.c [(.p a16 0)])),(a18,(.c [(.p a8 0)])),(a19,(.mp [((.agg [(.i .i64 2),z0]),(.s (.i .i64 1024)),0),((.agg [(.i .i64 12),(.i .i64 6)]),(.s (.i .i64 1092)),1),((.agg [(.i .i64 5),z0]),(.s (.i .i64 1096)),2)] 3)),(a20,(.c [(.mp a19)])),(a21,(.c [(.b false)])),(a22,(.c [(.i .i64 3),(.i .i64 5),z0,z0,(.sl a1 0 2 2)])),(a23,(.c [(.i .i64 12),(.i .i64 6),z0,z0])),(a24,(.c [(.i .i64 5),z0,(.i .i64 7),(.i .i64 18907912675552290406400)])),(a27,(.c [(.i .i64 3),(.i .i64 5),z0,z0,(.sl a1 0 2 2)])),(a28,(.c [(.i .u16 0),(.i .u16 65535),(.i .u32 0)])),(a29,(.c (Zi 32))),(a30,(.c [(.p a16 0),(.p a28 0),(.p a29 0)])),(a31,(.c [(.p a16 0),(.p a28 0),(.p a29 0),z0])),(a32,(.c [(.p a16 0),(.p a31 0)]))] a33 1000000000 0
noncomputable def g6_0S : S := (.fn a12 [])
theorem g6_0 : runB (calM prog (nat) 60 g6_0S g6_0A g6_0H) g6_0V g6_0R = true := by decide +kernel
noncomputable def g6_1A : List V := [(.s (.p a32 0)),(.s (.i .i64 1)),(.s (.i .i64 23)),(.agg [(.i .u64 0),(.i .u64 0),(.i .u64 0),(.i .u64 0)]),(.s (.i .i64 2)),(.s z0)]
noncomputable def g6_1H : Hp := hset g6_0R [] a33 1000000000 0
noncomputable def g6_1V : V := (.s z0)
noncomputable def g6_1R : Hp := hset g6_1H [(a15,wB g6_1H a15 [(88,234898949),(89,18907912675552290406400),(90,4366533704),(1062,2),(1094,3932248),(1098,5767168)])] a33 1000000000 0
noncomputable def g6_1S : S := (.fn a21 [])
theorem g6_1 : runB (calM prog (nat) 60 g6_1S g6_1A g6_1H) g6_1V g6_1R = true := by decide +kernel
noncomputable def g6_2A : List V := [(.s (.p a32 0)),(.s (.i .i64 1)),(.s (.i .i64 25)),(.agg [(.i .u64 0),(.i .u64 0),(.i .u64 0),(.i .u64 0)]),(.s z0),(.s z0)]
noncomputable def g6_2H : Hp := hset g6_1R [] a33 0 32
noncomputable def g6_2V : V := (.s z0)
noncomputable def g6_2R : Hp := hset g6_2H [(a15,wB g6_2H a15 [(1062,0)]),(a28,(.c [(.i .u16 0),(.i .u16 65471),(.i .u32 0)]))] a33 0 32
noncomputable def g6_2S : S := (.fn a21 [])
theorem g6_2 : runB (calM prog (nat) 60 g6_2S g6_2A g6_2H) g6_2V g6_2R = true := by decide +kernel
noncomputable def g6_3A : List V := [(.s (.p a32 0)),(.s (.i .i64 5)),(.s (.sl a33 0 1 1))]
noncomputable def g6_3H : Hp := hset g6_2R [(a15,wB g6_2R a15 [(1120,2),(1121,18907912675552290406400)]),(a28,(.c [(.i .u16 64),(.i .u16 65535),(.i .u32 0)])),(a33,(.c [(.i .u64 2)]))] a34 0 32
noncomputable def g6_3V : V := (.s z0)
noncomputable def g6_3R : Hp := hset g6_3H [(a15,wB g6_3H a15 [(1056,18907912675552290406400),(1120,0),(1121,0)])] a34 0 32
noncomputable def g6_3S : S := (.fn a14 [])
theorem g6_3 : runB (calM prog (nat) 60 g6_3S g6_3A g6_3H) g6_3V g6_3R = true := by decide +kernel
noncomputable def g6_4A : List V := [(.s (.p a32 0)),(.s (.i .i64 5)),(.s (.sl a34 0 1 1))]
noncomputable def g6_4H : Hp := hset g6_3R [(a34,(.c [(.i .u64 2)]))] a35 0 32
noncomputable def g6_4V : V := (.s z0)
noncomputable def g6_4R : Hp := hset g6_4H [(a15,wB g6_4H a15 [(1056,0)])] a35 0 32
noncomputable def g6_4S : S := (.fn a14 [])
theorem g6_4 : runB (calM prog (nat) 60 g6_4S g6_4A g6_4H) g6_4V g6_4R = true := by decide +kernel
noncomputable def g6_5A : List V := [(.s (.p a32 0)),(.s (.i .i64 1)),(.s (.i .i64 25)),(.agg [(.i .u64 0),(.i .u64 0),(.i .u64 0),(.i .u64 0)]),(.s z0),(.s z0)]
noncomputable def g6_5H : Hp := hset g6_4R [] a33 0 32
noncomputable def g6_5V : V := (.s z0)
noncomputable def g6_5R : Hp := hset g6_5H [(a28,(.c [(.i .u16 0),(.i .u16 65471),(.i .u32 0)]))] a33 0 32
noncomputable def g6_5S : S := (.fn a21 [])
theorem g6_5 : runB (calM prog (nat) 60 g6_5S g6_5A g6_5H) g6_5V g6_5R = true := by decide +kernel
noncomputable def g6_6A : List V := [(.s (.p a16 0))]
noncomputable def g6_6H : Hp := hset g6_5R [(a28,(.c [(.i .u16 64),(.i .u16 65535),(.i .u32 0)]))] a33 0 32
noncomputable def g6_6V : V := (.s z0)
noncomputable def g6_6R : Hp := hset g6_6H [] a33 0 32
noncomputable def g6_6S : S := (.fn a24 [])
theorem g6_6 : runB (trimC (calM prog (nat) 60) g6_6S g6_6A g6_6H) g6_6V g6_6R = true := by decide +kernel
noncomputable def hs6_0 : Hp := hset g6_1R [] a33 0 32
noncomputable def hs6_1 : Hp := hset hs6_0 [(a15,wB hs6_0 a15 [(1062,0)]),(a28,(.c [(.i .u16 64),(.i .u16 65535),(.i .u32 0)]))] a33 0 32
noncomputable def S6 : List LS := [⟨[(a2,(.s (.i .i64 340282366920938463463374607431768211458))),(a7,(.s (.b true))),(a8,(.s (.i .i64 6))),(a9,(.s (.i .i64 18907912675552290406400))),(a11,(.s (.p a32 0))),(a13,(.s z0))], hs6_0⟩, ⟨[(a2,(.s (.i .i64 340282366920938463463374607431768211458))),(a7,(.s (.b true))),(a8,(.s (.i .i64 6))),(a9,(.s (.i .i64 18907912675552290406400))),(a11,(.s (.p a32 0))),(a13,(.s (.i .i64 1)))], hs6_1⟩, ⟨[(a2,(.s (.i .i64 340282366920938463463374607431768211458))),(a7,(.s (.b true))),(a8,(.s (.i .i64 6))),(a9,(.s (.i .i64 18907912675552290406400))),(a11,(.s (.p a32 0))),(a13,(.s (.i .i64 2)))], hs6_1⟩, ⟨[(a2,(.s (.i .i64 340282366920938463463374607431768211458))),(a7,(.s (.b true))),(a8,(.s (.i .i64 6))),(a9,(.s (.i .i64 18907912675552290406400))),(a11,(.s (.p a32 0))),(a13,(.s (.i .i64 3)))], hs6_1⟩, ⟨[(a2,(.s (.i .i64 340282366920938463463374607431768211458))),(a7,(.s (.b true))),(a8,(.s (.i .i64 6))),(a9,(.s (.i .i64 18907912675552290406400))),(a11,(.s (.p a32 0))),(a13,(.s (.i .i64 4)))], hs6_1⟩, ⟨[(a2,(.s (.i .i64 340282366920938463463374607431768211458))),(a7,(.s (.b true))),(a8,(.s (.i .i64 6))),(a9,(.s (.i .i64 18907912675552290406400))),(a11,(.s (.p a32 0))),(a13,(.s (.i .i64 5)))], hs6_1⟩, ⟨[(a2,(.s (.i .i64 340282366920938463463374607431768211458))),(a7,(.s (.b true))),(a8,(.s (.i .i64 6))),(a9,(.s (.i .i64 18907912675552290406400))),(a11,(.s (.p a32 0))),(a13,(.s (.i .i64 6)))], hs6_1⟩]
noncomputable def natL6 : Cal := orC (oraC (Pth.of 17) [.s (.i .i64 ((symN + 0 : Nat) : Int)), .s (.i .i64 (.ofNat 16))] (.s (.i .i64 (.ofNat 6)))) (orC (oraC (Pth.of 17) [.s (.i .i64 ((symN + 1 : Nat) : Int)), .s (.i .i64 (.ofNat 268435455))] (.s (.i .i64 (.ofNat 20088504296269701709824)))) (orC (oraC (Pth.of 17) [.s (.i .i64 ((symN + 2 : Nat) : Int)), .s (.i .i64 (.ofNat 6))] (.s (.i .i64 (.ofNat 114535833953662605983744)))) (orC (memS fa0S fa0A fa0H fa0V fa0R) (orC (memS g6_0S g6_0A g6_0H g6_0V g6_0R) (orC (memS g6_1S g6_1A g6_1H g6_1V g6_1R) (orC (memS g6_2S g6_2A g6_2H g6_2V g6_2R) (orC (memS g6_3S g6_3A g6_3H g6_3V g6_3R) (orC (memS g6_4S g6_4A g6_4H g6_4V g6_4R) (orC (memS g6_5S g6_5A g6_5H g6_5V g6_5R) (orC (memS g6_6S g6_6A g6_6H g6_6V g6_6R) (nat)))))))))))
theorem run6 : iniB (symA [.i64, .i64, .i64] 0) (exWs js9 (calM prog natL6 60) (kF (fr f9) (.s (.b true))) (fun _ => noB) fun t h => exW jI (calM prog natL6 60) t h (inL S6) (kF (fr f9) (.s (.b true))) fun _ => noB) (heap0 tabL) = true := by decide +kernel
theorem ver6 : verC jB (calM prog natL6 60) (kF (fr f9) (.s (.b true))) (kxZ 0 jZ (calM prog natL6 60) (kF (fr f9) (.s (.b true)))) [] S6 = true := by decide +kernel
noncomputable def g7_0A : List V := [(.agg [(.i .i64 12),(.sl a3 0 1 1),z0,(.i .i64 1),.ns])]
noncomputable def g7_0H : Hp := hmk [(a0,(.ro [(.i .u8 0),(.i .u8 1),(.i .u8 28),(.i .u8 2),(.i .u8 29),(.i .u8 14),(.i .u8 24),(.i .u8 3),(.i .u8 30),(.i .u8 22),(.i .u8 20),(.i .u8 15),(.i .u8 25),(.i .u8 17),(.i .u8 4),(.i .u8 8),(.i .u8 31),(.i .u8 27),(.i .u8 13),(.i .u8 23),(.i .u8 21),(.i .u8 19),(.i .u8 16),(.i .u8 7),(.i .u8 26),(.i .u8 12),(.i .u8 18),(.i .u8 6),(.i .u8 11),(.i .u8 5),(.i .u8 10),(.i .u8 9)])),(a1,(.c [(.i .i64 12),(.i .i64 7),z0,z0,(.i .i64 5),z0,(.i .i64 7),(.i .i64 18907912675552290406400)])),(a2,(.c [(.i .i64 3),(.i .i64 5),z0,z0,(.sl a1 0 2 2)])),(a3,(.c [(.i .i64 3),(.i .i64 5),z0,z0,(.sl a1 0 2 2)]))] a4 1000000000 0
noncomputable def g7_0V : V := (.s (.p a32 0))
noncomputable def g7_0R : Hp := hset g7_0H [(a4,(.c [(.i .i64 12),(.sl a3 0 1 1),z0,(.i .i64 1),.ns])),(a5,(.c [(.i .i64 12),(.sl a3 0 1 1),z0,(.i .i64 1),.ns])),(a6,(.c [(.i .i64 12),(.sl a3 0 1 1),z0,(.i .i64 1),.ns])),(a7,(.mp [((.agg [(.i .i64 3),z0]),(.s (.i .i64 1024)),0),((.agg [(.i .i64 2),z0]),(.s (.i .i64 1088)),1),((.agg [(.i .i64 5),z0]),(.s (.i .i64 1120)),2),((.agg [(.i .i64 7),z0]),(.s (.i .i64 1128)),3)] 4)),(a8,(.c [(.i .i64 12),(.sl a3 0 1 1),z0,(.i .i64 1),.ns,(.mp a7),(.i .i64 1136)])),(a9,(.mp [((.agg [(.i .i64 12),(.i .i64 7)]),(.s (.b true)),0),((.agg [(.i .i64 5),z0]),(.s (.b true)),1)] 2)),(a10,(.c [(.i .i64 3),(.i .i64 5),z0,z0,(.sl a1 0 2 2)])),(a11,(.c [(.i .i64 12),(.i .i64 7),z0,z0])),(a12,(.c [(.i .i64 12),(.i .i64 7)])),(a13,(.c [(.i .i64 5),z0,(.i .i64 7),(.i .i64 18907912675552290406400)])),(a14,(.c [(.i .i64 5),z0])),(a15,(.w .u64 4096 13 (W [(1,20217631504785668572160),(17,1128),(32,348449143727040986586495598010130648547331),(60,22836334671640035761734677516263237707370612359),(1024,713644263294995196836950787201201445746525186),(1040,10281),(1092,2819816866870904179904263735827288966795238165833871861896755451547822748666133888564439196669283341040499194276872175222796)] [(1097,18907912675552290406400)]))),(a16,(.cu (.sl a15 0 4096 4096))),(a17,(.c [(.p a16 0)])),(a18,(.c [(.p a8 0)])),(a19,(.mp [((.agg [(.i .i64 2),z0]),(.s (.i .i64 1024)),0),((.agg [(.i .i64 12),(.i .i64 7)]),(.s (.i .i64 1092)),1),((.agg [(.i .i64 5),z0]),(.s (.i .i64 1096)),2)] 3)),(a20,(.c [(.mp a19)])),(a21,(.c [(.b false)])),(a22,(.c [(.i .i64 3),(.i .i64 5),z0,z0,(.sl a1 0 2 2)])),(a23,(.c [(.i .i64 12),(.i .i64 7),z0,z0])),(a24,(.c [(.i .i64 5),z0,(.i .i64 7),(.i .i64 18907912675552290406400)])),(a27,(.c [(.i .i64 3),(.i .i64 5),z0,z0,(.sl a1 0 2 2)])),(a28,(.c [(.i .u16 0),(.i .u16 65535),(.i .u32 0)])),(a29,(.c (Zi 32))),(a30,(.c [(.p a16 0),(.p a28 0),(.p a29 0)])),(a31,(.c [(.p a16 0),(.p a28 0),(.p a29 0),z0])),(a32,(.c [(.p a16 0),(.p a31 0)]))] a33 1000000000 0
noncomputable def g7_0S : S := (.fn a12 [])
theorem g7_0 : runB (calM prog (nat) 60 g7_0S g7_0A g7_0H) g7_0V g7_0R = true := by decide +kernel
noncomputable def g7_1A : List V := [(.s (.p a32 0)),(.s (.i .i64 1)),(.s (.i .i64 23)),(.agg [(.i .u64 0),(.i .u64 0),(.i .u64 0),(.i .u64 0)]),(.s (.i .i64 2)),(.s z0)]
noncomputable def g7_1H : Hp := hset g7_0R [] a33 1000000000 0
noncomputable def g7_1V : V := (.s z0)
noncomputable def g7_1R : Hp := hset g7_1H [(a15,wB g7_1H a15 [(92,234898949),(93,18907912675552290406400),(94,4366533704),(1062,2),(1094,3932252),(1098,6029312)])] a33 1000000000 0
noncomputable def g7_1S : S := (.fn a21 [])
theorem g7_1 : runB (calM prog (nat) 60 g7_1S g7_1A g7_1H) g7_1V g7_1R = true := by decide +kernel
noncomputable def g7_2A : List V := [(.s (.p a32 0)),(.s (.i .i64 1)),(.s (.i .i64 25)),(.agg [(.i .u64 0),(.i .u64 0),(.i .u64 0),(.i .u64 0)]),(.s z0),(.s z0)]
noncomputable def g7_2H : Hp := hset g7_1R [] a33 0 32
noncomputable def g7_2V : V := (.s z0)
noncomputable def g7_2R : Hp := hset g7_2H [(a15,wB g7_2H a15 [(1062,0)]),(a28,(.c [(.i .u16 0),(.i .u16 65407),(.i .u32 0)]))] a33 0 32
noncomputable def g7_2S : S := (.fn a21 [])
theorem g7_2 : runB (calM prog (nat) 60 g7_2S g7_2A g7_2H) g7_2V g7_2R = true := by decide +kernel
noncomputable def g7_3A : List V := [(.s (.p a32 0)),(.s (.i .i64 5)),(.s (.sl a33 0 1 1))]
noncomputable def g7_3H : Hp := hset g7_2R [(a15,wB g7_2R a15 [(1120,2),(1121,18907912675552290406400)]),(a28,(.c [(.i .u16 128),(.i .u16 65535),(.i .u32 0)])),(a33,(.c [(.i .u64 2)]))] a34 0 32
noncomputable def g7_3V : V := (.s z0)
noncomputable def g7_3R : Hp := hset g7_3H [(a15,wB g7_3H a15 [(1056,18907912675552290406400),(1120,0),(1121,0)])] a34 0 32
noncomputable def g7_3S : S := (.fn a14 [])
theorem g7_3 : runB (calM prog (nat) 60 g7_3S g7_3A g7_3H) g7_3V g7_3R = true := by decide +kernel
noncomputable def g7_4A : List V := [(.s (.p a32 0)),(.s (.i .i64 5)),(.s (.sl a34 0 1 1))]
noncomputable def g7_4H : Hp := hset g7_3R [(a34,(.c [(.i .u64 2)]))] a35 0 32
noncomputable def g7_4V : V := (.s z0)
noncomputable def g7_4R : Hp := hset g7_4H [(a15,wB g7_4H a15 [(1056,0)])] a35 0 32
noncomputable def g7_4S : S := (.fn a14 [])
theorem g7_4 : runB (calM prog (nat) 60 g7_4S g7_4A g7_4H) g7_4V g7_4R = true := by decide +kernel
noncomputable def g7_5A : List V := [(.s (.p a32 0)),(.s (.i .i64 1)),(.s (.i .i64 25)),(.agg [(.i .u64 0),(.i .u64 0),(.i .u64 0),(.i .u64 0)]),(.s z0),(.s z0)]
noncomputable def g7_5H : Hp := hset g7_4R [] a33 0 32
noncomputable def g7_5V : V := (.s z0)
noncomputable def g7_5R : Hp := hset g7_5H [(a28,(.c [(.i .u16 0),(.i .u16 65407),(.i .u32 0)]))] a33 0 32
noncomputable def g7_5S : S := (.fn a21 [])
theorem g7_5 : runB (calM prog (nat) 60 g7_5S g7_5A g7_5H) g7_5V g7_5R = true := by decide +kernel
noncomputable def g7_6A : List V := [(.s (.p a16 0))]
noncomputable def g7_6H : Hp := hset g7_5R [(a28,(.c [(.i .u16 128),(.i .u16 65535),(.i .u32 0)]))] a33 0 32
noncomputable def g7_6V : V := (.s z0)
noncomputable def g7_6R : Hp := hset g7_6H [] a33 0 32
noncomputable def g7_6S : S := (.fn a24 [])
theorem g7_6 : runB (trimC (calM prog (nat) 60) g7_6S g7_6A g7_6H) g7_6V g7_6R = true := by decide +kernel
noncomputable def hs7_0 : Hp := hset g7_1R [] a33 0 32
noncomputable def hs7_1 : Hp := hset hs7_0 [(a15,wB hs7_0 a15 [(1062,0)]),(a28,(.c [(.i .u16 128),(.i .u16 65535),(.i .u32 0)]))] a33 0 32
noncomputable def S7 : List LS := [⟨[(a2,(.s (.i .i64 340282366920938463463374607431768211458))),(a7,(.s (.b true))),(a8,(.s (.i .i64 7))),(a9,(.s (.i .i64 18907912675552290406400))),(a11,(.s (.p a32 0))),(a13,(.s z0))], hs7_0⟩, ⟨[(a2,(.s (.i .i64 340282366920938463463374607431768211458))),(a7,(.s (.b true))),(a8,(.s (.i .i64 7))),(a9,(.s (.i .i64 18907912675552290406400))),(a11,(.s (.p a32 0))),(a13,(.s (.i .i64 1)))], hs7_1⟩, ⟨[(a2,(.s (.i .i64 340282366920938463463374607431768211458))),(a7,(.s (.b true))),(a8,(.s (.i .i64 7))),(a9,(.s (.i .i64 18907912675552290406400))),(a11,(.s (.p a32 0))),(a13,(.s (.i .i64 2)))], hs7_1⟩, ⟨[(a2,(.s (.i .i64 340282366920938463463374607431768211458))),(a7,(.s (.b true))),(a8,(.s (.i .i64 7))),(a9,(.s (.i .i64 18907912675552290406400))),(a11,(.s (.p a32 0))),(a13,(.s (.i .i64 3)))], hs7_1⟩, ⟨[(a2,(.s (.i .i64 340282366920938463463374607431768211458))),(a7,(.s (.b true))),(a8,(.s (.i .i64 7))),(a9,(.s (.i .i64 18907912675552290406400))),(a11,(.s (.p a32 0))),(a13,(.s (.i .i64 4)))], hs7_1⟩, ⟨[(a2,(.s (.i .i64 340282366920938463463374607431768211458))),(a7,(.s (.b true))),(a8,(.s (.i .i64 7))),(a9,(.s (.i .i64 18907912675552290406400))),(a11,(.s (.p a32 0))),(a13,(.s (.i .i64 5)))], hs7_1⟩, ⟨[(a2,(.s (.i .i64 340282366920938463463374607431768211458))),(a7,(.s (.b true))),(a8,(.s (.i .i64 7))),(a9,(.s (.i .i64 18907912675552290406400))),(a11,(.s (.p a32 0))),(a13,(.s (.i .i64 6)))], hs7_1⟩]
noncomputable def natL7 : Cal := orC (oraC (Pth.of 17) [.s (.i .i64 ((symN + 0 : Nat) : Int)), .s (.i .i64 (.ofNat 16))] (.s (.i .i64 (.ofNat 7)))) (orC (oraC (Pth.of 17) [.s (.i .i64 ((symN + 1 : Nat) : Int)), .s (.i .i64 (.ofNat 268435455))] (.s (.i .i64 (.ofNat 20088504296269701709824)))) (orC (oraC (Pth.of 17) [.s (.i .i64 ((symN + 2 : Nat) : Int)), .s (.i .i64 (.ofNat 6))] (.s (.i .i64 (.ofNat 114535833953662605983744)))) (orC (memS fa0S fa0A fa0H fa0V fa0R) (orC (memS g7_0S g7_0A g7_0H g7_0V g7_0R) (orC (memS g7_1S g7_1A g7_1H g7_1V g7_1R) (orC (memS g7_2S g7_2A g7_2H g7_2V g7_2R) (orC (memS g7_3S g7_3A g7_3H g7_3V g7_3R) (orC (memS g7_4S g7_4A g7_4H g7_4V g7_4R) (orC (memS g7_5S g7_5A g7_5H g7_5V g7_5R) (orC (memS g7_6S g7_6A g7_6H g7_6V g7_6R) (nat)))))))))))
theorem run7 : iniB (symA [.i64, .i64, .i64] 0) (exWs js9 (calM prog natL7 60) (kF (fr f9) (.s (.b true))) (fun _ => noB) fun t h => exW jI (calM prog natL7 60) t h (inL S7) (kF (fr f9) (.s (.b true))) fun _ => noB) (heap0 tabL) = true := by decide +kernel
theorem ver7 : verC jB (calM prog natL7 60) (kF (fr f9) (.s (.b true))) (kxZ 0 jZ (calM prog natL7 60) (kF (fr f9) (.s (.b true)))) [] S7 = true := by decide +kernel
end Go.E
