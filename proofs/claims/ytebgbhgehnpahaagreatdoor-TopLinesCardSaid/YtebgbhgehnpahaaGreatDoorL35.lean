/- A part of the proof of the claim that the last text of this folder states. -/
import Derived.Test.YtebgbhgehnpahaaGreatDoorL33
namespace Go.E
set_option linter.all false
set_option maxRecDepth 100000
noncomputable def g2_0A : List V := [(.agg [(.i .i64 12),(.sl a3 0 1 1),z0,(.i .i64 1),.ns])]
noncomputable def g2_0H : Hp := hmk [(a0,(.ro [(.i .u8 0),(.i .u8 1),(.i .u8 28),(.i .u8 2),(.i .u8 29),(.i .u8 14),(.i .u8 24),(.i .u8 3),(.i .u8 30),(.i .u8 22),(.i .u8 20),(.i .u8 15),(.i .u8 25),(.i .u8 17),(.i .u8 4),(.i .u8 8),(.i .u8 31),(.i .u8 27),(.i .u8 13),(.i .u8 23),(.i .u8 21),(.i .u8 19),(.i .u8 16),(.i .u8 7),(.i .u8 26),(.i .u8 12),(.i .u8 18),(.i .u8 6),(.i .u8 11),(.i .u8 5),(.i .u8 10),(.i .u8 9)])),(a1,(.c [(.i .i64 12),(.i .i64 2),z0,z0,(.i .i64 5),z0,(.i .i64 7),(.i .i64 18907912675552290406400)])),(a2,(.c [(.i .i64 3),(.i .i64 5),z0,z0,(.sl a1 0 2 2)])),(a3,(.c [(.i .i64 3),(.i .i64 5),z0,z0,(.sl a1 0 2 2)]))] a4 1000000000 0
noncomputable def g2_0V : V := (.s (.p a32 0))
noncomputable def g2_0R : Hp := hset g2_0H [(a4,(.c [(.i .i64 12),(.sl a3 0 1 1),z0,(.i .i64 1),.ns])),(a5,(.c [(.i .i64 12),(.sl a3 0 1 1),z0,(.i .i64 1),.ns])),(a6,(.c [(.i .i64 12),(.sl a3 0 1 1),z0,(.i .i64 1),.ns])),(a7,(.mp [((.agg [(.i .i64 3),z0]),(.s (.i .i64 1024)),0),((.agg [(.i .i64 2),z0]),(.s (.i .i64 1088)),1),((.agg [(.i .i64 5),z0]),(.s (.i .i64 1120)),2),((.agg [(.i .i64 7),z0]),(.s (.i .i64 1128)),3)] 4)),(a8,(.c [(.i .i64 12),(.sl a3 0 1 1),z0,(.i .i64 1),.ns,(.mp a7),(.i .i64 1136)])),(a9,(.mp [((.agg [(.i .i64 12),(.i .i64 2)]),(.s (.b true)),0),((.agg [(.i .i64 5),z0]),(.s (.b true)),1)] 2)),(a10,(.c [(.i .i64 3),(.i .i64 5),z0,z0,(.sl a1 0 2 2)])),(a11,(.c [(.i .i64 12),(.i .i64 2),z0,z0])),(a12,(.c [(.i .i64 12),(.i .i64 2)])),(a13,(.c [(.i .i64 5),z0,(.i .i64 7),(.i .i64 18907912675552290406400)])),(a14,(.c [(.i .i64 5),z0])),(a15,(.w .u64 4096 13 (W [(1,20217631504785668572160),(17,1128),(32,348449143727040986586495598010130648547331),(60,22836334671640035761734677516263237707370612359),(1024,713644263294995196836950787201201445746525186),(1040,10281),(1092,2819816866870904179904263735827288966795238165833871861896755451547822748666133888564439196669283341040499194276870833045516)] [(1097,18907912675552290406400)]))),(a16,(.cu (.sl a15 0 4096 4096))),(a17,(.c [(.p a16 0)])),(a18,(.c [(.p a8 0)])),(a19,(.mp [((.agg [(.i .i64 2),z0]),(.s (.i .i64 1024)),0),((.agg [(.i .i64 12),(.i .i64 2)]),(.s (.i .i64 1092)),1),((.agg [(.i .i64 5),z0]),(.s (.i .i64 1096)),2)] 3)),(a20,(.c [(.mp a19)])),(a21,(.c [(.b false)])),(a22,(.c [(.i .i64 3),(.i .i64 5),z0,z0,(.sl a1 0 2 2)])),(a23,(.c [(.i .i64 12),(.i .i64 2),z0,z0])),(a24,(.c [(.i .i64 5),z0,(.i .i64 7),(.i .i64 18907912675552290406400)])),(a27,(.c [(.i .i64 3),(.i .i64 5),z0,z0,(.sl a1 0 2 2)])),(a28,(.c [(.i .u16 0),(.i .u16 65535),(.i .u32 0)])),(a29,(.c (Zi 32))),(a30,(.c [(.p a16 0),(.p a28 0),(.p a29 0)])),(a31,(.c [(.p a16 0),(.p a28 0),(.p a29 0),z0])),(a32,(.c [(.p a16 0),(.p a31 0)]))] a33 1000000000 0
noncomputable def g2_0S : S := (.fn a12 [])
theorem g2_0 : runB (calM prog (nat) 60 g2_0S g2_0A g2_0H) g2_0V g2_0R = true := by decide +kernel
noncomputable def g2_1A : List V := [(.s (.p a32 0)),(.s (.i .i64 1)),(.s (.i .i64 23)),(.agg [(.i .u64 0),(.i .u64 0),(.i .u64 0),(.i .u64 0)]),(.s (.i .i64 2)),(.s z0)]
noncomputable def g2_1H : Hp := hset g2_0R [] a33 1000000000 0
noncomputable def g2_1V : V := (.s z0)
noncomputable def g2_1R : Hp := hset g2_1H [(a15,wB g2_1H a15 [(72,234898949),(73,18907912675552290406400),(74,4366533704),(1062,2),(1094,3932232),(1098,4718592)])] a33 1000000000 0
noncomputable def g2_1S : S := (.fn a21 [])
theorem g2_1 : runB (calM prog (nat) 60 g2_1S g2_1A g2_1H) g2_1V g2_1R = true := by decide +kernel
noncomputable def g2_2A : List V := [(.s (.p a32 0)),(.s (.i .i64 1)),(.s (.i .i64 25)),(.agg [(.i .u64 0),(.i .u64 0),(.i .u64 0),(.i .u64 0)]),(.s z0),(.s z0)]
noncomputable def g2_2H : Hp := hset g2_1R [] a33 0 32
noncomputable def g2_2V : V := (.s z0)
noncomputable def g2_2R : Hp := hset g2_2H [(a15,wB g2_2H a15 [(1062,0)]),(a28,(.c [(.i .u16 0),(.i .u16 65531),(.i .u32 0)]))] a33 0 32
noncomputable def g2_2S : S := (.fn a21 [])
theorem g2_2 : runB (calM prog (nat) 60 g2_2S g2_2A g2_2H) g2_2V g2_2R = true := by decide +kernel
noncomputable def g2_3A : List V := [(.s (.p a32 0)),(.s (.i .i64 5)),(.s (.sl a33 0 1 1))]
noncomputable def g2_3H : Hp := hset g2_2R [(a15,wB g2_2R a15 [(1120,2),(1121,18907912675552290406400)]),(a28,(.c [(.i .u16 4),(.i .u16 65535),(.i .u32 0)])),(a33,(.c [(.i .u64 2)]))] a34 0 32
noncomputable def g2_3V : V := (.s z0)
noncomputable def g2_3R : Hp := hset g2_3H [(a15,wB g2_3H a15 [(1056,18907912675552290406400),(1120,0),(1121,0)])] a34 0 32
noncomputable def g2_3S : S := (.fn a14 [])
theorem g2_3 : runB (calM prog (nat) 60 g2_3S g2_3A g2_3H) g2_3V g2_3R = true := by decide +kernel
noncomputable def g2_4A : List V := [(.s (.p a32 0)),(.s (.i .i64 5)),(.s (.sl a34 0 1 1))]
noncomputable def g2_4H : Hp := hset g2_3R [(a34,(.c [(.i .u64 2)]))] a35 0 32
noncomputable def g2_4V : V := (.s z0)
noncomputable def g2_4R : Hp := hset g2_4H [(a15,wB g2_4H a15 [(1056,0)])] a35 0 32
noncomputable def g2_4S : S := (.fn a14 [])
theorem g2_4 : runB (calM prog (nat) 60 g2_4S g2_4A g2_4H) g2_4V g2_4R = true := by decide +kernel
noncomputable def g2_5A : List V := [(.s (.p a32 0)),(.s (.i .i64 1)),(.s (.i .i64 25)),(.agg [(.i .u64 0),(.i .u64 0),(.i .u64 0),(.i .u64 0)]),(.s z0),(.s z0)]
noncomputable def g2_5H : Hp := hset g2_4R [] a33 0 32
noncomputable def g2_5V : V := (.s z0)
noncomputable def g2_5R : Hp := hset g2_5H [(a28,(.c [(.i .u16 0),(.i .u16 65531),(.i .u32 0)]))] a33 0 32
noncomputable def g2_5S : S := (.fn a21 [])
theorem g2_5 : runB (calM prog (nat) 60 g2_5S g2_5A g2_5H) g2_5V g2_5R = true := by decide +kernel
noncomputable def g2_6A : List V := [(.s (.p a16 0))]
noncomputable def g2_6H : Hp := hset g2_5R [(a28,(.c [(.i .u16 4),(.i .u16 65535),(.i .u32 0)]))] a33 0 32
noncomputable def g2_6V : V := (.s z0)
noncomputable def g2_6R : Hp := hset g2_6H [] a33 0 32
noncomputable def g2_6S : S := (.fn a24 [])
theorem g2_6 : runB (trimC (calM prog (nat) 60) g2_6S g2_6A g2_6H) g2_6V g2_6R = true := by decide +kernel
noncomputable def hs2_0 : Hp := hset g2_1R [] a33 0 32
noncomputable def hs2_1 : Hp := hset hs2_0 [(a15,wB hs2_0 a15 [(1062,0)]),(a28,(.c [(.i .u16 4),(.i .u16 65535),(.i .u32 0)]))] a33 0 32
noncomputable def S2 : List LS := [⟨[(a2,(.s (.i .i64 340282366920938463463374607431768211458))),(a7,(.s (.b true))),(a8,(.s (.i .i64 2))),(a9,(.s (.i .i64 18907912675552290406400))),(a11,(.s (.p a32 0))),(a13,(.s z0))], hs2_0⟩, ⟨[(a2,(.s (.i .i64 340282366920938463463374607431768211458))),(a7,(.s (.b true))),(a8,(.s (.i .i64 2))),(a9,(.s (.i .i64 18907912675552290406400))),(a11,(.s (.p a32 0))),(a13,(.s (.i .i64 1)))], hs2_1⟩, ⟨[(a2,(.s (.i .i64 340282366920938463463374607431768211458))),(a7,(.s (.b true))),(a8,(.s (.i .i64 2))),(a9,(.s (.i .i64 18907912675552290406400))),(a11,(.s (.p a32 0))),(a13,(.s (.i .i64 2)))], hs2_1⟩, ⟨[(a2,(.s (.i .i64 340282366920938463463374607431768211458))),(a7,(.s (.b true))),(a8,(.s (.i .i64 2))),(a9,(.s (.i .i64 18907912675552290406400))),(a11,(.s (.p a32 0))),(a13,(.s (.i .i64 3)))], hs2_1⟩, ⟨[(a2,(.s (.i .i64 340282366920938463463374607431768211458))),(a7,(.s (.b true))),(a8,(.s (.i .i64 2))),(a9,(.s (.i .i64 18907912675552290406400))),(a11,(.s (.p a32 0))),(a13,(.s (.i .i64 4)))], hs2_1⟩, ⟨[(a2,(.s (.i .i64 340282366920938463463374607431768211458))),(a7,(.s (.b true))),(a8,(.s (.i .i64 2))),(a9,(.s (.i .i64 18907912675552290406400))),(a11,(.s (.p a32 0))),(a13,(.s (.i .i64 5)))], hs2_1⟩, ⟨[(a2,(.s (.i .i64 340282366920938463463374607431768211458))),(a7,(.s (.b true))),(a8,(.s (.i .i64 2))),(a9,(.s (.i .i64 18907912675552290406400))),(a11,(.s (.p a32 0))),(a13,(.s (.i .i64 6)))], hs2_1⟩]
noncomputable def natL2 : Cal := orC (oraC (Pth.of 17) [.s (.i .i64 ((symN + 0 : Nat) : Int)), .s (.i .i64 (.ofNat 16))] (.s (.i .i64 (.ofNat 2)))) (orC (oraC (Pth.of 17) [.s (.i .i64 ((symN + 1 : Nat) : Int)), .s (.i .i64 (.ofNat 268435455))] (.s (.i .i64 (.ofNat 20088504296269701709824)))) (orC (oraC (Pth.of 17) [.s (.i .i64 ((symN + 2 : Nat) : Int)), .s (.i .i64 (.ofNat 6))] (.s (.i .i64 (.ofNat 114535833953662605983744)))) (orC (memS fa0S fa0A fa0H fa0V fa0R) (orC (memS g2_0S g2_0A g2_0H g2_0V g2_0R) (orC (memS g2_1S g2_1A g2_1H g2_1V g2_1R) (orC (memS g2_2S g2_2A g2_2H g2_2V g2_2R) (orC (memS g2_3S g2_3A g2_3H g2_3V g2_3R) (orC (memS g2_4S g2_4A g2_4H g2_4V g2_4R) (orC (memS g2_5S g2_5A g2_5H g2_5V g2_5R) (orC (memS g2_6S g2_6A g2_6H g2_6V g2_6R) (nat)))))))))))
theorem run2 : iniB (symA [.i64, .i64, .i64] 0) (exWs js9 (calM prog natL2 60) (kF (fr f9) (.s (.b true))) (fun _ => noB) fun t h => exW jI (calM prog natL2 60) t h (inL S2) (kF (fr f9) (.s (.b true))) fun _ => noB) (heap0 tabL) = true := by decide +kernel
theorem ver2 : verC jB (calM prog natL2 60) (kF (fr f9) (.s (.b true))) (kxZ 0 jZ (calM prog natL2 60) (kF (fr f9) (.s (.b true)))) [] S2 = true := by decide +kernel
noncomputable def g3_0A : List V := [(.agg [(.i .i64 12),(.sl a3 0 1 1),z0,(.i .i64 1),.ns])]
noncomputable def g3_0H : Hp := hmk [(a0,(.ro [(.i .u8 0),(.i .u8 1),(.i .u8 28),(.i .u8 2),(.i .u8 29),(.i .u8 14),(.i .u8 24),(.i .u8 3),(.i .u8 30),(.i .u8 22),(.i .u8 20),(.i .u8 15),(.i .u8 25),(.i .u8 17),(.i .u8 4),(.i .u8 8),(.i .u8 31),(.i .u8 27),(.i .u8 13),(.i .u8 23),(.i .u8 21),(.i .u8 19),(.i .u8 16),(.i .u8 7),(.i .u8 26),(.i .u8 12),(.i .u8 18),(.i .u8 6),(.i .u8 11),(.i .u8 5),(.i .u8 10),(.i .u8 9)])),(a1,(.c [(.i .i64 12),(.i .i64 3),z0,z0,(.i .i64 5),z0,(.i .i64 7),(.i .i64 18907912675552290406400)])),(a2,(.c [(.i .i64 3),(.i .i64 5),z0,z0,(.sl a1 0 2 2)])),(a3,(.c [(.i .i64 3),(.i .i64 5),z0,z0,(.sl a1 0 2 2)]))] a4 1000000000 0
noncomputable def g3_0V : V := (.s (.p a32 0))
noncomputable def g3_0R : Hp := hset g3_0H [(a4,(.c [(.i .i64 12),(.sl a3 0 1 1),z0,(.i .i64 1),.ns])),(a5,(.c [(.i .i64 12),(.sl a3 0 1 1),z0,(.i .i64 1),.ns])),(a6,(.c [(.i .i64 12),(.sl a3 0 1 1),z0,(.i .i64 1),.ns])),(a7,(.mp [((.agg [(.i .i64 3),z0]),(.s (.i .i64 1024)),0),((.agg [(.i .i64 2),z0]),(.s (.i .i64 1088)),1),((.agg [(.i .i64 5),z0]),(.s (.i .i64 1120)),2),((.agg [(.i .i64 7),z0]),(.s (.i .i64 1128)),3)] 4)),(a8,(.c [(.i .i64 12),(.sl a3 0 1 1),z0,(.i .i64 1),.ns,(.mp a7),(.i .i64 1136)])),(a9,(.mp [((.agg [(.i .i64 12),(.i .i64 3)]),(.s (.b true)),0),((.agg [(.i .i64 5),z0]),(.s (.b true)),1)] 2)),(a10,(.c [(.i .i64 3),(.i .i64 5),z0,z0,(.sl a1 0 2 2)])),(a11,(.c [(.i .i64 12),(.i .i64 3),z0,z0])),(a12,(.c [(.i .i64 12),(.i .i64 3)])),(a13,(.c [(.i .i64 5),z0,(.i .i64 7),(.i .i64 18907912675552290406400)])),(a14,(.c [(.i .i64 5),z0])),(a15,(.w .u64 4096 13 (W [(1,20217631504785668572160),(17,1128),(32,348449143727040986586495598010130648547331),(60,22836334671640035761734677516263237707370612359),(1024,713644263294995196836950787201201445746525186),(1040,10281),(1092,2819816866870904179904263735827288966795238165833871861896755451547822748666133888564439196669283341040499194276871101480972)] [(1097,18907912675552290406400)]))),(a16,(.cu (.sl a15 0 4096 4096))),(a17,(.c [(.p a16 0)])),(a18,(.c [(.p a8 0)])),(a19,(.mp [((.agg [(.i .i64 2),z0]),(.s (.i .i64 1024)),0),((.agg [(.i .i64 12),(.i .i64 3)]),(.s (.i .i64 1092)),1),((.agg [(.i .i64 5),z0]),(.s (.i .i64 1096)),2)] 3)),(a20,(.c [(.mp a19)])),(a21,(.c [(.b false)])),(a22,(.c [(.i .i64 3),(.i .i64 5),z0,z0,(.sl a1 0 2 2)])),(a23,(.c [(.i .i64 12),(.i .i64 3),z0,z0])),(a24,(.c [(.i .i64 5),z0,(.i .i64 7),(.i .i64 18907912675552290406400)])),(a27,(.c [(.i .i64 3),(.i .i64 5),z0,z0,(.sl a1 0 2 2)])),(a28,(.c [(.i .u16 0),(.i .u16 65535),(.i .u32 0)])),(a29,(.c (Zi 32))),(a30,(.c [(.p a16 0),(.p a28 0),(.p a29 0)])),(a31,(.c [(.p a16 0),(.p a28 0),(.p a29 0),z0])),(a32,(.c [(.p a16 0),(.p a31 0)]))] a33 1000000000 0
noncomputable def g3_0S : S := (.fn a12 [])
theorem g3_0 : runB (calM prog (nat) 60 g3_0S g3_0A g3_0H) g3_0V g3_0R = true := by decide +kernel
noncomputable def g3_1A : List V := [(.s (.p a32 0)),(.s (.i .i64 1)),(.s (.i .i64 23)),(.agg [(.i .u64 0),(.i .u64 0),(.i .u64 0),(.i .u64 0)]),(.s (.i .i64 2)),(.s z0)]
noncomputable def g3_1H : Hp := hset g3_0R [] a33 1000000000 0
noncomputable def g3_1V : V := (.s z0)
noncomputable def g3_1R : Hp := hset g3_1H [(a15,wB g3_1H a15 [(76,234898949),(77,18907912675552290406400),(78,4366533704),(1062,2),(1094,3932236),(1098,4980736)])] a33 1000000000 0
noncomputable def g3_1S : S := (.fn a21 [])
theorem g3_1 : runB (calM prog (nat) 60 g3_1S g3_1A g3_1H) g3_1V g3_1R = true := by decide +kernel
noncomputable def g3_2A : List V := [(.s (.p a32 0)),(.s (.i .i64 1)),(.s (.i .i64 25)),(.agg [(.i .u64 0),(.i .u64 0),(.i .u64 0),(.i .u64 0)]),(.s z0),(.s z0)]
noncomputable def g3_2H : Hp := hset g3_1R [] a33 0 32
noncomputable def g3_2V : V := (.s z0)
noncomputable def g3_2R : Hp := hset g3_2H [(a15,wB g3_2H a15 [(1062,0)]),(a28,(.c [(.i .u16 0),(.i .u16 65527),(.i .u32 0)]))] a33 0 32
noncomputable def g3_2S : S := (.fn a21 [])
theorem g3_2 : runB (calM prog (nat) 60 g3_2S g3_2A g3_2H) g3_2V g3_2R = true := by decide +kernel
noncomputable def g3_3A : List V := [(.s (.p a32 0)),(.s (.i .i64 5)),(.s (.sl a33 0 1 1))]
noncomputable def g3_3H : Hp := hset g3_2R [(a15,wB g3_2R a15 [(1120,2),(1121,18907912675552290406400)]),(a28,(.c [(.i .u16 8),(.i .u16 65535),(.i .u32 0)])),(a33,(.c [(.i .u64 2)]))] a34 0 32
noncomputable def g3_3V : V := (.s z0)
noncomputable def g3_3R : Hp := hset g3_3H [(a15,wB g3_3H a15 [(1056,18907912675552290406400),(1120,0),(1121,0)])] a34 0 32
noncomputable def g3_3S : S := (.fn a14 [])
theorem g3_3 : runB (calM prog (nat) 60 g3_3S g3_3A g3_3H) g3_3V g3_3R = true := by decide +kernel
noncomputable def g3_4A : List V := [(.s (.p a32 0)),(.s (.i .i64 5)),(.s (.sl a34 0 1 1))]
noncomputable def g3_4H : Hp := hset g3_3R [(a34,(.c [(.i .u64 2)]))] a35 0 32
noncomputable def g3_4V : V := (.s z0)
noncomputable def g3_4R : Hp := hset g3_4H [(a15,wB g3_4H a15 [(1056,0)])] a35 0 32
noncomputable def g3_4S : S := (.fn a14 [])
theorem g3_4 : runB (calM prog (nat) 60 g3_4S g3_4A g3_4H) g3_4V g3_4R = true := by decide +kernel
noncomputable def g3_5A : List V := [(.s (.p a32 0)),(.s (.i .i64 1)),(.s (.i .i64 25)),(.agg [(.i .u64 0),(.i .u64 0),(.i .u64 0),(.i .u64 0)]),(.s z0),(.s z0)]
noncomputable def g3_5H : Hp := hset g3_4R [] a33 0 32
noncomputable def g3_5V : V := (.s z0)
noncomputable def g3_5R : Hp := hset g3_5H [(a28,(.c [(.i .u16 0),(.i .u16 65527),(.i .u32 0)]))] a33 0 32
noncomputable def g3_5S : S := (.fn a21 [])
theorem g3_5 : runB (calM prog (nat) 60 g3_5S g3_5A g3_5H) g3_5V g3_5R = true := by decide +kernel
noncomputable def g3_6A : List V := [(.s (.p a16 0))]
noncomputable def g3_6H : Hp := hset g3_5R [(a28,(.c [(.i .u16 8),(.i .u16 65535),(.i .u32 0)]))] a33 0 32
noncomputable def g3_6V : V := (.s z0)
noncomputable def g3_6R : Hp := hset g3_6H [] a33 0 32
noncomputable def g3_6S : S := (.fn a24 [])
theorem g3_6 : runB (trimC (calM prog (nat) 60) g3_6S g3_6A g3_6H) g3_6V g3_6R = true := by decide +kernel
noncomputable def hs3_0 : Hp := hset g3_1R [] a33 0 32
noncomputable def hs3_1 : Hp := hset hs3_0 [(a15,wB hs3_0 a15 [(1062,0)]),(a28,(.c [(.i .u16 8),(.i .u16 65535),(.i .u32 0)]))] a33 0 32
noncomputable def S3 : List LS := [⟨[(a2,(.s (.i .i64 340282366920938463463374607431768211458))),(a7,(.s (.b true))),(a8,(.s (.i .i64 3))),(a9,(.s (.i .i64 18907912675552290406400))),(a11,(.s (.p a32 0))),(a13,(.s z0))], hs3_0⟩, ⟨[(a2,(.s (.i .i64 340282366920938463463374607431768211458))),(a7,(.s (.b true))),(a8,(.s (.i .i64 3))),(a9,(.s (.i .i64 18907912675552290406400))),(a11,(.s (.p a32 0))),(a13,(.s (.i .i64 1)))], hs3_1⟩, ⟨[(a2,(.s (.i .i64 340282366920938463463374607431768211458))),(a7,(.s (.b true))),(a8,(.s (.i .i64 3))),(a9,(.s (.i .i64 18907912675552290406400))),(a11,(.s (.p a32 0))),(a13,(.s (.i .i64 2)))], hs3_1⟩, ⟨[(a2,(.s (.i .i64 340282366920938463463374607431768211458))),(a7,(.s (.b true))),(a8,(.s (.i .i64 3))),(a9,(.s (.i .i64 18907912675552290406400))),(a11,(.s (.p a32 0))),(a13,(.s (.i .i64 3)))], hs3_1⟩, ⟨[(a2,(.s (.i .i64 340282366920938463463374607431768211458))),(a7,(.s (.b true))),(a8,(.s (.i .i64 3))),(a9,(.s (.i .i64 18907912675552290406400))),(a11,(.s (.p a32 0))),(a13,(.s (.i .i64 4)))], hs3_1⟩, ⟨[(a2,(.s (.i .i64 340282366920938463463374607431768211458))),(a7,(.s (.b true))),(a8,(.s (.i .i64 3))),(a9,(.s (.i .i64 18907912675552290406400))),(a11,(.s (.p a32 0))),(a13,(.s (.i .i64 5)))], hs3_1⟩, ⟨[(a2,(.s (.i .i64 340282366920938463463374607431768211458))),(a7,(.s (.b true))),(a8,(.s (.i .i64 3))),(a9,(.s (.i .i64 18907912675552290406400))),(a11,(.s (.p a32 0))),(a13,(.s (.i .i64 6)))], hs3_1⟩]
noncomputable def natL3 : Cal := orC (oraC (Pth.of 17) [.s (.i .i64 ((symN + 0 : Nat) : Int)), .s (.i .i64 (.ofNat 16))] (.s (.i .i64 (.ofNat 3)))) (orC (oraC (Pth.of 17) [.s (.i .i64 ((symN + 1 : Nat) : Int)), .s (.i .i64 (.ofNat 268435455))] (.s (.i .i64 (.ofNat 20088504296269701709824)))) (orC (oraC (Pth.of 17) [.s (.i .i64 ((symN + 2 : Nat) : Int)), .s (.i .i64 (.ofNat 6))] (.s (.i .i64 (.ofNat 114535833953662605983744)))) (orC (memS fa0S fa0A fa0H fa0V fa0R) (orC (memS g3_0S g3_0A g3_0H g3_0V g3_0R) (orC (memS g3_1S g3_1A g3_1H g3_1V g3_1R) (orC (memS g3_2S g3_2A g3_2H g3_2V g3_2R) (orC (memS g3_3S g3_3A g3_3H g3_3V g3_3R) (orC (memS g3_4S g3_4A g3_4H g3_4V g3_4R) (orC (memS g3_5S g3_5A g3_5H g3_5V g3_5R) (orC (memS g3_6S g3_6A g3_6H g3_6V g3_6R) (nat)))))))))))
theorem run3 : iniB (symA [.i64, .i64, .i64] 0) (exWs js9 (calM prog natL3 60) (kF (fr f9) (.s (.b true))) (fun _ => noB) fun t h => exW jI (calM prog natL3 60) t h (inL S3) (kF (fr f9) (.s (.b true))) fun _ => noB) (heap0 tabL) = true := by decide +kernel
theorem ver3 : verC jB (calM prog natL3 60) (kF (fr f9) (.s (.b true))) (kxZ 0 jZ (calM prog natL3 60) (kF (fr f9) (.s (.b true)))) [] S3 = true := by decide +kernel
end Go.E
