/- A part of the proof of the claim that the last text of this folder states. -/
import Derived.Test.YtebgbhgehnpahaaGreatDoorL33
namespace Go.E
set_option linter.all false
set_option maxRecDepth 100000
noncomputable def g12_0A : List V := [(.agg [(.i .i64 12),(.sl a3 0 1 1),z0,(.i .i64 1),.ns])]
noncomputable def g12_0H : Hp := hmk [(a0,(.ro [(.i .u8 0),(.i .u8 1),(.i .u8 28),(.i .u8 2),(.i .u8 29),(.i .u8 14),(.i .u8 24),(.i .u8 3),(.i .u8 30),(.i .u8 22),(.i .u8 20),(.i .u8 15),(.i .u8 25),(.i .u8 17),(.i .u8 4),(.i .u8 8),(.i .u8 31),(.i .u8 27),(.i .u8 13),(.i .u8 23),(.i .u8 21),(.i .u8 19),(.i .u8 16),(.i .u8 7),(.i .u8 26),(.i .u8 12),(.i .u8 18),(.i .u8 6),(.i .u8 11),(.i .u8 5),(.i .u8 10),(.i .u8 9)])),(a1,(.c [(.i .i64 12),(.i .i64 12),z0,z0,(.i .i64 5),z0,(.i .i64 7),(.i .i64 18907912675552290406400)])),(a2,(.c [(.i .i64 3),(.i .i64 5),z0,z0,(.sl a1 0 2 2)])),(a3,(.c [(.i .i64 3),(.i .i64 5),z0,z0,(.sl a1 0 2 2)]))] a4 1000000000 0
noncomputable def g12_0V : V := (.s (.p a32 0))
noncomputable def g12_0R : Hp := hset g12_0H [(a4,(.c [(.i .i64 12),(.sl a3 0 1 1),z0,(.i .i64 1),.ns])),(a5,(.c [(.i .i64 12),(.sl a3 0 1 1),z0,(.i .i64 1),.ns])),(a6,(.c [(.i .i64 12),(.sl a3 0 1 1),z0,(.i .i64 1),.ns])),(a7,(.mp [((.agg [(.i .i64 3),z0]),(.s (.i .i64 1024)),0),((.agg [(.i .i64 2),z0]),(.s (.i .i64 1088)),1),((.agg [(.i .i64 5),z0]),(.s (.i .i64 1120)),2),((.agg [(.i .i64 7),z0]),(.s (.i .i64 1128)),3)] 4)),(a8,(.c [(.i .i64 12),(.sl a3 0 1 1),z0,(.i .i64 1),.ns,(.mp a7),(.i .i64 1136)])),(a9,(.mp [((.agg [(.i .i64 12),(.i .i64 12)]),(.s (.b true)),0),((.agg [(.i .i64 5),z0]),(.s (.b true)),1)] 2)),(a10,(.c [(.i .i64 3),(.i .i64 5),z0,z0,(.sl a1 0 2 2)])),(a11,(.c [(.i .i64 12),(.i .i64 12),z0,z0])),(a12,(.c [(.i .i64 12),(.i .i64 12)])),(a13,(.c [(.i .i64 5),z0,(.i .i64 7),(.i .i64 18907912675552290406400)])),(a14,(.c [(.i .i64 5),z0])),(a15,(.w .u64 4096 13 (W [(1,20217631504785668572160),(17,1128),(32,348449143727040986586495598010130648547331),(60,22836334671640035761734677516263237707370612359),(1024,713644263294995196836950787201201445746525186),(1040,10281),(1092,2819816866870904179904263735827288966795238165833871861896755451547822748666133888564439196669283341040499194276873517400076)] [(1097,18907912675552290406400)]))),(a16,(.cu (.sl a15 0 4096 4096))),(a17,(.c [(.p a16 0)])),(a18,(.c [(.p a8 0)])),(a19,(.mp [((.agg [(.i .i64 2),z0]),(.s (.i .i64 1024)),0),((.agg [(.i .i64 12),(.i .i64 12)]),(.s (.i .i64 1092)),1),((.agg [(.i .i64 5),z0]),(.s (.i .i64 1096)),2)] 3)),(a20,(.c [(.mp a19)])),(a21,(.c [(.b false)])),(a22,(.c [(.i .i64 3),(.i .i64 5),z0,z0,(.sl a1 0 2 2)])),(a23,(.c [(.i .i64 12),(.i .i64 12),z0,z0])),(a24,(.c [(.i .i64 5),z0,(.i .i64 7),(.i .i64 18907912675552290406400)])),(a27,(.c [(.i .i64 3),(.i .i64 5),z0,z0,(.sl a1 0 2 2)])),(a28,(.c [(.i .u16 0),(.i .u16 65535),(.i .u32 0)])),(a29,(.c (Zi 32))),(a30,(.c [(.p a16 0),(.p a28 0),(.p a29 0)])),(a31,(.c [(.p a16 0),(.p a28 0),(.p a29 0),z0])),(a32,(.c [(.p a16 0),(.p a31 0)]))] a33 1000000000 0
noncomputable def g12_0S : S := (.fn a12 [])
theorem g12_0 : runB (calM prog (nat) 60 g12_0S g12_0A g12_0H) g12_0V g12_0R = true := by decide +kernel
noncomputable def g12_1A : List V := [(.s (.p a32 0)),(.s (.i .i64 1)),(.s (.i .i64 23)),(.agg [(.i .u64 0),(.i .u64 0),(.i .u64 0),(.i .u64 0)]),(.s (.i .i64 2)),(.s z0)]
noncomputable def g12_1H : Hp := hset g12_0R [] a33 1000000000 0
noncomputable def g12_1V : V := (.s z0)
noncomputable def g12_1R : Hp := hset g12_1H [(a15,wB g12_1H a15 [(112,234898949),(113,18907912675552290406400),(114,4366533704),(1062,2),(1094,3932272),(1098,7340032)])] a33 1000000000 0
noncomputable def g12_1S : S := (.fn a21 [])
theorem g12_1 : runB (calM prog (nat) 60 g12_1S g12_1A g12_1H) g12_1V g12_1R = true := by decide +kernel
noncomputable def g12_2A : List V := [(.s (.p a32 0)),(.s (.i .i64 1)),(.s (.i .i64 25)),(.agg [(.i .u64 0),(.i .u64 0),(.i .u64 0),(.i .u64 0)]),(.s z0),(.s z0)]
noncomputable def g12_2H : Hp := hset g12_1R [] a33 0 32
noncomputable def g12_2V : V := (.s z0)
noncomputable def g12_2R : Hp := hset g12_2H [(a15,wB g12_2H a15 [(1062,0)]),(a28,(.c [(.i .u16 0),(.i .u16 61439),(.i .u32 0)]))] a33 0 32
noncomputable def g12_2S : S := (.fn a21 [])
theorem g12_2 : runB (calM prog (nat) 60 g12_2S g12_2A g12_2H) g12_2V g12_2R = true := by decide +kernel
noncomputable def g12_3A : List V := [(.s (.p a32 0)),(.s (.i .i64 5)),(.s (.sl a33 0 1 1))]
noncomputable def g12_3H : Hp := hset g12_2R [(a15,wB g12_2R a15 [(1120,2),(1121,18907912675552290406400)]),(a28,(.c [(.i .u16 4096),(.i .u16 65535),(.i .u32 0)])),(a33,(.c [(.i .u64 2)]))] a34 0 32
noncomputable def g12_3V : V := (.s z0)
noncomputable def g12_3R : Hp := hset g12_3H [(a15,wB g12_3H a15 [(1056,18907912675552290406400),(1120,0),(1121,0)])] a34 0 32
noncomputable def g12_3S : S := (.fn a14 [])
theorem g12_3 : runB (calM prog (nat) 60 g12_3S g12_3A g12_3H) g12_3V g12_3R = true := by decide +kernel
noncomputable def g12_4A : List V := [(.s (.p a32 0)),(.s (.i .i64 5)),(.s (.sl a34 0 1 1))]
noncomputable def g12_4H : Hp := hset g12_3R [(a34,(.c [(.i .u64 2)]))] a35 0 32
noncomputable def g12_4V : V := (.s z0)
noncomputable def g12_4R : Hp := hset g12_4H [(a15,wB g12_4H a15 [(1056,0)])] a35 0 32
noncomputable def g12_4S : S := (.fn a14 [])
theorem g12_4 : runB (calM prog (nat) 60 g12_4S g12_4A g12_4H) g12_4V g12_4R = true := by decide +kernel
noncomputable def g12_5A : List V := [(.s (.p a32 0)),(.s (.i .i64 1)),(.s (.i .i64 25)),(.agg [(.i .u64 0),(.i .u64 0),(.i .u64 0),(.i .u64 0)]),(.s z0),(.s z0)]
noncomputable def g12_5H : Hp := hset g12_4R [] a33 0 32
noncomputable def g12_5V : V := (.s z0)
noncomputable def g12_5R : Hp := hset g12_5H [(a28,(.c [(.i .u16 0),(.i .u16 61439),(.i .u32 0)]))] a33 0 32
noncomputable def g12_5S : S := (.fn a21 [])
theorem g12_5 : runB (calM prog (nat) 60 g12_5S g12_5A g12_5H) g12_5V g12_5R = true := by decide +kernel
noncomputable def g12_6A : List V := [(.s (.p a16 0))]
noncomputable def g12_6H : Hp := hset g12_5R [(a28,(.c [(.i .u16 4096),(.i .u16 65535),(.i .u32 0)]))] a33 0 32
noncomputable def g12_6V : V := (.s z0)
noncomputable def g12_6R : Hp := hset g12_6H [] a33 0 32
noncomputable def g12_6S : S := (.fn a24 [])
theorem g12_6 : runB (trimC (calM prog (nat) 60) g12_6S g12_6A g12_6H) g12_6V g12_6R = true := by decide +kernel
noncomputable def hs12_0 : Hp := hset g12_1R [] a33 0 32
noncomputable def hs12_1 : Hp := hset hs12_0 [(a15,wB hs12_0 a15 [(1062,0)]),(a28,(.c [(.i .u16 4096),(.i .u16 65535),(.i .u32 0)]))] a33 0 32
noncomputable def S12 : List LS := [⟨[(a2,(.s (.i .i64 340282366920938463463374607431768211458))),(a7,(.s (.b true))),(a8,(.s (.i .i64 12))),(a9,(.s (.i .i64 18907912675552290406400))),(a11,(.s (.p a32 0))),(a13,(.s z0))], hs12_0⟩, ⟨[(a2,(.s (.i .i64 340282366920938463463374607431768211458))),(a7,(.s (.b true))),(a8,(.s (.i .i64 12))),(a9,(.s (.i .i64 18907912675552290406400))),(a11,(.s (.p a32 0))),(a13,(.s (.i .i64 1)))], hs12_1⟩, ⟨[(a2,(.s (.i .i64 340282366920938463463374607431768211458))),(a7,(.s (.b true))),(a8,(.s (.i .i64 12))),(a9,(.s (.i .i64 18907912675552290406400))),(a11,(.s (.p a32 0))),(a13,(.s (.i .i64 2)))], hs12_1⟩, ⟨[(a2,(.s (.i .i64 340282366920938463463374607431768211458))),(a7,(.s (.b true))),(a8,(.s (.i .i64 12))),(a9,(.s (.i .i64 18907912675552290406400))),(a11,(.s (.p a32 0))),(a13,(.s (.i .i64 3)))], hs12_1⟩, ⟨[(a2,(.s (.i .i64 340282366920938463463374607431768211458))),(a7,(.s (.b true))),(a8,(.s (.i .i64 12))),(a9,(.s (.i .i64 18907912675552290406400))),(a11,(.s (.p a32 0))),(a13,(.s (.i .i64 4)))], hs12_1⟩, ⟨[(a2,(.s (.i .i64 340282366920938463463374607431768211458))),(a7,(.s (.b true))),(a8,(.s (.i .i64 12))),(a9,(.s (.i .i64 18907912675552290406400))),(a11,(.s (.p a32 0))),(a13,(.s (.i .i64 5)))], hs12_1⟩, ⟨[(a2,(.s (.i .i64 340282366920938463463374607431768211458))),(a7,(.s (.b true))),(a8,(.s (.i .i64 12))),(a9,(.s (.i .i64 18907912675552290406400))),(a11,(.s (.p a32 0))),(a13,(.s (.i .i64 6)))], hs12_1⟩]
noncomputable def natL12 : Cal := orC (oraC (Pth.of 17) [.s (.i .i64 ((symN + 0 : Nat) : Int)), .s (.i .i64 (.ofNat 16))] (.s (.i .i64 (.ofNat 12)))) (orC (oraC (Pth.of 17) [.s (.i .i64 ((symN + 1 : Nat) : Int)), .s (.i .i64 (.ofNat 268435455))] (.s (.i .i64 (.ofNat 20088504296269701709824)))) (orC (oraC (Pth.of 17) [.s (.i .i64 ((symN + 2 : Nat) : Int)), .s (.i .i64 (.ofNat 6))] (.s (.i .i64 (.ofNat 114535833953662605983744)))) (orC (memS fa0S fa0A fa0H fa0V fa0R) (orC (memS g12_0S g12_0A g12_0H g12_0V g12_0R) (orC (memS g12_1S g12_1A g12_1H g12_1V g12_1R) (orC (memS g12_2S g12_2A g12_2H g12_2V g12_2R) (orC (memS g12_3S g12_3A g12_3H g12_3V g12_3R) (orC (memS g12_4S g12_4A g12_4H g12_4V g12_4R) (orC (memS g12_5S g12_5A g12_5H g12_5V g12_5R) (orC (memS g12_6S g12_6A g12_6H g12_6V g12_6R) (nat)))))))))))
theorem run12 : iniB (symA [.i64, .i64, .i64] 0) (exWs js9 (calM prog natL12 60) (kF (fr f9) (.s (.b true))) (fun _ => noB) fun t h => exW jI (calM prog natL12 60) t h (inL S12) (kF (fr f9) (.s (.b true))) fun _ => noB) (heap0 tabL) = true := by decide +kernel
theorem ver12 : verC jB (calM prog natL12 60) (kF (fr f9) (.s (.b true))) (kxZ 0 jZ (calM prog natL12 60) (kF (fr f9) (.s (.b true)))) [] S12 = true := by decide +kernel
noncomputable def g13_0A : List V := [(.agg [(.i .i64 12),(.sl a3 0 1 1),z0,(.i .i64 1),.ns])]
noncomputable def g13_0H : Hp := hmk [(a0,(.ro [(.i .u8 0),(.i .u8 1),(.i .u8 28),(.i .u8 2),(.i .u8 29),(.i .u8 14),(.i .u8 24),(.i .u8 3),(.i .u8 30),(.i .u8 22),(.i .u8 20),(.i .u8 15),(.i .u8 25),(.i .u8 17),(.i .u8 4),(.i .u8 8),(.i .u8 31),(.i .u8 27),(.i .u8 13),(.i .u8 23),(.i .u8 21),(.i .u8 19),(.i .u8 16),(.i .u8 7),(.i .u8 26),(.i .u8 12),(.i .u8 18),(.i .u8 6),(.i .u8 11),(.i .u8 5),(.i .u8 10),(.i .u8 9)])),(a1,(.c [(.i .i64 12),(.i .i64 13),z0,z0,(.i .i64 5),z0,(.i .i64 7),(.i .i64 18907912675552290406400)])),(a2,(.c [(.i .i64 3),(.i .i64 5),z0,z0,(.sl a1 0 2 2)])),(a3,(.c [(.i .i64 3),(.i .i64 5),z0,z0,(.sl a1 0 2 2)]))] a4 1000000000 0
noncomputable def g13_0V : V := (.s (.p a32 0))
noncomputable def g13_0R : Hp := hset g13_0H [(a4,(.c [(.i .i64 12),(.sl a3 0 1 1),z0,(.i .i64 1),.ns])),(a5,(.c [(.i .i64 12),(.sl a3 0 1 1),z0,(.i .i64 1),.ns])),(a6,(.c [(.i .i64 12),(.sl a3 0 1 1),z0,(.i .i64 1),.ns])),(a7,(.mp [((.agg [(.i .i64 3),z0]),(.s (.i .i64 1024)),0),((.agg [(.i .i64 2),z0]),(.s (.i .i64 1088)),1),((.agg [(.i .i64 5),z0]),(.s (.i .i64 1120)),2),((.agg [(.i .i64 7),z0]),(.s (.i .i64 1128)),3)] 4)),(a8,(.c [(.i .i64 12),(.sl a3 0 1 1),z0,(.i .i64 1),.ns,(.mp a7),(.i .i64 1136)])),(a9,(.mp [((.agg [(.i .i64 12),(.i .i64 13)]),(.s (.b true)),0),((.agg [(.i .i64 5),z0]),(.s (.b true)),1)] 2)),(a10,(.c [(.i .i64 3),(.i .i64 5),z0,z0,(.sl a1 0 2 2)])),(a11,(.c [(.i .i64 12),(.i .i64 13),z0,z0])),(a12,(.c [(.i .i64 12),(.i .i64 13)])),(a13,(.c [(.i .i64 5),z0,(.i .i64 7),(.i .i64 18907912675552290406400)])),(a14,(.c [(.i .i64 5),z0])),(a15,(.w .u64 4096 13 (W [(1,20217631504785668572160),(17,1128),(32,348449143727040986586495598010130648547331),(60,22836334671640035761734677516263237707370612359),(1024,713644263294995196836950787201201445746525186),(1040,10281),(1092,2819816866870904179904263735827288966795238165833871861896755451547822748666133888564439196669283341040499194276873785835532)] [(1097,18907912675552290406400)]))),(a16,(.cu (.sl a15 0 4096 4096))),(a17,(.c [(.p a16 0)])),(a18,(.c [(.p a8 0)])),(a19,(.mp [((.agg [(.i .i64 2),z0]),(.s (.i .i64 1024)),0),((.agg [(.i .i64 12),(.i .i64 13)]),(.s (.i .i64 1092)),1),((.agg [(.i .i64 5),z0]),(.s (.i .i64 1096)),2)] 3)),(a20,(.c [(.mp a19)])),(a21,(.c [(.b false)])),(a22,(.c [(.i .i64 3),(.i .i64 5),z0,z0,(.sl a1 0 2 2)])),(a23,(.c [(.i .i64 12),(.i .i64 13),z0,z0])),(a24,(.c [(.i .i64 5),z0,(.i .i64 7),(.i .i64 18907912675552290406400)])),(a27,(.c [(.i .i64 3),(.i .i64 5),z0,z0,(.sl a1 0 2 2)])),(a28,(.c [(.i .u16 0),(.i .u16 65535),(.i .u32 0)])),(a29,(.c (Zi 32))),(a30,(.c [(.p a16 0),(.p a28 0),(.p a29 0)])),(a31,(.c [(.p a16 0),(.p a28 0),(.p a29 0),z0])),(a32,(.c [(.p a16 0),(.p a31 0)]))] a33 1000000000 0
noncomputable def g13_0S : S := (.fn a12 [])
theorem g13_0 : runB (calM prog (nat) 60 g13_0S g13_0A g13_0H) g13_0V g13_0R = true := by decide +kernel
noncomputable def g13_1A : List V := [(.s (.p a32 0)),(.s (.i .i64 1)),(.s (.i .i64 23)),(.agg [(.i .u64 0),(.i .u64 0),(.i .u64 0),(.i .u64 0)]),(.s (.i .i64 2)),(.s z0)]
noncomputable def g13_1H : Hp := hset g13_0R [] a33 1000000000 0
noncomputable def g13_1V : V := (.s z0)
noncomputable def g13_1R : Hp := hset g13_1H [(a15,wB g13_1H a15 [(116,234898949),(117,18907912675552290406400),(118,4366533704),(1062,2),(1094,3932276),(1098,7602176)])] a33 1000000000 0
noncomputable def g13_1S : S := (.fn a21 [])
theorem g13_1 : runB (calM prog (nat) 60 g13_1S g13_1A g13_1H) g13_1V g13_1R = true := by decide +kernel
noncomputable def g13_2A : List V := [(.s (.p a32 0)),(.s (.i .i64 1)),(.s (.i .i64 25)),(.agg [(.i .u64 0),(.i .u64 0),(.i .u64 0),(.i .u64 0)]),(.s z0),(.s z0)]
noncomputable def g13_2H : Hp := hset g13_1R [] a33 0 32
noncomputable def g13_2V : V := (.s z0)
noncomputable def g13_2R : Hp := hset g13_2H [(a15,wB g13_2H a15 [(1062,0)]),(a28,(.c [(.i .u16 0),(.i .u16 57343),(.i .u32 0)]))] a33 0 32
noncomputable def g13_2S : S := (.fn a21 [])
theorem g13_2 : runB (calM prog (nat) 60 g13_2S g13_2A g13_2H) g13_2V g13_2R = true := by decide +kernel
noncomputable def g13_3A : List V := [(.s (.p a32 0)),(.s (.i .i64 5)),(.s (.sl a33 0 1 1))]
noncomputable def g13_3H : Hp := hset g13_2R [(a15,wB g13_2R a15 [(1120,2),(1121,18907912675552290406400)]),(a28,(.c [(.i .u16 8192),(.i .u16 65535),(.i .u32 0)])),(a33,(.c [(.i .u64 2)]))] a34 0 32
noncomputable def g13_3V : V := (.s z0)
noncomputable def g13_3R : Hp := hset g13_3H [(a15,wB g13_3H a15 [(1056,18907912675552290406400),(1120,0),(1121,0)])] a34 0 32
noncomputable def g13_3S : S := (.fn a14 [])
theorem g13_3 : runB (calM prog (nat) 60 g13_3S g13_3A g13_3H) g13_3V g13_3R = true := by decide +kernel
noncomputable def g13_4A : List V := [(.s (.p a32 0)),(.s (.i .i64 5)),(.s (.sl a34 0 1 1))]
noncomputable def g13_4H : Hp := hset g13_3R [(a34,(.c [(.i .u64 2)]))] a35 0 32
noncomputable def g13_4V : V := (.s z0)
noncomputable def g13_4R : Hp := hset g13_4H [(a15,wB g13_4H a15 [(1056,0)])] a35 0 32
noncomputable def g13_4S : S := (.fn a14 [])
theorem g13_4 : runB (calM prog (nat) 60 g13_4S g13_4A g13_4H) g13_4V g13_4R = true := by decide +kernel
noncomputable def g13_5A : List V := [(.s (.p a32 0)),(.s (.i .i64 1)),(.s (.i .i64 25)),(.agg [(.i .u64 0),(.i .u64 0),(.i .u64 0),(.i .u64 0)]),(.s z0),(.s z0)]
noncomputable def g13_5H : Hp := hset g13_4R [] a33 0 32
noncomputable def g13_5V : V := (.s z0)
noncomputable def g13_5R : Hp := hset g13_5H [(a28,(.c [(.i .u16 0),(.i .u16 57343),(.i .u32 0)]))] a33 0 32
noncomputable def g13_5S : S := (.fn a21 [])
theorem g13_5 : runB (calM prog (nat) 60 g13_5S g13_5A g13_5H) g13_5V g13_5R = true := by decide +kernel
noncomputable def g13_6A : List V := [(.s (.p a16 0))]
noncomputable def g13_6H : Hp := hset g13_5R [(a28,(.c [(.i .u16 8192),(.i .u16 65535),(.i .u32 0)]))] a33 0 32
noncomputable def g13_6V : V := (.s z0)
noncomputable def g13_6R : Hp := hset g13_6H [] a33 0 32
noncomputable def g13_6S : S := (.fn a24 [])
theorem g13_6 : runB (trimC (calM prog (nat) 60) g13_6S g13_6A g13_6H) g13_6V g13_6R = true := by decide +kernel
noncomputable def hs13_0 : Hp := hset g13_1R [] a33 0 32
noncomputable def hs13_1 : Hp := hset hs13_0 [(a15,wB hs13_0 a15 [(1062,0)]),(a28,(.c [(.i .u16 8192),(.i .u16 65535),(.i .u32 0)]))] a33 0 32
noncomputable def S13 : List LS := [⟨[(a2,(.s (.i .i64 340282366920938463463374607431768211458))),(a7,(.s (.b true))),(a8,(.s (.i .i64 13))),(a9,(.s (.i .i64 18907912675552290406400))),(a11,(.s (.p a32 0))),(a13,(.s z0))], hs13_0⟩, ⟨[(a2,(.s (.i .i64 340282366920938463463374607431768211458))),(a7,(.s (.b true))),(a8,(.s (.i .i64 13))),(a9,(.s (.i .i64 18907912675552290406400))),(a11,(.s (.p a32 0))),(a13,(.s (.i .i64 1)))], hs13_1⟩, ⟨[(a2,(.s (.i .i64 340282366920938463463374607431768211458))),(a7,(.s (.b true))),(a8,(.s (.i .i64 13))),(a9,(.s (.i .i64 18907912675552290406400))),(a11,(.s (.p a32 0))),(a13,(.s (.i .i64 2)))], hs13_1⟩, ⟨[(a2,(.s (.i .i64 340282366920938463463374607431768211458))),(a7,(.s (.b true))),(a8,(.s (.i .i64 13))),(a9,(.s (.i .i64 18907912675552290406400))),(a11,(.s (.p a32 0))),(a13,(.s (.i .i64 3)))], hs13_1⟩, ⟨[(a2,(.s (.i .i64 340282366920938463463374607431768211458))),(a7,(.s (.b true))),(a8,(.s (.i .i64 13))),(a9,(.s (.i .i64 18907912675552290406400))),(a11,(.s (.p a32 0))),(a13,(.s (.i .i64 4)))], hs13_1⟩, ⟨[(a2,(.s (.i .i64 340282366920938463463374607431768211458))),(a7,(.s (.b true))),(a8,(.s (.i .i64 13))),(a9,(.s (.i .i64 18907912675552290406400))),(a11,(.s (.p a32 0))),(a13,(.s (.i .i64 5)))], hs13_1⟩, ⟨[(a2,(.s (.i .i64 340282366920938463463374607431768211458))),(a7,(.s (.b true))),(a8,(.s (.i .i64 13))),(a9,(.s (.i .i64 18907912675552290406400))),(a11,(.s (.p a32 0))),(a13,(.s (.i .i64 6)))], hs13_1⟩]
noncomputable def natL13 : Cal := orC (oraC (Pth.of 17) [.s (.i .i64 ((symN + 0 : Nat) : Int)), .s (.i .i64 (.ofNat 16))] (.s (.i .i64 (.ofNat 13)))) (orC (oraC (Pth.of 17) [.s (.i .i64 ((symN + 1 : Nat) : Int)), .s (.i .i64 (.ofNat 268435455))] (.s (.i .i64 (.ofNat 20088504296269701709824)))) (orC (oraC (Pth.of 17) [.s (.i .i64 ((symN + 2 : Nat) : Int)), .s (.i .i64 (.ofNat 6))] (.s (.i .i64 (.ofNat 114535833953662605983744)))) (orC (memS fa0S fa0A fa0H fa0V fa0R) (orC (memS g13_0S g13_0A g13_0H g13_0V g13_0R) (orC (memS g13_1S g13_1A g13_1H g13_1V g13_1R) (orC (memS g13_2S g13_2A g13_2H g13_2V g13_2R) (orC (memS g13_3S g13_3A g13_3H g13_3V g13_3R) (orC (memS g13_4S g13_4A g13_4H g13_4V g13_4R) (orC (memS g13_5S g13_5A g13_5H g13_5V g13_5R) (orC (memS g13_6S g13_6A g13_6H g13_6V g13_6R) (nat)))))))))))
theorem run13 : iniB (symA [.i64, .i64, .i64] 0) (exWs js9 (calM prog natL13 60) (kF (fr f9) (.s (.b true))) (fun _ => noB) fun t h => exW jI (calM prog natL13 60) t h (inL S13) (kF (fr f9) (.s (.b true))) fun _ => noB) (heap0 tabL) = true := by decide +kernel
theorem ver13 : verC jB (calM prog natL13 60) (kF (fr f9) (.s (.b true))) (kxZ 0 jZ (calM prog natL13 60) (kF (fr f9) (.s (.b true)))) [] S13 = true := by decide +kernel
end Go.E
