/- A part of the proof of the claim that the last text of this folder states. -/
import Derived.Test.YtebgbhgehnpahaaGreatDoorL33
namespace Go.E
set_option linter.all false
set_option maxRecDepth 100000
noncomputable def g4_0A : List V := [(.agg [(.i .i64 12),(.sl a3 0 1 1),z0,(.i .i64 1),.ns])]
noncomputable def g4_0H : Hp := hmk [(a0,(.ro [(.i .u8 0),(.i .u8 1),(.i .u8 28),(.i .u8 2),(.i .u8 29),(.i .u8 14),(.i .u8 24),(.i .u8 3),(.i .u8 30),(.i .u8 22),(.i .u8 20),(.i .u8 15),(.i .u8 25),(.i .u8 17),(.i .u8 4),(.i .u8 8),(.i .u8 31),(.i .u8 27),(.i .u8 13),(.i .u8 23),(.i .u8 21),(.i .u8 19),(.i .u8 16),(.i .u8 7),(.i .u8 26),(.i .u8 12),(.i .u8 18),(.i .u8 6),(.i .u8 11),(.i .u8 5),(.i .u8 10),(.i .u8 9)])),(a1,(.c [(.i .i64 12),(.i .i64 4),z0,z0,(.i .i64 5),z0,(.i .i64 7),(.i .i64 18907912675552290406400)])),(a2,(.c [(.i .i64 3),(.i .i64 5),z0,z0,(.sl a1 0 2 2)])),(a3,(.c [(.i .i64 3),(.i .i64 5),z0,z0,(.sl a1 0 2 2)]))] a4 1000000000 0
noncomputable def g4_0V : V := (.s (.p a32 0))
noncomputable def g4_0R : Hp := hset g4_0H [(a4,(.c [(.i .i64 12),(.sl a3 0 1 1),z0,(.i .i64 1),.ns])),(a5,(.c [(.i .i64 12),(.sl a3 0 1 1),z0,(.i .i64 1),.ns])),(a6,(.c [(.i .i64 12),(.sl a3 0 1 1),z0,(.i .i64 1),.ns])),(a7,(.mp [((.agg [(.i .i64 3),z0]),(.s (.i .i64 1024)),0),((.agg [(.i .i64 2),z0]),(.s (.i .i64 1088)),1),((.agg [(.i .i64 5),z0]),(.s (.i .i64 1120)),2),((.agg [(.i .i64 7),z0]),(.s (.i .i64 1128)),3)] 4)),(a8,(.c [(.i .i64 12),(.sl a3 0 1 1),z0,(.i .i64 1),.ns,(.mp a7),(.i .i64 1136)])),(a9,(.mp [((.agg [(.i .i64 12),(.i .i64 4)]),(.s (.b true)),0),((.agg [(.i .i64 5),z0]),(.s (.b true)),1)] 2)),(a10,(.c [(.i .i64 3),(.i .i64 5),z0,z0,(.sl a1 0 2 2)])),(a11,(.c [(.i .i64 12),(.i .i64 4),z0,z0])),(a12,(.c [(.i .i64 12),(.i .i64 4)])),(a13,(.c [(.i .i64 5),z0,(.i .i64 7),(.i .i64 18907912675552290406400)])),(a14,(.c [(.i .i64 5),z0])),(a15,(.w .u64 4096 13 (W [(1,20217631504785668572160),(17,1128),(32,348449143727040986586495598010130648547331),(60,22836334671640035761734677516263237707370612359),(1024,713644263294995196836950787201201445746525186),(1040,10281),(1092,2819816866870904179904263735827288966795238165833871861896755451547822748666133888564439196669283341040499194276871369916428)] [(1097,18907912675552290406400)]))),(a16,(.cu (.sl a15 0 4096 4096))),(a17,(.c [(.p a16 0)])),(a18,(.c [(.p a8 0)])),(a19,(.mp [((.agg [(.i .i64 2),z0]),(.s (.i .i64 1024)),0),((.agg [(.i .i64 12),(.i .i64 4)]),(.s (.i .i64 1092)),1),((.agg [(.i .i64 5),z0]),(.s (.i .i64 1096)),2)] 3)),(a20,(.c [(.mp a19)])),(a21,(.c [(.b false)])),(a22,(.c [(.i .i64 3),(.i .i64 5),z0,z0,(.sl a1 0 2 2)])),(a23,(.c [(.i .i64 12),(.i .i64 4),z0,z0])),(a24,(.c [(.i .i64 5),z0,(.i .i64 7),(.i .i64 18907912675552290406400)])),(a27,(.c [(.i .i64 3),(.i .i64 5),z0,z0,(.sl a1 0 2 2)])),(a28,(.c [(.i .u16 0),(.i .u16 65535),(.i .u32 0)])),(a29,(.c (Zi 32))),(a30,(.c [(.p a16 0),(.p a28 0),(.p a29 0)])),(a31,(.c [(.p a16 0),(.p a28 0),(.p a29 0),z0])),(a32,(.c [(.p a16 0),(.p a31 0)]))] a33 1000000000 0
noncomputable def g4_0S : S := (.fn a12 [])
theorem g4_0 : runB (calM prog (nat) 60 g4_0S g4_0A g4_0H) g4_0V g4_0R = true := by decide +kernel
noncomputable def g4_1A : List V := [(.s (.p a32 0)),(.s (.i .i64 1)),(.s (.i .i64 23)),(.agg [(.i .u64 0),(.i .u64 0),(.i .u64 0),(.i .u64 0)]),(.s (.i .i64 2)),(.s z0)]
noncomputable def g4_1H : Hp := hset g4_0R [] a33 1000000000 0
noncomputable def g4_1V : V := (.s z0)
noncomputable def g4_1R : Hp := hset g4_1H [(a15,wB g4_1H a15 [(80,234898949),(81,18907912675552290406400),(82,4366533704),(1062,2),(1094,3932240),(1098,5242880)])] a33 1000000000 0
noncomputable def g4_1S : S := (.fn a21 [])
theorem g4_1 : runB (calM prog (nat) 60 g4_1S g4_1A g4_1H) g4_1V g4_1R = true := by decide +kernel
noncomputable def g4_2A : List V := [(.s (.p a32 0)),(.s (.i .i64 1)),(.s (.i .i64 25)),(.agg [(.i .u64 0),(.i .u64 0),(.i .u64 0),(.i .u64 0)]),(.s z0),(.s z0)]
noncomputable def g4_2H : Hp := hset g4_1R [] a33 0 32
noncomputable def g4_2V : V := (.s z0)
noncomputable def g4_2R : Hp := hset g4_2H [(a15,wB g4_2H a15 [(1062,0)]),(a28,(.c [(.i .u16 0),(.i .u16 65519),(.i .u32 0)]))] a33 0 32
noncomputable def g4_2S : S := (.fn a21 [])
theorem g4_2 : runB (calM prog (nat) 60 g4_2S g4_2A g4_2H) g4_2V g4_2R = true := by decide +kernel
noncomputable def g4_3A : List V := [(.s (.p a32 0)),(.s (.i .i64 5)),(.s (.sl a33 0 1 1))]
noncomputable def g4_3H : Hp := hset g4_2R [(a15,wB g4_2R a15 [(1120,2),(1121,18907912675552290406400)]),(a28,(.c [(.i .u16 16),(.i .u16 65535),(.i .u32 0)])),(a33,(.c [(.i .u64 2)]))] a34 0 32
noncomputable def g4_3V : V := (.s z0)
noncomputable def g4_3R : Hp := hset g4_3H [(a15,wB g4_3H a15 [(1056,18907912675552290406400),(1120,0),(1121,0)])] a34 0 32
noncomputable def g4_3S : S := (.fn a14 [])
theorem g4_3 : runB (calM prog (nat) 60 g4_3S g4_3A g4_3H) g4_3V g4_3R = true := by decide +kernel
noncomputable def g4_4A : List V := [(.s (.p a32 0)),(.s (.i .i64 5)),(.s (.sl a34 0 1 1))]
noncomputable def g4_4H : Hp := hset g4_3R [(a34,(.c [(.i .u64 2)]))] a35 0 32
noncomputable def g4_4V : V := (.s z0)
noncomputable def g4_4R : Hp := hset g4_4H [(a15,wB g4_4H a15 [(1056,0)])] a35 0 32
noncomputable def g4_4S : S := (.fn a14 [])
theorem g4_4 : runB (calM prog (nat) 60 g4_4S g4_4A g4_4H) g4_4V g4_4R = true := by decide +kernel
noncomputable def g4_5A : List V := [(.s (.p a32 0)),(.s (.i .i64 1)),(.s (.i .i64 25)),(.agg [(.i .u64 0),(.i .u64 0),(.i .u64 0),(.i .u64 0)]),(.s z0),(.s z0)]
noncomputable def g4_5H : Hp := hset g4_4R [] a33 0 32
noncomputable def g4_5V : V := (.s z0)
noncomputable def g4_5R : Hp := hset g4_5H [(a28,(.c [(.i .u16 0),(.i .u16 65519),(.i .u32 0)]))] a33 0 32
noncomputable def g4_5S : S := (.fn a21 [])
theorem g4_5 : runB (calM prog (nat) 60 g4_5S g4_5A g4_5H) g4_5V g4_5R = true := by decide +kernel
noncomputable def g4_6A : List V := [(.s (.p a16 0))]
noncomputable def g4_6H : Hp := hset g4_5R [(a28,(.c [(.i .u16 16),(.i .u16 65535),(.i .u32 0)]))] a33 0 32
noncomputable def g4_6V : V := (.s z0)
noncomputable def g4_6R : Hp := hset g4_6H [] a33 0 32
noncomputable def g4_6S : S := (.fn a24 [])
theorem g4_6 : runB (trimC (calM prog (nat) 60) g4_6S g4_6A g4_6H) g4_6V g4_6R = true := by decide +kernel
noncomputable def hs4_0 : Hp := hset g4_1R [] a33 0 32
noncomputable def hs4_1 : Hp := hset hs4_0 [(a15,wB hs4_0 a15 [(1062,0)]),(a28,(.c [(.i .u16 16),(.i .u16 65535),(.i .u32 0)]))] a33 0 32
noncomputable def S4 : List LS := [⟨[(a2,(.s (.i .i64 340282366920938463463374607431768211458))),(a7,(.s (.b true))),(a8,(.s (.i .i64 4))),(a9,(.s (.i .i64 18907912675552290406400))),(a11,(.s (.p a32 0))),(a13,(.s z0))], hs4_0⟩, ⟨[(a2,(.s (.i .i64 340282366920938463463374607431768211458))),(a7,(.s (.b true))),(a8,(.s (.i .i64 4))),(a9,(.s (.i .i64 18907912675552290406400))),(a11,(.s (.p a32 0))),(a13,(.s (.i .i64 1)))], hs4_1⟩, ⟨[(a2,(.s (.i .i64 340282366920938463463374607431768211458))),(a7,(.s (.b true))),(a8,(.s (.i .i64 4))),(a9,(.s (.i .i64 18907912675552290406400))),(a11,(.s (.p a32 0))),(a13,(.s (.i .i64 2)))], hs4_1⟩, ⟨[(a2,(.s (.i .i64 340282366920938463463374607431768211458))),(a7,(.s (.b true))),(a8,(.s (.i .i64 4))),(a9,(.s (.i .i64 18907912675552290406400))),(a11,(.s (.p a32 0))),(a13,(.s (.i .i64 3)))], hs4_1⟩, ⟨[(a2,(.s (.i .i64 340282366920938463463374607431768211458))),(a7,(.s (.b true))),(a8,(.s (.i .i64 4))),(a9,(.s (.i .i64 18907912675552290406400))),(a11,(.s (.p a32 0))),(a13,(.s (.i .i64 4)))], hs4_1⟩, ⟨[(a2,(.s (.i .i64 340282366920938463463374607431768211458))),(a7,(.s (.b true))),(a8,(.s (.i .i64 4))),(a9,(.s (.i .i64 18907912675552290406400))),(a11,(.s (.p a32 0))),(a13,(.s (.i .i64 5)))], hs4_1⟩, ⟨[(a2,(.s (.i .i64 340282366920938463463374607431768211458))),(a7,(.s (.b true))),(a8,(.s (.i .i64 4))),(a9,(.s (.i .i64 18907912675552290406400))),(a11,(.s (.p a32 0))),(a13,(.s (.i .i64 6)))], hs4_1⟩]
noncomputable def natL4 : Cal := orC (oraC (Pth.of 17) [.s (.i .i64 ((symN + 0 : Nat) : Int)), .s (.i .i64 (.ofNat 16))] (.s (.i .i64 (.ofNat 4)))) (orC (oraC (Pth.of 17) [.s (.i .i64 ((symN + 1 : Nat) : Int)), .s (.i .i64 (.ofNat 268435455))] (.s (.i .i64 (.ofNat 20088504296269701709824)))) (orC (oraC (Pth.of 17) [.s (.i .i64 ((symN + 2 : Nat) : Int)), .s (.i .i64 (.ofNat 6))] (.s (.i .i64 (.ofNat 114535833953662605983744)))) (orC (memS fa0S fa0A fa0H fa0V fa0R) (orC (memS g4_0S g4_0A g4_0H g4_0V g4_0R) (orC (memS g4_1S g4_1A g4_1H g4_1V g4_1R) (orC (memS g4_2S g4_2A g4_2H g4_2V g4_2R) (orC (memS g4_3S g4_3A g4_3H g4_3V g4_3R) (orC (memS g4_4S g4_4A g4_4H g4_4V g4_4R) (orC (memS g4_5S g4_5A g4_5H g4_5V g4_5R) (orC (memS g4_6S g4_6A g4_6H g4_6V g4_6R) (nat)))))))))))
theorem run4 : iniB (symA [.i64, .i64, .i64] 0) (exWs js9 (calM prog natL4 60) (kF (fr f9) (.s (.b true))) (fun _ => noB) fun t h => exW jI (calM prog natL4 60) t h (inL S4) (kF (fr f9) (.s (.b true))) fun _ => noB) (heap0 tabL) = true := by decide +kernel
theorem ver4 : verC jB (calM prog natL4 60) (kF (fr f9) (.s (.b true))) (kxZ 0 jZ (calM prog natL4 60) (kF (fr f9) (.s (.b true)))) [] S4 = true := by decide +kernel
noncomputable def g5_0A : List V := [(.agg [(.i .i64 12),(.sl a3 0 1 1),z0,(.i .i64 1),.ns])]
noncomputable def g5_0H : Hp := hmk [(a0,(.ro [(.i .u8 0),(.i .u8 1),(.i .u8 28),(.i .u8 2),(.i .u8 29),(.i .u8 14),(.i .u8 24),(.i .u8 3),(.i .u8 30),(.i .u8 22),(.i .u8 20),(.i .u8 15),(.i .u8 25),(.i .u8 17),(.i .u8 4),(.i .u8 8),(.i .u8 31),(.i .u8 27),(.i .u8 13),(.i .u8 23),(.i .u8 21),(.i .u8 19),(.i .u8 16),(.i .u8 7),(.i .u8 26),(.i .u8 12),(.i .u8 18),(.i .u8 6),(.i .u8 11),(.i .u8 5),(.i .u8 10),(.i .u8 9)])),(a1,(.c [(.i .i64 12),(.i .i64 5),z0,z0,(.i .i64 5),z0,(.i .i64 7),(.i .i64 18907912675552290406400)])),(a2,(.c [(.i .i64 3),(.i .i64 5),z0,z0,(.sl a1 0 2 2)])),(a3,(.c [(.i .i64 3),(.i .i64 5),z0,z0,(.sl a1 0 2 2)]))] a4 1000000000 0
noncomputable def g5_0V : V := (.s (.p a32 0))
noncomputable def g5_0R : Hp := hset g5_0H [(a4,(.c [(.i .i64 12),(.sl a3 0 1 1),z0,(.i .i64 1),.ns])),(a5,(.c [(.i .i64 12),(.sl a3 0 1 1),z0,(.i .i64 1),.ns])),(a6,(.c [(.i .i64 12),(.sl a3 0 1 1),z0,(.i .i64 1),.ns])),(a7,(.mp [((.agg [(.i .i64 3),z0]),(.s (.i .i64 1024)),0),((.agg [(.i .i64 2),z0]),(.s (.i .i64 1088)),1),((.agg [(.i .i64 5),z0]),(.s (.i .i64 1120)),2),((.agg [(.i .i64 7),z0]),(.s (.i .i64 1128)),3)] 4)),(a8,(.c [(.i .i64 12),(.sl a3 0 1 1),z0,(.i .i64 1),.ns,(.mp a7),(.i .i64 1136)])),(a9,(.mp [((.agg [(.i .i64 12),(.i .i64 5)]),(.s (.b true)),0),((.agg [(.i .i64 5),z0]),(.s (.b true)),1)] 2)),(a10,(.c [(.i .i64 3),(.i .i64 5),z0,z0,(.sl a1 0 2 2)])),(a11,(.c [(.i .i64 12),(.i .i64 5),z0,z0])),(a12,(.c [(.i .i64 12),(.i .i64 5)])),(a13,(.c [(.i .i64 5),z0,(.i .i64 7),(.i .i64 18907912675552290406400)])),(a14,(.c [(.i .i64 5),z0])),(a15,(.w .u64 4096 13 (W [(1,20217631504785668572160),(17,1128),(32,348449143727040986586495598010130648547331),(60,22836334671640035761734677516263237707370612359),(1024,713644263294995196836950787201201445746525186),(1040,10281),(1092,2819816866870904179904263735827288966795238165833871861896755451547822748666133888564439196669283341040499194276871638351884)] [(1097,18907912675552290406400)]))),(a16,(.cu (.sl a15 0 4096 4096))),(a17,(.c [(.p a16 0)])),(a18,(.c [(.p a8 0)])),(a19,(.mp [((.agg [(.i .i64 2),z0]),(.s (.i .i64 1024)),0),((.agg [(.i .i64 12),(.i .i64 5)]),(.s (.i .i64 1092)),1),((.agg [(.i .i64 5),z0]),(.s (.i .i64 1096)),2)] 3)),(a20,(.c [(.mp a19)])),(a21,(.c [(.b false)])),(a22,(.c [(.i .i64 3),(.i .i64 5),z0,z0,(.sl a1 0 2 2)])),(a23,(.c [(.i .i64 12),(.i .i64 5),z0,z0])),(a24,(.c [(.i .i64 5),z0,(.i .i64 7),(.i .i64 18907912675552290406400)])),(a27,(.c [(.i .i64 3),(.i .i64 5),z0,z0,(.sl a1 0 2 2)])),(a28,(.c [(.i .u16 0),(.i .u16 65535),(.i .u32 0)])),(a29,(.c (Zi 32))),(a30,(.c [(.p a16 0),(.p a28 0),(.p a29 0)])),(a31,(.c [(.p a16 0),(.p a28 0),(.p a29 0),z0])),(a32,(.c [(.p a16 0),(.p a31 0)]))] a33 1000000000 0
noncomputable def g5_0S : S := (.fn a12 [])
theorem g5_0 : runB (calM prog (nat) 60 g5_0S g5_0A g5_0H) g5_0V g5_0R = true := by decide +kernel
noncomputable def g5_1A : List V := [(.s (.p a32 0)),(.s (.i .i64 1)),(.s (.i .i64 23)),(.agg [(.i .u64 0),(.i .u64 0),(.i .u64 0),(.i .u64 0)]),(.s (.i .i64 2)),(.s z0)]
noncomputable def g5_1H : Hp := hset g5_0R [] a33 1000000000 0
noncomputable def g5_1V : V := (.s z0)
noncomputable def g5_1R : Hp := hset g5_1H [(a15,wB g5_1H a15 [(84,234898949),(85,18907912675552290406400),(86,4366533704),(1062,2),(1094,3932244),(1098,5505024)])] a33 1000000000 0
noncomputable def g5_1S : S := (.fn a21 [])
theorem g5_1 : runB (calM prog (nat) 60 g5_1S g5_1A g5_1H) g5_1V g5_1R = true := by decide +kernel
noncomputable def g5_2A : List V := [(.s (.p a32 0)),(.s (.i .i64 1)),(.s (.i .i64 25)),(.agg [(.i .u64 0),(.i .u64 0),(.i .u64 0),(.i .u64 0)]),(.s z0),(.s z0)]
noncomputable def g5_2H : Hp := hset g5_1R [] a33 0 32
noncomputable def g5_2V : V := (.s z0)
noncomputable def g5_2R : Hp := hset g5_2H [(a15,wB g5_2H a15 [(1062,0)]),(a28,(.c [(.i .u16 0),(.i .u16 65503),(.i .u32 0)]))] a33 0 32
noncomputable def g5_2S : S := (.fn a21 [])
theorem g5_2 : runB (calM prog (nat) 60 g5_2S g5_2A g5_2H) g5_2V g5_2R = true := by decide +kernel
noncomputable def g5_3A : List V := [(.s (.p a32 0)),(.s (.i .i64 5)),(.s (.sl a33 0 1 1))]
noncomputable def g5_3H : Hp := hset g5_2R [(a15,wB g5_2R a15 [(1120,2),(1121,18907912675552290406400)]),(a28,(.c [(.i .u16 32),(.i .u16 65535),(.i .u32 0)])),(a33,(.c [(.i .u64 2)]))] a34 0 32
noncomputable def g5_3V : V := (.s z0)
noncomputable def g5_3R : Hp := hset g5_3H [(a15,wB g5_3H a15 [(1056,18907912675552290406400),(1120,0),(1121,0)])] a34 0 32
noncomputable def g5_3S : S := (.fn a14 [])
theorem g5_3 : runB (calM prog (nat) 60 g5_3S g5_3A g5_3H) g5_3V g5_3R = true := by decide +kernel
noncomputable def g5_4A : List V := [(.s (.p a32 0)),(.s (.i .i64 5)),(.s (.sl a34 0 1 1))]
noncomputable def g5_4H : Hp := hset g5_3R [(a34,(.c [(.i .u64 2)]))] a35 0 32
noncomputable def g5_4V : V := (.s z0)
noncomputable def g5_4R : Hp := hset g5_4H [(a15,wB g5_4H a15 [(1056,0)])] a35 0 32
noncomputable def g5_4S : S := (.fn a14 [])
theorem g5_4 : runB (calM prog (nat) 60 g5_4S g5_4A g5_4H) g5_4V g5_4R = true := by decide +kernel
noncomputable def g5_5A : List V := [(.s (.p a32 0)),(.s (.i .i64 1)),(.s (.i .i64 25)),(.agg [(.i .u64 0),(.i .u64 0),(.i .u64 0),(.i .u64 0)]),(.s z0),(.s z0)]
noncomputable def g5_5H : Hp := hset g5_4R [] a33 0 32
noncomputable def g5_5V : V := (.s z0)
noncomputable def g5_5R : Hp := hset g5_5H [(a28,(.c [(.i .u16 0),(.i .u16 65503),(.i .u32 0)]))] a33 0 32
noncomputable def g5_5S : S := (.fn a21 [])
theorem g5_5 : runB (calM prog (nat) 60 g5_5S g5_5A g5_5H) g5_5V g5_5R = true := by decide +kernel
noncomputable def g5_6A : List V := [(.s (.p a16 0))]
noncomputable def g5_6H : Hp := hset g5_5R [(a28,(.c [(.i .u16 32),(.i .u16 65535),(.i .u32 0)]))] a33 0 32
noncomputable def g5_6V : V := (.s z0)
noncomputable def g5_6R : Hp := hset g5_6H [] a33 0 32
noncomputable def g5_6S : S := (.fn a24 [])
theorem g5_6 : runB (trimC (calM prog (nat) 60) g5_6S g5_6A g5_6H) g5_6V g5_6R = true := by decide +kernel
noncomputable def hs5_0 : Hp := hset g5_1R [] a33 0 32
noncomputable def hs5_1 : Hp := hset hs5_0 [(a15,wB hs5_0 a15 [(1062,0)]),(a28,(.c [(.i .u16 32),(.i .u16 65535),(.i .u32 0)]))] a33 0 32
noncomputable def S5 : List LS := [⟨[(a2,(.s (.i .i64 340282366920938463463374607431768211458))),(a7,(.s (.b true))),(a8,(.s (.i .i64 5))),(a9,(.s (.i .i64 18907912675552290406400))),(a11,(.s (.p a32 0))),(a13,(.s z0))], hs5_0⟩, ⟨[(a2,(.s (.i .i64 340282366920938463463374607431768211458))),(a7,(.s (.b true))),(a8,(.s (.i .i64 5))),(a9,(.s (.i .i64 18907912675552290406400))),(a11,(.s (.p a32 0))),(a13,(.s (.i .i64 1)))], hs5_1⟩, ⟨[(a2,(.s (.i .i64 340282366920938463463374607431768211458))),(a7,(.s (.b true))),(a8,(.s (.i .i64 5))),(a9,(.s (.i .i64 18907912675552290406400))),(a11,(.s (.p a32 0))),(a13,(.s (.i .i64 2)))], hs5_1⟩, ⟨[(a2,(.s (.i .i64 340282366920938463463374607431768211458))),(a7,(.s (.b true))),(a8,(.s (.i .i64 5))),(a9,(.s (.i .i64 18907912675552290406400))),(a11,(.s (.p a32 0))),(a13,(.s (.i .i64 3)))], hs5_1⟩, ⟨[(a2,(.s (.i .i64 340282366920938463463374607431768211458))),(a7,(.s (.b true))),(a8,(.s (.i .i64 5))),(a9,(.s (.i .i64 18907912675552290406400))),(a11,(.s (.p a32 0))),(a13,(.s (.i .i64 4)))], hs5_1⟩, ⟨[(a2,(.s (.i .i64 340282366920938463463374607431768211458))),(a7,(.s (.b true))),(a8,(.s (.i .i64 5))),(a9,(.s (.i .i64 18907912675552290406400))),(a11,(.s (.p a32 0))),(a13,(.s (.i .i64 5)))], hs5_1⟩, ⟨[(a2,(.s (.i .i64 340282366920938463463374607431768211458))),(a7,(.s (.b true))),(a8,(.s (.i .i64 5))),(a9,(.s (.i .i64 18907912675552290406400))),(a11,(.s (.p a32 0))),(a13,(.s (.i .i64 6)))], hs5_1⟩]
noncomputable def natL5 : Cal := orC (oraC (Pth.of 17) [.s (.i .i64 ((symN + 0 : Nat) : Int)), .s (.i .i64 (.ofNat 16))] (.s (.i .i64 (.ofNat 5)))) (orC (oraC (Pth.of 17) [.s (.i .i64 ((symN + 1 : Nat) : Int)), .s (.i .i64 (.ofNat 268435455))] (.s (.i .i64 (.ofNat 20088504296269701709824)))) (orC (oraC (Pth.of 17) [.s (.i .i64 ((symN + 2 : Nat) : Int)), .s (.i .i64 (.ofNat 6))] (.s (.i .i64 (.ofNat 114535833953662605983744)))) (orC (memS fa0S fa0A fa0H fa0V fa0R) (orC (memS g5_0S g5_0A g5_0H g5_0V g5_0R) (orC (memS g5_1S g5_1A g5_1H g5_1V g5_1R) (orC (memS g5_2S g5_2A g5_2H g5_2V g5_2R) (orC (memS g5_3S g5_3A g5_3H g5_3V g5_3R) (orC (memS g5_4S g5_4A g5_4H g5_4V g5_4R) (orC (memS g5_5S g5_5A g5_5H g5_5V g5_5R) (orC (memS g5_6S g5_6A g5_6H g5_6V g5_6R) (nat)))))))))))
theorem run5 : iniB (symA [.i64, .i64, .i64] 0) (exWs js9 (calM prog natL5 60) (kF (fr f9) (.s (.b true))) (fun _ => noB) fun t h => exW jI (calM prog natL5 60) t h (inL S5) (kF (fr f9) (.s (.b true))) fun _ => noB) (heap0 tabL) = true := by decide +kernel
theorem ver5 : verC jB (calM prog natL5 60) (kF (fr f9) (.s (.b true))) (kxZ 0 jZ (calM prog natL5 60) (kF (fr f9) (.s (.b true)))) [] S5 = true := by decide +kernel
end Go.E
