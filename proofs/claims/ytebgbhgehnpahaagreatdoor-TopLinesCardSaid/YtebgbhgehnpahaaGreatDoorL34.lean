/- A part of the proof of the claim that the last text of this folder states. -/
import Derived.Test.YtebgbhgehnpahaaGreatDoorL33
namespace Go.E
set_option linter.all false
set_option maxRecDepth 100000
noncomputable def g0_0A : List V := [(.agg [(.i .i64 12),(.sl a3 0 1 1),z0,(.i .i64 1),.ns])]
noncomputable def g0_0H : Hp := hmk [(a0,(.ro [(.i .u8 0),(.i .u8 1),(.i .u8 28),(.i .u8 2),(.i .u8 29),(.i .u8 14),(.i .u8 24),(.i .u8 3),(.i .u8 30),(.i .u8 22),(.i .u8 20),(.i .u8 15),(.i .u8 25),(.i .u8 17),(.i .u8 4),(.i .u8 8),(.i .u8 31),(.i .u8 27),(.i .u8 13),(.i .u8 23),(.i .u8 21),(.i .u8 19),(.i .u8 16),(.i .u8 7),(.i .u8 26),(.i .u8 12),(.i .u8 18),(.i .u8 6),(.i .u8 11),(.i .u8 5),(.i .u8 10),(.i .u8 9)])),(a1,(.c [(.i .i64 12),z0,z0,z0,(.i .i64 5),z0,(.i .i64 7),(.i .i64 18907912675552290406400)])),(a2,(.c [(.i .i64 3),(.i .i64 5),z0,z0,(.sl a1 0 2 2)])),(a3,(.c [(.i .i64 3),(.i .i64 5),z0,z0,(.sl a1 0 2 2)]))] a4 1000000000 0
noncomputable def g0_0V : V := (.s (.p a32 0))
noncomputable def g0_0R : Hp := hset g0_0H [(a4,(.c [(.i .i64 12),(.sl a3 0 1 1),z0,(.i .i64 1),.ns])),(a5,(.c [(.i .i64 12),(.sl a3 0 1 1),z0,(.i .i64 1),.ns])),(a6,(.c [(.i .i64 12),(.sl a3 0 1 1),z0,(.i .i64 1),.ns])),(a7,(.mp [((.agg [(.i .i64 3),z0]),(.s (.i .i64 1024)),0),((.agg [(.i .i64 2),z0]),(.s (.i .i64 1088)),1),((.agg [(.i .i64 5),z0]),(.s (.i .i64 1120)),2),((.agg [(.i .i64 7),z0]),(.s (.i .i64 1128)),3)] 4)),(a8,(.c [(.i .i64 12),(.sl a3 0 1 1),z0,(.i .i64 1),.ns,(.mp a7),(.i .i64 1136)])),(a9,(.mp [((.agg [(.i .i64 12),z0]),(.s (.b true)),0),((.agg [(.i .i64 5),z0]),(.s (.b true)),1)] 2)),(a10,(.c [(.i .i64 3),(.i .i64 5),z0,z0,(.sl a1 0 2 2)])),(a11,(.c [(.i .i64 12),z0,z0,z0])),(a12,(.c [(.i .i64 12),z0])),(a13,(.c [(.i .i64 5),z0,(.i .i64 7),(.i .i64 18907912675552290406400)])),(a14,(.c [(.i .i64 5),z0])),(a15,(.w .u64 4096 13 (W [(1,20217631504785668572160),(17,1128),(32,348449143727040986586495598010130648547331),(60,22836334671640035761734677516263237707370612359),(1024,713644263294995196836950787201201445746525186),(1040,10281),(1092,2819816866870904179904263735827288966795238165833871861896755451547822748666133888564439196669283341040499194276870296174604)] [(1097,18907912675552290406400)]))),(a16,(.cu (.sl a15 0 4096 4096))),(a17,(.c [(.p a16 0)])),(a18,(.c [(.p a8 0)])),(a19,(.mp [((.agg [(.i .i64 2),z0]),(.s (.i .i64 1024)),0),((.agg [(.i .i64 12),z0]),(.s (.i .i64 1092)),1),((.agg [(.i .i64 5),z0]),(.s (.i .i64 1096)),2)] 3)),(a20,(.c [(.mp a19)])),(a21,(.c [(.b false)])),(a22,(.c [(.i .i64 3),(.i .i64 5),z0,z0,(.sl a1 0 2 2)])),(a23,(.c [(.i .i64 12),z0,z0,z0])),(a24,(.c [(.i .i64 5),z0,(.i .i64 7),(.i .i64 18907912675552290406400)])),(a27,(.c [(.i .i64 3),(.i .i64 5),z0,z0,(.sl a1 0 2 2)])),(a28,(.c [(.i .u16 0),(.i .u16 65535),(.i .u32 0)])),(a29,(.c (Zi 32))),(a30,(.c [(.p a16 0),(.p a28 0),(.p a29 0)])),(a31,(.c [(.p a16 0),(.p a28 0),(.p a29 0),z0])),(a32,(.c [(.p a16 0),(.p a31 0)]))] a33 1000000000 0
noncomputable def g0_0S : S := (.fn a12 [])
theorem g0_0 : runB (calM prog (nat) 60 g0_0S g0_0A g0_0H) g0_0V g0_0R = true := by decide +kernel
noncomputable def g0_1A : List V := [(.s (.p a32 0)),(.s (.i .i64 1)),(.s (.i .i64 23)),(.agg [(.i .u64 0),(.i .u64 0),(.i .u64 0),(.i .u64 0)]),(.s (.i .i64 2)),(.s z0)]
noncomputable def g0_1H : Hp := hset g0_0R [] a33 1000000000 0
noncomputable def g0_1V : V := (.s z0)
noncomputable def g0_1R : Hp := hset g0_1H [(a15,wB g0_1H a15 [(64,234898949),(65,18907912675552290406400),(66,4366533704),(1062,2),(1094,3932224),(1098,4194304)])] a33 1000000000 0
noncomputable def g0_1S : S := (.fn a21 [])
theorem g0_1 : runB (calM prog (nat) 60 g0_1S g0_1A g0_1H) g0_1V g0_1R = true := by decide +kernel
noncomputable def g0_2A : List V := [(.s (.p a32 0)),(.s (.i .i64 1)),(.s (.i .i64 25)),(.agg [(.i .u64 0),(.i .u64 0),(.i .u64 0),(.i .u64 0)]),(.s z0),(.s z0)]
noncomputable def g0_2H : Hp := hset g0_1R [] a33 0 32
noncomputable def g0_2V : V := (.s z0)
noncomputable def g0_2R : Hp := hset g0_2H [(a15,wB g0_2H a15 [(1062,0)]),(a28,(.c [(.i .u16 0),(.i .u16 65534),(.i .u32 0)]))] a33 0 32
noncomputable def g0_2S : S := (.fn a21 [])
theorem g0_2 : runB (calM prog (nat) 60 g0_2S g0_2A g0_2H) g0_2V g0_2R = true := by decide +kernel
noncomputable def g0_3A : List V := [(.s (.p a32 0)),(.s (.i .i64 5)),(.s (.sl a33 0 1 1))]
noncomputable def g0_3H : Hp := hset g0_2R [(a15,wB g0_2R a15 [(1120,2),(1121,18907912675552290406400)]),(a28,(.c [(.i .u16 1),(.i .u16 65535),(.i .u32 0)])),(a33,(.c [(.i .u64 2)]))] a34 0 32
noncomputable def g0_3V : V := (.s z0)
noncomputable def g0_3R : Hp := hset g0_3H [(a15,wB g0_3H a15 [(1056,18907912675552290406400),(1120,0),(1121,0)])] a34 0 32
noncomputable def g0_3S : S := (.fn a14 [])
theorem g0_3 : runB (calM prog (nat) 60 g0_3S g0_3A g0_3H) g0_3V g0_3R = true := by decide +kernel
noncomputable def g0_4A : List V := [(.s (.p a32 0)),(.s (.i .i64 5)),(.s (.sl a34 0 1 1))]
noncomputable def g0_4H : Hp := hset g0_3R [(a34,(.c [(.i .u64 2)]))] a35 0 32
noncomputable def g0_4V : V := (.s z0)
noncomputable def g0_4R : Hp := hset g0_4H [(a15,wB g0_4H a15 [(1056,0)])] a35 0 32
noncomputable def g0_4S : S := (.fn a14 [])
theorem g0_4 : runB (calM prog (nat) 60 g0_4S g0_4A g0_4H) g0_4V g0_4R = true := by decide +kernel
noncomputable def g0_5A : List V := [(.s (.p a32 0)),(.s (.i .i64 1)),(.s (.i .i64 25)),(.agg [(.i .u64 0),(.i .u64 0),(.i .u64 0),(.i .u64 0)]),(.s z0),(.s z0)]
noncomputable def g0_5H : Hp := hset g0_4R [] a33 0 32
noncomputable def g0_5V : V := (.s z0)
noncomputable def g0_5R : Hp := hset g0_5H [(a28,(.c [(.i .u16 0),(.i .u16 65534),(.i .u32 0)]))] a33 0 32
noncomputable def g0_5S : S := (.fn a21 [])
theorem g0_5 : runB (calM prog (nat) 60 g0_5S g0_5A g0_5H) g0_5V g0_5R = true := by decide +kernel
noncomputable def g0_6A : List V := [(.s (.p a16 0))]
noncomputable def g0_6H : Hp := hset g0_5R [(a28,(.c [(.i .u16 1),(.i .u16 65535),(.i .u32 0)]))] a33 0 32
noncomputable def g0_6V : V := (.s z0)
noncomputable def g0_6R : Hp := hset g0_6H [] a33 0 32
noncomputable def g0_6S : S := (.fn a24 [])
theorem g0_6 : runB (trimC (calM prog (nat) 60) g0_6S g0_6A g0_6H) g0_6V g0_6R = true := by decide +kernel
noncomputable def hs0_0 : Hp := hset g0_1R [] a33 0 32
noncomputable def hs0_1 : Hp := hset hs0_0 [(a15,wB hs0_0 a15 [(1062,0)]),(a28,(.c [(.i .u16 1),(.i .u16 65535),(.i .u32 0)]))] a33 0 32
noncomputable def S0 : List LS := [⟨[(a2,(.s (.i .i64 340282366920938463463374607431768211458))),(a7,(.s (.b true))),(a8,(.s z0)),(a9,(.s (.i .i64 18907912675552290406400))),(a11,(.s (.p a32 0))),(a13,(.s z0))], hs0_0⟩, ⟨[(a2,(.s (.i .i64 340282366920938463463374607431768211458))),(a7,(.s (.b true))),(a8,(.s z0)),(a9,(.s (.i .i64 18907912675552290406400))),(a11,(.s (.p a32 0))),(a13,(.s (.i .i64 1)))], hs0_1⟩, ⟨[(a2,(.s (.i .i64 340282366920938463463374607431768211458))),(a7,(.s (.b true))),(a8,(.s z0)),(a9,(.s (.i .i64 18907912675552290406400))),(a11,(.s (.p a32 0))),(a13,(.s (.i .i64 2)))], hs0_1⟩, ⟨[(a2,(.s (.i .i64 340282366920938463463374607431768211458))),(a7,(.s (.b true))),(a8,(.s z0)),(a9,(.s (.i .i64 18907912675552290406400))),(a11,(.s (.p a32 0))),(a13,(.s (.i .i64 3)))], hs0_1⟩, ⟨[(a2,(.s (.i .i64 340282366920938463463374607431768211458))),(a7,(.s (.b true))),(a8,(.s z0)),(a9,(.s (.i .i64 18907912675552290406400))),(a11,(.s (.p a32 0))),(a13,(.s (.i .i64 4)))], hs0_1⟩, ⟨[(a2,(.s (.i .i64 340282366920938463463374607431768211458))),(a7,(.s (.b true))),(a8,(.s z0)),(a9,(.s (.i .i64 18907912675552290406400))),(a11,(.s (.p a32 0))),(a13,(.s (.i .i64 5)))], hs0_1⟩, ⟨[(a2,(.s (.i .i64 340282366920938463463374607431768211458))),(a7,(.s (.b true))),(a8,(.s z0)),(a9,(.s (.i .i64 18907912675552290406400))),(a11,(.s (.p a32 0))),(a13,(.s (.i .i64 6)))], hs0_1⟩]
noncomputable def natL0 : Cal := orC (oraC (Pth.of 17) [.s (.i .i64 ((symN + 0 : Nat) : Int)), .s (.i .i64 (.ofNat 16))] (.s (.i .i64 (.ofNat 0)))) (orC (oraC (Pth.of 17) [.s (.i .i64 ((symN + 1 : Nat) : Int)), .s (.i .i64 (.ofNat 268435455))] (.s (.i .i64 (.ofNat 20088504296269701709824)))) (orC (oraC (Pth.of 17) [.s (.i .i64 ((symN + 2 : Nat) : Int)), .s (.i .i64 (.ofNat 6))] (.s (.i .i64 (.ofNat 114535833953662605983744)))) (orC (memS fa0S fa0A fa0H fa0V fa0R) (orC (memS g0_0S g0_0A g0_0H g0_0V g0_0R) (orC (memS g0_1S g0_1A g0_1H g0_1V g0_1R) (orC (memS g0_2S g0_2A g0_2H g0_2V g0_2R) (orC (memS g0_3S g0_3A g0_3H g0_3V g0_3R) (orC (memS g0_4S g0_4A g0_4H g0_4V g0_4R) (orC (memS g0_5S g0_5A g0_5H g0_5V g0_5R) (orC (memS g0_6S g0_6A g0_6H g0_6V g0_6R) (nat)))))))))))
theorem run0 : iniB (symA [.i64, .i64, .i64] 0) (exWs js9 (calM prog natL0 60) (kF (fr f9) (.s (.b true))) (fun _ => noB) fun t h => exW jI (calM prog natL0 60) t h (inL S0) (kF (fr f9) (.s (.b true))) fun _ => noB) (heap0 tabL) = true := by decide +kernel
theorem ver0 : verC jB (calM prog natL0 60) (kF (fr f9) (.s (.b true))) (kxZ 0 jZ (calM prog natL0 60) (kF (fr f9) (.s (.b true)))) [] S0 = true := by decide +kernel
noncomputable def g1_0A : List V := [(.agg [(.i .i64 12),(.sl a3 0 1 1),z0,(.i .i64 1),.ns])]
noncomputable def g1_0H : Hp := hmk [(a0,(.ro [(.i .u8 0),(.i .u8 1),(.i .u8 28),(.i .u8 2),(.i .u8 29),(.i .u8 14),(.i .u8 24),(.i .u8 3),(.i .u8 30),(.i .u8 22),(.i .u8 20),(.i .u8 15),(.i .u8 25),(.i .u8 17),(.i .u8 4),(.i .u8 8),(.i .u8 31),(.i .u8 27),(.i .u8 13),(.i .u8 23),(.i .u8 21),(.i .u8 19),(.i .u8 16),(.i .u8 7),(.i .u8 26),(.i .u8 12),(.i .u8 18),(.i .u8 6),(.i .u8 11),(.i .u8 5),(.i .u8 10),(.i .u8 9)])),(a1,(.c [(.i .i64 12),(.i .i64 1),z0,z0,(.i .i64 5),z0,(.i .i64 7),(.i .i64 18907912675552290406400)])),(a2,(.c [(.i .i64 3),(.i .i64 5),z0,z0,(.sl a1 0 2 2)])),(a3,(.c [(.i .i64 3),(.i .i64 5),z0,z0,(.sl a1 0 2 2)]))] a4 1000000000 0
noncomputable def g1_0V : V := (.s (.p a32 0))
noncomputable def g1_0R : Hp := hset g1_0H [(a4,(.c [(.i .i64 12),(.sl a3 0 1 1),z0,(.i .i64 1),.ns])),(a5,(.c [(.i .i64 12),(.sl a3 0 1 1),z0,(.i .i64 1),.ns])),(a6,(.c [(.i .i64 12),(.sl a3 0 1 1),z0,(.i .i64 1),.ns])),(a7,(.mp [((.agg [(.i .i64 3),z0]),(.s (.i .i64 1024)),0),((.agg [(.i .i64 2),z0]),(.s (.i .i64 1088)),1),((.agg [(.i .i64 5),z0]),(.s (.i .i64 1120)),2),((.agg [(.i .i64 7),z0]),(.s (.i .i64 1128)),3)] 4)),(a8,(.c [(.i .i64 12),(.sl a3 0 1 1),z0,(.i .i64 1),.ns,(.mp a7),(.i .i64 1136)])),(a9,(.mp [((.agg [(.i .i64 12),(.i .i64 1)]),(.s (.b true)),0),((.agg [(.i .i64 5),z0]),(.s (.b true)),1)] 2)),(a10,(.c [(.i .i64 3),(.i .i64 5),z0,z0,(.sl a1 0 2 2)])),(a11,(.c [(.i .i64 12),(.i .i64 1),z0,z0])),(a12,(.c [(.i .i64 12),(.i .i64 1)])),(a13,(.c [(.i .i64 5),z0,(.i .i64 7),(.i .i64 18907912675552290406400)])),(a14,(.c [(.i .i64 5),z0])),(a15,(.w .u64 4096 13 (W [(1,20217631504785668572160),(17,1128),(32,348449143727040986586495598010130648547331),(60,22836334671640035761734677516263237707370612359),(1024,713644263294995196836950787201201445746525186),(1040,10281),(1092,2819816866870904179904263735827288966795238165833871861896755451547822748666133888564439196669283341040499194276870564610060)] [(1097,18907912675552290406400)]))),(a16,(.cu (.sl a15 0 4096 4096))),(a17,(.c [(.p a16 0)])),(a18,(.c [(.p a8 0)])),(a19,(.mp [((.agg [(.i .i64 2),z0]),(.s (.i .i64 1024)),0),((.agg [(.i .i64 12),(.i .i64 1)]),(.s (.i .i64 1092)),1),((.agg [(.i .i64 5),z0]),(.s (.i .i64 1096)),2)] 3)),(a20,(.c [(.mp a19)])),(a21,(.c [(.b false)])),(a22,(.c [(.i .i64 3),(.i .i64 5),z0,z0,(.sl a1 0 2 2)])),(a23,(.c [(.i .i64 12),(.i .i64 1),z0,z0])),(a24,(.c [(.i .i64 5),z0,(.i .i64 7),(.i .i64 18907912675552290406400)])),(a27,(.c [(.i .i64 3),(.i .i64 5),z0,z0,(.sl a1 0 2 2)])),(a28,(.c [(.i .u16 0),(.i .u16 65535),(.i .u32 0)])),(a29,(.c (Zi 32))),(a30,(.c [(.p a16 0),(.p a28 0),(.p a29 0)])),(a31,(.c [(.p a16 0),(.p a28 0),(.p a29 0),z0])),(a32,(.c [(.p a16 0),(.p a31 0)]))] a33 1000000000 0
noncomputable def g1_0S : S := (.fn a12 [])
theorem g1_0 : runB (calM prog (nat) 60 g1_0S g1_0A g1_0H) g1_0V g1_0R = true := by decide +kernel
noncomputable def g1_1A : List V := [(.s (.p a32 0)),(.s (.i .i64 1)),(.s (.i .i64 23)),(.agg [(.i .u64 0),(.i .u64 0),(.i .u64 0),(.i .u64 0)]),(.s (.i .i64 2)),(.s z0)]
noncomputable def g1_1H : Hp := hset g1_0R [] a33 1000000000 0
noncomputable def g1_1V : V := (.s z0)
noncomputable def g1_1R : Hp := hset g1_1H [(a15,wB g1_1H a15 [(68,234898949),(69,18907912675552290406400),(70,4366533704),(1062,2),(1094,3932228),(1098,4456448)])] a33 1000000000 0
noncomputable def g1_1S : S := (.fn a21 [])
theorem g1_1 : runB (calM prog (nat) 60 g1_1S g1_1A g1_1H) g1_1V g1_1R = true := by decide +kernel
noncomputable def g1_2A : List V := [(.s (.p a32 0)),(.s (.i .i64 1)),(.s (.i .i64 25)),(.agg [(.i .u64 0),(.i .u64 0),(.i .u64 0),(.i .u64 0)]),(.s z0),(.s z0)]
noncomputable def g1_2H : Hp := hset g1_1R [] a33 0 32
noncomputable def g1_2V : V := (.s z0)
noncomputable def g1_2R : Hp := hset g1_2H [(a15,wB g1_2H a15 [(1062,0)]),(a28,(.c [(.i .u16 0),(.i .u16 65533),(.i .u32 0)]))] a33 0 32
noncomputable def g1_2S : S := (.fn a21 [])
theorem g1_2 : runB (calM prog (nat) 60 g1_2S g1_2A g1_2H) g1_2V g1_2R = true := by decide +kernel
noncomputable def g1_3A : List V := [(.s (.p a32 0)),(.s (.i .i64 5)),(.s (.sl a33 0 1 1))]
noncomputable def g1_3H : Hp := hset g1_2R [(a15,wB g1_2R a15 [(1120,2),(1121,18907912675552290406400)]),(a28,(.c [(.i .u16 2),(.i .u16 65535),(.i .u32 0)])),(a33,(.c [(.i .u64 2)]))] a34 0 32
noncomputable def g1_3V : V := (.s z0)
noncomputable def g1_3R : Hp := hset g1_3H [(a15,wB g1_3H a15 [(1056,18907912675552290406400),(1120,0),(1121,0)])] a34 0 32
noncomputable def g1_3S : S := (.fn a14 [])
theorem g1_3 : runB (calM prog (nat) 60 g1_3S g1_3A g1_3H) g1_3V g1_3R = true := by decide +kernel
noncomputable def g1_4A : List V := [(.s (.p a32 0)),(.s (.i .i64 5)),(.s (.sl a34 0 1 1))]
noncomputable def g1_4H : Hp := hset g1_3R [(a34,(.c [(.i .u64 2)]))] a35 0 32
noncomputable def g1_4V : V := (.s z0)
noncomputable def g1_4R : Hp := hset g1_4H [(a15,wB g1_4H a15 [(1056,0)])] a35 0 32
noncomputable def g1_4S : S := (.fn a14 [])
theorem g1_4 : runB (calM prog (nat) 60 g1_4S g1_4A g1_4H) g1_4V g1_4R = true := by decide +kernel
noncomputable def g1_5A : List V := [(.s (.p a32 0)),(.s (.i .i64 1)),(.s (.i .i64 25)),(.agg [(.i .u64 0),(.i .u64 0),(.i .u64 0),(.i .u64 0)]),(.s z0),(.s z0)]
noncomputable def g1_5H : Hp := hset g1_4R [] a33 0 32
noncomputable def g1_5V : V := (.s z0)
noncomputable def g1_5R : Hp := hset g1_5H [(a28,(.c [(.i .u16 0),(.i .u16 65533),(.i .u32 0)]))] a33 0 32
noncomputable def g1_5S : S := (.fn a21 [])
theorem g1_5 : runB (calM prog (nat) 60 g1_5S g1_5A g1_5H) g1_5V g1_5R = true := by decide +kernel
noncomputable def g1_6A : List V := [(.s (.p a16 0))]
noncomputable def g1_6H : Hp := hset g1_5R [(a28,(.c [(.i .u16 2),(.i .u16 65535),(.i .u32 0)]))] a33 0 32
noncomputable def g1_6V : V := (.s z0)
noncomputable def g1_6R : Hp := hset g1_6H [] a33 0 32
noncomputable def g1_6S : S := (.fn a24 [])
theorem g1_6 : runB (trimC (calM prog (nat) 60) g1_6S g1_6A g1_6H) g1_6V g1_6R = true := by decide +kernel
noncomputable def hs1_0 : Hp := hset g1_1R [] a33 0 32
noncomputable def hs1_1 : Hp := hset hs1_0 [(a15,wB hs1_0 a15 [(1062,0)]),(a28,(.c [(.i .u16 2),(.i .u16 65535),(.i .u32 0)]))] a33 0 32
noncomputable def S1 : List LS := [⟨[(a2,(.s (.i .i64 340282366920938463463374607431768211458))),(a7,(.s (.b true))),(a8,(.s (.i .i64 1))),(a9,(.s (.i .i64 18907912675552290406400))),(a11,(.s (.p a32 0))),(a13,(.s z0))], hs1_0⟩, ⟨[(a2,(.s (.i .i64 340282366920938463463374607431768211458))),(a7,(.s (.b true))),(a8,(.s (.i .i64 1))),(a9,(.s (.i .i64 18907912675552290406400))),(a11,(.s (.p a32 0))),(a13,(.s (.i .i64 1)))], hs1_1⟩, ⟨[(a2,(.s (.i .i64 340282366920938463463374607431768211458))),(a7,(.s (.b true))),(a8,(.s (.i .i64 1))),(a9,(.s (.i .i64 18907912675552290406400))),(a11,(.s (.p a32 0))),(a13,(.s (.i .i64 2)))], hs1_1⟩, ⟨[(a2,(.s (.i .i64 340282366920938463463374607431768211458))),(a7,(.s (.b true))),(a8,(.s (.i .i64 1))),(a9,(.s (.i .i64 18907912675552290406400))),(a11,(.s (.p a32 0))),(a13,(.s (.i .i64 3)))], hs1_1⟩, ⟨[(a2,(.s (.i .i64 340282366920938463463374607431768211458))),(a7,(.s (.b true))),(a8,(.s (.i .i64 1))),(a9,(.s (.i .i64 18907912675552290406400))),(a11,(.s (.p a32 0))),(a13,(.s (.i .i64 4)))], hs1_1⟩, ⟨[(a2,(.s (.i .i64 340282366920938463463374607431768211458))),(a7,(.s (.b true))),(a8,(.s (.i .i64 1))),(a9,(.s (.i .i64 18907912675552290406400))),(a11,(.s (.p a32 0))),(a13,(.s (.i .i64 5)))], hs1_1⟩, ⟨[(a2,(.s (.i .i64 340282366920938463463374607431768211458))),(a7,(.s (.b true))),(a8,(.s (.i .i64 1))),(a9,(.s (.i .i64 18907912675552290406400))),(a11,(.s (.p a32 0))),(a13,(.s (.i .i64 6)))], hs1_1⟩]
noncomputable def natL1 : Cal := orC (oraC (Pth.of 17) [.s (.i .i64 ((symN + 0 : Nat) : Int)), .s (.i .i64 (.ofNat 16))] (.s (.i .i64 (.ofNat 1)))) (orC (oraC (Pth.of 17) [.s (.i .i64 ((symN + 1 : Nat) : Int)), .s (.i .i64 (.ofNat 268435455))] (.s (.i .i64 (.ofNat 20088504296269701709824)))) (orC (oraC (Pth.of 17) [.s (.i .i64 ((symN + 2 : Nat) : Int)), .s (.i .i64 (.ofNat 6))] (.s (.i .i64 (.ofNat 114535833953662605983744)))) (orC (memS fa0S fa0A fa0H fa0V fa0R) (orC (memS g1_0S g1_0A g1_0H g1_0V g1_0R) (orC (memS g1_1S g1_1A g1_1H g1_1V g1_1R) (orC (memS g1_2S g1_2A g1_2H g1_2V g1_2R) (orC (memS g1_3S g1_3A g1_3H g1_3V g1_3R) (orC (memS g1_4S g1_4A g1_4H g1_4V g1_4R) (orC (memS g1_5S g1_5A g1_5H g1_5V g1_5R) (orC (memS g1_6S g1_6A g1_6H g1_6V g1_6R) (nat)))))))))))
theorem run1 : iniB (symA [.i64, .i64, .i64] 0) (exWs js9 (calM prog natL1 60) (kF (fr f9) (.s (.b true))) (fun _ => noB) fun t h => exW jI (calM prog natL1 60) t h (inL S1) (kF (fr f9) (.s (.b true))) fun _ => noB) (heap0 tabL) = true := by decide +kernel
theorem ver1 : verC jB (calM prog natL1 60) (kF (fr f9) (.s (.b true))) (kxZ 0 jZ (calM prog natL1 60) (kF (fr f9) (.s (.b true)))) [] S1 = true := by decide +kernel
end Go.E
