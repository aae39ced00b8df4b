/- A part of the proof of the claim that the last text of this folder states. -/
import Derived.Test.YtebgbhgehnpahaaGreatDoorL33
namespace Go.E
set_option linter.all false
set_option maxRecDepth 100000
noncomputable def g8_0A : List V := [(.agg [(.i .i64 12),(.sl a3 0 1 1),z0,(.i .i64 1),.ns])]
noncomputable def g8_0H : Hp := hmk [(a0,(.ro [(.i .u8 0),(.i .u8 1),(.i .u8 28),(.i .u8 2),(.i .u8 29),(.i .u8 14),(.i .u8 24),(.i .u8 3),(.i .u8 30),(.i .u8 22),(.i .u8 20),(.i .u8 15),(.i .u8 25),(.i .u8 17),(.i .u8 4),(.i .u8 8),(.i .u8 31),(.i .u8 27),(.i .u8 13),(.i .u8 23),(.i .u8 21),(.i .u8 19),(.i .u8 16),(.i .u8 7),(.i .u8 26),(.i .u8 12),(.i .u8 18),(.i .u8 6),(.i .u8 11),(.i .u8 5),(.i .u8 10),(.i .u8 9)])),(a1,(.c [(.i .i64 12),(.i .i64 8),z0,z0,(.i .i64 5),z0,(.i .i64 7),(.i .i64 18907912675552290406400)])),(a2,(.c [(.i .i64 3),(.i .i64 5),z0,z0,(.sl a1 0 2 2)])),(a3,(.c [(.i .i64 3),(.i .i64 5),z0,z0,(.sl a1 0 2 2)]))] a4 1000000000 0
noncomputable def g8_0V : V := (.s (.p a32 0))
noncomputable def g8_0R : Hp := hset g8_0H [(a4,(.c [(.i .i64 12),(.sl a3 0 1 1),z0,(.i .i64 1),.ns])),(a5,(.c [(.i .i64 12),(.sl a3 0 1 1),z0,(.i .i64 1),.ns])),(a6,(.c [(.i .i64 12),(.sl a3 0 1 1),z0,(.i .i64 1),.ns])),(a7,(.mp [((.agg [(.i .i64 3),z0]),(.s (.i .i64 1024)),0),((.agg [(.i .i64 2),z0]),(.s (.i .i64 1088)),1),((.agg [(.i .i64 5),z0]),(.s (.i .i64 1120)),2),((.agg [(.i .i64 7),z0]),(.s (.i .i64 1128)),3)] 4)),(a8,(.c [(.i .i64 12),(.sl a3 0 1 1),z0,(.i .i64 1),.ns,(.mp a7),(.i .i64 1136)])),(a9,(.mp [((.agg [(.i .i64 12),(.i .i64 8)]),(.s (.b true)),0),((.agg [(.i .i64 5),z0]),(.s (.b true)),1)] 2)),(a10,(.c [(.i .i64 3),(.i .i64 5),z0,z0,(.sl a1 0 2 2)])),(a11,(.c [(.i .i64 12),(.i .i64 8),z0,z0])),(a12,(.c [(.i .i64 12),(.i .i64 8)])),(a13,(.c [(.i .i64 5),z0,(.i .i64 7),(.i .i64 18907912675552290406400)])),(a14,(.c [(.i .i64 5),z0])),(a15,(.w .u64 4096 13 (W [(1,20217631504785668572160),(17,1128),(32,348449143727040986586495598010130648547331),(60,22836334671640035761734677516263237707370612359),(1024,713644263294995196836950787201201445746525186),(1040,10281),(1092,2819816866870904179904263735827288966795238165833871861896755451547822748666133888564439196669283341040499194276872443658252)] [(1097,18907912675552290406400)]))),(a16,(.cu (.sl a15 0 4096 4096))),(a17,(.c [(.p a16 0)])),(a18,(.c [(.p a8 0)])),(a19,(.mp [((.agg [(.i .i64 2),z0]),(.s (.i .i64 1024)),0),((.agg [(.i .i64 12),(.i .i64 8)]),(.s (.i .i64 1092)),1),((.agg [(.i .i64 5),z0]),(.s (.i .i64 1096)),2)] 3)),(a20,(.c [(.mp a19)])),(a21,(.c [(.b false)])),(a22,(.c [(.i .i64 3),(.i .i64 5),z0,z0,(.sl a1 0 2 2)])),(a23,(.c [(.i .i64 12),(.i .i64 8),z0,z0])),(a24,(.c [(.i .i64 5),z0,(.i .i64 7),(.i .i64 18907912675552290406400)])),(a27,(.c [(.i .i64 3),(.i .i64 5),z0,z0,(.sl a1 0 2 2)])),(a28,(.c [(.i .u16 0),(.i .u16 65535),(.i .u32 0)])),(a29,(.c (Zi 32))),(a30,(.c [(.p a16 0),(.p a28 0),(.p a29 0)])),(a31,(.c [(.p a16 0),(.p a28 0),(.p a29 0),z0])),(a32,(.c [(.p a16 0),(.p a31 0)]))] a33 1000000000 0
noncomputable def g8_0S : S := (.fn a12 [])
theorem g8_0 : runB (calM prog (nat) 60 g8_0S g8_0A g8_0H) g8_0V g8_0R = true := by decide +kernel
noncomputable def g8_1A : List V := [(.s (.p a32 0)),(.s (.i .i64 1)),(.s (.i .i64 23)),(.agg [(.i .u64 0),(.i .u64 0),(.i .u64 0),(.i .u64 0)]),(.s (.i .i64 2)),(.s z0)]
noncomputable def g8_1H : Hp := hset g8_0R [] a33 1000000000 0
noncomputable def g8_1V : V := (.s z0)
noncomputable def g8_1R : Hp := hset g8_1H [(a15,wB g8_1H a15 [(96,234898949),(97,18907912675552290406400),(98,4366533704),(1062,2),(1094,3932256),(1098,6291456)])] a33 1000000000 0
noncomputable def g8_1S : S := (.fn a21 [])
theorem g8_1 : runB (calM prog (nat) 60 g8_1S g8_1A g8_1H) g8_1V g8_1R = true := by decide +kernel
noncomputable def g8_2A : List V := [(.s (.p a32 0)),(.s (.i .i64 1)),(.s (.i .i64 25)),(.agg [(.i .u64 0),(.i .u64 0),(.i .u64 0),(.i .u64 0)]),(.s z0),(.s z0)]
noncomputable def g8_2H : Hp := hset g8_1R [] a33 0 32
noncomputable def g8_2V : V := (.s z0)
noncomputable def g8_2R : Hp := hset g8_2H [(a15,wB g8_2H a15 [(1062,0)]),(a28,(.c [(.i .u16 0),(.i .u16 65279),(.i .u32 0)]))] a33 0 32
noncomputable def g8_2S : S := (.fn a21 [])
theorem g8_2 : runB (calM prog (nat) 60 g8_2S g8_2A g8_2H) g8_2V g8_2R = true := by decide +kernel
noncomputable def g8_3A : List V := [(.s (.p a32 0)),(.s (.i .i64 5)),(.s (.sl a33 0 1 1))]
noncomputable def g8_3H : Hp := hset g8_2R [(a15,wB g8_2R a15 [(1120,2),(1121,18907912675552290406400)]),(a28,(.c [(.i .u16 256),(.i .u16 65535),(.i .u32 0)])),(a33,(.c [(.i .u64 2)]))] a34 0 32
noncomputable def g8_3V : V := (.s z0)
noncomputable def g8_3R : Hp := hset g8_3H [(a15,wB g8_3H a15 [(1056,18907912675552290406400),(1120,0),(1121,0)])] a34 0 32
noncomputable def g8_3S : S := (.fn a14 [])
theorem g8_3 : runB (calM prog (nat) 60 g8_3S g8_3A g8_3H) g8_3V g8_3R = true := by decide +kernel
noncomputable def g8_4A : List V := [(.s (.p a32 0)),(.s (.i .i64 5)),(.s (.sl a34 0 1 1))]
noncomputable def g8_4H : Hp := hset g8_3R [(a34,(.c [(.i .u64 2)]))] a35 0 32
noncomputable def g8_4V : V := (.s z0)
noncomputable def g8_4R : Hp := hset g8_4H [(a15,wB g8_4H a15 [(1056,0)])] a35 0 32
noncomputable def g8_4S : S := (.fn a14 [])
theorem g8_4 : runB (calM prog (nat) 60 g8_4S g8_4A g8_4H) g8_4V g8_4R = true := by decide +kernel
noncomputable def g8_5A : List V := [(.s (.p a32 0)),(.s (.i .i64 1)),(.s (.i .i64 25)),(.agg [(.i .u64 0),(.i .u64 0),(.i .u64 0),(.i .u64 0)]),(.s z0),(.s z0)]
noncomputable def g8_5H : Hp := hset g8_4R [] a33 0 32
noncomputable def g8_5V : V := (.s z0)
noncomputable def g8_5R : Hp := hset g8_5H [(a28,(.c [(.i .u16 0),(.i .u16 65279),(.i .u32 0)]))] a33 0 32
noncomputable def g8_5S : S := (.fn a21 [])
theorem g8_5 : runB (calM prog (nat) 60 g8_5S g8_5A g8_5H) g8_5V g8_5R = true := by decide +kernel
noncomputable def g8_6A : List V := [(.s (.p a16 0))]
noncomputable def g8_6H : Hp := hset g8_5R [(a28,(.c [(.i .u16 256),(.i .u16 65535),(.i .u32 0)]))] a33 0 32
noncomputable def g8_6V : V := (.s z0)
noncomputable def g8_6R : Hp := hset g8_6H [] a33 0 32
noncomputable def g8_6S : S := (.fn a24 [])
theorem g8_6 : runB (trimC (calM prog (nat) 60) g8_6S g8_6A g8_6H) g8_6V g8_6R = true := by decide +kernel
noncomputable def hs8_0 : Hp := hset g8_1R [] a33 0 32
noncomputable def hs8_1 : Hp := hset hs8_0 [(a15,wB hs8_0 a15 [(1062,0)]),(a28,(.c [(.i .u16 256),(.i .u16 65535),(.i .u32 0)]))] a33 0 32
noncomputable def S8 : List LS := [⟨[(a2,(.s (.i .i64 340282366920938463463374607431768211458))),(a7,(.s (.b true))),(a8,(.s (.i .i64 8))),(a9,(.s (.i .i64 18907912675552290406400))),(a11,(.s (.p a32 0))),(a13,(.s z0))], hs8_0⟩, ⟨[(a2,(.s (.i .i64 340282366920938463463374607431768211458))),(a7,(.s (.b true))),(a8,(.s (.i .i64 8))),(a9,(.s (.i .i64 18907912675552290406400))),(a11,(.s (.p a32 0))),(a13,(.s (.i .i64 1)))], hs8_1⟩, ⟨[(a2,(.s (.i .i64 340282366920938463463374607431768211458))),(a7,(.s (.b true))),(a8,(.s (.i .i64 8))),(a9,(.s (.i .i64 18907912675552290406400))),(a11,(.s (.p a32 0))),(a13,(.s (.i .i64 2)))], hs8_1⟩, ⟨[(a2,(.s (.i .i64 340282366920938463463374607431768211458))),(a7,(.s (.b true))),(a8,(.s (.i .i64 8))),(a9,(.s (.i .i64 18907912675552290406400))),(a11,(.s (.p a32 0))),(a13,(.s (.i .i64 3)))], hs8_1⟩, ⟨[(a2,(.s (.i .i64 340282366920938463463374607431768211458))),(a7,(.s (.b true))),(a8,(.s (.i .i64 8))),(a9,(.s (.i .i64 18907912675552290406400))),(a11,(.s (.p a32 0))),(a13,(.s (.i .i64 4)))], hs8_1⟩, ⟨[(a2,(.s (.i .i64 340282366920938463463374607431768211458))),(a7,(.s (.b true))),(a8,(.s (.i .i64 8))),(a9,(.s (.i .i64 18907912675552290406400))),(a11,(.s (.p a32 0))),(a13,(.s (.i .i64 5)))], hs8_1⟩, ⟨[(a2,(.s (.i .i64 340282366920938463463374607431768211458))),(a7,(.s (.b true))),(a8,(.s (.i .i64 8))),(a9,(.s (.i .i64 18907912675552290406400))),(a11,(.s (.p a32 0))),(a13,(.s (.i .i64 6)))], hs8_1⟩]
noncomputable def natL8 : Cal := orC (oraC (Pth.of 17) [.s (.i .i64 ((symN + 0 : Nat) : Int)), .s (.i .i64 (.ofNat 16))] (.s (.i .i64 (.ofNat 8)))) (orC (oraC (Pth.of 17) [.s (.i .i64 ((symN + 1 : Nat) : Int)), .s (.i .i64 (.ofNat 268435455))] (.s (.i .i64 (.ofNat 20088504296269701709824)))) (orC (oraC (Pth.of 17) [.s (.i .i64 ((symN + 2 : Nat) : Int)), .s (.i .i64 (.ofNat 6))] (.s (.i .i64 (.ofNat 114535833953662605983744)))) (orC (memS fa0S fa0A fa0H fa0V fa0R) (orC (memS g8_0S g8_0A g8_0H g8_0V g8_0R) (orC (memS g8_1S g8_1A g8_1H g8_1V g8_1R) (orC (memS g8_2S g8_2A g8_2H g8_2V g8_2R) (orC (memS g8_3S g8_3A g8_3H g8_3V g8_3R) (orC (memS g8_4S g8_4A g8_4H g8_4V g8_4R) (orC (memS g8_5S g8_5A g8_5H g8_5V g8_5R) (orC (memS g8_6S g8_6A g8_6H g8_6V g8_6R) (nat)))))))))))
theorem run8 : iniB (symA [.i64, .i64, .i64] 0) (exWs js9 (calM prog natL8 60) (kF (fr f9) (.s (.b true))) (fun _ => noB) fun t h => exW jI (calM prog natL8 60) t h (inL S8) (kF (fr f9) (.s (.b true))) fun _ => noB) (heap0 tabL) = true := by decide +kernel
theorem ver8 : verC jB (calM prog natL8 60) (kF (fr f9) (.s (.b true))) (kxZ 0 jZ (calM prog natL8 60) (kF (fr f9) (.s (.b true)))) [] S8 = true := by decide +kernel
noncomputable def g9_0A : List V := [(.agg [(.i .i64 12),(.sl a3 0 1 1),z0,(.i .i64 1),.ns])]
noncomputable def g9_0H : Hp := hmk [(a0,(.ro [(.i .u8 0),(.i .u8 1),(.i .u8 28),(.i .u8 2),(.i .u8 29),(.i .u8 14),(.i .u8 24),(.i .u8 3),(.i .u8 30),(.i .u8 22),(.i .u8 20),(.i .u8 15),(.i .u8 25),(.i .u8 17),(.i .u8 4),(.i .u8 8),(.i .u8 31),(.i .u8 27),(.i .u8 13),(.i .u8 23),(.i .u8 21),(.i .u8 19),(.i .u8 16),(.i .u8 7),(.i .u8 26),(.i .u8 12),(.i .u8 18),(.i .u8 6),(.i .u8 11),(.i .u8 5),(.i .u8 10),(.i .u8 9)])),(a1,(.c [(.i .i64 12),(.i .i64 9),z0,z0,(.i .i64 5),z0,(.i .i64 7),(.i .i64 18907912675552290406400)])),(a2,(.c [(.i .i64 3),(.i .i64 5),z0,z0,(.sl a1 0 2 2)])),(a3,(.c [(.i .i64 3),(.i .i64 5),z0,z0,(.sl a1 0 2 2)]))] a4 1000000000 0
noncomputable def g9_0V : V := (.s (.p a32 0))
noncomputable def g9_0R : Hp := hset g9_0H [(a4,(.c [(.i .i64 12),(.sl a3 0 1 1),z0,(.i .i64 1),.ns])),(a5,(.c [(.i .i64 12),(.sl a3 0 1 1),z0,(.i .i64 1),.ns])),(a6,(.c [(.i .i64 12),(.sl a3 0 1 1),z0,(.i .i64 1),.ns])),(a7,(.mp [((.agg [(.i .i64 3),z0]),(.s (.i .i64 1024)),0),((.agg [(.i .i64 2),z0]),(.s (.i .i64 1088)),1),((.agg [(.i .i64 5),z0]),(.s (.i .i64 1120)),2),((.agg [(.i .i64 7),z0]),(.s (.i .i64 1128)),3)] 4)),(a8,(.c [(.i .i64 12),(.sl a3 0 1 1),z0,(.i .i64 1),.ns,(.mp a7),(.i .i64 1136)])),(a9,(.mp [((.agg [(.i .i64 12),(.i .i64 9)]),(.s (.b true)),0),((.agg [(.i .i64 5),z0]),(.s (.b true)),1)] 2)),(a10,(.c [(.i .i64 3),(.i .i64 5),z0,z0,(.sl a1 0 2 2)])),(a11,(.c [(.i .i64 12),(.i .i64 9),z0,z0])),(a12,(.c [(.i .i64 12),(.i .i64 9)])),(a13,(.c [(.i .i64 5),z0,(.i .i64 7),(.i .i64 18907912675552290406400)])),(a14,(.c [(.i .i64 5),z0])),(a15,(.w .u64 4096 13 (W [(1,20217631504785668572160),(17,1128),(32,348449143727040986586495598010130648547331),(60,22836334671640035761734677516263237707370612359),(1024,713644263294995196836950787201201445746525186),(1040,10281),(1092,2819816866870904179904263735827288966795238165833871861896755451547822748666133888564439196669283341040499194276872712093708)] [(1097,18907912675552290406400)]))),(a16,(.cu (.sl a15 0 4096 4096))),(a17,(.c [(.p a16 0)])),(a18,(.c [(.p a8 0)])),(a19,(.mp [((.agg [(.i .i64 2),z0]),(.s (.i .i64 1024)),0),((.agg [(.i .i64 12),(.i .i64 9)]),(.s (.i .i64 1092)),1),((.agg [(.i .i64 5),z0]),(.s (.i .i64 1096)),2)] 3)),(a20,(.c [(.mp a19)])),(a21,(.c [(.b false)])),(a22,(.c [(.i .i64 3),(.i .i64 5),z0,z0,(.sl a1 0 2 2)])),(a23,(.c [(.i .i64 12),(.i .i64 9),z0,z0])),(a24,(.c [(.i .i64 5),z0,(.i .i64 7),(.i .i64 18907912675552290406400)])),(a27,(.c [(.i .i64 3),(.i .i64 5),z0,z0,(.sl a1 0 2 2)])),(a28,(.c [(.i .u16 0),(.i .u16 65535),(.i .u32 0)])),(a29,(.c (Zi 32))),(a30,(.c [(.p a16 0),(.p a28 0),(.p a29 0)])),(a31,(.c [(.p a16 0),(.p a28 0),(.p a29 0),z0])),(a32,(.c [(.p a16 0),(.p a31 0)]))] a33 1000000000 0
noncomputable def g9_0S : S := (.fn a12 [])
theorem g9_0 : runB (calM prog (nat) 60 g9_0S g9_0A g9_0H) g9_0V g9_0R = true := by decide +kernel
noncomputable def g9_1A : List V := [(.s (.p a32 0)),(.s (.i .i64 1)),(.s (.i .i64 23)),(.agg [(.i .u64 0),(.i .u64 0),(.i .u64 0),(.i .u64 0)]),(.s (.i .i64 2)),(.s z0)]
noncomputable def g9_1H : Hp := hset g9_0R [] a33 1000000000 0
noncomputable def g9_1V : V := (.s z0)
noncomputable def g9_1R : Hp := hset g9_1H [(a15,wB g9_1H a15 [(100,234898949),(101,18907912675552290406400),(102,4366533704),(1062,2),(1094,3932260),(1098,6553600)])] a33 1000000000 0
noncomputable def g9_1S : S := (.fn a21 [])
theorem g9_1 : runB (calM prog (nat) 60 g9_1S g9_1A g9_1H) g9_1V g9_1R = true := by decide +kernel
noncomputable def g9_2A : List V := [(.s (.p a32 0)),(.s (.i .i64 1)),(.s (.i .i64 25)),(.agg [(.i .u64 0),(.i .u64 0),(.i .u64 0),(.i .u64 0)]),(.s z0),(.s z0)]
noncomputable def g9_2H : Hp := hset g9_1R [] a33 0 32
noncomputable def g9_2V : V := (.s z0)
noncomputable def g9_2R : Hp := hset g9_2H [(a15,wB g9_2H a15 [(1062,0)]),(a28,(.c [(.i .u16 0),(.i .u16 65023),(.i .u32 0)]))] a33 0 32
noncomputable def g9_2S : S := (.fn a21 [])
theorem g9_2 : runB (calM prog (nat) 60 g9_2S g9_2A g9_2H) g9_2V g9_2R = true := by decide +kernel
noncomputable def g9_3A : List V := [(.s (.p a32 0)),(.s (.i .i64 5)),(.s (.sl a33 0 1 1))]
noncomputable def g9_3H : Hp := hset g9_2R [(a15,wB g9_2R a15 [(1120,2),(1121,18907912675552290406400)]),(a28,(.c [(.i .u16 512),(.i .u16 65535),(.i .u32 0)])),(a33,(.c [(.i .u64 2)]))] a34 0 32
noncomputable def g9_3V : V := (.s z0)
noncomputable def g9_3R : Hp := hset g9_3H [(a15,wB g9_3H a15 [(1056,18907912675552290406400),(1120,0),(1121,0)])] a34 0 32
noncomputable def g9_3S : S := (.fn a14 [])
theorem g9_3 : runB (calM prog (nat) 60 g9_3S g9_3A g9_3H) g9_3V g9_3R = true := by decide +kernel
noncomputable def g9_4A : List V := [(.s (.p a32 0)),(.s (.i .i64 5)),(.s (.sl a34 0 1 1))]
noncomputable def g9_4H : Hp := hset g9_3R [(a34,(.c [(.i .u64 2)]))] a35 0 32
noncomputable def g9_4V : V := (.s z0)
noncomputable def g9_4R : Hp := hset g9_4H [(a15,wB g9_4H a15 [(1056,0)])] a35 0 32
noncomputable def g9_4S : S := (.fn a14 [])
theorem g9_4 : runB (calM prog (nat) 60 g9_4S g9_4A g9_4H) g9_4V g9_4R = true := by decide +kernel
noncomputable def g9_5A : List V := [(.s (.p a32 0)),(.s (.i .i64 1)),(.s (.i .i64 25)),(.agg [(.i .u64 0),(.i .u64 0),(.i .u64 0),(.i .u64 0)]),(.s z0),(.s z0)]
noncomputable def g9_5H : Hp := hset g9_4R [] a33 0 32
noncomputable def g9_5V : V := (.s z0)
noncomputable def g9_5R : Hp := hset g9_5H [(a28,(.c [(.i .u16 0),(.i .u16 65023),(.i .u32 0)]))] a33 0 32
noncomputable def g9_5S : S := (.fn a21 [])
theorem g9_5 : runB (calM prog (nat) 60 g9_5S g9_5A g9_5H) g9_5V g9_5R = true := by decide +kernel
noncomputable def g9_6A : List V := [(.s (.p a16 0))]
noncomputable def g9_6H : Hp := hset g9_5R [(a28,(.c [(.i .u16 512),(.i .u16 65535),(.i .u32 0)]))] a33 0 32
noncomputable def g9_6V : V := (.s z0)
noncomputable def g9_6R : Hp := hset g9_6H [] a33 0 32
noncomputable def g9_6S : S := (.fn a24 [])
theorem g9_6 : runB (trimC (calM prog (nat) 60) g9_6S g9_6A g9_6H) g9_6V g9_6R = true := by decide +kernel
noncomputable def hs9_0 : Hp := hset g9_1R [] a33 0 32
noncomputable def hs9_1 : Hp := hset hs9_0 [(a15,wB hs9_0 a15 [(1062,0)]),(a28,(.c [(.i .u16 512),(.i .u16 65535),(.i .u32 0)]))] a33 0 32
noncomputable def S9 : List LS := [⟨[(a2,(.s (.i .i64 340282366920938463463374607431768211458))),(a7,(.s (.b true))),(a8,(.s (.i .i64 9))),(a9,(.s (.i .i64 18907912675552290406400))),(a11,(.s (.p a32 0))),(a13,(.s z0))], hs9_0⟩, ⟨[(a2,(.s (.i .i64 340282366920938463463374607431768211458))),(a7,(.s (.b true))),(a8,(.s (.i .i64 9))),(a9,(.s (.i .i64 18907912675552290406400))),(a11,(.s (.p a32 0))),(a13,(.s (.i .i64 1)))], hs9_1⟩, ⟨[(a2,(.s (.i .i64 340282366920938463463374607431768211458))),(a7,(.s (.b true))),(a8,(.s (.i .i64 9))),(a9,(.s (.i .i64 18907912675552290406400))),(a11,(.s (.p a32 0))),(a13,(.s (.i .i64 2)))], hs9_1⟩, ⟨[(a2,(.s (.i .i64 340282366920938463463374607431768211458))),(a7,(.s (.b true))),(a8,(.s (.i .i64 9))),(a9,(.s (.i .i64 18907912675552290406400))),(a11,(.s (.p a32 0))),(a13,(.s (.i .i64 3)))], hs9_1⟩, ⟨[(a2,(.s (.i .i64 340282366920938463463374607431768211458))),(a7,(.s (.b true))),(a8,(.s (.i .i64 9))),(a9,(.s (.i .i64 18907912675552290406400))),(a11,(.s (.p a32 0))),(a13,(.s (.i .i64 4)))], hs9_1⟩, ⟨[(a2,(.s (.i .i64 340282366920938463463374607431768211458))),(a7,(.s (.b true))),(a8,(.s (.i .i64 9))),(a9,(.s (.i .i64 18907912675552290406400))),(a11,(.s (.p a32 0))),(a13,(.s (.i .i64 5)))], hs9_1⟩, ⟨[(a2,(.s (.i .i64 340282366920938463463374607431768211458))),(a7,(.s (.b true))),(a8,(.s (.i .i64 9))),(a9,(.s (.i .i64 18907912675552290406400))),(a11,(.s (.p a32 0))),(a13,(.s (.i .i64 6)))], hs9_1⟩]
noncomputable def natL9 : Cal := orC (oraC (Pth.of 17) [.s (.i .i64 ((symN + 0 : Nat) : Int)), .s (.i .i64 (.ofNat 16))] (.s (.i .i64 (.ofNat 9)))) (orC (oraC (Pth.of 17) [.s (.i .i64 ((symN + 1 : Nat) : Int)), .s (.i .i64 (.ofNat 268435455))] (.s (.i .i64 (.ofNat 20088504296269701709824)))) (orC (oraC (Pth.of 17) [.s (.i .i64 ((symN + 2 : Nat) : Int)), .s (.i .i64 (.ofNat 6))] (.s (.i .i64 (.ofNat 114535833953662605983744)))) (orC (memS fa0S fa0A fa0H fa0V fa0R) (orC (memS g9_0S g9_0A g9_0H g9_0V g9_0R) (orC (memS g9_1S g9_1A g9_1H g9_1V g9_1R) (orC (memS g9_2S g9_2A g9_2H g9_2V g9_2R) (orC (memS g9_3S g9_3A g9_3H g9_3V g9_3R) (orC (memS g9_4S g9_4A g9_4H g9_4V g9_4R) (orC (memS g9_5S g9_5A g9_5H g9_5V g9_5R) (orC (memS g9_6S g9_6A g9_6H g9_6V g9_6R) (nat)))))))))))
theorem run9 : iniB (symA [.i64, .i64, .i64] 0) (exWs js9 (calM prog natL9 60) (kF (fr f9) (.s (.b true))) (fun _ => noB) fun t h => exW jI (calM prog natL9 60) t h (inL S9) (kF (fr f9) (.s (.b true))) fun _ => noB) (heap0 tabL) = true := by decide +kernel
theorem ver9 : verC jB (calM prog natL9 60) (kF (fr f9) (.s (.b true))) (kxZ 0 jZ (calM prog natL9 60) (kF (fr f9) (.s (.b true)))) [] S9 = true := by decide +kernel
end Go.E
