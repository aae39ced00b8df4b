/- A part of the proof of the claim that the last text of this folder states. -/
import Derived.Test.YtebgbhgehnpahaaGreatDoorL33
namespace Go.E
set_option linter.all false
set_option maxRecDepth 100000
noncomputable def g10_0A : List V := [(.agg [(.i .i64 12),(.sl a3 0 1 1),z0,(.i .i64 1),.ns])]
noncomputable def g10_0H : Hp := hmk [(a0,(.ro [(.i .u8 0),(.i .u8 1),(.i .u8 28),(.i .u8 2),(.i .u8 29),(.i .u8 14),(.i .u8 24),(.i .u8 3),(.i .u8 30),(.i .u8 22),(.i .u8 20),(.i .u8 15),(.i .u8 25),(.i .u8 17),(.i .u8 4),(.i .u8 8),(.i .u8 31),(.i .u8 27),(.i .u8 13),(.i .u8 23),(.i .u8 21),(.i .u8 19),(.i .u8 16),(.i .u8 7),(.i .u8 26),(.i .u8 12),(.i .u8 18),(.i .u8 6),(.i .u8 11),(.i .u8 5),(.i .u8 10),(.i .u8 9)])),(a1,(.c [(.i .i64 12),(.i .i64 10),z0,z0,(.i .i64 5),z0,(.i .i64 7),(.i .i64 18907912675552290406400)])),(a2,(.c [(.i .i64 3),(.i .i64 5),z0,z0,(.sl a1 0 2 2)])),(a3,(.c [(.i .i64 3),(.i .i64 5),z0,z0,(.sl a1 0 2 2)]))] a4 1000000000 0
noncomputable def g10_0V : V := (.s (.p a32 0))
noncomputable def g10_0R : Hp := hset g10_0H [(a4,(.c [(.i .i64 12),(.sl a3 0 1 1),z0,(.i .i64 1),.ns])),(a5,(.c [(.i .i64 12),(.sl a3 0 1 1),z0,(.i .i64 1),.ns])),(a6,(.c [(.i .i64 12),(.sl a3 0 1 1),z0,(.i .i64 1),.ns])),(a7,(.mp [((.agg [(.i .i64 3),z0]),(.s (.i .i64 1024)),0),((.agg [(.i .i64 2),z0]),(.s (.i .i64 1088)),1),((.agg [(.i .i64 5),z0]),(.s (.i .i64 1120)),2),((.agg [(.i .i64 7),z0]),(.s (.i .i64 1128)),3)] 4)),(a8,(.c [(.i .i64 12),(.sl a3 0 1 1),z0,(.i .i64 1),.ns,(.mp a7),(.i .i64 1136)])),(a9,(.mp [((.agg [(.i .i64 12),(.i .i64 10)]),(.s (.b true)),0),((.agg [(.i .i64 5),z0]),(.s (.b true)),1)] 2)),(a10,(.c [(.i .i64 3),(.i .i64 5),z0,z0,(.sl a1 0 2 2)])),(a11,(.c [(.i .i64 12),(.i .i64 10),z0,z0])),(a12,(.c [(.i .i64 12),(.i .i64 10)])),(a13,(.c [(.i .i64 5),z0,(.i .i64 7),(.i .i64 18907912675552290406400)])),(a14,(.c [(.i .i64 5),z0])),(a15,(.w .u64 4096 13 (W [(1,20217631504785668572160),(17,1128),(32,348449143727040986586495598010130648547331),(60,22836334671640035761734677516263237707370612359),(1024,713644263294995196836950787201201445746525186),(1040,10281),(1092,2819816866870904179904263735827288966795238165833871861896755451547822748666133888564439196669283341040499194276872980529164)] [(1097,18907912675552290406400)]))),(a16,(.cu (.sl a15 0 4096 4096))),(a17,(.c [(.p a16 0)])),(a18,(.c [(.p a8 0)])),(a19,(.mp [((.agg [(.i .i64 2),z0]),(.s (.i .i64 1024)),0),((.agg [(.i .i64 12),(.i .i64 10)]),(.s (.i .i64 1092)),1),((.agg [(.i .i64 5),z0]),(.s (.i .i64 1096)),2)] 3)),(a20,(.c [(.mp a19)])),(a21,(.c [(.b false)])),(a22,(.c [(.i .i64 3),(.i .i64 5),z0,z0,(.sl a1 0 2 2)])),(a23,(.c [(.i .i64 12),(.i .i64 10),z0,z0])),(a24,(.c [(.i .i64 5),z0,(.i .i64 7),(.i .i64 18907912675552290406400)])),(a27,(.c [(.i .i64 3),(.i .i64 5),z0,z0,(.sl a1 0 2 2)])),(a28,(.c [(.i .u16 0),(.i .u16 65535),(.i .u32 0)])),(a29,(.c (Zi 32))),(a30,(.c [(.p a16 0),(.p a28 0),(.p a29 0)])),(a31,(.c [(.p a16 0),(.p a28 0),(.p a29 0),z0])),(a32,(.c [(.p a16 0),(.p a31 0)]))] a33 1000000000 0
noncomputable def g10_0S : S := (.fn a12 [])
theorem g10_0 : runB (calM prog (nat) 60 g10_0S g10_0A g10_0H) g10_0V g10_0R = true := by decide +kernel
noncomputable def g10_1A : List V := [(.s (.p a32 0)),(.s (.i .i64 1)),(.s (.i .i64 23)),(.agg [(.i .u64 0),(.i .u64 0),(.i .u64 0),(.i .u64 0)]),(.s (.i .i64 2)),(.s z0)]
noncomputable def g10_1H : Hp := hset g10_0R [] a33 1000000000 0
noncomputable def g10_1V : V := (.s z0)
noncomputable def g10_1R : Hp := hset g10_1H [(a15,wB g10_1H a15 [(104,234898949),(105,18907912675552290406400),(106,4366533704),(1062,2),(1094,3932264),(1098,6815744)])] a33 1000000000 0
noncomputable def g10_1S : S := (.fn a21 [])
theorem g10_1 : runB (calM prog (nat) 60 g10_1S g10_1A g10_1H) g10_1V g10_1R = true := by decide +kernel
noncomputable def g10_2A : List V := [(.s (.p a32 0)),(.s (.i .i64 1)),(.s (.i .i64 25)),(.agg [(.i .u64 0),(.i .u64 0),(.i .u64 0),(.i .u64 0)]),(.s z0),(.s z0)]
noncomputable def g10_2H : Hp := hset g10_1R [] a33 0 32
noncomputable def g10_2V : V := (.s z0)
noncomputable def g10_2R : Hp := hset g10_2H [(a15,wB g10_2H a15 [(1062,0)]),(a28,(.c [(.i .u16 0),(.i .u16 64511),(.i .u32 0)]))] a33 0 32
noncomputable def g10_2S : S := (.fn a21 [])
theorem g10_2 : runB (calM prog (nat) 60 g10_2S g10_2A g10_2H) g10_2V g10_2R = true := by decide +kernel
noncomputable def g10_3A : List V := [(.s (.p a32 0)),(.s (.i .i64 5)),(.s (.sl a33 0 1 1))]
noncomputable def g10_3H : Hp := hset g10_2R [(a15,wB g10_2R a15 [(1120,2),(1121,18907912675552290406400)]),(a28,(.c [(.i .u16 1024),(.i .u16 65535),(.i .u32 0)])),(a33,(.c [(.i .u64 2)]))] a34 0 32
noncomputable def g10_3V : V := (.s z0)
noncomputable def g10_3R : Hp := hset g10_3H [(a15,wB g10_3H a15 [(1056,18907912675552290406400),(1120,0),(1121,0)])] a34 0 32
noncomputable def g10_3S : S := (.fn a14 [])
theorem g10_3 : runB (calM prog (nat) 60 g10_3S g10_3A g10_3H) g10_3V g10_3R = true := by decide +kernel
noncomputable def g10_4A : List V := [(.s (.p a32 0)),(.s (.i .i64 5)),(.s (.sl a34 0 1 1))]
noncomputable def g10_4H : Hp := hset g10_3R [(a34,(.c [(.i .u64 2)]))] a35 0 32
noncomputable def g10_4V : V := (.s z0)
noncomputable def g10_4R : Hp := hset g10_4H [(a15,wB g10_4H a15 [(1056,0)])] a35 0 32
noncomputable def g10_4S : S := (.fn a14 [])
theorem g10_4 : runB (calM prog (nat) 60 g10_4S g10_4A g10_4H) g10_4V g10_4R = true := by decide +kernel
noncomputable def g10_5A : List V := [(.s (.p a32 0)),(.s (.i .i64 1)),(.s (.i .i64 25)),(.agg [(.i .u64 0),(.i .u64 0),(.i .u64 0),(.i .u64 0)]),(.s z0),(.s z0)]
noncomputable def g10_5H : Hp := hset g10_4R [] a33 0 32
noncomputable def g10_5V : V := (.s z0)
noncomputable def g10_5R : Hp := hset g10_5H [(a28,(.c [(.i .u16 0),(.i .u16 64511),(.i .u32 0)]))] a33 0 32
noncomputable def g10_5S : S := (.fn a21 [])
theorem g10_5 : runB (calM prog (nat) 60 g10_5S g10_5A g10_5H) g10_5V g10_5R = true := by decide +kernel
noncomputable def g10_6A : List V := [(.s (.p a16 0))]
noncomputable def g10_6H : Hp := hset g10_5R [(a28,(.c [(.i .u16 1024),(.i .u16 65535),(.i .u32 0)]))] a33 0 32
noncomputable def g10_6V : V := (.s z0)
noncomputable def g10_6R : Hp := hset g10_6H [] a33 0 32
noncomputable def g10_6S : S := (.fn a24 [])
theorem g10_6 : runB (trimC (calM prog (nat) 60) g10_6S g10_6A g10_6H) g10_6V g10_6R = true := by decide +kernel
noncomputable def hs10_0 : Hp := hset g10_1R [] a33 0 32
noncomputable def hs10_1 : Hp := hset hs10_0 [(a15,wB hs10_0 a15 [(1062,0)]),(a28,(.c [(.i .u16 1024),(.i .u16 65535),(.i .u32 0)]))] a33 0 32
noncomputable def S10 : List LS := [⟨[(a2,(.s (.i .i64 340282366920938463463374607431768211458))),(a7,(.s (.b true))),(a8,(.s (.i .i64 10))),(a9,(.s (.i .i64 18907912675552290406400))),(a11,(.s (.p a32 0))),(a13,(.s z0))], hs10_0⟩, ⟨[(a2,(.s (.i .i64 340282366920938463463374607431768211458))),(a7,(.s (.b true))),(a8,(.s (.i .i64 10))),(a9,(.s (.i .i64 18907912675552290406400))),(a11,(.s (.p a32 0))),(a13,(.s (.i .i64 1)))], hs10_1⟩, ⟨[(a2,(.s (.i .i64 340282366920938463463374607431768211458))),(a7,(.s (.b true))),(a8,(.s (.i .i64 10))),(a9,(.s (.i .i64 18907912675552290406400))),(a11,(.s (.p a32 0))),(a13,(.s (.i .i64 2)))], hs10_1⟩, ⟨[(a2,(.s (.i .i64 340282366920938463463374607431768211458))),(a7,(.s (.b true))),(a8,(.s (.i .i64 10))),(a9,(.s (.i .i64 18907912675552290406400))),(a11,(.s (.p a32 0))),(a13,(.s (.i .i64 3)))], hs10_1⟩, ⟨[(a2,(.s (.i .i64 340282366920938463463374607431768211458))),(a7,(.s (.b true))),(a8,(.s (.i .i64 10))),(a9,(.s (.i .i64 18907912675552290406400))),(a11,(.s (.p a32 0))),(a13,(.s (.i .i64 4)))], hs10_1⟩, ⟨[(a2,(.s (.i .i64 340282366920938463463374607431768211458))),(a7,(.s (.b true))),(a8,(.s (.i .i64 10))),(a9,(.s (.i .i64 18907912675552290406400))),(a11,(.s (.p a32 0))),(a13,(.s (.i .i64 5)))], hs10_1⟩, ⟨[(a2,(.s (.i .i64 340282366920938463463374607431768211458))),(a7,(.s (.b true))),(a8,(.s (.i .i64 10))),(a9,(.s (.i .i64 18907912675552290406400))),(a11,(.s (.p a32 0))),(a13,(.s (.i .i64 6)))], hs10_1⟩]
noncomputable def natL10 : Cal := orC (oraC (Pth.of 17) [.s (.i .i64 ((symN + 0 : Nat) : Int)), .s (.i .i64 (.ofNat 16))] (.s (.i .i64 (.ofNat 10)))) (orC (oraC (Pth.of 17) [.s (.i .i64 ((symN + 1 : Nat) : Int)), .s (.i .i64 (.ofNat 268435455))] (.s (.i .i64 (.ofNat 20088504296269701709824)))) (orC (oraC (Pth.of 17) [.s (.i .i64 ((symN + 2 : Nat) : Int)), .s (.i .i64 (.ofNat 6))] (.s (.i .i64 (.ofNat 114535833953662605983744)))) (orC (memS fa0S fa0A fa0H fa0V fa0R) (orC (memS g10_0S g10_0A g10_0H g10_0V g10_0R) (orC (memS g10_1S g10_1A g10_1H g10_1V g10_1R) (orC (memS g10_2S g10_2A g10_2H g10_2V g10_2R) (orC (memS g10_3S g10_3A g10_3H g10_3V g10_3R) (orC (memS g10_4S g10_4A g10_4H g10_4V g10_4R) (orC (memS g10_5S g10_5A g10_5H g10_5V g10_5R) (orC (memS g10_6S g10_6A g10_6H g10_6V g10_6R) (nat)))))))))))
theorem run10 : iniB (symA [.i64, .i64, .i64] 0) (exWs js9 (calM prog natL10 60) (kF (fr f9) (.s (.b true))) (fun _ => noB) fun t h => exW jI (calM prog natL10 60) t h (inL S10) (kF (fr f9) (.s (.b true))) fun _ => noB) (heap0 tabL) = true := by decide +kernel
theorem ver10 : verC jB (calM prog natL10 60) (kF (fr f9) (.s (.b true))) (kxZ 0 jZ (calM prog natL10 60) (kF (fr f9) (.s (.b true)))) [] S10 = true := by decide +kernel
noncomputable def g11_0A : List V := [(.agg [(.i .i64 12),(.sl a3 0 1 1),z0,(.i .i64 1),.ns])]
noncomputable def g11_0H : Hp := hmk [(a0,(.ro [(.i .u8 0),(.i .u8 1),(.i .u8 28),(.i .u8 2),(.i .u8 29),(.i .u8 14),(.i .u8 24),(.i .u8 3),(.i .u8 30),(.i .u8 22),(.i .u8 20),(.i .u8 15),(.i .u8 25),(.i .u8 17),(.i .u8 4),(.i .u8 8),(.i .u8 31),(.i .u8 27),(.i .u8 13),(.i .u8 23),(.i .u8 21),(.i .u8 19),(.i .u8 16),(.i .u8 7),(.i .u8 26),(.i .u8 12),(.i .u8 18),(.i .u8 6),(.i .u8 11),(.i .u8 5),(.i .u8 10),(.i .u8 9)])),(a1,(.c [(.i .i64 12),(.i .i64 11),z0,z0,(.i .i64 5),z0,(.i .i64 7),(.i .i64 18907912675552290406400)])),(a2,(.c [(.i .i64 3),(.i .i64 5),z0,z0,(.sl a1 0 2 2)])),(a3,(.c [(.i .i64 3),(.i .i64 5),z0,z0,(.sl a1 0 2 2)]))] a4 1000000000 0
noncomputable def g11_0V : V := (.s (.p a32 0))
noncomputable def g11_0R : Hp := hset g11_0H [(a4,(.c [(.i .i64 12),(.sl a3 0 1 1),z0,(.i .i64 1),.ns])),(a5,(.c [(.i .i64 12),(.sl a3 0 1 1),z0,(.i .i64 1),.ns])),(a6,(.c [(.i .i64 12),(.sl a3 0 1 1),z0,(.i .i64 1),.ns])),(a7,(.mp [((.agg [(.i .i64 3),z0]),(.s (.i .i64 1024)),0),((.agg [(.i .i64 2),z0]),(.s (.i .i64 1088)),1),((.agg [(.i .i64 5),z0]),(.s (.i .i64 1120)),2),((.agg [(.i .i64 7),z0]),(.s (.i .i64 1128)),3)] 4)),(a8,(.c [(.i .i64 12),(.sl a3 0 1 1),z0,(.i .i64 1),.ns,(.mp a7),(.i .i64 1136)])),(a9,(.mp [((.agg [(.i .i64 12),(.i .i64 11)]),(.s (.b true)),0),((.agg [(.i .i64 5),z0]),(.s (.b true)),1)] 2)),(a10,(.c [(.i .i64 3),(.i .i64 5),z0,z0,(.sl a1 0 2 2)])),(a11,(.c [(.i .i64 12),(.i .i64 11),z0,z0])),(a12,(.c [(.i .i64 12),(.i .i64 11)])),(a13,(.c [(.i .i64 5),z0,(.i .i64 7),(.i .i64 18907912675552290406400)])),(a14,(.c [(.i .i64 5),z0])),(a15,(.w .u64 4096 13 (W [(1,20217631504785668572160),(17,1128),(32,348449143727040986586495598010130648547331),(60,22836334671640035761734677516263237707370612359),(1024,713644263294995196836950787201201445746525186),(1040,10281),(1092,2819816866870904179904263735827288966795238165833871861896755451547822748666133888564439196669283341040499194276873248964620)] [(1097,18907912675552290406400)]))),(a16,(.cu (.sl a15 0 4096 4096))),(a17,(.c [(.p a16 0)])),(a18,(.c [(.p a8 0)])),(a19,(.mp [((.agg [(.i .i64 2),z0]),(.s (.i .i64 1024)),0),((.agg [(.i .i64 12),(.i .i64 11)]),(.s (.i .i64 1092)),1),((.agg [(.i .i64 5),z0]),(.s (.i .i64 1096)),2)] 3)),(a20,(.c [(.mp a19)])),(a21,(.c [(.b false)])),(a22,(.c [(.i .i64 3),(.i .i64 5),z0,z0,(.sl a1 0 2 2)])),(a23,(.c [(.i .i64 12),(.i .i64 11),z0,z0])),(a24,(.c [(.i .i64 5),z0,(.i .i64 7),(.i .i64 18907912675552290406400)])),(a27,(.c [(.i .i64 3),(.i .i64 5),z0,z0,(.sl a1 0 2 2)])),(a28,(.c [(.i .u16 0),(.i .u16 65535),(.i .u32 0)])),(a29,(.c (Zi 32))),(a30,(.c [(.p a16 0),(.p a28 0),(.p a29 0)])),(a31,(.c [(.p a16 0),(.p a28 0),(.p a29 0),z0])),(a32,(.c [(.p a16 0),(.p a31 0)]))] a33 1000000000 0
noncomputable def g11_0S : S := (.fn a12 [])
theorem g11_0 : runB (calM prog (nat) 60 g11_0S g11_0A g11_0H) g11_0V g11_0R = true := by decide +kernel
noncomputable def g11_1A : List V := [(.s (.p a32 0)),(.s (.i .i64 1)),(.s (.i .i64 23)),(.agg [(.i .u64 0),(.i .u64 0),(.i .u64 0),(.i .u64 0)]),(.s (.i .i64 2)),(.s z0)]
noncomputable def g11_1H : Hp := hset g11_0R [] a33 1000000000 0
noncomputable def g11_1V : V := (.s z0)
noncomputable def g11_1R : Hp := hset g11_1H [(a15,wB g11_1H a15 [(108,234898949),(109,18907912675552290406400),(110,4366533704),(1062,2),(1094,3932268),(1098,7077888)])] a33 1000000000 0
noncomputable def g11_1S : S := (.fn a21 [])
theorem g11_1 : runB (calM prog (nat) 60 g11_1S g11_1A g11_1H) g11_1V g11_1R = true := by decide +kernel
noncomputable def g11_2A : List V := [(.s (.p a32 0)),(.s (.i .i64 1)),(.s (.i .i64 25)),(.agg [(.i .u64 0),(.i .u64 0),(.i .u64 0),(.i .u64 0)]),(.s z0),(.s z0)]
noncomputable def g11_2H : Hp := hset g11_1R [] a33 0 32
noncomputable def g11_2V : V := (.s z0)
noncomputable def g11_2R : Hp := hset g11_2H [(a15,wB g11_2H a15 [(1062,0)]),(a28,(.c [(.i .u16 0),(.i .u16 63487),(.i .u32 0)]))] a33 0 32
noncomputable def g11_2S : S := (.fn a21 [])
theorem g11_2 : runB (calM prog (nat) 60 g11_2S g11_2A g11_2H) g11_2V g11_2R = true := by decide +kernel
noncomputable def g11_3A : List V := [(.s (.p a32 0)),(.s (.i .i64 5)),(.s (.sl a33 0 1 1))]
noncomputable def g11_3H : Hp := hset g11_2R [(a15,wB g11_2R a15 [(1120,2),(1121,18907912675552290406400)]),(a28,(.c [(.i .u16 2048),(.i .u16 65535),(.i .u32 0)])),(a33,(.c [(.i .u64 2)]))] a34 0 32
noncomputable def g11_3V : V := (.s z0)
noncomputable def g11_3R : Hp := hset g11_3H [(a15,wB g11_3H a15 [(1056,18907912675552290406400),(1120,0),(1121,0)])] a34 0 32
noncomputable def g11_3S : S := (.fn a14 [])
theorem g11_3 : runB (calM prog (nat) 60 g11_3S g11_3A g11_3H) g11_3V g11_3R = true := by decide +kernel
noncomputable def g11_4A : List V := [(.s (.p a32 0)),(.s (.i .i64 5)),(.s (.sl a34 0 1 1))]
noncomputable def g11_4H : Hp := hset g11_3R [(a34,(.c [(.i .u64 2)]))] a35 0 32
noncomputable def g11_4V : V := (.s z0)
noncomputable def g11_4R : Hp := hset g11_4H [(a15,wB g11_4H a15 [(1056,0)])] a35 0 32
noncomputable def g11_4S : S := (.fn a14 [])
theorem g11_4 : runB (calM prog (nat) 60 g11_4S g11_4A g11_4H) g11_4V g11_4R = true := by decide +kernel
noncomputable def g11_5A : List V := [(.s (.p a32 0)),(.s (.i .i64 1)),(.s (.i .i64 25)),(.agg [(.i .u64 0),(.i .u64 0),(.i .u64 0),(.i .u64 0)]),(.s z0),(.s z0)]
noncomputable def g11_5H : Hp := hset g11_4R [] a33 0 32
noncomputable def g11_5V : V := (.s z0)
noncomputable def g11_5R : Hp := hset g11_5H [(a28,(.c [(.i .u16 0),(.i .u16 63487),(.i .u32 0)]))] a33 0 32
noncomputable def g11_5S : S := (.fn a21 [])
theorem g11_5 : runB (calM prog (nat) 60 g11_5S g11_5A g11_5H) g11_5V g11_5R = true := by decide +kernel
noncomputable def g11_6A : List V := [(.s (.p a16 0))]
noncomputable def g11_6H : Hp := hset g11_5R [(a28,(.c [(.i .u16 2048),(.i .u16 65535),(.i .u32 0)]))] a33 0 32
noncomputable def g11_6V : V := (.s z0)
noncomputable def g11_6R : Hp := hset g11_6H [] a33 0 32
noncomputable def g11_6S : S := (.fn a24 [])
theorem g11_6 : runB (trimC (calM prog (nat) 60) g11_6S g11_6A g11_6H) g11_6V g11_6R = true := by decide +kernel
noncomputable def hs11_0 : Hp := hset g11_1R [] a33 0 32
noncomputable def hs11_1 : Hp := hset hs11_0 [(a15,wB hs11_0 a15 [(1062,0)]),(a28,(.c [(.i .u16 2048),(.i .u16 65535),(.i .u32 0)]))] a33 0 32
noncomputable def S11 : List LS := [⟨[(a2,(.s (.i .i64 340282366920938463463374607431768211458))),(a7,(.s (.b true))),(a8,(.s (.i .i64 11))),(a9,(.s (.i .i64 18907912675552290406400))),(a11,(.s (.p a32 0))),(a13,(.s z0))], hs11_0⟩, ⟨[(a2,(.s (.i .i64 340282366920938463463374607431768211458))),(a7,(.s (.b true))),(a8,(.s (.i .i64 11))),(a9,(.s (.i .i64 18907912675552290406400))),(a11,(.s (.p a32 0))),(a13,(.s (.i .i64 1)))], hs11_1⟩, ⟨[(a2,(.s (.i .i64 340282366920938463463374607431768211458))),(a7,(.s (.b true))),(a8,(.s (.i .i64 11))),(a9,(.s (.i .i64 18907912675552290406400))),(a11,(.s (.p a32 0))),(a13,(.s (.i .i64 2)))], hs11_1⟩, ⟨[(a2,(.s (.i .i64 340282366920938463463374607431768211458))),(a7,(.s (.b true))),(a8,(.s (.i .i64 11))),(a9,(.s (.i .i64 18907912675552290406400))),(a11,(.s (.p a32 0))),(a13,(.s (.i .i64 3)))], hs11_1⟩, ⟨[(a2,(.s (.i .i64 340282366920938463463374607431768211458))),(a7,(.s (.b true))),(a8,(.s (.i .i64 11))),(a9,(.s (.i .i64 18907912675552290406400))),(a11,(.s (.p a32 0))),(a13,(.s (.i .i64 4)))], hs11_1⟩, ⟨[(a2,(.s (.i .i64 340282366920938463463374607431768211458))),(a7,(.s (.b true))),(a8,(.s (.i .i64 11))),(a9,(.s (.i .i64 18907912675552290406400))),(a11,(.s (.p a32 0))),(a13,(.s (.i .i64 5)))], hs11_1⟩, ⟨[(a2,(.s (.i .i64 340282366920938463463374607431768211458))),(a7,(.s (.b true))),(a8,(.s (.i .i64 11))),(a9,(.s (.i .i64 18907912675552290406400))),(a11,(.s (.p a32 0))),(a13,(.s (.i .i64 6)))], hs11_1⟩]
noncomputable def natL11 : Cal := orC (oraC (Pth.of 17) [.s (.i .i64 ((symN + 0 : Nat) : Int)), .s (.i .i64 (.ofNat 16))] (.s (.i .i64 (.ofNat 11)))) (orC (oraC (Pth.of 17) [.s (.i .i64 ((symN + 1 : Nat) : Int)), .s (.i .i64 (.ofNat 268435455))] (.s (.i .i64 (.ofNat 20088504296269701709824)))) (orC (oraC (Pth.of 17) [.s (.i .i64 ((symN + 2 : Nat) : Int)), .s (.i .i64 (.ofNat 6))] (.s (.i .i64 (.ofNat 114535833953662605983744)))) (orC (memS fa0S fa0A fa0H fa0V fa0R) (orC (memS g11_0S g11_0A g11_0H g11_0V g11_0R) (orC (memS g11_1S g11_1A g11_1H g11_1V g11_1R) (orC (memS g11_2S g11_2A g11_2H g11_2V g11_2R) (orC (memS g11_3S g11_3A g11_3H g11_3V g11_3R) (orC (memS g11_4S g11_4A g11_4H g11_4V g11_4R) (orC (memS g11_5S g11_5A g11_5H g11_5V g11_5R) (orC (memS g11_6S g11_6A g11_6H g11_6V g11_6R) (nat)))))))))))
theorem run11 : iniB (symA [.i64, .i64, .i64] 0) (exWs js9 (calM prog natL11 60) (kF (fr f9) (.s (.b true))) (fun _ => noB) fun t h => exW jI (calM prog natL11 60) t h (inL S11) (kF (fr f9) (.s (.b true))) fun _ => noB) (heap0 tabL) = true := by decide +kernel
theorem ver11 : verC jB (calM prog natL11 60) (kF (fr f9) (.s (.b true))) (kxZ 0 jZ (calM prog natL11 60) (kF (fr f9) (.s (.b true)))) [] S11 = true := by decide +kernel
end Go.E
