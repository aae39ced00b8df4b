/- A part of the proof of the claim that the last text of this folder states. -/
import Derived.Test.YtebgbhgehnpahaaGreatDoorV30
namespace Go.E
set_option linter.all false
set_option maxRecDepth 100000
noncomputable def ga22A : List V := [(.s (.p a45 0)),(.s (.i .i64 3)),(.s (.i .i64 2)),(.agg [(.i .u64 24),(.i .u64 32),(.i .u64 7),(.i .u64 0)]),(.s (.i .i64 1)),(.s z0)]
noncomputable def ga22H : Hp := hset fb3R [] a46 1 8
noncomputable def ga22V : V := (.s z0)
noncomputable def ga22R : Hp := hset ga22H [(a24,wB ga22H a24 [(1058,24),(1059,32),(1060,7),(1062,1),(1158,90178696),(1286,4298900832),(1376,234903556),(1378,4379116676)])] a46 1 8
noncomputable def ga22S : S := (.fn a21 [])
theorem ga22 : runB (calM prog (nat) 60 ga22S ga22A ga22H) ga22V ga22R = true := by decide +kernel
noncomputable def gb22A : List V := [(.s (.p a45 0)),(.s (.i .i64 3)),(.s (.i .i64 7)),(.agg [(.i .u64 24),(.i .u64 32),(.i .u64 0),(.i .u64 0)]),(.s z0),(.s z0)]
noncomputable def gb22H : Hp := hset fb3R [(a24,wB fb3R a24 [(1058,24),(1059,32),(1060,7),(1062,1),(1158,90178696),(1286,4298900832),(1376,234903556),(1378,4379116676)])] a46 1 8
noncomputable def gb22V : V := (.s z0)
noncomputable def gb22R : Hp := hset gb22H [(a24,wB gb22H a24 [(1060,0),(1062,0),(1158,84149384),(1286,4298900612),(1376,0),(1378,0)]),(a44,(.c [(.p a25 0),(.p a41 0),(.p a42 0),(.i .i64 1)]))] a46 1 8
noncomputable def gb22S : S := (.fn a21 [])
theorem gb22 : runB (calM prog (nat) 60 gb22S gb22A gb22H) gb22V gb22R = true := by decide +kernel
noncomputable def natV22 : Cal := orC (oraC (Pth.of 17) [.s (.i .i64 ((symN + 0 : Nat) : Int)), .s (.i .i64 (.ofNat 30))] (.s (.i .i64 (.ofNat 22)))) (orC (memS fa0S fa0A fa0H fa0V fa0R) (orC (memS fb3S fb3A fb3H fb3V fb3R) (orC (memS ga22S ga22A ga22H ga22V ga22R) (orC (memS gb22S gb22A gb22H gb22V gb22R) (nat)))))
theorem rev22 : valB (calM prog natV22 60 (.fn a7 []) (symA [.i64] 0) (heap0 tabL)) (.s (.b true)) = true := by decide +kernel
noncomputable def ga23A : List V := [(.s (.p a45 0)),(.s (.i .i64 3)),(.s (.i .i64 2)),(.agg [(.i .u64 25),(.i .u64 32),(.i .u64 7),(.i .u64 0)]),(.s (.i .i64 1)),(.s z0)]
noncomputable def ga23H : Hp := hset fb3R [] a46 1 8
noncomputable def ga23V : V := (.s z0)
noncomputable def ga23R : Hp := hset ga23H [(a24,wB ga23H a24 [(1058,25),(1059,32),(1060,7),(1062,1),(1158,90440840),(1286,4298900836),(1380,234903556),(1382,4379116676)])] a46 1 8
noncomputable def ga23S : S := (.fn a21 [])
theorem ga23 : runB (calM prog (nat) 60 ga23S ga23A ga23H) ga23V ga23R = true := by decide +kernel
noncomputable def gb23A : List V := [(.s (.p a45 0)),(.s (.i .i64 3)),(.s (.i .i64 7)),(.agg [(.i .u64 25),(.i .u64 32),(.i .u64 0),(.i .u64 0)]),(.s z0),(.s z0)]
noncomputable def gb23H : Hp := hset fb3R [(a24,wB fb3R a24 [(1058,25),(1059,32),(1060,7),(1062,1),(1158,90440840),(1286,4298900836),(1380,234903556),(1382,4379116676)])] a46 1 8
noncomputable def gb23V : V := (.s z0)
noncomputable def gb23R : Hp := hset gb23H [(a24,wB gb23H a24 [(1060,0),(1062,0),(1158,84149384),(1286,4298900612),(1380,0),(1382,0)]),(a44,(.c [(.p a25 0),(.p a41 0),(.p a42 0),(.i .i64 1)]))] a46 1 8
noncomputable def gb23S : S := (.fn a21 [])
theorem gb23 : runB (calM prog (nat) 60 gb23S gb23A gb23H) gb23V gb23R = true := by decide +kernel
noncomputable def natV23 : Cal := orC (oraC (Pth.of 17) [.s (.i .i64 ((symN + 0 : Nat) : Int)), .s (.i .i64 (.ofNat 30))] (.s (.i .i64 (.ofNat 23)))) (orC (memS fa0S fa0A fa0H fa0V fa0R) (orC (memS fb3S fb3A fb3H fb3V fb3R) (orC (memS ga23S ga23A ga23H ga23V ga23R) (orC (memS gb23S gb23A gb23H gb23V gb23R) (nat)))))
theorem rev23 : valB (calM prog natV23 60 (.fn a7 []) (symA [.i64] 0) (heap0 tabL)) (.s (.b true)) = true := by decide +kernel
end Go.E
