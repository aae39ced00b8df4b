/- A part of the proof of the claim that the last text of this folder states. -/
import Derived.Test.YtebgbhgehnpahaaGreatDoorV30
namespace Go.E
set_option linter.all false
set_option maxRecDepth 100000
noncomputable def ga16A : List V := [(.s (.p a45 0)),(.s (.i .i64 3)),(.s (.i .i64 2)),(.agg [(.i .u64 18),(.i .u64 32),(.i .u64 7),(.i .u64 0)]),(.s (.i .i64 1)),(.s z0)]
noncomputable def ga16H : Hp := hset fb3R [] a46 1 8
noncomputable def ga16V : V := (.s z0)
noncomputable def ga16R : Hp := hset ga16H [(a24,wB ga16H a24 [(1058,18),(1059,32),(1060,7),(1062,1),(1158,88605832),(1286,4298900808),(1352,234903556),(1354,4379116676)])] a46 1 8
noncomputable def ga16S : S := (.fn a21 [])
theorem ga16 : runB (calM prog (nat) 60 ga16S ga16A ga16H) ga16V ga16R = true := by decide +kernel
noncomputable def gb16A : List V := [(.s (.p a45 0)),(.s (.i .i64 3)),(.s (.i .i64 7)),(.agg [(.i .u64 18),(.i .u64 32),(.i .u64 0),(.i .u64 0)]),(.s z0),(.s z0)]
noncomputable def gb16H : Hp := hset fb3R [(a24,wB fb3R a24 [(1058,18),(1059,32),(1060,7),(1062,1),(1158,88605832),(1286,4298900808),(1352,234903556),(1354,4379116676)])] a46 1 8
noncomputable def gb16V : V := (.s z0)
noncomputable def gb16R : Hp := hset gb16H [(a24,wB gb16H a24 [(1060,0),(1062,0),(1158,84149384),(1286,4298900612),(1352,0),(1354,0)]),(a44,(.c [(.p a25 0),(.p a41 0),(.p a42 0),(.i .i64 1)]))] a46 1 8
noncomputable def gb16S : S := (.fn a21 [])
theorem gb16 : runB (calM prog (nat) 60 gb16S gb16A gb16H) gb16V gb16R = true := by decide +kernel
noncomputable def natV16 : Cal := orC (oraC (Pth.of 17) [.s (.i .i64 ((symN + 0 : Nat) : Int)), .s (.i .i64 (.ofNat 30))] (.s (.i .i64 (.ofNat 16)))) (orC (memS fa0S fa0A fa0H fa0V fa0R) (orC (memS fb3S fb3A fb3H fb3V fb3R) (orC (memS ga16S ga16A ga16H ga16V ga16R) (orC (memS gb16S gb16A gb16H gb16V gb16R) (nat)))))
theorem rev16 : valB (calM prog natV16 60 (.fn a7 []) (symA [.i64] 0) (heap0 tabL)) (.s (.b true)) = true := by decide +kernel
noncomputable def ga17A : List V := [(.s (.p a45 0)),(.s (.i .i64 3)),(.s (.i .i64 2)),(.agg [(.i .u64 19),(.i .u64 32),(.i .u64 7),(.i .u64 0)]),(.s (.i .i64 1)),(.s z0)]
noncomputable def ga17H : Hp := hset fb3R [] a46 1 8
noncomputable def ga17V : V := (.s z0)
noncomputable def ga17R : Hp := hset ga17H [(a24,wB ga17H a24 [(1058,19),(1059,32),(1060,7),(1062,1),(1158,88867976),(1286,4298900812),(1356,234903556),(1358,4379116676)])] a46 1 8
noncomputable def ga17S : S := (.fn a21 [])
theorem ga17 : runB (calM prog (nat) 60 ga17S ga17A ga17H) ga17V ga17R = true := by decide +kernel
noncomputable def gb17A : List V := [(.s (.p a45 0)),(.s (.i .i64 3)),(.s (.i .i64 7)),(.agg [(.i .u64 19),(.i .u64 32),(.i .u64 0),(.i .u64 0)]),(.s z0),(.s z0)]
noncomputable def gb17H : Hp := hset fb3R [(a24,wB fb3R a24 [(1058,19),(1059,32),(1060,7),(1062,1),(1158,88867976),(1286,4298900812),(1356,234903556),(1358,4379116676)])] a46 1 8
noncomputable def gb17V : V := (.s z0)
noncomputable def gb17R : Hp := hset gb17H [(a24,wB gb17H a24 [(1060,0),(1062,0),(1158,84149384),(1286,4298900612),(1356,0),(1358,0)]),(a44,(.c [(.p a25 0),(.p a41 0),(.p a42 0),(.i .i64 1)]))] a46 1 8
noncomputable def gb17S : S := (.fn a21 [])
theorem gb17 : runB (calM prog (nat) 60 gb17S gb17A gb17H) gb17V gb17R = true := by decide +kernel
noncomputable def natV17 : Cal := orC (oraC (Pth.of 17) [.s (.i .i64 ((symN + 0 : Nat) : Int)), .s (.i .i64 (.ofNat 30))] (.s (.i .i64 (.ofNat 17)))) (orC (memS fa0S fa0A fa0H fa0V fa0R) (orC (memS fb3S fb3A fb3H fb3V fb3R) (orC (memS ga17S ga17A ga17H ga17V ga17R) (orC (memS gb17S gb17A gb17H gb17V gb17R) (nat)))))
theorem rev17 : valB (calM prog natV17 60 (.fn a7 []) (symA [.i64] 0) (heap0 tabL)) (.s (.b true)) = true := by decide +kernel
end Go.E
