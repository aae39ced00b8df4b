/- A part of the proof of the claim that the last text of this folder states. -/
import Derived.Test.YtebgbhgehnpahaaGreatDoorV30
namespace Go.E
set_option linter.all false
set_option maxRecDepth 100000
noncomputable def ga2A : List V := [(.s (.p a45 0)),(.s (.i .i64 3)),(.s (.i .i64 2)),(.agg [(.i .u64 4),(.i .u64 32),(.i .u64 7),(.i .u64 0)]),(.s (.i .i64 1)),(.s z0)]
noncomputable def ga2H : Hp := hset fb3R [] a46 1 8
noncomputable def ga2V : V := (.s z0)
noncomputable def ga2R : Hp := hset ga2H [(a24,wB ga2H a24 [(1058,4),(1059,32),(1060,7),(1062,1),(1158,84935816),(1286,4298900752),(1296,234903556),(1298,4379116676)])] a46 1 8
noncomputable def ga2S : S := (.fn a21 [])
theorem ga2 : runB (calM prog (nat) 60 ga2S ga2A ga2H) ga2V ga2R = true := by decide +kernel
noncomputable def gb2A : List V := [(.s (.p a45 0)),(.s (.i .i64 3)),(.s (.i .i64 7)),(.agg [(.i .u64 4),(.i .u64 32),(.i .u64 0),(.i .u64 0)]),(.s z0),(.s z0)]
noncomputable def gb2H : Hp := hset fb3R [(a24,wB fb3R a24 [(1058,4),(1059,32),(1060,7),(1062,1),(1158,84935816),(1286,4298900752),(1296,234903556),(1298,4379116676)])] a46 1 8
noncomputable def gb2V : V := (.s z0)
noncomputable def gb2R : Hp := hset gb2H [(a24,wB gb2H a24 [(1060,0),(1062,0),(1158,84149384),(1286,4298900612),(1296,0),(1298,0)]),(a44,(.c [(.p a25 0),(.p a41 0),(.p a42 0),(.i .i64 1)]))] a46 1 8
noncomputable def gb2S : S := (.fn a21 [])
theorem gb2 : runB (calM prog (nat) 60 gb2S gb2A gb2H) gb2V gb2R = true := by decide +kernel
noncomputable def natV2 : Cal := orC (oraC (Pth.of 17) [.s (.i .i64 ((symN + 0 : Nat) : Int)), .s (.i .i64 (.ofNat 30))] (.s (.i .i64 (.ofNat 2)))) (orC (memS fa0S fa0A fa0H fa0V fa0R) (orC (memS fb3S fb3A fb3H fb3V fb3R) (orC (memS ga2S ga2A ga2H ga2V ga2R) (orC (memS gb2S gb2A gb2H gb2V gb2R) (nat)))))
theorem rev2 : valB (calM prog natV2 60 (.fn a7 []) (symA [.i64] 0) (heap0 tabL)) (.s (.b true)) = true := by decide +kernel
noncomputable def ga3A : List V := [(.s (.p a45 0)),(.s (.i .i64 3)),(.s (.i .i64 2)),(.agg [(.i .u64 5),(.i .u64 32),(.i .u64 7),(.i .u64 0)]),(.s (.i .i64 1)),(.s z0)]
noncomputable def ga3H : Hp := hset fb3R [] a46 1 8
noncomputable def ga3V : V := (.s z0)
noncomputable def ga3R : Hp := hset ga3H [(a24,wB ga3H a24 [(1058,5),(1059,32),(1060,7),(1062,1),(1158,85197960),(1286,4298900756),(1300,234903556),(1302,4379116676)])] a46 1 8
noncomputable def ga3S : S := (.fn a21 [])
theorem ga3 : runB (calM prog (nat) 60 ga3S ga3A ga3H) ga3V ga3R = true := by decide +kernel
noncomputable def gb3A : List V := [(.s (.p a45 0)),(.s (.i .i64 3)),(.s (.i .i64 7)),(.agg [(.i .u64 5),(.i .u64 32),(.i .u64 0),(.i .u64 0)]),(.s z0),(.s z0)]
noncomputable def gb3H : Hp := hset fb3R [(a24,wB fb3R a24 [(1058,5),(1059,32),(1060,7),(1062,1),(1158,85197960),(1286,4298900756),(1300,234903556),(1302,4379116676)])] a46 1 8
noncomputable def gb3V : V := (.s z0)
noncomputable def gb3R : Hp := hset gb3H [(a24,wB gb3H a24 [(1060,0),(1062,0),(1158,84149384),(1286,4298900612),(1300,0),(1302,0)]),(a44,(.c [(.p a25 0),(.p a41 0),(.p a42 0),(.i .i64 1)]))] a46 1 8
noncomputable def gb3S : S := (.fn a21 [])
theorem gb3 : runB (calM prog (nat) 60 gb3S gb3A gb3H) gb3V gb3R = true := by decide +kernel
noncomputable def natV3 : Cal := orC (oraC (Pth.of 17) [.s (.i .i64 ((symN + 0 : Nat) : Int)), .s (.i .i64 (.ofNat 30))] (.s (.i .i64 (.ofNat 3)))) (orC (memS fa0S fa0A fa0H fa0V fa0R) (orC (memS fb3S fb3A fb3H fb3V fb3R) (orC (memS ga3S ga3A ga3H ga3V ga3R) (orC (memS gb3S gb3A gb3H gb3V gb3R) (nat)))))
theorem rev3 : valB (calM prog natV3 60 (.fn a7 []) (symA [.i64] 0) (heap0 tabL)) (.s (.b true)) = true := by decide +kernel
end Go.E
