/- A part of the proof of the claim that the last text of this folder states. -/
import Derived.Test.YtebgbhgehnpahaaGreatDoorV30
namespace Go.E
set_option linter.all false
set_option maxRecDepth 100000
noncomputable def ga26A : List V := [(.s (.p a45 0)),(.s (.i .i64 3)),(.s (.i .i64 2)),(.agg [(.i .u64 28),(.i .u64 32),(.i .u64 7),(.i .u64 0)]),(.s (.i .i64 1)),(.s z0)]
noncomputable def ga26H : Hp := hset fb3R [] a46 1 8
noncomputable def ga26V : V := (.s z0)
noncomputable def ga26R : Hp := hset ga26H [(a24,wB ga26H a24 [(1058,28),(1059,32),(1060,7),(1062,1),(1158,91227272),(1286,4298900848),(1392,234903556),(1394,4379116676)])] a46 1 8
noncomputable def ga26S : S := (.fn a21 [])
theorem ga26 : runB (calM prog (nat) 60 ga26S ga26A ga26H) ga26V ga26R = true := by decide +kernel
noncomputable def gb26A : List V := [(.s (.p a45 0)),(.s (.i .i64 3)),(.s (.i .i64 7)),(.agg [(.i .u64 28),(.i .u64 32),(.i .u64 0),(.i .u64 0)]),(.s z0),(.s z0)]
noncomputable def gb26H : Hp := hset fb3R [(a24,wB fb3R a24 [(1058,28),(1059,32),(1060,7),(1062,1),(1158,91227272),(1286,4298900848),(1392,234903556),(1394,4379116676)])] a46 1 8
noncomputable def gb26V : V := (.s z0)
noncomputable def gb26R : Hp := hset gb26H [(a24,wB gb26H a24 [(1060,0),(1062,0),(1158,84149384),(1286,4298900612),(1392,0),(1394,0)]),(a44,(.c [(.p a25 0),(.p a41 0),(.p a42 0),(.i .i64 1)]))] a46 1 8
noncomputable def gb26S : S := (.fn a21 [])
theorem gb26 : runB (calM prog (nat) 60 gb26S gb26A gb26H) gb26V gb26R = true := by decide +kernel
noncomputable def natV26 : Cal := orC (oraC (Pth.of 17) [.s (.i .i64 ((symN + 0 : Nat) : Int)), .s (.i .i64 (.ofNat 30))] (.s (.i .i64 (.ofNat 26)))) (orC (memS fa0S fa0A fa0H fa0V fa0R) (orC (memS fb3S fb3A fb3H fb3V fb3R) (orC (memS ga26S ga26A ga26H ga26V ga26R) (orC (memS gb26S gb26A gb26H gb26V gb26R) (nat)))))
theorem rev26 : valB (calM prog natV26 60 (.fn a7 []) (symA [.i64] 0) (heap0 tabL)) (.s (.b true)) = true := by decide +kernel
noncomputable def ga27A : List V := [(.s (.p a45 0)),(.s (.i .i64 3)),(.s (.i .i64 2)),(.agg [(.i .u64 29),(.i .u64 32),(.i .u64 7),(.i .u64 0)]),(.s (.i .i64 1)),(.s z0)]
noncomputable def ga27H : Hp := hset fb3R [] a46 1 8
noncomputable def ga27V : V := (.s z0)
noncomputable def ga27R : Hp := hset ga27H [(a24,wB ga27H a24 [(1058,29),(1059,32),(1060,7),(1062,1),(1158,91489416),(1286,4298900852),(1396,234903556),(1398,4379116676)])] a46 1 8
noncomputable def ga27S : S := (.fn a21 [])
theorem ga27 : runB (calM prog (nat) 60 ga27S ga27A ga27H) ga27V ga27R = true := by decide +kernel
noncomputable def gb27A : List V := [(.s (.p a45 0)),(.s (.i .i64 3)),(.s (.i .i64 7)),(.agg [(.i .u64 29),(.i .u64 32),(.i .u64 0),(.i .u64 0)]),(.s z0),(.s z0)]
noncomputable def gb27H : Hp := hset fb3R [(a24,wB fb3R a24 [(1058,29),(1059,32),(1060,7),(1062,1),(1158,91489416),(1286,4298900852),(1396,234903556),(1398,4379116676)])] a46 1 8
noncomputable def gb27V : V := (.s z0)
noncomputable def gb27R : Hp := hset gb27H [(a24,wB gb27H a24 [(1060,0),(1062,0),(1158,84149384),(1286,4298900612),(1396,0),(1398,0)]),(a44,(.c [(.p a25 0),(.p a41 0),(.p a42 0),(.i .i64 1)]))] a46 1 8
noncomputable def gb27S : S := (.fn a21 [])
theorem gb27 : runB (calM prog (nat) 60 gb27S gb27A gb27H) gb27V gb27R = true := by decide +kernel
noncomputable def natV27 : Cal := orC (oraC (Pth.of 17) [.s (.i .i64 ((symN + 0 : Nat) : Int)), .s (.i .i64 (.ofNat 30))] (.s (.i .i64 (.ofNat 27)))) (orC (memS fa0S fa0A fa0H fa0V fa0R) (orC (memS fb3S fb3A fb3H fb3V fb3R) (orC (memS ga27S ga27A ga27H ga27V ga27R) (orC (memS gb27S gb27A gb27H gb27V gb27R) (nat)))))
theorem rev27 : valB (calM prog natV27 60 (.fn a7 []) (symA [.i64] 0) (heap0 tabL)) (.s (.b true)) = true := by decide +kernel
end Go.E
