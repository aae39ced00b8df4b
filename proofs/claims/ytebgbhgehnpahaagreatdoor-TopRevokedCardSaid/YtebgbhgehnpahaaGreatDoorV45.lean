/- A part of the proof of the claim that the last text of this folder states. -/
import Derived.Test.YtebgbhgehnpahaaGreatDoorV30
namespace Go.E
set_option linter.all false
set_option maxRecDepth 100000
noncomputable def ga28A : List V := [(.s (.p a45 0)),(.s (.i .i64 3)),(.s (.i .i64 2)),(.agg [(.i .u64 30),(.i .u64 32),(.i .u64 7),(.i .u64 0)]),(.s (.i .i64 1)),(.s z0)]
noncomputable def ga28H : Hp := hset fb3R [] a46 1 8
noncomputable def ga28V : V := (.s z0)
noncomputable def ga28R : Hp := hset ga28H [(a24,wB ga28H a24 [(1058,30),(1059,32),(1060,7),(1062,1),(1158,91751560),(1286,4298900856),(1400,234903556),(1402,4379116676)])] a46 1 8
noncomputable def ga28S : S := (.fn a21 [])
theorem ga28 : runB (calM prog (nat) 60 ga28S ga28A ga28H) ga28V ga28R = true := by decide +kernel
noncomputable def gb28A : List V := [(.s (.p a45 0)),(.s (.i .i64 3)),(.s (.i .i64 7)),(.agg [(.i .u64 30),(.i .u64 32),(.i .u64 0),(.i .u64 0)]),(.s z0),(.s z0)]
noncomputable def gb28H : Hp := hset fb3R [(a24,wB fb3R a24 [(1058,30),(1059,32),(1060,7),(1062,1),(1158,91751560),(1286,4298900856),(1400,234903556),(1402,4379116676)])] a46 1 8
noncomputable def gb28V : V := (.s z0)
noncomputable def gb28R : Hp := hset gb28H [(a24,wB gb28H a24 [(1060,0),(1062,0),(1158,84149384),(1286,4298900612),(1400,0),(1402,0)]),(a44,(.c [(.p a25 0),(.p a41 0),(.p a42 0),(.i .i64 1)]))] a46 1 8
noncomputable def gb28S : S := (.fn a21 [])
theorem gb28 : runB (calM prog (nat) 60 gb28S gb28A gb28H) gb28V gb28R = true := by decide +kernel
noncomputable def natV28 : Cal := orC (oraC (Pth.of 17) [.s (.i .i64 ((symN + 0 : Nat) : Int)), .s (.i .i64 (.ofNat 30))] (.s (.i .i64 (.ofNat 28)))) (orC (memS fa0S fa0A fa0H fa0V fa0R) (orC (memS fb3S fb3A fb3H fb3V fb3R) (orC (memS ga28S ga28A ga28H ga28V ga28R) (orC (memS gb28S gb28A gb28H gb28V gb28R) (nat)))))
theorem rev28 : valB (calM prog natV28 60 (.fn a7 []) (symA [.i64] 0) (heap0 tabL)) (.s (.b true)) = true := by decide +kernel
noncomputable def ga29A : List V := [(.s (.p a45 0)),(.s (.i .i64 3)),(.s (.i .i64 2)),(.agg [(.i .u64 31),(.i .u64 32),(.i .u64 7),(.i .u64 0)]),(.s (.i .i64 1)),(.s z0)]
noncomputable def ga29H : Hp := hset fb3R [] a46 1 8
noncomputable def ga29V : V := (.s z0)
noncomputable def ga29R : Hp := hset ga29H [(a24,wB ga29H a24 [(1058,31),(1059,32),(1060,7),(1062,1),(1158,92013704),(1286,4298900860),(1404,234903556),(1406,4379116676)])] a46 1 8
noncomputable def ga29S : S := (.fn a21 [])
theorem ga29 : runB (calM prog (nat) 60 ga29S ga29A ga29H) ga29V ga29R = true := by decide +kernel
noncomputable def gb29A : List V := [(.s (.p a45 0)),(.s (.i .i64 3)),(.s (.i .i64 7)),(.agg [(.i .u64 31),(.i .u64 32),(.i .u64 0),(.i .u64 0)]),(.s z0),(.s z0)]
noncomputable def gb29H : Hp := hset fb3R [(a24,wB fb3R a24 [(1058,31),(1059,32),(1060,7),(1062,1),(1158,92013704),(1286,4298900860),(1404,234903556),(1406,4379116676)])] a46 1 8
noncomputable def gb29V : V := (.s z0)
noncomputable def gb29R : Hp := hset gb29H [(a24,wB gb29H a24 [(1060,0),(1062,0),(1158,84149384),(1286,4298900612),(1404,0),(1406,0)]),(a44,(.c [(.p a25 0),(.p a41 0),(.p a42 0),(.i .i64 1)]))] a46 1 8
noncomputable def gb29S : S := (.fn a21 [])
theorem gb29 : runB (calM prog (nat) 60 gb29S gb29A gb29H) gb29V gb29R = true := by decide +kernel
noncomputable def natV29 : Cal := orC (oraC (Pth.of 17) [.s (.i .i64 ((symN + 0 : Nat) : Int)), .s (.i .i64 (.ofNat 30))] (.s (.i .i64 (.ofNat 29)))) (orC (memS fa0S fa0A fa0H fa0V fa0R) (orC (memS fb3S fb3A fb3H fb3V fb3R) (orC (memS ga29S ga29A ga29H ga29V ga29R) (orC (memS gb29S gb29A gb29H gb29V gb29R) (nat)))))
theorem rev29 : valB (calM prog natV29 60 (.fn a7 []) (symA [.i64] 0) (heap0 tabL)) (.s (.b true)) = true := by decide +kernel
end Go.E
