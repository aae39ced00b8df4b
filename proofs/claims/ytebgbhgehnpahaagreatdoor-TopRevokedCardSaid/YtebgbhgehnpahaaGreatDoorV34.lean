/- A part of the proof of the claim that the last text of this folder states. -/
import Derived.Test.YtebgbhgehnpahaaGreatDoorV30
namespace Go.E
set_option linter.all false
set_option maxRecDepth 100000
noncomputable def ga6A : List V := [(.s (.p a45 0)),(.s (.i .i64 3)),(.s (.i .i64 2)),(.agg [(.i .u64 8),(.i .u64 32),(.i .u64 7),(.i .u64 0)]),(.s (.i .i64 1)),(.s z0)]
noncomputable def ga6H : Hp := hset fb3R [] a46 1 8
noncomputable def ga6V : V := (.s z0)
noncomputable def ga6R : Hp := hset ga6H [(a24,wB ga6H a24 [(1058,8),(1059,32),(1060,7),(1062,1),(1158,85984392),(1286,4298900768),(1312,234903556),(1314,4379116676)])] a46 1 8
noncomputable def ga6S : S := (.fn a21 [])
theorem ga6 : runB (calM prog (nat) 60 ga6S ga6A ga6H) ga6V ga6R = true := by decide +kernel
noncomputable def gb6A : List V := [(.s (.p a45 0)),(.s (.i .i64 3)),(.s (.i .i64 7)),(.agg [(.i .u64 8),(.i .u64 32),(.i .u64 0),(.i .u64 0)]),(.s z0),(.s z0)]
noncomputable def gb6H : Hp := hset fb3R [(a24,wB fb3R a24 [(1058,8),(1059,32),(1060,7),(1062,1),(1158,85984392),(1286,4298900768),(1312,234903556),(1314,4379116676)])] a46 1 8
noncomputable def gb6V : V := (.s z0)
noncomputable def gb6R : Hp := hset gb6H [(a24,wB gb6H a24 [(1060,0),(1062,0),(1158,84149384),(1286,4298900612),(1312,0),(1314,0)]),(a44,(.c [(.p a25 0),(.p a41 0),(.p a42 0),(.i .i64 1)]))] a46 1 8
noncomputable def gb6S : S := (.fn a21 [])
theorem gb6 : runB (calM prog (nat) 60 gb6S gb6A gb6H) gb6V gb6R = true := by decide +kernel
noncomputable def natV6 : Cal := orC (oraC (Pth.of 17) [.s (.i .i64 ((symN + 0 : Nat) : Int)), .s (.i .i64 (.ofNat 30))] (.s (.i .i64 (.ofNat 6)))) (orC (memS fa0S fa0A fa0H fa0V fa0R) (orC (memS fb3S fb3A fb3H fb3V fb3R) (orC (memS ga6S ga6A ga6H ga6V ga6R) (orC (memS gb6S gb6A gb6H gb6V gb6R) (nat)))))
theorem rev6 : valB (calM prog natV6 60 (.fn a7 []) (symA [.i64] 0) (heap0 tabL)) (.s (.b true)) = true := by decide +kernel
noncomputable def ga7A : List V := [(.s (.p a45 0)),(.s (.i .i64 3)),(.s (.i .i64 2)),(.agg [(.i .u64 9),(.i .u64 32),(.i .u64 7),(.i .u64 0)]),(.s (.i .i64 1)),(.s z0)]
noncomputable def ga7H : Hp := hset fb3R [] a46 1 8
noncomputable def ga7V : V := (.s z0)
noncomputable def ga7R : Hp := hset ga7H [(a24,wB ga7H a24 [(1058,9),(1059,32),(1060,7),(1062,1),(1158,86246536),(1286,4298900772),(1316,234903556),(1318,4379116676)])] a46 1 8
noncomputable def ga7S : S := (.fn a21 [])
theorem ga7 : runB (calM prog (nat) 60 ga7S ga7A ga7H) ga7V ga7R = true := by decide +kernel
noncomputable def gb7A : List V := [(.s (.p a45 0)),(.s (.i .i64 3)),(.s (.i .i64 7)),(.agg [(.i .u64 9),(.i .u64 32),(.i .u64 0),(.i .u64 0)]),(.s z0),(.s z0)]
noncomputable def gb7H : Hp := hset fb3R [(a24,wB fb3R a24 [(1058,9),(1059,32),(1060,7),(1062,1),(1158,86246536),(1286,4298900772),(1316,234903556),(1318,4379116676)])] a46 1 8
noncomputable def gb7V : V := (.s z0)
noncomputable def gb7R : Hp := hset gb7H [(a24,wB gb7H a24 [(1060,0),(1062,0),(1158,84149384),(1286,4298900612),(1316,0),(1318,0)]),(a44,(.c [(.p a25 0),(.p a41 0),(.p a42 0),(.i .i64 1)]))] a46 1 8
noncomputable def gb7S : S := (.fn a21 [])
theorem gb7 : runB (calM prog (nat) 60 gb7S gb7A gb7H) gb7V gb7R = true := by decide +kernel
noncomputable def natV7 : Cal := orC (oraC (Pth.of 17) [.s (.i .i64 ((symN + 0 : Nat) : Int)), .s (.i .i64 (.ofNat 30))] (.s (.i .i64 (.ofNat 7)))) (orC (memS fa0S fa0A fa0H fa0V fa0R) (orC (memS fb3S fb3A fb3H fb3V fb3R) (orC (memS ga7S ga7A ga7H ga7V ga7R) (orC (memS gb7S gb7A gb7H gb7V gb7R) (nat)))))
theorem rev7 : valB (calM prog natV7 60 (.fn a7 []) (symA [.i64] 0) (heap0 tabL)) (.s (.b true)) = true := by decide +kernel
end Go.E
