/- A part of the proof of the claim that the last text of this folder states. -/
import Derived.Test.YtebgbhgehnpahaaGreatDoorS31
import Derived.Test.YtebgbhgehnpahaaGreatDoorS33
import Derived.Test.YtebgbhgehnpahaaGreatDoorS34
namespace Go.E
set_option linter.all false
set_option maxRecDepth 100000
noncomputable def dL : DJ := (dp2 (dp2 (dp2 (dp2 (dp2 (dp2 (fb f3)))))))
noncomputable def dB : DJ := dp1 (dp1 (dp2 (dp1 dL)))
noncomputable def dY : DJ := dp1 (dp1 (dp2 dB))
noncomputable def js3 : List WJ := [.leaf (dp1 (fb f3)), .leaf (dp1 (dp2 (fb f3))), .leaf (dp1 (dp2 (dp2 (fb f3)))), .leaf (dp1 (dp2 (dp2 (dp2 (fb f3))))), .leaf (dp1 (dp2 (dp2 (dp2 (dp2 (fb f3)))))), .leaf (dp1 (dp2 (dp2 (dp2 (dp2 (dp2 (fb f3)))))))]
noncomputable def jI : WJ := .leaf (dp1 (dp1 dL))
noncomputable def jZ : WJ := .leaf (dp2 dL)
noncomputable def dX : DJ := dp2 (dp2 (dp2 (dp2 dY)))
noncomputable def jB : WJ := .seq (.leaf (dp1 dB)) (.seq (.block 1 (.seq (.leaf (dp1 dY)) (.seq (.leaf (dp1 (dp2 dY))) (.seq (.leaf (dp1 (dp2 (dp2 dY)))) (.seq (.leaf (dp1 (dp2 (dp2 (dp2 dY))))) (.seq (.leaf (dp1 dX)) (.cond (.t a52) (.leaf (dc1 (dp2 dX))) (.leaf .skip)))))))) (.leaf (dp2 (dp2 dB))))
noncomputable def stS (K m i w : Nat) (h : Hp) : LS := ⟨[(a7, .s (.i .i64 (.ofNat i))), (a6, .s (.i .u64 (.ofNat w))), (a0, .s (.sg a1 K)), (a3, .s (.b true)), (a4, (.s (.p a45 0))), (a5, .s (.i .u64 0))], hset h [(a1, .rb m)] a46 0 45⟩
noncomputable def SL (K m N : Nat) : List LS := stS K m 0 0 hq0 :: (List.range N).flatMap fun i => [stS K m (i + 1) 1 hq1, stS K m (i + 1) 1 hq2, stS K m (i + 1) 3 hq3, stS K m (i + 1) 3 hq4]
noncomputable def natS : Cal := orC (hideC (.s .a .b) (orC (memS fa4S fa4A fa4H fa4V fa4R) (orC (memS fa0S fa0A fa0H fa0V fa0R) (orC (memS sp5S sp5A sp5H sp5V sp5R) (orC (memS sp6S sp6A sp6H sp6V sp6R) (orC (memS sp7S sp7A sp7H sp7V sp7R) (orC (memS sp8S sp8A sp8H sp8V sp8R) (orC (memS sp9S sp9A sp9H sp9V sp9R) (orC (memS sp10S sp10A sp10H sp10V sp10R) (orC (memS sp11S sp11A sp11H sp11V sp11R) (orC (memS sp12S sp12A sp12H sp12V sp12R) (orC (memS sp13S sp13A sp13H sp13V sp13R) (orC (memS sp14S sp14A sp14H sp14V sp14R) (orC (memS sp15S sp15A sp15H sp15V sp15R) (orC (memS sp16S sp16A sp16H sp16V sp16R) (orC (memS sp17S sp17A sp17H sp17V sp17R) (orC (memS sp18S sp18A sp18H sp18V sp18R) (orC (memS sp19S sp19A sp19H sp19V sp19R) (orC (memS sp20S sp20A sp20H sp20V sp20R) (noCal)))))))))))))))))))) nat
noncomputable def runS (K m N : Nat) : Bool := iniB [.s (.sg a1 K)] (exWs js3 (calM prog natS 60) (kF (fr f3) (.s (.b true))) (fun _ => noB) fun t h => exW jI (calM prog natS 60) t h (inL (SL K m N)) (kF (fr f3) (.s (.b true))) fun _ => noB) (heapB tabL m)
noncomputable def verS (K m N : Nat) : Bool := verC jB (calM prog natS 60) (kF (fr f3) (.s (.b true))) (kxZ 0 jZ (calM prog natS 60) (kF (fr f3) (.s (.b true)))) [] (SL K m N)
noncomputable def posS (K m N : Nat) : Bool := allF (fun s : LS => Nat.ble 2 s.h.n.n) (SL K m N)
end Go.E
