/- A part of the proof of the claim that the last text of this folder states. -/
import Derived.Test.YtebgbhgehnpahaaGreatDoorP46
namespace Go.E
set_option linter.all false
set_option maxRecDepth 100000
theorem v38 : runB (calM prog (nat) 60 v38S v38A v38H) v38V v38R = true := by decide +kernel
theorem v39 : runB (calM prog (nat) 60 v39S v39A v39H) v39V v39R = true := by decide +kernel
theorem v40 : runB (calM prog (nat) 60 v40S v40A v40H) v40V v40R = true := by decide +kernel
theorem v41 : runB (calM prog (nat) 60 v41S v41A v41H) v41V v41R = true := by decide +kernel
theorem v42 : runB (calM prog (nat) 60 v42S v42A v42H) v42V v42R = true := by decide +kernel
theorem w48 : runB (trimC (calM prog (orC (memS w49S w49A w49H w49V w49R) (orC (memS w50S w50A w50H w50V w50R) (orC (memS v32S v32A v32H v32V v32R) (orC (memS v33S v33A v33H v33V v33R) (orC (memS v34S v34A v34H v34V v34R) (orC (memS v35S v35A v35H v35V v35R) (orC (memS v36S v36A v36H v36V v36R) (orC (memS v37S v37A v37H v37V v37R) (orC (memS v38S v38A v38H v38V v38R) (orC (memS v39S v39A v39H v39V v39R) (orC (memS v40S v40A v40H v40V v40R) (orC (memS v41S v41A v41H v41V v41R) (orC (memS v42S v42A v42H v42V v42R) (nat)))))))))))))) 60) w48S w48A w48H) w48V w48R = true := by decide +kernel
end Go.E
