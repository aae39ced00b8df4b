/- A part of the proof of the claim that the last text of this folder states. -/
import Derived.Test.YtebgbhgehnpahaaGreatDoorP46
namespace Go.E
set_option linter.all false
set_option maxRecDepth 100000
theorem v27 : runB (calM prog (nat) 60 v27S v27A v27H) v27V v27R = true := by decide +kernel
theorem v28 : runB (calM prog (nat) 60 v28S v28A v28H) v28V v28R = true := by decide +kernel
theorem v29 : runB (calM prog (nat) 60 v29S v29A v29H) v29V v29R = true := by decide +kernel
theorem v30 : runB (calM prog (nat) 60 v30S v30A v30H) v30V v30R = true := by decide +kernel
theorem v31 : runB (calM prog (nat) 60 v31S v31A v31H) v31V v31R = true := by decide +kernel
theorem w43 : runB (trimC (calM prog (orC (memS w44S w44A w44H w44V w44R) (orC (memS w45S w45A w45H w45V w45R) (orC (memS v21S v21A v21H v21V v21R) (orC (memS v22S v22A v22H v22V v22R) (orC (memS v23S v23A v23H v23V v23R) (orC (memS v24S v24A v24H v24V v24R) (orC (memS v25S v25A v25H v25V v25R) (orC (memS v26S v26A v26H v26V v26R) (orC (memS v27S v27A v27H v27V v27R) (orC (memS v28S v28A v28H v28V v28R) (orC (memS v29S v29A v29H v29V v29R) (orC (memS v30S v30A v30H v30V v30R) (orC (memS v31S v31A v31H v31V v31R) (nat)))))))))))))) 60) w43S w43A w43H) w43V w43R = true := by decide +kernel
theorem v32 : runB (calM prog (nat) 60 v32S v32A v32H) v32V v32R = true := by decide +kernel
theorem v33 : runB (calM prog (nat) 60 v33S v33A v33H) v33V v33R = true := by decide +kernel
theorem v34 : runB (calM prog (nat) 60 v34S v34A v34H) v34V v34R = true := by decide +kernel
theorem v35 : runB (calM prog (nat) 60 v35S v35A v35H) v35V v35R = true := by decide +kernel
theorem v36 : runB (calM prog (nat) 60 v36S v36A v36H) v36V v36R = true := by decide +kernel
theorem v37 : runB (calM prog (nat) 60 v37S v37A v37H) v37V v37R = true := by decide +kernel
end Go.E
