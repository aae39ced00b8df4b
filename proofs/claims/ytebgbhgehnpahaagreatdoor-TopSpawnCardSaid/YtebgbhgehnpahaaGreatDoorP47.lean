/- A part of the proof of the claim that the last text of this folder states. -/
import Derived.Test.YtebgbhgehnpahaaGreatDoorP46
namespace Go.E
set_option linter.all false
set_option maxRecDepth 100000
theorem v16 : runB (calM prog (nat) 60 v16S v16A v16H) v16V v16R = true := by decide +kernel
theorem v17 : runB (calM prog (nat) 60 v17S v17A v17H) v17V v17R = true := by decide +kernel
theorem v18 : runB (calM prog (nat) 60 v18S v18A v18H) v18V v18R = true := by decide +kernel
theorem v19 : runB (calM prog (nat) 60 v19S v19A v19H) v19V v19R = true := by decide +kernel
theorem v20 : runB (calM prog (nat) 60 v20S v20A v20H) v20V v20R = true := by decide +kernel
theorem w34 : runB (trimC (calM prog (orC (memS w35S w35A w35H w35V w35R) (orC (memS w36S w36A w36H w36V w36R) (orC (memS v10S v10A v10H v10V v10R) (orC (memS v11S v11A v11H v11V v11R) (orC (memS v12S v12A v12H v12V v12R) (orC (memS v13S v13A v13H v13V v13R) (orC (memS v14S v14A v14H v14V v14R) (orC (memS v15S v15A v15H v15V v15R) (orC (memS v16S v16A v16H v16V v16R) (orC (memS v17S v17A v17H v17V v17R) (orC (memS v18S v18A v18H v18V v18R) (orC (memS v19S v19A v19H v19V v19R) (orC (memS v20S v20A v20H v20V v20R) (nat)))))))))))))) 60) w34S w34A w34H) w34V w34R = true := by decide +kernel
theorem v21 : runB (calM prog (nat) 60 v21S v21A v21H) v21V v21R = true := by decide +kernel
theorem v22 : runB (calM prog (nat) 60 v22S v22A v22H) v22V v22R = true := by decide +kernel
theorem v23 : runB (calM prog (nat) 60 v23S v23A v23H) v23V v23R = true := by decide +kernel
theorem v24 : runB (calM prog (nat) 60 v24S v24A v24H) v24V v24R = true := by decide +kernel
theorem v25 : runB (calM prog (nat) 60 v25S v25A v25H) v25V v25R = true := by decide +kernel
theorem v26 : runB (calM prog (nat) 60 v26S v26A v26H) v26V v26R = true := by decide +kernel
end Go.E
