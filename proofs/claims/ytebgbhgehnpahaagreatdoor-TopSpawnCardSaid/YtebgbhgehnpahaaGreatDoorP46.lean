/- A part of the proof of the claim that the last text of this folder states. -/
import Derived.Test.YtebgbhgehnpahaaGreatDoorP23
namespace Go.E
set_option linter.all false
set_option maxRecDepth 100000
noncomputable def v0A : List V := []
noncomputable def v0H : Hp := hset w21R [] a274 1 273
noncomputable def v0S : S := (.fm a74 false a48 0)
noncomputable def v0V : V := (.s (.b true))
noncomputable def v0R : Hp := hset v0H [] a274 1 273
noncomputable def v1A : List V := []
noncomputable def v1H : Hp := hset v0R [] a274 1 273
noncomputable def v1S : S := (.fm a75 false a48 0)
noncomputable def v1V : V := (.s (.b true))
noncomputable def v1R : Hp := hset v1H [] a274 1 273
noncomputable def v2A : List V := []
noncomputable def v2H : Hp := hset v1R [] a274 1 273
noncomputable def v2S : S := (.fm a76 false a48 0)
noncomputable def v2V : V := (.s (.b true))
noncomputable def v2R : Hp := hset v2H [] a274 1 273
noncomputable def v3A : List V := []
noncomputable def v3H : Hp := hset v2R [] a274 1 273
noncomputable def v3S : S := (.fm a77 false a48 0)
noncomputable def v3V : V := (.s (.b true))
noncomputable def v3R : Hp := hset v3H [] a274 1 273
noncomputable def v4A : List V := []
noncomputable def v4H : Hp := hset v3R [] a274 1 273
noncomputable def v4S : S := (.fm a78 false a48 0)
noncomputable def v4V : V := (.s (.b true))
noncomputable def v4R : Hp := hset v4H [] a274 1 273
noncomputable def v5A : List V := []
noncomputable def v5H : Hp := hset v4R [] a274 1 273
noncomputable def v5S : S := (.fm a79 false a48 0)
noncomputable def v5V : V := (.s (.b true))
noncomputable def v5R : Hp := hset v5H [] a274 1 273
noncomputable def v6A : List V := []
noncomputable def v6H : Hp := hset v5R [] a274 1 273
noncomputable def v6S : S := (.fm a81 false a48 0)
noncomputable def v6V : V := (.s (.b true))
noncomputable def v6R : Hp := hset v6H [] a274 1 273
noncomputable def v7A : List V := []
noncomputable def v7H : Hp := hset v6R [] a274 1 273
noncomputable def v7S : S := (.fm a82 false a48 0)
noncomputable def v7V : V := (.s (.b true))
noncomputable def v7R : Hp := hset v7H [] a274 1 273
noncomputable def v8A : List V := []
noncomputable def v8H : Hp := hset v7R [] a274 1 273
noncomputable def v8S : S := (.fm a83 false a48 0)
noncomputable def v8V : V := (.s (.b true))
noncomputable def v8R : Hp := hset v8H [] a274 1 273
noncomputable def v9A : List V := []
noncomputable def v9H : Hp := hset v8R [] a274 1 273
noncomputable def v9S : S := (.fm a84 false a48 0)
noncomputable def v9V : V := (.s (.b true))
noncomputable def v9R : Hp := hset v9H [] a274 1 273
noncomputable def v10A : List V := []
noncomputable def v10H : Hp := hset w36R [] a274 1 273
noncomputable def v10S : S := (.fm a74 false a48 0)
noncomputable def v10V : V := (.s (.b true))
noncomputable def v10R : Hp := hset v10H [] a274 1 273
noncomputable def v11A : List V := []
noncomputable def v11H : Hp := hset w36R [] a274 1 273
noncomputable def v11S : S := (.fm a75 false a48 0)
noncomputable def v11V : V := (.s (.b true))
noncomputable def v11R : Hp := hset v11H [] a274 1 273
noncomputable def v12A : List V := []
noncomputable def v12H : Hp := hset w36R [] a274 1 273
noncomputable def v12S : S := (.fm a76 false a48 0)
noncomputable def v12V : V := (.s (.b true))
noncomputable def v12R : Hp := hset v12H [] a274 1 273
noncomputable def v13A : List V := []
noncomputable def v13H : Hp := hset w36R [] a274 1 273
noncomputable def v13S : S := (.fm a77 false a48 0)
noncomputable def v13V : V := (.s (.b true))
noncomputable def v13R : Hp := hset v13H [] a274 1 273
noncomputable def v14A : List V := []
noncomputable def v14H : Hp := hset w36R [] a274 1 273
noncomputable def v14S : S := (.fm a78 false a48 0)
noncomputable def v14V : V := (.s (.b true))
noncomputable def v14R : Hp := hset v14H [] a274 1 273
noncomputable def v15A : List V := []
noncomputable def v15H : Hp := hset w36R [] a274 1 273
noncomputable def v15S : S := (.fm a79 false a48 0)
noncomputable def v15V : V := (.s (.b true))
noncomputable def v15R : Hp := hset v15H [] a274 1 273
noncomputable def v16A : List V := []
noncomputable def v16H : Hp := hset w36R [] a274 1 273
noncomputable def v16S : S := (.fm a80 false a48 0)
noncomputable def v16V : V := (.s (.b true))
noncomputable def v16R : Hp := hset v16H [] a274 1 273
noncomputable def v17A : List V := []
noncomputable def v17H : Hp := hset w36R [] a274 1 273
noncomputable def v17S : S := (.fm a81 false a48 0)
noncomputable def v17V : V := (.s (.b true))
noncomputable def v17R : Hp := hset v17H [] a274 1 273
noncomputable def v18A : List V := []
noncomputable def v18H : Hp := hset w36R [] a274 1 273
noncomputable def v18S : S := (.fm a82 false a48 0)
noncomputable def v18V : V := (.s (.b true))
noncomputable def v18R : Hp := hset v18H [] a274 1 273
noncomputable def v19A : List V := []
noncomputable def v19H : Hp := hset w36R [] a274 1 273
noncomputable def v19S : S := (.fm a83 false a48 0)
noncomputable def v19V : V := (.s (.b true))
noncomputable def v19R : Hp := hset v19H [] a274 1 273
noncomputable def v20A : List V := []
noncomputable def v20H : Hp := hset w36R [] a274 1 273
noncomputable def v20S : S := (.fm a84 false a48 0)
noncomputable def v20V : V := (.s (.b true))
noncomputable def v20R : Hp := hset v20H [] a274 1 273
noncomputable def v21A : List V := []
noncomputable def v21H : Hp := hset w45R [] a274 1 273
noncomputable def v21S : S := (.fm a74 false a48 0)
noncomputable def v21V : V := (.s (.b true))
noncomputable def v21R : Hp := hset v21H [] a274 1 273
noncomputable def v22A : List V := []
noncomputable def v22H : Hp := hset w45R [] a274 1 273
noncomputable def v22S : S := (.fm a75 false a48 0)
noncomputable def v22V : V := (.s (.b true))
noncomputable def v22R : Hp := hset v22H [] a274 1 273
noncomputable def v23A : List V := []
noncomputable def v23H : Hp := hset w45R [] a274 1 273
noncomputable def v23S : S := (.fm a76 false a48 0)
noncomputable def v23V : V := (.s (.b true))
noncomputable def v23R : Hp := hset v23H [] a274 1 273
noncomputable def v24A : List V := []
noncomputable def v24H : Hp := hset w45R [] a274 1 273
noncomputable def v24S : S := (.fm a77 false a48 0)
noncomputable def v24V : V := (.s (.b true))
noncomputable def v24R : Hp := hset v24H [] a274 1 273
noncomputable def v25A : List V := []
noncomputable def v25H : Hp := hset w45R [] a274 1 273
noncomputable def v25S : S := (.fm a78 false a48 0)
noncomputable def v25V : V := (.s (.b true))
noncomputable def v25R : Hp := hset v25H [] a274 1 273
noncomputable def v26A : List V := []
noncomputable def v26H : Hp := hset w45R [] a274 1 273
noncomputable def v26S : S := (.fm a79 false a48 0)
noncomputable def v26V : V := (.s (.b true))
noncomputable def v26R : Hp := hset v26H [] a274 1 273
noncomputable def v27A : List V := []
noncomputable def v27H : Hp := hset w45R [] a274 1 273
noncomputable def v27S : S := (.fm a80 false a48 0)
noncomputable def v27V : V := (.s (.b true))
noncomputable def v27R : Hp := hset v27H [] a274 1 273
noncomputable def v28A : List V := []
noncomputable def v28H : Hp := hset w45R [] a274 1 273
noncomputable def v28S : S := (.fm a81 false a48 0)
noncomputable def v28V : V := (.s (.b true))
noncomputable def v28R : Hp := hset v28H [] a274 1 273
noncomputable def v29A : List V := []
noncomputable def v29H : Hp := hset w45R [] a274 1 273
noncomputable def v29S : S := (.fm a82 false a48 0)
noncomputable def v29V : V := (.s (.b true))
noncomputable def v29R : Hp := hset v29H [] a274 1 273
noncomputable def v30A : List V := []
noncomputable def v30H : Hp := hset w45R [] a274 1 273
noncomputable def v30S : S := (.fm a83 false a48 0)
noncomputable def v30V : V := (.s (.b true))
noncomputable def v30R : Hp := hset v30H [] a274 1 273
noncomputable def v31A : List V := []
noncomputable def v31H : Hp := hset w45R [] a274 1 273
noncomputable def v31S : S := (.fm a84 false a48 0)
noncomputable def v31V : V := (.s (.b true))
noncomputable def v31R : Hp := hset v31H [] a274 1 273
noncomputable def v32A : List V := []
noncomputable def v32H : Hp := hset w50R [] a274 1 273
noncomputable def v32S : S := (.fm a74 false a48 0)
noncomputable def v32V : V := (.s (.b true))
noncomputable def v32R : Hp := hset v32H [] a274 1 273
noncomputable def v33A : List V := []
noncomputable def v33H : Hp := hset w50R [] a274 1 273
noncomputable def v33S : S := (.fm a75 false a48 0)
noncomputable def v33V : V := (.s (.b true))
noncomputable def v33R : Hp := hset v33H [] a274 1 273
noncomputable def v34A : List V := []
noncomputable def v34H : Hp := hset w50R [] a274 1 273
noncomputable def v34S : S := (.fm a76 false a48 0)
noncomputable def v34V : V := (.s (.b true))
noncomputable def v34R : Hp := hset v34H [] a274 1 273
noncomputable def v35A : List V := []
noncomputable def v35H : Hp := hset w50R [] a274 1 273
noncomputable def v35S : S := (.fm a77 false a48 0)
noncomputable def v35V : V := (.s (.b true))
noncomputable def v35R : Hp := hset v35H [] a274 1 273
noncomputable def v36A : List V := []
noncomputable def v36H : Hp := hset w50R [] a274 1 273
noncomputable def v36S : S := (.fm a78 false a48 0)
noncomputable def v36V : V := (.s (.b true))
noncomputable def v36R : Hp := hset v36H [] a274 1 273
noncomputable def v37A : List V := []
noncomputable def v37H : Hp := hset w50R [] a274 1 273
noncomputable def v37S : S := (.fm a79 false a48 0)
noncomputable def v37V : V := (.s (.b true))
noncomputable def v37R : Hp := hset v37H [] a274 1 273
noncomputable def v38A : List V := []
noncomputable def v38H : Hp := hset w50R [] a274 1 273
noncomputable def v38S : S := (.fm a80 false a48 0)
noncomputable def v38V : V := (.s (.b true))
noncomputable def v38R : Hp := hset v38H [] a274 1 273
noncomputable def v39A : List V := []
noncomputable def v39H : Hp := hset w50R [] a274 1 273
noncomputable def v39S : S := (.fm a81 false a48 0)
noncomputable def v39V : V := (.s (.b true))
noncomputable def v39R : Hp := hset v39H [] a274 1 273
noncomputable def v40A : List V := []
noncomputable def v40H : Hp := hset w50R [] a274 1 273
noncomputable def v40S : S := (.fm a82 false a48 0)
noncomputable def v40V : V := (.s (.b true))
noncomputable def v40R : Hp := hset v40H [] a274 1 273
noncomputable def v41A : List V := []
noncomputable def v41H : Hp := hset w50R [] a274 1 273
noncomputable def v41S : S := (.fm a83 false a48 0)
noncomputable def v41V : V := (.s (.b true))
noncomputable def v41R : Hp := hset v41H [] a274 1 273
noncomputable def v42A : List V := []
noncomputable def v42H : Hp := hset w50R [] a274 1 273
noncomputable def v42S : S := (.fm a84 false a48 0)
noncomputable def v42V : V := (.s (.b true))
noncomputable def v42R : Hp := hset v42H [] a274 1 273
set_option maxRecDepth 100000
theorem v0 : runB (calM prog (nat) 60 v0S v0A v0H) v0V v0R = true := by decide +kernel
theorem v1 : runB (calM prog (nat) 60 v1S v1A v1H) v1V v1R = true := by decide +kernel
theorem v2 : runB (calM prog (nat) 60 v2S v2A v2H) v2V v2R = true := by decide +kernel
theorem v3 : runB (calM prog (nat) 60 v3S v3A v3H) v3V v3R = true := by decide +kernel
theorem v4 : runB (calM prog (nat) 60 v4S v4A v4H) v4V v4R = true := by decide +kernel
theorem v5 : runB (calM prog (nat) 60 v5S v5A v5H) v5V v5R = true := by decide +kernel
theorem v6 : runB (calM prog (nat) 60 v6S v6A v6H) v6V v6R = true := by decide +kernel
theorem v7 : runB (calM prog (nat) 60 v7S v7A v7H) v7V v7R = true := by decide +kernel
theorem v8 : runB (calM prog (nat) 60 v8S v8A v8H) v8V v8R = true := by decide +kernel
theorem v9 : runB (calM prog (nat) 60 v9S v9A v9H) v9V v9R = true := by decide +kernel
theorem w19 : runB (trimC (calM prog (orC (memS w20S w20A w20H w20V w20R) (orC (memS w21S w21A w21H w21V w21R) (orC (memS v0S v0A v0H v0V v0R) (orC (memS v1S v1A v1H v1V v1R) (orC (memS v2S v2A v2H v2V v2R) (orC (memS v3S v3A v3H v3V v3R) (orC (memS v4S v4A v4H v4V v4R) (orC (memS v5S v5A v5H v5V v5R) (orC (memS w22S w22A w22H w22V w22R) (orC (memS v6S v6A v6H v6V v6R) (orC (memS v7S v7A v7H v7V v7R) (orC (memS v8S v8A v8H v8V v8R) (orC (memS v9S v9A v9H v9V v9R) (nat)))))))))))))) 60) w19S w19A w19H) w19V w19R = true := by decide +kernel
theorem v10 : runB (calM prog (nat) 60 v10S v10A v10H) v10V v10R = true := by decide +kernel
theorem v11 : runB (calM prog (nat) 60 v11S v11A v11H) v11V v11R = true := by decide +kernel
theorem v12 : runB (calM prog (nat) 60 v12S v12A v12H) v12V v12R = true := by decide +kernel
theorem v13 : runB (calM prog (nat) 60 v13S v13A v13H) v13V v13R = true := by decide +kernel
theorem v14 : runB (calM prog (nat) 60 v14S v14A v14H) v14V v14R = true := by decide +kernel
theorem v15 : runB (calM prog (nat) 60 v15S v15A v15H) v15V v15R = true := by decide +kernel
end Go.E
