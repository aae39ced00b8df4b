/- A part of the proof of the claim that the last text of this folder states. -/
import Derived.Test.YtebgbhgehnpahaaGreatDoorP23
namespace Go.E
set_option linter.all false
set_option maxRecDepth 100000
theorem w24_6 : splL (calM prog nat 60) 96 6 w24S w24A w24H w24V w24R = true := by decide +kernel
theorem w24_7 : splL (calM prog nat 60) 96 7 w24S w24A w24H w24V w24R = true := by decide +kernel
theorem w24_8 : splL (calM prog nat 60) 96 8 w24S w24A w24H w24V w24R = true := by decide +kernel
theorem w24_k : okR w24V w24R = true := by decide +kernel
theorem w25_0 : splL (calM prog nat 60) 96 0 w25S w25A w25H w25V w25R = true := by decide +kernel
theorem w25_1 : splL (calM prog nat 60) 96 1 w25S w25A w25H w25V w25R = true := by decide +kernel
theorem w25_2 : splL (calM prog nat 60) 96 2 w25S w25A w25H w25V w25R = true := by decide +kernel
theorem w25_3 : splL (calM prog nat 60) 96 3 w25S w25A w25H w25V w25R = true := by decide +kernel
theorem w25_4 : splL (calM prog nat 60) 96 4 w25S w25A w25H w25V w25R = true := by decide +kernel
theorem w25_5 : splL (calM prog nat 60) 96 5 w25S w25A w25H w25V w25R = true := by decide +kernel
theorem w25_6 : splL (calM prog nat 60) 96 6 w25S w25A w25H w25V w25R = true := by decide +kernel
theorem w25_7 : splL (calM prog nat 60) 96 7 w25S w25A w25H w25V w25R = true := by decide +kernel
theorem w25_8 : splL (calM prog nat 60) 96 8 w25S w25A w25H w25V w25R = true := by decide +kernel
theorem w25_k : okR w25V w25R = true := by decide +kernel
theorem w26_0 : splL (calM prog nat 60) 96 0 w26S w26A w26H w26V w26R = true := by decide +kernel
theorem w26_1 : splL (calM prog nat 60) 96 1 w26S w26A w26H w26V w26R = true := by decide +kernel
theorem w26_2 : splL (calM prog nat 60) 96 2 w26S w26A w26H w26V w26R = true := by decide +kernel
theorem w26_3 : splL (calM prog nat 60) 96 3 w26S w26A w26H w26V w26R = true := by decide +kernel
theorem w26_4 : splL (calM prog nat 60) 96 4 w26S w26A w26H w26V w26R = true := by decide +kernel
theorem w26_5 : splL (calM prog nat 60) 96 5 w26S w26A w26H w26V w26R = true := by decide +kernel
theorem w26_6 : splL (calM prog nat 60) 96 6 w26S w26A w26H w26V w26R = true := by decide +kernel
theorem w26_7 : splL (calM prog nat 60) 96 7 w26S w26A w26H w26V w26R = true := by decide +kernel
theorem w26_8 : splL (calM prog nat 60) 96 8 w26S w26A w26H w26V w26R = true := by decide +kernel
theorem w26_k : okR w26V w26R = true := by decide +kernel
theorem w27_0 : splL (calM prog nat 60) 96 0 w27S w27A w27H w27V w27R = true := by decide +kernel
theorem w27_1 : splL (calM prog nat 60) 96 1 w27S w27A w27H w27V w27R = true := by decide +kernel
theorem w27_2 : splL (calM prog nat 60) 96 2 w27S w27A w27H w27V w27R = true := by decide +kernel
theorem w27_3 : splL (calM prog nat 60) 96 3 w27S w27A w27H w27V w27R = true := by decide +kernel
theorem w27_4 : splL (calM prog nat 60) 96 4 w27S w27A w27H w27V w27R = true := by decide +kernel
theorem w27_5 : splL (calM prog nat 60) 96 5 w27S w27A w27H w27V w27R = true := by decide +kernel
theorem w27_6 : splL (calM prog nat 60) 96 6 w27S w27A w27H w27V w27R = true := by decide +kernel
theorem w27_7 : splL (calM prog nat 60) 96 7 w27S w27A w27H w27V w27R = true := by decide +kernel
theorem w27_8 : splL (calM prog nat 60) 96 8 w27S w27A w27H w27V w27R = true := by decide +kernel
theorem w27_k : okR w27V w27R = true := by decide +kernel
theorem w28_0 : splL (calM prog nat 60) 96 0 w28S w28A w28H w28V w28R = true := by decide +kernel
theorem w28_1 : splL (calM prog nat 60) 96 1 w28S w28A w28H w28V w28R = true := by decide +kernel
theorem w28_2 : splL (calM prog nat 60) 96 2 w28S w28A w28H w28V w28R = true := by decide +kernel
theorem w28_3 : splL (calM prog nat 60) 96 3 w28S w28A w28H w28V w28R = true := by decide +kernel
theorem w28_4 : splL (calM prog nat 60) 96 4 w28S w28A w28H w28V w28R = true := by decide +kernel
theorem w28_5 : splL (calM prog nat 60) 96 5 w28S w28A w28H w28V w28R = true := by decide +kernel
theorem w28_6 : splL (calM prog nat 60) 96 6 w28S w28A w28H w28V w28R = true := by decide +kernel
theorem w28_7 : splL (calM prog nat 60) 96 7 w28S w28A w28H w28V w28R = true := by decide +kernel
theorem w28_8 : splL (calM prog nat 60) 96 8 w28S w28A w28H w28V w28R = true := by decide +kernel
theorem w28_k : okR w28V w28R = true := by decide +kernel
theorem w29_0 : splL (calM prog nat 60) 96 0 w29S w29A w29H w29V w29R = true := by decide +kernel
theorem w29_1 : splL (calM prog nat 60) 96 1 w29S w29A w29H w29V w29R = true := by decide +kernel
theorem w29_2 : splL (calM prog nat 60) 96 2 w29S w29A w29H w29V w29R = true := by decide +kernel
theorem w29_3 : splL (calM prog nat 60) 96 3 w29S w29A w29H w29V w29R = true := by decide +kernel
theorem w29_4 : splL (calM prog nat 60) 96 4 w29S w29A w29H w29V w29R = true := by decide +kernel
theorem w29_5 : splL (calM prog nat 60) 96 5 w29S w29A w29H w29V w29R = true := by decide +kernel
theorem w29_6 : splL (calM prog nat 60) 96 6 w29S w29A w29H w29V w29R = true := by decide +kernel
theorem w29_7 : splL (calM prog nat 60) 96 7 w29S w29A w29H w29V w29R = true := by decide +kernel
theorem w29_8 : splL (calM prog nat 60) 96 8 w29S w29A w29H w29V w29R = true := by decide +kernel
theorem w29_k : okR w29V w29R = true := by decide +kernel
theorem w30_0 : splL (calM prog nat 60) 96 0 w30S w30A w30H w30V w30R = true := by decide +kernel
theorem w30_1 : splL (calM prog nat 60) 96 1 w30S w30A w30H w30V w30R = true := by decide +kernel
theorem w30_2 : splL (calM prog nat 60) 96 2 w30S w30A w30H w30V w30R = true := by decide +kernel
theorem w30_3 : splL (calM prog nat 60) 96 3 w30S w30A w30H w30V w30R = true := by decide +kernel
theorem w30_4 : splL (calM prog nat 60) 96 4 w30S w30A w30H w30V w30R = true := by decide +kernel
theorem w30_5 : splL (calM prog nat 60) 96 5 w30S w30A w30H w30V w30R = true := by decide +kernel
theorem w30_6 : splL (calM prog nat 60) 96 6 w30S w30A w30H w30V w30R = true := by decide +kernel
theorem w30_7 : splL (calM prog nat 60) 96 7 w30S w30A w30H w30V w30R = true := by decide +kernel
theorem w30_8 : splL (calM prog nat 60) 96 8 w30S w30A w30H w30V w30R = true := by decide +kernel
theorem w30_k : okR w30V w30R = true := by decide +kernel
theorem w31_0 : splL (calM prog nat 60) 96 0 w31S w31A w31H w31V w31R = true := by decide +kernel
theorem w31_1 : splL (calM prog nat 60) 96 1 w31S w31A w31H w31V w31R = true := by decide +kernel
theorem w31_2 : splL (calM prog nat 60) 96 2 w31S w31A w31H w31V w31R = true := by decide +kernel
theorem w31_3 : splL (calM prog nat 60) 96 3 w31S w31A w31H w31V w31R = true := by decide +kernel
theorem w31_4 : splL (calM prog nat 60) 96 4 w31S w31A w31H w31V w31R = true := by decide +kernel
theorem w31_5 : splL (calM prog nat 60) 96 5 w31S w31A w31H w31V w31R = true := by decide +kernel
theorem w31_6 : splL (calM prog nat 60) 96 6 w31S w31A w31H w31V w31R = true := by decide +kernel
theorem w31_7 : splL (calM prog nat 60) 96 7 w31S w31A w31H w31V w31R = true := by decide +kernel
theorem w31_8 : splL (calM prog nat 60) 96 8 w31S w31A w31H w31V w31R = true := by decide +kernel
theorem w31_k : okR w31V w31R = true := by decide +kernel
theorem w32_0 : splL (calM prog nat 60) 64 0 w32S w32A w32H w32V w32R = true := by decide +kernel
theorem w32_1 : splL (calM prog nat 60) 64 1 w32S w32A w32H w32V w32R = true := by decide +kernel
theorem w32_2 : splL (calM prog nat 60) 64 2 w32S w32A w32H w32V w32R = true := by decide +kernel
theorem w32_3 : splL (calM prog nat 60) 64 3 w32S w32A w32H w32V w32R = true := by decide +kernel
theorem w32_4 : splL (calM prog nat 60) 64 4 w32S w32A w32H w32V w32R = true := by decide +kernel
theorem w32_5 : splL (calM prog nat 60) 64 5 w32S w32A w32H w32V w32R = true := by decide +kernel
theorem w32_6 : splL (calM prog nat 60) 64 6 w32S w32A w32H w32V w32R = true := by decide +kernel
theorem w32_7 : splL (calM prog nat 60) 64 7 w32S w32A w32H w32V w32R = true := by decide +kernel
theorem w32_8 : splL (calM prog nat 60) 64 8 w32S w32A w32H w32V w32R = true := by decide +kernel
theorem w32_9 : splL (calM prog nat 60) 64 9 w32S w32A w32H w32V w32R = true := by decide +kernel
theorem w32_10 : splL (calM prog nat 60) 64 10 w32S w32A w32H w32V w32R = true := by decide +kernel
theorem w32_11 : splL (calM prog nat 60) 64 11 w32S w32A w32H w32V w32R = true := by decide +kernel
theorem w32_12 : splL (calM prog nat 60) 64 12 w32S w32A w32H w32V w32R = true := by decide +kernel
theorem w32_13 : splL (calM prog nat 60) 64 13 w32S w32A w32H w32V w32R = true := by decide +kernel
theorem w32_14 : splL (calM prog nat 60) 64 14 w32S w32A w32H w32V w32R = true := by decide +kernel
theorem w32_15 : splL (calM prog nat 60) 64 15 w32S w32A w32H w32V w32R = true := by decide +kernel
theorem w32_16 : splL (calM prog nat 60) 64 16 w32S w32A w32H w32V w32R = true := by decide +kernel
theorem w32_17 : splL (calM prog nat 60) 64 17 w32S w32A w32H w32V w32R = true := by decide +kernel
theorem w32_18 : splL (calM prog nat 60) 64 18 w32S w32A w32H w32V w32R = true := by decide +kernel
theorem w32_19 : splL (calM prog nat 60) 64 19 w32S w32A w32H w32V w32R = true := by decide +kernel
theorem w32_20 : splL (calM prog nat 60) 64 20 w32S w32A w32H w32V w32R = true := by decide +kernel
theorem w32_21 : splL (calM prog nat 60) 64 21 w32S w32A w32H w32V w32R = true := by decide +kernel
theorem w32_22 : splL (calM prog nat 60) 64 22 w32S w32A w32H w32V w32R = true := by decide +kernel
theorem w32_23 : splL (calM prog nat 60) 64 23 w32S w32A w32H w32V w32R = true := by decide +kernel
theorem w32_24 : splL (calM prog nat 60) 64 24 w32S w32A w32H w32V w32R = true := by decide +kernel
theorem w32_25 : splL (calM prog nat 60) 64 25 w32S w32A w32H w32V w32R = true := by decide +kernel
theorem w32_26 : splL (calM prog nat 60) 64 26 w32S w32A w32H w32V w32R = true := by decide +kernel
theorem w32_27 : splL (calM prog nat 60) 64 27 w32S w32A w32H w32V w32R = true := by decide +kernel
theorem w32_28 : splL (calM prog nat 60) 64 28 w32S w32A w32H w32V w32R = true := by decide +kernel
theorem w32_29 : splL (calM prog nat 60) 64 29 w32S w32A w32H w32V w32R = true := by decide +kernel
theorem w32_k : okR w32V w32R = true := by decide +kernel
theorem w33_0 : splL (calM prog nat 60) 96 0 w33S w33A w33H w33V w33R = true := by decide +kernel
theorem w33_1 : splL (calM prog nat 60) 96 1 w33S w33A w33H w33V w33R = true := by decide +kernel
theorem w33_2 : splL (calM prog nat 60) 96 2 w33S w33A w33H w33V w33R = true := by decide +kernel
theorem w33_3 : splL (calM prog nat 60) 96 3 w33S w33A w33H w33V w33R = true := by decide +kernel
theorem w33_4 : splL (calM prog nat 60) 96 4 w33S w33A w33H w33V w33R = true := by decide +kernel
theorem w33_5 : splL (calM prog nat 60) 96 5 w33S w33A w33H w33V w33R = true := by decide +kernel
theorem w33_6 : splL (calM prog nat 60) 96 6 w33S w33A w33H w33V w33R = true := by decide +kernel
theorem w33_7 : splL (calM prog nat 60) 96 7 w33S w33A w33H w33V w33R = true := by decide +kernel
theorem w33_8 : splL (calM prog nat 60) 96 8 w33S w33A w33H w33V w33R = true := by decide +kernel
theorem w33_k : okR w33V w33R = true := by decide +kernel
set_option maxRecDepth 100000
theorem w23 : runB (calM prog (orC (memS w24S w24A w24H w24V w24R) (orC (memS w25S w25A w25H w25V w25R) (orC (memS w26S w26A w26H w26V w26R) (orC (memS w27S w27A w27H w27V w27R) (orC (memS w28S w28A w28H w28V w28R) (orC (memS w29S w29A w29H w29V w29R) (orC (memS w30S w30A w30H w30V w30R) (orC (memS w31S w31A w31H w31V w31R) (orC (memS w32S w32A w32H w32V w32R) (orC (memS w33S w33A w33H w33V w33R) (nat))))))))))) 60 w23S w23A w23H) w23V w23R = true := by decide +kernel
theorem w35_0 : splL (calM prog nat 60) 64 0 w35S w35A w35H w35V w35R = true := by decide +kernel
theorem w35_1 : splL (calM prog nat 60) 64 1 w35S w35A w35H w35V w35R = true := by decide +kernel
theorem w35_2 : splL (calM prog nat 60) 64 2 w35S w35A w35H w35V w35R = true := by decide +kernel
theorem w35_3 : splL (calM prog nat 60) 64 3 w35S w35A w35H w35V w35R = true := by decide +kernel
theorem w35_4 : splL (calM prog nat 60) 64 4 w35S w35A w35H w35V w35R = true := by decide +kernel
theorem w35_5 : splL (calM prog nat 60) 64 5 w35S w35A w35H w35V w35R = true := by decide +kernel
theorem w35_6 : splL (calM prog nat 60) 64 6 w35S w35A w35H w35V w35R = true := by decide +kernel
theorem w35_7 : splL (calM prog nat 60) 64 7 w35S w35A w35H w35V w35R = true := by decide +kernel
theorem w35_8 : splL (calM prog nat 60) 64 8 w35S w35A w35H w35V w35R = true := by decide +kernel
theorem w35_9 : splL (calM prog nat 60) 64 9 w35S w35A w35H w35V w35R = true := by decide +kernel
theorem w35_10 : splL (calM prog nat 60) 64 10 w35S w35A w35H w35V w35R = true := by decide +kernel
theorem w35_11 : splL (calM prog nat 60) 64 11 w35S w35A w35H w35V w35R = true := by decide +kernel
theorem w35_12 : splL (calM prog nat 60) 64 12 w35S w35A w35H w35V w35R = true := by decide +kernel
theorem w35_13 : splL (calM prog nat 60) 64 13 w35S w35A w35H w35V w35R = true := by decide +kernel
theorem w35_14 : splL (calM prog nat 60) 64 14 w35S w35A w35H w35V w35R = true := by decide +kernel
theorem w35_15 : splL (calM prog nat 60) 64 15 w35S w35A w35H w35V w35R = true := by decide +kernel
theorem w35_16 : splL (calM prog nat 60) 64 16 w35S w35A w35H w35V w35R = true := by decide +kernel
theorem w35_17 : splL (calM prog nat 60) 64 17 w35S w35A w35H w35V w35R = true := by decide +kernel
theorem w35_18 : splL (calM prog nat 60) 64 18 w35S w35A w35H w35V w35R = true := by decide +kernel
theorem w35_19 : splL (calM prog nat 60) 64 19 w35S w35A w35H w35V w35R = true := by decide +kernel
theorem w35_20 : splL (calM prog nat 60) 64 20 w35S w35A w35H w35V w35R = true := by decide +kernel
end Go.E
