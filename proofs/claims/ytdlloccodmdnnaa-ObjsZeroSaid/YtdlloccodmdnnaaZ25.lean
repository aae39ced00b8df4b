/- Package objs: a thread's words. -/
import Derived.Test.YtdlloccodmdnnaaZ10
import Derived.Test.YtdlloccodmdnnaaZ24
import Derived.Test.YtdlloccodmdnnaaZ17
import Derived.Test.YtdlloccodmdnnaaZ16
/- Package objs: a thread's words. -/
namespace Go.Proofs.Ytdlloccodmdnnaa
open Go.D
set_option linter.all false
set_option maxRecDepth 100000
set_option maxHeartbeats 8000000

structure Th where
  st : Int
  pr : Int
  sl : Int
  qd : Bool
  pv : Int
  nx : Int
  bl : Int
  bg : Int
  cg : Bool
  ic : Bool
  bo : Int
  ha : Int
  fk : Int
  fa : Int
  rg : List Int
def Th.c (t : Th) : List S := .i .i64 t.st :: .i .i64 t.pr :: .i .i64 t.sl :: .b t.qd :: .i .i64 t.pv :: .i .i64 t.nx :: .i .i64 t.bl :: .i .i64 t.bg :: .b t.cg :: .b t.ic :: .i .i64 t.bo :: .i .i64 t.ha :: .i .i64 t.fk :: .i .i64 t.fa :: wc t.rg
def thZ : Th := ⟨0, 0, 0, false, 0, 0, 0, 0, false, false, 0, 0, 0, 0, List.replicate 16 0⟩
theorem thZ_c : thZ.c = [.i .i64 0, .i .i64 0, .i .i64 0, .b false, .i .i64 0, .i .i64 0, .i .i64 0, .i .i64 0, .b false, .b false, .i .i64 0, .i .i64 0, .i .i64 0, .i .i64 0, .i .u64 0, .i .u64 0, .i .u64 0, .i .u64 0, .i .u64 0, .i .u64 0, .i .u64 0, .i .u64 0, .i .u64 0, .i .u64 0, .i .u64 0, .i .u64 0, .i .u64 0, .i .u64 0, .i .u64 0, .i .u64 0] := rfl
def thF (f : Th → Res) : List V → Res
  | [.agg (.i .i64 a :: .i .i64 b :: .i .i64 c :: .b d :: .i .i64 e :: .i .i64 g :: .i .i64 i :: .i .i64 j :: .b k :: .b l :: .i .i64 n :: .i .i64 o :: .i .i64 p :: .i .i64 q :: r)] =>
    match unwc r with
    | some v => .ob (v.length = 16) (f ⟨a, b, c, d, e, g, i, j, k, l, n, o, p, q, v⟩)
    | none => .bad
  | _ => .bad
theorem thF_spec {f : Th → Res} {args : List V} {K : V → List Blk → Prop} (h : (thF f args).spec K) : ∃ t : Th, args = [.agg t.c] ∧ t.rg.length = 16 ∧ (f t).spec K := by
  unfold thF at h
  split at h
  · split at h
    · rename_i v e
      obtain ⟨h1, h2⟩ := h
      exact ⟨⟨_, _, _, _, _, _, _, _, _, _, _, _, _, _, v⟩, by rw [wc_unwc e]; rfl, h1, h2⟩
    · exact h.elim
  · exact h.elim
theorem th_eta (t : Th) : (⟨t.st, t.pr, t.sl, t.qd, t.pv, t.nx, t.bl, t.bg, t.cg, t.ic, t.bo, t.ha, t.fk, t.fa, t.rg⟩ : Th) = t := rfl
def Th.B (t : Th) : Bool := in3 t.pv 0 65535 && (in3 t.nx 0 65535 && (in3 t.bl 0 65535 && (in3 t.bo 0 65535 && (in3 t.st 0 5 && (in3 t.pr 0 255 && (in3 t.sl 0 5 && (in3 t.fk 0 3 && (in3 t.bg 0 268435455 && (in3 t.ha 0 4294967295 && in3 t.fa 0 4294967295)))))))))
theorem Th.B_iff {t : Th} : t.B = true ↔ (0 ≤ t.pv ∧ t.pv ≤ 65535) ∧ (0 ≤ t.nx ∧ t.nx ≤ 65535) ∧ (0 ≤ t.bl ∧ t.bl ≤ 65535) ∧ (0 ≤ t.bo ∧ t.bo ≤ 65535) ∧ (0 ≤ t.st ∧ t.st ≤ 5) ∧ (0 ≤ t.pr ∧ t.pr ≤ 255) ∧ (0 ≤ t.sl ∧ t.sl ≤ 5) ∧ (0 ≤ t.fk ∧ t.fk ≤ 3) ∧ (0 ≤ t.bg ∧ t.bg ≤ 268435455) ∧ (0 ≤ t.ha ∧ t.ha ≤ 4294967295) ∧ (0 ≤ t.fa ∧ t.fa ≤ 4294967295) := by
  simp only [Th.B, Bool.and_eq_true, in3_iff]
def Th.h0 (t : Th) : Int := t.st + 8 * t.pr + 2048 * t.sl + 16384 * bI t.qd + 32768 * bI t.cg + 65536 * bI t.ic + 131072 * t.fk
def Th.h1 (t : Th) : Int := t.pv + 65536 * t.nx + 4294967296 * t.bl + 281474976710656 * t.bo
def Th.h3 (t : Th) : Int := t.ha + 4294967296 * t.fa
theorem bI_u (b : Bool) : 0 ≤ bI b ∧ bI b ≤ 1 := by cases b <;> decide
theorem Th.h_u {t : Th} (h : t.B = true) : u64 t.h0 ∧ u64 t.h1 ∧ u64 t.bg ∧ u64 t.h3 := by
  have := Th.B_iff.1 h
  have b1 := bI_u t.qd
  have b2 := bI_u t.cg
  have b3 := bI_u t.ic
  simp only [u64, Th.h0, Th.h1, Th.h3]; omega
def thBG (args : List V) (h : List Blk) : Res := thF (fun t => .ok (.s (.b t.B)) [] h) args
def thHG (args : List V) (h : List Blk) : Res := thF (fun t => .ob (t.B = true) (.ok (.agg [.i .u64 t.h0, .i .u64 t.h1, .i .u64 t.bg, .i .u64 t.h3]) [] h)) args
theorem wc_take {L : List Int} (h : L.length = 16) : List.take 16 (wc L) = wc L := by rw [List.take_of_length_le]; rw [wc_len]; omega
theorem thB_snd : Snd Try.prog 103 (FSpec.of thBG) := snd_run To3_snd mixed Try.func103 dc103 200 fun args h K hc hS => by
  obtain ⟨t, rfl, hl, hR⟩ := thF_spec hS
  clear hS
  simp only [spec_ok, Th.B] at hR
  simp only [Th.c]
  have w1 := wc_known t.rg
  simp (config := { maxSteps := 10000000 }) only [run_drx, run_xd, run_xq, run_xg, run_xb, EV1, EV2, EV3, EV4, EV5, EV6, addT, istep, lenR_sl, lenR_ns, lenR_es, pickR, putD, bin1R, un1R, slcR, bnd, capsOf, fillP, S_plain, V_plain, V.cells, S_known, V_known, C.v, blk, setL, setH, eqS, eq1, cmpS, cmp1, isNil, popTo, killT, setT, leT, V.below, C.below, S_below, R.below, V.val, C.val, S_val, R.val, R.takes, vals, shows, List.any_cons, List.any_nil, unnamed, V.kill, V.names, C.names, S_names, R.names, List.set, List.replicate, ↓q_cond_t, ↓q_cond_f, if_true, if_false, reduceCtorEq, rvals, rvC, result, C_known, V.noL, C.noL, S_noL, R.noL, Option.map, true_and, and_true, ge_iff_le, gt_iff_lt, implies_true, q_ite_t, q_ite_f, beq_iff_eq, bne_iff_ne, q_ne, Nat.reduceAdd, Nat.reducePow, Int.reducePow, Nat.reduceMul, Nat.reduceSub, Nat.reduceLeDiff, Nat.reduceLT, Nat.reduceEqDiff, Int.reduceNeg, Int.reduceLT, Int.reduceLE, Int.reduceEq, Int.reduceNe, Int.reduceAdd, Int.reduceSub, Int.reduceMul, Int.reduceToNat, Int.reduceBEq, Int.reduceBNe, df103, To3, rinG, w1, Bool.and_assoc, sub, put, fillP, List.take_succ_cons, List.take_zero, List.drop_zero]
  exact hR
def bitG : List V → List Blk → Res
  | [.s (.b q)], h => .ok (.s (.i .u64 (bI q))) [] h
  | _, _ => .bad
theorem bit_snd : Snd Try.prog 122 (FSpec.of bitG) := snd_run (noT_snd _) mixed Try.func122 dc122 100 fun args h K hc hS => by
  unfold bitG at hS
  split at hS
  · rename_i q
    simp only [spec_ok, bI] at hS
    cases q
    · simp (config := { maxSteps := 10000000 }) only [run_drx, run_xd, run_xq, run_xg, run_xb, EV1, EV2, EV3, EV4, EV5, EV6, addT, istep, lenR_sl, lenR_ns, lenR_es, pickR, putD, bin1R, un1R, slcR, bnd, capsOf, fillP, S_plain, V_plain, V.cells, S_known, V_known, C.v, blk, setL, setH, eqS, eq1, cmpS, cmp1, isNil, popTo, killT, setT, leT, V.below, C.below, S_below, R.below, V.val, C.val, S_val, R.val, R.takes, vals, shows, List.any_cons, List.any_nil, unnamed, V.kill, V.names, C.names, S_names, R.names, List.set, List.replicate, ↓q_cond_t, ↓q_cond_f, if_true, if_false, reduceCtorEq, rvals, rvC, result, C_known, V.noL, C.noL, S_noL, R.noL, Option.map, true_and, and_true, ge_iff_le, gt_iff_lt, implies_true, q_ite_t, q_ite_f, beq_iff_eq, bne_iff_ne, q_ne, Nat.reduceAdd, Nat.reducePow, Int.reducePow, Nat.reduceMul, Nat.reduceSub, Nat.reduceLeDiff, Nat.reduceLT, Nat.reduceEqDiff, Int.reduceNeg, Int.reduceLT, Int.reduceLE, Int.reduceEq, Int.reduceNe, Int.reduceAdd, Int.reduceSub, Int.reduceMul, Int.reduceToNat, Int.reduceBEq, Int.reduceBNe, df122]
      exact hS
    · simp (config := { maxSteps := 10000000 }) only [run_drx, run_xd, run_xq, run_xg, run_xb, EV1, EV2, EV3, EV4, EV5, EV6, addT, istep, lenR_sl, lenR_ns, lenR_es, pickR, putD, bin1R, un1R, slcR, bnd, capsOf, fillP, S_plain, V_plain, V.cells, S_known, V_known, C.v, blk, setL, setH, eqS, eq1, cmpS, cmp1, isNil, popTo, killT, setT, leT, V.below, C.below, S_below, R.below, V.val, C.val, S_val, R.val, R.takes, vals, shows, List.any_cons, List.any_nil, unnamed, V.kill, V.names, C.names, S_names, R.names, List.set, List.replicate, ↓q_cond_t, ↓q_cond_f, if_true, if_false, reduceCtorEq, rvals, rvC, result, C_known, V.noL, C.noL, S_noL, R.noL, Option.map, true_and, and_true, ge_iff_le, gt_iff_lt, implies_true, q_ite_t, q_ite_f, beq_iff_eq, bne_iff_ne, q_ne, Nat.reduceAdd, Nat.reducePow, Int.reducePow, Nat.reduceMul, Nat.reduceSub, Nat.reduceLeDiff, Nat.reduceLT, Nat.reduceEqDiff, Int.reduceNeg, Int.reduceLT, Int.reduceLE, Int.reduceEq, Int.reduceNe, Int.reduceAdd, Int.reduceSub, Int.reduceMul, Int.reduceToNat, Int.reduceBEq, Int.reduceBNe, df122]
      exact hS
  · exact hS.elim
noncomputable def To8 : Tab := addT 122 bitG (noT)
theorem To8_snd : To8.Snd Try.prog := addT_snd ok122 bit_snd ((noT_snd _))
theorem thH_snd : Snd Try.prog 104 (FSpec.of thHG) := snd_run To8_snd mixed Try.func104 dc104 200 fun args h K hc hS => by
  obtain ⟨t, rfl, hl, hB, hR⟩ := thF_spec hS
  clear hS
  have hb := Th.B_iff.1 hB
  have b1 := bI_u t.qd
  have b2 := bI_u t.cg
  have b3 := bI_u t.ic
  simp only [spec_ok, Th.h0, Th.h1, Th.h3] at hR
  simp only [Th.c]
  have w1 := wc_known t.rg
  obtain ⟨q, hq⟩ : ∃ q, bI t.qd = q := ⟨_, rfl⟩
  obtain ⟨g, hg⟩ : ∃ q, bI t.cg = q := ⟨_, rfl⟩
  obtain ⟨i, hi⟩ : ∃ q, bI t.ic = q := ⟨_, rfl⟩
  rw [hq] at b1
  rw [hg] at b2
  rw [hi] at b3
  rw [hq, hg, hi] at hR
  have m3 : min 3 IntKind.u64.bits = 3 := rfl
  have m11 : min 11 IntKind.u64.bits = 11 := rfl
  have m14 : min 14 IntKind.u64.bits = 14 := rfl
  have m15 : min 15 IntKind.u64.bits = 15 := rfl
  have m16 : min 16 IntKind.u64.bits = 16 := rfl
  have m17 : min 17 IntKind.u64.bits = 17 := rfl
  have m32 : min 32 IntKind.u64.bits = 32 := rfl
  have m48 : min 48 IntKind.u64.bits = 48 := rfl
  have y1 : IntKind.u64.wrap t.st = t.st := wrapu (by omega) (by omega)
  have y2 : IntKind.u64.wrap t.pr = t.pr := wrapu (by omega) (by omega)
  have y3 : IntKind.u64.wrap (t.pr * 8) = t.pr * 8 := wrapu (by omega) (by omega)
  have y4 : IntKind.u64.wrap (t.st + t.pr * 8) = t.st + t.pr * 8 := wrapu (by omega) (by omega)
  have y5 : IntKind.u64.wrap t.sl = t.sl := wrapu (by omega) (by omega)
  have y6 : IntKind.u64.wrap (t.sl * 2048) = t.sl * 2048 := wrapu (by omega) (by omega)
  have y7 : IntKind.u64.wrap (t.st + t.pr * 8 + t.sl * 2048) = t.st + t.pr * 8 + t.sl * 2048 := wrapu (by omega) (by omega)
  have y8 : IntKind.u64.wrap (q * 16384) = q * 16384 := wrapu (by omega) (by omega)
  have y9 : IntKind.u64.wrap (t.st + t.pr * 8 + t.sl * 2048 + q * 16384) = t.st + t.pr * 8 + t.sl * 2048 + q * 16384 := wrapu (by omega) (by omega)
  have y10 : IntKind.u64.wrap (g * 32768) = g * 32768 := wrapu (by omega) (by omega)
  have y11 : IntKind.u64.wrap (t.st + t.pr * 8 + t.sl * 2048 + q * 16384 + g * 32768) = t.st + t.pr * 8 + t.sl * 2048 + q * 16384 + g * 32768 := wrapu (by omega) (by omega)
  have y12 : IntKind.u64.wrap (i * 65536) = i * 65536 := wrapu (by omega) (by omega)
  have y13 : IntKind.u64.wrap (t.st + t.pr * 8 + t.sl * 2048 + q * 16384 + g * 32768 + i * 65536) = t.st + t.pr * 8 + t.sl * 2048 + q * 16384 + g * 32768 + i * 65536 := wrapu (by omega) (by omega)
  have y14 : IntKind.u64.wrap t.fk = t.fk := wrapu (by omega) (by omega)
  have y15 : IntKind.u64.wrap (t.fk * 131072) = t.fk * 131072 := wrapu (by omega) (by omega)
  have y16 : IntKind.u64.wrap (t.st + t.pr * 8 + t.sl * 2048 + q * 16384 + g * 32768 + i * 65536 + t.fk * 131072) = t.st + 8 * t.pr + 2048 * t.sl + 16384 * q + 32768 * g + 65536 * i + 131072 * t.fk := by rw [wrapu (by omega) (by omega)]; omega
  have z1 : IntKind.u64.wrap t.pv = t.pv := wrapu (by omega) (by omega)
  have z2 : IntKind.u64.wrap t.nx = t.nx := wrapu (by omega) (by omega)
  have z3 : IntKind.u64.wrap (t.nx * 65536) = t.nx * 65536 := wrapu (by omega) (by omega)
  have z4 : IntKind.u64.wrap (t.pv + t.nx * 65536) = t.pv + t.nx * 65536 := wrapu (by omega) (by omega)
  have z5 : IntKind.u64.wrap t.bl = t.bl := wrapu (by omega) (by omega)
  have z6 : IntKind.u64.wrap (t.bl * 4294967296) = t.bl * 4294967296 := wrapu (by omega) (by omega)
  have z7 : IntKind.u64.wrap (t.pv + t.nx * 65536 + t.bl * 4294967296) = t.pv + t.nx * 65536 + t.bl * 4294967296 := wrapu (by omega) (by omega)
  have z8 : IntKind.u64.wrap t.bo = t.bo := wrapu (by omega) (by omega)
  have z9 : IntKind.u64.wrap (t.bo * 281474976710656) = t.bo * 281474976710656 := wrapu (by omega) (by omega)
  have z10 : IntKind.u64.wrap (t.pv + t.nx * 65536 + t.bl * 4294967296 + t.bo * 281474976710656) = t.pv + 65536 * t.nx + 4294967296 * t.bl + 281474976710656 * t.bo := by rw [wrapu (by omega) (by omega)]; omega
  have v1 : IntKind.u64.wrap t.bg = t.bg := wrapu (by omega) (by omega)
  have v2 : IntKind.u64.wrap t.ha = t.ha := wrapu (by omega) (by omega)
  have v3 : IntKind.u64.wrap t.fa = t.fa := wrapu (by omega) (by omega)
  have v4 : IntKind.u64.wrap (t.fa * 4294967296) = t.fa * 4294967296 := wrapu (by omega) (by omega)
  have v5 : IntKind.u64.wrap (t.ha + t.fa * 4294967296) = t.ha + 4294967296 * t.fa := by rw [wrapu (by omega) (by omega)]; omega
  simp (config := { maxSteps := 10000000 }) only [run_drx, run_xd, run_xq, run_xg, run_xb, EV1, EV2, EV3, EV4, EV5, EV6, addT, istep, lenR_sl, lenR_ns, lenR_es, pickR, putD, bin1R, un1R, slcR, bnd, capsOf, fillP, S_plain, V_plain, V.cells, S_known, V_known, C.v, blk, setL, setH, eqS, eq1, cmpS, cmp1, isNil, popTo, killT, setT, leT, V.below, C.below, S_below, R.below, V.val, C.val, S_val, R.val, R.takes, vals, shows, List.any_cons, List.any_nil, unnamed, V.kill, V.names, C.names, S_names, R.names, List.set, List.replicate, ↓q_cond_t, ↓q_cond_f, if_true, if_false, reduceCtorEq, rvals, rvC, result, C_known, V.noL, C.noL, S_noL, R.noL, Option.map, true_and, and_true, ge_iff_le, gt_iff_lt, implies_true, q_ite_t, q_ite_f, beq_iff_eq, bne_iff_ne, q_ne, Nat.reduceAdd, Nat.reducePow, Int.reducePow, Nat.reduceMul, Nat.reduceSub, Nat.reduceLeDiff, Nat.reduceLT, Nat.reduceEqDiff, Int.reduceNeg, Int.reduceLT, Int.reduceLE, Int.reduceEq, Int.reduceNe, Int.reduceAdd, Int.reduceSub, Int.reduceMul, Int.reduceToNat, Int.reduceBEq, Int.reduceBNe, df104, To8, bitG, w1, hq, hg, hi, m3, m11, m14, m15, m16, m17, m32, m48, y1, y2, y3, y4, y5, y6, y7, y8, y9, y10, y11, y12, y13, y14, y15, y16, z1, z2, z3, z4, z5, z6, z7, z8, z9, z10, v1, v2, v3, v4, v5, sub, put, fillP, List.take_succ_cons, List.take_zero, List.drop_zero]
  exact hR
end Go.Proofs.Ytdlloccodmdnnaa

