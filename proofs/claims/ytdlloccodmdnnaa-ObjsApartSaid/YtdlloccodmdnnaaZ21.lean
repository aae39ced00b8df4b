/- Package walk, and the document's: Index, Walk. -/
import Derived.Test.YtdlloccodmdnnaaZ10
import Derived.Test.YtdlloccodmdnnaaZ16
/- Package walk: entries, indices. -/
namespace Go.Proofs.Ytdlloccodmdnnaa
open Go.D
set_option linter.all false
set_option maxRecDepth 100000
set_option maxHeartbeats 4000000

structure En where
  v : Bool
  l : Bool
  a : Int
  r : Int
def En.c (e : En) : List S := [.b e.v, .b e.l, .i .i64 e.a, .i .i64 e.r]
theorem En.c_len (e : En) : e.c.length = 4 := rfl
def enZ : En := ⟨false, false, 0, 0⟩
theorem En.ext' {e f : En} (h1 : e.v = f.v) (h2 : e.l = f.l) (h3 : e.a = f.a) (h4 : e.r = f.r) : e = f := by
  cases e; cases f; simp only at h1 h2 h3 h4; subst h1; subst h2; subst h3; subst h4; rfl
/-- May it be? -/
def En.may (e : En) : Bool :=
  match e.v, e.l with
  | false, l => !l && (e.a == 0 && e.r == 0)
  | true, true => decide (16 ≤ e.a ∧ e.a ≤ 65520 ∧ e.a % 16 = 0 ∧ 0 ≤ e.r ∧ e.r ≤ 3)
  | true, false => decide (8 ≤ e.a ∧ e.a ≤ 65528 ∧ e.a % 8 = 0 ∧ e.r = 0)
def bI (b : Bool) : Int := if b then 1 else 0
def En.w (e : En) : Int := e.a * 65536 + e.r * 4 + (bI e.v + 2 * bI e.l)
/-- What a word says. -/
def enOf (w : Int) : En := ⟨decide (w % 2 = 1), decide (w / 2 % 2 = 1), w / 65536 % 65536, w / 4 % 4⟩
def enB (w : Int) : Bool := (enOf w).may && decide ((enOf w).w = w)
theorem En.w_uu {e : En} (h : e.may = true) : u64 e.w ∧ 0 ≤ e.a ∧ e.a ≤ 65528 ∧ 0 ≤ e.r ∧ e.r ≤ 3 := by
  obtain ⟨v, l, a, r⟩ := e
  cases v <;> cases l <;> simp [En.may, En.w, bI, u64] at h ⊢ <;> omega
/-! ### bits -/
theorem u64_and_mask {w : Int} (hw : u64 w) {k : Nat} (hk : k ≤ 64) {m : Int} (hm : m = ((2 ^ k - 1 : Nat) : Int)) : bits .and .u64 w m = w % (2 ^ k : Nat) := by
  obtain ⟨n, rfl, hn⟩ := hw.nat
  have hp : 2 ^ k ≤ 18446744073709551616 := by have := pow_le64 (k := 0) (n := k) (by omega); simpa using this
  rw [hm, bits_and_u64_nat n _ hn (by have := Nat.two_pow_pos k; omega), Nat.and_two_pow_sub_one_eq_mod, Int.natCast_emod]
theorem and1 {w : Int} (hw : u64 w) : bits .and .u64 w 1 = w % 2 := u64_and_mask hw (k := 1) (by omega) rfl
theorem and3 {w : Int} (hw : u64 w) : bits .and .u64 w 3 = w % 4 := u64_and_mask hw (k := 2) (by omega) rfl
theorem and16 {w : Int} (hw : u64 w) : bits .and .u64 w 65535 = w % 65536 := u64_and_mask hw (k := 16) (by omega) rfl
theorem and2 {w : Int} (hw : u64 w) : bits .and .u64 w 2 = w / 2 % 2 * 2 := by
  obtain ⟨n, rfl, hn⟩ := hw.nat
  have := bits_and_u64_nat n 2 hn (by omega)
  rw [show ((2 : Nat) : Int) = 2 from rfl] at this
  rw [this]
  have h2 := nat_and_field n 1 1
  simp only [Nat.reducePow, Nat.reduceSub, Nat.reduceMul] at h2
  rw [h2]; omega
/-- Bits that are apart are added. -/
theorem u64_or_add {a b : Int} {k : Nat} (ha : u64 a) (hb : 0 ≤ b) (hk : b < (2 ^ k : Nat)) (hd : a % (2 ^ k : Nat) = 0) (hk64 : k ≤ 64) : bits .or .u64 a b = a + b := by
  obtain ⟨n, rfl, hn⟩ := ha.nat
  obtain ⟨m, rfl⟩ : ∃ m : Nat, b = m := ⟨b.toNat, by omega⟩
  have hm : m < 2 ^ k := by omega
  have hp : 2 ^ k ≤ 18446744073709551616 := by have := pow_le64 (k := 0) (n := k) (by omega); simpa using this
  rw [bits_or_u64_nat n m hn (by omega)]
  obtain ⟨q, hq⟩ : ∃ q, n = 2 ^ k * q := ⟨n / 2 ^ k, by
    have h1 : n % 2 ^ k = 0 := by exact_mod_cast hd
    have := Nat.div_add_mod n (2 ^ k); omega⟩
  rw [hq, ← Nat.two_pow_add_eq_or_of_lt hm]
  simp
theorem or_leaf {a : Int} (ha : u64 a) (h : a % 4 = 1) : bits .or .u64 a 2 = a + 2 := by
  obtain ⟨n, rfl, hn⟩ := ha.nat
  have := bits_or_u64_nat n 2 hn (by omega)
  rw [show ((2 : Nat) : Int) = 2 from rfl] at this
  rw [this]
  have h1 : n % 4 = 1 := by omega
  have e : n = 2 ^ 2 * (n / 4) + 1 := by omega
  have e1 : n ||| 2 = 2 ^ 2 * (n / 4) + 3 := by
    have h2 := Nat.two_pow_add_eq_or_of_lt (i := 2) (b := 1) (by omega) (n / 4)
    have h3 := Nat.two_pow_add_eq_or_of_lt (i := 2) (b := 3) (by omega) (n / 4)
    rw [h3]
    conv => lhs; rw [e, h2, Nat.or_assoc]
    rfl
  rw [e1]; omega

/-! ### package walk -/
def wInG : List V → List Blk → Res
  | [.s (.i .i64 n), .s (.i .i64 a), .s (.i .i64 b), .s (.i .i64 k)], h => .ob (k ≠ 0) (.ok (.s (.b (decide (a ≤ n) && (decide (n ≤ b) && n.tmod k == 0)))) [] h)
  | _, _ => .bad
theorem wIn_snd : Snd Try.prog 125 (FSpec.of wInG) := snd_run (noT_snd _) mixed Try.func125 dc125 100 fun args h K hc hS => by
  unfold wInG at hS
  split at hS
  · simp only [spec_ob, spec_ok] at hS
    obtain ⟨h0, hS⟩ := hS
    simp (config := { maxSteps := 10000000 }) only [run_drx, run_xd, run_xq, run_xg, run_xb, EV1, EV2, EV3, EV4, EV5, EV6, addT, istep, lenR_sl, lenR_ns, lenR_es, pickR, putD, bin1R, un1R, slcR, bnd, capsOf, fillP, S_plain, V_plain, V.cells, S_known, V_known, C.v, blk, setL, setH, eqS, eq1, cmpS, cmp1, isNil, popTo, killT, setT, leT, V.below, C.below, S_below, R.below, V.val, C.val, S_val, R.val, R.takes, vals, shows, List.any_cons, List.any_nil, unnamed, V.kill, V.names, C.names, S_names, R.names, List.set, List.replicate, ↓q_cond_t, ↓q_cond_f, if_true, if_false, reduceCtorEq, rvals, rvC, result, C_known, V.noL, C.noL, S_noL, R.noL, Option.map, true_and, and_true, ge_iff_le, gt_iff_lt, implies_true, q_ite_t, q_ite_f, beq_iff_eq, bne_iff_ne, q_ne, Nat.reduceAdd, Nat.reducePow, Int.reducePow, Nat.reduceMul, Nat.reduceSub, Nat.reduceLeDiff, Nat.reduceLT, Nat.reduceEqDiff, Int.reduceNeg, Int.reduceLT, Int.reduceLE, Int.reduceEq, Int.reduceNe, Int.reduceAdd, Int.reduceSub, Int.reduceMul, Int.reduceToNat, Int.reduceBEq, Int.reduceBNe, df125, h0, Bool.and_assoc]
    exact hS
  · exact hS.elim
def TwI : Tab := addT 125 wInG noT
theorem TwI_snd : TwI.Snd Try.prog := addT_snd ok125 wIn_snd (noT_snd _)

def enF (f : En → Res) : List V → Res
  | [.agg [.b v, .b l, .i .i64 a, .i .i64 r]] => f ⟨v, l, a, r⟩
  | _ => .bad
theorem enF_spec {f : En → Res} {args : List V} {K : V → List Blk → Prop} (h : (enF f args).spec K) : ∃ e : En, args = [.agg e.c] ∧ (f e).spec K := by
  unfold enF at h
  split at h
  · exact ⟨_, rfl, h⟩
  · exact h.elim
def wMayG (args : List V) (h : List Blk) : Res := enF (fun e => .ok (.s (.b e.may)) [] h) args
theorem tmod1 (n : Int) : n.tmod 1 = 0 := by simp
theorem tmod_0 {a : Int} {k : Int} (h : 0 ≤ a) : (a.tmod k = 0) = (a % k = 0) := by rw [Int.tmod_eq_emod_of_nonneg h]
theorem may_leaf (a r : Int) : (decide (16 ≤ a) && (decide (a ≤ 65520) && a.tmod 16 == 0) && (decide (0 ≤ r) && decide (r ≤ 3))) = decide (16 ≤ a ∧ a ≤ 65520 ∧ a % 16 = 0 ∧ 0 ≤ r ∧ r ≤ 3) := by
  rw [Bool.eq_iff_iff]
  simp only [Bool.and_eq_true, decide_eq_true_eq, beq_iff_eq]
  by_cases h : 0 ≤ a
  · rw [tmod_0 h]; omega
  · omega
theorem may_table (a r : Int) : (decide (8 ≤ a) && (decide (a ≤ 65528) && a.tmod 8 == 0) && r == 0) = decide (8 ≤ a ∧ a ≤ 65528 ∧ a % 8 = 0 ∧ r = 0) := by
  rw [Bool.eq_iff_iff]
  simp only [Bool.and_eq_true, decide_eq_true_eq, beq_iff_eq]
  by_cases h : 0 ≤ a
  · rw [tmod_0 h]; omega
  · omega
theorem wMay_snd : Snd Try.prog 115 (FSpec.of wMayG) := snd_run TwI_snd mixed Try.func115 dc115 200 fun args h K hc hS => by
  obtain ⟨⟨v, l, a, r⟩, rfl, hR⟩ := enF_spec hS
  clear hS
  simp only [spec_ok] at hR
  simp only [En.c]
  cases v <;> cases l
  all_goals simp only [En.may, ← may_leaf, ← may_table, Bool.not_false, Bool.not_true, Bool.true_and, Bool.false_and] at hR
  all_goals simp (config := { maxSteps := 10000000 }) only [run_drx, run_xd, run_xq, run_xg, run_xb, EV1, EV2, EV3, EV4, EV5, EV6, addT, istep, lenR_sl, lenR_ns, lenR_es, pickR, putD, bin1R, un1R, slcR, bnd, capsOf, fillP, S_plain, V_plain, V.cells, S_known, V_known, C.v, blk, setL, setH, eqS, eq1, cmpS, cmp1, isNil, popTo, killT, setT, leT, V.below, C.below, S_below, R.below, V.val, C.val, S_val, R.val, R.takes, vals, shows, List.any_cons, List.any_nil, unnamed, V.kill, V.names, C.names, S_names, R.names, List.set, List.replicate, ↓q_cond_t, ↓q_cond_f, if_true, if_false, reduceCtorEq, rvals, rvC, result, C_known, V.noL, C.noL, S_noL, R.noL, Option.map, true_and, and_true, ge_iff_le, gt_iff_lt, implies_true, q_ite_t, q_ite_f, beq_iff_eq, bne_iff_ne, q_ne, Nat.reduceAdd, Nat.reducePow, Int.reducePow, Nat.reduceMul, Nat.reduceSub, Nat.reduceLeDiff, Nat.reduceLT, Nat.reduceEqDiff, Int.reduceNeg, Int.reduceLT, Int.reduceLE, Int.reduceEq, Int.reduceNe, Int.reduceAdd, Int.reduceSub, Int.reduceMul, Int.reduceToNat, Int.reduceBEq, Int.reduceBNe, df115, TwI, wInG, tmod1, Bool.and_assoc, put, fillP]
  all_goals first | exact hR | (simpa [Bool.and_assoc] using hR)
end Go.Proofs.Ytdlloccodmdnnaa

/- Package walk, and the document's: Encode, Decode, Index. -/
namespace Go.Proofs.Ytdlloccodmdnnaa
open Go.D
set_option linter.all false
set_option maxRecDepth 100000
set_option maxHeartbeats 4000000

theorem min2u : min 2 IntKind.u64.bits = 2 := rfl
theorem min16u : min 16 IntKind.u64.bits = 16 := rfl
def encEG (args : List V) (h : List Blk) : Res := enF (fun e => .br e.may (.ok (.tup [.s (.i .u64 e.w), .s (.i .i64 0)]) [] h) (.ok (.tup [.s (.i .u64 0), .s (.i .i64 10)]) [] h)) args
def TwM : Tab := addT 115 wMayG noT
theorem TwM_snd : TwM.Snd Try.prog := addT_snd ok115 wMay_snd (noT_snd _)
theorem encE_snd : Snd Try.prog 81 (FSpec.of encEG) := snd_run TwM_snd mixed Try.func81 dc81 200 fun args h K hc hS => by
  obtain ⟨⟨v, l, a, r⟩, rfl, hR⟩ := enF_spec hS
  clear hS
  simp only [spec_br, spec_ok] at hR
  simp only [En.c]
  cases hm : (En.mk v l a r).may with
  | false =>
    have hR := hR.2 hm
    simp (config := { maxSteps := 10000000 }) only [run_drx, run_xd, run_xq, run_xg, run_xb, EV1, EV2, EV3, EV4, EV5, EV6, addT, istep, lenR_sl, lenR_ns, lenR_es, pickR, putD, bin1R, un1R, slcR, bnd, capsOf, fillP, S_plain, V_plain, V.cells, S_known, V_known, C.v, blk, setL, setH, eqS, eq1, cmpS, cmp1, isNil, popTo, killT, setT, leT, V.below, C.below, S_below, R.below, V.val, C.val, S_val, R.val, R.takes, vals, shows, List.any_cons, List.any_nil, unnamed, V.kill, V.names, C.names, S_names, R.names, List.set, List.replicate, ↓q_cond_t, ↓q_cond_f, if_true, if_false, reduceCtorEq, rvals, rvC, result, C_known, V.noL, C.noL, S_noL, R.noL, Option.map, true_and, and_true, ge_iff_le, gt_iff_lt, implies_true, q_ite_t, q_ite_f, beq_iff_eq, bne_iff_ne, q_ne, Nat.reduceAdd, Nat.reducePow, Int.reducePow, Nat.reduceMul, Nat.reduceSub, Nat.reduceLeDiff, Nat.reduceLT, Nat.reduceEqDiff, Int.reduceNeg, Int.reduceLT, Int.reduceLE, Int.reduceEq, Int.reduceNe, Int.reduceAdd, Int.reduceSub, Int.reduceMul, Int.reduceToNat, Int.reduceBEq, Int.reduceBNe, df81, TwM, wMayG, enF, hm]
    exact hR
  | true =>
    have hR := hR.1 hm
    obtain ⟨_, a1, a2, r1, r2⟩ := En.w_uu hm
    simp only at a1 a2 r1 r2
    have x1 : IntKind.u64.wrap a = a := wrapu a1 (by omega)
    have x2 : IntKind.u64.wrap (a * 65536) = a * 65536 := wrapu (by omega) (by omega)
    have x3 : IntKind.u64.wrap r = r := wrapu r1 (by omega)
    have x4 : IntKind.u64.wrap (r * 4) = r * 4 := wrapu (by omega) (by omega)
    have o1 : bits .or .u64 (a * 65536) (r * 4) = a * 65536 + r * 4 := u64_or_add (k := 16) ⟨by omega, by omega⟩ (by omega) (by omega) (by omega) (by omega)
    have o2 : bits .or .u64 (a * 65536 + r * 4) 1 = a * 65536 + r * 4 + 1 := u64_or_add (k := 2) ⟨by omega, by omega⟩ (by omega) (by omega) (by omega) (by omega)
    have o3 : bits .or .u64 (a * 65536 + r * 4 + 1) 2 = a * 65536 + r * 4 + 1 + 2 := or_leaf ⟨by omega, by omega⟩ (by omega)
    cases v <;> cases l
    · simp (config := { maxSteps := 10000000 }) only [run_drx, run_xd, run_xq, run_xg, run_xb, EV1, EV2, EV3, EV4, EV5, EV6, addT, istep, lenR_sl, lenR_ns, lenR_es, pickR, putD, bin1R, un1R, slcR, bnd, capsOf, fillP, S_plain, V_plain, V.cells, S_known, V_known, C.v, blk, setL, setH, eqS, eq1, cmpS, cmp1, isNil, popTo, killT, setT, leT, V.below, C.below, S_below, R.below, V.val, C.val, S_val, R.val, R.takes, vals, shows, List.any_cons, List.any_nil, unnamed, V.kill, V.names, C.names, S_names, R.names, List.set, List.replicate, ↓q_cond_t, ↓q_cond_f, if_true, if_false, reduceCtorEq, rvals, rvC, result, C_known, V.noL, C.noL, S_noL, R.noL, Option.map, true_and, and_true, ge_iff_le, gt_iff_lt, implies_true, q_ite_t, q_ite_f, beq_iff_eq, bne_iff_ne, q_ne, Nat.reduceAdd, Nat.reducePow, Int.reducePow, Nat.reduceMul, Nat.reduceSub, Nat.reduceLeDiff, Nat.reduceLT, Nat.reduceEqDiff, Int.reduceNeg, Int.reduceLT, Int.reduceLE, Int.reduceEq, Int.reduceNe, Int.reduceAdd, Int.reduceSub, Int.reduceMul, Int.reduceToNat, Int.reduceBEq, Int.reduceBNe, df81, TwM, wMayG, enF, hm, x1, x2, x3, x4, o1, o2, o3, min2u, min16u]
      simpa [En.w, bI] using hR
    · simp [En.may] at hm
    · simp (config := { maxSteps := 10000000 }) only [run_drx, run_xd, run_xq, run_xg, run_xb, EV1, EV2, EV3, EV4, EV5, EV6, addT, istep, lenR_sl, lenR_ns, lenR_es, pickR, putD, bin1R, un1R, slcR, bnd, capsOf, fillP, S_plain, V_plain, V.cells, S_known, V_known, C.v, blk, setL, setH, eqS, eq1, cmpS, cmp1, isNil, popTo, killT, setT, leT, V.below, C.below, S_below, R.below, V.val, C.val, S_val, R.val, R.takes, vals, shows, List.any_cons, List.any_nil, unnamed, V.kill, V.names, C.names, S_names, R.names, List.set, List.replicate, ↓q_cond_t, ↓q_cond_f, if_true, if_false, reduceCtorEq, rvals, rvC, result, C_known, V.noL, C.noL, S_noL, R.noL, Option.map, true_and, and_true, ge_iff_le, gt_iff_lt, implies_true, q_ite_t, q_ite_f, beq_iff_eq, bne_iff_ne, q_ne, Nat.reduceAdd, Nat.reducePow, Int.reducePow, Nat.reduceMul, Nat.reduceSub, Nat.reduceLeDiff, Nat.reduceLT, Nat.reduceEqDiff, Int.reduceNeg, Int.reduceLT, Int.reduceLE, Int.reduceEq, Int.reduceNe, Int.reduceAdd, Int.reduceSub, Int.reduceMul, Int.reduceToNat, Int.reduceBEq, Int.reduceBNe, df81, TwM, wMayG, enF, hm, x1, x2, x3, x4, o1, o2, o3, min2u, min16u]
      simpa [En.w, bI] using hR
    · simp (config := { maxSteps := 10000000 }) only [run_drx, run_xd, run_xq, run_xg, run_xb, EV1, EV2, EV3, EV4, EV5, EV6, addT, istep, lenR_sl, lenR_ns, lenR_es, pickR, putD, bin1R, un1R, slcR, bnd, capsOf, fillP, S_plain, V_plain, V.cells, S_known, V_known, C.v, blk, setL, setH, eqS, eq1, cmpS, cmp1, isNil, popTo, killT, setT, leT, V.below, C.below, S_below, R.below, V.val, C.val, S_val, R.val, R.takes, vals, shows, List.any_cons, List.any_nil, unnamed, V.kill, V.names, C.names, S_names, R.names, List.set, List.replicate, ↓q_cond_t, ↓q_cond_f, if_true, if_false, reduceCtorEq, rvals, rvC, result, C_known, V.noL, C.noL, S_noL, R.noL, Option.map, true_and, and_true, ge_iff_le, gt_iff_lt, implies_true, q_ite_t, q_ite_f, beq_iff_eq, bne_iff_ne, q_ne, Nat.reduceAdd, Nat.reducePow, Int.reducePow, Nat.reduceMul, Nat.reduceSub, Nat.reduceLeDiff, Nat.reduceLT, Nat.reduceEqDiff, Int.reduceNeg, Int.reduceLT, Int.reduceLE, Int.reduceEq, Int.reduceNe, Int.reduceAdd, Int.reduceSub, Int.reduceMul, Int.reduceToNat, Int.reduceBEq, Int.reduceBNe, df81, TwM, wMayG, enF, hm, x1, x2, x3, x4, o1, o2, o3, min2u, min16u]
      refine cast (congrArg (fun x => K (.tup [.s (.i .u64 x), .s (.i .i64 0)]) h) ?_) hR
      simp only [En.w, bI, if_true]; omega

def decEG : List V → List Blk → Res
  | [.s (.i .u64 w)], h => .ob (u64 w) (.br (enB w) (.ok (.tup [.agg (enOf w).c, .s (.i .i64 0)]) [] h) (.ok (.tup [.agg enZ.c, .s (.i .i64 10)]) [] h))
  | _, _ => .bad
def TwE : Tab := addT 81 encEG noT
theorem TwE_snd : TwE.Snd Try.prog := addT_snd ok81 encE_snd (noT_snd _)
theorem decE_snd : Snd Try.prog 75 (FSpec.of decEG) := snd_run TwE_snd mixed Try.func75 dc75 200 fun args h K hc hS => by
  unfold decEG at hS
  split at hS
  · rename_i w
    simp only [spec_ob, spec_br, spec_ok] at hS
    obtain ⟨hu, hS⟩ := hS
    have hu2 := hu
    obtain ⟨h0, h1⟩ := hu2
    have a1 := and1 hu
    have a2 := and2 hu
    have a3 : bits .and .u64 (w / 4) 3 = w / 4 % 4 := and3 ⟨by omega, by omega⟩
    have a4 : bits .and .u64 (w / 65536) 65535 = w / 65536 % 65536 := and16 ⟨by omega, by omega⟩
    have b1 : (w % 2 != 0) = decide (w % 2 = 1) := by rw [Bool.eq_iff_iff]; simp only [bne_iff_ne, decide_eq_true_eq]; omega
    have b2 : (w / 2 % 2 * 2 != 0) = decide (w / 2 % 2 = 1) := by rw [Bool.eq_iff_iff]; simp only [bne_iff_ne, decide_eq_true_eq]; omega
    have i1 : IntKind.i64.wrap (w / 4 % 4) = w / 4 % 4 := wrap64 (by omega) (by omega)
    have i2 : IntKind.i64.wrap (w / 65536 % 65536) = w / 65536 % 65536 := wrap64 (by omega) (by omega)
    simp only [enB, enOf, En.c] at hS
    obtain ⟨v, hv⟩ : ∃ v, decide (w % 2 = 1) = v := ⟨_, rfl⟩
    obtain ⟨l, hl⟩ : ∃ v, decide (w / 2 % 2 = 1) = v := ⟨_, rfl⟩
    obtain ⟨a, ha⟩ : ∃ v, w / 65536 % 65536 = v := ⟨_, rfl⟩
    obtain ⟨r, hr⟩ : ∃ v, w / 4 % 4 = v := ⟨_, rfl⟩
    rw [hr] at i1
    rw [ha] at i2
    simp only [hv, hl, ha, hr] at hS
    cases hm : (En.mk v l a r).may with
    | false =>
      have hS := hS.2 (by rw [hm]; rfl)
      simp (config := { maxSteps := 10000000 }) only [run_drx, run_xd, run_xq, run_xg, run_xb, EV1, EV2, EV3, EV4, EV5, EV6, addT, istep, lenR_sl, lenR_ns, lenR_es, pickR, putD, bin1R, un1R, slcR, bnd, capsOf, fillP, S_plain, V_plain, V.cells, S_known, V_known, C.v, blk, setL, setH, eqS, eq1, cmpS, cmp1, isNil, popTo, killT, setT, leT, V.below, C.below, S_below, R.below, V.val, C.val, S_val, R.val, R.takes, vals, shows, List.any_cons, List.any_nil, unnamed, V.kill, V.names, C.names, S_names, R.names, List.set, List.replicate, ↓q_cond_t, ↓q_cond_f, if_true, if_false, reduceCtorEq, rvals, rvC, result, C_known, V.noL, C.noL, S_noL, R.noL, Option.map, true_and, and_true, ge_iff_le, gt_iff_lt, implies_true, q_ite_t, q_ite_f, beq_iff_eq, bne_iff_ne, q_ne, Nat.reduceAdd, Nat.reducePow, Int.reducePow, Nat.reduceMul, Nat.reduceSub, Nat.reduceLeDiff, Nat.reduceLT, Nat.reduceEqDiff, Int.reduceNeg, Int.reduceLT, Int.reduceLE, Int.reduceEq, Int.reduceNe, Int.reduceAdd, Int.reduceSub, Int.reduceMul, Int.reduceToNat, Int.reduceBEq, Int.reduceBNe, df75, TwE, encEG, enF, hm, a1, a2, a3, a4, b1, b2, i1, i2, min2u, min16u, hv, hl, ha, hr, put, fillP]
      exact hS
    | true =>
      by_cases he : (En.mk v l a r).w = w
      · have hS := hS.1 (by rw [hm]; simpa using he)
        have f1 : ((En.mk v l a r).w != w) = false := by simpa using he
        simp (config := { maxSteps := 10000000 }) only [run_drx, run_xd, run_xq, run_xg, run_xb, EV1, EV2, EV3, EV4, EV5, EV6, addT, istep, lenR_sl, lenR_ns, lenR_es, pickR, putD, bin1R, un1R, slcR, bnd, capsOf, fillP, S_plain, V_plain, V.cells, S_known, V_known, C.v, blk, setL, setH, eqS, eq1, cmpS, cmp1, isNil, popTo, killT, setT, leT, V.below, C.below, S_below, R.below, V.val, C.val, S_val, R.val, R.takes, vals, shows, List.any_cons, List.any_nil, unnamed, V.kill, V.names, C.names, S_names, R.names, List.set, List.replicate, ↓q_cond_t, ↓q_cond_f, if_true, if_false, reduceCtorEq, rvals, rvC, result, C_known, V.noL, C.noL, S_noL, R.noL, Option.map, true_and, and_true, ge_iff_le, gt_iff_lt, implies_true, q_ite_t, q_ite_f, beq_iff_eq, bne_iff_ne, q_ne, Nat.reduceAdd, Nat.reducePow, Int.reducePow, Nat.reduceMul, Nat.reduceSub, Nat.reduceLeDiff, Nat.reduceLT, Nat.reduceEqDiff, Int.reduceNeg, Int.reduceLT, Int.reduceLE, Int.reduceEq, Int.reduceNe, Int.reduceAdd, Int.reduceSub, Int.reduceMul, Int.reduceToNat, Int.reduceBEq, Int.reduceBNe, df75, TwE, encEG, enF, hm, a1, a2, a3, a4, b1, b2, i1, i2, min2u, min16u, hv, hl, ha, hr, he, f1, put, fillP]
        exact hS
      · have hS := hS.2 (by rw [hm]; simpa using he)
        have f1 : ((En.mk v l a r).w != w) = true := by simpa using he
        simp (config := { maxSteps := 10000000 }) only [run_drx, run_xd, run_xq, run_xg, run_xb, EV1, EV2, EV3, EV4, EV5, EV6, addT, istep, lenR_sl, lenR_ns, lenR_es, pickR, putD, bin1R, un1R, slcR, bnd, capsOf, fillP, S_plain, V_plain, V.cells, S_known, V_known, C.v, blk, setL, setH, eqS, eq1, cmpS, cmp1, isNil, popTo, killT, setT, leT, V.below, C.below, S_below, R.below, V.val, C.val, S_val, R.val, R.takes, vals, shows, List.any_cons, List.any_nil, unnamed, V.kill, V.names, C.names, S_names, R.names, List.set, List.replicate, ↓q_cond_t, ↓q_cond_f, if_true, if_false, reduceCtorEq, rvals, rvC, result, C_known, V.noL, C.noL, S_noL, R.noL, Option.map, true_and, and_true, ge_iff_le, gt_iff_lt, implies_true, q_ite_t, q_ite_f, beq_iff_eq, bne_iff_ne, q_ne, Nat.reduceAdd, Nat.reducePow, Int.reducePow, Nat.reduceMul, Nat.reduceSub, Nat.reduceLeDiff, Nat.reduceLT, Nat.reduceEqDiff, Int.reduceNeg, Int.reduceLT, Int.reduceLE, Int.reduceEq, Int.reduceNe, Int.reduceAdd, Int.reduceSub, Int.reduceMul, Int.reduceToNat, Int.reduceBEq, Int.reduceBNe, df75, TwE, encEG, enF, hm, a1, a2, a3, a4, b1, b2, i1, i2, min2u, min16u, hv, hl, ha, hr, he, f1, put, fillP]
        exact hS
  · exact hS.elim

/-! ### the document's -/
theorem rMay_snd : Snd Try.prog 123 (FSpec.of wMayG) := snd_run (noT_snd _) mixed Try.func123 dc123 200 fun args h K hc hS => by
  obtain ⟨⟨v, l, a, r⟩, rfl, hR⟩ := enF_spec hS
  clear hS
  simp only [spec_ok] at hR
  simp only [En.c]
  have hL : (decide (16 ≤ a) && (decide (a ≤ 65520) && (a.tmod 16 == 0 && (decide (0 ≤ r) && decide (r ≤ 3))))) = decide (16 ≤ a ∧ a ≤ 65520 ∧ a % 16 = 0 ∧ 0 ≤ r ∧ r ≤ 3) := by rw [← may_leaf]; simp only [Bool.and_assoc]
  have hT : (decide (8 ≤ a) && (decide (a ≤ 65528) && (a.tmod 8 == 0 && r == 0))) = decide (8 ≤ a ∧ a ≤ 65528 ∧ a % 8 = 0 ∧ r = 0) := by rw [← may_table]; simp only [Bool.and_assoc]
  cases v <;> cases l
  all_goals simp only [En.may, ← hL, ← hT, Bool.not_false, Bool.not_true, Bool.true_and, Bool.false_and] at hR
  all_goals simp (config := { maxSteps := 10000000 }) only [run_drx, run_xd, run_xq, run_xg, run_xb, EV1, EV2, EV3, EV4, EV5, EV6, addT, istep, lenR_sl, lenR_ns, lenR_es, pickR, putD, bin1R, un1R, slcR, bnd, capsOf, fillP, S_plain, V_plain, V.cells, S_known, V_known, C.v, blk, setL, setH, eqS, eq1, cmpS, cmp1, isNil, popTo, killT, setT, leT, V.below, C.below, S_below, R.below, V.val, C.val, S_val, R.val, R.takes, vals, shows, List.any_cons, List.any_nil, unnamed, V.kill, V.names, C.names, S_names, R.names, List.set, List.replicate, ↓q_cond_t, ↓q_cond_f, if_true, if_false, reduceCtorEq, rvals, rvC, result, C_known, V.noL, C.noL, S_noL, R.noL, Option.map, true_and, and_true, ge_iff_le, gt_iff_lt, implies_true, q_ite_t, q_ite_f, beq_iff_eq, bne_iff_ne, q_ne, Nat.reduceAdd, Nat.reducePow, Int.reducePow, Nat.reduceMul, Nat.reduceSub, Nat.reduceLeDiff, Nat.reduceLT, Nat.reduceEqDiff, Int.reduceNeg, Int.reduceLT, Int.reduceLE, Int.reduceEq, Int.reduceNe, Int.reduceAdd, Int.reduceSub, Int.reduceMul, Int.reduceToNat, Int.reduceBEq, Int.reduceBNe, df123, Bool.and_assoc, put, fillP]
  all_goals first | exact hR | (simpa [Bool.and_assoc] using hR)
def TrM : Tab := addT 123 wMayG noT
theorem TrM_snd : TrM.Snd Try.prog := addT_snd ok123 rMay_snd (noT_snd _)
theorem rencE_snd : Snd Try.prog 108 (FSpec.of encEG) := snd_run TrM_snd mixed Try.func108 dc108 200 fun args h K hc hS => by
  obtain ⟨⟨v, l, a, r⟩, rfl, hR⟩ := enF_spec hS
  clear hS
  simp only [spec_br, spec_ok] at hR
  simp only [En.c]
  cases hm : (En.mk v l a r).may with
  | false =>
    have hR := hR.2 hm
    simp (config := { maxSteps := 10000000 }) only [run_drx, run_xd, run_xq, run_xg, run_xb, EV1, EV2, EV3, EV4, EV5, EV6, addT, istep, lenR_sl, lenR_ns, lenR_es, pickR, putD, bin1R, un1R, slcR, bnd, capsOf, fillP, S_plain, V_plain, V.cells, S_known, V_known, C.v, blk, setL, setH, eqS, eq1, cmpS, cmp1, isNil, popTo, killT, setT, leT, V.below, C.below, S_below, R.below, V.val, C.val, S_val, R.val, R.takes, vals, shows, List.any_cons, List.any_nil, unnamed, V.kill, V.names, C.names, S_names, R.names, List.set, List.replicate, ↓q_cond_t, ↓q_cond_f, if_true, if_false, reduceCtorEq, rvals, rvC, result, C_known, V.noL, C.noL, S_noL, R.noL, Option.map, true_and, and_true, ge_iff_le, gt_iff_lt, implies_true, q_ite_t, q_ite_f, beq_iff_eq, bne_iff_ne, q_ne, Nat.reduceAdd, Nat.reducePow, Int.reducePow, Nat.reduceMul, Nat.reduceSub, Nat.reduceLeDiff, Nat.reduceLT, Nat.reduceEqDiff, Int.reduceNeg, Int.reduceLT, Int.reduceLE, Int.reduceEq, Int.reduceNe, Int.reduceAdd, Int.reduceSub, Int.reduceMul, Int.reduceToNat, Int.reduceBEq, Int.reduceBNe, df108, TrM, wMayG, enF, hm]
    exact hR
  | true =>
    have hR := hR.1 hm
    obtain ⟨_, a1, a2, r1, r2⟩ := En.w_uu hm
    simp only at a1 a2 r1 r2
    have x1 : IntKind.u64.wrap a = a := wrapu a1 (by omega)
    have x2 : IntKind.u64.wrap (a * 65536) = a * 65536 := wrapu (by omega) (by omega)
    have x3 : IntKind.u64.wrap r = r := wrapu r1 (by omega)
    have x4 : IntKind.u64.wrap (r * 4) = r * 4 := wrapu (by omega) (by omega)
    have x5 : IntKind.u64.wrap (a * 65536 + r * 4) = a * 65536 + r * 4 := wrapu (by omega) (by omega)
    have x6 : IntKind.u64.wrap (a * 65536 + r * 4 + 1) = a * 65536 + r * 4 + 1 := wrapu (by omega) (by omega)
    have x7 : IntKind.u64.wrap (a * 65536 + r * 4 + 1 + 2) = a * 65536 + r * 4 + 1 + 2 := wrapu (by omega) (by omega)
    cases v <;> cases l
    · simp (config := { maxSteps := 10000000 }) only [run_drx, run_xd, run_xq, run_xg, run_xb, EV1, EV2, EV3, EV4, EV5, EV6, addT, istep, lenR_sl, lenR_ns, lenR_es, pickR, putD, bin1R, un1R, slcR, bnd, capsOf, fillP, S_plain, V_plain, V.cells, S_known, V_known, C.v, blk, setL, setH, eqS, eq1, cmpS, cmp1, isNil, popTo, killT, setT, leT, V.below, C.below, S_below, R.below, V.val, C.val, S_val, R.val, R.takes, vals, shows, List.any_cons, List.any_nil, unnamed, V.kill, V.names, C.names, S_names, R.names, List.set, List.replicate, ↓q_cond_t, ↓q_cond_f, if_true, if_false, reduceCtorEq, rvals, rvC, result, C_known, V.noL, C.noL, S_noL, R.noL, Option.map, true_and, and_true, ge_iff_le, gt_iff_lt, implies_true, q_ite_t, q_ite_f, beq_iff_eq, bne_iff_ne, q_ne, Nat.reduceAdd, Nat.reducePow, Int.reducePow, Nat.reduceMul, Nat.reduceSub, Nat.reduceLeDiff, Nat.reduceLT, Nat.reduceEqDiff, Int.reduceNeg, Int.reduceLT, Int.reduceLE, Int.reduceEq, Int.reduceNe, Int.reduceAdd, Int.reduceSub, Int.reduceMul, Int.reduceToNat, Int.reduceBEq, Int.reduceBNe, df108, TrM, wMayG, enF, hm, x1, x2, x3, x4, x5]
      simpa [En.w, bI] using hR
    · simp [En.may] at hm
    · simp (config := { maxSteps := 10000000 }) only [run_drx, run_xd, run_xq, run_xg, run_xb, EV1, EV2, EV3, EV4, EV5, EV6, addT, istep, lenR_sl, lenR_ns, lenR_es, pickR, putD, bin1R, un1R, slcR, bnd, capsOf, fillP, S_plain, V_plain, V.cells, S_known, V_known, C.v, blk, setL, setH, eqS, eq1, cmpS, cmp1, isNil, popTo, killT, setT, leT, V.below, C.below, S_below, R.below, V.val, C.val, S_val, R.val, R.takes, vals, shows, List.any_cons, List.any_nil, unnamed, V.kill, V.names, C.names, S_names, R.names, List.set, List.replicate, ↓q_cond_t, ↓q_cond_f, if_true, if_false, reduceCtorEq, rvals, rvC, result, C_known, V.noL, C.noL, S_noL, R.noL, Option.map, true_and, and_true, ge_iff_le, gt_iff_lt, implies_true, q_ite_t, q_ite_f, beq_iff_eq, bne_iff_ne, q_ne, Nat.reduceAdd, Nat.reducePow, Int.reducePow, Nat.reduceMul, Nat.reduceSub, Nat.reduceLeDiff, Nat.reduceLT, Nat.reduceEqDiff, Int.reduceNeg, Int.reduceLT, Int.reduceLE, Int.reduceEq, Int.reduceNe, Int.reduceAdd, Int.reduceSub, Int.reduceMul, Int.reduceToNat, Int.reduceBEq, Int.reduceBNe, df108, TrM, wMayG, enF, hm, x1, x2, x3, x4, x5, x6]
      simpa [En.w, bI] using hR
    · simp (config := { maxSteps := 10000000 }) only [run_drx, run_xd, run_xq, run_xg, run_xb, EV1, EV2, EV3, EV4, EV5, EV6, addT, istep, lenR_sl, lenR_ns, lenR_es, pickR, putD, bin1R, un1R, slcR, bnd, capsOf, fillP, S_plain, V_plain, V.cells, S_known, V_known, C.v, blk, setL, setH, eqS, eq1, cmpS, cmp1, isNil, popTo, killT, setT, leT, V.below, C.below, S_below, R.below, V.val, C.val, S_val, R.val, R.takes, vals, shows, List.any_cons, List.any_nil, unnamed, V.kill, V.names, C.names, S_names, R.names, List.set, List.replicate, ↓q_cond_t, ↓q_cond_f, if_true, if_false, reduceCtorEq, rvals, rvC, result, C_known, V.noL, C.noL, S_noL, R.noL, Option.map, true_and, and_true, ge_iff_le, gt_iff_lt, implies_true, q_ite_t, q_ite_f, beq_iff_eq, bne_iff_ne, q_ne, Nat.reduceAdd, Nat.reducePow, Int.reducePow, Nat.reduceMul, Nat.reduceSub, Nat.reduceLeDiff, Nat.reduceLT, Nat.reduceEqDiff, Int.reduceNeg, Int.reduceLT, Int.reduceLE, Int.reduceEq, Int.reduceNe, Int.reduceAdd, Int.reduceSub, Int.reduceMul, Int.reduceToNat, Int.reduceBEq, Int.reduceBNe, df108, TrM, wMayG, enF, hm, x1, x2, x3, x4, x5, x6, x7]
      refine cast (congrArg (fun x => K (.tup [.s (.i .u64 x), .s (.i .i64 0)]) h) ?_) hR
      simp only [En.w, bI, if_true]; omega
def TrE : Tab := addT 108 encEG noT
theorem TrE_snd : TrE.Snd Try.prog := addT_snd ok108 rencE_snd (noT_snd _)
theorem rdecE_snd : Snd Try.prog 116 (FSpec.of decEG) := snd_run TrE_snd mixed Try.func116 dc116 200 fun args h K hc hS => by
  unfold decEG at hS
  split at hS
  · rename_i w
    simp only [spec_ob, spec_br, spec_ok] at hS
    obtain ⟨hu, hS⟩ := hS
    have hu2 := hu
    obtain ⟨h0, h1⟩ := hu2
    have q1 : IntKind.u64.wrap (w.tdiv 2) = w / 2 := by rw [Int.tdiv_eq_ediv_of_nonneg h0]; exact wrapu (by omega) (by omega)
    have q2 : IntKind.u64.wrap (w.tdiv 4) = w / 4 := by rw [Int.tdiv_eq_ediv_of_nonneg h0]; exact wrapu (by omega) (by omega)
    have q3 : IntKind.u64.wrap (w.tdiv 65536) = w / 65536 := by rw [Int.tdiv_eq_ediv_of_nonneg h0]; exact wrapu (by omega) (by omega)
    have t1 : w.tmod 2 = w % 2 := Int.tmod_eq_emod_of_nonneg h0
    have t2 : (w / 2).tmod 2 = w / 2 % 2 := Int.tmod_eq_emod_of_nonneg (by omega)
    have t3 : (w / 4).tmod 4 = w / 4 % 4 := Int.tmod_eq_emod_of_nonneg (by omega)
    have t4 : (w / 65536).tmod 65536 = w / 65536 % 65536 := Int.tmod_eq_emod_of_nonneg (by omega)
    have b1 : (w % 2 == 1) = decide (w % 2 = 1) := by rw [Bool.eq_iff_iff]; simp only [beq_iff_eq, decide_eq_true_eq]
    have b2 : (w / 2 % 2 == 1) = decide (w / 2 % 2 = 1) := by rw [Bool.eq_iff_iff]; simp only [beq_iff_eq, decide_eq_true_eq]
    have i1 : IntKind.i64.wrap (w / 4 % 4) = w / 4 % 4 := wrap64 (by omega) (by omega)
    have i2 : IntKind.i64.wrap (w / 65536 % 65536) = w / 65536 % 65536 := wrap64 (by omega) (by omega)
    simp only [enB, enOf, En.c] at hS
    obtain ⟨v, hv⟩ : ∃ v, decide (w % 2 = 1) = v := ⟨_, rfl⟩
    obtain ⟨l, hl⟩ : ∃ v, decide (w / 2 % 2 = 1) = v := ⟨_, rfl⟩
    obtain ⟨a, ha⟩ : ∃ v, w / 65536 % 65536 = v := ⟨_, rfl⟩
    obtain ⟨r, hr⟩ : ∃ v, w / 4 % 4 = v := ⟨_, rfl⟩
    rw [hr] at i1
    rw [ha] at i2
    simp only [hv, hl, ha, hr] at hS
    cases hm : (En.mk v l a r).may with
    | false =>
      have hS := hS.2 (by rw [hm]; rfl)
      simp (config := { maxSteps := 10000000 }) only [run_drx, run_xd, run_xq, run_xg, run_xb, EV1, EV2, EV3, EV4, EV5, EV6, addT, istep, lenR_sl, lenR_ns, lenR_es, pickR, putD, bin1R, un1R, slcR, bnd, capsOf, fillP, S_plain, V_plain, V.cells, S_known, V_known, C.v, blk, setL, setH, eqS, eq1, cmpS, cmp1, isNil, popTo, killT, setT, leT, V.below, C.below, S_below, R.below, V.val, C.val, S_val, R.val, R.takes, vals, shows, List.any_cons, List.any_nil, unnamed, V.kill, V.names, C.names, S_names, R.names, List.set, List.replicate, ↓q_cond_t, ↓q_cond_f, if_true, if_false, reduceCtorEq, rvals, rvC, result, C_known, V.noL, C.noL, S_noL, R.noL, Option.map, true_and, and_true, ge_iff_le, gt_iff_lt, implies_true, q_ite_t, q_ite_f, beq_iff_eq, bne_iff_ne, q_ne, Nat.reduceAdd, Nat.reducePow, Int.reducePow, Nat.reduceMul, Nat.reduceSub, Nat.reduceLeDiff, Nat.reduceLT, Nat.reduceEqDiff, Int.reduceNeg, Int.reduceLT, Int.reduceLE, Int.reduceEq, Int.reduceNe, Int.reduceAdd, Int.reduceSub, Int.reduceMul, Int.reduceToNat, Int.reduceBEq, Int.reduceBNe, df116, TrE, encEG, enF, hm, q1, q2, q3, t1, t2, t3, t4, b1, b2, i1, i2, hv, hl, ha, hr, put, fillP]
      exact hS
    | true =>
      by_cases he : (En.mk v l a r).w = w
      · have hS := hS.1 (by rw [hm]; simpa using he)
        have f1 : ((En.mk v l a r).w != w) = false := by simpa using he
        simp (config := { maxSteps := 10000000 }) only [run_drx, run_xd, run_xq, run_xg, run_xb, EV1, EV2, EV3, EV4, EV5, EV6, addT, istep, lenR_sl, lenR_ns, lenR_es, pickR, putD, bin1R, un1R, slcR, bnd, capsOf, fillP, S_plain, V_plain, V.cells, S_known, V_known, C.v, blk, setL, setH, eqS, eq1, cmpS, cmp1, isNil, popTo, killT, setT, leT, V.below, C.below, S_below, R.below, V.val, C.val, S_val, R.val, R.takes, vals, shows, List.any_cons, List.any_nil, unnamed, V.kill, V.names, C.names, S_names, R.names, List.set, List.replicate, ↓q_cond_t, ↓q_cond_f, if_true, if_false, reduceCtorEq, rvals, rvC, result, C_known, V.noL, C.noL, S_noL, R.noL, Option.map, true_and, and_true, ge_iff_le, gt_iff_lt, implies_true, q_ite_t, q_ite_f, beq_iff_eq, bne_iff_ne, q_ne, Nat.reduceAdd, Nat.reducePow, Int.reducePow, Nat.reduceMul, Nat.reduceSub, Nat.reduceLeDiff, Nat.reduceLT, Nat.reduceEqDiff, Int.reduceNeg, Int.reduceLT, Int.reduceLE, Int.reduceEq, Int.reduceNe, Int.reduceAdd, Int.reduceSub, Int.reduceMul, Int.reduceToNat, Int.reduceBEq, Int.reduceBNe, df116, TrE, encEG, enF, hm, q1, q2, q3, t1, t2, t3, t4, b1, b2, i1, i2, hv, hl, ha, hr, he, f1, put, fillP]
        exact hS
      · have hS := hS.2 (by rw [hm]; simpa using he)
        have f1 : ((En.mk v l a r).w != w) = true := by simpa using he
        simp (config := { maxSteps := 10000000 }) only [run_drx, run_xd, run_xq, run_xg, run_xb, EV1, EV2, EV3, EV4, EV5, EV6, addT, istep, lenR_sl, lenR_ns, lenR_es, pickR, putD, bin1R, un1R, slcR, bnd, capsOf, fillP, S_plain, V_plain, V.cells, S_known, V_known, C.v, blk, setL, setH, eqS, eq1, cmpS, cmp1, isNil, popTo, killT, setT, leT, V.below, C.below, S_below, R.below, V.val, C.val, S_val, R.val, R.takes, vals, shows, List.any_cons, List.any_nil, unnamed, V.kill, V.names, C.names, S_names, R.names, List.set, List.replicate, ↓q_cond_t, ↓q_cond_f, if_true, if_false, reduceCtorEq, rvals, rvC, result, C_known, V.noL, C.noL, S_noL, R.noL, Option.map, true_and, and_true, ge_iff_le, gt_iff_lt, implies_true, q_ite_t, q_ite_f, beq_iff_eq, bne_iff_ne, q_ne, Nat.reduceAdd, Nat.reducePow, Int.reducePow, Nat.reduceMul, Nat.reduceSub, Nat.reduceLeDiff, Nat.reduceLT, Nat.reduceEqDiff, Int.reduceNeg, Int.reduceLT, Int.reduceLE, Int.reduceEq, Int.reduceNe, Int.reduceAdd, Int.reduceSub, Int.reduceMul, Int.reduceToNat, Int.reduceBEq, Int.reduceBNe, df116, TrE, encEG, enF, hm, q1, q2, q3, t1, t2, t3, t4, b1, b2, i1, i2, hv, hl, ha, hr, he, f1, put, fillP]
        exact hS
  · exact hS.elim

/-! ### indices -/
end Go.Proofs.Ytdlloccodmdnnaa

/- Package walk, and the document's: Index, Walk. -/
namespace Go.Proofs.Ytdlloccodmdnnaa
open Go.D
set_option linter.all false
set_option maxRecDepth 100000
set_option maxHeartbeats 4000000

/-! ### a walk -/
structure WR where
  a : Int
  r : Int
  l : Int
  e : Int
  m : M
def WR.v (x : WR) : V := .tup [.s (.i .i64 x.a), .s (.i .i64 x.r), .s (.i .i64 x.l), .s (.i .i64 x.e)]
end Go.Proofs.Ytdlloccodmdnnaa

