/- Package objs: endpoints, the code's. -/
import Derived.Test.YtdlloccodmdnnaaZ10
import Derived.Test.YtdlloccodmdnnaaZ18
/- Package objs: endpoints, in code and document. -/
namespace Go.Proofs.Ytdlloccodmdnnaa
open Go.D
set_option linter.all false
set_option maxRecDepth 100000
set_option maxHeartbeats 8000000

structure Qu where
  s : Int
  h : Int
  t : Int
def Qu.cl (q : Qu) : List S := [.i .i64 q.s, .i .i64 q.h, .i .i64 q.t]
def quZ : Qu := ⟨0, 0, 0⟩
def quF (f : Qu → Res) : List V → Res
  | [.agg [.i .i64 a, .i .i64 b, .i .i64 c]] => f ⟨a, b, c⟩
  | _ => .bad
theorem quF_spec {f : Qu → Res} {args : List V} {K : V → List Blk → Prop} (h : (quF f args).spec K) : ∃ q : Qu, args = [.agg q.cl] ∧ (f q).spec K := by
  unfold quF at h
  split at h
  · exact ⟨_, rfl, h⟩
  · exact h.elim
theorem qu_eta (q : Qu) : (⟨q.s, q.h, q.t⟩ : Qu) = q := rfl
/-- Right, as the document asks it, and as the code does. -/
def Qu.B (q : Qu) : Bool := cond (q.s == 0) (q.h == 0 && q.t == 0) (in3 q.s 1 2 && (in3 q.h 1 65535 && in3 q.t 1 65535))
def Qu.C (q : Qu) : Bool := cond (q.s == 0) (q.h == 0 && q.t == 0) (decide (q.s ≤ 2) && (decide (0 < q.h) && decide (0 < q.t)))
def Qu.w (q : Qu) : Int := q.s + 4 * q.h + 262144 * q.t
def quOf (w : Int) : Qu := ⟨w % 4, w / 4 % 65536, w / 262144 % 65536⟩
def quOk (w : Int) : Bool := decide (w < 17179869184) && (quOf w).B
theorem Qu.B_u {q : Qu} (h : q.B = true) : 0 ≤ q.s ∧ q.s ≤ 2 ∧ 0 ≤ q.h ∧ q.h ≤ 65535 ∧ 0 ≤ q.t ∧ q.t ≤ 65535 := by
  unfold Qu.B at h
  cases h0 : (q.s == 0) <;> rw [h0] at h <;> simp only [cond_true, cond_false, Bool.and_eq_true, in3_iff, beq_iff_eq] at h h0 <;> omega
theorem Qu.w_u {q : Qu} (h : q.B = true) : u64 q.w := by
  have := Qu.B_u h
  simp only [u64, Qu.w]; omega
theorem Qu.CB {q : Qu} (h1 : 0 ≤ q.s) (h2 : q.h ≤ 65535 ∧ q.t ≤ 65535) : q.C = q.B := by
  obtain ⟨s, a, b⟩ := q
  simp only [Qu.C, Qu.B] at *
  cases h0 : (s == 0)
  · rw [Bool.eq_iff_iff]
    simp only [cond_false, Bool.and_eq_true, in3_iff, decide_eq_true_eq]
    have h3 : ¬ s = 0 := by simpa using h0
    omega
  · rfl
theorem quOf_C {w : Int} (hw : u64 w) : (quOf w).C = (quOf w).B := by
  simp only [u64] at hw
  exact Qu.CB (show 0 ≤ w % 4 by omega) (show w / 4 % 65536 ≤ 65535 ∧ w / 262144 % 65536 ≤ 65535 by omega)
theorem quOf_of {q : Qu} (h : q.B = true) : quOf q.w = q := by
  have := Qu.B_u h
  obtain ⟨s, a, b⟩ := q
  simp only [quOf, Qu.w, Qu.mk.injEq] at *
  omega

def quCG (args : List V) (h : List Blk) : Res := quF (fun q => .ok (.s (.b q.C)) [] h) args
def quBG (args : List V) (h : List Blk) : Res := quF (fun q => .ok (.s (.b q.B)) [] h) args
theorem quC_snd : Snd Try.prog 72 (FSpec.of quCG) := snd_run (noT_snd _) mixed Try.func72 dc72 200 fun args h K hc hS => by
  obtain ⟨q, rfl, hR⟩ := quF_spec hS
  clear hS
  simp only [spec_ok, Qu.C] at hR
  simp only [Qu.cl]
  cases h0 : (q.s == 0)
  · rw [h0] at hR
    simp (config := { maxSteps := 10000000 }) only [run_drx, run_xd, run_xq, run_xg, run_xb, EV1, EV2, EV3, EV4, EV5, EV6, addT, istep, lenR_sl, lenR_ns, lenR_es, pickR, putD, bin1R, un1R, slcR, bnd, capsOf, fillP, S_plain, V_plain, V.cells, S_known, V_known, C.v, blk, setL, setH, eqS, eq1, cmpS, cmp1, isNil, popTo, killT, setT, leT, V.below, C.below, S_below, R.below, V.val, C.val, S_val, R.val, R.takes, vals, shows, List.any_cons, List.any_nil, unnamed, V.kill, V.names, C.names, S_names, R.names, List.set, List.replicate, ↓q_cond_t, ↓q_cond_f, if_true, if_false, reduceCtorEq, rvals, rvC, result, C_known, V.noL, C.noL, S_noL, R.noL, Option.map, true_and, and_true, ge_iff_le, gt_iff_lt, implies_true, q_ite_t, q_ite_f, beq_iff_eq, bne_iff_ne, q_ne, Nat.reduceAdd, Nat.reducePow, Int.reducePow, Nat.reduceMul, Nat.reduceSub, Nat.reduceLeDiff, Nat.reduceLT, Nat.reduceEqDiff, Int.reduceNeg, Int.reduceLT, Int.reduceLE, Int.reduceEq, Int.reduceNe, Int.reduceAdd, Int.reduceSub, Int.reduceMul, Int.reduceToNat, Int.reduceBEq, Int.reduceBNe, df72, h0, Bool.and_assoc, sub, put, fillP, List.take_succ_cons, List.take_zero, List.drop_zero]
    exact hR
  · rw [h0] at hR
    simp (config := { maxSteps := 10000000 }) only [run_drx, run_xd, run_xq, run_xg, run_xb, EV1, EV2, EV3, EV4, EV5, EV6, addT, istep, lenR_sl, lenR_ns, lenR_es, pickR, putD, bin1R, un1R, slcR, bnd, capsOf, fillP, S_plain, V_plain, V.cells, S_known, V_known, C.v, blk, setL, setH, eqS, eq1, cmpS, cmp1, isNil, popTo, killT, setT, leT, V.below, C.below, S_below, R.below, V.val, C.val, S_val, R.val, R.takes, vals, shows, List.any_cons, List.any_nil, unnamed, V.kill, V.names, C.names, S_names, R.names, List.set, List.replicate, ↓q_cond_t, ↓q_cond_f, if_true, if_false, reduceCtorEq, rvals, rvC, result, C_known, V.noL, C.noL, S_noL, R.noL, Option.map, true_and, and_true, ge_iff_le, gt_iff_lt, implies_true, q_ite_t, q_ite_f, beq_iff_eq, bne_iff_ne, q_ne, Nat.reduceAdd, Nat.reducePow, Int.reducePow, Nat.reduceMul, Nat.reduceSub, Nat.reduceLeDiff, Nat.reduceLT, Nat.reduceEqDiff, Int.reduceNeg, Int.reduceLT, Int.reduceLE, Int.reduceEq, Int.reduceNe, Int.reduceAdd, Int.reduceSub, Int.reduceMul, Int.reduceToNat, Int.reduceBEq, Int.reduceBNe, df72, h0, sub, put, fillP, List.take_succ_cons, List.take_zero, List.drop_zero]
    exact hR
noncomputable def To3 : Tab := addT 121 rinG (noT)
theorem To3_snd : To3.Snd Try.prog := addT_snd ok121 rin_snd ((noT_snd _))
theorem quB_snd : Snd Try.prog 105 (FSpec.of quBG) := snd_run To3_snd mixed Try.func105 dc105 200 fun args h K hc hS => by
  obtain ⟨q, rfl, hR⟩ := quF_spec hS
  clear hS
  simp only [spec_ok, Qu.B] at hR
  simp only [Qu.cl]
  cases h0 : (q.s == 0)
  · rw [h0] at hR
    simp (config := { maxSteps := 10000000 }) only [run_drx, run_xd, run_xq, run_xg, run_xb, EV1, EV2, EV3, EV4, EV5, EV6, addT, istep, lenR_sl, lenR_ns, lenR_es, pickR, putD, bin1R, un1R, slcR, bnd, capsOf, fillP, S_plain, V_plain, V.cells, S_known, V_known, C.v, blk, setL, setH, eqS, eq1, cmpS, cmp1, isNil, popTo, killT, setT, leT, V.below, C.below, S_below, R.below, V.val, C.val, S_val, R.val, R.takes, vals, shows, List.any_cons, List.any_nil, unnamed, V.kill, V.names, C.names, S_names, R.names, List.set, List.replicate, ↓q_cond_t, ↓q_cond_f, if_true, if_false, reduceCtorEq, rvals, rvC, result, C_known, V.noL, C.noL, S_noL, R.noL, Option.map, true_and, and_true, ge_iff_le, gt_iff_lt, implies_true, q_ite_t, q_ite_f, beq_iff_eq, bne_iff_ne, q_ne, Nat.reduceAdd, Nat.reducePow, Int.reducePow, Nat.reduceMul, Nat.reduceSub, Nat.reduceLeDiff, Nat.reduceLT, Nat.reduceEqDiff, Int.reduceNeg, Int.reduceLT, Int.reduceLE, Int.reduceEq, Int.reduceNe, Int.reduceAdd, Int.reduceSub, Int.reduceMul, Int.reduceToNat, Int.reduceBEq, Int.reduceBNe, df105, To3, rinG, h0, Bool.and_assoc, sub, put, fillP, List.take_succ_cons, List.take_zero, List.drop_zero]
    exact hR
  · rw [h0] at hR
    simp (config := { maxSteps := 10000000 }) only [run_drx, run_xd, run_xq, run_xg, run_xb, EV1, EV2, EV3, EV4, EV5, EV6, addT, istep, lenR_sl, lenR_ns, lenR_es, pickR, putD, bin1R, un1R, slcR, bnd, capsOf, fillP, S_plain, V_plain, V.cells, S_known, V_known, C.v, blk, setL, setH, eqS, eq1, cmpS, cmp1, isNil, popTo, killT, setT, leT, V.below, C.below, S_below, R.below, V.val, C.val, S_val, R.val, R.takes, vals, shows, List.any_cons, List.any_nil, unnamed, V.kill, V.names, C.names, S_names, R.names, List.set, List.replicate, ↓q_cond_t, ↓q_cond_f, if_true, if_false, reduceCtorEq, rvals, rvC, result, C_known, V.noL, C.noL, S_noL, R.noL, Option.map, true_and, and_true, ge_iff_le, gt_iff_lt, implies_true, q_ite_t, q_ite_f, beq_iff_eq, bne_iff_ne, q_ne, Nat.reduceAdd, Nat.reducePow, Int.reducePow, Nat.reduceMul, Nat.reduceSub, Nat.reduceLeDiff, Nat.reduceLT, Nat.reduceEqDiff, Int.reduceNeg, Int.reduceLT, Int.reduceLE, Int.reduceEq, Int.reduceNe, Int.reduceAdd, Int.reduceSub, Int.reduceMul, Int.reduceToNat, Int.reduceBEq, Int.reduceBNe, df105, h0, sub, put, fillP, List.take_succ_cons, List.take_zero, List.drop_zero]
    exact hR
def queuedG : List V → List Blk → Res
  | [.s (.i .i64 a), .s (.i .i64 b), .s (.i .i64 c)], h => .ob (0 ≤ a ∧ a ≤ 3 ∧ 0 ≤ b ∧ b ≤ 65535 ∧ 0 ≤ c ∧ c ≤ 65535) (.ok (.s (.i .u64 (Qu.w ⟨a, b, c⟩))) [] h)
  | _, _ => .bad
theorem min2 : min 2 IntKind.u64.bits = 2 := rfl
theorem min18 : min 18 IntKind.u64.bits = 18 := rfl
theorem queued_snd : Snd Try.prog 106 (FSpec.of queuedG) := snd_run (noT_snd _) mixed Try.func106 dc106 100 fun args h K hc hS => by
  unfold queuedG at hS
  split at hS
  · rename_i a b c
    obtain ⟨hb, hS⟩ := hS
    simp only [spec_ok, Qu.w] at hS
    have x1 : IntKind.u64.wrap a = a := wrapu (by omega) (by omega)
    have x2 : IntKind.u64.wrap b = b := wrapu (by omega) (by omega)
    have x3 : IntKind.u64.wrap c = c := wrapu (by omega) (by omega)
    have x4 : IntKind.u64.wrap (b * 4) = b * 4 := wrapu (by omega) (by omega)
    have x5 : IntKind.u64.wrap (c * 262144) = c * 262144 := wrapu (by omega) (by omega)
    have x6 : IntKind.u64.wrap (a + b * 4) = a + b * 4 := wrapu (by omega) (by omega)
    have x7 : IntKind.u64.wrap (a + b * 4 + c * 262144) = a + 4 * b + 262144 * c := by rw [wrapu (by omega) (by omega)]; omega
    simp (config := { maxSteps := 10000000 }) only [run_drx, run_xd, run_xq, run_xg, run_xb, EV1, EV2, EV3, EV4, EV5, EV6, addT, istep, lenR_sl, lenR_ns, lenR_es, pickR, putD, bin1R, un1R, slcR, bnd, capsOf, fillP, S_plain, V_plain, V.cells, S_known, V_known, C.v, blk, setL, setH, eqS, eq1, cmpS, cmp1, isNil, popTo, killT, setT, leT, V.below, C.below, S_below, R.below, V.val, C.val, S_val, R.val, R.takes, vals, shows, List.any_cons, List.any_nil, unnamed, V.kill, V.names, C.names, S_names, R.names, List.set, List.replicate, ↓q_cond_t, ↓q_cond_f, if_true, if_false, reduceCtorEq, rvals, rvC, result, C_known, V.noL, C.noL, S_noL, R.noL, Option.map, true_and, and_true, ge_iff_le, gt_iff_lt, implies_true, q_ite_t, q_ite_f, beq_iff_eq, bne_iff_ne, q_ne, Nat.reduceAdd, Nat.reducePow, Int.reducePow, Nat.reduceMul, Nat.reduceSub, Nat.reduceLeDiff, Nat.reduceLT, Nat.reduceEqDiff, Int.reduceNeg, Int.reduceLT, Int.reduceLE, Int.reduceEq, Int.reduceNe, Int.reduceAdd, Int.reduceSub, Int.reduceMul, Int.reduceToNat, Int.reduceBEq, Int.reduceBNe, df106, min2, min18, x1, x2, x3, x4, x5, x6, x7]
    exact hS
  · exact hS.elim

/-! ### Queue, SetQueue -/
def M.qgE (m : M) (a : Int) : Int := if otB m a 4 then (if quOk (m.at a) then 0 else 90) else 20
def M.qgV (m : M) (a : Int) : Qu := if otB m a 4 && quOk (m.at a) then quOf (m.at a) else quZ
def M.qgX (m : M) (a : Int) : M := if otB m a 4 then m.tick 1 else m
def M.qsE (m : M) (a : Int) (q : Qu) : Int := if otB m a 4 then (if q.B then 0 else 90) else 20
def M.qsX (m : M) (a : Int) (q : Qu) : M := if otB m a 4 && q.B then (m.put a.toNat q.w).tick 1 else m
def qgetM (b : Nat) (m : M) (st : M → List Blk) : List V → Res
  | [.s (.i .i64 a)] => .ok (.tup [.agg (m.qgV a).cl, .s (.i .i64 (m.qgE a))]) [] (st (m.qgX a))
  | _ => .bad
noncomputable def qgetG := memF qgetM
/-- Numbers of the machine's. -/
def sml (n : Int) : Prop := n < 9223372036854775808
def Qu.up (q : Qu) : Prop := sml q.s ∧ sml q.h ∧ sml q.t
def qsetM (b : Nat) (m : M) (st : M → List Blk) : List V → Res
  | [.s (.i .i64 a), x] => quF (fun q => .ob q.up (.ok (.s (.i .i64 (m.qsE a q))) [] (st (m.qsX a q)))) [x]
  | _ => .bad
noncomputable def qsetG := memF qsetM
noncomputable def ToQ : Tab := addT 69 otG (addT 102 otG (addT 70 readG (addT 100 readG (addT 78 writeG (addT 91 writeG (addT 71 ounpG (addT 80 opackG (addT 72 quCG (addT 105 quBG (addT 106 queuedG (noT)))))))))))
theorem ToQ_snd : ToQ.Snd Try.prog := addT_snd ok69 ot_snd (addT_snd ok102 rot_snd (addT_snd ok70 mread_snd (addT_snd ok100 rread_snd (addT_snd ok78 mwrite_snd (addT_snd ok91 rwrite_snd (addT_snd ok71 ounp_snd (addT_snd ok80 opack_snd (addT_snd ok72 quC_snd (addT_snd ok105 quB_snd (addT_snd ok106 queued_snd ((noT_snd _))))))))))))
end Go.Proofs.Ytdlloccodmdnnaa

/- Package objs: endpoints, the code's. -/
namespace Go.Proofs.Ytdlloccodmdnnaa
open Go.D
set_option linter.all false
set_option maxRecDepth 100000
set_option maxHeartbeats 8000000

/-- A list of sizes among the own blocks that are lent. -/
theorem arr_lent {h X : List Blk} {k c room : Nat} {L : List Int} {cells : List S} (hX : X[k]? = some ⟨.rw, cells, room⟩) (hc : cells = arr In.c L) (hn : 0 < L.length) : arrOf In.c (h ++ X) (.sl (.g (h.length + k)) 0 L.length c) = some L :=
  arrOf_eq (.inr ⟨h.length + k, c, .rw, room, rfl, by rw [app_getn, hX, hc], fun _ => by simp⟩)
theorem fi_lent {h X : List Blk} {k c room : Nat} {L : List Fi} {cells : List S} (hX : X[k]? = some ⟨.rw, cells, room⟩) (hc : cells = arr Fi.c L) (hn : 0 < L.length) : arrOf Fi.c (h ++ X) (.sl (.g (h.length + k)) 0 L.length c) = some L :=
  arrOf_eq (.inr ⟨h.length + k, c, .rw, room, rfl, by rw [app_getn, hX, hc], fun _ => by simp⟩)
theorem un3_B {w : Int} (hw : u64 w) : unpackB w [2, 16, 16] 0 = decide (w < 17179869184) := by
  obtain ⟨n, rfl, _⟩ := hw.nat
  simp only [unpackB, fieldB, Int.reduceAdd, Int.reduceSub, Int.reduceLE, Int.reduceToNat, Int.toNat_natCast, Nat.reducePow, and_true, decide_true, Bool.true_and]
  rw [Bool.eq_iff_iff]; simp only [decide_eq_true_eq]; omega
theorem un3_V {w : Int} (hw : u64 w) : (unpackV w [2, 16, 16] 0).map IntKind.i64.wrap = [w % 4, w / 4 % 65536, w / 262144 % 65536] := by
  obtain ⟨n, rfl, _⟩ := hw.nat
  simp only [unpackV, getV, Int.reduceAdd, Int.reduceToNat, Int.toNat_natCast, Nat.reducePow, Nat.div_one, List.map_cons, List.map_nil]
  rw [wrap64 (by omega) (by omega), wrap64 (by omega) (by omega), wrap64 (by omega) (by omega)]
  simp only [List.cons.injEq, and_true]
  omega
theorem un3_t {w : Int} (hw : u64 w) (h : w < 17179869184) : ounV w [2, 16, 16] = [w % 4, w / 4 % 65536, w / 262144 % 65536] := by
  rw [ounV, un3_B hw, if_pos (by simpa using h), un3_V hw]
theorem un3_f {w : Int} (hw : u64 w) (h : ¬ w < 17179869184) : ounV w [2, 16, 16] = [0, 0, 0] := by
  rw [ounV, un3_B hw, if_neg (by simpa using h)]; rfl
theorem ic3 {a b c : Int} : ic [a, b, c] = [.i .i64 a, .i .i64 b, .i .i64 c] := rfl
theorem nl0 {a k : Nat} : (a + k < a) = False := by simp
theorem qget_snd : Snd Try.prog 34 (FSpec.of qgetG) := snd_run ToQ_snd mixed Try.func34 dc34 300 fun args h K hc hS => by
  obtain ⟨a, b, m, rest, rfl, H, hS1⟩ := memF_spec hS
  clear hS
  have hS := hS1
  clear hS1
  unfold qgetM at hS
  split at hS
  · rename_i x
    simp only [spec_ok, M.qgE, M.qgV, M.qgX] at hS
    have n4 : (0 : Int) < 4 ∧ (4 : Int) ≤ 64 := by decide
    cases ht : otB m x 4 with
    | false =>
      simp only [ht, Bool.false_and, Bool.false_eq_true, if_false, setM_self H, quZ, Qu.cl] at hS
      simp (config := { maxSteps := 10000000 }) only [run_drx, run_xd, run_xq, run_xg, run_xb, EV1, EV2, EV3, EV4, EV5, EV6, addT, istep, lenR_sl, lenR_ns, lenR_es, pickR, putD, bin1R, un1R, slcR, bnd, capsOf, fillP, S_plain, V_plain, V.cells, S_known, V_known, C.v, blk, setL, setH, eqS, eq1, cmpS, cmp1, isNil, popTo, killT, setT, leT, V.below, C.below, S_below, R.below, V.val, C.val, S_val, R.val, R.takes, vals, shows, List.any_cons, List.any_nil, unnamed, V.kill, V.names, C.names, S_names, R.names, List.set, List.replicate, ↓q_cond_t, ↓q_cond_f, if_true, if_false, reduceCtorEq, rvals, rvC, result, C_known, V.noL, C.noL, S_noL, R.noL, Option.map, true_and, and_true, ge_iff_le, gt_iff_lt, implies_true, q_ite_t, q_ite_f, beq_iff_eq, bne_iff_ne, q_ne, Nat.reduceAdd, Nat.reducePow, Int.reducePow, Nat.reduceMul, Nat.reduceSub, Nat.reduceLeDiff, Nat.reduceLT, Nat.reduceEqDiff, Int.reduceNeg, Int.reduceLT, Int.reduceLE, Int.reduceEq, Int.reduceNe, Int.reduceAdd, Int.reduceSub, Int.reduceMul, Int.reduceToNat, Int.reduceBEq, Int.reduceBNe, df34, ToQ, otG, memF_eq H, otM, n4, setM_self H, ht, put, fillP, sub, List.take_succ_cons, List.take_zero, List.drop_zero]
      exact hS
    | true =>
      simp only [ht, Bool.true_and, if_true] at hS
      have hb := otB_iff.1 ht
      have h0 : m.has x 1 = true := M.has_of (by omega)
      have hu := m.at_u x
      have hcm : ∀ m', clean (setM h a b m').length (setM h a b m') = true := fun m' => by rw [setM_len]; exact setM_clean H hc H.ltb
      obtain ⟨w, hw⟩ : ∃ w, m.at x = w := ⟨_, rfl⟩
      rw [hw] at hu hS
      have hA : ∀ (hh : List Blk) (r : Blk) (room : Nat), arrOf In.c (hh ++ [r, ⟨.rw, [.i .i64 2, .i .i64 16, .i .i64 16], room⟩]) (.sl (.g (hh.length + 1)) 0 3 3) = some [2, 16, 16] := fun hh r room => arr_lent (L := [2, 16, 16]) rfl rfl (by decide)
      have hB := un3_B hu
      by_cases hlt : w < 17179869184
      · have hV := un3_t hu hlt
        have hC := quOf_C hu
        cases hq : (quOf w).B with
        | false =>
          have hk : quOk w = false := by simp only [quOk, hq, Bool.and_false]
          rw [hq] at hC
          simp only [hk, Bool.false_eq_true, if_false, quZ, Qu.cl] at hS
          simp only [quOf] at hC
          simp (config := { maxSteps := 10000000 }) only [run_drx, run_xd, run_xq, run_xg, run_xb, EV1, EV2, EV3, EV4, EV5, EV6, addT, istep, lenR_sl, lenR_ns, lenR_es, pickR, putD, bin1R, un1R, slcR, bnd, capsOf, fillP, S_plain, V_plain, V.cells, S_known, V_known, C.v, blk, setL, setH, eqS, eq1, cmpS, cmp1, isNil, popTo, killT, setT, leT, V.below, C.below, S_below, R.below, V.val, C.val, S_val, R.val, R.takes, vals, shows, List.any_cons, List.any_nil, unnamed, V.kill, V.names, C.names, S_names, R.names, List.set, List.replicate, ↓q_cond_t, ↓q_cond_f, if_true, if_false, reduceCtorEq, rvals, rvC, result, C_known, V.noL, C.noL, S_noL, R.noL, Option.map, true_and, and_true, ge_iff_le, gt_iff_lt, implies_true, q_ite_t, q_ite_f, beq_iff_eq, bne_iff_ne, q_ne, Nat.reduceAdd, Nat.reducePow, Int.reducePow, Nat.reduceMul, Nat.reduceSub, Nat.reduceLeDiff, Nat.reduceLT, Nat.reduceEqDiff, Int.reduceNeg, Int.reduceLT, Int.reduceLE, Int.reduceEq, Int.reduceNe, Int.reduceAdd, Int.reduceSub, Int.reduceMul, Int.reduceToNat, Int.reduceBEq, Int.reduceBNe, df34, ToQ, otG, memF_eq H, otM, n4, setM_self H, ht, readG, readM, h0, hw, ounpG, R.lend, R.unlend, S_ren, C.ren, V.ren, app_taken, app_dropn, app_take0, app_drop0, List.take_succ_cons, List.take_zero, List.drop_succ_cons, List.drop_zero, Nat.not_lt_zero, Nat.lt_irrefl, Nat.add_sub_cancel_left, Nat.not_lt, Nat.le_add_right, nnn, nl0, app_len, hA, hu, hB, hlt, hV, ic3, hcm, quCG, quF, hC, Blk.ren, List.map_cons, List.map_nil, put, fillP, sub, List.take_succ_cons, List.take_zero, List.drop_zero]
          exact hS
        | true =>
          have hk : quOk w = true := by simp only [quOk, hq, Bool.and_true, decide_eq_true_eq]; exact hlt
          rw [hq] at hC
          simp only [hk, if_true, quOf, Qu.cl] at hS
          simp only [quOf] at hC
          simp (config := { maxSteps := 10000000 }) only [run_drx, run_xd, run_xq, run_xg, run_xb, EV1, EV2, EV3, EV4, EV5, EV6, addT, istep, lenR_sl, lenR_ns, lenR_es, pickR, putD, bin1R, un1R, slcR, bnd, capsOf, fillP, S_plain, V_plain, V.cells, S_known, V_known, C.v, blk, setL, setH, eqS, eq1, cmpS, cmp1, isNil, popTo, killT, setT, leT, V.below, C.below, S_below, R.below, V.val, C.val, S_val, R.val, R.takes, vals, shows, List.any_cons, List.any_nil, unnamed, V.kill, V.names, C.names, S_names, R.names, List.set, List.replicate, ↓q_cond_t, ↓q_cond_f, if_true, if_false, reduceCtorEq, rvals, rvC, result, C_known, V.noL, C.noL, S_noL, R.noL, Option.map, true_and, and_true, ge_iff_le, gt_iff_lt, implies_true, q_ite_t, q_ite_f, beq_iff_eq, bne_iff_ne, q_ne, Nat.reduceAdd, Nat.reducePow, Int.reducePow, Nat.reduceMul, Nat.reduceSub, Nat.reduceLeDiff, Nat.reduceLT, Nat.reduceEqDiff, Int.reduceNeg, Int.reduceLT, Int.reduceLE, Int.reduceEq, Int.reduceNe, Int.reduceAdd, Int.reduceSub, Int.reduceMul, Int.reduceToNat, Int.reduceBEq, Int.reduceBNe, df34, ToQ, otG, memF_eq H, otM, n4, setM_self H, ht, readG, readM, h0, hw, ounpG, R.lend, R.unlend, S_ren, C.ren, V.ren, app_taken, app_dropn, app_take0, app_drop0, List.take_succ_cons, List.take_zero, List.drop_succ_cons, List.drop_zero, Nat.not_lt_zero, Nat.lt_irrefl, Nat.add_sub_cancel_left, Nat.not_lt, Nat.le_add_right, nnn, nl0, app_len, hA, hu, hB, hlt, hV, ic3, hcm, quCG, quF, hC, Blk.ren, List.map_cons, List.map_nil, put, fillP, sub, List.take_succ_cons, List.take_zero, List.drop_zero]
          exact hS
      · have hV := un3_f hu hlt
        have hk : quOk w = false := by simp only [quOk, hlt, decide_false, Bool.false_and]
        simp only [hk, Bool.false_eq_true, if_false, quZ, Qu.cl] at hS
        simp (config := { maxSteps := 10000000 }) only [run_drx, run_xd, run_xq, run_xg, run_xb, EV1, EV2, EV3, EV4, EV5, EV6, addT, istep, lenR_sl, lenR_ns, lenR_es, pickR, putD, bin1R, un1R, slcR, bnd, capsOf, fillP, S_plain, V_plain, V.cells, S_known, V_known, C.v, blk, setL, setH, eqS, eq1, cmpS, cmp1, isNil, popTo, killT, setT, leT, V.below, C.below, S_below, R.below, V.val, C.val, S_val, R.val, R.takes, vals, shows, List.any_cons, List.any_nil, unnamed, V.kill, V.names, C.names, S_names, R.names, List.set, List.replicate, ↓q_cond_t, ↓q_cond_f, if_true, if_false, reduceCtorEq, rvals, rvC, result, C_known, V.noL, C.noL, S_noL, R.noL, Option.map, true_and, and_true, ge_iff_le, gt_iff_lt, implies_true, q_ite_t, q_ite_f, beq_iff_eq, bne_iff_ne, q_ne, Nat.reduceAdd, Nat.reducePow, Int.reducePow, Nat.reduceMul, Nat.reduceSub, Nat.reduceLeDiff, Nat.reduceLT, Nat.reduceEqDiff, Int.reduceNeg, Int.reduceLT, Int.reduceLE, Int.reduceEq, Int.reduceNe, Int.reduceAdd, Int.reduceSub, Int.reduceMul, Int.reduceToNat, Int.reduceBEq, Int.reduceBNe, df34, ToQ, otG, memF_eq H, otM, n4, setM_self H, ht, readG, readM, h0, hw, ounpG, R.lend, R.unlend, S_ren, C.ren, V.ren, app_taken, app_dropn, app_take0, app_drop0, List.take_succ_cons, List.take_zero, List.drop_succ_cons, List.drop_zero, Nat.not_lt_zero, Nat.lt_irrefl, Nat.add_sub_cancel_left, Nat.not_lt, Nat.le_add_right, nnn, nl0, app_len, hA, hu, hB, hlt, hV, ic3, hcm, Blk.ren, List.map_cons, List.map_nil, put, fillP, sub, List.take_succ_cons, List.take_zero, List.drop_zero]
        exact hS
  · exact hS.elim

/-! ### SetQueue -/
theorem fd_eq {b n : Int} (h : 0 ≤ n ∧ sml n) : Fi.fd ⟨b, n⟩ = ⟨b, n⟩ := by
  have : IntKind.u64.wrap n = n := wrapu h.1 (by have := h.2; unfold sml at this; omega)
  simp only [Fi.fd, this]
/-- Fields that fit, of so many bits together: they lie one behind the other. -/
theorem opB_of {L : List Fi} (hp : ∀ f, f ∈ L → 0 ≤ f.n) : opB L = packB (L.map Fi.fd) 0 := by
  have : posB L = true := by simp only [posB, List.all_eq_true, decide_eq_true_eq]; exact hp
  simp only [opB, this, Bool.true_and]
theorem opB_neg {L : List Fi} {f : Fi} (hf : f ∈ L) (h : f.n < 0) : opB L = false := by
  have : posB L = false := by
    rw [Bool.eq_false_iff]
    intro e
    simp only [posB, List.all_eq_true, decide_eq_true_eq] at e
    have := e f hf; omega
  simp only [opB, this, Bool.false_and]
theorem packB_cons {f : Fd} {L : List Fd} {k : Int} : packB (f :: L) k = true ↔ (0 ≤ k ∧ k ≤ 63 ∧ 1 ≤ f.b ∧ f.b ≤ 64 - k) ∧ f.v.toNat < 2 ^ f.b.toNat ∧ packB L (k + f.b) = true := by
  simp only [packB, setB, fieldB, Bool.and_eq_true, decide_eq_true_eq, and_assoc]
theorem packB_nil {k : Int} : (packB [] k = true) = True := by simp [packB]
theorem pk3_B {s a b : Int} (h : 0 ≤ s ∧ 0 ≤ a ∧ 0 ≤ b) (u : sml s ∧ sml a ∧ sml b) : opB [⟨2, s⟩, ⟨16, a⟩, ⟨16, b⟩] = decide (s < 4 ∧ a < 65536 ∧ b < 65536) := by
  rw [opB_of (by intro f hf; simp only [List.mem_cons, List.not_mem_nil, or_false] at hf; rcases hf with rfl | rfl | rfl <;> simp only <;> omega)]
  simp only [List.map_cons, List.map_nil, fd_eq ⟨h.1, u.1⟩, fd_eq ⟨h.2.1, u.2.1⟩, fd_eq ⟨h.2.2, u.2.2⟩]
  rw [Bool.eq_iff_iff]
  simp only [packB_cons, packB_nil, Int.reduceAdd, Int.reduceSub, Int.reduceLE, Int.reduceToNat, Nat.reducePow, and_true, true_and, decide_eq_true_eq]
  omega
theorem pk3_V {s a b : Int} (h : 0 ≤ s ∧ 0 ≤ a ∧ 0 ≤ b) (u : sml s ∧ sml a ∧ sml b) (hB : opB [⟨2, s⟩, ⟨16, a⟩, ⟨16, b⟩] = true) : opV [⟨2, s⟩, ⟨16, a⟩, ⟨16, b⟩] = s + 4 * a + 262144 * b := by
  rw [opV, if_pos hB]
  simp only [List.map_cons, List.map_nil, fd_eq ⟨h.1, u.1⟩, fd_eq ⟨h.2.1, u.2.1⟩, fd_eq ⟨h.2.2, u.2.2⟩]
  rw [pk3_B h u] at hB
  simp only [decide_eq_true_eq] at hB
  simp only [packV, Int.reduceAdd, Int.reduceToNat, Nat.reducePow]
  omega
theorem qu_pk {q : Qu} (u : q.up) : (opB [⟨2, q.s⟩, ⟨16, q.h⟩, ⟨16, q.t⟩] && q.C) = q.B ∧ (q.B = true → opV [⟨2, q.s⟩, ⟨16, q.h⟩, ⟨16, q.t⟩] = q.w) := by
  have key : q.B = true → opB [⟨2, q.s⟩, ⟨16, q.h⟩, ⟨16, q.t⟩] = true := fun hB => by
    have := Qu.B_u hB
    rw [pk3_B (by omega) u]
    simp only [decide_eq_true_eq]; omega
  refine ⟨?_, fun hB => ?_⟩
  · rw [Bool.eq_iff_iff, Bool.and_eq_true]
    constructor
    · rintro ⟨h1, h2⟩
      by_cases hn : 0 ≤ q.s ∧ 0 ≤ q.h ∧ 0 ≤ q.t
      · rw [pk3_B hn u] at h1
        simp only [decide_eq_true_eq] at h1
        rwa [Qu.CB hn.1 (by omega)] at h2
      · exfalso
        have : opB [⟨2, q.s⟩, ⟨16, q.h⟩, ⟨16, q.t⟩] = false := by
          by_cases n1 : q.s < 0
          · exact opB_neg (f := ⟨2, q.s⟩) (by simp) n1
          · by_cases n2 : q.h < 0
            · exact opB_neg (f := ⟨16, q.h⟩) (by simp) n2
            · exact opB_neg (f := ⟨16, q.t⟩) (by simp) (show q.t < 0 by omega)
        rw [this] at h1; cases h1
    · intro hB
      have hu := Qu.B_u hB
      exact ⟨key hB, by rw [Qu.CB hu.1 (by omega)]; exact hB⟩
  · have hu := Qu.B_u hB
    rw [pk3_V (by omega) u (key hB)]; rfl
theorem qset_snd : Snd Try.prog 42 (FSpec.of qsetG) := snd_run ToQ_snd mixed Try.func42 dc42 300 fun args h K hc hS => by
  obtain ⟨a, b, m, rest, rfl, H, hS1⟩ := memF_spec hS
  clear hS
  have hS := hS1
  clear hS1
  unfold qsetM at hS
  split at hS
  · rename_i x y
    obtain ⟨q, e, hup, hR⟩ := quF_spec hS
    clear hS
    simp only [List.cons.injEq, and_true] at e
    subst e
    simp only [spec_ok, M.qsE, M.qsX] at hR
    have n4 : (0 : Int) < 4 ∧ (4 : Int) ≤ 64 := by decide
    simp only [Qu.cl]
    cases ht : otB m x 4 with
    | false =>
      simp only [ht, Bool.false_and, Bool.false_eq_true, if_false, setM_self H] at hR
      simp (config := { maxSteps := 10000000 }) only [run_drx, run_xd, run_xq, run_xg, run_xb, EV1, EV2, EV3, EV4, EV5, EV6, addT, istep, lenR_sl, lenR_ns, lenR_es, pickR, putD, bin1R, un1R, slcR, bnd, capsOf, fillP, S_plain, V_plain, V.cells, S_known, V_known, C.v, blk, setL, setH, eqS, eq1, cmpS, cmp1, isNil, popTo, killT, setT, leT, V.below, C.below, S_below, R.below, V.val, C.val, S_val, R.val, R.takes, vals, shows, List.any_cons, List.any_nil, unnamed, V.kill, V.names, C.names, S_names, R.names, List.set, List.replicate, ↓q_cond_t, ↓q_cond_f, if_true, if_false, reduceCtorEq, rvals, rvC, result, C_known, V.noL, C.noL, S_noL, R.noL, Option.map, true_and, and_true, ge_iff_le, gt_iff_lt, implies_true, q_ite_t, q_ite_f, beq_iff_eq, bne_iff_ne, q_ne, Nat.reduceAdd, Nat.reducePow, Int.reducePow, Nat.reduceMul, Nat.reduceSub, Nat.reduceLeDiff, Nat.reduceLT, Nat.reduceEqDiff, Int.reduceNeg, Int.reduceLT, Int.reduceLE, Int.reduceEq, Int.reduceNe, Int.reduceAdd, Int.reduceSub, Int.reduceMul, Int.reduceToNat, Int.reduceBEq, Int.reduceBNe, df42, ToQ, otG, memF_eq H, otM, n4, setM_self H, ht]
      exact hR
    | true =>
      simp only [ht, Bool.true_and, if_true] at hR
      have hb := otB_iff.1 ht
      have h0 : m.has x 1 = true := M.has_of (by omega)
      have hcm : ∀ m', clean (setM h a b m').length (setM h a b m') = true := fun m' => by rw [setM_len]; exact setM_clean H hc H.ltb
      have hA : ∀ (hh : List Blk) (r : Blk) (room : Nat), arrOf Fi.c (hh ++ [r, ⟨.rw, [.i .i64 2, .i .i64 q.s, .i .i64 16, .i .i64 q.h, .i .i64 16, .i .i64 q.t], room⟩]) (.sl (.g (hh.length + 1)) 0 3 3) = some [⟨2, q.s⟩, ⟨16, q.h⟩, ⟨16, q.t⟩] := fun hh r room => fi_lent (L := [⟨2, q.s⟩, ⟨16, q.h⟩, ⟨16, q.t⟩]) rfl rfl (by simp only [List.length_cons]; omega)
      obtain ⟨p1, p2⟩ := qu_pk hup
      obtain ⟨ob, hob⟩ : ∃ ob, opB [⟨2, q.s⟩, ⟨16, q.h⟩, ⟨16, q.t⟩] = ob := ⟨_, rfl⟩
      obtain ⟨ov, hov⟩ : ∃ ov, opV [⟨2, q.s⟩, ⟨16, q.h⟩, ⟨16, q.t⟩] = ov := ⟨_, rfl⟩
      rw [hob] at p1
      rw [hov] at p2
      cases hB : q.B with
      | false =>
        simp only [hB, Bool.false_eq_true, if_false, setM_self H] at hR
        rw [hB] at p1
        cases ob with
        | false =>
          simp (config := { maxSteps := 10000000 }) only [run_drx, run_xd, run_xq, run_xg, run_xb, EV1, EV2, EV3, EV4, EV5, EV6, addT, istep, lenR_sl, lenR_ns, lenR_es, pickR, putD, bin1R, un1R, slcR, bnd, capsOf, fillP, S_plain, V_plain, V.cells, S_known, V_known, C.v, blk, setL, setH, eqS, eq1, cmpS, cmp1, isNil, popTo, killT, setT, leT, V.below, C.below, S_below, R.below, V.val, C.val, S_val, R.val, R.takes, vals, shows, List.any_cons, List.any_nil, unnamed, V.kill, V.names, C.names, S_names, R.names, List.set, List.replicate, ↓q_cond_t, ↓q_cond_f, if_true, if_false, reduceCtorEq, rvals, rvC, result, C_known, V.noL, C.noL, S_noL, R.noL, Option.map, true_and, and_true, ge_iff_le, gt_iff_lt, implies_true, q_ite_t, q_ite_f, beq_iff_eq, bne_iff_ne, q_ne, Nat.reduceAdd, Nat.reducePow, Int.reducePow, Nat.reduceMul, Nat.reduceSub, Nat.reduceLeDiff, Nat.reduceLT, Nat.reduceEqDiff, Int.reduceNeg, Int.reduceLT, Int.reduceLE, Int.reduceEq, Int.reduceNe, Int.reduceAdd, Int.reduceSub, Int.reduceMul, Int.reduceToNat, Int.reduceBEq, Int.reduceBNe, df42, ToQ, otG, memF_eq H, otM, n4, setM_self H, ht, opackG, R.lend, R.unlend, S_ren, C.ren, V.ren, app_taken, app_dropn, app_take0, app_drop0, List.take_succ_cons, List.take_zero, List.drop_succ_cons, List.drop_zero, Nat.not_lt_zero, Nat.lt_irrefl, Nat.add_sub_cancel_left, Nat.not_lt, Nat.le_add_right, nnn, nl0, app_len, hA, hob, hov, hc, Blk.ren, List.map_cons, List.map_nil, put, fillP, sub, List.take_succ_cons, List.take_zero, List.drop_zero]
          exact hR
        | true =>
          simp only [Bool.true_and] at p1
          simp (config := { maxSteps := 10000000 }) only [run_drx, run_xd, run_xq, run_xg, run_xb, EV1, EV2, EV3, EV4, EV5, EV6, addT, istep, lenR_sl, lenR_ns, lenR_es, pickR, putD, bin1R, un1R, slcR, bnd, capsOf, fillP, S_plain, V_plain, V.cells, S_known, V_known, C.v, blk, setL, setH, eqS, eq1, cmpS, cmp1, isNil, popTo, killT, setT, leT, V.below, C.below, S_below, R.below, V.val, C.val, S_val, R.val, R.takes, vals, shows, List.any_cons, List.any_nil, unnamed, V.kill, V.names, C.names, S_names, R.names, List.set, List.replicate, ↓q_cond_t, ↓q_cond_f, if_true, if_false, reduceCtorEq, rvals, rvC, result, C_known, V.noL, C.noL, S_noL, R.noL, Option.map, true_and, and_true, ge_iff_le, gt_iff_lt, implies_true, q_ite_t, q_ite_f, beq_iff_eq, bne_iff_ne, q_ne, Nat.reduceAdd, Nat.reducePow, Int.reducePow, Nat.reduceMul, Nat.reduceSub, Nat.reduceLeDiff, Nat.reduceLT, Nat.reduceEqDiff, Int.reduceNeg, Int.reduceLT, Int.reduceLE, Int.reduceEq, Int.reduceNe, Int.reduceAdd, Int.reduceSub, Int.reduceMul, Int.reduceToNat, Int.reduceBEq, Int.reduceBNe, df42, ToQ, otG, memF_eq H, otM, n4, setM_self H, ht, opackG, R.lend, R.unlend, S_ren, C.ren, V.ren, app_taken, app_dropn, app_take0, app_drop0, List.take_succ_cons, List.take_zero, List.drop_succ_cons, List.drop_zero, Nat.not_lt_zero, Nat.lt_irrefl, Nat.add_sub_cancel_left, Nat.not_lt, Nat.le_add_right, nnn, nl0, app_len, hA, hob, hov, hc, quCG, quF, qu_eta, p1, Blk.ren, List.map_cons, List.map_nil, put, fillP, sub, List.take_succ_cons, List.take_zero, List.drop_zero]
          exact hR
      | true =>
        simp only [hB, if_true] at hR
        rw [hB, Bool.and_eq_true] at p1
        obtain ⟨p3, p4⟩ := p1
        have hu := Qu.w_u hB
        have p2 := p2 hB
        simp (config := { maxSteps := 10000000 }) only [run_drx, run_xd, run_xq, run_xg, run_xb, EV1, EV2, EV3, EV4, EV5, EV6, addT, istep, lenR_sl, lenR_ns, lenR_es, pickR, putD, bin1R, un1R, slcR, bnd, capsOf, fillP, S_plain, V_plain, V.cells, S_known, V_known, C.v, blk, setL, setH, eqS, eq1, cmpS, cmp1, isNil, popTo, killT, setT, leT, V.below, C.below, S_below, R.below, V.val, C.val, S_val, R.val, R.takes, vals, shows, List.any_cons, List.any_nil, unnamed, V.kill, V.names, C.names, S_names, R.names, List.set, List.replicate, ↓q_cond_t, ↓q_cond_f, if_true, if_false, reduceCtorEq, rvals, rvC, result, C_known, V.noL, C.noL, S_noL, R.noL, Option.map, true_and, and_true, ge_iff_le, gt_iff_lt, implies_true, q_ite_t, q_ite_f, beq_iff_eq, bne_iff_ne, q_ne, Nat.reduceAdd, Nat.reducePow, Int.reducePow, Nat.reduceMul, Nat.reduceSub, Nat.reduceLeDiff, Nat.reduceLT, Nat.reduceEqDiff, Int.reduceNeg, Int.reduceLT, Int.reduceLE, Int.reduceEq, Int.reduceNe, Int.reduceAdd, Int.reduceSub, Int.reduceMul, Int.reduceToNat, Int.reduceBEq, Int.reduceBNe, df42, ToQ, otG, memF_eq H, otM, n4, setM_self H, ht, opackG, R.lend, R.unlend, S_ren, C.ren, V.ren, app_taken, app_dropn, app_take0, app_drop0, List.take_succ_cons, List.take_zero, List.drop_succ_cons, List.drop_zero, Nat.not_lt_zero, Nat.lt_irrefl, Nat.add_sub_cancel_left, Nat.not_lt, Nat.le_add_right, nnn, nl0, app_len, hA, hob, hov, p2, p3, hc, quCG, quF, qu_eta, p4, writeG, writeM, h0, hu, Blk.ren, List.map_cons, List.map_nil, put, fillP, sub, List.take_succ_cons, List.take_zero, List.drop_zero]
        exact hR
  · exact hS.elim
end Go.Proofs.Ytdlloccodmdnnaa

