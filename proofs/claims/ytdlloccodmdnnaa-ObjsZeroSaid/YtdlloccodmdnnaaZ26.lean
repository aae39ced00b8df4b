/- Package objs: threads, the document's. -/
import Derived.Test.YtdlloccodmdnnaaZ10
import Derived.Test.YtdlloccodmdnnaaZ25
/- Package objs: threads, the document's. -/
namespace Go.Proofs.Ytdlloccodmdnnaa
open Go.D
set_option linter.all false
set_option maxRecDepth 100000
set_option maxHeartbeats 8000000

def M.tks (m : M) : Nat → M
  | 0 => m
  | k + 1 => (m.tks k).tick 1
theorem M.tks_w (m : M) : ∀ k, (m.tks k).w = m.w
  | 0 => rfl
  | k + 1 => M.tks_w m k
theorem M.tks_at (m : M) (k : Nat) (j : Int) : (m.tks k).at j = m.at j := by rw [M.at, M.tks_w]; rfl
theorem M.tks_has (m : M) (k : Nat) (j n : Int) : (m.tks k).has j n = m.has j n := by simp only [M.has, M.tks_w]
/-- Words, written one behind the other. -/
def M.wrs (m : M) (o : Nat) (ws : List Int) : Nat → M
  | 0 => m
  | k + 1 => ((m.wrs o ws k).put (o + k) (nth 0 ws k)).tick 1
theorem M.wrs_len (m : M) (o : Nat) (ws : List Int) : ∀ k, (m.wrs o ws k).w.length = m.w.length
  | 0 => rfl
  | k + 1 => by rw [M.wrs, M.tick_len, M.put_len, M.wrs_len m o ws k]
theorem M.wrs_has (m : M) (o : Nat) (ws : List Int) (k : Nat) (j n : Int) : (m.wrs o ws k).has j n = m.has j n := by simp only [M.has, M.wrs_len]
theorem M.wrs_at (m : M) (o : Nat) (ws : List Int) (hu : ∀ v, v ∈ ws → u64 v) (j : Int) : ∀ k, k ≤ ws.length → o + k ≤ m.w.length → (m.wrs o ws k).at j = if o ≤ j.toNat ∧ j.toNat < o + k then nth 0 ws (j.toNat - o) else m.at j
  | 0, _, _ => by rw [if_neg (by omega)]; rfl
  | k + 1, h, h2 => by
    have hx : u64 (nth 0 ws k) := by rw [nth_eq h]; exact hu _ (List.getElem_mem _)
    rw [M.wrs, M.at_tick, M.at_put, M.wrs_len, M.wrs_at m o ws hu j k (by omega) (by omega)]
    by_cases c : o + k = j.toNat
    · rw [if_pos ⟨c, by omega⟩, if_pos (by omega), uw_of hx, ← c, Nat.add_sub_cancel_left]
    · rw [if_neg (by omega)]
      by_cases c2 : o ≤ j.toNat ∧ j.toNat < o + k
      · rw [if_pos c2, if_pos (by omega)]
      · rw [if_neg c2, if_neg (by omega)]
theorem M.part4 {m : M} {o : Nat} (h : o + 4 ≤ m.w.length) : m.part o 4 = [m.at o, m.at ((o + 1 : Nat) : Int), m.at ((o + 2 : Nat) : Int), m.at ((o + 3 : Nat) : Int)] := by
  rw [M.part_snoc (by omega), M.part_snoc (by omega), M.part_snoc (by omega), M.part_snoc (by omega)]
  simp [M.part]
/-- A thread, from its words. -/
def thOf (w0 w1 w2 w3 : Int) (L : List Int) : Th := ⟨w0 % 8, w0 / 8 % 256, w0 / 2048 % 8, w0 / 16384 % 2 == 1, w1 % 65536, w1 / 65536 % 65536, w1 / 4294967296 % 65536, w2 % 268435456, w0 / 32768 % 2 == 1, w0 / 65536 % 2 == 1, w1 / 281474976710656, w3 % 4294967296, w0 / 131072 % 4, w3 / 4294967296, L⟩
def thOk (w0 w2 : Int) : Bool := decide (w0 < 524288) && (decide (w2 < 268435456) && (decide (w0 % 8 ≤ 5) && decide (w0 / 2048 % 8 ≤ 5)))
theorem bI_of {n : Int} (h : 0 ≤ n ∧ n ≤ 1) : bI (n == 1) = n := by
  by_cases c : n = 1
  · subst c; rfl
  · have : n = 0 := by omega
    subst this; rfl
theorem thOf_B {w0 w1 w2 w3 : Int} {L : List Int} (u0 : u64 w0) (u1 : u64 w1) (u2 : u64 w2) (u3 : u64 w3) : (thOf w0 w1 w2 w3 L).B = (decide (w0 % 8 ≤ 5) && decide (w0 / 2048 % 8 ≤ 5)) := by
  rw [Bool.eq_iff_iff, Th.B_iff]
  simp only [u64, thOf, Bool.and_eq_true, decide_eq_true_eq] at *
  constructor
  · rintro ⟨_, _, _, _, h1, _, h2, _⟩
    exact ⟨h1.2, h2.2⟩
  · rintro ⟨h1, h2⟩
    refine ⟨⟨?_, ?_⟩, ⟨?_, ?_⟩, ⟨?_, ?_⟩, ⟨?_, ?_⟩, ⟨?_, h1⟩, ⟨?_, ?_⟩, ⟨?_, h2⟩, ⟨?_, ?_⟩, ⟨?_, ?_⟩, ⟨?_, ?_⟩, ⟨?_, ?_⟩⟩ <;> omega
theorem thOf_h {w0 w1 w2 w3 : Int} {L : List Int} (u0 : u64 w0) (u1 : u64 w1) (u2 : u64 w2) (u3 : u64 w3) : (thOf w0 w1 w2 w3 L).h0 = w0 % 524288 ∧ (thOf w0 w1 w2 w3 L).h1 = w1 ∧ (thOf w0 w1 w2 w3 L).bg = w2 % 268435456 ∧ (thOf w0 w1 w2 w3 L).h3 = w3 := by
  simp only [u64, thOf, Th.h0, Th.h1, Th.h3] at *
  rw [bI_of (n := w0 / 16384 % 2) (by omega), bI_of (n := w0 / 32768 % 2) (by omega), bI_of (n := w0 / 65536 % 2) (by omega)]
  refine ⟨?_, ?_, trivial, ?_⟩ <;> omega
theorem Th.ok {t : Th} (h : t.B = true) : thOk t.h0 t.bg = true := by
  have := Th.B_iff.1 h
  have b1 := bI_u t.qd
  have b2 := bI_u t.cg
  have b3 := bI_u t.ic
  simp only [thOk, Bool.and_eq_true, decide_eq_true_eq]
  simp only [Th.h0]
  refine ⟨?_, ?_, ?_, ?_⟩ <;> omega
def M.tok (m : M) (x : Int) : Bool := thOk (m.at (x + 16)) (m.at (x + 18))
def M.tgE (m : M) (x : Int) : Int := if otB m x 64 then (if m.tok x then 0 else 90) else 20
def M.tgV (m : M) (x : Int) : Th := if otB m x 64 && m.tok x then thOf (m.at (x + 16)) (m.at (x + 17)) (m.at (x + 18)) (m.at (x + 19)) (m.part (x + 32).toNat 16) else thZ
def M.tgXD (m : M) (x : Int) : M := if otB m x 64 then (m.tks 4).tks 16 else m
def M.tgXC (m : M) (x : Int) : M := if otB m x 64 then (if m.tok x then (m.tks 4).tks 16 else m.tks 4) else m
def M.thE (m : M) (x : Int) (t : Th) : Int := if otB m x 64 then (if t.B then 0 else 90) else 20
def M.thX (m : M) (x : Int) (t : Th) : M := if otB m x 64 && t.B then (m.wrs (x + 16).toNat [t.h0, t.h1, t.bg, t.h3] 4).wrs (x + 32).toNat t.rg 16 else m
def tdM (b : Nat) (m : M) (st : M → List Blk) : List V → Res
  | [.s (.i .i64 a)] => .ok (.tup [.agg (m.tgV a).c, .s (.i .i64 (m.tgE a))]) [] (st (m.tgXD a))
  | _ => .bad
noncomputable def tdG := memF tdM
def tcM (b : Nat) (m : M) (st : M → List Blk) : List V → Res
  | [.s (.i .i64 a)] => .ok (.tup [.agg (m.tgV a).c, .s (.i .i64 (m.tgE a))]) [] (st (m.tgXC a))
  | _ => .bad
noncomputable def tcG := memF tcM
def Th.up (t : Th) : Prop := sml t.st ∧ sml t.pr ∧ sml t.sl ∧ sml t.pv ∧ sml t.nx ∧ sml t.bl ∧ sml t.bg ∧ sml t.bo ∧ sml t.ha ∧ sml t.fk ∧ sml t.fa
def tsetM (b : Nat) (m : M) (st : M → List Blk) : List V → Res
  | [.s (.i .i64 a), x] => thF (fun t => .ob (t.up ∧ ∀ v, v ∈ t.rg → u64 v) (.ok (.s (.i .i64 (m.thE a t))) [] (st (m.thX a t)))) [x]
  | _ => .bad
noncomputable def tsetG := memF tsetM
theorem set14 {c0 c1 c2 c3 c4 c5 c6 c7 c8 c9 c10 c11 c12 c13 v : S} {X : List S} {i : Nat} : (c0 :: c1 :: c2 :: c3 :: c4 :: c5 :: c6 :: c7 :: c8 :: c9 :: c10 :: c11 :: c12 :: c13 :: X).set (14 + i) v = c0 :: c1 :: c2 :: c3 :: c4 :: c5 :: c6 :: c7 :: c8 :: c9 :: c10 :: c11 :: c12 :: c13 :: X.set i v := by rw [Nat.add_comm]; rfl
theorem put_all' : ∀ (v X P : List S), X.length = v.length → put (P ++ X) P.length v = P ++ v
  | [], X, P, h => by
    have : X = [] := List.length_eq_zero_iff.1 h
    subst this; rfl
  | x :: v, [], P, h => by cases h
  | x :: v, y :: X, P, h => by
    have h2 := put_all' v X (P ++ [x]) (by simpa using h)
    simp only [List.append_assoc, List.cons_append, List.nil_append, List.length_append, List.length_cons, List.length_nil] at h2
    rw [put, ← h2]
    congr 1
    simp
theorem put_all {v X : List S} (h : X.length = v.length) : put X 0 v = v := put_all' v X [] h
theorem get14 {c0 c1 c2 c3 c4 c5 c6 c7 c8 c9 c10 c11 c12 c13 : S} {X : List S} {i : Nat} : (c0 :: c1 :: c2 :: c3 :: c4 :: c5 :: c6 :: c7 :: c8 :: c9 :: c10 :: c11 :: c12 :: c13 :: X)[14 + i]? = X[i]? := by rw [Nat.add_comm]; rfl
noncomputable def To9 : Tab := addT 102 otG (addT 100 readG (addT 91 writeG (addT 103 thBG (addT 104 thHG (noT)))))
theorem To9_snd : To9.Snd Try.prog := addT_snd ok102 rot_snd (addT_snd ok100 rread_snd (addT_snd ok91 rwrite_snd (addT_snd ok103 thB_snd (addT_snd ok104 thH_snd ((noT_snd _))))))
theorem rtd_snd : Snd Try.prog 82 (FSpec.of tdG) := snd_run To9_snd mixed Try.func82 dc82 300 fun args h K hc hS => by
  obtain ⟨a, b, m, rest, rfl, H, hS1⟩ := memF_spec hS
  clear hS
  have hS := hS1
  clear hS1
  unfold tdM at hS
  split at hS
  · rename_i x
    simp only [spec_ok, M.tgE, M.tgV, M.tgXD] at hS
    have n4 : (0 : Int) < 64 ∧ (64 : Int) ≤ 64 := by decide
    cases ht : otB m x 64 with
    | false =>
      simp only [ht, Bool.false_and, Bool.false_eq_true, if_false, setM_self H, thZ_c] at hS
      simp (config := { maxSteps := 10000000 }) only [run_drx, run_xd, run_xq, run_xg, run_xb, EV1, EV2, EV3, EV4, EV5, EV6, addT, istep, lenR_sl, lenR_ns, lenR_es, pickR, putD, bin1R, un1R, slcR, bnd, capsOf, fillP, S_plain, V_plain, V.cells, S_known, V_known, C.v, blk, setL, setH, eqS, eq1, cmpS, cmp1, isNil, popTo, killT, setT, leT, V.below, C.below, S_below, R.below, V.val, C.val, S_val, R.val, R.takes, vals, shows, List.any_cons, List.any_nil, unnamed, V.kill, V.names, C.names, S_names, R.names, List.set, List.replicate, ↓q_cond_t, ↓q_cond_f, if_true, if_false, reduceCtorEq, rvals, rvC, result, C_known, V.noL, C.noL, S_noL, R.noL, Option.map, true_and, and_true, ge_iff_le, gt_iff_lt, implies_true, q_ite_t, q_ite_f, beq_iff_eq, bne_iff_ne, q_ne, Nat.reduceAdd, Nat.reducePow, Int.reducePow, Nat.reduceMul, Nat.reduceSub, Nat.reduceLeDiff, Nat.reduceLT, Nat.reduceEqDiff, Int.reduceNeg, Int.reduceLT, Int.reduceLE, Int.reduceEq, Int.reduceNe, Int.reduceAdd, Int.reduceSub, Int.reduceMul, Int.reduceToNat, Int.reduceBEq, Int.reduceBNe, df82, To9, otG, memF_eq H, otM, n4, setM_self H, ht, put, fillP, sub, List.take_succ_cons, List.take_zero, List.drop_zero]
      exact hS
    | true =>
      simp only [ht, Bool.true_and, if_true] at hS
      have hb := otB_iff.1 ht
      have hl := m.l
      obtain ⟨i, rfl⟩ : ∃ i : Nat, x = i := ⟨x.toNat, by omega⟩
      obtain ⟨o, ho⟩ : ∃ o, i + 16 = o := ⟨_, rfl⟩
      obtain ⟨o2, ho2⟩ : ∃ o, i + 32 = o := ⟨_, rfl⟩
      have e1 : IntKind.i64.wrap ((i : Int) + 16) = (o : Int) := by rw [wrap64 (by omega) (by omega)]; omega
      have e2 : IntKind.i64.wrap ((i : Int) + 32) = (o2 : Int) := by rw [wrap64 (by omega) (by omega)]; omega
      have hi4 : o + 4 ≤ m.w.length := by omega
      have hi16 : o2 + 16 ≤ m.w.length := by omega
      simp (config := { maxSteps := 10000000 }) only [run_drx, run_xd, run_xq, run_xg, run_xb, EV1, EV2, EV3, EV4, EV5, EV6, addT, istep, lenR_sl, lenR_ns, lenR_es, pickR, putD, bin1R, un1R, slcR, bnd, capsOf, fillP, S_plain, V_plain, V.cells, S_known, V_known, C.v, blk, setL, setH, eqS, eq1, cmpS, cmp1, isNil, popTo, killT, setT, leT, V.below, C.below, S_below, R.below, V.val, C.val, S_val, R.val, R.takes, vals, shows, List.any_cons, List.any_nil, unnamed, V.kill, V.names, C.names, S_names, R.names, List.set, List.replicate, ↓q_cond_t, ↓q_cond_f, if_true, if_false, reduceCtorEq, rvals, rvC, result, C_known, V.noL, C.noL, S_noL, R.noL, Option.map, true_and, and_true, ge_iff_le, gt_iff_lt, implies_true, q_ite_t, q_ite_f, beq_iff_eq, bne_iff_ne, q_ne, Nat.reduceAdd, Nat.reducePow, Int.reducePow, Nat.reduceMul, Nat.reduceSub, Nat.reduceLeDiff, Nat.reduceLT, Nat.reduceEqDiff, Int.reduceNeg, Int.reduceLT, Int.reduceLE, Int.reduceEq, Int.reduceNe, Int.reduceAdd, Int.reduceSub, Int.reduceMul, Int.reduceToNat, Int.reduceBEq, Int.reduceBNe, df82, To9, otG, memF_eq H, otM, n4, setM_self H, ht]
      refine loop_rule (α := Nat) [8, 9, 10, 22, 23, 24, 25, 26, 27, 28, 29, 30, 31, 32, 33, 34, 35, 36, 37] (fun q => [(8, .s (.i .i64 q))]) (fun q => [⟨.rw, thZ.c, 30⟩, ⟨.rw, wc (m.pz o q 4), 4⟩]) (fun q => setM h a b (m.tks q)) (fun q => q ≤ 4) (fun q => 4 - q) 0 (by omega) ?_ ?_
      · rw [M.pz_0, M.tks, setM_self H]
        refine Wk.same rfl rfl ?_
        simp (config := { maxSteps := 10000000 }) only [run_drx, run_xd, run_xq, run_xg, run_xb, EV1, EV2, EV3, EV4, EV5, EV6, addT, istep, lenR_sl, lenR_ns, lenR_es, pickR, putD, bin1R, un1R, slcR, bnd, capsOf, fillP, S_plain, V_plain, V.cells, S_known, V_known, C.v, blk, setL, setH, eqS, eq1, cmpS, cmp1, isNil, popTo, killT, setT, leT, V.below, C.below, S_below, R.below, V.val, C.val, S_val, R.val, R.takes, vals, shows, List.any_cons, List.any_nil, unnamed, V.kill, V.names, C.names, S_names, R.names, List.set, List.replicate, ↓q_cond_t, ↓q_cond_f, if_true, if_false, reduceCtorEq, rvals, rvC, result, C_known, V.noL, C.noL, S_noL, R.noL, Option.map, true_and, and_true, ge_iff_le, gt_iff_lt, implies_true, q_ite_t, q_ite_f, beq_iff_eq, bne_iff_ne, q_ne, Nat.reduceAdd, Nat.reducePow, Int.reducePow, Nat.reduceMul, Nat.reduceSub, Nat.reduceLeDiff, Nat.reduceLT, Nat.reduceEqDiff, Int.reduceNeg, Int.reduceLT, Int.reduceLE, Int.reduceEq, Int.reduceNe, Int.reduceAdd, Int.reduceSub, Int.reduceMul, Int.reduceToNat, Int.reduceBEq, Int.reduceBNe, Int.natCast_zero]
      · rintro X q hq IH
        rcases Nat.lt_or_ge q 4 with h1 | h1
        · have d1 : ((q : Int) < 4) := by omega
          have d3 : (0 : Int) ≤ q := by omega
          have d4 : IntKind.i64.wrap ((q : Int) + 1) = ((q + 1 : Nat) : Int) := by rw [wrap64 (by omega) (by omega)]; omega
          have w1 : IntKind.i64.wrap ((o : Int) + q) = ((o + q : Nat) : Int) := by rw [wrap64 (by omega) (by omega)]; omega
          have h0 : m.has ((o + q : Nat) : Int) 1 = true := M.has_of (by omega)
          have c6 : q + 1 ≤ (wc (m.pz o q 4)).length := by rw [wc_len, M.pz_len hi4 hq]; omega
          have c7 := M.pz_set hi4 h1
          refine run_sound (Tab.ok_Γ _) 100 _ _ _ _ ?_
          simp (config := { maxSteps := 10000000 }) only [run_drx, run_xd, run_xq, run_xg, run_xb, EV1, EV2, EV3, EV4, EV5, EV6, addT, istep, lenR_sl, lenR_ns, lenR_es, pickR, putD, bin1R, un1R, slcR, bnd, capsOf, fillP, S_plain, V_plain, V.cells, S_known, V_known, C.v, blk, setL, setH, eqS, eq1, cmpS, cmp1, isNil, popTo, killT, setT, leT, V.below, C.below, S_below, R.below, V.val, C.val, S_val, R.val, R.takes, vals, shows, List.any_cons, List.any_nil, unnamed, V.kill, V.names, C.names, S_names, R.names, List.set, List.replicate, ↓q_cond_t, ↓q_cond_f, if_true, if_false, reduceCtorEq, rvals, rvC, result, C_known, V.noL, C.noL, S_noL, R.noL, Option.map, true_and, and_true, ge_iff_le, gt_iff_lt, implies_true, q_ite_t, q_ite_f, beq_iff_eq, bne_iff_ne, q_ne, Nat.reduceAdd, Nat.reducePow, Int.reducePow, Nat.reduceMul, Nat.reduceSub, Nat.reduceLeDiff, Nat.reduceLT, Nat.reduceEqDiff, Int.reduceNeg, Int.reduceLT, Int.reduceLE, Int.reduceEq, Int.reduceNe, Int.reduceAdd, Int.reduceSub, Int.reduceMul, Int.reduceToNat, Int.reduceBEq, Int.reduceBNe, To9, e1, d1, d3, d4, w1, readG, memF_set H, readM, M.tks_has, M.tks_at, h0, h1, c6, c7, Int.toNat_natCast, put]
          exact IH (q + 1) _ (by omega) (by omega) (Wk.same rfl rfl (by simp (config := { maxSteps := 10000000 }) only [run_drx, run_xd, run_xq, run_xg, run_xb, EV1, EV2, EV3, EV4, EV5, EV6, addT, istep, lenR_sl, lenR_ns, lenR_es, pickR, putD, bin1R, un1R, slcR, bnd, capsOf, fillP, S_plain, V_plain, V.cells, S_known, V_known, C.v, blk, setL, setH, eqS, eq1, cmpS, cmp1, isNil, popTo, killT, setT, leT, V.below, C.below, S_below, R.below, V.val, C.val, S_val, R.val, R.takes, vals, shows, List.any_cons, List.any_nil, unnamed, V.kill, V.names, C.names, S_names, R.names, List.set, List.replicate, ↓q_cond_t, ↓q_cond_f, if_true, if_false, reduceCtorEq, rvals, rvC, result, C_known, V.noL, C.noL, S_noL, R.noL, Option.map, true_and, and_true, ge_iff_le, gt_iff_lt, implies_true, q_ite_t, q_ite_f, beq_iff_eq, bne_iff_ne, q_ne, Nat.reduceAdd, Nat.reducePow, Int.reducePow, Nat.reduceMul, Nat.reduceSub, Nat.reduceLeDiff, Nat.reduceLT, Nat.reduceEqDiff, Int.reduceNeg, Int.reduceLT, Int.reduceLE, Int.reduceEq, Int.reduceNe, Int.reduceAdd, Int.reduceSub, Int.reduceMul, Int.reduceToNat, Int.reduceBEq, Int.reduceBNe]))
        · have : q = 4 := by omega
          subst this
          rw [M.pz_all, M.part4 hi4]
          simp only [show ((i : Int) + 16) = ((o : Nat) : Int) by omega, show ((i : Int) + 17) = ((o + 1 : Nat) : Int) by omega, show ((i : Int) + 18) = ((o + 2 : Nat) : Int) by omega, show ((i : Int) + 19) = ((o + 3 : Nat) : Int) by omega, show ((i : Int) + 32).toNat = o2 by omega, M.tok] at hS
          have u0 := m.at_u o
          have u1 := m.at_u ((o + 1 : Nat) : Int)
          have u2 := m.at_u ((o + 2 : Nat) : Int)
          have u3 := m.at_u ((o + 3 : Nat) : Int)
          obtain ⟨w0, q0⟩ : ∃ w, m.at o = w := ⟨_, rfl⟩
          obtain ⟨w1, q1⟩ : ∃ w, m.at ((o + 1 : Nat) : Int) = w := ⟨_, rfl⟩
          obtain ⟨w2, q2⟩ : ∃ w, m.at ((o + 2 : Nat) : Int) = w := ⟨_, rfl⟩
          obtain ⟨w3, q3⟩ : ∃ w, m.at ((o + 3 : Nat) : Int) = w := ⟨_, rfl⟩
          rw [q0] at u0
          rw [q1] at u1
          rw [q2] at u2
          rw [q3] at u3
          simp only [q0, q1, q2, q3] at hS ⊢
          clear IH
          refine run_sound (Tab.ok_Γ _) 100 _ _ _ _ ?_
          simp (config := { maxSteps := 10000000 }) only [run_drx, run_xd, run_xq, run_xg, run_xb, EV1, EV2, EV3, EV4, EV5, EV6, addT, istep, lenR_sl, lenR_ns, lenR_es, pickR, putD, bin1R, un1R, slcR, bnd, capsOf, fillP, S_plain, V_plain, V.cells, S_known, V_known, C.v, blk, setL, setH, eqS, eq1, cmpS, cmp1, isNil, popTo, killT, setT, leT, V.below, C.below, S_below, R.below, V.val, C.val, S_val, R.val, R.takes, vals, shows, List.any_cons, List.any_nil, unnamed, V.kill, V.names, C.names, S_names, R.names, List.set, List.replicate, ↓q_cond_t, ↓q_cond_f, if_true, if_false, reduceCtorEq, rvals, rvC, result, C_known, V.noL, C.noL, S_noL, R.noL, Option.map, true_and, and_true, ge_iff_le, gt_iff_lt, implies_true, q_ite_t, q_ite_f, beq_iff_eq, bne_iff_ne, q_ne, Nat.reduceAdd, Nat.reducePow, Int.reducePow, Nat.reduceMul, Nat.reduceSub, Nat.reduceLeDiff, Nat.reduceLT, Nat.reduceEqDiff, Int.reduceNeg, Int.reduceLT, Int.reduceLE, Int.reduceEq, Int.reduceNe, Int.reduceAdd, Int.reduceSub, Int.reduceMul, Int.reduceToNat, Int.reduceBEq, Int.reduceBNe, Int.lt_irrefl, wc_cons, wc_nil]
          refine loop_rule (α := Nat) [12, 13, 14, 38, 39, 40, 41, 42, 43, 44, 45, 46, 47, 48, 49, 50, 51, 52, 53, 54] (fun q => [(12, .s (.i .i64 q))]) (fun q => [⟨.rw, thZ.c, 30⟩, ⟨.rw, [.i .u64 w0, .i .u64 w1, .i .u64 w2, .i .u64 w3], 4⟩, ⟨.rw, Th.c ⟨0, 0, 0, false, 0, 0, 0, 0, false, false, 0, 0, 0, 0, m.pz o2 q 16⟩, 30⟩]) (fun q => setM h a b ((m.tks 4).tks q)) (fun q => q ≤ 16) (fun q => 16 - q) 0 (by omega) ?_ ?_
          · rw [M.pz_0]
            refine Wk.same rfl rfl ?_
            simp (config := { maxSteps := 10000000 }) only [run_drx, run_xd, run_xq, run_xg, run_xb, EV1, EV2, EV3, EV4, EV5, EV6, addT, istep, lenR_sl, lenR_ns, lenR_es, pickR, putD, bin1R, un1R, slcR, bnd, capsOf, fillP, S_plain, V_plain, V.cells, S_known, V_known, C.v, blk, setL, setH, eqS, eq1, cmpS, cmp1, isNil, popTo, killT, setT, leT, V.below, C.below, S_below, R.below, V.val, C.val, S_val, R.val, R.takes, vals, shows, List.any_cons, List.any_nil, unnamed, V.kill, V.names, C.names, S_names, R.names, List.set, List.replicate, ↓q_cond_t, ↓q_cond_f, if_true, if_false, reduceCtorEq, rvals, rvC, result, C_known, V.noL, C.noL, S_noL, R.noL, Option.map, true_and, and_true, ge_iff_le, gt_iff_lt, implies_true, q_ite_t, q_ite_f, beq_iff_eq, bne_iff_ne, q_ne, Nat.reduceAdd, Nat.reducePow, Int.reducePow, Nat.reduceMul, Nat.reduceSub, Nat.reduceLeDiff, Nat.reduceLT, Nat.reduceEqDiff, Int.reduceNeg, Int.reduceLT, Int.reduceLE, Int.reduceEq, Int.reduceNe, Int.reduceAdd, Int.reduceSub, Int.reduceMul, Int.reduceToNat, Int.reduceBEq, Int.reduceBNe, Int.natCast_zero]
          · rintro X q hq IH
            rw [thZ_c]
            simp only [Th.c]
            rcases Nat.lt_or_ge q 16 with h1 | h1
            · have d1 : ((q : Int) < 16) := by omega
              have d3 : (0 : Int) ≤ q := by omega
              have d4 : IntKind.i64.wrap ((q : Int) + 1) = ((q + 1 : Nat) : Int) := by rw [wrap64 (by omega) (by omega)]; omega
              have w1 : IntKind.i64.wrap ((o2 : Int) + q) = ((o2 + q : Nat) : Int) := by rw [wrap64 (by omega) (by omega)]; omega
              have h0 : m.has ((o2 + q : Nat) : Int) 1 = true := M.has_of (by omega)
              have c5 : (wc (m.pz o2 q 16)).length = 16 := by rw [wc_len, M.pz_len hi16 hq]
              have c6 : 14 + q + 1 ≤ 30 := by omega
              have c7 := M.pz_set hi16 h1
              refine run_sound (Tab.ok_Γ _) 100 _ _ _ _ ?_
              simp (config := { maxSteps := 10000000 }) only [run_drx, run_xd, run_xq, run_xg, run_xb, EV1, EV2, EV3, EV4, EV5, EV6, addT, istep, lenR_sl, lenR_ns, lenR_es, pickR, putD, bin1R, un1R, slcR, bnd, capsOf, fillP, S_plain, V_plain, V.cells, S_known, V_known, C.v, blk, setL, setH, eqS, eq1, cmpS, cmp1, isNil, popTo, killT, setT, leT, V.below, C.below, S_below, R.below, V.val, C.val, S_val, R.val, R.takes, vals, shows, List.any_cons, List.any_nil, unnamed, V.kill, V.names, C.names, S_names, R.names, List.set, List.replicate, ↓q_cond_t, ↓q_cond_f, if_true, if_false, reduceCtorEq, rvals, rvC, result, C_known, V.noL, C.noL, S_noL, R.noL, Option.map, true_and, and_true, ge_iff_le, gt_iff_lt, implies_true, q_ite_t, q_ite_f, beq_iff_eq, bne_iff_ne, q_ne, Nat.reduceAdd, Nat.reducePow, Int.reducePow, Nat.reduceMul, Nat.reduceSub, Nat.reduceLeDiff, Nat.reduceLT, Nat.reduceEqDiff, Int.reduceNeg, Int.reduceLT, Int.reduceLE, Int.reduceEq, Int.reduceNe, Int.reduceAdd, Int.reduceSub, Int.reduceMul, Int.reduceToNat, Int.reduceBEq, Int.reduceBNe, To9, e2, d1, d3, d4, w1, readG, memF_set H, readM, M.tks_has, M.tks_at, h0, h1, c5, c6, c7, set14, Int.toNat_natCast, put]
              exact IH (q + 1) _ (by omega) (by omega) (Wk.same rfl rfl (by simp (config := { maxSteps := 10000000 }) only [run_drx, run_xd, run_xq, run_xg, run_xb, EV1, EV2, EV3, EV4, EV5, EV6, addT, istep, lenR_sl, lenR_ns, lenR_es, pickR, putD, bin1R, un1R, slcR, bnd, capsOf, fillP, S_plain, V_plain, V.cells, S_known, V_known, C.v, blk, setL, setH, eqS, eq1, cmpS, cmp1, isNil, popTo, killT, setT, leT, V.below, C.below, S_below, R.below, V.val, C.val, S_val, R.val, R.takes, vals, shows, List.any_cons, List.any_nil, unnamed, V.kill, V.names, C.names, S_names, R.names, List.set, List.replicate, ↓q_cond_t, ↓q_cond_f, if_true, if_false, reduceCtorEq, rvals, rvC, result, C_known, V.noL, C.noL, S_noL, R.noL, Option.map, true_and, and_true, ge_iff_le, gt_iff_lt, implies_true, q_ite_t, q_ite_f, beq_iff_eq, bne_iff_ne, q_ne, Nat.reduceAdd, Nat.reducePow, Int.reducePow, Nat.reduceMul, Nat.reduceSub, Nat.reduceLeDiff, Nat.reduceLT, Nat.reduceEqDiff, Int.reduceNeg, Int.reduceLT, Int.reduceLE, Int.reduceEq, Int.reduceNe, Int.reduceAdd, Int.reduceSub, Int.reduceMul, Int.reduceToNat, Int.reduceBEq, Int.reduceBNe]))
            · have : q = 16 := by omega
              subst this
              rw [M.pz_all]
              have v0 : 0 ≤ w0 ∧ w0 < 18446744073709551616 := u0
              have v1 : 0 ≤ w1 ∧ w1 < 18446744073709551616 := u1
              have v2 : 0 ≤ w2 ∧ w2 < 18446744073709551616 := u2
              have v3 : 0 ≤ w3 ∧ w3 < 18446744073709551616 := u3
              have t1 : (w0).tmod 8 = w0 % 8 := Int.tmod_eq_emod_of_nonneg (by omega)
              have i1 : IntKind.i64.wrap (w0 % 8) = w0 % 8 := wrap64 (by omega) (by omega)
              have t2 : (w0 / 8).tmod 256 = w0 / 8 % 256 := Int.tmod_eq_emod_of_nonneg (by omega)
              have i2 : IntKind.i64.wrap (w0 / 8 % 256) = w0 / 8 % 256 := wrap64 (by omega) (by omega)
              have t3 : (w0 / 2048).tmod 8 = w0 / 2048 % 8 := Int.tmod_eq_emod_of_nonneg (by omega)
              have i3 : IntKind.i64.wrap (w0 / 2048 % 8) = w0 / 2048 % 8 := wrap64 (by omega) (by omega)
              have t4 : (w0 / 16384).tmod 2 = w0 / 16384 % 2 := Int.tmod_eq_emod_of_nonneg (by omega)
              have t5 : (w0 / 32768).tmod 2 = w0 / 32768 % 2 := Int.tmod_eq_emod_of_nonneg (by omega)
              have t6 : (w0 / 65536).tmod 2 = w0 / 65536 % 2 := Int.tmod_eq_emod_of_nonneg (by omega)
              have t7 : (w0 / 131072).tmod 4 = w0 / 131072 % 4 := Int.tmod_eq_emod_of_nonneg (by omega)
              have i7 : IntKind.i64.wrap (w0 / 131072 % 4) = w0 / 131072 % 4 := wrap64 (by omega) (by omega)
              have t8 : (w1).tmod 65536 = w1 % 65536 := Int.tmod_eq_emod_of_nonneg (by omega)
              have i8 : IntKind.i64.wrap (w1 % 65536) = w1 % 65536 := wrap64 (by omega) (by omega)
              have t9 : (w1 / 65536).tmod 65536 = w1 / 65536 % 65536 := Int.tmod_eq_emod_of_nonneg (by omega)
              have i9 : IntKind.i64.wrap (w1 / 65536 % 65536) = w1 / 65536 % 65536 := wrap64 (by omega) (by omega)
              have t10 : (w1 / 4294967296).tmod 65536 = w1 / 4294967296 % 65536 := Int.tmod_eq_emod_of_nonneg (by omega)
              have i10 : IntKind.i64.wrap (w1 / 4294967296 % 65536) = w1 / 4294967296 % 65536 := wrap64 (by omega) (by omega)
              have t11 : (w2).tmod 268435456 = w2 % 268435456 := Int.tmod_eq_emod_of_nonneg (by omega)
              have i11 : IntKind.i64.wrap (w2 % 268435456) = w2 % 268435456 := wrap64 (by omega) (by omega)
              have t12 : (w3).tmod 4294967296 = w3 % 4294967296 := Int.tmod_eq_emod_of_nonneg (by omega)
              have i12 : IntKind.i64.wrap (w3 % 4294967296) = w3 % 4294967296 := wrap64 (by omega) (by omega)
              have i20 : IntKind.i64.wrap (w1 / 281474976710656) = w1 / 281474976710656 := wrap64 (by omega) (by omega)
              have i21 : IntKind.i64.wrap (w3 / 4294967296) = w3 / 4294967296 := wrap64 (by omega) (by omega)
              have m3 : min 3 IntKind.u64.bits = 3 := rfl
              have m11 : min 11 IntKind.u64.bits = 11 := rfl
              have m14 : min 14 IntKind.u64.bits = 14 := rfl
              have m15 : min 15 IntKind.u64.bits = 15 := rfl
              have m16 : min 16 IntKind.u64.bits = 16 := rfl
              have m17 : min 17 IntKind.u64.bits = 17 := rfl
              have m32 : min 32 IntKind.u64.bits = 32 := rfl
              have m48 : min 48 IntKind.u64.bits = 48 := rfl
              have hpl : (m.part o2 16).length = 16 := M.part_len hi16
              have hwl : 16 ≤ (wc (m.part o2 16)).length := by rw [wc_len, hpl]; exact Nat.le_refl _
              have hB := thOf_B (L := m.part o2 16) u0 u1 u2 u3
              obtain ⟨g0, g1, g2, g3⟩ := thOf_h (L := m.part o2 16) u0 u1 u2 u3
              have hnl : (wc (m.part o2 16)).all S.noL = true := wc_all (fun _ => rfl) _
              have hput : put [.i .u64 0, .i .u64 0, .i .u64 0, .i .u64 0, .i .u64 0, .i .u64 0, .i .u64 0, .i .u64 0, .i .u64 0, .i .u64 0, .i .u64 0, .i .u64 0, .i .u64 0, .i .u64 0, .i .u64 0, .i .u64 0] 0 (wc (m.part o2 16)) = wc (m.part o2 16) := put_all (by rw [wc_len, hpl]; rfl)
              clear IH
              by_cases cB : w0 % 8 ≤ 5 ∧ w0 / 2048 % 8 ≤ 5
              · have hBt : (thOf w0 w1 w2 w3 (m.part o2 16)).B = true := by rw [hB]; simpa using cB
                by_cases c2 : w0 < 524288 ∧ w2 < 268435456
                · have hk : thOk w0 w2 = true := by simp only [thOk, Bool.and_eq_true, decide_eq_true_eq]; exact ⟨c2.1, c2.2, cB⟩
                  have g0 : (thOf w0 w1 w2 w3 (m.part o2 16)).h0 = w0 := by rw [g0]; omega
                  have g7 : (w2 % 268435456 == w2) = true := by simp only [beq_iff_eq]; omega
                  simp only [hk, if_true, thOf, Th.c] at hS
                  simp only [thOf] at hBt g0 g1 g3
                  refine run_sound (Tab.ok_Γ _) 300 _ _ _ _ ?_
                  simp (config := { maxSteps := 10000000 }) only [run_drx, run_xd, run_xq, run_xg, run_xb, EV1, EV2, EV3, EV4, EV5, EV6, addT, istep, lenR_sl, lenR_ns, lenR_es, pickR, putD, bin1R, un1R, slcR, bnd, capsOf, fillP, S_plain, V_plain, V.cells, S_known, V_known, C.v, blk, setL, setH, eqS, eq1, cmpS, cmp1, isNil, popTo, killT, setT, leT, V.below, C.below, S_below, R.below, V.val, C.val, S_val, R.val, R.takes, vals, shows, List.any_cons, List.any_nil, unnamed, V.kill, V.names, C.names, S_names, R.names, List.set, List.replicate, ↓q_cond_t, ↓q_cond_f, if_true, if_false, reduceCtorEq, rvals, rvC, result, C_known, V.noL, C.noL, S_noL, R.noL, Option.map, true_and, and_true, ge_iff_le, gt_iff_lt, implies_true, q_ite_t, q_ite_f, beq_iff_eq, bne_iff_ne, q_ne, Nat.reduceAdd, Nat.reducePow, Int.reducePow, Nat.reduceMul, Nat.reduceSub, Nat.reduceLeDiff, Nat.reduceLT, Nat.reduceEqDiff, Int.reduceNeg, Int.reduceLT, Int.reduceLE, Int.reduceEq, Int.reduceNe, Int.reduceAdd, Int.reduceSub, Int.reduceMul, Int.reduceToNat, Int.reduceBEq, Int.reduceBNe, To9, e1, e2, Int.lt_irrefl, t1, i1, t2, i2, t3, i3, t4, t5, t6, t7, i7, t8, i8, t9, i9, t10, i10, t11, i11, t12, i12, i20, i21, m3, m11, m14, m15, m16, m17, m32, m48, thBG, thHG, thF, unwc_wc, hpl, hwl, hnl, hput, wc_take hpl, wc_known, memF_set H, bne_self_eq_false, beq_self_eq_true, put, fillP, sub, List.take_succ_cons, List.take_zero, List.drop_zero, hBt, g0, g1, g3, g7]
                  exact ⟨⟨by rw [wc_len, hpl], wc_takes _ _ _ _⟩, hS⟩
                · have hk : thOk w0 w2 = false := by
                    rw [Bool.eq_false_iff]
                    simp only [thOk, ne_eq, Bool.and_eq_true, decide_eq_true_eq]
                    exact fun e => c2 ⟨e.1, e.2.1⟩
                  have g5 : ((w0 % 524288 == w0) && (w2 % 268435456 == w2)) = false := by
                    rw [Bool.eq_false_iff]
                    simp only [ne_eq, Bool.and_eq_true, beq_iff_eq]
                    omega
                  simp only [hk, Bool.false_eq_true, if_false, thZ_c] at hS
                  simp only [thOf] at hBt g0 g1 g3
                  refine run_sound (Tab.ok_Γ _) 300 _ _ _ _ ?_
                  simp (config := { maxSteps := 10000000 }) only [run_drx, run_xd, run_xq, run_xg, run_xb, EV1, EV2, EV3, EV4, EV5, EV6, addT, istep, lenR_sl, lenR_ns, lenR_es, pickR, putD, bin1R, un1R, slcR, bnd, capsOf, fillP, S_plain, V_plain, V.cells, S_known, V_known, C.v, blk, setL, setH, eqS, eq1, cmpS, cmp1, isNil, popTo, killT, setT, leT, V.below, C.below, S_below, R.below, V.val, C.val, S_val, R.val, R.takes, vals, shows, List.any_cons, List.any_nil, unnamed, V.kill, V.names, C.names, S_names, R.names, List.set, List.replicate, ↓q_cond_t, ↓q_cond_f, if_true, if_false, reduceCtorEq, rvals, rvC, result, C_known, V.noL, C.noL, S_noL, R.noL, Option.map, true_and, and_true, ge_iff_le, gt_iff_lt, implies_true, q_ite_t, q_ite_f, beq_iff_eq, bne_iff_ne, q_ne, Nat.reduceAdd, Nat.reducePow, Int.reducePow, Nat.reduceMul, Nat.reduceSub, Nat.reduceLeDiff, Nat.reduceLT, Nat.reduceEqDiff, Int.reduceNeg, Int.reduceLT, Int.reduceLE, Int.reduceEq, Int.reduceNe, Int.reduceAdd, Int.reduceSub, Int.reduceMul, Int.reduceToNat, Int.reduceBEq, Int.reduceBNe, To9, e1, e2, Int.lt_irrefl, t1, i1, t2, i2, t3, i3, t4, t5, t6, t7, i7, t8, i8, t9, i9, t10, i10, t11, i11, t12, i12, i20, i21, m3, m11, m14, m15, m16, m17, m32, m48, thBG, thHG, thF, unwc_wc, hpl, hwl, hnl, hput, wc_take hpl, wc_known, memF_set H, bne_self_eq_false, beq_self_eq_true, put, fillP, sub, List.take_succ_cons, List.take_zero, List.drop_zero, hBt, g0, g1, g3, g5]
                  exact hS
              · have hBf : (thOf w0 w1 w2 w3 (m.part o2 16)).B = false := by rw [hB]; simpa using cB
                have hk : thOk w0 w2 = false := by
                  rw [Bool.eq_false_iff]
                  simp only [thOk, ne_eq, Bool.and_eq_true, decide_eq_true_eq]
                  exact fun e => cB e.2.2
                simp only [hk, Bool.false_eq_true, if_false, thZ_c] at hS
                simp only [thOf] at hBf
                refine run_sound (Tab.ok_Γ _) 300 _ _ _ _ ?_
                simp (config := { maxSteps := 10000000 }) only [run_drx, run_xd, run_xq, run_xg, run_xb, EV1, EV2, EV3, EV4, EV5, EV6, addT, istep, lenR_sl, lenR_ns, lenR_es, pickR, putD, bin1R, un1R, slcR, bnd, capsOf, fillP, S_plain, V_plain, V.cells, S_known, V_known, C.v, blk, setL, setH, eqS, eq1, cmpS, cmp1, isNil, popTo, killT, setT, leT, V.below, C.below, S_below, R.below, V.val, C.val, S_val, R.val, R.takes, vals, shows, List.any_cons, List.any_nil, unnamed, V.kill, V.names, C.names, S_names, R.names, List.set, List.replicate, ↓q_cond_t, ↓q_cond_f, if_true, if_false, reduceCtorEq, rvals, rvC, result, C_known, V.noL, C.noL, S_noL, R.noL, Option.map, true_and, and_true, ge_iff_le, gt_iff_lt, implies_true, q_ite_t, q_ite_f, beq_iff_eq, bne_iff_ne, q_ne, Nat.reduceAdd, Nat.reducePow, Int.reducePow, Nat.reduceMul, Nat.reduceSub, Nat.reduceLeDiff, Nat.reduceLT, Nat.reduceEqDiff, Int.reduceNeg, Int.reduceLT, Int.reduceLE, Int.reduceEq, Int.reduceNe, Int.reduceAdd, Int.reduceSub, Int.reduceMul, Int.reduceToNat, Int.reduceBEq, Int.reduceBNe, To9, e1, e2, Int.lt_irrefl, t1, i1, t2, i2, t3, i3, t4, t5, t6, t7, i7, t8, i8, t9, i9, t10, i10, t11, i11, t12, i12, i20, i21, m3, m11, m14, m15, m16, m17, m32, m48, thBG, thHG, thF, unwc_wc, hpl, hwl, hnl, hput, wc_take hpl, wc_known, memF_set H, bne_self_eq_false, beq_self_eq_true, put, fillP, sub, List.take_succ_cons, List.take_zero, List.drop_zero, hBf]
                exact hS
  · exact hS.elim
theorem rtset_snd' : Snd Try.prog 62 (FSpec.of tsetG) := snd_run To9_snd mixed Try.func62 dc62 300 fun args h K hc hS => by
  obtain ⟨a, b, m, rest, rfl, H, hS1⟩ := memF_spec hS
  clear hS
  have hS := hS1
  clear hS1
  unfold tsetM at hS
  split at hS
  · rename_i x y
    obtain ⟨t, e, hrl, ⟨hup, hru⟩, hR⟩ := thF_spec hS
    clear hS
    simp only [List.cons.injEq, and_true] at e
    subst e
    simp only [spec_ok, M.thE, M.thX] at hR
    have n4 : (0 : Int) < 64 ∧ (64 : Int) ≤ 64 := by decide
    have k1 := wc_known t.rg
    have k2 : (wc t.rg).all S.noL = true := wc_all (fun _ => rfl) _
    have k3 : (wc t.rg).length = 16 := by rw [wc_len, hrl]
    simp only [Th.c]
    cases ht : otB m x 64 with
    | false =>
      simp only [ht, Bool.false_and, Bool.false_eq_true, if_false, setM_self H] at hR
      simp (config := { maxSteps := 10000000 }) only [run_drx, run_xd, run_xq, run_xg, run_xb, EV1, EV2, EV3, EV4, EV5, EV6, addT, istep, lenR_sl, lenR_ns, lenR_es, pickR, putD, bin1R, un1R, slcR, bnd, capsOf, fillP, S_plain, V_plain, V.cells, S_known, V_known, C.v, blk, setL, setH, eqS, eq1, cmpS, cmp1, isNil, popTo, killT, setT, leT, V.below, C.below, S_below, R.below, V.val, C.val, S_val, R.val, R.takes, vals, shows, List.any_cons, List.any_nil, unnamed, V.kill, V.names, C.names, S_names, R.names, List.set, List.replicate, ↓q_cond_t, ↓q_cond_f, if_true, if_false, reduceCtorEq, rvals, rvC, result, C_known, V.noL, C.noL, S_noL, R.noL, Option.map, true_and, and_true, ge_iff_le, gt_iff_lt, implies_true, q_ite_t, q_ite_f, beq_iff_eq, bne_iff_ne, q_ne, Nat.reduceAdd, Nat.reducePow, Int.reducePow, Nat.reduceMul, Nat.reduceSub, Nat.reduceLeDiff, Nat.reduceLT, Nat.reduceEqDiff, Int.reduceNeg, Int.reduceLT, Int.reduceLE, Int.reduceEq, Int.reduceNe, Int.reduceAdd, Int.reduceSub, Int.reduceMul, Int.reduceToNat, Int.reduceBEq, Int.reduceBNe, df62, To9, otG, memF_eq H, otM, n4, setM_self H, ht, k1, k2]
      exact hR
    | true =>
      have hb := otB_iff.1 ht
      have hl := m.l
      cases hB : t.B with
      | false =>
        simp only [ht, hB, Bool.true_and, Bool.false_eq_true, if_true, if_false, setM_self H] at hR
        simp (config := { maxSteps := 10000000 }) only [run_drx, run_xd, run_xq, run_xg, run_xb, EV1, EV2, EV3, EV4, EV5, EV6, addT, istep, lenR_sl, lenR_ns, lenR_es, pickR, putD, bin1R, un1R, slcR, bnd, capsOf, fillP, S_plain, V_plain, V.cells, S_known, V_known, C.v, blk, setL, setH, eqS, eq1, cmpS, cmp1, isNil, popTo, killT, setT, leT, V.below, C.below, S_below, R.below, V.val, C.val, S_val, R.val, R.takes, vals, shows, List.any_cons, List.any_nil, unnamed, V.kill, V.names, C.names, S_names, R.names, List.set, List.replicate, ↓q_cond_t, ↓q_cond_f, if_true, if_false, reduceCtorEq, rvals, rvC, result, C_known, V.noL, C.noL, S_noL, R.noL, Option.map, true_and, and_true, ge_iff_le, gt_iff_lt, implies_true, q_ite_t, q_ite_f, beq_iff_eq, bne_iff_ne, q_ne, Nat.reduceAdd, Nat.reducePow, Int.reducePow, Nat.reduceMul, Nat.reduceSub, Nat.reduceLeDiff, Nat.reduceLT, Nat.reduceEqDiff, Int.reduceNeg, Int.reduceLT, Int.reduceLE, Int.reduceEq, Int.reduceNe, Int.reduceAdd, Int.reduceSub, Int.reduceMul, Int.reduceToNat, Int.reduceBEq, Int.reduceBNe, df62, To9, otG, memF_eq H, otM, n4, setM_self H, ht, k1, k2, k3, thBG, thF, unwc_wc, hrl, th_eta, hB, wc_take hrl, sub, List.take_succ_cons, List.take_zero, List.drop_zero]
        exact hR
      | true =>
        simp only [ht, hB, Bool.true_and, if_true] at hR
        obtain ⟨i, rfl⟩ : ∃ i : Nat, x = i := ⟨x.toNat, by omega⟩
        obtain ⟨o, ho⟩ : ∃ o, i + 16 = o := ⟨_, rfl⟩
        obtain ⟨o2, ho2⟩ : ∃ o, i + 32 = o := ⟨_, rfl⟩
        have e1 : IntKind.i64.wrap ((i : Int) + 16) = (o : Int) := by rw [wrap64 (by omega) (by omega)]; omega
        have e2 : IntKind.i64.wrap ((i : Int) + 32) = (o2 : Int) := by rw [wrap64 (by omega) (by omega)]; omega
        rw [show ((i : Int) + 16).toNat = o by omega, show ((i : Int) + 32).toNat = o2 by omega] at hR
        obtain ⟨u0, u1, u2, u3⟩ := Th.h_u hB
        obtain ⟨ws, hws⟩ : ∃ ws, [t.h0, t.h1, t.bg, t.h3] = ws := ⟨_, rfl⟩
        have hwl : ws.length = 4 := by rw [← hws]; rfl
        have hwu : ∀ v, v ∈ ws → u64 v := by
          rw [← hws]
          intro v hv
          simp only [List.mem_cons, List.not_mem_nil, or_false] at hv
          rcases hv with rfl | rfl | rfl | rfl <;> assumption
        have hwc : [S.i .u64 t.h0, S.i .u64 t.h1, S.i .u64 t.bg, S.i .u64 t.h3] = wc ws := by rw [← hws]; rfl
        rw [hws] at hR
        simp (config := { maxSteps := 10000000 }) only [run_drx, run_xd, run_xq, run_xg, run_xb, EV1, EV2, EV3, EV4, EV5, EV6, addT, istep, lenR_sl, lenR_ns, lenR_es, pickR, putD, bin1R, un1R, slcR, bnd, capsOf, fillP, S_plain, V_plain, V.cells, S_known, V_known, C.v, blk, setL, setH, eqS, eq1, cmpS, cmp1, isNil, popTo, killT, setT, leT, V.below, C.below, S_below, R.below, V.val, C.val, S_val, R.val, R.takes, vals, shows, List.any_cons, List.any_nil, unnamed, V.kill, V.names, C.names, S_names, R.names, List.set, List.replicate, ↓q_cond_t, ↓q_cond_f, if_true, if_false, reduceCtorEq, rvals, rvC, result, C_known, V.noL, C.noL, S_noL, R.noL, Option.map, true_and, and_true, ge_iff_le, gt_iff_lt, implies_true, q_ite_t, q_ite_f, beq_iff_eq, bne_iff_ne, q_ne, Nat.reduceAdd, Nat.reducePow, Int.reducePow, Nat.reduceMul, Nat.reduceSub, Nat.reduceLeDiff, Nat.reduceLT, Nat.reduceEqDiff, Int.reduceNeg, Int.reduceLT, Int.reduceLE, Int.reduceEq, Int.reduceNe, Int.reduceAdd, Int.reduceSub, Int.reduceMul, Int.reduceToNat, Int.reduceBEq, Int.reduceBNe, df62, To9, otG, memF_eq H, otM, n4, setM_self H, ht, k1, k2, k3, thBG, thHG, thF, unwc_wc, hrl, th_eta, hB, wc_take hrl, put, fillP, sub, List.take_succ_cons, List.take_zero, List.drop_zero]
        refine loop_rule (α := Nat) [10, 23, 24, 25, 26, 27, 28, 29, 30, 31, 32, 33, 34, 35] (fun q => [(10, .s (.i .i64 q))]) (fun q => [⟨.rw, t.c, 30⟩, ⟨.rw, wc ws, 4⟩]) (fun q => setM h a b (m.wrs o ws q)) (fun q => q ≤ 4) (fun q => 4 - q) 0 (by omega) ?_ ?_
        · rw [M.wrs, setM_self H, ← hwc]
          refine Wk.same rfl rfl ?_
          simp (config := { maxSteps := 10000000 }) only [run_drx, run_xd, run_xq, run_xg, run_xb, EV1, EV2, EV3, EV4, EV5, EV6, addT, istep, lenR_sl, lenR_ns, lenR_es, pickR, putD, bin1R, un1R, slcR, bnd, capsOf, fillP, S_plain, V_plain, V.cells, S_known, V_known, C.v, blk, setL, setH, eqS, eq1, cmpS, cmp1, isNil, popTo, killT, setT, leT, V.below, C.below, S_below, R.below, V.val, C.val, S_val, R.val, R.takes, vals, shows, List.any_cons, List.any_nil, unnamed, V.kill, V.names, C.names, S_names, R.names, List.set, List.replicate, ↓q_cond_t, ↓q_cond_f, if_true, if_false, reduceCtorEq, rvals, rvC, result, C_known, V.noL, C.noL, S_noL, R.noL, Option.map, true_and, and_true, ge_iff_le, gt_iff_lt, implies_true, q_ite_t, q_ite_f, beq_iff_eq, bne_iff_ne, q_ne, Nat.reduceAdd, Nat.reducePow, Int.reducePow, Nat.reduceMul, Nat.reduceSub, Nat.reduceLeDiff, Nat.reduceLT, Nat.reduceEqDiff, Int.reduceNeg, Int.reduceLT, Int.reduceLE, Int.reduceEq, Int.reduceNe, Int.reduceAdd, Int.reduceSub, Int.reduceMul, Int.reduceToNat, Int.reduceBEq, Int.reduceBNe, Int.natCast_zero]
        · rintro X q hq IH
          rcases Nat.lt_or_ge q 4 with h1 | h1
          · have d1 : ((q : Int) < 4) := by omega
            have d3 : (0 : Int) ≤ q := by omega
            have d4 : IntKind.i64.wrap ((q : Int) + 1) = ((q + 1 : Nat) : Int) := by rw [wrap64 (by omega) (by omega)]; omega
            have w1 : IntKind.i64.wrap ((o : Int) + q) = ((o + q : Nat) : Int) := by rw [wrap64 (by omega) (by omega)]; omega
            have h0 : m.has ((o + q : Nat) : Int) 1 = true := M.has_of (by omega)
            have g := wc_get (w := ws) (i := q) (by omega)
            have hu : u64 (nth 0 ws q) := by rw [nth_eq (by omega)]; exact hwu _ (List.getElem_mem _)
            refine run_sound (Tab.ok_Γ _) 100 _ _ _ _ ?_
            simp (config := { maxSteps := 10000000 }) only [run_drx, run_xd, run_xq, run_xg, run_xb, EV1, EV2, EV3, EV4, EV5, EV6, addT, istep, lenR_sl, lenR_ns, lenR_es, pickR, putD, bin1R, un1R, slcR, bnd, capsOf, fillP, S_plain, V_plain, V.cells, S_known, V_known, C.v, blk, setL, setH, eqS, eq1, cmpS, cmp1, isNil, popTo, killT, setT, leT, V.below, C.below, S_below, R.below, V.val, C.val, S_val, R.val, R.takes, vals, shows, List.any_cons, List.any_nil, unnamed, V.kill, V.names, C.names, S_names, R.names, List.set, List.replicate, ↓q_cond_t, ↓q_cond_f, if_true, if_false, reduceCtorEq, rvals, rvC, result, C_known, V.noL, C.noL, S_noL, R.noL, Option.map, true_and, and_true, ge_iff_le, gt_iff_lt, implies_true, q_ite_t, q_ite_f, beq_iff_eq, bne_iff_ne, q_ne, Nat.reduceAdd, Nat.reducePow, Int.reducePow, Nat.reduceMul, Nat.reduceSub, Nat.reduceLeDiff, Nat.reduceLT, Nat.reduceEqDiff, Int.reduceNeg, Int.reduceLT, Int.reduceLE, Int.reduceEq, Int.reduceNe, Int.reduceAdd, Int.reduceSub, Int.reduceMul, Int.reduceToNat, Int.reduceBEq, Int.reduceBNe, To9, e1, d1, d3, d4, w1, writeG, memF_set H, writeM, M.wrs_has, h0, h1, g, hu, Int.toNat_natCast]
            exact IH (q + 1) _ (by omega) (by omega) (Wk.same rfl rfl (by simp (config := { maxSteps := 10000000 }) only [run_drx, run_xd, run_xq, run_xg, run_xb, EV1, EV2, EV3, EV4, EV5, EV6, addT, istep, lenR_sl, lenR_ns, lenR_es, pickR, putD, bin1R, un1R, slcR, bnd, capsOf, fillP, S_plain, V_plain, V.cells, S_known, V_known, C.v, blk, setL, setH, eqS, eq1, cmpS, cmp1, isNil, popTo, killT, setT, leT, V.below, C.below, S_below, R.below, V.val, C.val, S_val, R.val, R.takes, vals, shows, List.any_cons, List.any_nil, unnamed, V.kill, V.names, C.names, S_names, R.names, List.set, List.replicate, ↓q_cond_t, ↓q_cond_f, if_true, if_false, reduceCtorEq, rvals, rvC, result, C_known, V.noL, C.noL, S_noL, R.noL, Option.map, true_and, and_true, ge_iff_le, gt_iff_lt, implies_true, q_ite_t, q_ite_f, beq_iff_eq, bne_iff_ne, q_ne, Nat.reduceAdd, Nat.reducePow, Int.reducePow, Nat.reduceMul, Nat.reduceSub, Nat.reduceLeDiff, Nat.reduceLT, Nat.reduceEqDiff, Int.reduceNeg, Int.reduceLT, Int.reduceLE, Int.reduceEq, Int.reduceNe, Int.reduceAdd, Int.reduceSub, Int.reduceMul, Int.reduceToNat, Int.reduceBEq, Int.reduceBNe]))
          · have : q = 4 := by omega
            subst this
            clear IH
            refine run_sound (Tab.ok_Γ _) 100 _ _ _ _ ?_
            simp (config := { maxSteps := 10000000 }) only [run_drx, run_xd, run_xq, run_xg, run_xb, EV1, EV2, EV3, EV4, EV5, EV6, addT, istep, lenR_sl, lenR_ns, lenR_es, pickR, putD, bin1R, un1R, slcR, bnd, capsOf, fillP, S_plain, V_plain, V.cells, S_known, V_known, C.v, blk, setL, setH, eqS, eq1, cmpS, cmp1, isNil, popTo, killT, setT, leT, V.below, C.below, S_below, R.below, V.val, C.val, S_val, R.val, R.takes, vals, shows, List.any_cons, List.any_nil, unnamed, V.kill, V.names, C.names, S_names, R.names, List.set, List.replicate, ↓q_cond_t, ↓q_cond_f, if_true, if_false, reduceCtorEq, rvals, rvC, result, C_known, V.noL, C.noL, S_noL, R.noL, Option.map, true_and, and_true, ge_iff_le, gt_iff_lt, implies_true, q_ite_t, q_ite_f, beq_iff_eq, bne_iff_ne, q_ne, Nat.reduceAdd, Nat.reducePow, Int.reducePow, Nat.reduceMul, Nat.reduceSub, Nat.reduceLeDiff, Nat.reduceLT, Nat.reduceEqDiff, Int.reduceNeg, Int.reduceLT, Int.reduceLE, Int.reduceEq, Int.reduceNe, Int.reduceAdd, Int.reduceSub, Int.reduceMul, Int.reduceToNat, Int.reduceBEq, Int.reduceBNe, Int.lt_irrefl]
            refine loop_rule (α := Nat) [11, 36, 37, 38, 39, 40, 41, 42, 43, 44, 45, 46, 47, 48, 49] (fun q => [(11, .s (.i .i64 q))]) (fun q => [⟨.rw, t.c, 30⟩, ⟨.rw, wc ws, 4⟩]) (fun q => setM h a b ((m.wrs o ws 4).wrs o2 t.rg q)) (fun q => q ≤ 16) (fun q => 16 - q) 0 (by omega) ?_ ?_
            · refine Wk.same rfl rfl ?_
              simp (config := { maxSteps := 10000000 }) only [run_drx, run_xd, run_xq, run_xg, run_xb, EV1, EV2, EV3, EV4, EV5, EV6, addT, istep, lenR_sl, lenR_ns, lenR_es, pickR, putD, bin1R, un1R, slcR, bnd, capsOf, fillP, S_plain, V_plain, V.cells, S_known, V_known, C.v, blk, setL, setH, eqS, eq1, cmpS, cmp1, isNil, popTo, killT, setT, leT, V.below, C.below, S_below, R.below, V.val, C.val, S_val, R.val, R.takes, vals, shows, List.any_cons, List.any_nil, unnamed, V.kill, V.names, C.names, S_names, R.names, List.set, List.replicate, ↓q_cond_t, ↓q_cond_f, if_true, if_false, reduceCtorEq, rvals, rvC, result, C_known, V.noL, C.noL, S_noL, R.noL, Option.map, true_and, and_true, ge_iff_le, gt_iff_lt, implies_true, q_ite_t, q_ite_f, beq_iff_eq, bne_iff_ne, q_ne, Nat.reduceAdd, Nat.reducePow, Int.reducePow, Nat.reduceMul, Nat.reduceSub, Nat.reduceLeDiff, Nat.reduceLT, Nat.reduceEqDiff, Int.reduceNeg, Int.reduceLT, Int.reduceLE, Int.reduceEq, Int.reduceNe, Int.reduceAdd, Int.reduceSub, Int.reduceMul, Int.reduceToNat, Int.reduceBEq, Int.reduceBNe, Int.natCast_zero]
            · rintro X q hq IH
              simp only [Th.c]
              rcases Nat.lt_or_ge q 16 with h1 | h1
              · have d1 : ((q : Int) < 16) := by omega
                have d3 : (0 : Int) ≤ q := by omega
                have d4 : IntKind.i64.wrap ((q : Int) + 1) = ((q + 1 : Nat) : Int) := by rw [wrap64 (by omega) (by omega)]; omega
                have w1 : IntKind.i64.wrap ((o2 : Int) + q) = ((o2 + q : Nat) : Int) := by rw [wrap64 (by omega) (by omega)]; omega
                have h0 : m.has ((o2 + q : Nat) : Int) 1 = true := M.has_of (by omega)
                have g := wc_get (w := t.rg) (i := q) (by omega)
                have hu : u64 (nth 0 t.rg q) := by rw [nth_eq (by omega)]; exact hru _ (List.getElem_mem _)
                refine run_sound (Tab.ok_Γ _) 100 _ _ _ _ ?_
                simp (config := { maxSteps := 10000000 }) only [run_drx, run_xd, run_xq, run_xg, run_xb, EV1, EV2, EV3, EV4, EV5, EV6, addT, istep, lenR_sl, lenR_ns, lenR_es, pickR, putD, bin1R, un1R, slcR, bnd, capsOf, fillP, S_plain, V_plain, V.cells, S_known, V_known, C.v, blk, setL, setH, eqS, eq1, cmpS, cmp1, isNil, popTo, killT, setT, leT, V.below, C.below, S_below, R.below, V.val, C.val, S_val, R.val, R.takes, vals, shows, List.any_cons, List.any_nil, unnamed, V.kill, V.names, C.names, S_names, R.names, List.set, List.replicate, ↓q_cond_t, ↓q_cond_f, if_true, if_false, reduceCtorEq, rvals, rvC, result, C_known, V.noL, C.noL, S_noL, R.noL, Option.map, true_and, and_true, ge_iff_le, gt_iff_lt, implies_true, q_ite_t, q_ite_f, beq_iff_eq, bne_iff_ne, q_ne, Nat.reduceAdd, Nat.reducePow, Int.reducePow, Nat.reduceMul, Nat.reduceSub, Nat.reduceLeDiff, Nat.reduceLT, Nat.reduceEqDiff, Int.reduceNeg, Int.reduceLT, Int.reduceLE, Int.reduceEq, Int.reduceNe, Int.reduceAdd, Int.reduceSub, Int.reduceMul, Int.reduceToNat, Int.reduceBEq, Int.reduceBNe, To9, e2, d1, d3, d4, w1, writeG, memF_set H, writeM, M.wrs_has, h0, h1, g, get14, hu, k3, Int.toNat_natCast]
                exact IH (q + 1) _ (by omega) (by omega) (Wk.same rfl rfl (by simp (config := { maxSteps := 10000000 }) only [run_drx, run_xd, run_xq, run_xg, run_xb, EV1, EV2, EV3, EV4, EV5, EV6, addT, istep, lenR_sl, lenR_ns, lenR_es, pickR, putD, bin1R, un1R, slcR, bnd, capsOf, fillP, S_plain, V_plain, V.cells, S_known, V_known, C.v, blk, setL, setH, eqS, eq1, cmpS, cmp1, isNil, popTo, killT, setT, leT, V.below, C.below, S_below, R.below, V.val, C.val, S_val, R.val, R.takes, vals, shows, List.any_cons, List.any_nil, unnamed, V.kill, V.names, C.names, S_names, R.names, List.set, List.replicate, ↓q_cond_t, ↓q_cond_f, if_true, if_false, reduceCtorEq, rvals, rvC, result, C_known, V.noL, C.noL, S_noL, R.noL, Option.map, true_and, and_true, ge_iff_le, gt_iff_lt, implies_true, q_ite_t, q_ite_f, beq_iff_eq, bne_iff_ne, q_ne, Nat.reduceAdd, Nat.reducePow, Int.reducePow, Nat.reduceMul, Nat.reduceSub, Nat.reduceLeDiff, Nat.reduceLT, Nat.reduceEqDiff, Int.reduceNeg, Int.reduceLT, Int.reduceLE, Int.reduceEq, Int.reduceNe, Int.reduceAdd, Int.reduceSub, Int.reduceMul, Int.reduceToNat, Int.reduceBEq, Int.reduceBNe]))
              · have : q = 16 := by omega
                subst this
                clear IH
                refine run_sound (Tab.ok_Γ _) 100 _ _ _ _ ?_
                simp (config := { maxSteps := 10000000 }) only [run_drx, run_xd, run_xq, run_xg, run_xb, EV1, EV2, EV3, EV4, EV5, EV6, addT, istep, lenR_sl, lenR_ns, lenR_es, pickR, putD, bin1R, un1R, slcR, bnd, capsOf, fillP, S_plain, V_plain, V.cells, S_known, V_known, C.v, blk, setL, setH, eqS, eq1, cmpS, cmp1, isNil, popTo, killT, setT, leT, V.below, C.below, S_below, R.below, V.val, C.val, S_val, R.val, R.takes, vals, shows, List.any_cons, List.any_nil, unnamed, V.kill, V.names, C.names, S_names, R.names, List.set, List.replicate, ↓q_cond_t, ↓q_cond_f, if_true, if_false, reduceCtorEq, rvals, rvC, result, C_known, V.noL, C.noL, S_noL, R.noL, Option.map, true_and, and_true, ge_iff_le, gt_iff_lt, implies_true, q_ite_t, q_ite_f, beq_iff_eq, bne_iff_ne, q_ne, Nat.reduceAdd, Nat.reducePow, Int.reducePow, Nat.reduceMul, Nat.reduceSub, Nat.reduceLeDiff, Nat.reduceLT, Nat.reduceEqDiff, Int.reduceNeg, Int.reduceLT, Int.reduceLE, Int.reduceEq, Int.reduceNe, Int.reduceAdd, Int.reduceSub, Int.reduceMul, Int.reduceToNat, Int.reduceBEq, Int.reduceBNe, Int.lt_irrefl]
                exact hR
  · exact hS.elim
end Go.Proofs.Ytdlloccodmdnnaa

