/- The machine's memory: what is read behind a write. -/
import Derived.Test.YtpmobbehdpgnbaaGreatZ10
import Derived.Test.YtpmobbehdpgnbaaGreatZ15
/- The machine's memory: what its functions do. -/
namespace Go.Proofs.YtpmobbehdpgnbaaGreat
open Go.D
open Nat (reduceAdd reducePow reduceMul reduceSub reduceLeDiff reduceLT reduceEqDiff)
open Int (reduceNeg reduceLE reduceEq reduceNe reduceToNat)
set_option linter.all false
set_option maxRecDepth 100000
set_option maxHeartbeats 4000000

theorem pow16 (k : Nat) : 2 ^ min k 16 ≤ 65536 := by
  have : min k 16 ≤ 16 := by omega
  exact Nat.pow_le_pow_right (n := 2) (by omega) this
def M.zero (k : Nat) : M := ⟨List.replicate (2 ^ min k 16) 0, 0, fun x hx => by rw [List.eq_of_mem_replicate hx]; exact u64_0, by simpa using pow16 k⟩
theorem M.zero_len (k : Nat) : (M.zero k).w.length = 2 ^ min k 16 := by simp [M.zero]

def newM : List V → List Blk → Res
  | [.s (.i .i64 b)], h => .br (decide (11 ≤ b) && decide (b ≤ 16)) (.ok (.tup [.s (.p (.g h.length) 0), .s (.i .i64 0)]) [] (memH h (M.zero b.toNat))) (.ok (.tup [.s .np, .s (.i .i64 1)]) [] h)
  | _, _ => .bad
theorem new_snd : Snd Tryz.prog 38 (FSpec.of newM) := snd_run (noT_snd _) mixed Tryz.func38 dc38 100 fun args h K hc hS => by
  unfold newM at hS
  split at hS
  · rename_i b
    simp only [spec_br, spec_ok, Bool.and_eq_true, decide_eq_true_eq] at hS
    by_cases c1 : b < 11
    · simp (config := {maxSteps := 9999999}) only [EV0, istep, pickR, bin1R, un1R, eqS, eq1, cmpS, cmp1, isNil, leT, shows, rvC, result, List.set, List.replicate, Option.map, ↓q_cond_t, ↓q_cond_f, reduceCtorEq, reduceAdd, reducePow, Int.reducePow, reduceMul, reduceSub, reduceLeDiff, reduceLT, reduceEqDiff, reduceNeg, Int.reduceLT, reduceLE, reduceEq, reduceNe, Int.reduceAdd, Int.reduceSub, Int.reduceMul, reduceToNat, Int.reduceBEq, Int.reduceBNe, df38, c1]
      exact hS.2 (by simp; omega)
    by_cases c2 : 16 < b
    · simp (config := {maxSteps := 9999999}) only [EV0, istep, pickR, bin1R, un1R, eqS, eq1, cmpS, cmp1, isNil, leT, shows, rvC, result, List.set, List.replicate, Option.map, ↓q_cond_t, ↓q_cond_f, reduceCtorEq, reduceAdd, reducePow, Int.reducePow, reduceMul, reduceSub, reduceLeDiff, reduceLT, reduceEqDiff, reduceNeg, Int.reduceLT, reduceLE, reduceEq, reduceNe, Int.reduceAdd, Int.reduceSub, Int.reduceMul, reduceToNat, Int.reduceBEq, Int.reduceBNe, df38, c1, c2]
      exact hS.2 (by simp; omega)
    have hS := hS.1 (by omega)
    obtain ⟨k, rfl⟩ : ∃ k : Nat, b = k := ⟨b.toNat, by omega⟩
    have hk : min k 16 = k := by omega
    have m1 : min k IntKind.i64.bits = k := by show min k 64 = _; omega
    have p1 := pow16 k
    rw [hk] at p1
    obtain ⟨p, hp⟩ : ∃ p : Nat, 2 ^ k = p := ⟨_, rfl⟩
    rw [hp] at p1
    have c3 : (0 : Int) ≤ k := by omega
    have w1 : IntKind.i64.wrap (1 * 2 ^ k) = (p : Int) := by
      rw [Int.one_mul, show (2 : Int) ^ k = (p : Int) by rw [← hp]; simp, wrap64] <;> omega
    have c4 : (0 : Int) ≤ (p : Int) := by omega
    have c5 : (p : Int) ≤ 1099511627776 := by omega
    have c6 : (8 : Int) * (p : Int) ≤ 281474976710656 := by omega
    simp (config := {maxSteps := 9999999}) only [EV0, istep, pickR, bin1R, un1R, eqS, eq1, cmpS, cmp1, isNil, leT, shows, rvC, result, List.set, List.replicate, Option.map, ↓q_cond_t, ↓q_cond_f, reduceCtorEq, reduceAdd, reducePow, Int.reducePow, reduceMul, reduceSub, reduceLeDiff, reduceLT, reduceEqDiff, reduceNeg, Int.reduceLT, reduceLE, reduceEq, reduceNe, Int.reduceAdd, Int.reduceSub, Int.reduceMul, reduceToNat, Int.reduceBEq, Int.reduceBNe, df38, c1, c2, c3, m1, w1, c4, Int.le_refl, c5, c6, wc_zeros, put, fillP]
    refine ⟨[1, 0], by simp, rfl, ?_⟩
    simp only [getAll, List.getElem?_cons_zero, List.getElem?_cons_succ]
    refine ⟨?_, ?_⟩
    · simp [S.kept, R.kept, wc_kept]
    · refine cast (congrArg (K _) ?_) hS
      simp [memH, MB, MW, M.zero, hk, hp, Blk.ren, S.ren, R.prom, List.idxOf, List.findIdx, List.findIdx.go, wc_ren, wc_len, V.ren, C.ren, wc_map]
  · exact hS.elim
theorem rnew_snd : Snd Tryz.prog 39 (FSpec.of newM) := snd_run (noT_snd _) mixed Tryz.func39 dc39 100 fun args h K hc hS => by
  unfold newM at hS
  split at hS
  · rename_i b
    simp only [spec_br, spec_ok, Bool.and_eq_true, decide_eq_true_eq] at hS
    by_cases c1 : b < 11
    · simp (config := {maxSteps := 9999999}) only [EV0, istep, pickR, bin1R, un1R, eqS, eq1, cmpS, cmp1, isNil, leT, shows, rvC, result, List.set, List.replicate, Option.map, ↓q_cond_t, ↓q_cond_f, reduceCtorEq, reduceAdd, reducePow, Int.reducePow, reduceMul, reduceSub, reduceLeDiff, reduceLT, reduceEqDiff, reduceNeg, Int.reduceLT, reduceLE, reduceEq, reduceNe, Int.reduceAdd, Int.reduceSub, Int.reduceMul, reduceToNat, Int.reduceBEq, Int.reduceBNe, df39, c1]
      exact hS.2 (by simp; omega)
    by_cases c2 : 16 < b
    · simp (config := {maxSteps := 9999999}) only [EV0, istep, pickR, bin1R, un1R, eqS, eq1, cmpS, cmp1, isNil, leT, shows, rvC, result, List.set, List.replicate, Option.map, ↓q_cond_t, ↓q_cond_f, reduceCtorEq, reduceAdd, reducePow, Int.reducePow, reduceMul, reduceSub, reduceLeDiff, reduceLT, reduceEqDiff, reduceNeg, Int.reduceLT, reduceLE, reduceEq, reduceNe, Int.reduceAdd, Int.reduceSub, Int.reduceMul, reduceToNat, Int.reduceBEq, Int.reduceBNe, df39, c1, c2]
      exact hS.2 (by simp; omega)
    have hS := hS.1 (by omega)
    obtain ⟨k, rfl⟩ : ∃ k : Nat, b = k := ⟨b.toNat, by omega⟩
    have hk : min k 16 = k := by omega
    have m1 : min k IntKind.i64.bits = k := by show min k 64 = _; omega
    have p1 := pow16 k
    rw [hk] at p1
    obtain ⟨p, hp⟩ : ∃ p : Nat, 2 ^ k = p := ⟨_, rfl⟩
    rw [hp] at p1
    have c3 : (0 : Int) ≤ k := by omega
    have w1 : IntKind.i64.wrap (1 * 2 ^ k) = (p : Int) := by
      rw [Int.one_mul, show (2 : Int) ^ k = (p : Int) by rw [← hp]; simp, wrap64] <;> omega
    have c4 : (0 : Int) ≤ (p : Int) := by omega
    have c5 : (p : Int) ≤ 1099511627776 := by omega
    have c6 : (8 : Int) * (p : Int) ≤ 281474976710656 := by omega
    simp (config := {maxSteps := 9999999}) only [EV0, istep, pickR, bin1R, un1R, eqS, eq1, cmpS, cmp1, isNil, leT, shows, rvC, result, List.set, List.replicate, Option.map, ↓q_cond_t, ↓q_cond_f, reduceCtorEq, reduceAdd, reducePow, Int.reducePow, reduceMul, reduceSub, reduceLeDiff, reduceLT, reduceEqDiff, reduceNeg, Int.reduceLT, reduceLE, reduceEq, reduceNe, Int.reduceAdd, Int.reduceSub, Int.reduceMul, reduceToNat, Int.reduceBEq, Int.reduceBNe, df39, c1, c2, c3, m1, w1, c4, Int.le_refl, c5, c6, wc_zeros, put, fillP]
    refine ⟨[1, 0], by simp, rfl, ?_⟩
    simp only [getAll, List.getElem?_cons_zero, List.getElem?_cons_succ]
    refine ⟨?_, ?_⟩
    · simp [S.kept, R.kept, wc_kept]
    · refine cast (congrArg (K _) ?_) hS
      simp [memH, MB, MW, M.zero, hk, hp, Blk.ren, S.ren, R.prom, List.idxOf, List.findIdx, List.findIdx.go, wc_ren, wc_len, V.ren, C.ren, wc_map]
  · exact hS.elim
def wordsM (b : Nat) (m : M) (st : M → List Blk) : List V → Res
  | [] => .ok (.s (.i .i64 m.w.length)) [] (st m)
  | _ => .bad
noncomputable def wordsG := memF wordsM
theorem mwords_snd : Snd Tryz.prog 117 (FSpec.of wordsG) := snd_run (noT_snd _) mixed Tryz.func117 dc117 100 fun args h K hc hS => by
  obtain ⟨a, b, m, rest, rfl, H, hS1⟩ := memF_spec hS
  clear hS
  have hS := hS1
  clear hS1
  unfold wordsM at hS
  split at hS
  · simp only [spec_ok, setM_self H] at hS
    simp (config := {maxSteps := 9999999}) only [EV0, istep, pickR, bin1R, un1R, eqS, eq1, cmpS, cmp1, isNil, leT, shows, rvC, result, List.set, List.replicate, Option.map, ↓q_cond_t, ↓q_cond_f, reduceCtorEq, reduceAdd, reducePow, Int.reducePow, reduceMul, reduceSub, reduceLeDiff, reduceLT, reduceEqDiff, reduceNeg, Int.reduceLT, reduceLE, reduceEq, reduceNe, Int.reduceAdd, Int.reduceSub, Int.reduceMul, reduceToNat, Int.reduceBEq, Int.reduceBNe, df117, H.ha, MB]
    exact hS
  · exact hS.elim

def spanM (b : Nat) (m : M) (st : M → List Blk) : List V → Res
  | [.s (.i .i64 a), .s (.i .i64 k)] => .br (m.has a k) (.ok (.tup [.s (.sl (.g b) (if m.w.length = a.toNat then 0 else a.toNat) k.toNat (m.w.length - a.toNat)), .s (.b true)]) [] (st m)) (.ok (.tup [.s .ns, .s (.b false)]) [] (st m))
  | _ => .bad
noncomputable def spanG := memF spanM
theorem span_snd : Snd Tryz.prog 65 (FSpec.of spanG) := snd_run (noT_snd _) mixed Tryz.func65 dc65 100 fun args h K hc hS => by
  obtain ⟨a, b, m, rest, rfl, H, hS1⟩ := memF_spec hS
  clear hS
  have hS := hS1
  clear hS1
  unfold spanM at hS
  split at hS
  · rename_i x k
    simp only [spec_ok, spec_br, setM_self H] at hS
    have hl := m.l
    cases hh : m.has x k with
    | true =>
      have hS := hS.1 hh
      obtain ⟨i, j, rfl, rfl, hij⟩ := M.has_nat hh
      have c1 : ¬ ((i : Int) < 0) := by omega
      have c2 : ¬ ((j : Int) < 0) := by omega
      have c3 : ¬ ((m.w.length : Int) < i) := by omega
      have w1 : IntKind.i64.wrap ((m.w.length : Int) - i) = m.w.length - i := wrap64 (by omega) (by omega)
      have c4 : ¬ ((m.w.length : Int) - i < j) := by omega
      have w2 : IntKind.i64.wrap ((i : Int) + j) = ((i + j : Nat) : Int) := by rw [wrap64] <;> omega
      have c5 : (0 : Int) ≤ i := by omega
      have c6 : (i : Int) ≤ ((i + j : Nat) : Int) := by omega
      have c7 : ((i + j : Nat) : Int) ≤ m.w.length := by omega
      have e1 : i + j - i = j := by omega
      have c8 : 0 ≤ (i : Int) ∧ (i : Int) ≤ ((i + j : Nat) : Int) ∧ ((i + j : Nat) : Int) ≤ m.w.length := by omega
      simp (config := {maxSteps := 9999999}) only [EV0, istep, pickR, bin1R, un1R, eqS, eq1, cmpS, cmp1, isNil, leT, shows, rvC, result, List.set, List.replicate, Option.map, ↓q_cond_t, ↓q_cond_f, reduceCtorEq, reduceAdd, reducePow, Int.reducePow, reduceMul, reduceSub, reduceLeDiff, reduceLT, reduceEqDiff, reduceNeg, Int.reduceLT, reduceLE, reduceEq, reduceNe, Int.reduceAdd, Int.reduceSub, Int.reduceMul, reduceToNat, Int.reduceBEq, Int.reduceBNe, df65, H.ha, MB, c1, c2, c3, w1, c4, w2, slcR, c5, c6, c7, e1]
      exact hS
    | false =>
      have hS := hS.2 hh
      have hn := M.has_not hh
      by_cases c1 : x < 0
      · simp (config := {maxSteps := 9999999}) only [EV0, istep, pickR, bin1R, un1R, eqS, eq1, cmpS, cmp1, isNil, leT, shows, rvC, result, List.set, List.replicate, Option.map, ↓q_cond_t, ↓q_cond_f, reduceCtorEq, reduceAdd, reducePow, Int.reducePow, reduceMul, reduceSub, reduceLeDiff, reduceLT, reduceEqDiff, reduceNeg, Int.reduceLT, reduceLE, reduceEq, reduceNe, Int.reduceAdd, Int.reduceSub, Int.reduceMul, reduceToNat, Int.reduceBEq, Int.reduceBNe, df65, c1]
        exact hS
      by_cases c2 : k < 0
      · simp (config := {maxSteps := 9999999}) only [EV0, istep, pickR, bin1R, un1R, eqS, eq1, cmpS, cmp1, isNil, leT, shows, rvC, result, List.set, List.replicate, Option.map, ↓q_cond_t, ↓q_cond_f, reduceCtorEq, reduceAdd, reducePow, Int.reducePow, reduceMul, reduceSub, reduceLeDiff, reduceLT, reduceEqDiff, reduceNeg, Int.reduceLT, reduceLE, reduceEq, reduceNe, Int.reduceAdd, Int.reduceSub, Int.reduceMul, reduceToNat, Int.reduceBEq, Int.reduceBNe, df65, c1, c2]
        exact hS
      by_cases c3 : (m.w.length : Int) < x
      · simp (config := {maxSteps := 9999999}) only [EV0, istep, pickR, bin1R, un1R, eqS, eq1, cmpS, cmp1, isNil, leT, shows, rvC, result, List.set, List.replicate, Option.map, ↓q_cond_t, ↓q_cond_f, reduceCtorEq, reduceAdd, reducePow, Int.reducePow, reduceMul, reduceSub, reduceLeDiff, reduceLT, reduceEqDiff, reduceNeg, Int.reduceLT, reduceLE, reduceEq, reduceNe, Int.reduceAdd, Int.reduceSub, Int.reduceMul, reduceToNat, Int.reduceBEq, Int.reduceBNe, df65, H.ha, MB, c1, c2, c3]
        exact hS
      have w1 : IntKind.i64.wrap ((m.w.length : Int) - x) = m.w.length - x := wrap64 (by omega) (by omega)
      have c4 : (m.w.length : Int) - x < k := by omega
      simp (config := {maxSteps := 9999999}) only [EV0, istep, pickR, bin1R, un1R, eqS, eq1, cmpS, cmp1, isNil, leT, shows, rvC, result, List.set, List.replicate, Option.map, ↓q_cond_t, ↓q_cond_f, reduceCtorEq, reduceAdd, reducePow, Int.reducePow, reduceMul, reduceSub, reduceLeDiff, reduceLT, reduceEqDiff, reduceNeg, Int.reduceLT, reduceLE, reduceEq, reduceNe, Int.reduceAdd, Int.reduceSub, Int.reduceMul, reduceToNat, Int.reduceBEq, Int.reduceBNe, df65, H.ha, MB, c1, c2, c3, w1, c4]
      exact hS
  · exact hS.elim

def thereM (b : Nat) (m : M) (st : M → List Blk) : List V → Res
  | [.s (.i .i64 a), .s (.i .i64 k)] => .ok (.s (.b (m.has a k))) [] (st m)
  | _ => .bad
noncomputable def thereG := memF thereM
theorem rthere_snd : Snd Tryz.prog 156 (FSpec.of thereG) := snd_run (noT_snd _) mixed Tryz.func156 dc156 100 fun args h K hc hS => by
  obtain ⟨a, b, m, rest, rfl, H, hS1⟩ := memF_spec hS
  clear hS
  have hS := hS1
  clear hS1
  unfold thereM at hS
  split at hS
  · rename_i x k
    simp only [spec_ok, setM_self H] at hS
    have hl := m.l
    cases hh : m.has x k with
    | true =>
      rw [hh] at hS
      obtain ⟨i, j, rfl, rfl, hij⟩ := M.has_nat hh
      have w1 : IntKind.i64.wrap ((m.w.length : Int) - i) = m.w.length - i := wrap64 (by omega) (by omega)
      have c1 : (0 : Int) ≤ i := by omega
      have c2 : (0 : Int) ≤ j := by omega
      have c3 : (i : Int) ≤ m.w.length := by omega
      have c4 : (j : Int) ≤ (m.w.length : Int) - i := by omega
      simp (config := {maxSteps := 9999999}) only [EV0, istep, pickR, bin1R, un1R, eqS, eq1, cmpS, cmp1, isNil, leT, shows, rvC, result, List.set, List.replicate, Option.map, ↓q_cond_t, ↓q_cond_f, reduceCtorEq, reduceAdd, reducePow, Int.reducePow, reduceMul, reduceSub, reduceLeDiff, reduceLT, reduceEqDiff, reduceNeg, Int.reduceLT, reduceLE, reduceEq, reduceNe, Int.reduceAdd, Int.reduceSub, Int.reduceMul, reduceToNat, Int.reduceBEq, Int.reduceBNe, df156, H.ha, MB, c1, c2, c3, w1, c4]
      exact hS
    | false =>
      rw [hh] at hS
      have hn := M.has_not hh
      by_cases c1 : 0 ≤ x
      · by_cases c2 : 0 ≤ k
        · by_cases c3 : x ≤ m.w.length
          · have w1 : IntKind.i64.wrap ((m.w.length : Int) - x) = m.w.length - x := wrap64 (by omega) (by omega)
            have c4 : ¬ (k ≤ (m.w.length : Int) - x) := by omega
            simp (config := {maxSteps := 9999999}) only [EV0, istep, pickR, bin1R, un1R, eqS, eq1, cmpS, cmp1, isNil, leT, shows, rvC, result, List.set, List.replicate, Option.map, ↓q_cond_t, ↓q_cond_f, reduceCtorEq, reduceAdd, reducePow, Int.reducePow, reduceMul, reduceSub, reduceLeDiff, reduceLT, reduceEqDiff, reduceNeg, Int.reduceLT, reduceLE, reduceEq, reduceNe, Int.reduceAdd, Int.reduceSub, Int.reduceMul, reduceToNat, Int.reduceBEq, Int.reduceBNe, df156, H.ha, MB, c1, c2, c3, w1, c4]
            exact hS
          · simp (config := {maxSteps := 9999999}) only [EV0, istep, pickR, bin1R, un1R, eqS, eq1, cmpS, cmp1, isNil, leT, shows, rvC, result, List.set, List.replicate, Option.map, ↓q_cond_t, ↓q_cond_f, reduceCtorEq, reduceAdd, reducePow, Int.reducePow, reduceMul, reduceSub, reduceLeDiff, reduceLT, reduceEqDiff, reduceNeg, Int.reduceLT, reduceLE, reduceEq, reduceNe, Int.reduceAdd, Int.reduceSub, Int.reduceMul, reduceToNat, Int.reduceBEq, Int.reduceBNe, df156, H.ha, MB, c1, c2, c3]
            exact hS
        · simp (config := {maxSteps := 9999999}) only [EV0, istep, pickR, bin1R, un1R, eqS, eq1, cmpS, cmp1, isNil, leT, shows, rvC, result, List.set, List.replicate, Option.map, ↓q_cond_t, ↓q_cond_f, reduceCtorEq, reduceAdd, reducePow, Int.reducePow, reduceMul, reduceSub, reduceLeDiff, reduceLT, reduceEqDiff, reduceNeg, Int.reduceLT, reduceLE, reduceEq, reduceNe, Int.reduceAdd, Int.reduceSub, Int.reduceMul, reduceToNat, Int.reduceBEq, Int.reduceBNe, df156, H.ha, MB, c1, c2]
          exact hS
      · simp (config := {maxSteps := 9999999}) only [EV0, istep, pickR, bin1R, un1R, eqS, eq1, cmpS, cmp1, isNil, leT, shows, rvC, result, List.set, List.replicate, Option.map, ↓q_cond_t, ↓q_cond_f, reduceCtorEq, reduceAdd, reducePow, Int.reducePow, reduceMul, reduceSub, reduceLeDiff, reduceLT, reduceEqDiff, reduceNeg, Int.reduceLT, reduceLE, reduceEq, reduceNe, Int.reduceAdd, Int.reduceSub, Int.reduceMul, reduceToNat, Int.reduceBEq, Int.reduceBNe, df156, H.ha, MB, c1]
        exact hS
  · exact hS.elim

theorem IsMem.hb' {h : List Blk} {a b : Nat} {m : M} (H : IsMem h a b m) (B : Blk) : (h.set a B)[b]? = some (MW m) := by rw [set_miss H.ne]; exact H.hb
theorem IsMem.ha' {h : List Blk} {a b : Nat} {m : M} (H : IsMem h a b m) (B : Blk) : (h.set b B)[a]? = some (MB b m) := by rw [set_miss (Ne.symm H.ne)]; exact H.ha

noncomputable def TSp : Tab := addT 65 spanG (addT 156 thereG noT)
theorem TSp_snd : TSp.Snd Tryz.prog := addT_snd ok65 span_snd (addT_snd ok156 rthere_snd (noT_snd _))

def readM (b : Nat) (m : M) (st : M → List Blk) : List V → Res
  | [.s (.i .i64 x)] => .br (m.has x 1) (.ok (.tup [.s (.i .u64 (m.at x)), .s (.i .i64 0)]) [] (st (m.tick 1))) (.ok (.tup [.s (.i .u64 0), .s (.i .i64 20)]) [] (st m))
  | _ => .bad
noncomputable def readG := memF readM
theorem mread_snd : Snd Tryz.prog 58 (FSpec.of readG) := snd_run TSp_snd mixed Tryz.func58 dc58 100 fun args h K hc hS => by
  obtain ⟨a, b, m, rest, rfl, H, hS1⟩ := memF_spec hS
  clear hS
  have hS := hS1
  clear hS1
  unfold readM at hS
  split at hS
  · rename_i x
    simp only [spec_ok, spec_br, setM_self H] at hS
    rw [← setM_steps H (m' := m.tick 1) rfl] at hS
    cases hh : m.has x 1 with
    | true =>
      have hS := hS.1 hh
      obtain ⟨i, j, rfl, e, hij⟩ := M.has_nat hh
      have c1 : ¬ (m.w.length = i) := by omega
      have c2 : (0 : Int) ≤ i ∧ (i : Int) < m.w.length := by omega
      have g := wc_get (w := m.w) (i := i) (by omega)
      simp (config := {maxSteps := 9999999}) only [EV0, istep, pickR, bin1R, un1R, eqS, eq1, cmpS, cmp1, isNil, leT, shows, rvC, result, List.set, List.replicate, Option.map, ↓q_cond_t, ↓q_cond_f, reduceCtorEq, reduceAdd, reducePow, Int.reducePow, reduceMul, reduceSub, reduceLeDiff, reduceLT, reduceEqDiff, reduceNeg, Int.reduceLT, reduceLE, reduceEq, reduceNe, Int.reduceAdd, Int.reduceSub, Int.reduceMul, reduceToNat, Int.reduceBEq, Int.reduceBNe, df58, TSp, spanG, thereG, memF_eq H, spanM, thereM, setM_self H, hh, c1, c2, H.ha, H.hb, H.hb', MB, MW, g, Int.toNat_natCast, set_hit H.ha]
      exact hS
    | false =>
      have hS := hS.2 hh
      simp (config := {maxSteps := 9999999}) only [EV0, istep, pickR, bin1R, un1R, eqS, eq1, cmpS, cmp1, isNil, leT, shows, rvC, result, List.set, List.replicate, Option.map, ↓q_cond_t, ↓q_cond_f, reduceCtorEq, reduceAdd, reducePow, Int.reducePow, reduceMul, reduceSub, reduceLeDiff, reduceLT, reduceEqDiff, reduceNeg, Int.reduceLT, reduceLE, reduceEq, reduceNe, Int.reduceAdd, Int.reduceSub, Int.reduceMul, reduceToNat, Int.reduceBEq, Int.reduceBNe, df58, TSp, spanG, thereG, memF_eq H, spanM, thereM, setM_self H, hh]
      exact hS
  · exact hS.elim
theorem rread_snd : Snd Tryz.prog 141 (FSpec.of readG) := snd_run TSp_snd mixed Tryz.func141 dc141 100 fun args h K hc hS => by
  obtain ⟨a, b, m, rest, rfl, H, hS1⟩ := memF_spec hS
  clear hS
  have hS := hS1
  clear hS1
  unfold readM at hS
  split at hS
  · rename_i x
    simp only [spec_ok, spec_br, setM_self H] at hS
    rw [← setM_steps H (m' := m.tick 1) rfl] at hS
    cases hh : m.has x 1 with
    | true =>
      have hS := hS.1 hh
      obtain ⟨i, j, rfl, e, hij⟩ := M.has_nat hh
      have c1 : ¬ (m.w.length = i) := by omega
      have c2 : (0 : Int) ≤ i ∧ (i : Int) < m.w.length := by omega
      have g := wc_get (w := m.w) (i := i) (by omega)
      simp (config := {maxSteps := 9999999}) only [EV0, istep, pickR, bin1R, un1R, eqS, eq1, cmpS, cmp1, isNil, leT, shows, rvC, result, List.set, List.replicate, Option.map, ↓q_cond_t, ↓q_cond_f, reduceCtorEq, reduceAdd, reducePow, Int.reducePow, reduceMul, reduceSub, reduceLeDiff, reduceLT, reduceEqDiff, reduceNeg, Int.reduceLT, reduceLE, reduceEq, reduceNe, Int.reduceAdd, Int.reduceSub, Int.reduceMul, reduceToNat, Int.reduceBEq, Int.reduceBNe, df141, TSp, spanG, thereG, memF_eq H, spanM, thereM, setM_self H, hh, c1, c2, H.ha, H.hb, H.hb', MB, MW, g, Int.toNat_natCast, set_hit H.ha]
      exact hS
    | false =>
      have hS := hS.2 hh
      simp (config := {maxSteps := 9999999}) only [EV0, istep, pickR, bin1R, un1R, eqS, eq1, cmpS, cmp1, isNil, leT, shows, rvC, result, List.set, List.replicate, Option.map, ↓q_cond_t, ↓q_cond_f, reduceCtorEq, reduceAdd, reducePow, Int.reducePow, reduceMul, reduceSub, reduceLeDiff, reduceLT, reduceEqDiff, reduceNeg, Int.reduceLT, reduceLE, reduceEq, reduceNe, Int.reduceAdd, Int.reduceSub, Int.reduceMul, reduceToNat, Int.reduceBEq, Int.reduceBNe, df141, TSp, spanG, thereG, memF_eq H, spanM, thereM, setM_self H, hh]
      exact hS
  · exact hS.elim

def fillM (b : Nat) (m : M) (st : M → List Blk) : List V → Res
  | [.s (.i .i64 x), .s (.i .i64 k), .s (.i .u64 v)] => .ob (u64 v) (.br (m.has x k) (.ok (.s (.i .i64 0)) [] (st ((m.fill x.toNat v k.toNat).tick k))) (.ok (.s (.i .i64 20)) [] (st m)))
  | _ => .bad
noncomputable def fillG := memF fillM
theorem mfill_snd : Snd Tryz.prog 155 (FSpec.of fillG) := snd_run TSp_snd mixed Tryz.func155 dc155 100 fun args h K hc hS => by
  obtain ⟨a, b, m, rest, rfl, H, hS1⟩ := memF_spec hS
  clear hS
  have hS := hS1
  clear hS1
  unfold fillM at hS
  split at hS
  · rename_i x k v
    simp only [spec_ob, spec_ok, spec_br, setM_self H] at hS
    obtain ⟨hv, hS⟩ := hS
    cases hh : m.has x k with
    | true =>
      have hS := hS.1 hh
      obtain ⟨i, j, rfl, rfl, hij⟩ := M.has_nat hh
      simp only [Int.toNat_natCast] at hS
      have hl := m.l
      obtain ⟨o, ho, hoi⟩ : ∃ o : Nat, (if m.w.length = i then 0 else i) = o ∧ (i < m.w.length → o = i) := ⟨_, rfl, fun hlt => if_neg (by omega)⟩
      simp (config := {maxSteps := 9999999}) only [EV0, istep, pickR, bin1R, un1R, eqS, eq1, cmpS, cmp1, isNil, leT, shows, rvC, result, List.set, List.replicate, Option.map, ↓q_cond_t, ↓q_cond_f, reduceCtorEq, reduceAdd, reducePow, Int.reducePow, reduceMul, reduceSub, reduceLeDiff, reduceLT, reduceEqDiff, reduceNeg, Int.reduceLT, reduceLE, reduceEq, reduceNe, Int.reduceAdd, Int.reduceSub, Int.reduceMul, reduceToNat, Int.reduceBEq, Int.reduceBNe, df155, TSp, spanG, memF_eq H, spanM, setM_self H, hh, Int.toNat_natCast, ho]
      refine loop_rule (α := Nat) [11, 23, 24, 25, 26, 27, 28, 29, 30] (fun q => [(23, .s (.i .i64 q))]) (fun _ => []) (fun q => h.set b ⟨.rw, wc (m.fill i v q).w, m.w.length⟩) (fun q => q ≤ j) (fun q => j - q) 0 (by omega) ?_ ?_
      · simp only [M.fill]
        rw [show (⟨.rw, wc m.w, m.w.length⟩ : Blk) = MW m from rfl, set_self H.hb]
        refine Wk.less ?_
        simp (config := {maxSteps := 9999999}) only [EV0, istep, pickR, bin1R, un1R, eqS, eq1, cmpS, cmp1, isNil, leT, shows, rvC, result, List.set, List.replicate, Option.map, ↓q_cond_t, ↓q_cond_f, reduceCtorEq, reduceAdd, reducePow, Int.reducePow, reduceMul, reduceSub, reduceLeDiff, reduceLT, reduceEqDiff, reduceNeg, Int.reduceLT, reduceLE, reduceEq, reduceNe, Int.reduceAdd, Int.reduceSub, Int.reduceMul, reduceToNat, Int.reduceBEq, Int.reduceBNe, q_cast, Int.natCast_zero]
      · rintro X q hq IH
        rcases Nat.lt_or_ge q j with h1 | h1
        · obtain ⟨d1, d2, d3, d4⟩ := idx h1 (by omega)
          have c1 := (hoi (by omega)).symm
          subst c1
          have c3 : (h.set b ⟨BK.rw, wc (m.fill i v q).w, m.w.length⟩)[b]? = some ⟨BK.rw, wc (m.fill i v q).w, m.w.length⟩ := set_hit H.hb
          have c4 : i + q + 1 ≤ (wc (m.fill i v q).w).length := by rw [wc_len, M.fill_len]; omega
          have c5 : ((wc (m.fill i v q).w).set (i + q) (S.i .u64 v)) = wc (m.fill i v (q + 1)).w := by rw [wc_set]; simp only [M.fill, M.put, uw_of hv]
          refine run_sound (Tab.ok_Γ _) 100 _ _ _ _ ?_
          simp (config := {maxSteps := 9999999}) only [EV0, istep, pickR, bin1R, un1R, eqS, eq1, cmpS, cmp1, isNil, leT, shows, rvC, result, List.set, List.replicate, Option.map, ↓q_cond_t, ↓q_cond_f, reduceCtorEq, reduceAdd, reducePow, Int.reducePow, reduceMul, reduceSub, reduceLeDiff, reduceLT, reduceEqDiff, reduceNeg, Int.reduceLT, reduceLE, reduceEq, reduceNe, Int.reduceAdd, Int.reduceSub, Int.reduceMul, reduceToNat, Int.reduceBEq, Int.reduceBNe, d1, d2, d3, d4, c3, MW, c4, Int.toNat_natCast, put, c5, List.set_set]
          exact IH (q + 1) _ (by omega) (by omega) (Wk.same rfl rfl (by simp (config := {maxSteps := 9999999}) only [EV0, istep, pickR, bin1R, un1R, eqS, eq1, cmpS, cmp1, isNil, leT, shows, rvC, result, List.set, List.replicate, Option.map, ↓q_cond_t, ↓q_cond_f, reduceCtorEq, reduceAdd, reducePow, Int.reducePow, reduceMul, reduceSub, reduceLeDiff, reduceLT, reduceEqDiff, reduceNeg, Int.reduceLT, reduceLE, reduceEq, reduceNe, Int.reduceAdd, Int.reduceSub, Int.reduceMul, reduceToNat, Int.reduceBEq, Int.reduceBNe]))
        · have : q = j := by omega
          subst this
          have ha := H.ha'
          refine run_sound (Tab.ok_Γ _) 100 _ _ _ _ ?_
          simp (config := {maxSteps := 9999999}) only [EV0, istep, pickR, bin1R, un1R, eqS, eq1, cmpS, cmp1, isNil, leT, shows, rvC, result, List.set, List.replicate, Option.map, ↓q_cond_t, ↓q_cond_f, reduceCtorEq, reduceAdd, reducePow, Int.reducePow, reduceMul, reduceSub, reduceLeDiff, reduceLT, reduceEqDiff, reduceNeg, Int.reduceLT, reduceLE, reduceEq, reduceNe, Int.reduceAdd, Int.reduceSub, Int.reduceMul, reduceToNat, Int.reduceBEq, Int.reduceBNe, Int.lt_irrefl, ha, MB]
          refine cast (congrArg (K _) ?_) hS
          simp only [setM]
          rw [List.set_comm _ _ H.ne]
          simp only [MW, MB, M.tick, M.fill_len, M.fill_n]
    | false =>
      have hS := hS.2 hh
      simp (config := {maxSteps := 9999999}) only [EV0, istep, pickR, bin1R, un1R, eqS, eq1, cmpS, cmp1, isNil, leT, shows, rvC, result, List.set, List.replicate, Option.map, ↓q_cond_t, ↓q_cond_f, reduceCtorEq, reduceAdd, reducePow, Int.reducePow, reduceMul, reduceSub, reduceLeDiff, reduceLT, reduceEqDiff, reduceNeg, Int.reduceLT, reduceLE, reduceEq, reduceNe, Int.reduceAdd, Int.reduceSub, Int.reduceMul, reduceToNat, Int.reduceBEq, Int.reduceBNe, df155, TSp, spanG, memF_eq H, spanM, setM_self H, hh]
      exact hS
  · exact hS.elim

def writeM (b : Nat) (m : M) (st : M → List Blk) : List V → Res
  | [.s (.i .i64 x), .s (.i .u64 v)] => .ob (u64 v) (.br (m.has x 1) (.ok (.s (.i .i64 0)) [] (st ((m.put x.toNat v).tick 1))) (.ok (.s (.i .i64 20)) [] (st m)))
  | _ => .bad
noncomputable def writeG := memF writeM
noncomputable def TFi : Tab := addT 155 fillG noT
theorem TFi_snd : TFi.Snd Tryz.prog := addT_snd ok155 mfill_snd (noT_snd _)
theorem mwrite_snd : Snd Tryz.prog 130 (FSpec.of writeG) := snd_run TFi_snd mixed Tryz.func130 dc130 100 fun args h K hc hS => by
  obtain ⟨a, b, m, rest, rfl, H, hS1⟩ := memF_spec hS
  clear hS
  have hS := hS1
  clear hS1
  unfold writeM at hS
  split at hS
  · rename_i x v
    simp only [spec_ob, spec_ok, spec_br, setM_self H] at hS
    obtain ⟨hv, hS⟩ := hS
    cases hh : m.has x 1 with
    | true =>
      have hS := hS.1 hh
      simp (config := {maxSteps := 9999999}) only [EV0, istep, pickR, bin1R, un1R, eqS, eq1, cmpS, cmp1, isNil, leT, shows, rvC, result, List.set, List.replicate, Option.map, ↓q_cond_t, ↓q_cond_f, reduceCtorEq, reduceAdd, reducePow, Int.reducePow, reduceMul, reduceSub, reduceLeDiff, reduceLT, reduceEqDiff, reduceNeg, Int.reduceLT, reduceLE, reduceEq, reduceNe, Int.reduceAdd, Int.reduceSub, Int.reduceMul, reduceToNat, Int.reduceBEq, Int.reduceBNe, df130, TFi, fillG, memF_eq H, fillM, setM_self H, hh, hv, M.fill]
      exact hS
    | false =>
      have hS := hS.2 hh
      simp (config := {maxSteps := 9999999}) only [EV0, istep, pickR, bin1R, un1R, eqS, eq1, cmpS, cmp1, isNil, leT, shows, rvC, result, List.set, List.replicate, Option.map, ↓q_cond_t, ↓q_cond_f, reduceCtorEq, reduceAdd, reducePow, Int.reducePow, reduceMul, reduceSub, reduceLeDiff, reduceLT, reduceEqDiff, reduceNeg, Int.reduceLT, reduceLE, reduceEq, reduceNe, Int.reduceAdd, Int.reduceSub, Int.reduceMul, reduceToNat, Int.reduceBEq, Int.reduceBNe, df130, TFi, fillG, memF_eq H, fillM, setM_self H, hh, hv, M.fill]
      exact hS
  · exact hS.elim
theorem rwrite_snd : Snd Tryz.prog 134 (FSpec.of writeG) := snd_run TSp_snd mixed Tryz.func134 dc134 100 fun args h K hc hS => by
  obtain ⟨a, b, m, rest, rfl, H, hS1⟩ := memF_spec hS
  clear hS
  have hS := hS1
  clear hS1
  unfold writeM at hS
  split at hS
  · rename_i x v
    simp only [spec_ob, spec_ok, spec_br, setM_self H] at hS
    obtain ⟨hv, hS⟩ := hS
    cases hh : m.has x 1 with
    | true =>
      have hS := hS.1 hh
      obtain ⟨i, j, rfl, e, hij⟩ := M.has_nat hh
      have c2 : (0 : Int) ≤ i ∧ (i : Int) < m.w.length := by omega
      have c4 : i + 1 ≤ (wc m.w).length := by rw [wc_len]; omega
      simp (config := {maxSteps := 9999999}) only [EV0, istep, pickR, bin1R, un1R, eqS, eq1, cmpS, cmp1, isNil, leT, shows, rvC, result, List.set, List.replicate, Option.map, ↓q_cond_t, ↓q_cond_f, reduceCtorEq, reduceAdd, reducePow, Int.reducePow, reduceMul, reduceSub, reduceLeDiff, reduceLT, reduceEqDiff, reduceNeg, Int.reduceLT, reduceLE, reduceEq, reduceNe, Int.reduceAdd, Int.reduceSub, Int.reduceMul, reduceToNat, Int.reduceBEq, Int.reduceBNe, df134, TSp, thereG, memF_eq H, thereM, setM_self H, hh, c2, H.ha, H.hb, H.ha', H.hb', MB, MW, put, wc_set, Int.toNat_natCast, c4, set_hit H.ha]
      refine cast (congrArg (K _) ?_) hS
      simp only [setM, MW, MB, M.tick, M.put, List.length_set, uw_of hv, Int.toNat_natCast]
    | false =>
      have hS := hS.2 hh
      simp (config := {maxSteps := 9999999}) only [EV0, istep, pickR, bin1R, un1R, eqS, eq1, cmpS, cmp1, isNil, leT, shows, rvC, result, List.set, List.replicate, Option.map, ↓q_cond_t, ↓q_cond_f, reduceCtorEq, reduceAdd, reducePow, Int.reducePow, reduceMul, reduceSub, reduceLeDiff, reduceLT, reduceEqDiff, reduceNeg, Int.reduceLT, reduceLE, reduceEq, reduceNe, Int.reduceAdd, Int.reduceSub, Int.reduceMul, reduceToNat, Int.reduceBEq, Int.reduceBNe, df134, TSp, thereG, memF_eq H, thereM, setM_self H, hh]
      exact hS
  · exact hS.elim
end Go.Proofs.YtpmobbehdpgnbaaGreat

/- The machine's memory: what is read behind a write. -/
namespace Go.Proofs.YtpmobbehdpgnbaaGreat
open Go.D
set_option linter.all false
set_option maxRecDepth 100000
set_option maxHeartbeats 4000000

theorem nth_set {α : Type} {d : α} : ∀ (l : List α) (i j : Nat) (x : α), nth d (l.set i x) j = if i = j ∧ i < l.length then x else nth d l j
  | [], i, j, x => by simp [nth]
  | y :: l, 0, 0, x => by simp [nth]
  | y :: l, 0, j + 1, x => by simp [nth]
  | y :: l, i + 1, 0, x => by simp [nth]
  | y :: l, i + 1, j + 1, x => by simp [nth, nth_set l i j x]
theorem nth_replicate {α : Type} {d : α} {n i : Nat} : nth d (List.replicate n d) i = d := by
  induction n generalizing i with
  | zero => rfl
  | succ n ih => cases i with
    | zero => rfl
    | succ i => exact ih
theorem M.at_put (m : M) (i : Nat) (x : Int) (j : Int) : (m.put i x).at j = if i = j.toNat ∧ i < m.w.length then uw x else m.at j := by
  simp only [M.at, M.put, nth_set]
theorem M.at_tick (m : M) (k j : Int) : (m.tick k).at j = m.at j := rfl
theorem M.at_zero (k : Nat) (j : Int) : (M.zero k).at j = 0 := by simp only [M.at, M.zero, nth_replicate]
theorem M.has_of {m : M} {a k : Int} (h : 0 ≤ a ∧ 0 ≤ k ∧ a + k ≤ m.w.length) : m.has a k = true := by rw [M.has_iff]; omega
end Go.Proofs.YtpmobbehdpgnbaaGreat

