/- Package word: what its functions answer. -/
import Derived.Test.YtpmobbehdpgnbaaZ13
import Derived.Test.YtpmobbehdpgnbaaZ11
/- The machine's memory: what its functions do. -/
namespace Go.Proofs.Ytpmobbehdpgnbaa
open Go.D
open Nat (reduceAdd reducePow reduceMul reduceSub reduceLeDiff reduceLT reduceEqDiff)
open Int (reduceNeg reduceLE reduceEq reduceNe reduceToNat)
open Go.D renaming istep → zy, pickR → zx, bin1R → zw, un1R → zv, eqS → zu, eq1 → zq, cmpS → zp, cmp1 → zj, isNil → zk, shows → zg, result → zZ, q_cond_t → zV, q_cond_f → zU
open List renaming set → zY, replicate → zX
open Option renaming map → zW
open Nat renaming reduceAdd → zQ, reducePow → yz, reduceMul → yy, reduceSub → yx, reduceLeDiff → yw, reduceLT → yv, reduceEqDiff → yu
open Int renaming reduceNeg → yq, reduceLE → yp, reduceEq → yj, reduceNe → yk, reduceToNat → yg, reducePow → yZ, reduceLT → yY, reduceAdd → yX, reduceSub → yW, reduceMul → yV, reduceBEq → yU, reduceBNe → yQ
set_option linter.all false
set_option maxRecDepth 100000
set_option maxHeartbeats 4000000

theorem pow16 (k : Nat) : 2 ^ min k 16 ≤ 65536 := by
  have : min k 16 ≤ 16 := by omega
  exact Nat.pow_le_pow_right (n := 2) (by omega) this
def M.zero (k : Nat) : M := ⟨List.replicate (2 ^ min k 16) 0, 0, fun x hx => by rw [List.eq_of_mem_replicate hx]; exact u64_0, by simpa using pow16 k⟩
theorem M.zero_len (k : Nat) : (M.zero k).w.length = 2 ^ min k 16 := by simp [M.zero]

def newM : List V → List Blk → Res
  | [.s (.i .i64 b)], h => .br (decide (11 ≤ b) && decide (b ≤ 16)) (.ok (.tup [.s (.p (.g h.length) 0), .s (.i .i64 0)]) [] (memH h (M.zero b.toNat))) (.ok (.tup [.s .np, .s (.i .i64 1)]) [] h)
  | _, _ => .bad
theorem new_snd : Snd Try.prog 10 (FSpec.of newM) := snd_run (noT_snd _) mixed Try.func10 dc10 100 fun args h K hc hS => by
  unfold newM at hS
  split at hS
  · rename_i b
    simp only [spec_br, spec_ok, Bool.and_eq_true, decide_eq_true_eq] at hS
    by_cases c1 : b < 11
    · simp (config := {maxSteps := 9999999}) only [EV0, zy, zx, zw, zv, zu, zq, zp, zj, zk, leT, zg, rvC, zZ, zY, zX, zW, ↓zV, ↓zU, reduceCtorEq, zQ, yz, yZ, yy, yx, yw, yv, yu, yq, yY, yp, yj, yk, yX, yW, yV, yg, yU, yQ, df10, c1]
      exact hS.2 (by simp; omega)
    by_cases c2 : 16 < b
    · simp (config := {maxSteps := 9999999}) only [EV0, zy, zx, zw, zv, zu, zq, zp, zj, zk, leT, zg, rvC, zZ, zY, zX, zW, ↓zV, ↓zU, reduceCtorEq, zQ, yz, yZ, yy, yx, yw, yv, yu, yq, yY, yp, yj, yk, yX, yW, yV, yg, yU, yQ, df10, c1, c2]
      exact hS.2 (by simp; omega)
    have hS := hS.1 (by omega)
    obtain ⟨k, rfl⟩ : ∃ k : Nat, b = k := ⟨b.toNat, by omega⟩
    have hk : min k 16 = k := by omega
    have m1 : min k IntKind.i64.bits = k := by show min k 64 = _; omega
    have p1 := pow16 k
    rw [hk] at p1
    obtain ⟨p, hp⟩ : ∃ p : Nat, 2 ^ k = p := ⟨_, rfl⟩
    rw [hp] at p1
    have c3 : (0 : Int) ≤ k := by omega
    have w1 : IntKind.i64.wrap (1 * 2 ^ k) = (p : Int) := by
      rw [Int.one_mul, show (2 : Int) ^ k = (p : Int) by rw [← hp]; simp, wrap64] <;> omega
    have c4 : (0 : Int) ≤ (p : Int) := by omega
    have c5 : (p : Int) ≤ 1099511627776 := by omega
    have c6 : (8 : Int) * (p : Int) ≤ 281474976710656 := by omega
    simp (config := {maxSteps := 9999999}) only [EV0, zy, zx, zw, zv, zu, zq, zp, zj, zk, leT, zg, rvC, zZ, zY, zX, zW, ↓zV, ↓zU, reduceCtorEq, zQ, yz, yZ, yy, yx, yw, yv, yu, yq, yY, yp, yj, yk, yX, yW, yV, yg, yU, yQ, df10, c1, c2, c3, m1, w1, c4, Int.le_refl, c5, c6, wc_zeros, put, fillP]
    refine ⟨[1, 0], by simp, rfl, ?_⟩
    simp only [getAll, List.getElem?_cons_zero, List.getElem?_cons_succ]
    refine ⟨?_, ?_⟩
    · simp [S.kept, R.kept, wc_kept]
    · refine cast (congrArg (K _) ?_) hS
      simp [memH, MB, MW, M.zero, hk, hp, Blk.ren, S.ren, R.prom, List.idxOf, List.findIdx, List.findIdx.go, wc_ren, wc_len, V.ren, C.ren, wc_map]
  · exact hS.elim
theorem rnew_snd : Snd Try.prog 68 (FSpec.of newM) := snd_run (noT_snd _) mixed Try.func68 dc68 100 fun args h K hc hS => by
  unfold newM at hS
  split at hS
  · rename_i b
    simp only [spec_br, spec_ok, Bool.and_eq_true, decide_eq_true_eq] at hS
    by_cases c1 : b < 11
    · simp (config := {maxSteps := 9999999}) only [EV0, zy, zx, zw, zv, zu, zq, zp, zj, zk, leT, zg, rvC, zZ, zY, zX, zW, ↓zV, ↓zU, reduceCtorEq, zQ, yz, yZ, yy, yx, yw, yv, yu, yq, yY, yp, yj, yk, yX, yW, yV, yg, yU, yQ, df68, c1]
      exact hS.2 (by simp; omega)
    by_cases c2 : 16 < b
    · simp (config := {maxSteps := 9999999}) only [EV0, zy, zx, zw, zv, zu, zq, zp, zj, zk, leT, zg, rvC, zZ, zY, zX, zW, ↓zV, ↓zU, reduceCtorEq, zQ, yz, yZ, yy, yx, yw, yv, yu, yq, yY, yp, yj, yk, yX, yW, yV, yg, yU, yQ, df68, c1, c2]
      exact hS.2 (by simp; omega)
    have hS := hS.1 (by omega)
    obtain ⟨k, rfl⟩ : ∃ k : Nat, b = k := ⟨b.toNat, by omega⟩
    have hk : min k 16 = k := by omega
    have m1 : min k IntKind.i64.bits = k := by show min k 64 = _; omega
    have p1 := pow16 k
    rw [hk] at p1
    obtain ⟨p, hp⟩ : ∃ p : Nat, 2 ^ k = p := ⟨_, rfl⟩
    rw [hp] at p1
    have c3 : (0 : Int) ≤ k := by omega
    have w1 : IntKind.i64.wrap (1 * 2 ^ k) = (p : Int) := by
      rw [Int.one_mul, show (2 : Int) ^ k = (p : Int) by rw [← hp]; simp, wrap64] <;> omega
    have c4 : (0 : Int) ≤ (p : Int) := by omega
    have c5 : (p : Int) ≤ 1099511627776 := by omega
    have c6 : (8 : Int) * (p : Int) ≤ 281474976710656 := by omega
    simp (config := {maxSteps := 9999999}) only [EV0, zy, zx, zw, zv, zu, zq, zp, zj, zk, leT, zg, rvC, zZ, zY, zX, zW, ↓zV, ↓zU, reduceCtorEq, zQ, yz, yZ, yy, yx, yw, yv, yu, yq, yY, yp, yj, yk, yX, yW, yV, yg, yU, yQ, df68, c1, c2, c3, m1, w1, c4, Int.le_refl, c5, c6, wc_zeros, put, fillP]
    refine ⟨[1, 0], by simp, rfl, ?_⟩
    simp only [getAll, List.getElem?_cons_zero, List.getElem?_cons_succ]
    refine ⟨?_, ?_⟩
    · simp [S.kept, R.kept, wc_kept]
    · refine cast (congrArg (K _) ?_) hS
      simp [memH, MB, MW, M.zero, hk, hp, Blk.ren, S.ren, R.prom, List.idxOf, List.findIdx, List.findIdx.go, wc_ren, wc_len, V.ren, C.ren, wc_map]
  · exact hS.elim
def wordsM (b : Nat) (m : M) (st : M → List Blk) : List V → Res
  | [] => .ok (.s (.i .i64 m.w.length)) [] (st m)
  | _ => .bad
noncomputable def wordsG := memF wordsM
theorem mwords_snd : Snd Try.prog 70 (FSpec.of wordsG) := snd_run (noT_snd _) mixed Try.func70 dc70 100 fun args h K hc hS => by
  obtain ⟨a, b, m, rest, rfl, H, hS1⟩ := memF_spec hS
  clear hS
  have hS := hS1
  clear hS1
  unfold wordsM at hS
  split at hS
  · simp only [spec_ok, setM_self H] at hS
    simp (config := {maxSteps := 9999999}) only [EV0, zy, zx, zw, zv, zu, zq, zp, zj, zk, leT, zg, rvC, zZ, zY, zX, zW, ↓zV, ↓zU, reduceCtorEq, zQ, yz, yZ, yy, yx, yw, yv, yu, yq, yY, yp, yj, yk, yX, yW, yV, yg, yU, yQ, df70, H.ha, MB]
    exact hS
  · exact hS.elim

def spanM (b : Nat) (m : M) (st : M → List Blk) : List V → Res
  | [.s (.i .i64 a), .s (.i .i64 k)] => .br (m.has a k) (.ok (.tup [.s (.sl (.g b) (if m.w.length = a.toNat then 0 else a.toNat) k.toNat (m.w.length - a.toNat)), .s (.b true)]) [] (st m)) (.ok (.tup [.s .ns, .s (.b false)]) [] (st m))
  | _ => .bad
noncomputable def spanG := memF spanM
theorem span_snd : Snd Try.prog 36 (FSpec.of spanG) := snd_run (noT_snd _) mixed Try.func36 dc36 100 fun args h K hc hS => by
  obtain ⟨a, b, m, rest, rfl, H, hS1⟩ := memF_spec hS
  clear hS
  have hS := hS1
  clear hS1
  unfold spanM at hS
  split at hS
  · rename_i x k
    simp only [spec_ok, spec_br, setM_self H] at hS
    have hl := m.l
    cases hh : m.has x k with
    | true =>
      have hS := hS.1 hh
      obtain ⟨i, j, rfl, rfl, hij⟩ := M.has_nat hh
      have c1 : ¬ ((i : Int) < 0) := by omega
      have c2 : ¬ ((j : Int) < 0) := by omega
      have c3 : ¬ ((m.w.length : Int) < i) := by omega
      have w1 : IntKind.i64.wrap ((m.w.length : Int) - i) = m.w.length - i := wrap64 (by omega) (by omega)
      have c4 : ¬ ((m.w.length : Int) - i < j) := by omega
      have w2 : IntKind.i64.wrap ((i : Int) + j) = ((i + j : Nat) : Int) := by rw [wrap64] <;> omega
      have c5 : (0 : Int) ≤ i := by omega
      have c6 : (i : Int) ≤ ((i + j : Nat) : Int) := by omega
      have c7 : ((i + j : Nat) : Int) ≤ m.w.length := by omega
      have e1 : i + j - i = j := by omega
      have c8 : 0 ≤ (i : Int) ∧ (i : Int) ≤ ((i + j : Nat) : Int) ∧ ((i + j : Nat) : Int) ≤ m.w.length := by omega
      simp (config := {maxSteps := 9999999}) only [EV0, zy, zx, zw, zv, zu, zq, zp, zj, zk, leT, zg, rvC, zZ, zY, zX, zW, ↓zV, ↓zU, reduceCtorEq, zQ, yz, yZ, yy, yx, yw, yv, yu, yq, yY, yp, yj, yk, yX, yW, yV, yg, yU, yQ, df36, H.ha, MB, c1, c2, c3, w1, c4, w2, slcR, c5, c6, c7, e1]
      exact hS
    | false =>
      have hS := hS.2 hh
      have hn := M.has_not hh
      by_cases c1 : x < 0
      · simp (config := {maxSteps := 9999999}) only [EV0, zy, zx, zw, zv, zu, zq, zp, zj, zk, leT, zg, rvC, zZ, zY, zX, zW, ↓zV, ↓zU, reduceCtorEq, zQ, yz, yZ, yy, yx, yw, yv, yu, yq, yY, yp, yj, yk, yX, yW, yV, yg, yU, yQ, df36, c1]
        exact hS
      by_cases c2 : k < 0
      · simp (config := {maxSteps := 9999999}) only [EV0, zy, zx, zw, zv, zu, zq, zp, zj, zk, leT, zg, rvC, zZ, zY, zX, zW, ↓zV, ↓zU, reduceCtorEq, zQ, yz, yZ, yy, yx, yw, yv, yu, yq, yY, yp, yj, yk, yX, yW, yV, yg, yU, yQ, df36, c1, c2]
        exact hS
      by_cases c3 : (m.w.length : Int) < x
      · simp (config := {maxSteps := 9999999}) only [EV0, zy, zx, zw, zv, zu, zq, zp, zj, zk, leT, zg, rvC, zZ, zY, zX, zW, ↓zV, ↓zU, reduceCtorEq, zQ, yz, yZ, yy, yx, yw, yv, yu, yq, yY, yp, yj, yk, yX, yW, yV, yg, yU, yQ, df36, H.ha, MB, c1, c2, c3]
        exact hS
      have w1 : IntKind.i64.wrap ((m.w.length : Int) - x) = m.w.length - x := wrap64 (by omega) (by omega)
      have c4 : (m.w.length : Int) - x < k := by omega
      simp (config := {maxSteps := 9999999}) only [EV0, zy, zx, zw, zv, zu, zq, zp, zj, zk, leT, zg, rvC, zZ, zY, zX, zW, ↓zV, ↓zU, reduceCtorEq, zQ, yz, yZ, yy, yx, yw, yv, yu, yq, yY, yp, yj, yk, yX, yW, yV, yg, yU, yQ, df36, H.ha, MB, c1, c2, c3, w1, c4]
      exact hS
  · exact hS.elim

def thereM (b : Nat) (m : M) (st : M → List Blk) : List V → Res
  | [.s (.i .i64 a), .s (.i .i64 k)] => .ok (.s (.b (m.has a k))) [] (st m)
  | _ => .bad
noncomputable def thereG := memF thereM
theorem rthere_snd : Snd Try.prog 103 (FSpec.of thereG) := snd_run (noT_snd _) mixed Try.func103 dc103 100 fun args h K hc hS => by
  obtain ⟨a, b, m, rest, rfl, H, hS1⟩ := memF_spec hS
  clear hS
  have hS := hS1
  clear hS1
  unfold thereM at hS
  split at hS
  · rename_i x k
    simp only [spec_ok, setM_self H] at hS
    have hl := m.l
    cases hh : m.has x k with
    | true =>
      rw [hh] at hS
      obtain ⟨i, j, rfl, rfl, hij⟩ := M.has_nat hh
      have w1 : IntKind.i64.wrap ((m.w.length : Int) - i) = m.w.length - i := wrap64 (by omega) (by omega)
      have c1 : (0 : Int) ≤ i := by omega
      have c2 : (0 : Int) ≤ j := by omega
      have c3 : (i : Int) ≤ m.w.length := by omega
      have c4 : (j : Int) ≤ (m.w.length : Int) - i := by omega
      simp (config := {maxSteps := 9999999}) only [EV0, zy, zx, zw, zv, zu, zq, zp, zj, zk, leT, zg, rvC, zZ, zY, zX, zW, ↓zV, ↓zU, reduceCtorEq, zQ, yz, yZ, yy, yx, yw, yv, yu, yq, yY, yp, yj, yk, yX, yW, yV, yg, yU, yQ, df103, H.ha, MB, c1, c2, c3, w1, c4]
      exact hS
    | false =>
      rw [hh] at hS
      have hn := M.has_not hh
      by_cases c1 : 0 ≤ x
      · by_cases c2 : 0 ≤ k
        · by_cases c3 : x ≤ m.w.length
          · have w1 : IntKind.i64.wrap ((m.w.length : Int) - x) = m.w.length - x := wrap64 (by omega) (by omega)
            have c4 : ¬ (k ≤ (m.w.length : Int) - x) := by omega
            simp (config := {maxSteps := 9999999}) only [EV0, zy, zx, zw, zv, zu, zq, zp, zj, zk, leT, zg, rvC, zZ, zY, zX, zW, ↓zV, ↓zU, reduceCtorEq, zQ, yz, yZ, yy, yx, yw, yv, yu, yq, yY, yp, yj, yk, yX, yW, yV, yg, yU, yQ, df103, H.ha, MB, c1, c2, c3, w1, c4]
            exact hS
          · simp (config := {maxSteps := 9999999}) only [EV0, zy, zx, zw, zv, zu, zq, zp, zj, zk, leT, zg, rvC, zZ, zY, zX, zW, ↓zV, ↓zU, reduceCtorEq, zQ, yz, yZ, yy, yx, yw, yv, yu, yq, yY, yp, yj, yk, yX, yW, yV, yg, yU, yQ, df103, H.ha, MB, c1, c2, c3]
            exact hS
        · simp (config := {maxSteps := 9999999}) only [EV0, zy, zx, zw, zv, zu, zq, zp, zj, zk, leT, zg, rvC, zZ, zY, zX, zW, ↓zV, ↓zU, reduceCtorEq, zQ, yz, yZ, yy, yx, yw, yv, yu, yq, yY, yp, yj, yk, yX, yW, yV, yg, yU, yQ, df103, H.ha, MB, c1, c2]
          exact hS
      · simp (config := {maxSteps := 9999999}) only [EV0, zy, zx, zw, zv, zu, zq, zp, zj, zk, leT, zg, rvC, zZ, zY, zX, zW, ↓zV, ↓zU, reduceCtorEq, zQ, yz, yZ, yy, yx, yw, yv, yu, yq, yY, yp, yj, yk, yX, yW, yV, yg, yU, yQ, df103, H.ha, MB, c1]
        exact hS
  · exact hS.elim

theorem IsMem.hb' {h : List Blk} {a b : Nat} {m : M} (H : IsMem h a b m) (B : Blk) : (h.set a B)[b]? = some (MW m) := by rw [set_miss H.ne]; exact H.hb
theorem IsMem.ha' {h : List Blk} {a b : Nat} {m : M} (H : IsMem h a b m) (B : Blk) : (h.set b B)[a]? = some (MB b m) := by rw [set_miss (Ne.symm H.ne)]; exact H.ha

noncomputable def TSp : Tab := addT 36 spanG (addT 103 thereG noT)
theorem TSp_snd : TSp.Snd Try.prog := addT_snd ok36 span_snd (addT_snd ok103 rthere_snd (noT_snd _))

def readM (b : Nat) (m : M) (st : M → List Blk) : List V → Res
  | [.s (.i .i64 x)] => .br (m.has x 1) (.ok (.tup [.s (.i .u64 (m.at x)), .s (.i .i64 0)]) [] (st (m.tick 1))) (.ok (.tup [.s (.i .u64 0), .s (.i .i64 20)]) [] (st m))
  | _ => .bad
noncomputable def readG := memF readM
theorem mread_snd : Snd Try.prog 60 (FSpec.of readG) := snd_run TSp_snd mixed Try.func60 dc60 100 fun args h K hc hS => by
  obtain ⟨a, b, m, rest, rfl, H, hS1⟩ := memF_spec hS
  clear hS
  have hS := hS1
  clear hS1
  unfold readM at hS
  split at hS
  · rename_i x
    simp only [spec_ok, spec_br, setM_self H] at hS
    rw [← setM_steps H (m' := m.tick 1) rfl] at hS
    cases hh : m.has x 1 with
    | true =>
      have hS := hS.1 hh
      obtain ⟨i, j, rfl, e, hij⟩ := M.has_nat hh
      have c1 : ¬ (m.w.length = i) := by omega
      have c2 : (0 : Int) ≤ i ∧ (i : Int) < m.w.length := by omega
      have g := wc_get (w := m.w) (i := i) (by omega)
      simp (config := {maxSteps := 9999999}) only [EV0, zy, zx, zw, zv, zu, zq, zp, zj, zk, leT, zg, rvC, zZ, zY, zX, zW, ↓zV, ↓zU, reduceCtorEq, zQ, yz, yZ, yy, yx, yw, yv, yu, yq, yY, yp, yj, yk, yX, yW, yV, yg, yU, yQ, df60, TSp, spanG, thereG, memF_eq H, spanM, thereM, setM_self H, hh, c1, c2, H.ha, H.hb, H.hb', MB, MW, g, Int.toNat_natCast, set_hit H.ha]
      exact hS
    | false =>
      have hS := hS.2 hh
      simp (config := {maxSteps := 9999999}) only [EV0, zy, zx, zw, zv, zu, zq, zp, zj, zk, leT, zg, rvC, zZ, zY, zX, zW, ↓zV, ↓zU, reduceCtorEq, zQ, yz, yZ, yy, yx, yw, yv, yu, yq, yY, yp, yj, yk, yX, yW, yV, yg, yU, yQ, df60, TSp, spanG, thereG, memF_eq H, spanM, thereM, setM_self H, hh]
      exact hS
  · exact hS.elim
theorem rread_snd : Snd Try.prog 84 (FSpec.of readG) := snd_run TSp_snd mixed Try.func84 dc84 100 fun args h K hc hS => by
  obtain ⟨a, b, m, rest, rfl, H, hS1⟩ := memF_spec hS
  clear hS
  have hS := hS1
  clear hS1
  unfold readM at hS
  split at hS
  · rename_i x
    simp only [spec_ok, spec_br, setM_self H] at hS
    rw [← setM_steps H (m' := m.tick 1) rfl] at hS
    cases hh : m.has x 1 with
    | true =>
      have hS := hS.1 hh
      obtain ⟨i, j, rfl, e, hij⟩ := M.has_nat hh
      have c1 : ¬ (m.w.length = i) := by omega
      have c2 : (0 : Int) ≤ i ∧ (i : Int) < m.w.length := by omega
      have g := wc_get (w := m.w) (i := i) (by omega)
      simp (config := {maxSteps := 9999999}) only [EV0, zy, zx, zw, zv, zu, zq, zp, zj, zk, leT, zg, rvC, zZ, zY, zX, zW, ↓zV, ↓zU, reduceCtorEq, zQ, yz, yZ, yy, yx, yw, yv, yu, yq, yY, yp, yj, yk, yX, yW, yV, yg, yU, yQ, df84, TSp, spanG, thereG, memF_eq H, spanM, thereM, setM_self H, hh, c1, c2, H.ha, H.hb, H.hb', MB, MW, g, Int.toNat_natCast, set_hit H.ha]
      exact hS
    | false =>
      have hS := hS.2 hh
      simp (config := {maxSteps := 9999999}) only [EV0, zy, zx, zw, zv, zu, zq, zp, zj, zk, leT, zg, rvC, zZ, zY, zX, zW, ↓zV, ↓zU, reduceCtorEq, zQ, yz, yZ, yy, yx, yw, yv, yu, yq, yY, yp, yj, yk, yX, yW, yV, yg, yU, yQ, df84, TSp, spanG, thereG, memF_eq H, spanM, thereM, setM_self H, hh]
      exact hS
  · exact hS.elim

def fillM (b : Nat) (m : M) (st : M → List Blk) : List V → Res
  | [.s (.i .i64 x), .s (.i .i64 k), .s (.i .u64 v)] => .ob (u64 v) (.br (m.has x k) (.ok (.s (.i .i64 0)) [] (st ((m.fill x.toNat v k.toNat).tick k))) (.ok (.s (.i .i64 20)) [] (st m)))
  | _ => .bad
noncomputable def fillG := memF fillM
theorem mfill_snd : Snd Try.prog 101 (FSpec.of fillG) := snd_run TSp_snd mixed Try.func101 dc101 100 fun args h K hc hS => by
  obtain ⟨a, b, m, rest, rfl, H, hS1⟩ := memF_spec hS
  clear hS
  have hS := hS1
  clear hS1
  unfold fillM at hS
  split at hS
  · rename_i x k v
    simp only [spec_ob, spec_ok, spec_br, setM_self H] at hS
    obtain ⟨hv, hS⟩ := hS
    cases hh : m.has x k with
    | true =>
      have hS := hS.1 hh
      obtain ⟨i, j, rfl, rfl, hij⟩ := M.has_nat hh
      simp only [Int.toNat_natCast] at hS
      have hl := m.l
      obtain ⟨o, ho, hoi⟩ : ∃ o : Nat, (if m.w.length = i then 0 else i) = o ∧ (i < m.w.length → o = i) := ⟨_, rfl, fun hlt => if_neg (by omega)⟩
      simp (config := {maxSteps := 9999999}) only [EV0, zy, zx, zw, zv, zu, zq, zp, zj, zk, leT, zg, rvC, zZ, zY, zX, zW, ↓zV, ↓zU, reduceCtorEq, zQ, yz, yZ, yy, yx, yw, yv, yu, yq, yY, yp, yj, yk, yX, yW, yV, yg, yU, yQ, df101, TSp, spanG, memF_eq H, spanM, setM_self H, hh, Int.toNat_natCast, ho]
      refine loop_rule (α := Nat) [11, 23, 24, 25, 26, 27, 28, 29, 30] (fun q => [(23, .s (.i .i64 q))]) (fun _ => []) (fun q => h.set b ⟨.rw, wc (m.fill i v q).w, m.w.length⟩) (fun q => q ≤ j) (fun q => j - q) 0 (by omega) ?_ ?_
      · simp only [M.fill]
        rw [show (⟨.rw, wc m.w, m.w.length⟩ : Blk) = MW m from rfl, set_self H.hb]
        refine Wk.less ?_
        simp (config := {maxSteps := 9999999}) only [EV0, zy, zx, zw, zv, zu, zq, zp, zj, zk, leT, zg, rvC, zZ, zY, zX, zW, ↓zV, ↓zU, reduceCtorEq, zQ, yz, yZ, yy, yx, yw, yv, yu, yq, yY, yp, yj, yk, yX, yW, yV, yg, yU, yQ, q_cast, Int.natCast_zero]
      · rintro X q hq IH
        rcases Nat.lt_or_ge q j with h1 | h1
        · obtain ⟨d1, d2, d3, d4⟩ := idx h1 (by omega)
          have c1 := (hoi (by omega)).symm
          subst c1
          have c3 : (h.set b ⟨BK.rw, wc (m.fill i v q).w, m.w.length⟩)[b]? = some ⟨BK.rw, wc (m.fill i v q).w, m.w.length⟩ := set_hit H.hb
          have c4 : i + q + 1 ≤ (wc (m.fill i v q).w).length := by rw [wc_len, M.fill_len]; omega
          have c5 : ((wc (m.fill i v q).w).set (i + q) (S.i .u64 v)) = wc (m.fill i v (q + 1)).w := by rw [wc_set]; simp only [M.fill, M.put, uw_of hv]
          refine run_sound (Tab.ok_Γ _) 100 _ _ _ _ ?_
          simp (config := {maxSteps := 9999999}) only [EV0, zy, zx, zw, zv, zu, zq, zp, zj, zk, leT, zg, rvC, zZ, zY, zX, zW, ↓zV, ↓zU, reduceCtorEq, zQ, yz, yZ, yy, yx, yw, yv, yu, yq, yY, yp, yj, yk, yX, yW, yV, yg, yU, yQ, d1, d2, d3, d4, c3, MW, c4, Int.toNat_natCast, put, c5, List.set_set]
          exact IH (q + 1) _ (by omega) (by omega) (Wk.same rfl rfl (by simp (config := {maxSteps := 9999999}) only [EV0, zy, zx, zw, zv, zu, zq, zp, zj, zk, leT, zg, rvC, zZ, zY, zX, zW, ↓zV, ↓zU, reduceCtorEq, zQ, yz, yZ, yy, yx, yw, yv, yu, yq, yY, yp, yj, yk, yX, yW, yV, yg, yU, yQ]))
        · have : q = j := by omega
          subst this
          have ha := H.ha'
          refine run_sound (Tab.ok_Γ _) 100 _ _ _ _ ?_
          simp (config := {maxSteps := 9999999}) only [EV0, zy, zx, zw, zv, zu, zq, zp, zj, zk, leT, zg, rvC, zZ, zY, zX, zW, ↓zV, ↓zU, reduceCtorEq, zQ, yz, yZ, yy, yx, yw, yv, yu, yq, yY, yp, yj, yk, yX, yW, yV, yg, yU, yQ, Int.lt_irrefl, ha, MB]
          refine cast (congrArg (K _) ?_) hS
          simp only [setM]
          rw [List.set_comm _ _ H.ne]
          simp only [MW, MB, M.tick, M.fill_len, M.fill_n]
    | false =>
      have hS := hS.2 hh
      simp (config := {maxSteps := 9999999}) only [EV0, zy, zx, zw, zv, zu, zq, zp, zj, zk, leT, zg, rvC, zZ, zY, zX, zW, ↓zV, ↓zU, reduceCtorEq, zQ, yz, yZ, yy, yx, yw, yv, yu, yq, yY, yp, yj, yk, yX, yW, yV, yg, yU, yQ, df101, TSp, spanG, memF_eq H, spanM, setM_self H, hh]
      exact hS
  · exact hS.elim

def writeM (b : Nat) (m : M) (st : M → List Blk) : List V → Res
  | [.s (.i .i64 x), .s (.i .u64 v)] => .ob (u64 v) (.br (m.has x 1) (.ok (.s (.i .i64 0)) [] (st ((m.put x.toNat v).tick 1))) (.ok (.s (.i .i64 20)) [] (st m)))
  | _ => .bad
noncomputable def writeG := memF writeM
noncomputable def TFi : Tab := addT 101 fillG noT
theorem TFi_snd : TFi.Snd Try.prog := addT_snd ok101 mfill_snd (noT_snd _)
theorem mwrite_snd : Snd Try.prog 77 (FSpec.of writeG) := snd_run TFi_snd mixed Try.func77 dc77 100 fun args h K hc hS => by
  obtain ⟨a, b, m, rest, rfl, H, hS1⟩ := memF_spec hS
  clear hS
  have hS := hS1
  clear hS1
  unfold writeM at hS
  split at hS
  · rename_i x v
    simp only [spec_ob, spec_ok, spec_br, setM_self H] at hS
    obtain ⟨hv, hS⟩ := hS
    cases hh : m.has x 1 with
    | true =>
      have hS := hS.1 hh
      simp (config := {maxSteps := 9999999}) only [EV0, zy, zx, zw, zv, zu, zq, zp, zj, zk, leT, zg, rvC, zZ, zY, zX, zW, ↓zV, ↓zU, reduceCtorEq, zQ, yz, yZ, yy, yx, yw, yv, yu, yq, yY, yp, yj, yk, yX, yW, yV, yg, yU, yQ, df77, TFi, fillG, memF_eq H, fillM, setM_self H, hh, hv, M.fill]
      exact hS
    | false =>
      have hS := hS.2 hh
      simp (config := {maxSteps := 9999999}) only [EV0, zy, zx, zw, zv, zu, zq, zp, zj, zk, leT, zg, rvC, zZ, zY, zX, zW, ↓zV, ↓zU, reduceCtorEq, zQ, yz, yZ, yy, yx, yw, yv, yu, yq, yY, yp, yj, yk, yX, yW, yV, yg, yU, yQ, df77, TFi, fillG, memF_eq H, fillM, setM_self H, hh, hv, M.fill]
      exact hS
  · exact hS.elim
theorem rwrite_snd : Snd Try.prog 88 (FSpec.of writeG) := snd_run TSp_snd mixed Try.func88 dc88 100 fun args h K hc hS => by
  obtain ⟨a, b, m, rest, rfl, H, hS1⟩ := memF_spec hS
  clear hS
  have hS := hS1
  clear hS1
  unfold writeM at hS
  split at hS
  · rename_i x v
    simp only [spec_ob, spec_ok, spec_br, setM_self H] at hS
    obtain ⟨hv, hS⟩ := hS
    cases hh : m.has x 1 with
    | true =>
      have hS := hS.1 hh
      obtain ⟨i, j, rfl, e, hij⟩ := M.has_nat hh
      have c2 : (0 : Int) ≤ i ∧ (i : Int) < m.w.length := by omega
      have c4 : i + 1 ≤ (wc m.w).length := by rw [wc_len]; omega
      simp (config := {maxSteps := 9999999}) only [EV0, zy, zx, zw, zv, zu, zq, zp, zj, zk, leT, zg, rvC, zZ, zY, zX, zW, ↓zV, ↓zU, reduceCtorEq, zQ, yz, yZ, yy, yx, yw, yv, yu, yq, yY, yp, yj, yk, yX, yW, yV, yg, yU, yQ, df88, TSp, thereG, memF_eq H, thereM, setM_self H, hh, c2, H.ha, H.hb, H.ha', H.hb', MB, MW, put, wc_set, Int.toNat_natCast, c4, set_hit H.ha]
      refine cast (congrArg (K _) ?_) hS
      simp only [setM, MW, MB, M.tick, M.put, List.length_set, uw_of hv, Int.toNat_natCast]
    | false =>
      have hS := hS.2 hh
      simp (config := {maxSteps := 9999999}) only [EV0, zy, zx, zw, zv, zu, zq, zp, zj, zk, leT, zg, rvC, zZ, zY, zX, zW, ↓zV, ↓zU, reduceCtorEq, zQ, yz, yZ, yy, yx, yw, yv, yu, yq, yY, yp, yj, yk, yX, yW, yV, yg, yU, yQ, df88, TSp, thereG, memF_eq H, thereM, setM_self H, hh]
      exact hS
  · exact hS.elim
end Go.Proofs.Ytpmobbehdpgnbaa

/- The machine's memory: what is read behind a write. -/
namespace Go.Proofs.Ytpmobbehdpgnbaa
open Go.D
set_option linter.all false
set_option maxRecDepth 100000
set_option maxHeartbeats 4000000

theorem nth_set {α : Type} {d : α} : ∀ (l : List α) (i j : Nat) (x : α), nth d (l.set i x) j = if i = j ∧ i < l.length then x else nth d l j
  | [], i, j, x => by simp [nth]
  | y :: l, 0, 0, x => by simp [nth]
  | y :: l, 0, j + 1, x => by simp [nth]
  | y :: l, i + 1, 0, x => by simp [nth]
  | y :: l, i + 1, j + 1, x => by simp [nth, nth_set l i j x]
theorem nth_replicate {α : Type} {d : α} {n i : Nat} : nth d (List.replicate n d) i = d := by
  induction n generalizing i with
  | zero => rfl
  | succ n ih => cases i with
    | zero => rfl
    | succ i => exact ih
theorem M.at_put (m : M) (i : Nat) (x : Int) (j : Int) : (m.put i x).at j = if i = j.toNat ∧ i < m.w.length then uw x else m.at j := by
  simp only [M.at, M.put, nth_set]
theorem M.at_tick (m : M) (k j : Int) : (m.tick k).at j = m.at j := rfl
theorem M.at_zero (k : Nat) (j : Int) : (M.zero k).at j = 0 := by simp only [M.at, M.zero, nth_replicate]
theorem M.has_of {m : M} {a k : Int} (h : 0 ≤ a ∧ 0 ≤ k ∧ a + k ≤ m.w.length) : m.has a k = true := by rw [M.has_iff]; omega
end Go.Proofs.Ytpmobbehdpgnbaa

/- Lists of words: Dump, Load, Same. -/
namespace Go.Proofs.Ytpmobbehdpgnbaa
open Go.D
open Nat (reduceAdd reducePow reduceMul reduceSub reduceLeDiff reduceLT reduceEqDiff)
open Int (reduceNeg reduceLE reduceEq reduceNe reduceToNat)
open Go.D renaming istep → zy, pickR → zx, bin1R → zw, un1R → zv, eqS → zu, eq1 → zq, cmpS → zp, cmp1 → zj, isNil → zk, shows → zg, result → zZ, q_cond_t → zV, q_cond_f → zU
open List renaming set → zY, replicate → zX
open Option renaming map → zW
open Nat renaming reduceAdd → zQ, reducePow → yz, reduceMul → yy, reduceSub → yx, reduceLeDiff → yw, reduceLT → yv, reduceEqDiff → yu
open Int renaming reduceNeg → yq, reduceLE → yp, reduceEq → yj, reduceNe → yk, reduceToNat → yg, reducePow → yZ, reduceLT → yY, reduceAdd → yX, reduceSub → yW, reduceMul → yV, reduceBEq → yU, reduceBNe → yQ
set_option linter.all false
set_option maxRecDepth 100000
set_option maxHeartbeats 4000000

def IsList (h : List Blk) (s : S) (vs : List Int) : Prop :=
  ((s = .ns ∨ ∃ a c, s = .es a c) ∧ vs = []) ∨ (∃ j o c B, s = .sl (.g j) o 0 c ∧ h[j]? = some B ∧ vs = []) ∨ ∃ j o c B, s = .sl (.g j) o vs.length c ∧ h[j]? = some B ∧ B.st ≠ .dead ∧ o + vs.length ≤ B.cells.length ∧ sub B.cells o vs.length = wc vs
theorem IsList.uniq {h : List Blk} {s : S} {v w : List Int} (H : IsList h s v) (H' : IsList h s w) : v = w := by
  rcases H with ⟨e0, rfl⟩ | ⟨j, o, c, B, rfl, e1, rfl⟩ | ⟨j, o, c, B, rfl, e1, _, _, e2⟩
  · rcases H' with ⟨_, rfl⟩ | ⟨_, _, _, _, e, _⟩ | ⟨j, o, c, B, e, _⟩
    · rfl
    · subst e; rcases e0 with e0 | ⟨_, _, e0⟩ <;> cases e0
    · subst e; rcases e0 with e0 | ⟨_, _, e0⟩ <;> cases e0
  · rcases H' with ⟨e | ⟨_, _, e⟩, _⟩ | ⟨_, _, _, _, _, _, rfl⟩ | ⟨j', o', c', B', e, _⟩
    · cases e
    · cases e
    · rfl
    · simp only [S.sl.injEq] at e
      exact (List.eq_nil_of_length_eq_zero e.2.2.1.symm).symm
  · rcases H' with ⟨e | ⟨_, _, e⟩, _⟩ | ⟨_, _, _, _, e, _, rfl⟩ | ⟨j', o', c', B', e, e3, _, _, e4⟩
    · cases e
    · cases e
    · simp only [S.sl.injEq] at e
      exact List.eq_nil_of_length_eq_zero e.2.2.1
    · simp only [S.sl.injEq, R.g.injEq] at e
      obtain ⟨rfl, rfl, e5, rfl⟩ := e
      rw [e1, Option.some.injEq] at e3
      subst e3
      rw [← e5, e2] at e4
      exact wc_inj e4
theorem IsList.sl {h : List Blk} {s : S} {vs : List Int} (H : IsList h s vs) : IsSl h.length s vs.length := by
  rcases H with ⟨e0 | ⟨a, c', e0⟩, rfl⟩ | ⟨j, o, c, B, rfl, e1, rfl⟩ | ⟨j, o, c, B, rfl, e1, _, _, e2⟩
  · exact .inl ⟨e0, rfl⟩
  · exact .inr (.inl ⟨a, c', e0, rfl⟩)
  · exact .inr (.inr ⟨j, o, c, rfl, (List.getElem?_eq_some_iff.1 e1).1⟩)
  · exact .inr (.inr ⟨j, o, c, rfl, (List.getElem?_eq_some_iff.1 e1).1⟩)
theorem IsList.shows {h : List Blk} {s : S} {vs : List Int} (H : IsList h s vs) (ls : List Blk) : shows ls h 1 s = some (vs.length, wc vs) := by
  rcases H with ⟨rfl | ⟨a, c', rfl⟩, rfl⟩ | ⟨j, o, c, B, rfl, e1, rfl⟩ | ⟨j, o, c, B, rfl, e1, hd, hl, e2⟩
  · rfl
  · rfl
  · simp only [D.shows, blk, e1]
    split
    · simp [wc]
    · simp [sub, wc]
  · simp only [D.shows, blk, e1, Nat.mul_one]
    rw [if_neg (by rintro (x | x); exact hd x; omega), e2]
theorem IsList.at {h : List Blk} {s : S} {vs : List Int} (H : IsList h s vs) {i : Nat} (hi : i < vs.length) : ∃ j o c B, s = .sl (.g j) o vs.length c ∧ h[j]? = some B ∧ B.st ≠ .dead ∧ o + vs.length ≤ B.cells.length ∧ sub B.cells o vs.length = wc vs := by
  rcases H with ⟨_, rfl⟩ | ⟨_, _, _, _, _, _, rfl⟩ | h
  · simp at hi
  · simp at hi
  · exact h
open Classical in
noncomputable def listOf (h : List Blk) (s : S) : Option (List Int) := if hx : ∃ v, IsList h s v then some (Classical.choose hx) else none
theorem listOf_eq {h : List Blk} {s : S} {v : List Int} (H : IsList h s v) : listOf h s = some v := by
  have hx : ∃ v, IsList h s v := ⟨v, H⟩
  unfold listOf
  rw [dif_pos hx, IsList.uniq (Classical.choose_spec hx) H]
theorem listOf_some {h : List Blk} {s : S} {v : List Int} (e : listOf h s = some v) : IsList h s v := by
  unfold listOf at e
  split at e
  · rename_i hx
    have := Classical.choose_spec hx
    rw [Option.some.injEq] at e
    rw [e] at this
    exact this
  · cases e
theorem IsList.whole {h : List Blk} {j c room : Nat} {st : BK} {vs : List Int} (hj : h[j]? = some ⟨st, wc vs, room⟩) (hs : st ≠ .dead) : IsList h (.sl (.g j) 0 vs.length c) vs := by
  refine .inr (.inr ⟨j, 0, c, _, rfl, hj, hs, ?_, ?_⟩)
  · simp [wc_len]
  · rw [wc_sub, List.drop_zero, List.take_length]
theorem IsList.app {h X : List Blk} {s : S} {v : List Int} (H : IsList h s v) : IsList (h ++ X) s v := by
  rcases H with ⟨e0, rfl⟩ | ⟨j, o, c, B, rfl, e1, e2⟩ | ⟨j, o, c, B, rfl, e1, e2⟩
  · exact .inl ⟨e0, rfl⟩
  · exact .inr (.inl ⟨j, o, c, B, rfl, by rw [List.getElem?_append_left (List.getElem?_eq_some_iff.1 e1).1]; exact e1, e2⟩)
  · exact .inr (.inr ⟨j, o, c, B, rfl, by rw [List.getElem?_append_left (List.getElem?_eq_some_iff.1 e1).1]; exact e1, e2⟩)

def apartS (b : Nat) : S → Prop
  | .sl (.g j) _ _ _ => j ≠ b
  | _ => True
noncomputable def loadG : List V → List Blk → Res
  | [.s (.p (.g a) 0), .s (.i .i64 x), .s s], h => match memOf h a, listOf h s with
    | some (b, m), some vs => .ob (apartS b s ∧ ∀ v, v ∈ vs → u64 v) (.br (m.has x vs.length) (.ok (.s (.i .i64 0)) [] (setM h a b (m.lay x.toNat vs))) (.ok (.s (.i .i64 20)) [] h))
    | _, _ => .bad
  | _, _ => .bad
theorem loadG_spec {args : List V} {h : List Blk} {K : V → List Blk → Prop} (hS : (loadG args h).spec K) : ∃ a x s b m vs, args = [.s (.p (.g a) 0), .s (.i .i64 x), .s s] ∧ IsMem h a b m ∧ IsList h s vs ∧ apartS b s ∧ (∀ v, v ∈ vs → u64 v) ∧
    (m.has x vs.length = true → K (.s (.i .i64 0)) (setM h a b (m.lay x.toNat vs))) ∧ (m.has x vs.length = false → K (.s (.i .i64 20)) h) := by
  unfold loadG at hS
  split at hS
  · split at hS
    · rename_i e1 e2
      exact ⟨_, _, _, _, _, _, rfl, memOf_some e1, listOf_some e2, hS.1.1, hS.1.2, hS.2.1, hS.2.2⟩
    · exact hS.elim
  · exact hS.elim
theorem mload_snd : Snd Try.prog 11 (FSpec.of loadG) := snd_run TSp_snd mixed Try.func11 dc11 100 fun args h K hc hS => by
  obtain ⟨a, x, s, b, m, vs, rfl, H, HL, hap, hu, q1, q2⟩ := loadG_spec hS
  clear hS
  have hl := m.l
  have hlen := fun ls h' => HL.sl.len (ls := ls) (h := h')
  have hsh := fun ls => HL.shows ls
  cases hh : m.has x vs.length with
  | true =>
    have hS := q1 hh
    obtain ⟨i, n, rfl, e, hij⟩ := M.has_nat hh
    have e : vs.length = n := by omega
    simp only [Int.toNat_natCast] at hS
    have hcl : (wc m.w).length = m.w.length := wc_len _
    obtain ⟨o', ho, hoi⟩ : ∃ o' : Nat, (if m.w.length = i then 0 else i) = o' ∧ (i < m.w.length → o' = i) := ⟨_, rfl, fun hlt => if_neg (by omega)⟩
    have c2 : o' + vs.length ≤ m.w.length := by rw [← ho]; split <;> omega
    have hsub : sub (wc vs) 0 vs.length = wc vs := by rw [wc_sub, List.drop_zero, List.take_length]
    have hmin : min vs.length vs.length = vs.length := Nat.min_self _
    have hlay : D.put (wc m.w) o' (wc vs) = wc (m.lay i vs).w := by
      rcases Nat.eq_zero_or_pos vs.length with h0 | h0
      · have : vs = [] := List.eq_nil_of_length_eq_zero h0
        subst this; rfl
      · rw [hoi (by omega)]; exact M.lay_w vs m i hu
    have hset := setM_words H (M.lay_len vs m i) (M.lay_n vs m i)
    rw [← hset] at hS
    simp only [MW, M.lay_len] at hS
    have ht : (wc vs).all (R.takes (R.g b) h.length 0) = true := wc_takes _ _ _ _
    simp (config := {maxSteps := 9999999}) only [EV0, zy, zx, zw, zv, zu, zq, zp, zj, zk, leT, zg, rvC, zZ, zY, zX, zW, ↓zV, ↓zU, reduceCtorEq, zQ, yz, yZ, yy, yx, yw, yv, yu, yq, yY, yp, yj, yk, yX, yW, yV, yg, yU, yQ, df11, ↓hlen, ↓hsh, TSp, spanG, memF_eq H, spanM, setM_self H, hh, H.hb, MW, hcl, ho, c2, hsub, hmin, hlay, wc_known, wc_takes, wc_all, Int.toNat_natCast]
    exact hS
  | false =>
    have hS := q2 hh
    simp (config := {maxSteps := 9999999}) only [EV0, zy, zx, zw, zv, zu, zq, zp, zj, zk, leT, zg, rvC, zZ, zY, zX, zW, ↓zV, ↓zU, reduceCtorEq, zQ, yz, yZ, yy, yx, yw, yv, yu, yq, yY, yp, yj, yk, yX, yW, yV, yg, yU, yQ, df11, ↓hlen, TSp, spanG, memF_eq H, spanM, setM_self H, hh]
    exact hS
end Go.Proofs.Ytpmobbehdpgnbaa

/- Slices as arguments of a statement. -/
namespace Go.Proofs.Ytpmobbehdpgnbaa
open Go.D
set_option linter.all false
set_option maxRecDepth 100000

def Uw.c (n : Int) : List S := [.i .u64 n]
end Go.Proofs.Ytpmobbehdpgnbaa

/- Package word: what its functions answer. -/
namespace Go.Proofs.Ytpmobbehdpgnbaa
open Go.D
open Nat (reduceAdd reducePow reduceMul reduceSub reduceLeDiff reduceLT reduceEqDiff)
open Int (reduceNeg reduceLE reduceEq reduceNe reduceToNat)
open Go.D renaming istep → zy, pickR → zx, bin1R → zw, un1R → zv, eqS → zu, eq1 → zq, cmpS → zp, cmp1 → zj, isNil → zk, shows → zg, result → zZ, q_cond_t → zV, q_cond_f → zU
open List renaming set → zY, replicate → zX
open Option renaming map → zW
open Nat renaming reduceAdd → zQ, reducePow → yz, reduceMul → yy, reduceSub → yx, reduceLeDiff → yw, reduceLT → yv, reduceEqDiff → yu
open Int renaming reduceNeg → yq, reduceLE → yp, reduceEq → yj, reduceNe → yk, reduceToNat → yg, reducePow → yZ, reduceLT → yY, reduceAdd → yX, reduceSub → yW, reduceMul → yV, reduceBEq → yU, reduceBNe → yQ
set_option linter.all false
set_option maxRecDepth 100000
set_option maxHeartbeats 4000000

def fieldB (at_ n : Int) : Bool := decide (0 ≤ at_ ∧ at_ ≤ 63 ∧ 1 ≤ n ∧ n ≤ 64 - at_)
def maskV (at_ n : Int) : Int := (((2 ^ n.toNat - 1) * 2 ^ at_.toNat : Nat) : Int)
def getV (w at_ n : Int) : Int := ((w.toNat / 2 ^ at_.toNat % 2 ^ n.toNat : Nat) : Int)
def setB (at_ n v : Int) : Bool := fieldB at_ n && decide (v.toNat < 2 ^ n.toNat)
def setV (w at_ n v : Int) : Int := ((2 ^ (at_.toNat + n.toNat) * (w.toNat / 2 ^ (at_.toNat + n.toNat)) + (2 ^ at_.toNat * v.toNat + w.toNat % 2 ^ at_.toNat) : Nat) : Int)

theorem fieldB_nat {at_ n : Int} (h : fieldB at_ n = true) : ∃ k m : Nat, at_ = k ∧ n = m ∧ k ≤ 63 ∧ 1 ≤ m ∧ k + m ≤ 64 := by
  simp only [fieldB, decide_eq_true_eq] at h
  exact ⟨at_.toNat, n.toNat, by omega, by omega, by omega, by omega, by omega⟩

def maskG : List V → List Blk → Res
  | [.s (.i .i64 at_), .s (.i .i64 n)], h => .br (fieldB at_ n) (.ok (.tup [.s (.i .u64 (maskV at_ n)), .s (.b true)]) [] h) (.ok (.tup [.s (.i .u64 0), .s (.b false)]) [] h)
  | _, _ => .bad

theorem mask_snd : Snd Try.prog 110 (FSpec.of maskG) := snd_run (noT_snd _) mixed Try.func110 dc110 100 fun args h K _ hS => by
  unfold maskG at hS
  split at hS
  · rename_i at_ n
    simp only [spec_br, spec_ok] at hS
    cases hf : fieldB at_ n with
    | true =>
      have hS := hS.1 hf
      obtain ⟨k, m, rfl, rfl, h1, h2, h3⟩ := fieldB_nat hf
      have c1 : ¬ ((k : Int) < 0) := by omega
      have c2 : ¬ ((63 : Int) < k) := by omega
      have c3 : ¬ ((m : Int) < 1) := by omega
      have c4 : ¬ ((64 : Int) - k < m) := by omega
      have w1 : IntKind.i64.wrap (64 - (k : Int)) = 64 - k := wrap64 (by omega) (by omega)
      have w2 : IntKind.i64.wrap (64 - (m : Int)) = ((64 - m : Nat) : Int) := by rw [wrap64] <;> omega
      have m1 : min (64 - m) IntKind.u64.bits = 64 - m := by show min (64 - m) 64 = _; omega
      have m2 : min k IntKind.u64.bits = k := by show min k 64 = _; omega
      have hm := u64_mask (k := k) (n := m) h3
      have c5 : (0 : Int) ≤ ((64 - m : Nat) : Int) := by omega
      have c6 : (0 : Int) ≤ (k : Int) := by omega
      simp (config := {maxSteps := 9999999}) only [EV0, zy, zx, zw, zv, zu, zq, zp, zj, zk, leT, zg, rvC, zZ, zY, zX, zW, ↓zV, ↓zU, reduceCtorEq, zQ, yz, yZ, yy, yx, yw, yv, yu, yq, yY, yp, yj, yk, yX, yW, yV, yg, yU, yQ, df110, c1, c2, c3, c4, c5, c6, w1, w2, m1, m2, hm]
      exact hS
    | false =>
      have hS := hS.2 hf
      have hn : ¬ (0 ≤ at_ ∧ at_ ≤ 63 ∧ 1 ≤ n ∧ n ≤ 64 - at_) := by simpa [fieldB] using hf
      by_cases c1 : at_ < 0
      · simp (config := {maxSteps := 9999999}) only [EV0, zy, zx, zw, zv, zu, zq, zp, zj, zk, leT, zg, rvC, zZ, zY, zX, zW, ↓zV, ↓zU, reduceCtorEq, zQ, yz, yZ, yy, yx, yw, yv, yu, yq, yY, yp, yj, yk, yX, yW, yV, yg, yU, yQ, df110, c1]
        exact hS
      by_cases c2 : 63 < at_
      · simp (config := {maxSteps := 9999999}) only [EV0, zy, zx, zw, zv, zu, zq, zp, zj, zk, leT, zg, rvC, zZ, zY, zX, zW, ↓zV, ↓zU, reduceCtorEq, zQ, yz, yZ, yy, yx, yw, yv, yu, yq, yY, yp, yj, yk, yX, yW, yV, yg, yU, yQ, df110, c1, c2]
        exact hS
      by_cases c3 : n < 1
      · simp (config := {maxSteps := 9999999}) only [EV0, zy, zx, zw, zv, zu, zq, zp, zj, zk, leT, zg, rvC, zZ, zY, zX, zW, ↓zV, ↓zU, reduceCtorEq, zQ, yz, yZ, yy, yx, yw, yv, yu, yq, yY, yp, yj, yk, yX, yW, yV, yg, yU, yQ, df110, c1, c2, c3]
        exact hS
      have w1 : IntKind.i64.wrap (64 - at_) = 64 - at_ := wrap64 (by omega) (by omega)
      have c4 : 64 - at_ < n := by omega
      simp (config := {maxSteps := 9999999}) only [EV0, zy, zx, zw, zv, zu, zq, zp, zj, zk, leT, zg, rvC, zZ, zY, zX, zW, ↓zV, ↓zU, reduceCtorEq, zQ, yz, yZ, yy, yx, yw, yv, yu, yq, yY, yp, yj, yk, yX, yW, yV, yg, yU, yQ, df110, c1, c2, c3, w1, c4]
      exact hS
  · exact hS.elim

def W1 : Tab := addT 110 maskG noT
theorem W1_snd : W1.Snd Try.prog := addT_snd ok110 mask_snd (noT_snd _)

def getG : List V → List Blk → Res
  | [.s (.i .u64 w), .s (.i .i64 at_), .s (.i .i64 n)], h => .ob (u64 w) (.br (fieldB at_ n) (.ok (.tup [.s (.i .u64 (getV w at_ n)), .s (.i .i64 0)]) [] h) (.ok (.tup [.s (.i .u64 0), .s (.i .i64 10)]) [] h))
  | _, _ => .bad

theorem get_snd : Snd Try.prog 90 (FSpec.of getG) := snd_run W1_snd mixed Try.func90 dc90 100 fun args h K _ hS => by
  unfold getG at hS
  split at hS
  · rename_i w at_ n
    obtain ⟨hw, hS⟩ := hS
    simp only [spec_br, spec_ok] at hS
    obtain ⟨w, rfl, hw'⟩ := hw.nat
    cases hf : fieldB at_ n with
    | true =>
      have hS := hS.1 hf
      obtain ⟨k, m, rfl, rfl, h1, h2, h3⟩ := fieldB_nat hf
      have m2 : min k IntKind.u64.bits = k := by show min k 64 = _; omega
      have hg := u64_get hw' h3
      have c6 : (0 : Int) ≤ (k : Int) := by omega
      simp (config := {maxSteps := 9999999}) only [EV0, zy, zx, zw, zv, zu, zq, zp, zj, zk, leT, zg, rvC, zZ, zY, zX, zW, ↓zV, ↓zU, reduceCtorEq, zQ, yz, yZ, yy, yx, yw, yv, yu, yq, yY, yp, yj, yk, yX, yW, yV, yg, yU, yQ, df90, W1, maskG, hf, maskV, hg, m2, c6]
      exact hS
    | false =>
      have hS := hS.2 hf
      simp (config := {maxSteps := 9999999}) only [EV0, zy, zx, zw, zv, zu, zq, zp, zj, zk, leT, zg, rvC, zZ, zY, zX, zW, ↓zV, ↓zU, reduceCtorEq, zQ, yz, yZ, yy, yx, yw, yv, yu, yq, yY, yp, yj, yk, yX, yW, yV, yg, yU, yQ, df90, W1, maskG, hf]
      exact hS
  · exact hS.elim

def setG : List V → List Blk → Res
  | [.s (.i .u64 w), .s (.i .i64 at_), .s (.i .i64 n), .s (.i .u64 v)], h => .ob (u64 w ∧ u64 v) (.br (setB at_ n v) (.ok (.tup [.s (.i .u64 (setV w at_ n v)), .s (.i .i64 0)]) [] h) (.ok (.tup [.s (.i .u64 0), .s (.i .i64 10)]) [] h))
  | _, _ => .bad

theorem set_snd : Snd Try.prog 100 (FSpec.of setG) := snd_run W1_snd mixed Try.func100 dc100 100 fun args h K _ hS => by
  unfold setG at hS
  split at hS
  · rename_i w at_ n v
    obtain ⟨⟨hw, hv⟩, hS⟩ := hS
    simp only [spec_br, spec_ok] at hS
    obtain ⟨w, rfl, hw'⟩ := hw.nat
    obtain ⟨v, rfl, hv'⟩ := hv.nat
    cases hf : fieldB at_ n with
    | true =>
      obtain ⟨k, m, rfl, rfl, h1, h2, h3⟩ := fieldB_nat hf
      have m2 : min k IntKind.u64.bits = k := by show min k 64 = _; omega
      have c6 : (0 : Int) ≤ (k : Int) := by omega
      have hfit := u64_fits hv' h3
      by_cases hlt : v < 2 ^ m
      · have hb : setB (k : Int) (m : Int) (v : Int) = true := by simp [setB, hf, hlt]
        have hS := hS.1 hb
        obtain ⟨f1, f2⟩ := hfit.2 hlt
        have hs := u64_set hw' hlt h3
        simp (config := {maxSteps := 9999999}) only [EV0, zy, zx, zw, zv, zu, zq, zp, zj, zk, leT, zg, rvC, zZ, zY, zX, zW, ↓zV, ↓zU, reduceCtorEq, zQ, yz, yZ, yy, yx, yw, yv, yu, yq, yY, yp, yj, yk, yX, yW, yV, yg, yU, yQ, df100, W1, maskG, hf, maskV, m2, c6, f1, f2, hs]
        exact hS
      · have hb : setB (k : Int) (m : Int) (v : Int) = false := by simp [setB, hlt]
        have hS := hS.2 hb
        by_cases f1 : IntKind.u64.wrap ((v : Int) * 2 ^ k) / 2 ^ k = (v : Int)
        · have f2 : ¬ bits .andNot .u64 (IntKind.u64.wrap ((v : Int) * 2 ^ k)) (((2 ^ m - 1) * 2 ^ k : Nat) : Int) = 0 := fun e => hlt (hfit.1 ⟨f1, e⟩)
          simp (config := {maxSteps := 9999999}) only [EV0, zy, zx, zw, zv, zu, zq, zp, zj, zk, leT, zg, rvC, zZ, zY, zX, zW, ↓zV, ↓zU, reduceCtorEq, zQ, yz, yZ, yy, yx, yw, yv, yu, yq, yY, yp, yj, yk, yX, yW, yV, yg, yU, yQ, df100, W1, maskG, hf, maskV, m2, c6, f1, f2]
          exact hS
        · simp (config := {maxSteps := 9999999}) only [EV0, zy, zx, zw, zv, zu, zq, zp, zj, zk, leT, zg, rvC, zZ, zY, zX, zW, ↓zV, ↓zU, reduceCtorEq, zQ, yz, yZ, yy, yx, yw, yv, yu, yq, yY, yp, yj, yk, yX, yW, yV, yg, yU, yQ, df100, W1, maskG, hf, maskV, m2, c6, f1]
          exact hS
    | false =>
      have hb : setB at_ n (v : Int) = false := by simp [setB, hf]
      have hS := hS.2 hb
      simp (config := {maxSteps := 9999999}) only [EV0, zy, zx, zw, zv, zu, zq, zp, zj, zk, leT, zg, rvC, zZ, zY, zX, zW, ↓zV, ↓zU, reduceCtorEq, zQ, yz, yZ, yy, yx, yw, yv, yu, yq, yY, yp, yj, yk, yX, yW, yV, yg, yU, yQ, df100, W1, maskG, hf]
      exact hS
  · exact hS.elim

end Go.Proofs.Ytpmobbehdpgnbaa

