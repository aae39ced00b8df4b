/- Memories and lists among a law's own blocks: the heap is what was there, and blocks behind it, one by one. -/
import Derived.Test.YtpmobbehdpgnbaaGreatZ18
import Derived.Test.YtpmobbehdpgnbaaGreatZ10
/- Slots: what was put is got; the plain facts. -/
namespace Go.Proofs.YtpmobbehdpgnbaaGreat
open Go.D
set_option linter.all false
set_option maxRecDepth 100000
set_option maxHeartbeats 4000000

theorem M.putS_len (m : M) (a : Int) (s : Slot) : (m.putS a s).w.length = m.w.length := by simp only [M.putS, M.tick_len, M.put_len]
theorem M.putS_there (m : M) (a b : Int) (s : Slot) : thereB (m.putS a s) b = thereB m b := by simp only [thereB, M.putS_len]
theorem uw_0 : uw 0 = 0 := rfl
theorem M.at_putS {m : M} {a : Int} {s : Slot} (ht : thereB m a = true) (hr : slotRB s = true) {j : Int} (hj : 0 ≤ j) :
    (m.putS a s).at j = if j = a then s.cap.w0 else if j = a + 1 then s.cap.num else if j = a + 2 then s.links else if j = a + 3 then 0 else m.at j := by
  have hb := there_iff.1 ht
  obtain ⟨u0, u1, _, _⟩ := enc_back (slotRB_iff hr).1
  have u2 := links_u hr
  simp only [M.putS, M.at_tick, M.at_put, M.put_len, uw_of u0, uw_of u1, uw_of u2, uw_0]
  by_cases h0 : j = a
  · subst h0
    rw [if_neg (by omega), if_neg (by omega), if_neg (by omega), if_pos (by omega), if_pos rfl]
  · rw [if_neg h0]
    by_cases h1 : j = a + 1
    · subst h1
      rw [if_neg (by omega), if_neg (by omega), if_pos (by omega), if_pos rfl]
    · rw [if_neg h1]
      by_cases h2 : j = a + 2
      · subst h2
        rw [if_neg (by omega), if_pos (by omega), if_pos rfl]
      · rw [if_neg h2]
        by_cases h3 : j = a + 3
        · subst h3
          rw [if_pos (by omega), if_pos rfl]
        · rw [if_neg h3, if_neg (by omega), if_neg (by omega), if_neg (by omega), if_neg (by omega)]
theorem slot_back {s : Slot} (hr : slotRB s = true) : slotB s.cap.w0 s.cap.num s.links 0 = true ∧ slotC s.cap.w0 s.cap.num s.links = s := by
  obtain ⟨rc, h1, h2, h3⟩ := slotRB_iff hr
  obtain ⟨_, _, e1, e2⟩ := enc_back rc
  have e : slotC s.cap.w0 s.cap.num s.links = s := by
    obtain ⟨c, p, n, d⟩ := s
    simp only at h1 h2 h3 e2
    simp only [slotC, e2, Slot.links, Slot.mk.injEq, true_and]
    omega
  refine ⟨?_, e⟩
  have hl : s.links / 281474976710656 = 0 := by simp only [Slot.links]; omega
  simp only [slotB, e1, e, hr, hl, decide_true, Bool.true_and, beq_self_eq_true, Bool.and_true]
theorem M.putS_slot {m : M} {a : Int} {s : Slot} (ht : thereB m a = true) (hr : slotRB s = true) : (m.putS a s).slotB a = true ∧ (m.putS a s).slotC a = s := by
  have hb := there_iff.1 ht
  simp only [M.slotB, M.slotC]
  rw [M.at_putS ht hr (by omega), M.at_putS ht hr (by omega), M.at_putS ht hr (by omega), M.at_putS ht hr (by omega)]
  simp only [if_true]
  rw [if_neg (by omega), if_neg (by omega), if_neg (by omega), if_neg (by omega), if_neg (by omega), if_neg (by omega)]
  exact slot_back hr
theorem M.putS_other {m : M} {a b : Int} {s : Slot} (ht : thereB m a = true) (hr : slotRB s = true) (hb : thereB m b = true) (hn : a ≠ b) : (m.putS a s).slotB b = m.slotB b ∧ (m.putS a s).slotC b = m.slotC b := by
  have h1 := there_iff.1 ht
  have h2 := there_iff.1 hb
  rw [Int.tmod_eq_emod_of_nonneg (by omega)] at h1 h2
  have e : ∀ k : Int, 0 ≤ k → k ≤ 3 → (m.putS a s).at (b + k) = m.at (b + k) := fun k h3 h4 => by
    rw [M.at_putS ht hr (by omega), if_neg (by omega), if_neg (by omega), if_neg (by omega), if_neg (by omega)]
  have e0 := e 0 (by omega) (by omega)
  rw [Int.add_zero] at e0
  simp only [M.slotB, M.slotC, e0, e 1 (by omega) (by omega), e 2 (by omega) (by omega), e 3 (by omega) (by omega), and_self]
end Go.Proofs.YtpmobbehdpgnbaaGreat

/- Package heap: the kernel's words. -/
namespace Go.Proofs.YtpmobbehdpgnbaaGreat
open Go.D
open Nat (reduceAdd reducePow reduceMul reduceSub reduceLeDiff reduceLT reduceEqDiff)
open Int (reduceNeg reduceLE reduceEq reduceNe reduceToNat)
set_option linter.all false
set_option maxRecDepth 100000
set_option maxHeartbeats 4000000

noncomputable def keptF (f : Int → Int → Int → Nat → M → (M → List Blk) → List V → Res) : List V → List Blk → Res
  | .agg [.i .i64 x, .i .i64 y, .i .i64 z] :: rest, h => memF (f x y z) rest h
  | _, _ => .bad
theorem keptF_spec {f : Int → Int → Int → Nat → M → (M → List Blk) → List V → Res} {args : List V} {h : List Blk} {K : V → List Blk → Prop} (hS : (keptF f args h).spec K) :
    ∃ x y z a b m rest, args = .agg [.i .i64 x, .i .i64 y, .i .i64 z] :: .s (.p (.g a) 0) :: rest ∧ IsMem h a b m ∧ (f x y z b m (setM h a b) rest).spec K := by
  unfold keptF at hS
  split at hS
  · obtain ⟨a, b, m, rest, rfl, H, hS⟩ := memF_spec hS
    exact ⟨_, _, _, a, b, m, rest, rfl, H, hS⟩
  · exact hS.elim

def keptB (words least : Int) (m : M) (n : Int) : Bool := decide (least ≤ n) && (n.tmod words == 0 && decide (n ≤ IntKind.i64.wrap (m.w.length - words)))
def mayM (at_ words least : Int) (b : Nat) (m : M) (st : M → List Blk) : List V → Res
  | [.s (.i .i64 n)] => .ob (words ≠ 0) (.ok (.s (.b (keptB words least m n))) [] (st m))
  | _ => .bad
noncomputable def mayG := keptF mayM
noncomputable def TMw : Tab := addT 117 wordsG noT
theorem TMw_snd : TMw.Snd Tryz.prog := addT_snd ok117 mwords_snd (noT_snd _)
theorem may_snd : Snd Tryz.prog 158 (FSpec.of mayG) := snd_run TMw_snd mixed Tryz.func158 dc158 100 fun args h K hc hS => by
  obtain ⟨x, y, z, a, b, m, rest, rfl, H, hS1⟩ := keptF_spec hS
  clear hS
  unfold mayM at hS1
  split at hS1
  · rename_i n
    simp only [spec_ok, spec_ob, setM_self H, keptB] at hS1
    obtain ⟨hy, hS⟩ := hS1
    have hy : ¬ y = 0 := hy
    by_cases c1 : z ≤ n
    · cases c2 : n.tmod y == 0
      · simp (config := {maxSteps := 9999999}) only [EV0, istep, pickR, bin1R, un1R, eqS, eq1, cmpS, cmp1, isNil, leT, shows, rvC, result, List.set, List.replicate, Option.map, ↓q_cond_t, ↓q_cond_f, reduceCtorEq, reduceAdd, reducePow, Int.reducePow, reduceMul, reduceSub, reduceLeDiff, reduceLT, reduceEqDiff, reduceNeg, Int.reduceLT, reduceLE, reduceEq, reduceNe, Int.reduceAdd, Int.reduceSub, Int.reduceMul, reduceToNat, Int.reduceBEq, Int.reduceBNe, df158, TMw, wordsG, memF_eq H, wordsM, setM_self H, hy, c1, c2, sub, EVt]
        simpa [c1, c2] using hS
      · have c3 : n.tmod y = 0 := by simpa using c2
        simp (config := {maxSteps := 9999999}) only [EV0, istep, pickR, bin1R, un1R, eqS, eq1, cmpS, cmp1, isNil, leT, shows, rvC, result, List.set, List.replicate, Option.map, ↓q_cond_t, ↓q_cond_f, reduceCtorEq, reduceAdd, reducePow, Int.reducePow, reduceMul, reduceSub, reduceLeDiff, reduceLT, reduceEqDiff, reduceNeg, Int.reduceLT, reduceLE, reduceEq, reduceNe, Int.reduceAdd, Int.reduceSub, Int.reduceMul, reduceToNat, Int.reduceBEq, Int.reduceBNe, df158, TMw, wordsG, memF_eq H, wordsM, setM_self H, hy, c1, c2, c3, sub, EVt]
        simpa [c1, c3] using hS
    · simp (config := {maxSteps := 9999999}) only [EV0, istep, pickR, bin1R, un1R, eqS, eq1, cmpS, cmp1, isNil, leT, shows, rvC, result, List.set, List.replicate, Option.map, ↓q_cond_t, ↓q_cond_f, reduceCtorEq, reduceAdd, reducePow, Int.reducePow, reduceMul, reduceSub, reduceLeDiff, reduceLT, reduceEqDiff, reduceNeg, Int.reduceLT, reduceLE, reduceEq, reduceNe, Int.reduceAdd, Int.reduceSub, Int.reduceMul, reduceToNat, Int.reduceBEq, Int.reduceBNe, df158, TMw, wordsG, memF_eq H, wordsM, setM_self H, hy, c1, sub, EVt]
      simpa [c1] using hS
  · exact hS1.elim

def setM_ (at_ words least : Int) (b : Nat) (m : M) (st : M → List Blk) : List V → Res
  | [.s (.i .i64 n)] => .ob (words ≠ 0) (.br (n == 0 || keptB words least m n)
      (.br (m.has at_ 1) (.ok (.s (.i .i64 0)) [] (st ((m.put at_.toNat (IntKind.u64.wrap n)).tick 1))) (.ok (.s (.i .i64 20)) [] (st m)))
      (.ok (.s (.i .i64 20)) [] (st m)))
  | _ => .bad
noncomputable def setG_ := keptF setM_
noncomputable def TKs : Tab := addT 158 mayG (addT 130 writeG (addT 58 readG noT))
theorem TKs_snd : TKs.Snd Tryz.prog := addT_snd ok158 may_snd (addT_snd ok130 mwrite_snd (addT_snd ok58 mread_snd (noT_snd _)))
theorem wrapu_u (n : Int) : u64 (IntKind.u64.wrap n) := by rw [IntKind.wrap_u64]; simp only [u64]; omega
theorem kset_snd : Snd Tryz.prog 139 (FSpec.of setG_) := snd_run TKs_snd mixed Tryz.func139 dc139 100 fun args h K hc hS => by
  obtain ⟨x, y, z, a, b, m, rest, rfl, H, hS1⟩ := keptF_spec hS
  clear hS
  unfold setM_ at hS1
  split at hS1
  · rename_i n
    simp only [spec_ok, spec_ob, spec_br, setM_self H] at hS1
    obtain ⟨hy, hS⟩ := hS1
    have hy : ¬ y = 0 := hy
    have hu := wrapu_u n
    by_cases c1 : n = 0
    · cases hh : m.has x 1
      · have hS := (hS.1 (by simp [c1])).2 hh
        simp (config := {maxSteps := 9999999}) only [EV0, istep, pickR, bin1R, un1R, eqS, eq1, cmpS, cmp1, isNil, leT, shows, rvC, result, List.set, List.replicate, Option.map, ↓q_cond_t, ↓q_cond_f, reduceCtorEq, reduceAdd, reducePow, Int.reducePow, reduceMul, reduceSub, reduceLeDiff, reduceLT, reduceEqDiff, reduceNeg, Int.reduceLT, reduceLE, reduceEq, reduceNe, Int.reduceAdd, Int.reduceSub, Int.reduceMul, reduceToNat, Int.reduceBEq, Int.reduceBNe, df139, TKs, mayG, keptF, writeG, memF_eq H, writeM, mayM, setM_self H, hy, c1, hh, hu, sub, EVt, wrapu_u]
        exact hS
      · have hS := (hS.1 (by simp [c1])).1 hh
        simp (config := {maxSteps := 9999999}) only [EV0, istep, pickR, bin1R, un1R, eqS, eq1, cmpS, cmp1, isNil, leT, shows, rvC, result, List.set, List.replicate, Option.map, ↓q_cond_t, ↓q_cond_f, reduceCtorEq, reduceAdd, reducePow, Int.reducePow, reduceMul, reduceSub, reduceLeDiff, reduceLT, reduceEqDiff, reduceNeg, Int.reduceLT, reduceLE, reduceEq, reduceNe, Int.reduceAdd, Int.reduceSub, Int.reduceMul, reduceToNat, Int.reduceBEq, Int.reduceBNe, df139, TKs, mayG, keptF, writeG, memF_eq H, writeM, mayM, setM_self H, hy, c1, hh, hu, sub, EVt, wrapu_u]
        simpa [c1] using hS
    · cases c2 : keptB y z m n
      · have hS := hS.2 (by simp [c1, c2])
        simp (config := {maxSteps := 9999999}) only [EV0, istep, pickR, bin1R, un1R, eqS, eq1, cmpS, cmp1, isNil, leT, shows, rvC, result, List.set, List.replicate, Option.map, ↓q_cond_t, ↓q_cond_f, reduceCtorEq, reduceAdd, reducePow, Int.reducePow, reduceMul, reduceSub, reduceLeDiff, reduceLT, reduceEqDiff, reduceNeg, Int.reduceLT, reduceLE, reduceEq, reduceNe, Int.reduceAdd, Int.reduceSub, Int.reduceMul, reduceToNat, Int.reduceBEq, Int.reduceBNe, df139, TKs, mayG, keptF, writeG, memF_eq H, writeM, mayM, setM_self H, hy, c1, c2, hu, sub, EVt]
        exact hS
      · cases hh : m.has x 1
        · have hS := (hS.1 (by simp [c2])).2 hh
          simp (config := {maxSteps := 9999999}) only [EV0, istep, pickR, bin1R, un1R, eqS, eq1, cmpS, cmp1, isNil, leT, shows, rvC, result, List.set, List.replicate, Option.map, ↓q_cond_t, ↓q_cond_f, reduceCtorEq, reduceAdd, reducePow, Int.reducePow, reduceMul, reduceSub, reduceLeDiff, reduceLT, reduceEqDiff, reduceNeg, Int.reduceLT, reduceLE, reduceEq, reduceNe, Int.reduceAdd, Int.reduceSub, Int.reduceMul, reduceToNat, Int.reduceBEq, Int.reduceBNe, df139, TKs, mayG, keptF, writeG, memF_eq H, writeM, mayM, setM_self H, hy, c1, c2, hh, hu, sub, EVt]
          exact hS
        · have hS := (hS.1 (by simp [c2])).1 hh
          simp (config := {maxSteps := 9999999}) only [EV0, istep, pickR, bin1R, un1R, eqS, eq1, cmpS, cmp1, isNil, leT, shows, rvC, result, List.set, List.replicate, Option.map, ↓q_cond_t, ↓q_cond_f, reduceCtorEq, reduceAdd, reducePow, Int.reducePow, reduceMul, reduceSub, reduceLeDiff, reduceLT, reduceEqDiff, reduceNeg, Int.reduceLT, reduceLE, reduceEq, reduceNe, Int.reduceAdd, Int.reduceSub, Int.reduceMul, reduceToNat, Int.reduceBEq, Int.reduceBNe, df139, TKs, mayG, keptF, writeG, memF_eq H, writeM, mayM, setM_self H, hy, c1, c2, hh, hu, sub, EVt]
          exact hS
  · exact hS1.elim

def keptV (words least : Int) (m : M) (w : Int) : Int := if w ≤ 65535 ∧ keptB words least m (IntKind.i64.wrap w) = true then IntKind.i64.wrap w else 0
def getM_ (at_ words least : Int) (b : Nat) (m : M) (st : M → List Blk) : List V → Res
  | [] => .ob (words ≠ 0) (.br (m.has at_ 1) (.ok (.s (.i .i64 (keptV words least m (m.at at_)))) [] (st (m.tick 1))) (.ok (.s (.i .i64 (keptV words least m 0))) [] (st m)))
  | _ => .bad
noncomputable def getG_ := keptF getM_
theorem keptB_tick (y z : Int) (m : M) (k n : Int) : keptB y z (m.tick k) n = keptB y z m n := rfl
theorem kget_snd : Snd Tryz.prog 136 (FSpec.of getG_) := snd_run TKs_snd mixed Tryz.func136 dc136 100 fun args h K hc hS => by
  obtain ⟨x, y, z, a, b, m, rest, rfl, H, hS1⟩ := keptF_spec hS
  clear hS
  unfold getM_ at hS1
  split at hS1
  · simp only [spec_ok, spec_ob, spec_br, setM_self H] at hS1
    obtain ⟨hy, hS⟩ := hS1
    have hy : ¬ y = 0 := hy
    cases hh : m.has x 1
    · have hS := hS.2 hh
      have w0 : IntKind.i64.wrap 0 = 0 := by decide
      cases c2 : keptB y z m 0
      · simp only [keptV, w0, c2, Bool.false_eq_true, and_false, if_false] at hS
        simp (config := {maxSteps := 9999999}) only [EV0, istep, pickR, bin1R, un1R, eqS, eq1, cmpS, cmp1, isNil, leT, shows, rvC, result, List.set, List.replicate, Option.map, ↓q_cond_t, ↓q_cond_f, reduceCtorEq, reduceAdd, reducePow, Int.reducePow, reduceMul, reduceSub, reduceLeDiff, reduceLT, reduceEqDiff, reduceNeg, Int.reduceLT, reduceLE, reduceEq, reduceNe, Int.reduceAdd, Int.reduceSub, Int.reduceMul, reduceToNat, Int.reduceBEq, Int.reduceBNe, df136, TKs, mayG, keptF, readG, memF_eq H, readM, mayM, setM_self H, hy, c2, hh, w0, sub, EVt]
        exact hS
      · simp only [keptV, w0, c2, if_true, and_true] at hS
        rw [if_pos (by omega)] at hS
        simp (config := {maxSteps := 9999999}) only [EV0, istep, pickR, bin1R, un1R, eqS, eq1, cmpS, cmp1, isNil, leT, shows, rvC, result, List.set, List.replicate, Option.map, ↓q_cond_t, ↓q_cond_f, reduceCtorEq, reduceAdd, reducePow, Int.reducePow, reduceMul, reduceSub, reduceLeDiff, reduceLT, reduceEqDiff, reduceNeg, Int.reduceLT, reduceLE, reduceEq, reduceNe, Int.reduceAdd, Int.reduceSub, Int.reduceMul, reduceToNat, Int.reduceBEq, Int.reduceBNe, df136, TKs, mayG, keptF, readG, memF_eq H, readM, mayM, setM_self H, hy, c2, hh, w0, sub, EVt]
        exact hS
    · have hS := hS.1 hh
      by_cases c1 : m.at x ≤ 65535
      · have c3 : ¬ (65535 < m.at x) := by omega
        cases c2 : keptB y z m (IntKind.i64.wrap (m.at x))
        · simp only [keptV, c1, c2, Bool.false_eq_true, and_false, if_false] at hS
          simp (config := {maxSteps := 9999999}) only [EV0, istep, pickR, bin1R, un1R, eqS, eq1, cmpS, cmp1, isNil, leT, shows, rvC, result, List.set, List.replicate, Option.map, ↓q_cond_t, ↓q_cond_f, reduceCtorEq, reduceAdd, reducePow, Int.reducePow, reduceMul, reduceSub, reduceLeDiff, reduceLT, reduceEqDiff, reduceNeg, Int.reduceLT, reduceLE, reduceEq, reduceNe, Int.reduceAdd, Int.reduceSub, Int.reduceMul, reduceToNat, Int.reduceBEq, Int.reduceBNe, df136, TKs, mayG, keptF, readG, memF_eq H, memF_set H, readM, mayM, setM_self H, hy, c2, c3, hh, keptB_tick, sub, EVt]
          exact hS
        · simp only [keptV, c1, c2, and_self, if_true] at hS
          simp (config := {maxSteps := 9999999}) only [EV0, istep, pickR, bin1R, un1R, eqS, eq1, cmpS, cmp1, isNil, leT, shows, rvC, result, List.set, List.replicate, Option.map, ↓q_cond_t, ↓q_cond_f, reduceCtorEq, reduceAdd, reducePow, Int.reducePow, reduceMul, reduceSub, reduceLeDiff, reduceLT, reduceEqDiff, reduceNeg, Int.reduceLT, reduceLE, reduceEq, reduceNe, Int.reduceAdd, Int.reduceSub, Int.reduceMul, reduceToNat, Int.reduceBEq, Int.reduceBNe, df136, TKs, mayG, keptF, readG, memF_eq H, memF_set H, readM, mayM, setM_self H, hy, c2, c3, hh, keptB_tick, sub, EVt]
          exact hS
      · have c3 : 65535 < m.at x := by omega
        simp only [keptV, c1, false_and, if_false] at hS
        simp (config := {maxSteps := 9999999}) only [EV0, istep, pickR, bin1R, un1R, eqS, eq1, cmpS, cmp1, isNil, leT, shows, rvC, result, List.set, List.replicate, Option.map, ↓q_cond_t, ↓q_cond_f, reduceCtorEq, reduceAdd, reducePow, Int.reducePow, reduceMul, reduceSub, reduceLeDiff, reduceLT, reduceEqDiff, reduceNeg, Int.reduceLT, reduceLE, reduceEq, reduceNe, Int.reduceAdd, Int.reduceSub, Int.reduceMul, reduceToNat, Int.reduceBEq, Int.reduceBNe, df136, TKs, mayG, keptF, readG, memF_eq H, memF_set H, readM, mayM, setM_self H, hy, c3, hh, keptB_tick, sub, EVt]
        exact hS
  · exact hS1.elim


def M.gE (m : M) (a : Int) : Int := if thereB m a = true then (if m.slotB a = true then 0 else 110) else 20
def M.gV (m : M) (a : Int) : Slot := if thereB m a = true ∧ m.slotB a = true then m.slotC a else slotZ
def M.gX (m : M) (a : Int) : M := if thereB m a = true then m.tick 4 else m
def M.pE (m : M) (a : Int) (s : Slot) : Int := if thereB m a = true then (if slotRB s = true then 0 else 110) else 20
def M.pX (m : M) (a : Int) (s : Slot) : M := if thereB m a = true ∧ slotRB s = true then m.putS a s else m
def get2M (b : Nat) (m : M) (st : M → List Blk) : List V → Res
  | [.s (.i .i64 a)] => .ok (.tup [.agg (m.gV a).cl, .s (.i .i64 (m.gE a))]) [] (st (m.gX a))
  | _ => .bad
noncomputable def get2G := memF get2M
def put2M (b : Nat) (m : M) (st : M → List Blk) : List V → Res
  | [.s (.i .i64 a), x] => slotF (fun s => .ok (.s (.i .i64 (m.pE a s))) [] (st (m.pX a s))) [x]
  | _ => .bad
noncomputable def put2G := memF put2M
theorem get2_of {args : List V} {h : List Blk} {K : V → List Blk → Prop} (hS : (get2G args h).spec K) : (getSG args h).spec K := by
  obtain ⟨a, b, m, rest, rfl, H, hS⟩ := memF_spec hS
  unfold getSG
  rw [memF_eq H]
  unfold get2M at hS
  split at hS
  · rename_i x
    simp only [spec_ok, M.gE, M.gV, M.gX] at hS
    simp only [getSM, spec_br, spec_ok]
    refine ⟨fun ht => ⟨fun hb => ?_, fun hb => ?_⟩, fun ht => ?_⟩
    · simpa [ht, hb] using hS
    · simpa [ht, hb] using hS
    · simpa [ht] using hS
  · exact hS.elim
theorem put2_of {args : List V} {h : List Blk} {K : V → List Blk → Prop} (hS : (put2G args h).spec K) : (putSG args h).spec K := by
  obtain ⟨a, b, m, rest, rfl, H, hS⟩ := memF_spec hS
  unfold putSG
  rw [memF_eq H]
  unfold put2M at hS
  split at hS
  · rename_i x y
    obtain ⟨s, e, hS2⟩ := slotF_spec hS
    simp only [List.cons.injEq, and_true] at e
    subst e
    simp only [spec_ok, M.pE, M.pX] at hS2
    simp only [putSM]
    show (slotF _ [.agg s.cl]).spec K
    simp only [slotF, Slot.cl, slot_eta, spec_br, spec_ok]
    refine ⟨fun ht => ⟨fun hb => ?_, fun hb => ?_⟩, fun ht => ?_⟩
    · simpa [ht, hb] using hS2
    · simpa [ht, hb] using hS2
    · simpa [ht] using hS2
  · exact hS.elim
theorem get2_snd : Snd Tryz.prog 19 (FSpec.of get2G) := getS_snd.weaken fun _ _ _ _ hS => get2_of hS
theorem rget2_snd : Snd Tryz.prog 98 (FSpec.of get2G) := rgetS_snd.weaken fun _ _ _ _ hS => get2_of hS
theorem put2_snd : Snd Tryz.prog 80 (FSpec.of put2G) := putS_snd.weaken fun _ _ _ _ hS => put2_of hS
theorem rput2_snd : Snd Tryz.prog 81 (FSpec.of put2G) := rputS_snd.weaken fun _ _ _ _ hS => put2_of hS
def M.eB (m : M) (a : Int) : Bool := if m.gE a = 0 then (m.gV a).isZ else false
def empty2M (b : Nat) (m : M) (st : M → List Blk) : List V → Res
  | [.s (.i .i64 a)] => .ok (.tup [.s (.b (m.eB a)), .s (.i .i64 (m.gE a))]) [] (st (m.gX a))
  | _ => .bad
noncomputable def empty2G := memF empty2M
theorem empty2_of {args : List V} {h : List Blk} {K : V → List Blk → Prop} (hS : (empty2G args h).spec K) : (emptySG args h).spec K := by
  obtain ⟨a, b, m, rest, rfl, H, hS⟩ := memF_spec hS
  unfold emptySG
  rw [memF_eq H]
  unfold empty2M at hS
  split at hS
  · rename_i x
    simp only [spec_ok, M.eB, M.gE, M.gV, M.gX] at hS
    simp only [emptySM, spec_br, spec_ok]
    refine ⟨fun ht => ⟨fun hb => ?_, fun hb => ?_⟩, fun ht => ?_⟩
    · simpa [ht, hb] using hS
    · simpa [ht, hb] using hS
    · simpa [ht] using hS
  · exact hS.elim
theorem empty2_snd : Snd Tryz.prog 97 (FSpec.of empty2G) := emptyS_snd.weaken fun _ _ _ _ hS => empty2_of hS
theorem M.gV_u (m : M) (a : Int) : slotRB (m.gV a) = true := by
  unfold M.gV
  split
  · rename_i h
    have := h.2
    simp only [M.slotB, _root_.Go.Proofs.YtpmobbehdpgnbaaGreat.slotB, Bool.and_eq_true] at this
    exact this.2.2.2
  · decide
theorem M.gV_null {m : M} {a : Int} (h : (m.gV a).cap.ty = 0) : m.gV a = slotZ := by
  have := slot_null (m.gV_u a)
  rw [h] at this
  exact Slot.isZ_iff.1 this.symm
def M.fst (m : M) : Int := keptV 4 4 m (if m.has 2 1 = true then m.at 2 else 0)
def M.fstX (m : M) : M := if m.has 2 1 = true then m.tick 1 else m
def M.sfE (m : M) (n : Int) : Int := if (n == 0 || keptB 4 4 m n) = true ∧ m.has 2 1 = true then 0 else 20
def M.sfX (m : M) (n : Int) : M := if (n == 0 || keptB 4 4 m n) = true ∧ m.has 2 1 = true then (m.put 2 (IntKind.u64.wrap n)).tick 1 else m
def firstM (b : Nat) (m : M) (st : M → List Blk) : List V → Res
  | [] => .ok (.s (.i .i64 m.fst)) [] (st m.fstX)
  | _ => .bad
noncomputable def firstG := memF firstM
def setFirstM (b : Nat) (m : M) (st : M → List Blk) : List V → Res
  | [.s (.i .i64 n)] => .ok (.s (.i .i64 (m.sfE n))) [] (st (m.sfX n))
  | _ => .bad
noncomputable def setFirstG := memF setFirstM
def hfirstG : List V → List Blk → Res
  | [], h => .ok (.agg [.i .i64 2, .i .i64 4, .i .i64 4]) [] h
  | _, _ => .bad
theorem hfirst_snd : Snd Tryz.prog 135 (FSpec.of hfirstG) := snd_run (noT_snd _) mixed Tryz.func135 dc135 100 fun args h K hc hS => by
  unfold hfirstG at hS
  split at hS
  · simp only [spec_ok] at hS
    simp (config := {maxSteps := 9999999}) only [EV0, istep, pickR, bin1R, un1R, eqS, eq1, cmpS, cmp1, isNil, leT, shows, rvC, result, List.set, List.replicate, Option.map, ↓q_cond_t, ↓q_cond_f, reduceCtorEq, reduceAdd, reducePow, Int.reducePow, reduceMul, reduceSub, reduceLeDiff, reduceLT, reduceEqDiff, reduceNeg, Int.reduceLT, reduceLE, reduceEq, reduceNe, Int.reduceAdd, Int.reduceSub, Int.reduceMul, reduceToNat, Int.reduceBEq, Int.reduceBNe, df135, put, fillP, sub, EVt]
    exact hS
  · exact hS.elim
noncomputable def THf : Tab := addT 135 hfirstG (addT 139 setG_ (addT 136 getG_ (noT)))
theorem THf_snd : THf.Snd Tryz.prog := addT_snd ok135 hfirst_snd (addT_snd ok139 kset_snd (addT_snd ok136 kget_snd ((noT_snd _))))
theorem first_snd : Snd Tryz.prog 83 (FSpec.of firstG) := snd_run THf_snd mixed Tryz.func83 dc83 100 fun args h K hc hS => by
  obtain ⟨a, b, m, rest, rfl, H, hS1⟩ := memF_spec hS
  clear hS
  have hS := hS1
  clear hS1
  unfold firstM at hS
  split at hS
  · simp only [spec_ok, M.fst, M.fstX] at hS
    cases hh : m.has 2 1
    · simp only [hh, Bool.false_eq_true, if_false, setM_self H] at hS
      simp (config := {maxSteps := 9999999}) only [EV0, istep, pickR, bin1R, un1R, eqS, eq1, cmpS, cmp1, isNil, leT, shows, rvC, result, List.set, List.replicate, Option.map, ↓q_cond_t, ↓q_cond_f, reduceCtorEq, reduceAdd, reducePow, Int.reducePow, reduceMul, reduceSub, reduceLeDiff, reduceLT, reduceEqDiff, reduceNeg, Int.reduceLT, reduceLE, reduceEq, reduceNe, Int.reduceAdd, Int.reduceSub, Int.reduceMul, reduceToNat, Int.reduceBEq, Int.reduceBNe, df83, THf, hfirstG, getG_, keptF, memF_eq H, getM_, setM_self H, hh]
      exact hS
    · simp only [hh, if_true] at hS
      simp (config := {maxSteps := 9999999}) only [EV0, istep, pickR, bin1R, un1R, eqS, eq1, cmpS, cmp1, isNil, leT, shows, rvC, result, List.set, List.replicate, Option.map, ↓q_cond_t, ↓q_cond_f, reduceCtorEq, reduceAdd, reducePow, Int.reducePow, reduceMul, reduceSub, reduceLeDiff, reduceLT, reduceEqDiff, reduceNeg, Int.reduceLT, reduceLE, reduceEq, reduceNe, Int.reduceAdd, Int.reduceSub, Int.reduceMul, reduceToNat, Int.reduceBEq, Int.reduceBNe, df83, THf, hfirstG, getG_, keptF, memF_eq H, getM_, setM_self H, hh]
      exact hS
  · exact hS.elim
theorem setFirst_snd : Snd Tryz.prog 88 (FSpec.of setFirstG) := snd_run THf_snd mixed Tryz.func88 dc88 100 fun args h K hc hS => by
  obtain ⟨a, b, m, rest, rfl, H, hS1⟩ := memF_spec hS
  clear hS
  have hS := hS1
  clear hS1
  unfold setFirstM at hS
  split at hS
  · rename_i n
    simp only [spec_ok, M.sfE, M.sfX] at hS
    cases c1 : (n == 0 || keptB 4 4 m n)
    · simp only [c1, Bool.false_eq_true, false_and, if_false, setM_self H] at hS
      simp only [Bool.or_eq_false_iff, beq_eq_false_iff_ne, ne_eq] at c1
      simp (config := {maxSteps := 9999999}) only [EV0, istep, pickR, bin1R, un1R, eqS, eq1, cmpS, cmp1, isNil, leT, shows, rvC, result, List.set, List.replicate, Option.map, ↓q_cond_t, ↓q_cond_f, reduceCtorEq, reduceAdd, reducePow, Int.reducePow, reduceMul, reduceSub, reduceLeDiff, reduceLT, reduceEqDiff, reduceNeg, Int.reduceLT, reduceLE, reduceEq, reduceNe, Int.reduceAdd, Int.reduceSub, Int.reduceMul, reduceToNat, Int.reduceBEq, Int.reduceBNe, df88, THf, hfirstG, setG_, keptF, memF_eq H, setM_, setM_self H, c1]
      exact hS
    · cases hh : m.has 2 1
      · simp only [hh, Bool.false_eq_true, and_false, if_false, setM_self H] at hS
        simp only [Bool.or_eq_true, beq_iff_eq] at c1
        simp (config := {maxSteps := 9999999}) only [EV0, istep, pickR, bin1R, un1R, eqS, eq1, cmpS, cmp1, isNil, leT, shows, rvC, result, List.set, List.replicate, Option.map, ↓q_cond_t, ↓q_cond_f, reduceCtorEq, reduceAdd, reducePow, Int.reducePow, reduceMul, reduceSub, reduceLeDiff, reduceLT, reduceEqDiff, reduceNeg, Int.reduceLT, reduceLE, reduceEq, reduceNe, Int.reduceAdd, Int.reduceSub, Int.reduceMul, reduceToNat, Int.reduceBEq, Int.reduceBNe, df88, THf, hfirstG, setG_, keptF, memF_eq H, setM_, setM_self H, c1, hh]
        exact hS
      · simp only [c1, hh, and_self, if_true] at hS
        simp only [Bool.or_eq_true, beq_iff_eq] at c1
        simp (config := {maxSteps := 9999999}) only [EV0, istep, pickR, bin1R, un1R, eqS, eq1, cmpS, cmp1, isNil, leT, shows, rvC, result, List.set, List.replicate, Option.map, ↓q_cond_t, ↓q_cond_f, reduceCtorEq, reduceAdd, reducePow, Int.reducePow, reduceMul, reduceSub, reduceLeDiff, reduceLT, reduceEqDiff, reduceNeg, Int.reduceLT, reduceLE, reduceEq, reduceNe, Int.reduceAdd, Int.reduceSub, Int.reduceMul, reduceToNat, Int.reduceBEq, Int.reduceBNe, df88, THf, hfirstG, setG_, keptF, memF_eq H, setM_, setM_self H, c1, hh]
        exact hS
  · exact hS.elim
end Go.Proofs.YtpmobbehdpgnbaaGreat

/- The machine's memory: Copy; the document's Fill, Copy, Dump. -/
namespace Go.Proofs.YtpmobbehdpgnbaaGreat
open Go.D
set_option linter.all false
set_option maxRecDepth 100000
set_option maxHeartbeats 4000000

def M.part (m : M) (x k : Nat) : List Int := (m.w.drop x).take k
def M.copy (m : M) (x y k : Nat) : M := (m.lay y (m.part x k)).tick (2 * k)

/-! ### the specs without choices -/


theorem memF_new1A {f : Nat → M → (M → List Blk) → List V → Res} {h X : List Blk} {m k : M} {rest : List V} : memF f (.s (.p (.g h.length) 0) :: rest) (memH (memH h m) k ++ X) = f (h.length + 1) m (fun m => memH (memH h m) k ++ X) rest := by
  rw [memF_app0 (memH_is1 h m k), show setM (memH (memH h m) k) h.length (h.length + 1) = fun m => memH (memH h m) k from funext (memH_set1 h m k)]
theorem memF_new2A {f : Nat → M → (M → List Blk) → List V → Res} {h X : List Blk} {m k : M} {rest : List V} : memF f (.s (.p (.g (h.length + 2)) 0) :: rest) (memH (memH h m) k ++ X) = f (h.length + 3) k (fun k => memH (memH h m) k ++ X) rest := by
  rw [memF_app0 (memH_is2 h m k), show setM (memH (memH h m) k) (h.length + 2) (h.length + 3) = memH (memH h m) from funext (memH_set2 h m k)]

section
variable {h X : List Blk} {m : M} {k : Nat}
theorem listOf_at {H : List Blk} {j c room : Nat} {st : BK} {vs : List Int} {n : Nat} (hj : H[j]? = some ⟨st, wc vs, room⟩) (hs : st ≠ .dead) (hn : vs.length = n) : listOf H (.sl (.g j) 0 n c) = some vs := by
  subst hn; exact listOf_eq (IsList.whole hj hs)
end

section
variable {h X : List Blk} {m n : M} {k : Nat}
end

section
variable {h X : List Blk} {m n m' n' : M} {k : Nat} {B : Blk}
theorem setM_2 : setM (memH (memH h m) n ++ X) (h.length + 2) (h.length + 3) n' = memH (memH h m) n' ++ X := by rw [setM_app (memH_is2 h m n), memH_set2]
end

def M.loadE (m : M) (x : Int) (vs : List Int) : Int := if m.has x vs.length then 0 else 20
def M.loadX (m : M) (x : Int) (vs : List Int) : M := if m.has x vs.length then m.lay x.toNat vs else m
noncomputable def load2G : List V → List Blk → Res
  | [.s (.p (.g a) 0), .s (.i .i64 x), .s s], h => match memOf h a, listOf h s with
    | some (b, m), some vs => .ob (apartS b s ∧ ∀ v, v ∈ vs → u64 v) (.ok (.s (.i .i64 (m.loadE x vs))) [] (setM h a b (m.loadX x vs)))
    | _, _ => .bad
  | _, _ => .bad

theorem load2_snd : Snd Tryz.prog 49 (FSpec.of load2G) := mload_snd.weaken fun args h K hc hS => by
  have hS : (load2G args h).spec K := hS
  unfold load2G at hS
  split at hS
  · rename_i a x s
    split at hS
    · rename_i b m vs e1 e2
      obtain ⟨hp, hS⟩ := hS
      simp only [spec_ok, M.loadE, M.loadX] at hS
      show Res.spec K (loadG _ h)
      simp only [loadG, e1, e2, spec_ob, spec_br, spec_ok]
      refine ⟨hp, fun e => ?_, fun e => ?_⟩
      · simpa only [e, if_true] using hS
      · have := setM_self (memOf_some e1)
        simpa only [e, Bool.false_eq_true, if_false, this] using hS
    · exact hS.elim
  · exact hS.elim

section
variable {h X : List Blk} {A B : Blk} {m : M}
end

theorem MB_inj {b b' : Nat} {m m' : M} (e : MB b m = MB b' m') : m.n = m'.n := by
  simp only [MB, Blk.mk.injEq, List.cons.injEq, S.i.injEq, true_and, and_true] at e
  exact e.2
theorem MW_inj {m m' : M} (e : MW m = MW m') : m.w = m'.w := by
  simp only [MW, Blk.mk.injEq, true_and] at e
  exact wc_inj e.1

def unwc : List S → Option (List Int)
  | [] => some []
  | .i .u64 x :: l => match unwc l with
    | some v => some (x :: v)
    | none => none
  | _ => none
theorem unwc_wc : ∀ v : List Int, unwc (wc v) = some v
  | [] => rfl
  | x :: v => by simp only [wc_cons, unwc, unwc_wc v]
theorem unwc_nil : unwc [] = some [] := by rfl
theorem unwc_cons {x : Int} {l : List S} : unwc (.i .u64 x :: l) = match unwc l with | some v => some (x :: v) | none => none := by rfl
theorem wc_unwc : ∀ {l : List S} {v : List Int}, unwc l = some v → l = wc v
  | [], v, e => by simp only [unwc, Option.some.injEq] at e; subst e; rfl
  | .i k x :: l, v, e => by
    cases k <;> simp only [unwc, reduceCtorEq] at e
    split at e
    · rename_i v' e'
      rw [Option.some.injEq] at e
      subst e
      rw [wc_unwc e', wc_cons]
    · cases e
  | .u :: _, _, e => by simp [unwc] at e
  | .b _ :: _, _, e => by simp [unwc] at e
  | .p _ _ :: _, _, e => by simp [unwc] at e
  | .np :: _, _, e => by simp [unwc] at e
  | .sl _ _ _ _ :: _, _, e => by simp [unwc] at e
  | .ns :: _, _, e => by simp [unwc] at e
  | .es _ _ :: _, _, e => by simp [unwc] at e
  | .fn _ _ :: _, _, e => by simp [unwc] at e
  | .nf :: _, _, e => by simp [unwc] at e
theorem IsList.of {h : List Blk} {s : S} {vs : List Int} (H : IsList h s vs) (X : List Blk) : listOf (h ++ X) s = some vs := listOf_eq H.app

end Go.Proofs.YtpmobbehdpgnbaaGreat

