/- Package cdt: turn, join. -/
import Derived.Test.YtpmobbehdpgnbaaGreatZ10
import Derived.Test.YtpmobbehdpgnbaaGreatZ19
/- Package cdt: full, listed, turn, join, whatever words lie there. -/
namespace Go.Proofs.YtpmobbehdpgnbaaGreat
open Go.D
open Nat (reduceAdd reducePow reduceMul reduceSub reduceLeDiff reduceLT reduceEqDiff)
open Int (reduceNeg reduceLE reduceEq reduceNe reduceToNat)
set_option linter.all false
set_option maxRecDepth 100000
set_option maxHeartbeats 4000000

def M.fE (m : M) (a : Int) : Int := if m.gE a = 0 ∧ (m.gV a).cap.ty = 0 then 121 else m.gE a
def fullM (b : Nat) (m : M) (st : M → List Blk) : List V → Res
  | [.s (.i .i64 a)] => .ok (.tup [.agg (m.gV a).cl, .s (.i .i64 (m.fE a))]) [] (st (m.gX a))
  | _ => .bad
noncomputable def fullG := memF fullM
noncomputable def TGt2 : Tab := addT 19 get2G (addT 98 get2G (noT))
theorem TGt2_snd : TGt2.Snd Tryz.prog := addT_snd ok19 get2_snd (addT_snd ok98 rget2_snd ((noT_snd _)))
theorem full_snd : Snd Tryz.prog 71 (FSpec.of fullG) := snd_run TGt2_snd mixed Tryz.func71 dc71 200 fun args h K hc hS => by
  obtain ⟨a, b, m, rest, rfl, H, hS1⟩ := memF_spec hS
  clear hS
  have hS := hS1
  clear hS1
  unfold fullM at hS
  split at hS
  · rename_i x
    simp only [spec_ok, M.fE] at hS
    by_cases c1 : m.gE x = 0
    · by_cases c2 : (m.gV x).cap.ty = 0
      · rw [M.gV_null c2] at hS
        simp only [M.gV_null c2, slotZ, capZ, Slot.cl, c1, and_self, if_true] at hS
        have c3 := M.gV_null c2
        simp (config := {maxSteps := 9999999}) only [EV0, istep, pickR, bin1R, un1R, eqS, eq1, cmpS, cmp1, isNil, leT, shows, rvC, result, List.set, List.replicate, Option.map, ↓q_cond_t, ↓q_cond_f, reduceCtorEq, reduceAdd, reducePow, Int.reducePow, reduceMul, reduceSub, reduceLeDiff, reduceLT, reduceEqDiff, reduceNeg, Int.reduceLT, reduceLE, reduceEq, reduceNe, Int.reduceAdd, Int.reduceSub, Int.reduceMul, reduceToNat, Int.reduceBEq, Int.reduceBNe, df71, TGt2, get2G, memF_eq H, get2M, Slot.cl, c1, c2, c3, slotZ, capZ, put, fillP, sub, EVt]
        exact hS
      · simp only [Slot.cl, c1, c2, and_false, if_false] at hS
        simp (config := {maxSteps := 9999999}) only [EV0, istep, pickR, bin1R, un1R, eqS, eq1, cmpS, cmp1, isNil, leT, shows, rvC, result, List.set, List.replicate, Option.map, ↓q_cond_t, ↓q_cond_f, reduceCtorEq, reduceAdd, reducePow, Int.reducePow, reduceMul, reduceSub, reduceLeDiff, reduceLT, reduceEqDiff, reduceNeg, Int.reduceLT, reduceLE, reduceEq, reduceNe, Int.reduceAdd, Int.reduceSub, Int.reduceMul, reduceToNat, Int.reduceBEq, Int.reduceBNe, df71, TGt2, get2G, memF_eq H, get2M, Slot.cl, c1, c2, put, fillP, sub, EVt]
        exact hS
    · simp only [Slot.cl, c1, false_and, if_false] at hS
      simp (config := {maxSteps := 9999999}) only [EV0, istep, pickR, bin1R, un1R, eqS, eq1, cmpS, cmp1, isNil, leT, shows, rvC, result, List.set, List.replicate, Option.map, ↓q_cond_t, ↓q_cond_f, reduceCtorEq, reduceAdd, reducePow, Int.reducePow, reduceMul, reduceSub, reduceLeDiff, reduceLT, reduceEqDiff, reduceNeg, Int.reduceLT, reduceLE, reduceEq, reduceNe, Int.reduceAdd, Int.reduceSub, Int.reduceMul, reduceToNat, Int.reduceBEq, Int.reduceBNe, df71, TGt2, get2G, memF_eq H, get2M, Slot.cl, c1, put, fillP, sub, EVt]
      exact hS
  · exact hS.elim
theorem rfull_snd : Snd Tryz.prog 93 (FSpec.of fullG) := snd_run TGt2_snd mixed Tryz.func93 dc93 200 fun args h K hc hS => by
  obtain ⟨a, b, m, rest, rfl, H, hS1⟩ := memF_spec hS
  clear hS
  have hS := hS1
  clear hS1
  unfold fullM at hS
  split at hS
  · rename_i x
    simp only [spec_ok, M.fE] at hS
    by_cases c1 : m.gE x = 0
    · by_cases c2 : (m.gV x).cap.ty = 0
      · rw [M.gV_null c2] at hS
        simp only [M.gV_null c2, slotZ, capZ, Slot.cl, c1, and_self, if_true] at hS
        have c3 := M.gV_null c2
        simp (config := {maxSteps := 9999999}) only [EV0, istep, pickR, bin1R, un1R, eqS, eq1, cmpS, cmp1, isNil, leT, shows, rvC, result, List.set, List.replicate, Option.map, ↓q_cond_t, ↓q_cond_f, reduceCtorEq, reduceAdd, reducePow, Int.reducePow, reduceMul, reduceSub, reduceLeDiff, reduceLT, reduceEqDiff, reduceNeg, Int.reduceLT, reduceLE, reduceEq, reduceNe, Int.reduceAdd, Int.reduceSub, Int.reduceMul, reduceToNat, Int.reduceBEq, Int.reduceBNe, df93, TGt2, get2G, memF_eq H, get2M, Slot.cl, c1, c2, c3, slotZ, capZ, put, fillP, sub, EVt]
        exact hS
      · simp only [Slot.cl, c1, c2, and_false, if_false] at hS
        simp (config := {maxSteps := 9999999}) only [EV0, istep, pickR, bin1R, un1R, eqS, eq1, cmpS, cmp1, isNil, leT, shows, rvC, result, List.set, List.replicate, Option.map, ↓q_cond_t, ↓q_cond_f, reduceCtorEq, reduceAdd, reducePow, Int.reducePow, reduceMul, reduceSub, reduceLeDiff, reduceLT, reduceEqDiff, reduceNeg, Int.reduceLT, reduceLE, reduceEq, reduceNe, Int.reduceAdd, Int.reduceSub, Int.reduceMul, reduceToNat, Int.reduceBEq, Int.reduceBNe, df93, TGt2, get2G, memF_eq H, get2M, Slot.cl, c1, c2, put, fillP, sub, EVt]
        exact hS
    · simp only [Slot.cl, c1, false_and, if_false] at hS
      simp (config := {maxSteps := 9999999}) only [EV0, istep, pickR, bin1R, un1R, eqS, eq1, cmpS, cmp1, isNil, leT, shows, rvC, result, List.set, List.replicate, Option.map, ↓q_cond_t, ↓q_cond_f, reduceCtorEq, reduceAdd, reducePow, Int.reducePow, reduceMul, reduceSub, reduceLeDiff, reduceLT, reduceEqDiff, reduceNeg, Int.reduceLT, reduceLE, reduceEq, reduceNe, Int.reduceAdd, Int.reduceSub, Int.reduceMul, reduceToNat, Int.reduceBEq, Int.reduceBNe, df93, TGt2, get2G, memF_eq H, get2M, Slot.cl, c1, put, fillP, sub, EVt]
      exact hS
  · exact hS.elim

def M.liB (m : M) (a : Int) (s : Slot) : Bool := !(s.prev == 0 && (s.next == 0 && s.depth == 0)) || m.fst == a
def M.liX (m : M) (s : Slot) : M := if (s.prev == 0 && (s.next == 0 && s.depth == 0)) = true then m.fstX else m
def listedM (b : Nat) (m : M) (st : M → List Blk) : List V → Res
  | [.s (.i .i64 a), x] => slotF (fun s => .ok (.s (.b (m.liB a s))) [] (st (m.liX s))) [x]
  | _ => .bad
noncomputable def listedG := memF listedM
noncomputable def TFs : Tab := addT 83 firstG (addT 88 setFirstG (noT))
theorem TFs_snd : TFs.Snd Tryz.prog := addT_snd ok83 first_snd (addT_snd ok88 setFirst_snd ((noT_snd _)))
theorem listed_snd : Snd Tryz.prog 82 (FSpec.of listedG) := snd_run TFs_snd mixed Tryz.func82 dc82 200 fun args h K hc hS => by
  obtain ⟨a, b, m, rest, rfl, H, hS1⟩ := memF_spec hS
  clear hS
  have hS := hS1
  clear hS1
  unfold listedM at hS
  split at hS
  · rename_i x y
    obtain ⟨s, e, hS2⟩ := slotF_spec hS
    simp only [List.cons.injEq, and_true] at e
    subst e
    clear hS
    have hS := hS2
    simp only [spec_ok, M.liB, M.liX] at hS
    by_cases c1 : s.prev = 0
    · by_cases c2 : s.next = 0
      · by_cases c3 : s.depth = 0
        · simp only [c1, c2, c3, beq_self_eq_true, Bool.and_self, Bool.not_true, Bool.false_or, if_true] at hS
          simp (config := {maxSteps := 9999999}) only [EV0, istep, pickR, bin1R, un1R, eqS, eq1, cmpS, cmp1, isNil, leT, shows, rvC, result, List.set, List.replicate, Option.map, ↓q_cond_t, ↓q_cond_f, reduceCtorEq, reduceAdd, reducePow, Int.reducePow, reduceMul, reduceSub, reduceLeDiff, reduceLT, reduceEqDiff, reduceNeg, Int.reduceLT, reduceLE, reduceEq, reduceNe, Int.reduceAdd, Int.reduceSub, Int.reduceMul, reduceToNat, Int.reduceBEq, Int.reduceBNe, df82, TFs, firstG, memF_eq H, firstM, Slot.cl, c1, c2, c3, put, fillP, sub, EVt]
          exact hS
        · have c4 : (s.depth == 0) = false := by simpa using c3
          simp only [c1, c2, c4, Bool.and_false, Bool.not_false, Bool.true_or, Bool.false_eq_true, if_false, setM_self H] at hS
          simp (config := {maxSteps := 9999999}) only [EV0, istep, pickR, bin1R, un1R, eqS, eq1, cmpS, cmp1, isNil, leT, shows, rvC, result, List.set, List.replicate, Option.map, ↓q_cond_t, ↓q_cond_f, reduceCtorEq, reduceAdd, reducePow, Int.reducePow, reduceMul, reduceSub, reduceLeDiff, reduceLT, reduceEqDiff, reduceNeg, Int.reduceLT, reduceLE, reduceEq, reduceNe, Int.reduceAdd, Int.reduceSub, Int.reduceMul, reduceToNat, Int.reduceBEq, Int.reduceBNe, df82, TFs, firstG, memF_eq H, firstM, Slot.cl, c1, c2, c3, put, fillP, sub, EVt]
          exact hS
      · have c4 : (s.next == 0) = false := by simpa using c2
        simp only [c1, c4, Bool.and_false, Bool.false_and, Bool.not_false, Bool.true_or, Bool.false_eq_true, if_false, setM_self H] at hS
        simp (config := {maxSteps := 9999999}) only [EV0, istep, pickR, bin1R, un1R, eqS, eq1, cmpS, cmp1, isNil, leT, shows, rvC, result, List.set, List.replicate, Option.map, ↓q_cond_t, ↓q_cond_f, reduceCtorEq, reduceAdd, reducePow, Int.reducePow, reduceMul, reduceSub, reduceLeDiff, reduceLT, reduceEqDiff, reduceNeg, Int.reduceLT, reduceLE, reduceEq, reduceNe, Int.reduceAdd, Int.reduceSub, Int.reduceMul, reduceToNat, Int.reduceBEq, Int.reduceBNe, df82, TFs, firstG, memF_eq H, firstM, Slot.cl, c1, c2, put, fillP, sub, EVt]
        exact hS
    · have c4 : (s.prev == 0) = false := by simpa using c1
      simp only [c4, Bool.false_and, Bool.not_false, Bool.true_or, Bool.false_eq_true, if_false, setM_self H] at hS
      simp (config := {maxSteps := 9999999}) only [EV0, istep, pickR, bin1R, un1R, eqS, eq1, cmpS, cmp1, isNil, leT, shows, rvC, result, List.set, List.replicate, Option.map, ↓q_cond_t, ↓q_cond_f, reduceCtorEq, reduceAdd, reducePow, Int.reducePow, reduceMul, reduceSub, reduceLeDiff, reduceLT, reduceEqDiff, reduceNeg, Int.reduceLT, reduceLE, reduceEq, reduceNe, Int.reduceAdd, Int.reduceSub, Int.reduceMul, reduceToNat, Int.reduceBEq, Int.reduceBNe, df82, TFs, firstG, memF_eq H, firstM, Slot.cl, c1, put, fillP, sub, EVt]
      exact hS
  · exact hS.elim

/-! ### what a slot's links are turned to -/
def cellAt (h : List Blk) (k : Nat) : Option Int := match h[k]? with
  | some ⟨.rw, [.i .i64 v], _⟩ => some v
  | _ => none
def slotAt (h : List Blk) (k : Nat) : Option Slot := match h[k]? with
  | some ⟨.rw, [.i .i64 a, .i .i64 b, .i .i64 c, .i .i64 d, .i .i64 e, .i .i64 g, .i .i64 i, .i .i64 j, .i .i64 k, .i .i64 l, .i .i64 m, .i .i64 p, .i .i64 n, .i .i64 q], 14⟩ => some ⟨⟨a, b, c, d, e, g, i, j, k, l, m⟩, p, n, q⟩
  | _ => none
theorem cellAt_some {h : List Blk} {k : Nat} {v : Int} (e : cellAt h k = some v) : ∃ room, h[k]? = some ⟨.rw, [.i .i64 v], room⟩ := by
  unfold cellAt at e
  split at e
  · rename_i h1
    rw [Option.some.injEq] at e
    subst e
    exact ⟨_, h1⟩
  · cases e
theorem slotAt_some {h : List Blk} {k : Nat} {s : Slot} (e : slotAt h k = some s) : h[k]? = some ⟨.rw, s.cl, 14⟩ := by
  unfold slotAt at e
  split at e
  · rename_i h1
    rw [Option.some.injEq] at e
    subst e
    exact h1
  · cases e
theorem cellAt_eq {h : List Blk} {k room : Nat} {v : Int} (e : h[k]? = some ⟨.rw, [.i .i64 v], room⟩) : cellAt h k = some v := by simp only [cellAt, e]
theorem slotAt_eq {h : List Blk} {k : Nat} {s : Slot} (e : h[k]? = some ⟨.rw, s.cl, 14⟩) : slotAt h k = some s := by simp only [slotAt, e, Slot.cl]
theorem setM_other {h : List Blk} {a b k : Nat} {m m' : M} {B : Blk} (H : IsMem h a b m) (e : h[k]? = some B) (h1 : B ≠ MB b m) (h2 : B ≠ MW m) : (setM h a b m')[k]? = some B := by
  have ka : a ≠ k := fun x => by subst x; rw [H.ha, Option.some.injEq] at e; exact h1 e.symm
  have kb : b ≠ k := fun x => by subst x; rw [H.hb, Option.some.injEq] at e; exact h2 e.symm
  simp only [setM]
  rw [List.getElem?_set_ne kb, List.getElem?_set_ne ka, e]
theorem wc_head {w : List Int} {n : Int} {l : List S} (e : S.i .i64 n :: l = wc w) : False := by
  cases w with
  | nil => cases e
  | cons x w => rw [wc_cons] at e; simp at e
theorem cell_setM {h : List Blk} {a b k room : Nat} {m : M} {v : Int} (H : IsMem h a b m) (e : h[k]? = some ⟨.rw, [.i .i64 v], room⟩) (m' : M) : (setM h a b m')[k]? = some ⟨.rw, [.i .i64 v], room⟩ :=
  setM_other H e (fun x => by simp [MB] at x) (fun x => by simp only [MW, Blk.mk.injEq] at x; exact wc_head x.2.1)
theorem slot_setM {h : List Blk} {a b k room : Nat} {m : M} {s : Slot} (H : IsMem h a b m) (e : h[k]? = some ⟨.rw, s.cl, room⟩) (m' : M) : (setM h a b m')[k]? = some ⟨.rw, s.cl, room⟩ :=
  setM_other H e (fun x => by simp [MB, Slot.cl] at x) (fun x => by simp only [MW, Blk.mk.injEq, Slot.cl] at x; exact wc_head x.2.1)

def chg (h : List Blk) (f : Nat) (cs : List (R × Nat)) : Option (Slot → Slot) :=
  match cs with
  | [] => if f = 86 ∨ f = 87 then some fun s => ⟨s.cap, s.prev, s.next, IntKind.i64.wrap (s.depth - 1)⟩ else none
  | [(.g k, 0)] =>
    if f = 137 then match cellAt h k with
      | some v => some fun s => ⟨s.cap, s.prev, v, s.depth⟩
      | none => none
    else if f = 138 then match cellAt h k with
      | some v => some fun s => ⟨s.cap, v, s.next, s.depth⟩
      | none => none
    else if f = 89 then match slotAt h k with
      | some v => some fun s => ⟨s.cap, s.prev, v.next, s.depth⟩
      | none => none
    else if f = 90 then match slotAt h k with
      | some v => some fun s => ⟨s.cap, v.prev, s.next, s.depth⟩
      | none => none
    else none
  | _ => none
def depG : List V → List Blk → Res
  | [.s (.p (.g i) 0)], h => match slotAt h i with
    | some s => .ok (.tup []) [] (h.set i ⟨.rw, (⟨s.cap, s.prev, s.next, IntKind.i64.wrap (s.depth - 1)⟩ : Slot).cl, 14⟩)
    | none => .bad
  | _, _ => .bad
def jn1G : List V → List Blk → Res
  | [.s (.p (.g i) 0), .s (.p (.g k) 0)], h => match slotAt h i, cellAt h k with
    | some s, some v => .ok (.tup []) [] (h.set i ⟨.rw, (⟨s.cap, s.prev, v, s.depth⟩ : Slot).cl, 14⟩)
    | _, _ => .bad
  | _, _ => .bad
def jn2G : List V → List Blk → Res
  | [.s (.p (.g i) 0), .s (.p (.g k) 0)], h => match slotAt h i, cellAt h k with
    | some s, some v => .ok (.tup []) [] (h.set i ⟨.rw, (⟨s.cap, v, s.next, s.depth⟩ : Slot).cl, 14⟩)
    | _, _ => .bad
  | _, _ => .bad
def rm3G : List V → List Blk → Res
  | [.s (.p (.g i) 0), .s (.p (.g k) 0)], h => match slotAt h i, slotAt h k with
    | some s, some v => .ok (.tup []) [] (h.set i ⟨.rw, (⟨s.cap, s.prev, v.next, s.depth⟩ : Slot).cl, 14⟩)
    | _, _ => .bad
  | _, _ => .bad
def rm4G : List V → List Blk → Res
  | [.s (.p (.g i) 0), .s (.p (.g k) 0)], h => match slotAt h i, slotAt h k with
    | some s, some v => .ok (.tup []) [] (h.set i ⟨.rw, (⟨s.cap, v.prev, s.next, s.depth⟩ : Slot).cl, 14⟩)
    | _, _ => .bad
  | _, _ => .bad
theorem dep1_snd : Snd Tryz.prog 86 (FSpec.of depG) := snd_run (noT_snd _) mixed Tryz.func86 dc86 100 fun args h K hc hS => by
  unfold depG at hS
  split at hS
  · split at hS
    · rename_i s hs
      have e1 := slotAt_some hs
      simp only [spec_ok, Slot.cl] at hS
      simp (config := {maxSteps := 9999999}) only [EV0, istep, pickR, bin1R, un1R, eqS, eq1, cmpS, cmp1, isNil, leT, shows, rvC, result, List.set, List.replicate, Option.map, ↓q_cond_t, ↓q_cond_f, reduceCtorEq, reduceAdd, reducePow, Int.reducePow, reduceMul, reduceSub, reduceLeDiff, reduceLT, reduceEqDiff, reduceNeg, Int.reduceLT, reduceLE, reduceEq, reduceNe, Int.reduceAdd, Int.reduceSub, Int.reduceMul, reduceToNat, Int.reduceBEq, Int.reduceBNe, df86, e1, Slot.cl, put, fillP, sub, EVt]
      exact hS
    · exact hS.elim
  · exact hS.elim
theorem dep2_snd : Snd Tryz.prog 87 (FSpec.of depG) := snd_run (noT_snd _) mixed Tryz.func87 dc87 100 fun args h K hc hS => by
  unfold depG at hS
  split at hS
  · split at hS
    · rename_i s hs
      have e1 := slotAt_some hs
      simp only [spec_ok, Slot.cl] at hS
      simp (config := {maxSteps := 9999999}) only [EV0, istep, pickR, bin1R, un1R, eqS, eq1, cmpS, cmp1, isNil, leT, shows, rvC, result, List.set, List.replicate, Option.map, ↓q_cond_t, ↓q_cond_f, reduceCtorEq, reduceAdd, reducePow, Int.reducePow, reduceMul, reduceSub, reduceLeDiff, reduceLT, reduceEqDiff, reduceNeg, Int.reduceLT, reduceLE, reduceEq, reduceNe, Int.reduceAdd, Int.reduceSub, Int.reduceMul, reduceToNat, Int.reduceBEq, Int.reduceBNe, df87, e1, Slot.cl, put, fillP, sub, EVt]
      exact hS
    · exact hS.elim
  · exact hS.elim
theorem jn1_snd : Snd Tryz.prog 137 (FSpec.of jn1G) := snd_run (noT_snd _) mixed Tryz.func137 dc137 100 fun args h K hc hS => by
  unfold jn1G at hS
  split at hS
  · split at hS
    · rename_i s v hs hv
      have e1 := slotAt_some hs
      obtain ⟨room, e2⟩ := cellAt_some hv
      simp only [spec_ok, Slot.cl] at hS
      simp (config := {maxSteps := 9999999}) only [EV0, istep, pickR, bin1R, un1R, eqS, eq1, cmpS, cmp1, isNil, leT, shows, rvC, result, List.set, List.replicate, Option.map, ↓q_cond_t, ↓q_cond_f, reduceCtorEq, reduceAdd, reducePow, Int.reducePow, reduceMul, reduceSub, reduceLeDiff, reduceLT, reduceEqDiff, reduceNeg, Int.reduceLT, reduceLE, reduceEq, reduceNe, Int.reduceAdd, Int.reduceSub, Int.reduceMul, reduceToNat, Int.reduceBEq, Int.reduceBNe, df137, e1, e2, Slot.cl, put, fillP, sub, EVt]
      exact hS
    · exact hS.elim
  · exact hS.elim
theorem jn2_snd : Snd Tryz.prog 138 (FSpec.of jn2G) := snd_run (noT_snd _) mixed Tryz.func138 dc138 100 fun args h K hc hS => by
  unfold jn2G at hS
  split at hS
  · split at hS
    · rename_i s v hs hv
      have e1 := slotAt_some hs
      obtain ⟨room, e2⟩ := cellAt_some hv
      simp only [spec_ok, Slot.cl] at hS
      simp (config := {maxSteps := 9999999}) only [EV0, istep, pickR, bin1R, un1R, eqS, eq1, cmpS, cmp1, isNil, leT, shows, rvC, result, List.set, List.replicate, Option.map, ↓q_cond_t, ↓q_cond_f, reduceCtorEq, reduceAdd, reducePow, Int.reducePow, reduceMul, reduceSub, reduceLeDiff, reduceLT, reduceEqDiff, reduceNeg, Int.reduceLT, reduceLE, reduceEq, reduceNe, Int.reduceAdd, Int.reduceSub, Int.reduceMul, reduceToNat, Int.reduceBEq, Int.reduceBNe, df138, e1, e2, Slot.cl, put, fillP, sub, EVt]
      exact hS
    · exact hS.elim
  · exact hS.elim
theorem rm3_snd : Snd Tryz.prog 89 (FSpec.of rm3G) := snd_run (noT_snd _) mixed Tryz.func89 dc89 100 fun args h K hc hS => by
  unfold rm3G at hS
  split at hS
  · split at hS
    · rename_i s v hs hv
      have e1 := slotAt_some hs
      have e2 := slotAt_some hv
      simp only [spec_ok, Slot.cl] at hS
      simp (config := {maxSteps := 9999999}) only [EV0, istep, pickR, bin1R, un1R, eqS, eq1, cmpS, cmp1, isNil, leT, shows, rvC, result, List.set, List.replicate, Option.map, ↓q_cond_t, ↓q_cond_f, reduceCtorEq, reduceAdd, reducePow, Int.reducePow, reduceMul, reduceSub, reduceLeDiff, reduceLT, reduceEqDiff, reduceNeg, Int.reduceLT, reduceLE, reduceEq, reduceNe, Int.reduceAdd, Int.reduceSub, Int.reduceMul, reduceToNat, Int.reduceBEq, Int.reduceBNe, df89, e1, e2, Slot.cl, put, fillP, sub, EVt]
      exact hS
    · exact hS.elim
  · exact hS.elim
theorem rm4_snd : Snd Tryz.prog 90 (FSpec.of rm4G) := snd_run (noT_snd _) mixed Tryz.func90 dc90 100 fun args h K hc hS => by
  unfold rm4G at hS
  split at hS
  · split at hS
    · rename_i s v hs hv
      have e1 := slotAt_some hs
      have e2 := slotAt_some hv
      simp only [spec_ok, Slot.cl] at hS
      simp (config := {maxSteps := 9999999}) only [EV0, istep, pickR, bin1R, un1R, eqS, eq1, cmpS, cmp1, isNil, leT, shows, rvC, result, List.set, List.replicate, Option.map, ↓q_cond_t, ↓q_cond_f, reduceCtorEq, reduceAdd, reducePow, Int.reducePow, reduceMul, reduceSub, reduceLeDiff, reduceLT, reduceEqDiff, reduceNeg, Int.reduceLT, reduceLE, reduceEq, reduceNe, Int.reduceAdd, Int.reduceSub, Int.reduceMul, reduceToNat, Int.reduceBEq, Int.reduceBNe, df90, e1, e2, Slot.cl, put, fillP, sub, EVt]
      exact hS
    · exact hS.elim
  · exact hS.elim

def M.turnX (m : M) (a : Int) (g : Slot → Slot) : M := if a = 0 then m else if m.fE a = 0 then (m.gX a).pX a (g (m.gV a)) else m.gX a
def turnM (b : Nat) (m : M) (st : M → List Blk) : List V → Res
  | [.s (.i .i64 a), .s (.fn f cs)] => match chg (st m) f cs with
    | some g => .ok (.tup []) [] (st (m.turnX a g))
    | none => .bad
  | _ => .bad
noncomputable def turnG := memF turnM
noncomputable def TTn : Tab := addT 71 fullG (addT 80 put2G (addT 137 jn1G (addT 138 jn2G (addT 86 depG (addT 87 depG (addT 89 rm3G (addT 90 rm4G (noT))))))))
theorem TTn_snd : TTn.Snd Tryz.prog := addT_snd ok71 full_snd (addT_snd ok80 put2_snd (addT_snd ok137 jn1_snd (addT_snd ok138 jn2_snd (addT_snd ok86 dep1_snd (addT_snd ok87 dep2_snd (addT_snd ok89 rm3_snd (addT_snd ok90 rm4_snd ((noT_snd _)))))))))
theorem turn_snd : Snd Tryz.prog 85 (FSpec.of turnG) := snd_run TTn_snd mixed Tryz.func85 dc85 200 fun args h K hc hS => by
  obtain ⟨a, b, m, rest, rfl, H, hS1⟩ := memF_spec hS
  clear hS
  have hS := hS1
  clear hS1
  unfold turnM at hS
  split at hS
  · rename_i x f cs
    simp only [setM_self H] at hS
    split at hS
    · rename_i g hg
      simp only [spec_ok] at hS
      have hcm : ∀ m', clean (setM h a b m').length (setM h a b m') = true := fun m' => by rw [setM_len]; exact setM_clean H hc H.ltb
      have hcm' : ∀ m', clean h.length (setM h a b m') = true := fun m' => setM_clean H hc H.ltb
      by_cases c0 : x = 0
      · simp only [M.turnX, c0, if_true, setM_self H] at hS
        simp (config := {maxSteps := 9999999}) only [EV0, istep, pickR, bin1R, un1R, eqS, eq1, cmpS, cmp1, isNil, leT, shows, rvC, result, List.set, List.replicate, Option.map, ↓q_cond_t, ↓q_cond_f, reduceCtorEq, reduceAdd, reducePow, Int.reducePow, reduceMul, reduceSub, reduceLeDiff, reduceLT, reduceEqDiff, reduceNeg, Int.reduceLT, reduceLE, reduceEq, reduceNe, Int.reduceAdd, Int.reduceSub, Int.reduceMul, reduceToNat, Int.reduceBEq, Int.reduceBNe, df85, c0]
        exact hS
      by_cases c1 : m.fE x = 0
      · simp only [M.turnX, c0, c1, if_false, if_true] at hS
        obtain ⟨s, hs⟩ : ∃ s, m.gV x = s := ⟨_, rfl⟩
        rw [hs] at hS
        have hs1 : ∀ m', slotAt (setM h a b m' ++ [⟨.rw, s.cl, 14⟩]) h.length = some s := fun m' => slotAt_eq (by rw [List.getElem?_append_right (by rw [setM_len]; omega), setM_len, Nat.sub_self]; rfl)
        have hst : ∀ m' B B', (setM h a b m' ++ [B]).set h.length B' = setM h a b m' ++ [B'] := fun m' B B' => by rw [List.set_append_right _ _ (by rw [setM_len]; omega), setM_len, Nat.sub_self]; rfl
        simp only [Slot.cl] at hs1
        unfold chg at hg
        split at hg
        · split at hg
          · rename_i hf
            cases hg
            rcases hf with rfl | rfl
            all_goals (simp (config := {maxSteps := 9999999}) only [EV0, istep, pickR, bin1R, un1R, eqS, eq1, cmpS, cmp1, isNil, leT, shows, rvC, result, List.set, List.replicate, Option.map, ↓q_cond_t, ↓q_cond_f, reduceCtorEq, reduceAdd, reducePow, Int.reducePow, reduceMul, reduceSub, reduceLeDiff, reduceLT, reduceEqDiff, reduceNeg, Int.reduceLT, reduceLE, reduceEq, reduceNe, Int.reduceAdd, Int.reduceSub, Int.reduceMul, reduceToNat, Int.reduceBEq, Int.reduceBNe, df85, TTn, fullG, memF_eq H, memF_set H, setM_fun H, fullM, put2G, put2M, slotF, slot_eta, cap_eta, Slot.cl, c0, c1, hs, depG, hs1, hst, R.lend, R.unlend, S_ren, C.ren, V.ren, Blk.ren, take_app, drop_app, Nat.not_lt_zero, Nat.lt_irrefl, Nat.add_sub_cancel_left, Nat.not_lt, Nat.le_add_right, setM_len, hcm, hcm', put, fillP, sub, EVt])
            all_goals exact hS
          · cases hg
        · rename_i k
          have hlt : ∀ {B : Blk}, h[k]? = some B → k < h.length := fun e => (List.getElem?_eq_some_iff.1 e).1
          split at hg
          · rename_i hf
            subst hf
            split at hg
            · rename_i v hv
              cases hg
              obtain ⟨room, e2⟩ := cellAt_some hv
              have hv1 : ∀ m' B, cellAt (setM h a b m' ++ [B]) k = some v := fun m' B => cellAt_eq (by rw [List.getElem?_append_left (by rw [setM_len]; exact hlt e2)]; exact cell_setM H e2 m')
              simp (config := {maxSteps := 9999999}) only [EV0, istep, pickR, bin1R, un1R, eqS, eq1, cmpS, cmp1, isNil, leT, shows, rvC, result, List.set, List.replicate, Option.map, ↓q_cond_t, ↓q_cond_f, reduceCtorEq, reduceAdd, reducePow, Int.reducePow, reduceMul, reduceSub, reduceLeDiff, reduceLT, reduceEqDiff, reduceNeg, Int.reduceLT, reduceLE, reduceEq, reduceNe, Int.reduceAdd, Int.reduceSub, Int.reduceMul, reduceToNat, Int.reduceBEq, Int.reduceBNe, df85, TTn, fullG, memF_eq H, memF_set H, setM_fun H, fullM, put2G, put2M, slotF, slot_eta, cap_eta, Slot.cl, c0, c1, hs, jn1G, hs1, hst, hv1, R.lend, R.unlend, S_ren, C.ren, V.ren, Blk.ren, take_app, drop_app, Nat.not_lt_zero, Nat.lt_irrefl, Nat.add_sub_cancel_left, Nat.not_lt, Nat.le_add_right, setM_len, hcm, hcm', put, fillP, sub, EVt]
              exact hS
            · cases hg
          split at hg
          · rename_i hf
            subst hf
            split at hg
            · rename_i v hv
              cases hg
              obtain ⟨room, e2⟩ := cellAt_some hv
              have hv1 : ∀ m' B, cellAt (setM h a b m' ++ [B]) k = some v := fun m' B => cellAt_eq (by rw [List.getElem?_append_left (by rw [setM_len]; exact hlt e2)]; exact cell_setM H e2 m')
              simp (config := {maxSteps := 9999999}) only [EV0, istep, pickR, bin1R, un1R, eqS, eq1, cmpS, cmp1, isNil, leT, shows, rvC, result, List.set, List.replicate, Option.map, ↓q_cond_t, ↓q_cond_f, reduceCtorEq, reduceAdd, reducePow, Int.reducePow, reduceMul, reduceSub, reduceLeDiff, reduceLT, reduceEqDiff, reduceNeg, Int.reduceLT, reduceLE, reduceEq, reduceNe, Int.reduceAdd, Int.reduceSub, Int.reduceMul, reduceToNat, Int.reduceBEq, Int.reduceBNe, df85, TTn, fullG, memF_eq H, memF_set H, setM_fun H, fullM, put2G, put2M, slotF, slot_eta, cap_eta, Slot.cl, c0, c1, hs, jn2G, hs1, hst, hv1, R.lend, R.unlend, S_ren, C.ren, V.ren, Blk.ren, take_app, drop_app, Nat.not_lt_zero, Nat.lt_irrefl, Nat.add_sub_cancel_left, Nat.not_lt, Nat.le_add_right, setM_len, hcm, hcm', put, fillP, sub, EVt]
              exact hS
            · cases hg
          split at hg
          · rename_i hf
            subst hf
            split at hg
            · rename_i v hv
              cases hg
              have e2 := slotAt_some hv
              have hv1 : ∀ m' B, slotAt (setM h a b m' ++ [B]) k = some v := fun m' B => slotAt_eq (by rw [List.getElem?_append_left (by rw [setM_len]; exact hlt e2)]; exact slot_setM H e2 m')
              simp (config := {maxSteps := 9999999}) only [EV0, istep, pickR, bin1R, un1R, eqS, eq1, cmpS, cmp1, isNil, leT, shows, rvC, result, List.set, List.replicate, Option.map, ↓q_cond_t, ↓q_cond_f, reduceCtorEq, reduceAdd, reducePow, Int.reducePow, reduceMul, reduceSub, reduceLeDiff, reduceLT, reduceEqDiff, reduceNeg, Int.reduceLT, reduceLE, reduceEq, reduceNe, Int.reduceAdd, Int.reduceSub, Int.reduceMul, reduceToNat, Int.reduceBEq, Int.reduceBNe, df85, TTn, fullG, memF_eq H, memF_set H, setM_fun H, fullM, put2G, put2M, slotF, slot_eta, cap_eta, Slot.cl, c0, c1, hs, rm3G, hs1, hst, hv1, R.lend, R.unlend, S_ren, C.ren, V.ren, Blk.ren, take_app, drop_app, Nat.not_lt_zero, Nat.lt_irrefl, Nat.add_sub_cancel_left, Nat.not_lt, Nat.le_add_right, setM_len, hcm, hcm', put, fillP, sub, EVt]
              exact hS
            · cases hg
          split at hg
          · rename_i hf
            subst hf
            split at hg
            · rename_i v hv
              cases hg
              have e2 := slotAt_some hv
              have hv1 : ∀ m' B, slotAt (setM h a b m' ++ [B]) k = some v := fun m' B => slotAt_eq (by rw [List.getElem?_append_left (by rw [setM_len]; exact hlt e2)]; exact slot_setM H e2 m')
              simp (config := {maxSteps := 9999999}) only [EV0, istep, pickR, bin1R, un1R, eqS, eq1, cmpS, cmp1, isNil, leT, shows, rvC, result, List.set, List.replicate, Option.map, ↓q_cond_t, ↓q_cond_f, reduceCtorEq, reduceAdd, reducePow, Int.reducePow, reduceMul, reduceSub, reduceLeDiff, reduceLT, reduceEqDiff, reduceNeg, Int.reduceLT, reduceLE, reduceEq, reduceNe, Int.reduceAdd, Int.reduceSub, Int.reduceMul, reduceToNat, Int.reduceBEq, Int.reduceBNe, df85, TTn, fullG, memF_eq H, memF_set H, setM_fun H, fullM, put2G, put2M, slotF, slot_eta, cap_eta, Slot.cl, c0, c1, hs, rm4G, hs1, hst, hv1, R.lend, R.unlend, S_ren, C.ren, V.ren, Blk.ren, take_app, drop_app, Nat.not_lt_zero, Nat.lt_irrefl, Nat.add_sub_cancel_left, Nat.not_lt, Nat.le_add_right, setM_len, hcm, hcm', put, fillP, sub, EVt]
              exact hS
            · cases hg
          · cases hg
        · cases hg
      · simp only [M.turnX, c0, c1, if_false] at hS
        simp (config := {maxSteps := 9999999}) only [EV0, istep, pickR, bin1R, un1R, eqS, eq1, cmpS, cmp1, isNil, leT, shows, rvC, result, List.set, List.replicate, Option.map, ↓q_cond_t, ↓q_cond_f, reduceCtorEq, reduceAdd, reducePow, Int.reducePow, reduceMul, reduceSub, reduceLeDiff, reduceLT, reduceEqDiff, reduceNeg, Int.reduceLT, reduceLE, reduceEq, reduceNe, Int.reduceAdd, Int.reduceSub, Int.reduceMul, reduceToNat, Int.reduceBEq, Int.reduceBNe, df85, TTn, fullG, memF_eq H, fullM, Slot.cl, c0, c1, put, fillP, sub, EVt]
        exact hS
    · exact hS.elim
  · exact hS.elim
end Go.Proofs.YtpmobbehdpgnbaaGreat

