/- Package cdt: Insert, Move, Swap. -/
import Derived.Test.YtpmobbehdpgnbaaZ13
import Derived.Test.YtpmobbehdpgnbaaZ19
/- Package cdt: turn, join. -/
namespace Go.Proofs.Ytpmobbehdpgnbaa
open Go.D
open Nat (reduceAdd reducePow reduceMul reduceSub reduceLeDiff reduceLT reduceEqDiff)
open Int (reduceNeg reduceLE reduceEq reduceNe reduceToNat)
open Go.D renaming istep → zy, pickR → zx, bin1R → zw, un1R → zv, eqS → zu, eq1 → zq, cmpS → zp, cmp1 → zj, isNil → zk, shows → zg, result → zZ, q_cond_t → zV, q_cond_f → zU
open List renaming set → zY, replicate → zX
open Option renaming map → zW
open Nat renaming reduceAdd → zQ, reducePow → yz, reduceMul → yy, reduceSub → yx, reduceLeDiff → yw, reduceLT → yv, reduceEqDiff → yu
open Int renaming reduceNeg → yq, reduceLE → yp, reduceEq → yj, reduceNe → yk, reduceToNat → yg, reducePow → yZ, reduceLT → yY, reduceAdd → yX, reduceSub → yW, reduceMul → yV, reduceBEq → yU, reduceBNe → yQ
set_option linter.all false
set_option maxRecDepth 100000
set_option maxHeartbeats 4000000

def M.turnX (m : M) (a : Int) (g : Slot → Slot) : M := if a = 0 then m else if m.fE a = 0 then (m.gX a).pX a (g (m.gV a)) else m.gX a
def turnM (b : Nat) (m : M) (st : M → List Blk) : List V → Res
  | [.s (.i .i64 a), .s (.fn f cs)] => match chg (st m) f cs with
    | some g => .ok (.tup []) [] (st (m.turnX a g))
    | none => .bad
  | _ => .bad
noncomputable def turnG := memF turnM
noncomputable def TTn : Tab := addT 39 fullG (addT 42 put2G (addT 78 jn1G (addT 79 jn2G (addT 47 depG (addT 48 depG (addT 50 rm3G (addT 51 rm4G (noT))))))))
theorem TTn_snd : TTn.Snd Try.prog := addT_snd ok39 full_snd (addT_snd ok42 put2_snd (addT_snd ok78 jn1_snd (addT_snd ok79 jn2_snd (addT_snd ok47 dep1_snd (addT_snd ok48 dep2_snd (addT_snd ok50 rm3_snd (addT_snd ok51 rm4_snd ((noT_snd _)))))))))
theorem turn_snd : Snd Try.prog 46 (FSpec.of turnG) := snd_run TTn_snd mixed Try.func46 dc46 200 fun args h K hc hS => by
  obtain ⟨a, b, m, rest, rfl, H, hS1⟩ := memF_spec hS
  clear hS
  have hS := hS1
  clear hS1
  unfold turnM at hS
  split at hS
  · rename_i x f cs
    simp only [setM_self H] at hS
    split at hS
    · rename_i g hg
      simp only [spec_ok] at hS
      have hcm : ∀ m', clean (setM h a b m').length (setM h a b m') = true := fun m' => by rw [setM_len]; exact setM_clean H hc H.ltb
      have hcm' : ∀ m', clean h.length (setM h a b m') = true := fun m' => setM_clean H hc H.ltb
      by_cases c0 : x = 0
      · simp only [M.turnX, c0, if_true, setM_self H] at hS
        simp (config := {maxSteps := 9999999}) only [EV0, zy, zx, zw, zv, zu, zq, zp, zj, zk, leT, zg, rvC, zZ, zY, zX, zW, ↓zV, ↓zU, reduceCtorEq, zQ, yz, yZ, yy, yx, yw, yv, yu, yq, yY, yp, yj, yk, yX, yW, yV, yg, yU, yQ, df46, c0]
        exact hS
      by_cases c1 : m.fE x = 0
      · simp only [M.turnX, c0, c1, if_false, if_true] at hS
        obtain ⟨s, hs⟩ : ∃ s, m.gV x = s := ⟨_, rfl⟩
        rw [hs] at hS
        have hs1 : ∀ m', slotAt (setM h a b m' ++ [⟨.rw, s.cl, 14⟩]) h.length = some s := fun m' => slotAt_eq (by rw [List.getElem?_append_right (by rw [setM_len]; omega), setM_len, Nat.sub_self]; rfl)
        have hst : ∀ m' B B', (setM h a b m' ++ [B]).set h.length B' = setM h a b m' ++ [B'] := fun m' B B' => by rw [List.set_append_right _ _ (by rw [setM_len]; omega), setM_len, Nat.sub_self]; rfl
        simp only [Slot.cl] at hs1
        unfold chg at hg
        split at hg
        · split at hg
          · rename_i hf
            cases hg
            rcases hf with rfl | rfl
            all_goals (simp (config := {maxSteps := 9999999}) only [EV0, zy, zx, zw, zv, zu, zq, zp, zj, zk, leT, zg, rvC, zZ, zY, zX, zW, ↓zV, ↓zU, reduceCtorEq, zQ, yz, yZ, yy, yx, yw, yv, yu, yq, yY, yp, yj, yk, yX, yW, yV, yg, yU, yQ, df46, TTn, fullG, memF_eq H, memF_set H, setM_fun H, fullM, put2G, put2M, slotF, slot_eta, cap_eta, Slot.cl, c0, c1, hs, depG, hs1, hst, R.lend, R.unlend, S_ren, C.ren, V.ren, Blk.ren, take_app, drop_app, Nat.not_lt_zero, Nat.lt_irrefl, Nat.add_sub_cancel_left, Nat.not_lt, Nat.le_add_right, setM_len, hcm, hcm', put, fillP, sub, EVt])
            all_goals exact hS
          · cases hg
        · rename_i k
          have hlt : ∀ {B : Blk}, h[k]? = some B → k < h.length := fun e => (List.getElem?_eq_some_iff.1 e).1
          split at hg
          · rename_i hf
            subst hf
            split at hg
            · rename_i v hv
              cases hg
              obtain ⟨room, e2⟩ := cellAt_some hv
              have hv1 : ∀ m' B, cellAt (setM h a b m' ++ [B]) k = some v := fun m' B => cellAt_eq (by rw [List.getElem?_append_left (by rw [setM_len]; exact hlt e2)]; exact cell_setM H e2 m')
              simp (config := {maxSteps := 9999999}) only [EV0, zy, zx, zw, zv, zu, zq, zp, zj, zk, leT, zg, rvC, zZ, zY, zX, zW, ↓zV, ↓zU, reduceCtorEq, zQ, yz, yZ, yy, yx, yw, yv, yu, yq, yY, yp, yj, yk, yX, yW, yV, yg, yU, yQ, df46, TTn, fullG, memF_eq H, memF_set H, setM_fun H, fullM, put2G, put2M, slotF, slot_eta, cap_eta, Slot.cl, c0, c1, hs, jn1G, hs1, hst, hv1, R.lend, R.unlend, S_ren, C.ren, V.ren, Blk.ren, take_app, drop_app, Nat.not_lt_zero, Nat.lt_irrefl, Nat.add_sub_cancel_left, Nat.not_lt, Nat.le_add_right, setM_len, hcm, hcm', put, fillP, sub, EVt]
              exact hS
            · cases hg
          split at hg
          · rename_i hf
            subst hf
            split at hg
            · rename_i v hv
              cases hg
              obtain ⟨room, e2⟩ := cellAt_some hv
              have hv1 : ∀ m' B, cellAt (setM h a b m' ++ [B]) k = some v := fun m' B => cellAt_eq (by rw [List.getElem?_append_left (by rw [setM_len]; exact hlt e2)]; exact cell_setM H e2 m')
              simp (config := {maxSteps := 9999999}) only [EV0, zy, zx, zw, zv, zu, zq, zp, zj, zk, leT, zg, rvC, zZ, zY, zX, zW, ↓zV, ↓zU, reduceCtorEq, zQ, yz, yZ, yy, yx, yw, yv, yu, yq, yY, yp, yj, yk, yX, yW, yV, yg, yU, yQ, df46, TTn, fullG, memF_eq H, memF_set H, setM_fun H, fullM, put2G, put2M, slotF, slot_eta, cap_eta, Slot.cl, c0, c1, hs, jn2G, hs1, hst, hv1, R.lend, R.unlend, S_ren, C.ren, V.ren, Blk.ren, take_app, drop_app, Nat.not_lt_zero, Nat.lt_irrefl, Nat.add_sub_cancel_left, Nat.not_lt, Nat.le_add_right, setM_len, hcm, hcm', put, fillP, sub, EVt]
              exact hS
            · cases hg
          split at hg
          · rename_i hf
            subst hf
            split at hg
            · rename_i v hv
              cases hg
              have e2 := slotAt_some hv
              have hv1 : ∀ m' B, slotAt (setM h a b m' ++ [B]) k = some v := fun m' B => slotAt_eq (by rw [List.getElem?_append_left (by rw [setM_len]; exact hlt e2)]; exact slot_setM H e2 m')
              simp (config := {maxSteps := 9999999}) only [EV0, zy, zx, zw, zv, zu, zq, zp, zj, zk, leT, zg, rvC, zZ, zY, zX, zW, ↓zV, ↓zU, reduceCtorEq, zQ, yz, yZ, yy, yx, yw, yv, yu, yq, yY, yp, yj, yk, yX, yW, yV, yg, yU, yQ, df46, TTn, fullG, memF_eq H, memF_set H, setM_fun H, fullM, put2G, put2M, slotF, slot_eta, cap_eta, Slot.cl, c0, c1, hs, rm3G, hs1, hst, hv1, R.lend, R.unlend, S_ren, C.ren, V.ren, Blk.ren, take_app, drop_app, Nat.not_lt_zero, Nat.lt_irrefl, Nat.add_sub_cancel_left, Nat.not_lt, Nat.le_add_right, setM_len, hcm, hcm', put, fillP, sub, EVt]
              exact hS
            · cases hg
          split at hg
          · rename_i hf
            subst hf
            split at hg
            · rename_i v hv
              cases hg
              have e2 := slotAt_some hv
              have hv1 : ∀ m' B, slotAt (setM h a b m' ++ [B]) k = some v := fun m' B => slotAt_eq (by rw [List.getElem?_append_left (by rw [setM_len]; exact hlt e2)]; exact slot_setM H e2 m')
              simp (config := {maxSteps := 9999999}) only [EV0, zy, zx, zw, zv, zu, zq, zp, zj, zk, leT, zg, rvC, zZ, zY, zX, zW, ↓zV, ↓zU, reduceCtorEq, zQ, yz, yZ, yy, yx, yw, yv, yu, yq, yY, yp, yj, yk, yX, yW, yV, yg, yU, yQ, df46, TTn, fullG, memF_eq H, memF_set H, setM_fun H, fullM, put2G, put2M, slotF, slot_eta, cap_eta, Slot.cl, c0, c1, hs, rm4G, hs1, hst, hv1, R.lend, R.unlend, S_ren, C.ren, V.ren, Blk.ren, take_app, drop_app, Nat.not_lt_zero, Nat.lt_irrefl, Nat.add_sub_cancel_left, Nat.not_lt, Nat.le_add_right, setM_len, hcm, hcm', put, fillP, sub, EVt]
              exact hS
            · cases hg
          · cases hg
        · cases hg
      · simp only [M.turnX, c0, c1, if_false] at hS
        simp (config := {maxSteps := 9999999}) only [EV0, zy, zx, zw, zv, zu, zq, zp, zj, zk, leT, zg, rvC, zZ, zY, zX, zW, ↓zV, ↓zU, reduceCtorEq, zQ, yz, yZ, yy, yx, yw, yv, yu, yq, yY, yp, yj, yk, yX, yW, yV, yg, yU, yQ, df46, TTn, fullG, memF_eq H, fullM, Slot.cl, c0, c1, put, fillP, sub, EVt]
        exact hS
    · exact hS.elim
  · exact hS.elim

def M.joinX (m : M) (p a n : Int) : M := ((if p = 0 then m.sfX a else m).turnX p fun s => ⟨s.cap, s.prev, a, s.depth⟩).turnX n fun s => ⟨s.cap, a, s.next, s.depth⟩
def joinM (b : Nat) (m : M) (st : M → List Blk) : List V → Res
  | [.s (.i .i64 p), .s (.i .i64 a), .s (.i .i64 n)] => .ok (.tup []) [] (st (m.joinX p a n))
  | _ => .bad
noncomputable def joinG := memF joinM
noncomputable def TJn : Tab := addT 46 turnG (addT 49 setFirstG (noT))
theorem TJn_snd : TJn.Snd Try.prog := addT_snd ok46 turn_snd (addT_snd ok49 setFirst_snd ((noT_snd _)))
theorem join_snd : Snd Try.prog 43 (FSpec.of joinG) := snd_run TJn_snd mixed Try.func43 dc43 200 fun args h K hc hS => by
  obtain ⟨a, b, m, rest, rfl, H, hS1⟩ := memF_spec hS
  clear hS
  have hS := hS1
  clear hS1
  unfold joinM at hS
  split at hS
  · rename_i p x n
    simp only [spec_ok, M.joinX] at hS
    have hcm : ∀ m', clean h.length (setM h a b m') = true := fun m' => setM_clean H hc H.ltb
    have hcl : ∀ m', cellAt (setM h a b m' ++ [⟨.rw, [.i .i64 x], 1⟩]) h.length = some x := fun m' => cellAt_eq (room := 1) (by rw [List.getElem?_append_right (by rw [setM_len]; omega), setM_len, Nat.sub_self]; rfl)
    have t1 : ∀ m' q, turnG [.s (.p (.g a) 0), .s (.i .i64 q), .s (.fn 78 [(.g h.length, 0)])] (setM h a b m' ++ [⟨.rw, [.i .i64 x], 1⟩]) = .ok (.tup []) [] (setM h a b (m'.turnX q fun s => ⟨s.cap, s.prev, x, s.depth⟩) ++ [⟨.rw, [.i .i64 x], 1⟩]) := fun m' q => by
      unfold turnG
      rw [memF_app H]
      simp only [turnM, chg, if_true, hcl]
    have t2 : ∀ m' q, turnG [.s (.p (.g a) 0), .s (.i .i64 q), .s (.fn 79 [(.g h.length, 0)])] (setM h a b m' ++ [⟨.rw, [.i .i64 x], 1⟩]) = .ok (.tup []) [] (setM h a b (m'.turnX q fun s => ⟨s.cap, x, s.next, s.depth⟩) ++ [⟨.rw, [.i .i64 x], 1⟩]) := fun m' q => by
      unfold turnG
      rw [memF_app H]
      simp only [turnM, chg, if_true, hcl, reduceEqDiff, if_false]
    have t0 : ∀ q, turnG [.s (.p (.g a) 0), .s (.i .i64 q), .s (.fn 78 [(.g h.length, 0)])] (h ++ [⟨.rw, [.i .i64 x], 1⟩]) = .ok (.tup []) [] (setM h a b (m.turnX q fun s => ⟨s.cap, s.prev, x, s.depth⟩) ++ [⟨.rw, [.i .i64 x], 1⟩]) := fun q => by
      have := t1 m q
      rw [setM_self H] at this
      exact this
    by_cases c0 : p = 0
    · simp only [c0, if_true] at hS
      simp (config := {maxSteps := 9999999}) only [EV0, zy, zx, zw, zv, zu, zq, zp, zj, zk, leT, zg, rvC, zZ, zY, zX, zW, ↓zV, ↓zU, reduceCtorEq, zQ, yz, yZ, yy, yx, yw, yv, yu, yq, yY, yp, yj, yk, yX, yW, yV, yg, yU, yQ, df43, TJn, setFirstG, memF_eq H, setFirstM, t1, t2, t0, R.lend, R.unlend, S_ren, C.ren, V.ren, Blk.ren, take_app, drop_app, Nat.not_lt_zero, Nat.lt_irrefl, Nat.add_sub_cancel_left, Nat.not_lt, Nat.le_add_right, setM_len, hcm, hc, c0]
      exact hS
    · simp only [c0, if_false] at hS
      simp (config := {maxSteps := 9999999}) only [EV0, zy, zx, zw, zv, zu, zq, zp, zj, zk, leT, zg, rvC, zZ, zY, zX, zW, ↓zV, ↓zU, reduceCtorEq, zQ, yz, yZ, yy, yx, yw, yv, yu, yq, yY, yp, yj, yk, yX, yW, yV, yg, yU, yQ, df43, TJn, setFirstG, memF_eq H, setFirstM, t1, t2, t0, R.lend, R.unlend, S_ren, C.ren, V.ren, Blk.ren, take_app, drop_app, Nat.not_lt_zero, Nat.lt_irrefl, Nat.add_sub_cancel_left, Nat.not_lt, Nat.le_add_right, setM_len, hcm, hc, c0]
      exact hS
  · exact hS.elim

def M.ins (m : M) (p a : Int) : Int × M :=
  if m.fE a = 0 then
    if (m.gX a).liB a (m.gV a) = true then (120, (m.gX a).liX (m.gV a))
    else if p = 0 then (0, ((((m.gX a).liX (m.gV a)).fstX.pX a ⟨(m.gV a).cap, (m.gV a).prev, ((m.gX a).liX (m.gV a)).fst, (m.gV a).depth⟩).joinX (m.gV a).prev a ((m.gX a).liX (m.gV a)).fst))
    else if (((m.gX a).liX (m.gV a)).fstX).fE p = 0 then
      if p = a ∨ ((((m.gX a).liX (m.gV a)).fstX).gV p).depth = 65535 then (120, (((m.gX a).liX (m.gV a)).fstX).gX p)
      else (0, (((((m.gX a).liX (m.gV a)).fstX).gX p).pX a ⟨(m.gV a).cap, p, ((((m.gX a).liX (m.gV a)).fstX).gV p).next, IntKind.i64.wrap (((((m.gX a).liX (m.gV a)).fstX).gV p).depth + 1)⟩).joinX p a ((((m.gX a).liX (m.gV a)).fstX).gV p).next)
    else ((((m.gX a).liX (m.gV a)).fstX).fE p, (((m.gX a).liX (m.gV a)).fstX).gX p)
  else (m.fE a, m.gX a)
def insM (b : Nat) (m : M) (st : M → List Blk) : List V → Res
  | [.s (.i .i64 p), .s (.i .i64 a)] => .ok (.s (.i .i64 (m.ins p a).1)) [] (st (m.ins p a).2)
  | _ => .bad
noncomputable def insG := memF insM
def M.mov (m : M) (f t : Int) : Int × M :=
  if m.fE f = 0 then
    if (m.gX f).gE t = 0 then
      if (m.gX f).eB t = true then
        (0, if (((m.gX f).gX t).liB f (m.gV f)) = true then (((((m.gX f).gX t).liX (m.gV f)).pX t (m.gV f)).pX f slotZ).joinX (m.gV f).prev t (m.gV f).next else ((((m.gX f).gX t).liX (m.gV f)).pX t (m.gV f)).pX f slotZ)
      else (120, (m.gX f).gX t)
    else ((m.gX f).gE t, (m.gX f).gX t)
  else (m.fE f, m.gX f)
def movM (b : Nat) (m : M) (st : M → List Blk) : List V → Res
  | [.s (.i .i64 f), .s (.i .i64 t)] => .ok (.s (.i .i64 (m.mov f t).1)) [] (st (m.mov f t).2)
  | _ => .bad
noncomputable def movG := memF movM
noncomputable def TIn : Tab := addT 39 fullG (addT 41 listedG (addT 38 firstG (addT 42 put2G (addT 44 empty2G (addT 43 joinG (noT))))))
theorem TIn_snd : TIn.Snd Try.prog := addT_snd ok39 full_snd (addT_snd ok41 listed_snd (addT_snd ok38 first_snd (addT_snd ok42 put2_snd (addT_snd ok44 empty2_snd (addT_snd ok43 join_snd ((noT_snd _)))))))
theorem ins_snd : Snd Try.prog 18 (FSpec.of insG) := snd_run TIn_snd mixed Try.func18 dc18 300 fun args h K hc hS => by
  obtain ⟨a, b, m, rest, rfl, H, hS1⟩ := memF_spec hS
  clear hS
  have hS := hS1
  clear hS1
  unfold insM at hS
  split at hS
  · rename_i p x
    simp only [spec_ok] at hS
    by_cases c1 : m.fE x = 0
    · cases c2 : (m.gX x).liB x (m.gV x) with
      | true =>
        simp only [M.ins, c1, c2, if_true] at hS
        simp (config := {maxSteps := 9999999}) only [EV0, zy, zx, zw, zv, zu, zq, zp, zj, zk, leT, zg, rvC, zZ, zY, zX, zW, ↓zV, ↓zU, reduceCtorEq, zQ, yz, yZ, yy, yx, yw, yv, yu, yq, yY, yp, yj, yk, yX, yW, yV, yg, yU, yQ, df18, TIn, fullG, memF_eq H, memF_set H, setM_fun H, fullM, listedG, listedM, slotF, slot_eta, cap_eta, Slot.cl, c1, c2, put, fillP, sub, EVt]
        exact hS
      | false =>
        by_cases c3 : p = 0
        · simp only [M.ins, c1, c2, c3, Bool.false_eq_true, if_true, if_false] at hS
          simp (config := {maxSteps := 9999999}) only [EV0, zy, zx, zw, zv, zu, zq, zp, zj, zk, leT, zg, rvC, zZ, zY, zX, zW, ↓zV, ↓zU, reduceCtorEq, zQ, yz, yZ, yy, yx, yw, yv, yu, yq, yY, yp, yj, yk, yX, yW, yV, yg, yU, yQ, df18, TIn, fullG, memF_eq H, memF_set H, setM_fun H, fullM, listedG, listedM, firstG, firstM, put2G, put2M, joinG, joinM, slotF, slot_eta, cap_eta, Slot.cl, c1, c2, c3, put, fillP, sub, EVt]
          exact hS
        · by_cases c4 : (((m.gX x).liX (m.gV x)).fstX).fE p = 0
          · by_cases c5 : p = x
            · subst c5
              simp only [M.ins, c1, c2, c3, c4, Bool.false_eq_true, if_true, if_false, true_or] at hS
              simp (config := {maxSteps := 9999999}) only [EV0, zy, zx, zw, zv, zu, zq, zp, zj, zk, leT, zg, rvC, zZ, zY, zX, zW, ↓zV, ↓zU, reduceCtorEq, zQ, yz, yZ, yy, yx, yw, yv, yu, yq, yY, yp, yj, yk, yX, yW, yV, yg, yU, yQ, df18, TIn, fullG, memF_eq H, memF_set H, setM_fun H, fullM, listedG, listedM, firstG, firstM, put2G, put2M, joinG, joinM, slotF, slot_eta, cap_eta, Slot.cl, c1, c2, c3, c4, put, fillP, sub, EVt]
              exact hS
            · by_cases c6 : ((((m.gX x).liX (m.gV x)).fstX).gV p).depth = 65535
              · simp only [M.ins, c1, c2, c3, c4, c5, c6, Bool.false_eq_true, if_true, if_false, or_true] at hS
                simp (config := {maxSteps := 9999999}) only [EV0, zy, zx, zw, zv, zu, zq, zp, zj, zk, leT, zg, rvC, zZ, zY, zX, zW, ↓zV, ↓zU, reduceCtorEq, zQ, yz, yZ, yy, yx, yw, yv, yu, yq, yY, yp, yj, yk, yX, yW, yV, yg, yU, yQ, df18, TIn, fullG, memF_eq H, memF_set H, setM_fun H, fullM, listedG, listedM, firstG, firstM, put2G, put2M, joinG, joinM, slotF, slot_eta, cap_eta, Slot.cl, c1, c2, c3, c4, c5, c6, put, fillP, sub, EVt]
                exact hS
              · simp only [M.ins, c1, c2, c3, c4, c5, c6, Bool.false_eq_true, if_true, if_false, or_self] at hS
                simp (config := {maxSteps := 9999999}) only [EV0, zy, zx, zw, zv, zu, zq, zp, zj, zk, leT, zg, rvC, zZ, zY, zX, zW, ↓zV, ↓zU, reduceCtorEq, zQ, yz, yZ, yy, yx, yw, yv, yu, yq, yY, yp, yj, yk, yX, yW, yV, yg, yU, yQ, df18, TIn, fullG, memF_eq H, memF_set H, setM_fun H, fullM, listedG, listedM, firstG, firstM, put2G, put2M, joinG, joinM, slotF, slot_eta, cap_eta, Slot.cl, c1, c2, c3, c4, c5, c6, put, fillP, sub, EVt]
                repeat' first | exact hS | intro _ | refine ⟨?_, ?_⟩
          · simp only [M.ins, c1, c2, c3, c4, Bool.false_eq_true, if_true, if_false] at hS
            simp (config := {maxSteps := 9999999}) only [EV0, zy, zx, zw, zv, zu, zq, zp, zj, zk, leT, zg, rvC, zZ, zY, zX, zW, ↓zV, ↓zU, reduceCtorEq, zQ, yz, yZ, yy, yx, yw, yv, yu, yq, yY, yp, yj, yk, yX, yW, yV, yg, yU, yQ, df18, TIn, fullG, memF_eq H, memF_set H, setM_fun H, fullM, listedG, listedM, firstG, firstM, put2G, put2M, joinG, joinM, slotF, slot_eta, cap_eta, Slot.cl, c1, c2, c3, c4, put, fillP, sub, EVt]
            exact hS
    · simp only [M.ins, c1, if_false] at hS
      simp (config := {maxSteps := 9999999}) only [EV0, zy, zx, zw, zv, zu, zq, zp, zj, zk, leT, zg, rvC, zZ, zY, zX, zW, ↓zV, ↓zU, reduceCtorEq, zQ, yz, yZ, yy, yx, yw, yv, yu, yq, yY, yp, yj, yk, yX, yW, yV, yg, yU, yQ, df18, TIn, fullG, memF_eq H, memF_set H, setM_fun H, fullM, Slot.cl, c1, put, fillP, sub, EVt]
      exact hS
  · exact hS.elim
theorem mov_snd : Snd Try.prog 19 (FSpec.of movG) := snd_run TIn_snd mixed Try.func19 dc19 300 fun args h K hc hS => by
  obtain ⟨a, b, m, rest, rfl, H, hS1⟩ := memF_spec hS
  clear hS
  have hS := hS1
  clear hS1
  unfold movM at hS
  split at hS
  · rename_i f t
    simp only [spec_ok] at hS
    by_cases c1 : m.fE f = 0
    · by_cases c2 : (m.gX f).gE t = 0
      · cases c3 : (m.gX f).eB t with
        | false =>
          simp only [M.mov, c1, c2, c3, Bool.false_eq_true, if_true, if_false] at hS
          simp (config := {maxSteps := 9999999}) only [EV0, zy, zx, zw, zv, zu, zq, zp, zj, zk, leT, zg, rvC, zZ, zY, zX, zW, ↓zV, ↓zU, reduceCtorEq, zQ, yz, yZ, yy, yx, yw, yv, yu, yq, yY, yp, yj, yk, yX, yW, yV, yg, yU, yQ, df19, TIn, fullG, memF_eq H, memF_set H, setM_fun H, fullM, empty2G, empty2M, slotF, slot_eta, cap_eta, Slot.cl, c1, c2, c3, put, fillP, sub, EVt]
          exact hS
        | true =>
          cases c4 : ((m.gX f).gX t).liB f (m.gV f) with
          | false =>
            simp only [M.mov, c1, c2, c3, c4, Bool.false_eq_true, if_true, if_false] at hS
            simp (config := {maxSteps := 9999999}) only [EV0, zy, zx, zw, zv, zu, zq, zp, zj, zk, leT, zg, rvC, zZ, zY, zX, zW, ↓zV, ↓zU, reduceCtorEq, zQ, yz, yZ, yy, yx, yw, yv, yu, yq, yY, yp, yj, yk, yX, yW, yV, yg, yU, yQ, df19, TIn, fullG, memF_eq H, memF_set H, setM_fun H, fullM, empty2G, empty2M, listedG, listedM, put2G, put2M, joinG, joinM, slotF, slot_eta, cap_eta, slotZ, capZ, Slot.cl, c1, c2, c3, c4, put, fillP, sub, EVt]
            exact hS
          | true =>
            simp only [M.mov, c1, c2, c3, c4, if_true] at hS
            simp (config := {maxSteps := 9999999}) only [EV0, zy, zx, zw, zv, zu, zq, zp, zj, zk, leT, zg, rvC, zZ, zY, zX, zW, ↓zV, ↓zU, reduceCtorEq, zQ, yz, yZ, yy, yx, yw, yv, yu, yq, yY, yp, yj, yk, yX, yW, yV, yg, yU, yQ, df19, TIn, fullG, memF_eq H, memF_set H, setM_fun H, fullM, empty2G, empty2M, listedG, listedM, put2G, put2M, joinG, joinM, slotF, slot_eta, cap_eta, slotZ, capZ, Slot.cl, c1, c2, c3, c4, put, fillP, sub, EVt]
            exact hS
      · simp only [M.mov, c1, c2, if_true, if_false] at hS
        simp (config := {maxSteps := 9999999}) only [EV0, zy, zx, zw, zv, zu, zq, zp, zj, zk, leT, zg, rvC, zZ, zY, zX, zW, ↓zV, ↓zU, reduceCtorEq, zQ, yz, yZ, yy, yx, yw, yv, yu, yq, yY, yp, yj, yk, yX, yW, yV, yg, yU, yQ, df19, TIn, fullG, memF_eq H, memF_set H, setM_fun H, fullM, empty2G, empty2M, Slot.cl, c1, c2, put, fillP, sub, EVt]
        exact hS
    · simp only [M.mov, c1, if_false] at hS
      simp (config := {maxSteps := 9999999}) only [EV0, zy, zx, zw, zv, zu, zq, zp, zj, zk, leT, zg, rvC, zZ, zY, zX, zW, ↓zV, ↓zU, reduceCtorEq, zQ, yz, yZ, yy, yx, yw, yv, yu, yq, yY, yp, yj, yk, yX, yW, yV, yg, yU, yQ, df19, TIn, fullG, memF_eq H, memF_set H, setM_fun H, fullM, Slot.cl, c1, put, fillP, sub, EVt]
      exact hS
  · exact hS.elim
end Go.Proofs.Ytpmobbehdpgnbaa

