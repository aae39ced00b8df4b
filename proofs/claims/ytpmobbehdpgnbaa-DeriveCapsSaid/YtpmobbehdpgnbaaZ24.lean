/- Law 12: places, the world of two memories, what an act does. -/
import Derived.Test.YtpmobbehdpgnbaaZ13
import Derived.Test.YtpmobbehdpgnbaaZ23
import Derived.Test.YtpmobbehdpgnbaaZ21
import Derived.Test.YtpmobbehdpgnbaaZ19
/- Package derive, and the document's: lay, empty, ends, copied, moves. -/
namespace Go.Proofs.Ytpmobbehdpgnbaa
open Go.D
open Nat (reduceAdd reducePow reduceMul reduceSub reduceLeDiff reduceLT reduceEqDiff)
open Int (reduceNeg reduceLE reduceEq reduceNe reduceToNat)
open Go.D renaming istep → zy, pickR → zx, bin1R → zw, un1R → zv, eqS → zu, eq1 → zq, cmpS → zp, cmp1 → zj, isNil → zk, shows → zg, result → zZ, q_cond_t → zV, q_cond_f → zU
open List renaming set → zY, replicate → zX
open Option renaming map → zW
open Nat renaming reduceAdd → zQ, reducePow → yz, reduceMul → yy, reduceSub → yx, reduceLeDiff → yw, reduceLT → yv, reduceEqDiff → yu
open Int renaming reduceNeg → yq, reduceLE → yp, reduceEq → yj, reduceNe → yk, reduceToNat → yg, reducePow → yZ, reduceLT → yY, reduceAdd → yX, reduceSub → yW, reduceMul → yV, reduceBEq → yU, reduceBNe → yQ
set_option linter.all false
set_option maxRecDepth 100000
set_option maxHeartbeats 4000000

theorem rder_snd : Snd Try.prog 34 (FSpec.of derG) := snd_run (noT_snd _) mixed Try.func34 dc34 300 fun args h K hc hS => by
  unfold derG at hS
  split at hS
  · rename_i x
    obtain ⟨c, e, hS2⟩ := capF_spec hS
    simp only [List.cons.injEq, and_true] at e
    subst e
    clear hS
    simp only [spec_ok, derC, derE] at hS2
    have v1 : IntKind.i64.wrap 1 = 1 := by decide
    have v2 : IntKind.i64.wrap 2 = 2 := by decide
    have v3 : IntKind.i64.wrap 3 = 3 := by decide
    have v4 : IntKind.i64.wrap 4 = 4 := by decide
    have v5 : IntKind.i64.wrap 5 = 5 := by decide
    have v6 : IntKind.i64.wrap 6 = 6 := by decide
    have v7 : IntKind.i64.wrap 7 = 7 := by decide
    cases h0 : c.ty == 0
    all_goals cases h1 : c.ty == 1
    all_goals cases h6 : c.ty == 6
    all_goals cases h7 : c.ty == 7
    all_goals cases h9 : c.ty == 9
    all_goals cases h10 : c.ty == 10
    all_goals cases h11 : c.ty == 11
    all_goals cases h13 : c.ty == 13
    all_goals cases h8 : c.ty == 8
    all_goals try (exfalso; simp only [beq_iff_eq] at *; omega)
    all_goals simp only [h0, h1, h6, h7, h8, h9, h10, h11, h13, Bool.or_self, Bool.or_true, Bool.true_or, Bool.or_false, Bool.false_or, Bool.false_eq_true, if_true, if_false, reduceEq, capZ, Cap.cl] at hS2
    all_goals (simp (config := {maxSteps := 9999999}) only [EV0, zy, zx, zw, zv, zu, zq, zp, zj, zk, leT, zg, rvC, zZ, zY, zX, zW, ↓zV, ↓zU, reduceCtorEq, zQ, yz, yZ, yy, yx, yw, yv, yu, yq, yY, yp, yj, yk, yX, yW, yV, yg, yU, yQ, df34, Cap.cl, h0, h1, h6, h7, h8, h9, h10, h11, h13, sub, put, fillP, EVt])
    all_goals try exact hS2
    all_goals rw [holds_loop]
    all_goals refine swp_loop fun X hX => ?_
    all_goals refine hX _ ?_
    all_goals refine run_sound (Tab.ok_Γ _) 200 _ _ _ _ ?_
    all_goals (simp (config := {maxSteps := 9999999}) only [EV0, zy, zx, zw, zv, zu, zq, zp, zj, zk, leT, zg, rvC, zZ, zY, zX, zW, ↓zV, ↓zU, reduceCtorEq, zQ, yz, yZ, yy, yx, yw, yv, yu, yq, yY, yp, yj, yk, yX, yW, yV, yg, yU, yQ, h0, h1, h6, h7, h8, h9, h10, h11, h13, v1, v2, v3, v4, v5, v6, v7, sub, put, fillP, EVt])
    all_goals try exact hS2
    all_goals refine hX _ ?_
    all_goals refine run_sound (Tab.ok_Γ _) 200 _ _ _ _ ?_
    all_goals (simp (config := {maxSteps := 9999999}) only [EV0, zy, zx, zw, zv, zu, zq, zp, zj, zk, leT, zg, rvC, zZ, zY, zX, zW, ↓zV, ↓zU, reduceCtorEq, zQ, yz, yZ, yy, yx, yw, yv, yu, yq, yY, yp, yj, yk, yX, yW, yV, yg, yU, yQ, h0, h1, h6, h7, h8, h9, h10, h11, h13, v1, v2, v3, v4, v5, v6, v7, sub, put, fillP, EVt])
    all_goals try exact hS2
    all_goals refine hX _ ?_
    all_goals refine run_sound (Tab.ok_Γ _) 200 _ _ _ _ ?_
    all_goals (simp (config := {maxSteps := 9999999}) only [EV0, zy, zx, zw, zv, zu, zq, zp, zj, zk, leT, zg, rvC, zZ, zY, zX, zW, ↓zV, ↓zU, reduceCtorEq, zQ, yz, yZ, yy, yx, yw, yv, yu, yq, yY, yp, yj, yk, yX, yW, yV, yg, yU, yQ, h0, h1, h6, h7, h8, h9, h10, h11, h13, v1, v2, v3, v4, v5, v6, v7, sub, put, fillP, EVt])
    all_goals try exact hS2
    all_goals refine hX _ ?_
    all_goals refine run_sound (Tab.ok_Γ _) 200 _ _ _ _ ?_
    all_goals (simp (config := {maxSteps := 9999999}) only [EV0, zy, zx, zw, zv, zu, zq, zp, zj, zk, leT, zg, rvC, zZ, zY, zX, zW, ↓zV, ↓zU, reduceCtorEq, zQ, yz, yZ, yy, yx, yw, yv, yu, yq, yY, yp, yj, yk, yX, yW, yV, yg, yU, yQ, h0, h1, h6, h7, h8, h9, h10, h11, h13, v1, v2, v3, v4, v5, v6, v7, sub, put, fillP, EVt])
    all_goals try exact hS2
    all_goals refine hX _ ?_
    all_goals refine run_sound (Tab.ok_Γ _) 200 _ _ _ _ ?_
    all_goals (simp (config := {maxSteps := 9999999}) only [EV0, zy, zx, zw, zv, zu, zq, zp, zj, zk, leT, zg, rvC, zZ, zY, zX, zW, ↓zV, ↓zU, reduceCtorEq, zQ, yz, yZ, yy, yx, yw, yv, yu, yq, yY, yp, yj, yk, yX, yW, yV, yg, yU, yQ, h0, h1, h6, h7, h8, h9, h10, h11, h13, v1, v2, v3, v4, v5, v6, v7, sub, put, fillP, EVt])
    all_goals try exact hS2
    all_goals refine hX _ ?_
    all_goals refine run_sound (Tab.ok_Γ _) 200 _ _ _ _ ?_
    all_goals (simp (config := {maxSteps := 9999999}) only [EV0, zy, zx, zw, zv, zu, zq, zp, zj, zk, leT, zg, rvC, zZ, zY, zX, zW, ↓zV, ↓zU, reduceCtorEq, zQ, yz, yZ, yy, yx, yw, yv, yu, yq, yY, yp, yj, yk, yX, yW, yV, yg, yU, yQ, h0, h1, h6, h7, h8, h9, h10, h11, h13, v1, v2, v3, v4, v5, v6, v7, sub, put, fillP, EVt])
    all_goals try exact hS2
    all_goals refine hX _ ?_
    all_goals refine run_sound (Tab.ok_Γ _) 200 _ _ _ _ ?_
    all_goals (simp (config := {maxSteps := 9999999}) only [EV0, zy, zx, zw, zv, zu, zq, zp, zj, zk, leT, zg, rvC, zZ, zY, zX, zW, ↓zV, ↓zU, reduceCtorEq, zQ, yz, yZ, yy, yx, yw, yv, yu, yq, yY, yp, yj, yk, yX, yW, yV, yg, yU, yQ, h0, h1, h6, h7, h8, h9, h10, h11, h13, v1, v2, v3, v4, v5, v6, v7, sub, put, fillP, EVt])
    all_goals try exact hS2
    all_goals refine hX _ ?_
    all_goals refine run_sound (Tab.ok_Γ _) 200 _ _ _ _ ?_
    all_goals (simp (config := {maxSteps := 9999999}) only [EV0, zy, zx, zw, zv, zu, zq, zp, zj, zk, leT, zg, rvC, zZ, zY, zX, zW, ↓zV, ↓zU, reduceCtorEq, zQ, yz, yZ, yy, yx, yw, yv, yu, yq, yY, yp, yj, yk, yX, yW, yV, yg, yU, yQ, h0, h1, h6, h7, h8, h9, h10, h11, h13, v1, v2, v3, v4, v5, v6, v7, sub, put, fillP, EVt])
    all_goals try exact hS2
  · exact hS.elim

/-! ### a guard -/
def pw (b : Int) : Int := IntKind.i64.wrap (1 * 2 ^ min b.toNat IntKind.i64.bits)
def guardB (g b : Int) : Bool := decide (0 ≤ b) && (decide (b ≤ 24) && (decide (0 ≤ g) && decide (g < pw b)))
def Cap.withG (c : Cap) (g b : Int) : Cap := ⟨c.ty, c.obj, c.bits, c.mark, g, b, c.badge, c.rights, c.asid, c.vaddr, c.line⟩
def guaG : List V → List Blk → Res
  | [x, .s (.i .i64 g), .s (.i .i64 b)], h => capF (fun c => .ok (.tup [.agg (if guardB g b = true then c.withG g b else c).cl, .s (.b (guardB g b))]) [] h) [x]
  | _, _ => .bad
theorem gua_snd : Snd Try.prog 94 (FSpec.of guaG) := snd_run (noT_snd _) mixed Try.func94 dc94 200 fun args h K hc hS => by
  unfold guaG at hS
  split at hS
  · rename_i x g b
    obtain ⟨c, e, hS2⟩ := capF_spec hS
    simp only [List.cons.injEq, and_true] at e
    subst e
    clear hS
    simp only [spec_ok, guardB, pw] at hS2
    by_cases c1 : b < 0
    · have d1 : ¬ 0 ≤ b := by omega
      simp only [d1, decide_false, Bool.false_and, Bool.false_eq_true, if_false, Cap.cl] at hS2
      simp (config := {maxSteps := 9999999}) only [EV0, zy, zx, zw, zv, zu, zq, zp, zj, zk, leT, zg, rvC, zZ, zY, zX, zW, ↓zV, ↓zU, reduceCtorEq, zQ, yz, yZ, yy, yx, yw, yv, yu, yq, yY, yp, yj, yk, yX, yW, yV, yg, yU, yQ, df94, Cap.cl, c1, sub, put, fillP, EVt]
      exact hS2
    have d1 : 0 ≤ b := by omega
    by_cases c2 : 24 < b
    · have d2 : ¬ b ≤ 24 := by omega
      simp only [d1, d2, decide_true, decide_false, Bool.true_and, Bool.false_and, Bool.false_eq_true, if_false, Cap.cl] at hS2
      simp (config := {maxSteps := 9999999}) only [EV0, zy, zx, zw, zv, zu, zq, zp, zj, zk, leT, zg, rvC, zZ, zY, zX, zW, ↓zV, ↓zU, reduceCtorEq, zQ, yz, yZ, yy, yx, yw, yv, yu, yq, yY, yp, yj, yk, yX, yW, yV, yg, yU, yQ, df94, Cap.cl, c1, c2, sub, put, fillP, EVt]
      exact hS2
    have d2 : b ≤ 24 := by omega
    by_cases c3 : g < 0
    · have d3 : ¬ 0 ≤ g := by omega
      simp only [d1, d2, d3, decide_true, decide_false, Bool.true_and, Bool.false_and, Bool.false_eq_true, if_false, Cap.cl] at hS2
      simp (config := {maxSteps := 9999999}) only [EV0, zy, zx, zw, zv, zu, zq, zp, zj, zk, leT, zg, rvC, zZ, zY, zX, zW, ↓zV, ↓zU, reduceCtorEq, zQ, yz, yZ, yy, yx, yw, yv, yu, yq, yY, yp, yj, yk, yX, yW, yV, yg, yU, yQ, df94, Cap.cl, c1, c2, c3, sub, put, fillP, EVt]
      exact hS2
    have d3 : 0 ≤ g := by omega
    by_cases c4 : IntKind.i64.wrap (1 * 2 ^ min b.toNat IntKind.i64.bits) ≤ g
    · have d4 : ¬ g < IntKind.i64.wrap (1 * 2 ^ min b.toNat IntKind.i64.bits) := by omega
      simp only [d1, d2, d3, d4, decide_true, decide_false, Bool.true_and, Bool.false_eq_true, if_false, Cap.cl] at hS2
      simp only [Int.one_mul] at c4
      simp (config := {maxSteps := 9999999}) only [EV0, zy, zx, zw, zv, zu, zq, zp, zj, zk, leT, zg, rvC, zZ, zY, zX, zW, ↓zV, ↓zU, reduceCtorEq, zQ, yz, yZ, yy, yx, yw, yv, yu, yq, yY, yp, yj, yk, yX, yW, yV, yg, yU, yQ, df94, Cap.cl, c1, c2, c3, c4, d1, Int.one_mul, sub, put, fillP, EVt]
      exact hS2
    · have d4 : g < IntKind.i64.wrap (1 * 2 ^ min b.toNat IntKind.i64.bits) := by omega
      simp only [d1, d2, d3, d4, decide_true, Bool.true_and, if_true, Cap.withG, Cap.cl] at hS2
      simp only [Int.one_mul] at c4
      simp (config := {maxSteps := 9999999}) only [EV0, zy, zx, zw, zv, zu, zq, zp, zj, zk, leT, zg, rvC, zZ, zY, zX, zW, ↓zV, ↓zU, reduceCtorEq, zQ, yz, yZ, yy, yx, yw, yv, yu, yq, yY, yp, yj, yk, yX, yW, yV, yg, yU, yQ, df94, Cap.cl, c1, c2, c3, c4, d1, Int.one_mul, sub, put, fillP, EVt]
      exact hS2
  · exact hS.elim
/-! ### laid as a child; empty -/
def M.layX (m : M) (p a : Int) (c : Cap) : M := ((m.pX a ⟨c, 0, 0, 0⟩).ins p a).2
def M.rlayX (m : M) (p a : Int) (c : Cap) : M := ((m.pX a ⟨c, 0, 0, 0⟩).rins p a).2
def lay9M (f : M → Int → Int → Cap → M) (b : Nat) (m : M) (st : M → List Blk) : List V → Res
  | [.s (.i .i64 p), .s (.i .i64 a), x] => capF (fun c => .ok (.tup []) [] (st (f m p a c))) [x]
  | _ => .bad
noncomputable def lay9G := memF (lay9M M.layX)
noncomputable def rlay9G := memF (lay9M M.rlayX)
noncomputable def T9c : Tab := addT 42 put2G (addT 57 put2G (addT 18 insG (addT 125 rinsG (noT))))
theorem T9c_snd : T9c.Snd Try.prog := addT_snd ok42 put2_snd (addT_snd ok57 rput2_snd (addT_snd ok18 ins_snd (addT_snd ok125 rins_snd ((noT_snd _)))))
theorem lay9_snd : Snd Try.prog 95 (FSpec.of lay9G) := snd_run T9c_snd mixed Try.func95 dc95 200 fun args h K hc hS => by
  obtain ⟨a, b, m, rest, rfl, H, hS1⟩ := memF_spec hS
  clear hS
  have hS := hS1
  clear hS1
  unfold lay9M at hS
  split at hS
  · rename_i p a' x
    obtain ⟨c, e, hS2⟩ := capF_spec hS
    simp only [List.cons.injEq, and_true] at e
    subst e
    clear hS
    simp only [spec_ok, M.layX] at hS2
    simp (config := {maxSteps := 9999999}) only [EV0, zy, zx, zw, zv, zu, zq, zp, zj, zk, leT, zg, rvC, zZ, zY, zX, zW, ↓zV, ↓zU, reduceCtorEq, zQ, yz, yZ, yy, yx, yw, yv, yu, yq, yY, yp, yj, yk, yX, yW, yV, yg, yU, yQ, df95, T9c, put2G, put2M, insG,insM, memF_eq H, memF_set H, setM_fun H, setM_self H, slotF, capF, slot_eta, cap_eta, Slot.cl, Cap.cl, sub, put, fillP, EVt]
    exact hS2
  · exact hS.elim
theorem rlay9_snd : Snd Try.prog 112 (FSpec.of rlay9G) := snd_run T9c_snd mixed Try.func112 dc112 200 fun args h K hc hS => by
  obtain ⟨a, b, m, rest, rfl, H, hS1⟩ := memF_spec hS
  clear hS
  have hS := hS1
  clear hS1
  unfold lay9M at hS
  split at hS
  · rename_i p a' x
    obtain ⟨c, e, hS2⟩ := capF_spec hS
    simp only [List.cons.injEq, and_true] at e
    subst e
    clear hS
    simp only [spec_ok, M.rlayX] at hS2
    simp (config := {maxSteps := 9999999}) only [EV0, zy, zx, zw, zv, zu, zq, zp, zj, zk, leT, zg, rvC, zZ, zY, zX, zW, ↓zV, ↓zU, reduceCtorEq, zQ, yz, yZ, yy, yx, yw, yv, yu, yq, yY, yp, yj, yk, yX, yW, yV, yg, yU, yQ, df112, T9c, put2G, put2M, rinsG,rinsM, memF_eq H, memF_set H, setM_fun H, setM_self H, slotF, capF, slot_eta, cap_eta, Slot.cl, Cap.cl, sub, put, fillP, EVt]
    exact hS2
  · exact hS.elim
def M.emB (m : M) (a : Int) : Bool := (m.gV a).cap.ty == 0
def em9M (b : Nat) (m : M) (st : M → List Blk) : List V → Res
  | [.s (.i .i64 a)] => .ok (.s (.b (m.emB a))) [] (st (m.gX a))
  | _ => .bad
noncomputable def em9G := memF em9M
noncomputable def T9d : Tab := addT 116 cap9G (noT)
theorem T9d_snd : T9d.Snd Try.prog := addT_snd ok116 cap9_snd ((noT_snd _))
theorem em9_snd : Snd Try.prog 126 (FSpec.of em9G) := snd_run T9d_snd mixed Try.func126 dc126 200 fun args h K hc hS => by
  obtain ⟨a, b, m, rest, rfl, H, hS1⟩ := memF_spec hS
  clear hS
  have hS := hS1
  clear hS1
  unfold em9M at hS
  split at hS
  · rename_i x
    simp only [spec_ok, M.emB] at hS
    by_cases c1 : (m.gV x).cap.ty = 0
    · have e := M.gV_null c1
      simp only [e, slotZ, capZ, beq_self_eq_true] at hS
      simp (config := {maxSteps := 9999999}) only [EV0, zy, zx, zw, zv, zu, zq, zp, zj, zk, leT, zg, rvC, zZ, zY, zX, zW, ↓zV, ↓zU, reduceCtorEq, zQ, yz, yZ, yy, yx, yw, yv, yu, yq, yY, yp, yj, yk, yX, yW, yV, yg, yU, yQ, df126, T9d, cap9G, cap9M, e, slotZ, capZ, memF_eq H, memF_set H, setM_fun H, setM_self H, slotF, capF, slot_eta, cap_eta, Slot.cl, Cap.cl, sub, put, fillP, EVt]
      exact hS
    · have c2 : ((m.gV x).cap.ty == 0) = false := by simpa using c1
      simp only [c2] at hS
      simp (config := {maxSteps := 9999999}) only [EV0, zy, zx, zw, zv, zu, zq, zp, zj, zk, leT, zg, rvC, zZ, zY, zX, zW, ↓zV, ↓zU, reduceCtorEq, zQ, yz, yZ, yy, yx, yw, yv, yu, yq, yY, yp, yj, yk, yX, yW, yV, yg, yU, yQ, df126, T9d, cap9G, cap9M, c2, memF_eq H, memF_set H, setM_fun H, setM_self H, slotF, capF, slot_eta, cap_eta, Slot.cl, Cap.cl, sub, put, fillP, EVt]
      exact hS
  · exact hS.elim
theorem gX_emB (m : M) (a x : Int) : (m.gX a).emB x = m.emB x := by simp only [M.emB, gX_gV]

/-! ### two slots -/
def M.enE (m : M) (f t : Int) : Int := if m.emB f = true then 121 else if m.emB t = true then 0 else 120
def M.enX (m : M) (f t : Int) : M := if m.emB f = true then m.gX f else (m.gX f).gX t
def M.renX (m : M) (f t : Int) : M := (m.gX f).gX t
def en9M (x : M → Int → Int → M) (b : Nat) (m : M) (st : M → List Blk) : List V → Res
  | [.s (.i .i64 f), .s (.i .i64 t)] => .ok (.s (.i .i64 (m.enE f t))) [] (st (x m f t))
  | _ => .bad
noncomputable def en9G := memF (en9M M.enX)
noncomputable def T9e : Tab := addT 126 em9G (noT)
theorem T9e_snd : T9e.Snd Try.prog := addT_snd ok126 em9_snd ((noT_snd _))
theorem en9_snd : Snd Try.prog 115 (FSpec.of en9G) := snd_run T9e_snd mixed Try.func115 dc115 200 fun args h K hc hS => by
  obtain ⟨a, b, m, rest, rfl, H, hS1⟩ := memF_spec hS
  clear hS
  have hS := hS1
  clear hS1
  unfold en9M at hS
  split at hS
  · rename_i f t
    simp only [spec_ok, M.enE, M.enX, M.renX] at hS
    cases c1 : m.emB f
    · cases c2 : m.emB t
      all_goals simp only [c1, c2, Bool.false_eq_true, if_true, if_false] at hS
      all_goals (simp (config := {maxSteps := 9999999}) only [EV0, zy, zx, zw, zv, zu, zq, zp, zj, zk, leT, zg, rvC, zZ, zY, zX, zW, ↓zV, ↓zU, reduceCtorEq, zQ, yz, yZ, yy, yx, yw, yv, yu, yq, yY, yp, yj, yk, yX, yW, yV, yg, yU, yQ, df115, T9e, em9G, em9M, c1, c2, gX_emB, memF_eq H, memF_set H, setM_fun H, setM_self H, slotF, capF, slot_eta, cap_eta, Slot.cl, Cap.cl, sub, put, fillP, EVt])
      all_goals exact hS
    · simp only [c1, if_true] at hS
      cases c2 : m.emB t
      all_goals (simp (config := {maxSteps := 9999999}) only [EV0, zy, zx, zw, zv, zu, zq, zp, zj, zk, leT, zg, rvC, zZ, zY, zX, zW, ↓zV, ↓zU, reduceCtorEq, zQ, yz, yZ, yy, yx, yw, yv, yu, yq, yY, yp, yj, yk, yX, yW, yV, yg, yU, yQ, df115, T9e, em9G, em9M, c1, c2, gX_emB, memF_eq H, memF_set H, setM_fun H, setM_self H, slotF, capF, slot_eta, cap_eta, Slot.cl, Cap.cl, sub, put, fillP, EVt])
      all_goals exact hS
  · exact hS.elim
theorem enX_w (m : M) (f t : Int) : (m.enX f t).w = m.w := by
  unfold M.enX; split
  · exact gX_w _ _
  · exact (gX_w _ _).trans (gX_w _ _)
theorem renX_w (m : M) (f t : Int) : (m.renX f t).w = m.w := (gX_w _ _).trans (gX_w _ _)
theorem enX_gV (m : M) (f t x : Int) : (m.enX f t).gV x = m.gV x := gV_w (enX_w m f t) x
/-! ### what a copy lays down -/
def M.coE (m : M) (f t : Int) : Int := if m.enE f t = 0 then (if derE (m.gV f).cap = 0 then (if fitB (derC (m.gV f).cap) t = true then 0 else 122) else derE (m.gV f).cap) else m.enE f t
def M.coC (m : M) (f t r : Int) : Cap := if m.coE f t = 0 then (derC (m.gV f).cap).mask r else capZ
def M.coX (m : M) (x : M → Int → Int → M) (f t : Int) : M := if m.enE f t = 0 then (x m f t).gX f else x m f t
def co9M (x : M → Int → Int → M) (b : Nat) (m : M) (st : M → List Blk) : List V → Res
  | [.s (.i .i64 f), .s (.i .i64 t), .s (.i .i64 r)] => .ok (.tup [.agg (m.coC f t r).cl, .s (.i .i64 (m.coE f t))]) [] (st (m.coX x f t))
  | _ => .bad
noncomputable def co9G := memF (co9M M.enX)
noncomputable def T9f : Tab := addT 115 en9G (addT 116 cap9G (addT 33 derG (addT 34 derG (addT 117 fitG (addT 118 cmaskG (noT))))))
theorem T9f_snd : T9f.Snd Try.prog := addT_snd ok115 en9_snd (addT_snd ok116 cap9_snd (addT_snd ok33 der_snd (addT_snd ok34 rder_snd (addT_snd ok117 fit_snd (addT_snd ok118 cmask_snd ((noT_snd _)))))))
theorem co9_snd : Snd Try.prog 93 (FSpec.of co9G) := snd_run T9f_snd mixed Try.func93 dc93 200 fun args h K hc hS => by
  obtain ⟨a, b, m, rest, rfl, H, hS1⟩ := memF_spec hS
  clear hS
  have hS := hS1
  clear hS1
  unfold co9M at hS
  split at hS
  · rename_i f t r
    simp only [spec_ok, M.coC, M.coE, M.coX] at hS
    obtain ⟨c, hc1⟩ : ∃ c, (m.gV f).cap = c := ⟨_, rfl⟩
    by_cases c1 : m.enE f t = 0
    · by_cases c2 : derE c = 0
      · obtain ⟨d, hd⟩ : ∃ d, derC c = d := ⟨_, rfl⟩
        cases c3 : fitB d t
        · simp only [hc1, hd, c1, c2, c3, Bool.false_eq_true, if_true, if_false, reduceEq, capZ, Cap.cl] at hS
          simp (config := {maxSteps := 9999999}) only [EV0, zy, zx, zw, zv, zu, zq, zp, zj, zk, leT, zg, rvC, zZ, zY, zX, zW, ↓zV, ↓zU, reduceCtorEq, zQ, yz, yZ, yy, yx, yw, yv, yu, yq, yY, yp, yj, yk, yX, yW, yV, yg, yU, yQ, df93, T9f, en9G,enX_gV, en9M, cap9G, cap9M, derG, fitG, cmaskG, hc1, hd, c1, c2, c3, capZ, memF_eq H, memF_set H, setM_fun H, setM_self H, slotF, capF, slot_eta, cap_eta, Slot.cl, Cap.cl, sub, put, fillP, EVt]
          exact hS
        · simp only [hc1, hd, c1, c2, c3, if_true, if_false, capZ, Cap.cl] at hS
          simp (config := {maxSteps := 9999999}) only [EV0, zy, zx, zw, zv, zu, zq, zp, zj, zk, leT, zg, rvC, zZ, zY, zX, zW, ↓zV, ↓zU, reduceCtorEq, zQ, yz, yZ, yy, yx, yw, yv, yu, yq, yY, yp, yj, yk, yX, yW, yV, yg, yU, yQ, df93, T9f, en9G,enX_gV, en9M, cap9G, cap9M, derG, fitG, cmaskG, hc1, hd, c1, c2, c3, capZ, memF_eq H, memF_set H, setM_fun H, setM_self H, slotF, capF, slot_eta, cap_eta, Slot.cl, Cap.cl, sub, put, fillP, EVt]
          exact hS
      · have hz : derC c = capZ := by unfold derC; rw [if_neg c2]
        simp only [hc1, c1, c2, if_true, if_false, capZ, Cap.cl] at hS
        simp (config := {maxSteps := 9999999}) only [EV0, zy, zx, zw, zv, zu, zq, zp, zj, zk, leT, zg, rvC, zZ, zY, zX, zW, ↓zV, ↓zU, reduceCtorEq, zQ, yz, yZ, yy, yx, yw, yv, yu, yq, yY, yp, yj, yk, yX, yW, yV, yg, yU, yQ, df93, T9f, en9G,enX_gV, en9M, cap9G, cap9M, derG, fitG, cmaskG, hc1, hz, c1, c2, capZ, memF_eq H, memF_set H, setM_fun H, setM_self H, slotF, capF, slot_eta, cap_eta, Slot.cl, Cap.cl, sub, put, fillP, EVt]
        exact hS
    · simp only [c1, if_false, capZ, Cap.cl] at hS
      simp (config := {maxSteps := 9999999}) only [EV0, zy, zx, zw, zv, zu, zq, zp, zj, zk, leT, zg, rvC, zZ, zY, zX, zW, ↓zV, ↓zU, reduceCtorEq, zQ, yz, yZ, yy, yx, yw, yv, yu, yq, yY, yp, yj, yk, yX, yW, yV, yg, yU, yQ, df93, T9f, en9G,enX_gV, en9M, cap9G, cap9M, derG, fitG, cmaskG, c1, capZ, memF_eq H, memF_set H, setM_fun H, setM_self H, slotF, capF, slot_eta, cap_eta, Slot.cl, Cap.cl, sub, put, fillP, EVt]
      exact hS
  · exact hS.elim
end Go.Proofs.Ytpmobbehdpgnbaa

/- Package derive, and the document's: Copy, Mint, Move, Mutate, Rotate. -/
namespace Go.Proofs.Ytpmobbehdpgnbaa
open Go.D
open Nat (reduceAdd reducePow reduceMul reduceSub reduceLeDiff reduceLT reduceEqDiff)
open Int (reduceNeg reduceLE reduceEq reduceNe reduceToNat)
open Go.D renaming istep → zy, pickR → zx, bin1R → zw, un1R → zv, eqS → zu, eq1 → zq, cmpS → zp, cmp1 → zj, isNil → zk, shows → zg, result → zZ, q_cond_t → zV, q_cond_f → zU
open List renaming set → zY, replicate → zX
open Option renaming map → zW
open Nat renaming reduceAdd → zQ, reducePow → yz, reduceMul → yy, reduceSub → yx, reduceLeDiff → yw, reduceLT → yv, reduceEqDiff → yu
open Int renaming reduceNeg → yq, reduceLE → yp, reduceEq → yj, reduceNe → yk, reduceToNat → yg, reducePow → yZ, reduceLT → yY, reduceAdd → yX, reduceSub → yW, reduceMul → yV, reduceBEq → yU, reduceBNe → yQ
set_option linter.all false
set_option maxRecDepth 100000
set_option maxHeartbeats 8000000

def M.cpX (m : M) (x : M → Int → Int → M) (l : M → Int → Int → Cap → M) (f t r : Int) : M := if m.coE f t = 0 then l (m.coX x f t) f t (m.coC f t r) else m.coX x f t
def cp9M (x : M → Int → Int → M) (l : M → Int → Int → Cap → M) (b : Nat) (m : M) (st : M → List Blk) : List V → Res
  | [.s (.i .i64 f), .s (.i .i64 t), .s (.i .i64 r)] => .ok (.s (.i .i64 (m.coE f t))) [] (st (m.cpX x l f t r))
  | _ => .bad
noncomputable def cp9G := memF (cp9M M.enX M.layX)
noncomputable def T9g : Tab := addT 93 co9G (addT 95 lay9G (addT 112 rlay9G (noT)))
theorem T9g_snd : T9g.Snd Try.prog := addT_snd ok93 co9_snd (addT_snd ok95 lay9_snd (addT_snd ok112 rlay9_snd ((noT_snd _))))
theorem cp9_snd : Snd Try.prog 66 (FSpec.of cp9G) := snd_run T9g_snd mixed Try.func66 dc66 200 fun args h K hc hS => by
  obtain ⟨a, b, m, rest, rfl, H, hS1⟩ := memF_spec hS
  clear hS
  have hS := hS1
  clear hS1
  unfold cp9M at hS
  split at hS
  · rename_i f t r
    simp only [spec_ok, M.cpX] at hS
    by_cases c1 : m.coE f t = 0
    · simp only [c1, if_true] at hS
      simp (config := {maxSteps := 9999999}) only [EV0, zy, zx, zw, zv, zu, zq, zp, zj, zk, leT, zg, rvC, zZ, zY, zX, zW, ↓zV, ↓zU, reduceCtorEq, zQ, yz, yZ, yy, yx, yw, yv, yu, yq, yY, yp, yj, yk, yX, yW, yV, yg, yU, yQ, df66, T9g, co9G,lay9G, co9M, lay9M, c1, memF_eq H, memF_set H, setM_fun H, setM_self H, slotF, capF, slot_eta, cap_eta, Slot.cl, Cap.cl, sub, put, fillP, EVt]
      exact hS
    · simp only [c1, if_false] at hS
      simp (config := {maxSteps := 9999999}) only [EV0, zy, zx, zw, zv, zu, zq, zp, zj, zk, leT, zg, rvC, zZ, zY, zX, zW, ↓zV, ↓zU, reduceCtorEq, zQ, yz, yZ, yy, yx, yw, yv, yu, yq, yY, yp, yj, yk, yX, yW, yV, yg, yU, yQ, df66, T9g, co9G,lay9G, co9M, lay9M, c1, memF_eq H, memF_set H, setM_fun H, setM_self H, slotF, capF, slot_eta, cap_eta, Slot.cl, Cap.cl, sub, put, fillP, EVt]
      exact hS
  · exact hS.elim
/-! ### Mint -/
def epB (c : Cap) : Bool := c.ty == 4 || c.ty == 5
def Cap.withB (c : Cap) (n : Int) : Cap := ⟨c.ty, c.obj, c.bits, c.mark, c.guard, c.gbits, n, c.rights, c.asid, c.vaddr, c.line⟩
def bdgB (n : Int) : Bool := decide (0 ≤ n) && decide (n < 268435456)
def Cap.miE (c : Cap) (n g b : Int) : Int := if epB c = true then (if (c.badge == 0) = true then (if bdgB n = true then 0 else 1) else 122) else if (c.ty == 2) = true then (if guardB g b = true then 0 else 1) else 0
def Cap.miC (c : Cap) (n g b : Int) : Cap := if epB c = true then c.withB n else if (c.ty == 2) = true then c.withG g b else c
def M.miE (m : M) (f t r n g b : Int) : Int := if m.coE f t = 0 then (m.coC f t r).miE n g b else m.coE f t
def M.miX (m : M) (x : M → Int → Int → M) (l : M → Int → Int → Cap → M) (f t r n g b : Int) : M := if m.miE f t r n g b = 0 then l (m.coX x f t) f t ((m.coC f t r).miC n g b) else m.coX x f t
def mi9M (x : M → Int → Int → M) (l : M → Int → Int → Cap → M) (_ : Nat) (m : M) (st : M → List Blk) : List V → Res
  | [.s (.i .i64 f), .s (.i .i64 t), .s (.i .i64 r), .s (.i .i64 n), .s (.i .i64 g), .s (.i .i64 b)] => .ok (.s (.i .i64 (m.miE f t r n g b))) [] (st (m.miX x l f t r n g b))
  | _ => .bad
noncomputable def mi9G := memF (mi9M M.enX M.layX)
noncomputable def T9h : Tab := addT 94 guaG (T9g)
theorem T9h_snd : T9h.Snd Try.prog := addT_snd ok94 gua_snd (T9g_snd)
theorem mi9_snd : Snd Try.prog 65 (FSpec.of mi9G) := snd_run T9h_snd mixed Try.func65 dc65 300 fun args h K hc hS => by
  obtain ⟨a, b, m, rest, rfl, H, hS1⟩ := memF_spec hS
  clear hS
  have hS := hS1
  clear hS1
  unfold mi9M at hS
  split at hS
  · rename_i f t r n g b'
    simp only [spec_ok, M.miX, M.miE] at hS
    by_cases c1 : m.coE f t = 0
    · obtain ⟨c, hc1⟩ : ∃ c, m.coC f t r = c := ⟨_, rfl⟩
      simp only [c1, hc1, if_true, Cap.miE, Cap.miC, epB, bdgB] at hS
      cases k4 : c.ty == 4
      all_goals cases k5 : c.ty == 5
      all_goals cases k2 : c.ty == 2
      all_goals try (exfalso; simp only [beq_iff_eq] at *; omega)
      all_goals simp only [k4, k5, k2, Bool.or_self, Bool.or_true, Bool.true_or, Bool.or_false, Bool.false_or, Bool.false_eq_true, if_true, if_false] at hS
      all_goals try (first | exact absurd k4 (by decide) | skip)
      · -- nothing to say
        simp (config := {maxSteps := 9999999}) only [EV0, zy, zx, zw, zv, zu, zq, zp, zj, zk, leT, zg, rvC, zZ, zY, zX, zW, ↓zV, ↓zU, reduceCtorEq, zQ, yz, yZ, yy, yx, yw, yv, yu, yq, yY, yp, yj, yk, yX, yW, yV, yg, yU, yQ, df65, T9h, T9g, co9G,lay9G,guaG, co9M, lay9M, c1, hc1, k4, k5, k2, memF_eq H, memF_set H, setM_fun H, setM_self H, slotF, capF, slot_eta, cap_eta, Slot.cl, Cap.cl, sub, put, fillP, EVt]
        exact hS
      · -- a CNode's
        cases q : guardB g b'
        all_goals simp only [q, Bool.false_eq_true, if_true, if_false, reduceEq, Cap.withG] at hS
        all_goals (simp (config := {maxSteps := 9999999}) only [EV0, zy, zx, zw, zv, zu, zq, zp, zj, zk, leT, zg, rvC, zZ, zY, zX, zW, ↓zV, ↓zU, reduceCtorEq, zQ, yz, yZ, yy, yx, yw, yv, yu, yq, yY, yp, yj, yk, yX, yW, yV, yg, yU, yQ, df65, T9h, T9g, co9G,lay9G,guaG, co9M, lay9M, c1, hc1, k4, k5, k2, q, Cap.withG, memF_eq H, memF_set H, setM_fun H, setM_self H, slotF, capF, slot_eta, cap_eta, Slot.cl, Cap.cl, sub, put, fillP, EVt])
        all_goals exact hS
      all_goals (
        cases kb : c.badge == 0
        · simp only [kb, Bool.false_eq_true, if_false, reduceEq] at hS
          simp (config := {maxSteps := 9999999}) only [EV0, zy, zx, zw, zv, zu, zq, zp, zj, zk, leT, zg, rvC, zZ, zY, zX, zW, ↓zV, ↓zU, reduceCtorEq, zQ, yz, yZ, yy, yx, yw, yv, yu, yq, yY, yp, yj, yk, yX, yW, yV, yg, yU, yQ, df65, T9h, T9g, co9G,lay9G,guaG, co9M, lay9M, c1, hc1, k4, k5, k2, kb, bne, memF_eq H, memF_set H, setM_fun H, setM_self H, slotF, capF, slot_eta, cap_eta, Slot.cl, Cap.cl, sub, put, fillP, EVt]
          exact hS
        · by_cases q1 : 0 ≤ n
          · by_cases q2 : n < 268435456
            · have q3 : ¬ n < 0 := by omega
              have q4 : ¬ 268435456 ≤ n := by omega
              simp only [kb, q1, q2, decide_true, Bool.and_self, if_true, Cap.withB] at hS
              simp (config := {maxSteps := 9999999}) only [EV0, zy, zx, zw, zv, zu, zq, zp, zj, zk, leT, zg, rvC, zZ, zY, zX, zW, ↓zV, ↓zU, reduceCtorEq, zQ, yz, yZ, yy, yx, yw, yv, yu, yq, yY, yp, yj, yk, yX, yW, yV, yg, yU, yQ, df65, T9h, T9g, co9G,lay9G,guaG, co9M, lay9M, c1, hc1, k4, k5, k2, kb, bne, q1, q2, q3, q4, memF_eq H, memF_set H, setM_fun H, setM_self H, slotF, capF, slot_eta, cap_eta, Slot.cl, Cap.cl, sub, put, fillP, EVt]
              exact hS
            · have q3 : ¬ n < 0 := by omega
              have q4 : 268435456 ≤ n := by omega
              simp only [kb, q1, q2, decide_true, decide_false, Bool.and_false, Bool.false_eq_true, if_true, if_false, reduceEq] at hS
              simp (config := {maxSteps := 9999999}) only [EV0, zy, zx, zw, zv, zu, zq, zp, zj, zk, leT, zg, rvC, zZ, zY, zX, zW, ↓zV, ↓zU, reduceCtorEq, zQ, yz, yZ, yy, yx, yw, yv, yu, yq, yY, yp, yj, yk, yX, yW, yV, yg, yU, yQ, df65, T9h, T9g, co9G,lay9G,guaG, co9M, lay9M, c1, hc1, k4, k5, k2, kb, bne, q1, q2, q3, q4, memF_eq H, memF_set H, setM_fun H, setM_self H, slotF, capF, slot_eta, cap_eta, Slot.cl, Cap.cl, sub, put, fillP, EVt]
              exact hS
          · have q3 : n < 0 := by omega
            simp only [kb, q1, decide_false, Bool.false_and, Bool.false_eq_true, if_true, if_false, reduceEq] at hS
            simp (config := {maxSteps := 9999999}) only [EV0, zy, zx, zw, zv, zu, zq, zp, zj, zk, leT, zg, rvC, zZ, zY, zX, zW, ↓zV, ↓zU, reduceCtorEq, zQ, yz, yZ, yy, yx, yw, yv, yu, yq, yY, yp, yj, yk, yX, yW, yV, yg, yU, yQ, df65, T9h, T9g, co9G,lay9G,guaG, co9M, lay9M, c1, hc1, k4, k5, k2, kb, bne, q1, q3, memF_eq H, memF_set H, setM_fun H, setM_self H, slotF, capF, slot_eta, cap_eta, Slot.cl, Cap.cl, sub, put, fillP, EVt]
            exact hS)
    · simp only [c1, if_false] at hS
      simp (config := {maxSteps := 9999999}) only [EV0, zy, zx, zw, zv, zu, zq, zp, zj, zk, leT, zg, rvC, zZ, zY, zX, zW, ↓zV, ↓zU, reduceCtorEq, zQ, yz, yZ, yy, yx, yw, yv, yu, yq, yY, yp, yj, yk, yX, yW, yV, yg, yU, yQ, df65, T9h, T9g, co9G,lay9G,guaG, co9M, lay9M, c1, memF_eq H, memF_set H, setM_fun H, setM_self H, slotF, capF, slot_eta, cap_eta, Slot.cl, Cap.cl, sub, put, fillP, EVt]
      exact hS
  · exact hS.elim
/-! ### Move, Mutate -/
def M.moE (m : M) (f t : Int) : Int := if m.enE f t = 0 then (if fitB (m.gV f).cap t = true then 0 else 122) else m.enE f t
def mo9M (x : M → Int → Int → M) (b : Nat) (m : M) (st : M → List Blk) : List V → Res
  | [.s (.i .i64 f), .s (.i .i64 t)] => .ok (.s (.i .i64 (m.moE f t))) [] (st (m.coX x f t))
  | _ => .bad
noncomputable def mo9G := memF (mo9M M.enX)
theorem mo9_snd : Snd Try.prog 96 (FSpec.of mo9G) := snd_run T9f_snd mixed Try.func96 dc96 200 fun args h K hc hS => by
  obtain ⟨a, b, m, rest, rfl, H, hS1⟩ := memF_spec hS
  clear hS
  have hS := hS1
  clear hS1
  unfold mo9M at hS
  split at hS
  · rename_i f t
    simp only [spec_ok, M.moE, M.coX] at hS
    obtain ⟨c, hc1⟩ : ∃ c, (m.gV f).cap = c := ⟨_, rfl⟩
    by_cases c1 : m.enE f t = 0
    · cases c3 : fitB c t
      all_goals simp only [hc1, c1, c3, Bool.false_eq_true, if_true, if_false] at hS
      all_goals (simp (config := {maxSteps := 9999999}) only [EV0, zy, zx, zw, zv, zu, zq, zp, zj, zk, leT, zg, rvC, zZ, zY, zX, zW, ↓zV, ↓zU, reduceCtorEq, zQ, yz, yZ, yy, yx, yw, yv, yu, yq, yY, yp, yj, yk, yX, yW, yV, yg, yU, yQ, df96, T9f, en9G,enX_gV, en9M, cap9G, cap9M, fitG, hc1, c1, c3, memF_eq H, memF_set H, setM_fun H, setM_self H, slotF, capF, slot_eta, cap_eta, Slot.cl, Cap.cl, sub, put, fillP, EVt])
      all_goals exact hS
    · simp only [c1, if_false] at hS
      simp (config := {maxSteps := 9999999}) only [EV0, zy, zx, zw, zv, zu, zq, zp, zj, zk, leT, zg, rvC, zZ, zY, zX, zW, ↓zV, ↓zU, reduceCtorEq, zQ, yz, yZ, yy, yx, yw, yv, yu, yq, yY, yp, yj, yk, yX, yW, yV, yg, yU, yQ, df96, T9f, en9G,enX_gV, en9M, cap9G, cap9M, fitG, hc1, c1, memF_eq H, memF_set H, setM_fun H, setM_self H, slotF, capF, slot_eta, cap_eta, Slot.cl, Cap.cl, sub, put, fillP, EVt]
      exact hS
  · exact hS.elim
theorem coX_w (m : M) (x : M → Int → Int → M) (f t : Int) (h : (x m f t).w = m.w) : (m.coX x f t).w = m.w := by
  unfold M.coX; split
  · exact (gX_w _ _).trans h
  · exact h
def M.mvX (m : M) (x : M → Int → Int → M) (mv : M → Int → Int → Int × M) (f t : Int) : M := if m.moE f t = 0 then (mv (m.coX x f t) f t).2 else m.coX x f t
def mv9M (x : M → Int → Int → M) (mv : M → Int → Int → Int × M) (b : Nat) (m : M) (st : M → List Blk) : List V → Res
  | [.s (.i .i64 f), .s (.i .i64 t)] => .ok (.s (.i .i64 (m.moE f t))) [] (st (m.mvX x mv f t))
  | _ => .bad
noncomputable def mv9G := memF (mv9M M.enX M.mov)
noncomputable def T9i : Tab := addT 96 mo9G (addT 19 movG (addT 116 cap9G (addT 94 guaG (noT))))
theorem T9i_snd : T9i.Snd Try.prog := addT_snd ok96 mo9_snd (addT_snd ok19 mov_snd (addT_snd ok116 cap9_snd (addT_snd ok94 gua_snd ((noT_snd _)))))
theorem mv9_snd : Snd Try.prog 67 (FSpec.of mv9G) := snd_run T9i_snd mixed Try.func67 dc67 200 fun args h K hc hS => by
  obtain ⟨a, b, m, rest, rfl, H, hS1⟩ := memF_spec hS
  clear hS
  have hS := hS1
  clear hS1
  unfold mv9M at hS
  split at hS
  · rename_i f t
    simp only [spec_ok, M.mvX] at hS
    by_cases c1 : m.moE f t = 0
    · simp only [c1, if_true] at hS
      simp (config := {maxSteps := 9999999}) only [EV0, zy, zx, zw, zv, zu, zq, zp, zj, zk, leT, zg, rvC, zZ, zY, zX, zW, ↓zV, ↓zU, reduceCtorEq, zQ, yz, yZ, yy, yx, yw, yv, yu, yq, yY, yp, yj, yk, yX, yW, yV, yg, yU, yQ, df67, T9i, mo9G,movG,movM, mo9M, c1, memF_eq H, memF_set H, setM_fun H, setM_self H, slotF, capF, slot_eta, cap_eta, Slot.cl, Cap.cl, sub, put, fillP, EVt]
      exact hS
    · simp only [c1, if_false] at hS
      simp (config := {maxSteps := 9999999}) only [EV0, zy, zx, zw, zv, zu, zq, zp, zj, zk, leT, zg, rvC, zZ, zY, zX, zW, ↓zV, ↓zU, reduceCtorEq, zQ, yz, yZ, yy, yx, yw, yv, yu, yq, yY, yp, yj, yk, yX, yW, yV, yg, yU, yQ, df67, T9i, mo9G,movG,movM, mo9M, c1, memF_eq H, memF_set H, setM_fun H, setM_self H, slotF, capF, slot_eta, cap_eta, Slot.cl, Cap.cl, sub, put, fillP, EVt]
      exact hS
  · exact hS.elim
/-! ### Rotate -/
def M.roE (m : M) (t p f : Int) : Int :=
  if p = t ∨ p = f then 1 else if (m.emB p || m.emB f) = true then 121 else if ¬ t = f ∧ m.emB t = false then 120
  else if (fitB (m.gV p).cap t && fitB (m.gV f).cap p) = true then 0 else 122
def M.roA (m : M) (mv sw : M → Int → Int → Int × M) (t p f : Int) : M := if t = f then (sw m p f).2 else (mv (mv m p t).2 f p).2
def M.roR (m s : M) (t p f : Int) : M :=
  if fitB (m.gV p).cap t = true then (if fitB (m.gV f).cap p = true then ((s.gX p).gX f).roA M.mov M.swp t p f else (s.gX p).gX f) else s.gX p
def M.roX (m : M) (t p f : Int) : M :=
  if p = t ∨ p = f then m else if m.emB p = true then m.gX p else if m.emB f = true then (m.gX p).gX f
  else if t = f then m.roR ((m.gX p).gX f) t p f else if m.emB t = true then m.roR (((m.gX p).gX f).gX t) t p f else ((m.gX p).gX f).gX t
def M.rroX (m : M) (t p f : Int) : M :=
  if p = t ∨ p = f then m else if (m.emB p || m.emB f) = true then ((m.gX p).gX f).gX t else if ¬ t = f ∧ m.emB t = false then ((m.gX p).gX f).gX t
  else if (fitB (m.gV p).cap t && fitB (m.gV f).cap p) = true then (((((m.gX p).gX f).gX t).gX p).gX f).roA M.rmov M.rswp t p f else ((((m.gX p).gX f).gX t).gX p).gX f
end Go.Proofs.Ytpmobbehdpgnbaa

/- Law 12: places, the world of two memories, what an act does. -/
namespace Go.Proofs.Ytpmobbehdpgnbaa
open Go.D
set_option linter.all false
set_option maxRecDepth 100000
set_option maxHeartbeats 8000000

/-! ### a world -/
def wB (n : Nat) : Blk := ⟨.rw, [.p (.g (n + 2)) 0, .p (.g n) 0], 2⟩
def wH (h : List Blk) (m r : M) (X : List Blk) : List Blk := memH (memH h r) m ++ (wB h.length :: X)
theorem wH_at (h : List Blk) (m r : M) (X : List Blk) : (wH h m r X)[h.length + 4]? = some (wB h.length) := by
  unfold wH
  rw [List.getElem?_append_right (by simp only [memH_len]; omega)]
  simp only [memH_len, show h.length + 4 - (h.length + 2 + 2) = 0 by omega, List.getElem?_cons_zero]
theorem wH_m {f : Nat → M → (M → List Blk) → List V → Res} {h X : List Blk} {m r : M} {rest : List V} : memF f (.s (.p (.g (h.length + 2)) 0) :: rest) (wH h m r X) = f (h.length + 3) m (fun m => wH h m r X) rest := memF_new2A
open Classical in
noncomputable def wldOf (H : List Blk) (w : Nat) : Option (List Blk × M × M × List Blk) := if hx : ∃ x : List Blk × M × M × List Blk, H = wH x.1 x.2.1 x.2.2.1 x.2.2.2 ∧ w = x.1.length + 4 then some (Classical.choose hx) else none
/-! ### an act -/
structure Act where
  wh : Int
  a : Int
  b : Int
  c : Int
  rg : Int
  bd : Int
  g : Int
  n : Int
def Act.cl (x : Act) : List S := [.i .i64 x.wh, .i .i64 x.a, .i .i64 x.b, .i .i64 x.c, .i .i64 x.rg, .i .i64 x.bd, .i .i64 x.g, .i .i64 x.n]
end Go.Proofs.Ytpmobbehdpgnbaa

