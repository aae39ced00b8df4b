/- Law 12: the caps of all places. -/
import Derived.Test.YtpmobbehdpgnbaaZ13
import Derived.Test.YtpmobbehdpgnbaaZ24
import Derived.Test.YtpmobbehdpgnbaaZ26
import Derived.Test.YtpmobbehdpgnbaaZ25
import Derived.Test.YtpmobbehdpgnbaaZ14
/- Law 12: the document's plan. -/
namespace Go.Proofs.Ytpmobbehdpgnbaa
open Go.D
open Nat (reduceAdd reducePow reduceMul reduceSub reduceLeDiff reduceLT reduceEqDiff)
open Int (reduceNeg reduceLE reduceEq reduceNe reduceToNat)
open Go.D renaming istep → zy, pickR → zx, bin1R → zw, un1R → zv, eqS → zu, eq1 → zq, cmpS → zp, cmp1 → zj, isNil → zk, shows → zg, result → zZ, q_cond_t → zV, q_cond_f → zU
open List renaming set → zY, replicate → zX
open Option renaming map → zW
open Nat renaming reduceAdd → zQ, reducePow → yz, reduceMul → yy, reduceSub → yx, reduceLeDiff → yw, reduceLT → yv, reduceEqDiff → yu
open Int renaming reduceNeg → yq, reduceLE → yp, reduceEq → yj, reduceNe → yk, reduceToNat → yg, reducePow → yZ, reduceLT → yY, reduceAdd → yX, reduceSub → yW, reduceMul → yV, reduceBEq → yU, reduceBNe → yQ
set_option linter.all false
set_option maxRecDepth 100000
set_option maxHeartbeats 8000000

def st9M (b : Nat) (m : M) (st : M → List Blk) : List V → Res
  | [.s (.i .i64 a), x] => thF (fun t => .ob (t.up ∧ ∀ v, v ∈ t.rg → u64 v) (.ok (.tup []) [] (st (m.thX a t)))) [x]
  | _ => .bad
noncomputable def st9G := memF st9M
noncomputable def TSt : Tab := addT 124 tsetG (noT)
theorem TSt_snd : TSt.Snd Try.prog := addT_snd ok124 rtset_snd' ((noT_snd _))
theorem st9_snd : Snd Try.prog 111 (FSpec.of st9G) := snd_run TSt_snd mixed Try.func111 dc111 200 fun args h K hc hS => by
  obtain ⟨a, b, m, rest, rfl, H, hS1⟩ := memF_spec hS
  clear hS
  have hS := hS1
  clear hS1
  unfold st9M at hS
  split at hS
  · rename_i a' x
    obtain ⟨t, e, hl, hS2⟩ := thF_spec hS
    simp only [List.cons.injEq, and_true] at e
    subst e
    clear hS
    obtain ⟨hu, hS⟩ := hS2
    simp only [spec_ok] at hS
    have hcl : t.c.length = 30 := by simp [Th.c, wc_len, hl]
    have hk : known t.c = true := by simp only [Th.c, known_cons, known_nil, wc_known, Bool.and_true, S_known, V.known]
    have hnl : t.c.all S.noL = true := by simp [Th.c, S.noL]; exact fun x hx => by obtain ⟨y, _, rfl⟩ := List.mem_map.1 hx; rfl
    have hsub : sub t.c 0 30 = t.c := by rw [← hcl]; simp [sub]
    have hF : ∀ f : Th → Res, thF f [.agg t.c] = .ob (t.rg.length = 16) (f t) := fun f => by simp only [thF, Th.c, unwc_wc, th_eta]
    simp (config := {maxSteps := 9999999}) only [EV0, zy, zx, zw, zv, zu, zq, zp, zj, zk, leT, zg, rvC, zZ, zY, zX, zW, ↓zV, ↓zU, reduceCtorEq, zQ, yz, yZ, yy, yx, yw, yv, yu, yq, yY, yp, yj, yk, yX, yW, yV, yg, yU, yQ, df111, TSt, tsetG, memF_eq H, tsetM, hF, hl, hcl, hk, hnl, hsub, hu, put, fillP, EVt]
    exact ⟨hu.2, hS⟩
  · exact hS.elim

def M.l9 (m : M) (i : Int) (c : Cap) : M := m.rlayX 0 (IntKind.i64.wrap (2048 + IntKind.i64.wrap (4 * i))) c
def lays9M (b : Nat) (m : M) (st : M → List Blk) : List V → Res
  | [.s (.i .i64 i), x] => capF (fun c => .ok (.tup []) [] (st (m.l9 i c))) [x]
  | _ => .bad
noncomputable def lays9G := memF lays9M
noncomputable def TLy : Tab := addT 112 rlay9G (noT)
theorem TLy_snd : TLy.Snd Try.prog := addT_snd ok112 rlay9_snd ((noT_snd _))
theorem lays9_snd : Snd Try.prog 114 (FSpec.of lays9G) := snd_run TLy_snd mixed Try.func114 dc114 200 fun args h K hc hS => by
  obtain ⟨a, b, m, rest, rfl, H, hS1⟩ := memF_spec hS
  clear hS
  have hS := hS1
  clear hS1
  unfold lays9M at hS
  split at hS
  · rename_i i x
    obtain ⟨c, e, hS2⟩ := capF_spec hS
    simp only [List.cons.injEq, and_true] at e
    subst e
    clear hS
    simp only [spec_ok, M.l9] at hS2
    simp (config := {maxSteps := 9999999}) only [EV0, zy, zx, zw, zv, zu, zq, zp, zj, zk, leT, zg, rvC, zZ, zY, zX, zW, ↓zV, ↓zU, reduceCtorEq, zQ, yz, yZ, yy, yx, yw, yv, yu, yq, yY, yp, yj, yk, yX, yW, yV, yg, yU, yQ, df114, TLy, rlay9G, lay9M, memF_eq H, capF, cap_eta, Cap.cl, sub, put, fillP, EVt]
    exact hS2
  · exact hS.elim
def bootG : List V → List Blk → Res
  | [.s (.i .i64 i)], h => .ob (0 ≤ i ∧ i ≤ 7) (.ok (.s (.i .i64 (32 + 4 * i))) [] h)
  | _, _ => .bad
theorem boot_snd : Snd Try.prog 113 (FSpec.of bootG) := snd_run (noT_snd _) mixed Try.func113 dc113 100 fun args h K hc hS => by
  unfold bootG at hS
  split at hS
  · rename_i i
    obtain ⟨⟨h1, h2⟩, hS⟩ := hS
    simp only [spec_ok] at hS
    have c1 : ¬ i < 0 := by omega
    have c2 : ¬ 7 < i := by omega
    have w1 : IntKind.i64.wrap (4 * i) = 4 * i := wrap64 (by omega) (by omega)
    have w2 : IntKind.i64.wrap (32 + 4 * i) = 32 + 4 * i := wrap64 (by omega) (by omega)
    simp (config := {maxSteps := 9999999}) only [EV0, zy, zx, zw, zv, zu, zq, zp, zj, zk, leT, zg, rvC, zZ, zY, zX, zW, ↓zV, ↓zU, reduceCtorEq, zQ, yz, yZ, yy, yx, yw, yv, yu, yq, yY, yp, yj, yk, yX, yW, yV, yg, yU, yQ, df113, c1, c2, w1, w2]
    exact hS
  · exact hS.elim

/-! ### the plan -/
def capO (ty obj : Int) : Cap := ⟨ty, obj, 0, 0, 0, 0, 0, 0, 0, 0, 0⟩
def capB (ty obj bits : Int) : Cap := ⟨ty, obj, bits, 0, 0, 0, 0, 0, 0, 0, 0⟩
def capR (ty obj : Int) : Cap := ⟨ty, obj, 0, 0, 0, 0, 0, 7, 0, 0, 0⟩
def rootC : Cap := ⟨2, 2048, 8, 0, 0, 24, 0, 0, 0, 0, 0⟩
def thBs (i : Nat) : Th := ⟨0, 10 + (i : Int).tdiv 2, 5, false, 0, 0, 0, 0, false, false, 0, 0, 0, 0, [0, 0, 0, 0, 0, 0, 0, 0, 0, 0, 0, 0, 0, 0, 0, 0]⟩
def bA : Nat → M
  | 0 => M.zero 13
  | i + 1 => ((bA i).thX (1024 + 64 * i) (thBs i)).rlayX 0 (32 + 4 * i) (capO 3 (1024 + 64 * i))
def bB : Nat → M
  | 0 => (bA 4).rlayX 0 1024 rootC
  | i + 1 => (bB i).rlayX 1024 (1024 + 64 * ((i + 1 : Nat) : Int)) rootC
def bC : Nat → M
  | 0 => ((bB 3).l9 1 (capB 2 3072 3)).l9 2 ⟨2, 3104, 2, 0, 1, 1, 0, 0, 0, 0, 0⟩
  | i + 1 => (bC i).l9 (3 + i) (capR 4 (3120 + 4 * i))
def bD : Nat → M
  | 0 => bC 3
  | i + 1 => ((bD i).l9 (6 + i) (capR 5 (3136 + 8 * i))).l9 (8 + i) (capR 8 (3152 + 16 * i))
def bE : Nat → M
  | 0 => bD 2
  | i + 1 => (bE i).l9 (10 + i) (capO 6 (3184 + 8 * i))
def baseM : M := (((((bE 4).l9 14 (capO 7 3216)).l9 15 (capB 1 3584 9)).l9 16 (capB 1 4096 10)).l9 17 (capO 11 0)).l9 18 (capO 13 0)
def baseG : List V → List Blk → Res
  | [], h => .ok (.s (.p (.g h.length) 0)) [] (memH h baseM)
  | _, _ => .bad
noncomputable def TBa : Tab := addT 68 newM (addT 111 st9G (addT 113 bootG (addT 112 rlay9G (addT 114 lays9G (noT)))))
theorem TBa_snd : TBa.Snd Try.prog := addT_snd ok68 rnew_snd (addT_snd ok111 st9_snd (addT_snd ok113 boot_snd (addT_snd ok112 rlay9_snd (addT_snd ok114 lays9_snd ((noT_snd _))))))
theorem thBs_ok {i : Nat} (h : i < 4) : (thBs i).up ∧ ∀ v, v ∈ (thBs i).rg → u64 v := by
  have e : i = 0 ∨ i = 1 ∨ i = 2 ∨ i = 3 := by omega
  refine ⟨?_, fun v hv => ?_⟩
  · rcases e with rfl | rfl | rfl | rfl <;> simp [Th.up, thBs, sml]
  · have : v = 0 := by simpa [thBs] using hv
    subst this; exact ⟨by omega, by omega⟩
theorem base_snd : Snd Try.prog 92 (FSpec.of baseG) := snd_run TBa_snd mixed Try.func92 dc92 300 fun args h K hc hS => by
  unfold baseG at hS
  split at hS
  · simp only [spec_ok] at hS
    have hd : decide ((11 : Int) ≤ 13) && decide ((13 : Int) ≤ 16) = true := by decide
    have ht : Int.toNat 13 = 13 := rfl
    simp (config := {maxSteps := 9999999}) only [EV0, zy, zx, zw, zv, zu, zq, zp, zj, zk, leT, zg, rvC, zZ, zY, zX, zW, ↓zV, ↓zU, reduceCtorEq, zQ, yz, yZ, yy, yx, yw, yv, yu, yq, yY, yp, yj, yk, yX, yW, yV, yg, yU, yQ, df92, TBa, newM, ht]
    refine loop_rule (α := Nat) [3, 4, 14, 15, 16, 17, 18, 19, 20, 21, 22, 23, 24, 25, 26, 27, 28, 29, 30, 31, 32, 33] (fun i => [(3, .s (.i .i64 (i : Int)))]) (fun _ => []) (fun i => memH h (bA i)) (fun i => i ≤ 4) (fun i => 4 - i) 0 (Nat.zero_le _) (Wk.same rfl rfl ?_) ?_
    · simp (config := {maxSteps := 9999999}) only [EV0, zy, zx, zw, zv, zu, zq, zp, zj, zk, leT, zg, rvC, zZ, zY, zX, zW, ↓zV, ↓zU, reduceCtorEq, zQ, yz, yZ, yy, yx, yw, yv, yu, yq, yY, yp, yj, yk, yX, yW, yV, yg, yU, yQ, Int.natCast_zero]
    · rintro X i hi IH
      rcases Nat.lt_or_ge i 4 with hlt | hge
      · have c0 : (i : Int) < 4 := by omega
        have w1 : IntKind.i64.wrap (64 * (i : Int)) = 64 * i := wrap64 (by omega) (by omega)
        have w2 : IntKind.i64.wrap (1024 + 64 * (i : Int)) = 1024 + 64 * i := wrap64 (by omega) (by omega)
        have w3 : IntKind.i64.wrap ((i : Int).tdiv 2) = (i : Int).tdiv 2 := by rw [Int.tdiv_eq_ediv_of_nonneg (by omega)]; exact wrap64 (by omega) (by omega)
        have w4 : IntKind.i64.wrap (10 + (i : Int).tdiv 2) = 10 + (i : Int).tdiv 2 := by rw [Int.tdiv_eq_ediv_of_nonneg (by omega)]; exact wrap64 (by omega) (by omega)
        have w5 : IntKind.i64.wrap ((i : Int) + 1) = ((i + 1 : Nat) : Int) := by rw [wrap64] <;> omega
        have b0 : 0 ≤ (i : Int) := by omega
        have b7 : (i : Int) ≤ 7 := by omega
        refine run_sound (Tab.ok_Γ _) 200 _ _ _ _ ?_
        simp (config := {maxSteps := 9999999}) only [EV0, zy, zx, zw, zv, zu, zq, zp, zj, zk, leT, zg, rvC, zZ, zY, zX, zW, ↓zV, ↓zU, reduceCtorEq, zQ, yz, yZ, yy, yx, yw, yv, yu, yq, yY, yp, yj, yk, yX, yW, yV, yg, yU, yQ, TBa, st9G, memF_new, st9M, thF, unwc_cons, unwc_nil, bootG, rlay9G, lay9M, capF, c0, w1, w2, w3, w4, w5, b0, b7, put, fillP, sub, EVt]
        refine ⟨thBs_ok hlt, ?_⟩
        exact IH (i + 1) _ (by omega) (by omega) (Wk.same rfl rfl (by simp (config := {maxSteps := 9999999}) only [EV0, zy, zx, zw, zv, zu, zq, zp, zj, zk, leT, zg, rvC, zZ, zY, zX, zW, ↓zV, ↓zU, reduceCtorEq, zQ, yz, yZ, yy, yx, yw, yv, yu, yq, yY, yp, yj, yk, yX, yW, yV, yg, yU, yQ]))
      · have : i = 4 := by omega
        subst this
        have c0 : ¬ (((4 : Nat) : Int) < 4) := by omega
        clear IH
        refine run_sound (Tab.ok_Γ _) 200 _ _ _ _ ?_
        simp (config := {maxSteps := 9999999}) only [EV0, zy, zx, zw, zv, zu, zq, zp, zj, zk, leT, zg, rvC, zZ, zY, zX, zW, ↓zV, ↓zU, reduceCtorEq, zQ, yz, yZ, yy, yx, yw, yv, yu, yq, yY, yp, yj, yk, yX, yW, yV, yg, yU, yQ, TBa, rlay9G, memF_new, lay9M, capF, c0, put, fillP, sub, EVt]
        refine loop_rule (α := Nat) [6, 38, 39, 40, 41, 42, 43, 44, 45, 46, 47] (fun i => [(6, .s (.i .i64 ((i + 1 : Nat) : Int)))]) (fun _ => [⟨.rw, rootC.cl, 11⟩]) (fun i => memH h (bB i)) (fun i => i ≤ 3) (fun i => 3 - i) 0 (Nat.zero_le _) (Wk.same rfl rfl ?_) ?_
        · simp (config := {maxSteps := 9999999}) only [EV0, zy, zx, zw, zv, zu, zq, zp, zj, zk, leT, zg, rvC, zZ, zY, zX, zW, ↓zV, ↓zU, reduceCtorEq, zQ, yz, yZ, yy, yx, yw, yv, yu, yq, yY, yp, yj, yk, yX, yW, yV, yg, yU, yQ, Int.natCast_zero, rootC, Cap.cl, Nat.zero_add, Int.natCast_one]
        · rintro X1 i1 hi1 IH1
          rcases Nat.lt_or_ge i1 3 with hlt1 | hge1
          · have c1 : ((i1 + 1 : Nat) : Int) < 4 := by omega
            have v10 : IntKind.i64.wrap (64 * ((i1 + 1 : Nat) : Int)) = 64 * ((i1 + 1 : Nat) : Int) := by rw [wrap64] <;> omega
            have v11 : IntKind.i64.wrap (1024 + 64 * ((i1 + 1 : Nat) : Int)) = 1024 + 64 * ((i1 + 1 : Nat) : Int) := by rw [wrap64] <;> omega
            have u1 : IntKind.i64.wrap (((i1 + 1 : Nat) : Int) + 1) = ((i1 + 1 + 1 : Nat) : Int) := by rw [wrap64] <;> omega
            refine run_sound (Tab.ok_Γ _) 200 _ _ _ _ ?_
            simp (config := {maxSteps := 9999999}) only [EV0, zy, zx, zw, zv, zu, zq, zp, zj, zk, leT, zg, rvC, zZ, zY, zX, zW, ↓zV, ↓zU, reduceCtorEq, zQ, yz, yZ, yy, yx, yw, yv, yu, yq, yY, yp, yj, yk, yX, yW, yV, yg, yU, yQ, TBa, memF_new, rlay9G, lay9M, lays9G, lays9M, capF, cap_eta, rootC, Cap.cl, c1, v10, v11, u1, put, fillP, sub, EVt]
            exact IH1 (i1 + 1) _ (by omega) (by omega) (Wk.same rfl rfl (by simp (config := {maxSteps := 9999999}) only [EV0, zy, zx, zw, zv, zu, zq, zp, zj, zk, leT, zg, rvC, zZ, zY, zX, zW, ↓zV, ↓zU, reduceCtorEq, zQ, yz, yZ, yy, yx, yw, yv, yu, yq, yY, yp, yj, yk, yX, yW, yV, yg, yU, yQ, rootC, Cap.cl]))
          · have e1 : i1 = 3 := by omega
            subst e1
            have c1 : ¬ (((3 + 1 : Nat) : Int) < 4) := by omega
            clear IH1
            refine run_sound (Tab.ok_Γ _) 200 _ _ _ _ ?_
            simp (config := {maxSteps := 9999999}) only [EV0, zy, zx, zw, zv, zu, zq, zp, zj, zk, leT, zg, rvC, zZ, zY, zX, zW, ↓zV, ↓zU, reduceCtorEq, zQ, yz, yZ, yy, yx, yw, yv, yu, yq, yY, yp, yj, yk, yX, yW, yV, yg, yU, yQ, TBa, memF_new, rlay9G, lay9M, lays9G, lays9M, capF, rootC, Cap.cl, c1, put, fillP, sub, EVt]
            refine loop_rule (α := Nat) [7, 54, 55, 56, 57, 58, 59, 60, 61, 62, 63, 64, 65] (fun i => [(7, .s (.i .i64 (i : Int)))]) (fun _ => [⟨.rw, rootC.cl, 11⟩]) (fun i => memH h (bC i)) (fun i => i ≤ 3) (fun i => 3 - i) 0 (Nat.zero_le _) (Wk.same rfl rfl ?_) ?_
            · simp (config := {maxSteps := 9999999}) only [EV0, zy, zx, zw, zv, zu, zq, zp, zj, zk, leT, zg, rvC, zZ, zY, zX, zW, ↓zV, ↓zU, reduceCtorEq, zQ, yz, yZ, yy, yx, yw, yv, yu, yq, yY, yp, yj, yk, yX, yW, yV, yg, yU, yQ, Int.natCast_zero, rootC, Cap.cl, Nat.zero_add]
            · rintro X2 i2 hi2 IH2
              rcases Nat.lt_or_ge i2 3 with hlt2 | hge2
              · have c2 : (i2 : Int) < 3 := by omega
                have v20 : IntKind.i64.wrap (3 + (i2 : Int)) = 3 + (i2 : Int) := by rw [wrap64] <;> omega
                have v21 : IntKind.i64.wrap (4 * (i2 : Int)) = 4 * (i2 : Int) := by rw [wrap64] <;> omega
                have v22 : IntKind.i64.wrap (3120 + 4 * (i2 : Int)) = 3120 + 4 * (i2 : Int) := by rw [wrap64] <;> omega
                have u2 : IntKind.i64.wrap ((i2 : Int) + 1) = ((i2 + 1 : Nat) : Int) := by rw [wrap64] <;> omega
                refine run_sound (Tab.ok_Γ _) 200 _ _ _ _ ?_
                simp (config := {maxSteps := 9999999}) only [EV0, zy, zx, zw, zv, zu, zq, zp, zj, zk, leT, zg, rvC, zZ, zY, zX, zW, ↓zV, ↓zU, reduceCtorEq, zQ, yz, yZ, yy, yx, yw, yv, yu, yq, yY, yp, yj, yk, yX, yW, yV, yg, yU, yQ, TBa, memF_new, rlay9G, lay9M, lays9G, lays9M, capF, cap_eta, rootC, Cap.cl, c2, v20, v21, v22, u2, put, fillP, sub, EVt]
                exact IH2 (i2 + 1) _ (by omega) (by omega) (Wk.same rfl rfl (by simp (config := {maxSteps := 9999999}) only [EV0, zy, zx, zw, zv, zu, zq, zp, zj, zk, leT, zg, rvC, zZ, zY, zX, zW, ↓zV, ↓zU, reduceCtorEq, zQ, yz, yZ, yy, yx, yw, yv, yu, yq, yY, yp, yj, yk, yX, yW, yV, yg, yU, yQ, rootC, Cap.cl]))
              · have e2 : i2 = 3 := by omega
                subst e2
                have c2 : ¬ (((3 : Nat) : Int) < 3) := by omega
                clear IH2
                refine run_sound (Tab.ok_Γ _) 200 _ _ _ _ ?_
                simp (config := {maxSteps := 9999999}) only [EV0, zy, zx, zw, zv, zu, zq, zp, zj, zk, leT, zg, rvC, zZ, zY, zX, zW, ↓zV, ↓zU, reduceCtorEq, zQ, yz, yZ, yy, yx, yw, yv, yu, yq, yY, yp, yj, yk, yX, yW, yV, yg, yU, yQ, TBa, memF_new, rlay9G, lay9M, lays9G, lays9M, capF, rootC, Cap.cl, c2, put, fillP, sub, EVt]
                refine loop_rule (α := Nat) [8, 66, 67, 68, 69, 70, 71, 72, 73, 74, 75, 76, 77, 78, 79, 80, 81, 82, 83, 84, 85] (fun i => [(8, .s (.i .i64 (i : Int)))]) (fun _ => [⟨.rw, rootC.cl, 11⟩]) (fun i => memH h (bD i)) (fun i => i ≤ 2) (fun i => 2 - i) 0 (Nat.zero_le _) (Wk.same rfl rfl ?_) ?_
                · simp (config := {maxSteps := 9999999}) only [EV0, zy, zx, zw, zv, zu, zq, zp, zj, zk, leT, zg, rvC, zZ, zY, zX, zW, ↓zV, ↓zU, reduceCtorEq, zQ, yz, yZ, yy, yx, yw, yv, yu, yq, yY, yp, yj, yk, yX, yW, yV, yg, yU, yQ, Int.natCast_zero, rootC, Cap.cl, Nat.zero_add]
                · rintro X3 i3 hi3 IH3
                  rcases Nat.lt_or_ge i3 2 with hlt3 | hge3
                  · have c3 : (i3 : Int) < 2 := by omega
                    have v30 : IntKind.i64.wrap (6 + (i3 : Int)) = 6 + (i3 : Int) := by rw [wrap64] <;> omega
                    have v31 : IntKind.i64.wrap (8 * (i3 : Int)) = 8 * (i3 : Int) := by rw [wrap64] <;> omega
                    have v32 : IntKind.i64.wrap (3136 + 8 * (i3 : Int)) = 3136 + 8 * (i3 : Int) := by rw [wrap64] <;> omega
                    have v33 : IntKind.i64.wrap (8 + (i3 : Int)) = 8 + (i3 : Int) := by rw [wrap64] <;> omega
                    have v34 : IntKind.i64.wrap (16 * (i3 : Int)) = 16 * (i3 : Int) := by rw [wrap64] <;> omega
                    have v35 : IntKind.i64.wrap (3152 + 16 * (i3 : Int)) = 3152 + 16 * (i3 : Int) := by rw [wrap64] <;> omega
                    have u3 : IntKind.i64.wrap ((i3 : Int) + 1) = ((i3 + 1 : Nat) : Int) := by rw [wrap64] <;> omega
                    refine run_sound (Tab.ok_Γ _) 200 _ _ _ _ ?_
                    simp (config := {maxSteps := 9999999}) only [EV0, zy, zx, zw, zv, zu, zq, zp, zj, zk, leT, zg, rvC, zZ, zY, zX, zW, ↓zV, ↓zU, reduceCtorEq, zQ, yz, yZ, yy, yx, yw, yv, yu, yq, yY, yp, yj, yk, yX, yW, yV, yg, yU, yQ, TBa, memF_new, rlay9G, lay9M, lays9G, lays9M, capF, cap_eta, rootC, Cap.cl, c3, v30, v31, v32, v33, v34, v35, u3, put, fillP, sub, EVt]
                    exact IH3 (i3 + 1) _ (by omega) (by omega) (Wk.same rfl rfl (by simp (config := {maxSteps := 9999999}) only [EV0, zy, zx, zw, zv, zu, zq, zp, zj, zk, leT, zg, rvC, zZ, zY, zX, zW, ↓zV, ↓zU, reduceCtorEq, zQ, yz, yZ, yy, yx, yw, yv, yu, yq, yY, yp, yj, yk, yX, yW, yV, yg, yU, yQ, rootC, Cap.cl]))
                  · have e3 : i3 = 2 := by omega
                    subst e3
                    have c3 : ¬ (((2 : Nat) : Int) < 2) := by omega
                    clear IH3
                    refine run_sound (Tab.ok_Γ _) 200 _ _ _ _ ?_
                    simp (config := {maxSteps := 9999999}) only [EV0, zy, zx, zw, zv, zu, zq, zp, zj, zk, leT, zg, rvC, zZ, zY, zX, zW, ↓zV, ↓zU, reduceCtorEq, zQ, yz, yZ, yy, yx, yw, yv, yu, yq, yY, yp, yj, yk, yX, yW, yV, yg, yU, yQ, TBa, memF_new, rlay9G, lay9M, lays9G, lays9M, capF, rootC, Cap.cl, c3, put, fillP, sub, EVt]
                    refine loop_rule (α := Nat) [9, 86, 87, 88, 89, 90, 91, 92, 93, 94, 95, 96, 97] (fun i => [(9, .s (.i .i64 (i : Int)))]) (fun _ => [⟨.rw, rootC.cl, 11⟩]) (fun i => memH h (bE i)) (fun i => i ≤ 4) (fun i => 4 - i) 0 (Nat.zero_le _) (Wk.same rfl rfl ?_) ?_
                    · simp (config := {maxSteps := 9999999}) only [EV0, zy, zx, zw, zv, zu, zq, zp, zj, zk, leT, zg, rvC, zZ, zY, zX, zW, ↓zV, ↓zU, reduceCtorEq, zQ, yz, yZ, yy, yx, yw, yv, yu, yq, yY, yp, yj, yk, yX, yW, yV, yg, yU, yQ, Int.natCast_zero, rootC, Cap.cl, Nat.zero_add]
                    · rintro X4 i4 hi4 IH4
                      rcases Nat.lt_or_ge i4 4 with hlt4 | hge4
                      · have c4 : (i4 : Int) < 4 := by omega
                        have v40 : IntKind.i64.wrap (10 + (i4 : Int)) = 10 + (i4 : Int) := by rw [wrap64] <;> omega
                        have v41 : IntKind.i64.wrap (8 * (i4 : Int)) = 8 * (i4 : Int) := by rw [wrap64] <;> omega
                        have v42 : IntKind.i64.wrap (3184 + 8 * (i4 : Int)) = 3184 + 8 * (i4 : Int) := by rw [wrap64] <;> omega
                        have u4 : IntKind.i64.wrap ((i4 : Int) + 1) = ((i4 + 1 : Nat) : Int) := by rw [wrap64] <;> omega
                        refine run_sound (Tab.ok_Γ _) 200 _ _ _ _ ?_
                        simp (config := {maxSteps := 9999999}) only [EV0, zy, zx, zw, zv, zu, zq, zp, zj, zk, leT, zg, rvC, zZ, zY, zX, zW, ↓zV, ↓zU, reduceCtorEq, zQ, yz, yZ, yy, yx, yw, yv, yu, yq, yY, yp, yj, yk, yX, yW, yV, yg, yU, yQ, TBa, memF_new, rlay9G, lay9M, lays9G, lays9M, capF, cap_eta, rootC, Cap.cl, c4, v40, v41, v42, u4, put, fillP, sub, EVt]
                        exact IH4 (i4 + 1) _ (by omega) (by omega) (Wk.same rfl rfl (by simp (config := {maxSteps := 9999999}) only [EV0, zy, zx, zw, zv, zu, zq, zp, zj, zk, leT, zg, rvC, zZ, zY, zX, zW, ↓zV, ↓zU, reduceCtorEq, zQ, yz, yZ, yy, yx, yw, yv, yu, yq, yY, yp, yj, yk, yX, yW, yV, yg, yU, yQ, rootC, Cap.cl]))
                      · have e4 : i4 = 4 := by omega
                        subst e4
                        have c4 : ¬ (((4 : Nat) : Int) < 4) := by omega
                        clear IH4
                        refine run_sound (Tab.ok_Γ _) 200 _ _ _ _ ?_
                        simp (config := {maxSteps := 9999999}) only [EV0, zy, zx, zw, zv, zu, zq, zp, zj, zk, leT, zg, rvC, zZ, zY, zX, zW, ↓zV, ↓zU, reduceCtorEq, zQ, yz, yZ, yy, yx, yw, yv, yu, yq, yY, yp, yj, yk, yX, yW, yV, yg, yU, yQ, TBa, memF_new, rlay9G, lay9M, lays9G, lays9M, capF, rootC, Cap.cl, c4, put, fillP, sub, EVt]
                        exact hS
  · exact hS.elim
end Go.Proofs.Ytpmobbehdpgnbaa

/- Law 12: the plan's caps. -/
namespace Go.Proofs.Ytpmobbehdpgnbaa
open Go.D
set_option linter.all false
set_option maxRecDepth 100000
set_option maxHeartbeats 8000000

theorem DI.touch {m m' : M} {L : List Int} (D : DI m L) (hl : m'.w.length = m.w.length) (h2 : m'.at 2 = m.at 2) (ha : ∀ x, x ∈ PB → ∀ k : Int, 0 ≤ k → k ≤ 3 → m'.at (x + k) = m.at (x + k)) : DI m' L ∧ ∀ x, x ∈ PB → m'.gE x = m.gE x ∧ m'.gV x = m.gV x := by
  have ht : ∀ x, thereB m' x = thereB m x := fun x => by simp only [thereB, hl]
  have key : ∀ x, x ∈ PB → m'.gE x = m.gE x ∧ m'.gV x = m.gV x := fun x hx => by
    have a0 := ha x hx 0 (by omega) (by omega)
    rw [Int.add_zero] at a0
    have a1 := ha x hx 1 (by omega) (by omega)
    have a2 := ha x hx 2 (by omega) (by omega)
    have a3 := ha x hx 3 (by omega) (by omega)
    exact ⟨by simp only [M.gE, M.slotB, ht, a0, a1, a2, a3]; rfl, by simp only [M.gV, M.slotB, M.slotC, ht, a0, a1, a2, a3]; rfl⟩
  have hf : m'.fst = m.fst := by simp only [M.fst, keptV, keptB, M.has, h2, hl]; rfl
  have hfE : ∀ x, x ∈ PB → m'.fE x = m.fE x := fun x hx => by simp only [M.fE, (key x hx).1, (key x hx).2]
  refine ⟨⟨⟨by rw [hl]; exact D.inv.len, by rw [h2, hf]; exact D.inv.two, D.inv.nd, fun x hx => by rw [hfE x (D.sub x hx)]; exact D.inv.full x hx, chain_congr (fun x hx => by rw [(key x (D.sub x hx)).2]; exact ⟨rfl, rfl⟩) D.inv.ch, by rw [hf]; exact D.inv.fst, fun x hx => by rw [(key x hx).1, (key x hx).2]; exact D.inv.out x hx⟩, D.sub, fun x hx hn => by rw [(key x hx).2]; exact D.z x hx hn, fun i x hx => by rw [(key x (D.sub x (List.mem_of_getElem? hx))).2]; exact D.dep i x hx, by rw [hl]; exact D.len⟩, key⟩

theorem wrs_out (m : M) (o : Nat) (ws : List Int) (j : Nat) : ∀ k, (j < o ∨ o + k ≤ j) → (m.wrs o ws k).at j = m.at j
  | 0, _ => rfl
  | k + 1, h => by
    rw [M.wrs, M.at_tick, M.at_put, if_neg (by omega), wrs_out m o ws j k (by omega)]
def capT : List (Int × Cap × Int) → Int → Cap × Int
  | [], _ => (capZ, 0)
  | (a, c, d) :: T, x => if x = a then (c, d) else capT T x
structure Rep (m : M) (T : List (Int × Cap × Int)) : Prop where
  di : ∃ L, DI m L ∧ ∀ x, x ∈ L ↔ x ∈ T.map (·.1)
  cap : ∀ x, x ∈ PB → ((m.gV x).cap, (m.gV x).depth) = capT T x
theorem Rep.lay {m : M} {T : List (Int × Cap × Int)} (R : Rep m T) (p a : Int) (c : Cap) (d : Int) (hp : p = 0 ∨ p ∈ T.map (·.1)) (haP : a ∈ PB) (hpP : p = 0 ∨ p ∈ PB) (haT : a ∉ T.map (·.1)) (hc : c.ty ≠ 0) (hr : slotRB ⟨c, 0, 0, 0⟩ = true) (hd : d = if p = 0 then 0 else (capT T p).2 + 1) : Rep (m.rlayX p a c) ((a, c, d) :: T) := by
  obtain ⟨L, D, hL⟩ := R.di
  obtain ⟨e1, e2, e3, e4, e5⟩ := D.lay (r := m) rfl (p := p) (a := a) (by rw [hL]; exact hp) haP (by rw [hL]; exact haT) hc hr
  refine ⟨⟨_, e2.of_w e1, fun x => ?_⟩, fun x hx => ?_⟩
  · simp only [List.map_cons, List.mem_cons, ← hL]
    unfold insLL
    split
    · rw [List.mem_cons]
    · rename_i h0
      constructor
      · exact insL_mem
      · rintro (h | h)
        · rw [h]; exact a_insL ((hL p).2 (hp.resolve_left h0))
        · exact mem_insL h
  · have hx0 := D.n0 hx
    rw [gV_w e1, e5 x hx0, jnV_cap, jnV_depth]
    unfold capT
    by_cases e : x = a
    · simp only [if_pos e]
      rw [hd]
      rcases hpP with h | h
      · simp only [h, if_true]
      · have := R.cap p h
        rw [← this]
    · simp only [if_neg e]
      exact R.cap x hx
theorem PB_off : ∀ x, x ∈ PB → 32 ≤ x ∧ x.tmod 4 = 0 ∧ x ≤ 8188 ∧ (x < 1024 → x + 3 < 48) ∧ (¬ x < 1024 → ¬ x < 2048 → True) ∧ (¬ x < 1024 → x < 2048 → x % 64 = 0) := by decide
theorem Rep.th {m : M} {T : List (Int × Cap × Int)} (R : Rep m T) (i : Nat) (hi : i < 4) (t : Th) (ht : t.rg.length = 16) : Rep (m.thX (1024 + 64 * (i : Int)) t) T := by
  obtain ⟨L, D, hL⟩ := R.di
  have hlen := D.len
  have hat : ∀ j : Nat, j < 1024 ∨ 2048 ≤ j ∨ j % 64 < 4 → (m.thX (1024 + 64 * (i : Int)) t).at j = m.at j := fun j hj => by
    unfold M.thX
    split
    · rw [wrs_out _ _ _ _ _ (by omega), wrs_out _ _ _ _ _ (by omega)]
    · rfl
  have hl : (m.thX (1024 + 64 * (i : Int)) t).w.length = m.w.length := by
    unfold M.thX; split
    · rw [M.wrs_len, M.wrs_len]
    · rfl
  obtain ⟨D2, k⟩ := D.touch hl (hat 2 (by omega)) (fun x hx k h0 h3 => by
    obtain ⟨o1, o2, o3, o4, _, o6⟩ := PB_off x hx
    have e : x + k = ((x + k).toNat : Int) := by omega
    rw [e]
    refine hat _ ?_
    by_cases c1 : x < 1024
    · have := o4 c1; omega
    · by_cases c2 : x < 2048
      · have := o6 c1 c2; omega
      · omega)
  exact ⟨⟨L, D2, hL⟩, fun x hx => by rw [(k x hx).2]; exact R.cap x hx⟩
theorem rep_0 : Rep (M.zero 13) [] := by
  have hl : (M.zero 13).w.length = 8192 := by rw [M.zero_len]; rfl
  have z : ∀ j, (M.zero 13).at j = 0 := M.at_zero 13
  have key : ∀ x, x ∈ PB → (M.zero 13).gE x = 0 ∧ (M.zero 13).gV x = slotZ := fun x hx => by
    obtain ⟨o1, o2, o3, _⟩ := PB_off x hx
    have ht : thereB (M.zero 13) x = true := there_iff.2 ⟨by omega, o2, by rw [hl]; omega⟩
    have hb : (M.zero 13).slotB x = true := by simp only [M.slotB, z]; decide
    refine ⟨gE_zero ht hb, ?_⟩
    unfold M.gV
    rw [if_pos ⟨ht, hb⟩]
    simp only [M.slotC, z]; rfl
  have hf : (M.zero 13).fst = 0 := by
    have hh : (M.zero 13).has 2 1 = true := M.has_iff.2 (by rw [hl]; omega)
    have hw0 : IntKind.i64.wrap 0 = 0 := rfl
    simp only [M.fst, z, hh, if_true, keptV, keptB, hw0]
    simp
  have I : (M.zero 13).Inv (· ∈ PB) [] := ⟨⟨by rw [hl]; decide, by rw [hl]⟩, by rw [z, hf], List.nodup_nil, fun x hx => (nomatch hx), trivial, hf, fun x hx => ⟨(key x hx).1, fun _ => by rw [(key x hx).2]; exact ⟨rfl, rfl, rfl⟩⟩⟩
  have D : DI (M.zero 13) [] := ⟨I, fun x hx => (nomatch hx), fun x hx _ => (key x hx).2, fun i x hx => by simp at hx, hl⟩
  exact ⟨⟨[], D, fun x => by simp⟩, fun x hx => by rw [(key x hx).2]; rfl⟩

def repT0 : List (Int × Cap × Int) := []
theorem rep_1 : Rep (bA 1) ((32, ⟨3, 1024, 0, 0, 0, 0, 0, 0, 0, 0, 0⟩, 0) :: repT0) := (Rep.th (T := repT0) rep_0 0 (by decide) (thBs 0) rfl).lay 0 32 ⟨3, 1024, 0, 0, 0, 0, 0, 0, 0, 0, 0⟩ 0 (by decide) (by decide) (by decide) (by decide) (by decide) (by decide) (by decide)
def repT1 : List (Int × Cap × Int) := (32, ⟨3, 1024, 0, 0, 0, 0, 0, 0, 0, 0, 0⟩, 0) :: repT0
theorem rep_2 : Rep (bA 2) ((36, ⟨3, 1088, 0, 0, 0, 0, 0, 0, 0, 0, 0⟩, 0) :: repT1) := (Rep.th (T := repT1) rep_1 1 (by decide) (thBs 1) rfl).lay 0 36 ⟨3, 1088, 0, 0, 0, 0, 0, 0, 0, 0, 0⟩ 0 (by decide) (by decide) (by decide) (by decide) (by decide) (by decide) (by decide)
def repT2 : List (Int × Cap × Int) := (36, ⟨3, 1088, 0, 0, 0, 0, 0, 0, 0, 0, 0⟩, 0) :: repT1
theorem rep_3 : Rep (bA 3) ((40, ⟨3, 1152, 0, 0, 0, 0, 0, 0, 0, 0, 0⟩, 0) :: repT2) := (Rep.th (T := repT2) rep_2 2 (by decide) (thBs 2) rfl).lay 0 40 ⟨3, 1152, 0, 0, 0, 0, 0, 0, 0, 0, 0⟩ 0 (by decide) (by decide) (by decide) (by decide) (by decide) (by decide) (by decide)
def repT3 : List (Int × Cap × Int) := (40, ⟨3, 1152, 0, 0, 0, 0, 0, 0, 0, 0, 0⟩, 0) :: repT2
theorem rep_4 : Rep (bA 4) ((44, ⟨3, 1216, 0, 0, 0, 0, 0, 0, 0, 0, 0⟩, 0) :: repT3) := (Rep.th (T := repT3) rep_3 3 (by decide) (thBs 3) rfl).lay 0 44 ⟨3, 1216, 0, 0, 0, 0, 0, 0, 0, 0, 0⟩ 0 (by decide) (by decide) (by decide) (by decide) (by decide) (by decide) (by decide)
def repT4 : List (Int × Cap × Int) := (44, ⟨3, 1216, 0, 0, 0, 0, 0, 0, 0, 0, 0⟩, 0) :: repT3
theorem rep_5 : Rep (bB 0) ((1024, ⟨2, 2048, 8, 0, 0, 24, 0, 0, 0, 0, 0⟩, 0) :: repT4) := (show Rep _ repT4 from rep_4).lay 0 1024 ⟨2, 2048, 8, 0, 0, 24, 0, 0, 0, 0, 0⟩ 0 (by decide) (by decide) (by decide) (by decide) (by decide) (by decide) (by decide)
def repT5 : List (Int × Cap × Int) := (1024, ⟨2, 2048, 8, 0, 0, 24, 0, 0, 0, 0, 0⟩, 0) :: repT4
theorem rep_6 : Rep (bB 1) ((1088, ⟨2, 2048, 8, 0, 0, 24, 0, 0, 0, 0, 0⟩, 1) :: repT5) := (show Rep _ repT5 from rep_5).lay 1024 1088 ⟨2, 2048, 8, 0, 0, 24, 0, 0, 0, 0, 0⟩ 1 (by decide) (by decide) (by decide) (by decide) (by decide) (by decide) (by decide)
def repT6 : List (Int × Cap × Int) := (1088, ⟨2, 2048, 8, 0, 0, 24, 0, 0, 0, 0, 0⟩, 1) :: repT5
theorem rep_7 : Rep (bB 2) ((1152, ⟨2, 2048, 8, 0, 0, 24, 0, 0, 0, 0, 0⟩, 1) :: repT6) := (show Rep _ repT6 from rep_6).lay 1024 1152 ⟨2, 2048, 8, 0, 0, 24, 0, 0, 0, 0, 0⟩ 1 (by decide) (by decide) (by decide) (by decide) (by decide) (by decide) (by decide)
def repT7 : List (Int × Cap × Int) := (1152, ⟨2, 2048, 8, 0, 0, 24, 0, 0, 0, 0, 0⟩, 1) :: repT6
theorem rep_8 : Rep (bB 3) ((1216, ⟨2, 2048, 8, 0, 0, 24, 0, 0, 0, 0, 0⟩, 1) :: repT7) := (show Rep _ repT7 from rep_7).lay 1024 1216 ⟨2, 2048, 8, 0, 0, 24, 0, 0, 0, 0, 0⟩ 1 (by decide) (by decide) (by decide) (by decide) (by decide) (by decide) (by decide)
def repT8 : List (Int × Cap × Int) := (1216, ⟨2, 2048, 8, 0, 0, 24, 0, 0, 0, 0, 0⟩, 1) :: repT7
theorem rep_9 : Rep ((bB 3).l9 1 (capB 2 3072 3)) ((2052, ⟨2, 3072, 3, 0, 0, 0, 0, 0, 0, 0, 0⟩, 0) :: repT8) := (show Rep _ repT8 from rep_8).lay 0 2052 ⟨2, 3072, 3, 0, 0, 0, 0, 0, 0, 0, 0⟩ 0 (by decide) (by decide) (by decide) (by decide) (by decide) (by decide) (by decide)
def repT9 : List (Int × Cap × Int) := (2052, ⟨2, 3072, 3, 0, 0, 0, 0, 0, 0, 0, 0⟩, 0) :: repT8
theorem rep_10 : Rep (bC 0) ((2056, ⟨2, 3104, 2, 0, 1, 1, 0, 0, 0, 0, 0⟩, 0) :: repT9) := (show Rep _ repT9 from rep_9).lay 0 2056 ⟨2, 3104, 2, 0, 1, 1, 0, 0, 0, 0, 0⟩ 0 (by decide) (by decide) (by decide) (by decide) (by decide) (by decide) (by decide)
def repT10 : List (Int × Cap × Int) := (2056, ⟨2, 3104, 2, 0, 1, 1, 0, 0, 0, 0, 0⟩, 0) :: repT9
theorem rep_11 : Rep (bC 1) ((2060, ⟨4, 3120, 0, 0, 0, 0, 0, 7, 0, 0, 0⟩, 0) :: repT10) := (show Rep _ repT10 from rep_10).lay 0 2060 ⟨4, 3120, 0, 0, 0, 0, 0, 7, 0, 0, 0⟩ 0 (by decide) (by decide) (by decide) (by decide) (by decide) (by decide) (by decide)
def repT11 : List (Int × Cap × Int) := (2060, ⟨4, 3120, 0, 0, 0, 0, 0, 7, 0, 0, 0⟩, 0) :: repT10
theorem rep_12 : Rep (bC 2) ((2064, ⟨4, 3124, 0, 0, 0, 0, 0, 7, 0, 0, 0⟩, 0) :: repT11) := (show Rep _ repT11 from rep_11).lay 0 2064 ⟨4, 3124, 0, 0, 0, 0, 0, 7, 0, 0, 0⟩ 0 (by decide) (by decide) (by decide) (by decide) (by decide) (by decide) (by decide)
def repT12 : List (Int × Cap × Int) := (2064, ⟨4, 3124, 0, 0, 0, 0, 0, 7, 0, 0, 0⟩, 0) :: repT11
theorem rep_13 : Rep (bC 3) ((2068, ⟨4, 3128, 0, 0, 0, 0, 0, 7, 0, 0, 0⟩, 0) :: repT12) := (show Rep _ repT12 from rep_12).lay 0 2068 ⟨4, 3128, 0, 0, 0, 0, 0, 7, 0, 0, 0⟩ 0 (by decide) (by decide) (by decide) (by decide) (by decide) (by decide) (by decide)
def repT13 : List (Int × Cap × Int) := (2068, ⟨4, 3128, 0, 0, 0, 0, 0, 7, 0, 0, 0⟩, 0) :: repT12
theorem rep_14 : Rep ((bD 0).l9 (6 + ((0 : Nat) : Int)) (capR 5 (3136 + 8 * ((0 : Nat) : Int)))) ((2072, ⟨5, 3136, 0, 0, 0, 0, 0, 7, 0, 0, 0⟩, 0) :: repT13) := (show Rep _ repT13 from rep_13).lay 0 2072 ⟨5, 3136, 0, 0, 0, 0, 0, 7, 0, 0, 0⟩ 0 (by decide) (by decide) (by decide) (by decide) (by decide) (by decide) (by decide)
def repT14 : List (Int × Cap × Int) := (2072, ⟨5, 3136, 0, 0, 0, 0, 0, 7, 0, 0, 0⟩, 0) :: repT13
theorem rep_15 : Rep (bD 1) ((2080, ⟨8, 3152, 0, 0, 0, 0, 0, 7, 0, 0, 0⟩, 0) :: repT14) := (show Rep _ repT14 from rep_14).lay 0 2080 ⟨8, 3152, 0, 0, 0, 0, 0, 7, 0, 0, 0⟩ 0 (by decide) (by decide) (by decide) (by decide) (by decide) (by decide) (by decide)
def repT15 : List (Int × Cap × Int) := (2080, ⟨8, 3152, 0, 0, 0, 0, 0, 7, 0, 0, 0⟩, 0) :: repT14
theorem rep_16 : Rep ((bD 1).l9 (6 + ((1 : Nat) : Int)) (capR 5 (3136 + 8 * ((1 : Nat) : Int)))) ((2076, ⟨5, 3144, 0, 0, 0, 0, 0, 7, 0, 0, 0⟩, 0) :: repT15) := (show Rep _ repT15 from rep_15).lay 0 2076 ⟨5, 3144, 0, 0, 0, 0, 0, 7, 0, 0, 0⟩ 0 (by decide) (by decide) (by decide) (by decide) (by decide) (by decide) (by decide)
def repT16 : List (Int × Cap × Int) := (2076, ⟨5, 3144, 0, 0, 0, 0, 0, 7, 0, 0, 0⟩, 0) :: repT15
theorem rep_17 : Rep (bD 2) ((2084, ⟨8, 3168, 0, 0, 0, 0, 0, 7, 0, 0, 0⟩, 0) :: repT16) := (show Rep _ repT16 from rep_16).lay 0 2084 ⟨8, 3168, 0, 0, 0, 0, 0, 7, 0, 0, 0⟩ 0 (by decide) (by decide) (by decide) (by decide) (by decide) (by decide) (by decide)
def repT17 : List (Int × Cap × Int) := (2084, ⟨8, 3168, 0, 0, 0, 0, 0, 7, 0, 0, 0⟩, 0) :: repT16
theorem rep_18 : Rep (bE 1) ((2088, ⟨6, 3184, 0, 0, 0, 0, 0, 0, 0, 0, 0⟩, 0) :: repT17) := (show Rep _ repT17 from rep_17).lay 0 2088 ⟨6, 3184, 0, 0, 0, 0, 0, 0, 0, 0, 0⟩ 0 (by decide) (by decide) (by decide) (by decide) (by decide) (by decide) (by decide)
def repT18 : List (Int × Cap × Int) := (2088, ⟨6, 3184, 0, 0, 0, 0, 0, 0, 0, 0, 0⟩, 0) :: repT17
theorem rep_19 : Rep (bE 2) ((2092, ⟨6, 3192, 0, 0, 0, 0, 0, 0, 0, 0, 0⟩, 0) :: repT18) := (show Rep _ repT18 from rep_18).lay 0 2092 ⟨6, 3192, 0, 0, 0, 0, 0, 0, 0, 0, 0⟩ 0 (by decide) (by decide) (by decide) (by decide) (by decide) (by decide) (by decide)
def repT19 : List (Int × Cap × Int) := (2092, ⟨6, 3192, 0, 0, 0, 0, 0, 0, 0, 0, 0⟩, 0) :: repT18
theorem rep_20 : Rep (bE 3) ((2096, ⟨6, 3200, 0, 0, 0, 0, 0, 0, 0, 0, 0⟩, 0) :: repT19) := (show Rep _ repT19 from rep_19).lay 0 2096 ⟨6, 3200, 0, 0, 0, 0, 0, 0, 0, 0, 0⟩ 0 (by decide) (by decide) (by decide) (by decide) (by decide) (by decide) (by decide)
def repT20 : List (Int × Cap × Int) := (2096, ⟨6, 3200, 0, 0, 0, 0, 0, 0, 0, 0, 0⟩, 0) :: repT19
theorem rep_21 : Rep (bE 4) ((2100, ⟨6, 3208, 0, 0, 0, 0, 0, 0, 0, 0, 0⟩, 0) :: repT20) := (show Rep _ repT20 from rep_20).lay 0 2100 ⟨6, 3208, 0, 0, 0, 0, 0, 0, 0, 0, 0⟩ 0 (by decide) (by decide) (by decide) (by decide) (by decide) (by decide) (by decide)
def repT21 : List (Int × Cap × Int) := (2100, ⟨6, 3208, 0, 0, 0, 0, 0, 0, 0, 0, 0⟩, 0) :: repT20
theorem rep_22 : Rep ((bE 4).l9 14 (capO 7 3216)) ((2104, ⟨7, 3216, 0, 0, 0, 0, 0, 0, 0, 0, 0⟩, 0) :: repT21) := (show Rep _ repT21 from rep_21).lay 0 2104 ⟨7, 3216, 0, 0, 0, 0, 0, 0, 0, 0, 0⟩ 0 (by decide) (by decide) (by decide) (by decide) (by decide) (by decide) (by decide)
def repT22 : List (Int × Cap × Int) := (2104, ⟨7, 3216, 0, 0, 0, 0, 0, 0, 0, 0, 0⟩, 0) :: repT21
theorem rep_23 : Rep (((bE 4).l9 14 (capO 7 3216)).l9 15 (capB 1 3584 9)) ((2108, ⟨1, 3584, 9, 0, 0, 0, 0, 0, 0, 0, 0⟩, 0) :: repT22) := (show Rep _ repT22 from rep_22).lay 0 2108 ⟨1, 3584, 9, 0, 0, 0, 0, 0, 0, 0, 0⟩ 0 (by decide) (by decide) (by decide) (by decide) (by decide) (by decide) (by decide)
def repT23 : List (Int × Cap × Int) := (2108, ⟨1, 3584, 9, 0, 0, 0, 0, 0, 0, 0, 0⟩, 0) :: repT22
theorem rep_24 : Rep ((((bE 4).l9 14 (capO 7 3216)).l9 15 (capB 1 3584 9)).l9 16 (capB 1 4096 10)) ((2112, ⟨1, 4096, 10, 0, 0, 0, 0, 0, 0, 0, 0⟩, 0) :: repT23) := (show Rep _ repT23 from rep_23).lay 0 2112 ⟨1, 4096, 10, 0, 0, 0, 0, 0, 0, 0, 0⟩ 0 (by decide) (by decide) (by decide) (by decide) (by decide) (by decide) (by decide)
def repT24 : List (Int × Cap × Int) := (2112, ⟨1, 4096, 10, 0, 0, 0, 0, 0, 0, 0, 0⟩, 0) :: repT23
theorem rep_25 : Rep (((((bE 4).l9 14 (capO 7 3216)).l9 15 (capB 1 3584 9)).l9 16 (capB 1 4096 10)).l9 17 (capO 11 0)) ((2116, ⟨11, 0, 0, 0, 0, 0, 0, 0, 0, 0, 0⟩, 0) :: repT24) := (show Rep _ repT24 from rep_24).lay 0 2116 ⟨11, 0, 0, 0, 0, 0, 0, 0, 0, 0, 0⟩ 0 (by decide) (by decide) (by decide) (by decide) (by decide) (by decide) (by decide)
def repT25 : List (Int × Cap × Int) := (2116, ⟨11, 0, 0, 0, 0, 0, 0, 0, 0, 0, 0⟩, 0) :: repT24
theorem rep_26 : Rep (baseM) ((2120, ⟨13, 0, 0, 0, 0, 0, 0, 0, 0, 0, 0⟩, 0) :: repT25) := (show Rep _ repT25 from rep_25).lay 0 2120 ⟨13, 0, 0, 0, 0, 0, 0, 0, 0, 0, 0⟩ 0 (by decide) (by decide) (by decide) (by decide) (by decide) (by decide) (by decide)
def baseT : List (Int × Cap × Int) := [(2120, ⟨13, 0, 0, 0, 0, 0, 0, 0, 0, 0, 0⟩, 0), (2116, ⟨11, 0, 0, 0, 0, 0, 0, 0, 0, 0, 0⟩, 0), (2112, ⟨1, 4096, 10, 0, 0, 0, 0, 0, 0, 0, 0⟩, 0), (2108, ⟨1, 3584, 9, 0, 0, 0, 0, 0, 0, 0, 0⟩, 0), (2104, ⟨7, 3216, 0, 0, 0, 0, 0, 0, 0, 0, 0⟩, 0), (2100, ⟨6, 3208, 0, 0, 0, 0, 0, 0, 0, 0, 0⟩, 0), (2096, ⟨6, 3200, 0, 0, 0, 0, 0, 0, 0, 0, 0⟩, 0), (2092, ⟨6, 3192, 0, 0, 0, 0, 0, 0, 0, 0, 0⟩, 0), (2088, ⟨6, 3184, 0, 0, 0, 0, 0, 0, 0, 0, 0⟩, 0), (2084, ⟨8, 3168, 0, 0, 0, 0, 0, 7, 0, 0, 0⟩, 0), (2076, ⟨5, 3144, 0, 0, 0, 0, 0, 7, 0, 0, 0⟩, 0), (2080, ⟨8, 3152, 0, 0, 0, 0, 0, 7, 0, 0, 0⟩, 0), (2072, ⟨5, 3136, 0, 0, 0, 0, 0, 7, 0, 0, 0⟩, 0), (2068, ⟨4, 3128, 0, 0, 0, 0, 0, 7, 0, 0, 0⟩, 0), (2064, ⟨4, 3124, 0, 0, 0, 0, 0, 7, 0, 0, 0⟩, 0), (2060, ⟨4, 3120, 0, 0, 0, 0, 0, 7, 0, 0, 0⟩, 0), (2056, ⟨2, 3104, 2, 0, 1, 1, 0, 0, 0, 0, 0⟩, 0), (2052, ⟨2, 3072, 3, 0, 0, 0, 0, 0, 0, 0, 0⟩, 0), (1216, ⟨2, 2048, 8, 0, 0, 24, 0, 0, 0, 0, 0⟩, 1), (1152, ⟨2, 2048, 8, 0, 0, 24, 0, 0, 0, 0, 0⟩, 1), (1088, ⟨2, 2048, 8, 0, 0, 24, 0, 0, 0, 0, 0⟩, 1), (1024, ⟨2, 2048, 8, 0, 0, 24, 0, 0, 0, 0, 0⟩, 0), (44, ⟨3, 1216, 0, 0, 0, 0, 0, 0, 0, 0, 0⟩, 0), (40, ⟨3, 1152, 0, 0, 0, 0, 0, 0, 0, 0, 0⟩, 0), (36, ⟨3, 1088, 0, 0, 0, 0, 0, 0, 0, 0, 0⟩, 0), (32, ⟨3, 1024, 0, 0, 0, 0, 0, 0, 0, 0, 0⟩, 0)]
theorem rep_base : Rep baseM baseT := rep_26
end Go.Proofs.Ytpmobbehdpgnbaa

/- Law 12: both as the plan has it; are they alike? -/
namespace Go.Proofs.Ytpmobbehdpgnbaa
open Go.D
open Nat (reduceAdd reducePow reduceMul reduceSub reduceLeDiff reduceLT reduceEqDiff)
open Int (reduceNeg reduceLE reduceEq reduceNe reduceToNat)
open Go.D renaming istep → zy, pickR → zx, bin1R → zw, un1R → zv, eqS → zu, eq1 → zq, cmpS → zp, cmp1 → zj, isNil → zk, shows → zg, result → zZ, q_cond_t → zV, q_cond_f → zU
open List renaming set → zY, replicate → zX
open Option renaming map → zW
open Nat renaming reduceAdd → zQ, reducePow → yz, reduceMul → yy, reduceSub → yx, reduceLeDiff → yw, reduceLT → yv, reduceEqDiff → yu
open Int renaming reduceNeg → yq, reduceLE → yp, reduceEq → yj, reduceNe → yk, reduceToNat → yg, reducePow → yZ, reduceLT → yY, reduceAdd → yX, reduceSub → yW, reduceMul → yV, reduceBEq → yU, reduceBNe → yQ
set_option linter.all false
set_option maxRecDepth 100000
set_option maxHeartbeats 8000000

def baseC : M := (M.zero 13).lay 0 baseM.w
theorem base_len : baseM.w.length = 8192 := by
  obtain ⟨L, D, _⟩ := rep_base.di
  exact D.len
theorem lay_all {m : M} {vs : List Int} (hl : vs.length = m.w.length) (hu : ∀ v, v ∈ vs → u64 v) : (m.lay 0 vs).w = vs := by
  have h1 := M.lay_w vs m 0 hu
  have h2 := put_all' (wc vs) (wc m.w) [] (by rw [wc_len, wc_len, hl])
  simp only [List.nil_append, List.length_nil] at h2
  rw [h2] at h1
  have h3 := congrArg unwc h1
  rw [unwc_wc, unwc_wc] at h3
  exact (Option.some.inj h3).symm
theorem base_len2 : baseM.w.length = (M.zero 13).w.length := by
  rw [base_len, M.zero_len]
  decide
theorem baseC_w : baseC.w = baseM.w := by
  unfold baseC
  exact lay_all base_len2 baseM.u
def basedG : List V → List Blk → Res
  | [], h => .ok (.s (.p (.g (h.length + 4)) 0)) [] (wH h baseC baseM [])
  | _, _ => .bad
noncomputable def TBd : Tab := addT 92 baseG (addT 10 newM (addT 11 load2G (noT)))
theorem TBd_snd : TBd.Snd Try.prog := addT_snd ok92 base_snd (addT_snd ok10 new_snd (addT_snd ok11 load2_snd ((noT_snd _))))
theorem based_snd : Snd Try.prog 64 (FSpec.of basedG) := snd_run TBd_snd mixed Try.func64 dc64 300 fun args h K hc hS => by
  unfold basedG at hS
  split at hS
  · simp only [spec_ok] at hS
    have hd : decide ((11 : Int) ≤ 13) && decide ((13 : Int) ≤ 16) = true := by decide
    have ht : Int.toNat 13 = 13 := rfl
    have hbl := base_len
    have ha1 : ∀ X, (memH (memH h baseM) (M.zero 13) ++ X)[h.length]? = some (MB (h.length + 1) baseM) := fun X => (memH_is1 h baseM (M.zero 13)).app.ha
    have ha1' : (memH (memH h baseM) (M.zero 13))[h.length]? = some (MB (h.length + 1) baseM) := (memH_is1 h baseM (M.zero 13)).ha
    have hb1' : (memH (memH h baseM) (M.zero 13))[h.length + 1]? = some (MW baseM) := (memH_is1 h baseM (M.zero 13)).hb
    have hL1 : listOf (memH (memH h baseM) (M.zero 13)) (.sl (.g (h.length + 1)) 0 baseM.w.length baseM.w.length) = some baseM.w := listOf_at (st := .rw) (room := baseM.w.length) hb1' (fun x => BK.noConfusion x) rfl
    have hmo : memOf (memH (memH h baseM) (M.zero 13)) (h.length + 2) = some (h.length + 3, M.zero 13) := memOf_eq (memH_is2 h baseM (M.zero 13))
    have hh : (M.zero 13).has 0 baseM.w.length = true := M.has_iff.2 (by rw [M.zero_len, base_len]; decide)
    simp (config := {maxSteps := 9999999}) only [EV0, zy, zx, zw, zv, zu, zq, zp, zj, zk, leT, zg, rvC, zZ, zY, zX, zW, ↓zV, ↓zU, reduceCtorEq, zQ, yz, yZ, yy, yx, yw, yv, yu, yq, yY, yp, yj, yk, yX, yW, yV, yg, yU, yQ, df64, TBd, baseG, newM, ht, ha1', MB, load2G, hL1, hmo, M.loadE, M.loadX, hh, memH_len, put, fillP]
    refine ⟨⟨fun e => ?_, baseM.u⟩, ?_⟩
    · exact absurd e (by omega)
    refine ⟨[0], by simp, rfl, ?_⟩
    simp only [getAll, List.getElem?_cons_zero]
    refine ⟨?_, ?_⟩
    · simp [S.kept, R.kept]
    · rw [memH_set2]
      refine cast ?_ hS
      simp [wH, wB, baseC, V.ren, S.ren, R.prom, Blk.ren, memH_len, List.idxOf, List.findIdx, List.findIdx.go]
  · exact hS.elim
end Go.Proofs.Ytpmobbehdpgnbaa

/- Law 12: are they alike? -/
namespace Go.Proofs.Ytpmobbehdpgnbaa
open Go.D
set_option linter.all false
set_option maxRecDepth 100000
set_option maxHeartbeats 8000000


end Go.Proofs.Ytpmobbehdpgnbaa

