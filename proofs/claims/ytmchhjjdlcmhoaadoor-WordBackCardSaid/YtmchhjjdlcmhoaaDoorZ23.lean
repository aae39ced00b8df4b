/- Law 01: WordPacks. -/
import Derived.Test.YtmchhjjdlcmhoaaDoorZ12
import Derived.Test.YtmchhjjdlcmhoaaDoorZ21
import Derived.Test.YtmchhjjdlcmhoaaDoorZ22
import Derived.Test.YtmchhjjdlcmhoaaDoorZ18
/- Law 01: WordPacks. -/
namespace Go.Proofs.YtmchhjjdlcmhoaaDoor
open Go.D
set_option linter.all false
set_option maxRecDepth 100000
set_option maxHeartbeats 8000000

noncomputable def TP : Tab := addT 8 awake1G (addT 13 pack4G (addT 16 unpack4G (addT 14 rpackG (addT 15 unpack4G (addT 17 same1G (addT 22 onesG noT))))))
theorem TP_snd : TP.Snd Tryd.prog := addT_snd ok8 awake1_snd (addT_snd ok13 pack4_snd (addT_snd ok16 unpack4_snd (addT_snd ok14 rpack_snd (addT_snd ok15 runpack4_snd (addT_snd ok17 same1_snd (addT_snd ok22 count_snd (noT_snd _)))))))

/-- Shared blocks behind all others, as own ones. -/
def R.own (n d : Nat) : R → R
  | .g k => .g k
  | .l k => if k < d then .l k else .g (n + (k - d))
theorem R.own_g {n d k : Nat} : R.own n d (.g k) = .g k := rfl
theorem R.own_lt {n d k : Nat} (h : k < d) : R.own n d (.l k) = .l k := if_pos h
theorem R.own_0 {n d : Nat} : R.own n d (.l d) = .g n := by simp [R.own]
theorem Wk.own {n0 : Nat} {t t' : List V} {ls h X : List Blk} (X' : List Blk) (hn : n0 ≤ h.length) (hX : X'.map (Blk.ren (R.own h.length ls.length)) = X) (hls : ls.map (Blk.ren (R.own h.length ls.length)) = ls)
    (ht : leT (t'.map (V.ren (R.own h.length ls.length))) t) (hv : t'.all (V.val h.length (ls ++ X').length) = true) (hl : (ls ++ X').all (fun B => vals h.length (ls ++ X').length B.cells) = true) (hh : clean h.length h = true) : Wk n0 ⟨t, ls, h ++ X⟩ ⟨t', ls ++ X', h⟩ := by
  obtain ⟨h1, h2⟩ := leT_at ht
  have hcl := hh
  simp only [clean, List.all_eq_true] at hh
  simp only [List.all_eq_true] at hl
  have hlen : X.length = X'.length := by rw [← hX, List.length_map]
  have hρ : ∀ B : Blk, vals h.length 0 B.cells = true → B.ren (R.own h.length ls.length) = B := fun B hb => by
    obtain ⟨st, cells, room⟩ := B
    simp only [Blk.ren]
    congr 1
    refine (List.map_congr_left fun s hs => ?_).trans (List.map_id _)
    simp only [vals, List.all_eq_true] at hb
    have hs := hb s hs
    have hr : ∀ r : R, r.val h.length 0 = true → R.own h.length ls.length r = r := fun r hr => by
      cases r with
      | g k => rfl
      | l k => simp [R.val] at hr
    cases s with
    | p r o => simp only [S.ren, id]; rw [hr r hs]
    | sl r o a c => simp only [S.ren, id]; rw [hr r hs]
    | fn f cs =>
      simp only [S.ren, S.fn.injEq, true_and, id]
      simp only [S.val, List.all_eq_true] at hs
      refine (List.map_congr_left fun x hx => ?_).trans (List.map_id _)
      rw [hr x.1 (hs x hx)]; rfl
    | _ => rfl
  refine .by_ (R.own h.length ls.length) ⟨hn, fun k hk => rfl, fun k hk hk' => .inl ⟨k, hk, rfl⟩, fun r r' hr hr' e => ?_, fun r B' hb => ?_, fun B' hB' => hh B' hB', fun B' hB' => hl B' hB', by simpa using h1, fun i' v' hi' => ?_⟩
  · simp only at hr hr'
    cases r with
    | g k => cases r' with
      | g k' => exact e
      | l k' =>
        simp only [R.own] at e
        split at e
        · cases e
        · simp only [R.val, decide_eq_true_eq, R.g.injEq] at hr e; omega
    | l k => cases r' with
      | g k' =>
        simp only [R.own] at e
        split at e
        · cases e
        · simp only [R.val, decide_eq_true_eq, R.g.injEq] at hr' e; omega
      | l k' =>
        simp only [R.own] at e
        split at e <;> split at e <;> simp only [R.g.injEq, R.l.injEq, reduceCtorEq] at e ⊢ <;> omega
  · cases r with
    | g k =>
      simp only [blk] at hb
      show (h ++ X)[k]? = _
      rw [List.getElem?_append_left (List.getElem?_eq_some_iff.1 hb).1, hb, hρ B' (hh B' (List.mem_of_getElem? hb))]
    | l k =>
      simp only [blk] at hb
      by_cases e : k < ls.length
      · rw [List.getElem?_append_left e] at hb
        have := congrArg (fun l => l[k]?) hls
        simp only [List.getElem?_map, hb, Option.map_some] at this
        simp only [R.own, if_pos e]
        show ls[k]? = _
        rw [hb, this]
      · rw [List.getElem?_append_right (by omega)] at hb
        have := congrArg (fun l => l[k - ls.length]?) hX
        simp only [List.getElem?_map, hb, Option.map_some] at this
        simp only [R.own, if_neg e]
        show (h ++ X)[h.length + (k - ls.length)]? = _
        rw [app_getn, this]
  · simp only [List.all_eq_true] at hv
    refine ⟨hv v' (List.mem_of_getElem? hi'), ?_⟩
    rcases h2 i' (v'.ren (R.own h.length ls.length)) (by rw [List.getElem?_map, hi']; rfl) with h3 | h3
    · exact .inl (V.ren_u' h3)
    · exact .inr h3
theorem IsArr.shows {α : Type} {c : α → List S} {k : Nat} (hk : ∀ x, (c x).length = k) {h : List Blk} {s : S} {L : List α} (H : IsArr c h s L) (ls : List Blk) : shows ls h k s = some (L.length, arr c L) := by
  rcases H with ⟨rfl | ⟨a, c', rfl⟩, rfl⟩ | ⟨j, c', st, room, rfl, e1, e2⟩
  · rfl
  · rfl
  · simp only [D.shows, blk, e1]
    by_cases h0 : L.length = 0
    · have : L = [] := List.eq_nil_of_length_eq_zero h0
      subst this
      split <;> simp [arr, sub]
    · have hl := arr_length hk L
      rw [if_neg (by simp only [not_or]; exact ⟨e2 h0, by simp only [hl]; omega⟩)]
      congr 2
      simp only [sub, List.drop_zero, ← hl, List.take_length]
theorem zeros_fd : ∀ n, zeros [S.i .i64 0, .i .u64 0] n = arr Fd.c (List.replicate n Fd.z)
  | 0 => rfl
  | n + 1 => by simp only [zeros, zeros_fd n, List.replicate_succ, arr]; rfl
theorem own_len (n : Nat) : (zeros [S.i .i64 0, .i .u64 0] n).length = n * 2 := by
  rw [zeros_fd, arr_length Fd.c_len, List.length_replicate]
theorem own_sub (F : List Fd) : sub (arr Fd.c F) 0 (min F.length (F.length + 1) * 2) = arr Fd.c F := by
  have hl := arr_length Fd.c_len F
  rw [show min F.length (F.length + 1) * 2 = (arr Fd.c F).length by rw [hl]; omega]
  simp [sub]
theorem own_eq (F : List Fd) : put (zeros [S.i .i64 0, .i .u64 0] (F.length + 1)) 0 (arr Fd.c F) = arr Fd.c (F ++ [Fd.z]) := by
  have hl := arr_length Fd.c_len F
  rw [put_eq _ _ _ (by rw [own_len, hl]; omega), List.take_zero, List.nil_append, Nat.zero_add, zeros_fd, List.replicate_succ', arr_append, arr_append]
  congr 1
  rw [hl, List.drop_append, arr_length Fd.c_len, List.length_replicate, Nat.sub_self, List.drop_zero, List.drop_eq_nil_of_le (by rw [arr_length Fd.c_len, List.length_replicate]; omega)]
  rfl
theorem fd_all (p : S → Bool) (hp : ∀ k n, p (.i k n) = true) (F : List Fd) : (arr Fd.c F).all p = true := by
  rw [arr_all]; simp [Fd.c, hp]

theorem ic_all (p : S → Bool) (hp : ∀ n, p (.i .i64 n) = true) (M : List Int) : (arr Ic M).all p = true := by
  rw [arr_all]; simp [Ic, hp]
theorem fd_ren (ρ : R → R) (M : List Fd) : (arr Fd.c M).map (S.ren ρ) = arr Fd.c M := by
  induction M with
  | nil => rfl
  | cons y M ih => simp only [arr, List.map_append, ih]; rfl
theorem ic_ren (ρ : R → R) (M : List Int) : (arr Ic M).map (S.ren ρ) = arr Ic M := by
  induction M with
  | nil => rfl
  | cons y M ih => simp only [arr, List.map_append, ih]; rfl
theorem decU_arr : ∀ L : List Int, decI (arr Uc L) = L
  | [] => rfl
  | l :: L => by simp only [arr, Uc, List.cons_append, List.nil_append, decI, decU_arr L]
theorem pairs_map : ∀ F : List Fd, pairs (F.map Fd.b) (F.map Fd.v) = F
  | [] => rfl
  | f :: F => by simp only [List.map_cons, pairs, pairs_map F]
def ppT (k c : Nat) : Nat → V
  | 0 => .s .ns
  | i + 1 => .s (.sl (.l k) 0 (i + 1) c)
def ppL (own : Blk) (F : List Fd) (c1 c2 : Nat) : Nat → List Blk
  | 0 => [own]
  | i + 1 => [own, ⟨.rw, arr Ic ((F.take (i + 1)).map Fd.b), c1⟩, ⟨.rw, arr Uc ((F.take (i + 1)).map Fd.v), c2⟩]

theorem rep_put {N : List Int} {j : Nat} (h : j < N.length) : put (arr Uc (List.replicate j 77 ++ N.drop j)) j [.i .u64 77] = arr Uc (List.replicate (j + 1) 77 ++ N.drop (j + 1)) := by
  have hl : j < (List.replicate j (77 : Int) ++ N.drop j).length := by simp; omega
  have := arr_put Uc_len hl 77
  rw [Nat.mul_one] at this
  refine this.trans ?_
  congr 1
  rw [List.set_append_right _ _ (by simp), List.length_replicate, Nat.sub_self, List.drop_eq_getElem_cons h, List.set_cons_zero, List.replicate_succ', List.append_assoc]
  rfl
def wpT (s s2 : S) (w : Int) (n : Nat) (p e : Int) : List V := setT [(0, .s s), (1, .s (.i .u64 w)), (2, .s s2), (7, .s (.b true)), (10, .s (.sl (.l 0) 0 (n + 1) (n + 1))), (12, .s (.i .u64 p)), (13, .s (.i .i64 e)), (14, .s (.i .u64 p)), (15, .s (.i .i64 e))] (List.replicate 149 (.s .u))
theorem wp_end {h : List Blk} {K : V → List Blk → Prop} {s s2 : S} {F : List Fd} {L : List Int} {w p e : Int} (hc : clean h.length h = true) (Hs : IsArr Fd.c h s F) (hw : u64 w) (Hs2 : IsArr Ic h s2 L) (c0 : ¬ (2147483647 : Int) < F.length) (c1 : ¬ (2147483647 : Int) < L.length) (hK : K (.s (.b true)) h) :
    swp TP.Γ h.length (finP df4.res (Cut h.length K)) [.c (DC.after 11 df4.body)] ⟨wpT s s2 w F.length p e, [⟨.rw, arr Fd.c (F ++ [Fd.z]), (F.length + 1) * 2⟩], h⟩ := by
  have hFin : Cut h.length K (.s (.b true)) h := cut_all (Nat.le_refl _) hc rfl hK
  have hlen := fun ls h' => Hs.sl.len (ls := ls) (h := h')
  have hkn := Hs.sl.known
  have hnl := Hs.sl.noL
  have hnm := Hs.sl.names
  have hbl := Hs.sl.below
  have hld := Hs.sl.lend
  have hkn2 := Hs2.sl.known
  have hnl2 := Hs2.sl.noL
  have hnm2 := Hs2.sl.names
  have hbl2 := Hs2.sl.below
  have hld2 := Hs2.sl.lend
  have hp2 : ∀ X, preOf Ic (h ++ X) s2 = some L := fun X => preOf_eq Hs2.pre.app
  have hvl : ∀ m, s.val (h.length + 1) m = true := fun m => Hs.sl.val (by omega)
  have hvl2 : ∀ m, s2.val (h.length + 1) m = true := fun m => Hs2.sl.val (by omega)
  have hro : ∀ a b, s.ren (R.own a b) = s := fun a b => Hs.sl.ren fun _ => rfl
  have hro2 : ∀ a b, s2.ren (R.own a b) = s2 := fun a b => Hs2.sl.ren fun _ => rfl
  have fV : ∀ n m M, vals n m (arr Fd.c M) = true := fun n m => fd_all _ fun _ _ => rfl
  have uV : ∀ n m M, vals n m (arr Uc M) = true := fun n m => uc_all _ fun _ => rfl
  have hp20 : preOf Ic h s2 = some L := preOf_eq Hs2.pre
  have hL64 : L.length ≤ 9223372036854775807 := by omega
  have fB : ∀ k M, (arr Fd.c M).all (S.below k) = true := fun k => fd_all _ fun _ _ => rfl
  have uB : ∀ k M, (arr Uc M).all (S.below k) = true := fun k => uc_all _ fun _ => rfl
  have uK : ∀ M, known (arr Uc M) = true := uc_all _ fun _ => rfl
  have fN : ∀ k M, ((arr Fd.c M).all fun s => !S.names k s) = true := fun k => fd_all _ fun _ _ => rfl
  have uN : ∀ k M, ((arr Uc M).all fun s => !S.names k s) = true := fun k => uc_all _ fun _ => rfl
  have hbn : ∀ a b : Nat, ¬ (a + b < a) := fun a b => by omega
  have hF1 : (F.length : Int) < ((F.length + 1 : Nat) : Int) := by omega
  have hF2 : (0 : Int) ≤ (F.length : Int) := by omega
  have hlFz := arr_length Fd.c_len (F ++ [Fd.z])
  rw [List.length_append, List.length_singleton] at hlFz
  have E5 : sub (arr Fd.c (F ++ [Fd.z])) (F.length * 2) 2 = [.i .i64 0, .i .u64 0] := by
    rw [arr_sub Fd.c_len (by simp), List.getElem_append_right (Nat.le_refl _)]; simp [Fd.c, Fd.z]
  have L5 : F.length * 2 + 2 ≤ (arr Fd.c (F ++ [Fd.z])).length := by rw [hlFz]; omega
  simp only [wpT]
  simp only [DC.after, df4]
  cases hb : unpackB w L 0 with
  | true =>
    obtain ⟨M, hM⟩ : ∃ M, unpackV w L 0 = M := ⟨_, rfl⟩
    have hMl : M.length ≤ 9223372036854775807 := by rw [← hM, unpackV_len]; exact hL64
    have hMl2 : M.length ≤ 2147483647 := by rw [← hM, unpackV_len]; omega
    cases M with
    | nil =>
      refine run_sound (Tab.ok_Γ _) 300 _ _ _ _ ?_
      simp (config := { maxSteps := 10000000 }) only [run_drx, run_xd, run_xq, run_xg, run_xb, EV1, EV2, EV3, EV4, EV5, EV6, addT, istep, lenR_sl, lenR_ns, lenR_es, pickR, putD, bin1R, un1R, slcR, bnd, capsOf, fillP, S_plain, V_plain, V.cells, S_known, V_known, C.v, blk, setL, setH, eqS, eq1, cmpS, cmp1, isNil, popTo, killT, setT, leT, V.below, C.below, S_below, R.below, V.val, C.val, S_val, R.val, R.takes, vals, shows, List.any_cons, List.any_nil, unnamed, V.kill, V.names, C.names, S_names, R.names, List.set, List.replicate, ↓q_cond_t, ↓q_cond_f, if_true, if_false, reduceCtorEq, rvals, rvC, result, C_known, V.noL, C.noL, S_noL, R.noL, Option.map, true_and, and_true, ge_iff_le, gt_iff_lt, implies_true, q_ite_t, q_ite_f, beq_iff_eq, bne_iff_ne, q_ne, Nat.reduceAdd, Nat.reducePow, Int.reducePow, Nat.reduceMul, Nat.reduceSub, Nat.reduceLeDiff, Nat.reduceLT, Nat.reduceEqDiff, Int.reduceNeg, Int.reduceLT, Int.reduceLE, Int.reduceEq, Int.reduceNe, Int.reduceAdd, Int.reduceSub, Int.reduceMul, Int.reduceToNat, Int.reduceBEq, Int.reduceBNe, TP, unpack4G, R.lend, R.unlend, S_ren, C.ren, V.ren, Blk.ren, take_app, drop_app, Nat.not_lt_zero, Nat.lt_irrefl, Nat.add_sub_cancel_left, Nat.not_lt, Nat.le_add_right, fd_ren, hw, hL64, hp2, hp20, hb, hM, wordsR, pairV, ↓hkn2, ↓hnl2, hld2, hbn, setT]
      refine loop_rule (α := Nat) (91 :: 94 :: [6, 19, 20, 21, 22, 23, 97, 98, 99, 100, 101, 102, 103, 104, 105, 106, 107, 108, 109, 110, 111, 112, 113, 114, 115, 116, 117, 118, 119, 120, 121, 122, 123, 124, 125, 126, 127, 128]) (fun y => [(19, .s (.i .i64 (y : Int)))]) (fun _ => [⟨.rw, arr Fd.c (F ++ [Fd.z]), (F.length + 1) * 2⟩]) (fun _ => h)
        (fun y => y ≤ 2) (fun y => 2 - y) 0 (Nat.zero_le _) (Wk.same rfl rfl ?_) ?_
      · simp (config := { maxSteps := 10000000 }) only [run_drx, run_xd, run_xq, run_xg, run_xb, EV1, EV2, EV3, EV4, EV5, EV6, addT, istep, lenR_sl, lenR_ns, lenR_es, pickR, putD, bin1R, un1R, slcR, bnd, capsOf, fillP, S_plain, V_plain, V.cells, S_known, V_known, C.v, blk, setL, setH, eqS, eq1, cmpS, cmp1, isNil, popTo, killT, setT, leT, V.below, C.below, S_below, R.below, V.val, C.val, S_val, R.val, R.takes, vals, shows, List.any_cons, List.any_nil, unnamed, V.kill, V.names, C.names, S_names, R.names, List.set, List.replicate, ↓q_cond_t, ↓q_cond_f, if_true, if_false, reduceCtorEq, rvals, rvC, result, C_known, V.noL, C.noL, S_noL, R.noL, Option.map, true_and, and_true, ge_iff_le, gt_iff_lt, implies_true, q_ite_t, q_ite_f, beq_iff_eq, bne_iff_ne, q_ne, Nat.reduceAdd, Nat.reducePow, Int.reducePow, Nat.reduceMul, Nat.reduceSub, Nat.reduceLeDiff, Nat.reduceLT, Nat.reduceEqDiff, Int.reduceNeg, Int.reduceLT, Int.reduceLE, Int.reduceEq, Int.reduceNe, Int.reduceAdd, Int.reduceSub, Int.reduceMul, Int.reduceToNat, Int.reduceBEq, Int.reduceBNe, Int.natCast_zero]
      · rintro X y hy IH
        rcases Nat.lt_or_ge y 2 with hlt | hge
        · have I : (y : Int) < 2 := by omega
          have I2 : IntKind.i64.wrap ((y : Int) + 1) = ((y + 1 : Nat) : Int) := by rw [wrap64] <;> omega
          refine run_sound (Tab.ok_Γ _) 300 _ _ _ _ ?_
          simp (config := { maxSteps := 10000000 }) only [run_drx, run_xd, run_xq, run_xg, run_xb, EV1, EV2, EV3, EV4, EV5, EV6, addT, istep, lenR_sl, lenR_ns, lenR_es, pickR, putD, bin1R, un1R, slcR, bnd, capsOf, fillP, S_plain, V_plain, V.cells, S_known, V_known, C.v, blk, setL, setH, eqS, eq1, cmpS, cmp1, isNil, popTo, killT, setT, leT, V.below, C.below, S_below, R.below, V.val, C.val, S_val, R.val, R.takes, vals, shows, List.any_cons, List.any_nil, unnamed, V.kill, V.names, C.names, S_names, R.names, List.set, List.replicate, ↓q_cond_t, ↓q_cond_f, if_true, if_false, reduceCtorEq, rvals, rvC, result, C_known, V.noL, C.noL, S_noL, R.noL, Option.map, true_and, and_true, ge_iff_le, gt_iff_lt, implies_true, q_ite_t, q_ite_f, beq_iff_eq, bne_iff_ne, q_ne, Nat.reduceAdd, Nat.reducePow, Int.reducePow, Nat.reduceMul, Nat.reduceSub, Nat.reduceLeDiff, Nat.reduceLT, Nat.reduceEqDiff, Int.reduceNeg, Int.reduceLT, Int.reduceLE, Int.reduceEq, Int.reduceNe, Int.reduceAdd, Int.reduceSub, Int.reduceMul, Int.reduceToNat, Int.reduceBEq, Int.reduceBNe, TP, unpack4G, same1G, R.lend, R.unlend, S_ren, C.ren, V.ren, Blk.ren, take_app, drop_app, Nat.not_lt_zero, Nat.lt_irrefl, Nat.add_sub_cancel_left, Nat.not_lt, Nat.le_add_right, fd_ren, hw, hL64, hp2, hp20, hb, hM, wordsR, pairV, ↓hkn2, ↓hnl2, hld2, hbn, I]
          refine loop_rule (α := Unit) [] (fun _ => []) (fun _ => [⟨.rw, arr Fd.c (F ++ [Fd.z]), (F.length + 1) * 2⟩]) (fun _ => h) (fun _ => True) (fun _ => 0) () trivial .refl ?_
          rintro X2 _ _ _
          refine run_sound (Tab.ok_Γ _) 300 _ _ _ _ ?_
          simp (config := { maxSteps := 10000000 }) only [run_drx, run_xd, run_xq, run_xg, run_xb, EV1, EV2, EV3, EV4, EV5, EV6, addT, istep, lenR_sl, lenR_ns, lenR_es, pickR, putD, bin1R, un1R, slcR, bnd, capsOf, fillP, S_plain, V_plain, V.cells, S_known, V_known, C.v, blk, setL, setH, eqS, eq1, cmpS, cmp1, isNil, popTo, killT, setT, leT, V.below, C.below, S_below, R.below, V.val, C.val, S_val, R.val, R.takes, vals, shows, List.any_cons, List.any_nil, unnamed, V.kill, V.names, C.names, S_names, R.names, List.set, List.replicate, ↓q_cond_t, ↓q_cond_f, if_true, if_false, reduceCtorEq, rvals, rvC, result, C_known, V.noL, C.noL, S_noL, R.noL, Option.map, true_and, and_true, ge_iff_le, gt_iff_lt, implies_true, q_ite_t, q_ite_f, beq_iff_eq, bne_iff_ne, q_ne, Nat.reduceAdd, Nat.reducePow, Int.reducePow, Nat.reduceMul, Nat.reduceSub, Nat.reduceLeDiff, Nat.reduceLT, Nat.reduceEqDiff, Int.reduceNeg, Int.reduceLT, Int.reduceLE, Int.reduceEq, Int.reduceNe, Int.reduceAdd, Int.reduceSub, Int.reduceMul, Int.reduceToNat, Int.reduceBEq, Int.reduceBNe, Int.lt_irrefl, I2]
          intro c2 hc2
          refine IH (y + 1) _ (by omega) (by omega) (Wk.keep 1 (by rfl) rfl ?_ ?_ ?_)
          · simp (config := { maxSteps := 10000000 }) only [run_drx, run_xd, run_xq, run_xg, run_xb, EV1, EV2, EV3, EV4, EV5, EV6, addT, istep, lenR_sl, lenR_ns, lenR_es, pickR, putD, bin1R, un1R, slcR, bnd, capsOf, fillP, S_plain, V_plain, V.cells, S_known, V_known, C.v, blk, setL, setH, eqS, eq1, cmpS, cmp1, isNil, popTo, killT, setT, leT, V.below, C.below, S_below, R.below, V.val, C.val, S_val, R.val, R.takes, vals, shows, List.any_cons, List.any_nil, unnamed, V.kill, V.names, C.names, S_names, R.names, List.set, List.replicate, ↓q_cond_t, ↓q_cond_f, if_true, if_false, reduceCtorEq, rvals, rvC, result, C_known, V.noL, C.noL, S_noL, R.noL, Option.map, true_and, and_true, ge_iff_le, gt_iff_lt, implies_true, q_ite_t, q_ite_f, beq_iff_eq, bne_iff_ne, q_ne, Nat.reduceAdd, Nat.reducePow, Int.reducePow, Nat.reduceMul, Nat.reduceSub, Nat.reduceLeDiff, Nat.reduceLT, Nat.reduceEqDiff, Int.reduceNeg, Int.reduceLT, Int.reduceLE, Int.reduceEq, Int.reduceNe, Int.reduceAdd, Int.reduceSub, Int.reduceMul, Int.reduceToNat, Int.reduceBEq, Int.reduceBNe]
          · simp (config := { maxSteps := 10000000 }) only [run_drx, run_xd, run_xq, run_xg, run_xb, EV1, EV2, EV3, EV4, EV5, EV6, addT, istep, lenR_sl, lenR_ns, lenR_es, pickR, putD, bin1R, un1R, slcR, bnd, capsOf, fillP, S_plain, V_plain, V.cells, S_known, V_known, C.v, blk, setL, setH, eqS, eq1, cmpS, cmp1, isNil, popTo, killT, setT, leT, V.below, C.below, S_below, R.below, V.val, C.val, S_val, R.val, R.takes, vals, shows, List.any_cons, List.any_nil, unnamed, V.kill, V.names, C.names, S_names, R.names, List.set, List.replicate, ↓q_cond_t, ↓q_cond_f, if_true, if_false, reduceCtorEq, rvals, rvC, result, C_known, V.noL, C.noL, S_noL, R.noL, Option.map, true_and, and_true, ge_iff_le, gt_iff_lt, implies_true, q_ite_t, q_ite_f, beq_iff_eq, bne_iff_ne, q_ne, Nat.reduceAdd, Nat.reducePow, Int.reducePow, Nat.reduceMul, Nat.reduceSub, Nat.reduceLeDiff, Nat.reduceLT, Nat.reduceEqDiff, Int.reduceNeg, Int.reduceLT, Int.reduceLE, Int.reduceEq, Int.reduceNe, Int.reduceAdd, Int.reduceSub, Int.reduceMul, Int.reduceToNat, Int.reduceBEq, Int.reduceBNe, hbl, hbl2, List.all_cons, List.all_nil, List.length_cons, List.length_nil]
          · simp [fB]
        · have : y = 2 := by omega
          subst this
          have I : ¬ (((2 : Nat) : Int) < 2) := by omega
          refine run_sound (Tab.ok_Γ _) 300 _ _ _ _ ?_
          simp (config := { maxSteps := 10000000 }) only [run_drx, run_xd, run_xq, run_xg, run_xb, EV1, EV2, EV3, EV4, EV5, EV6, addT, istep, lenR_sl, lenR_ns, lenR_es, pickR, putD, bin1R, un1R, slcR, bnd, capsOf, fillP, S_plain, V_plain, V.cells, S_known, V_known, C.v, blk, setL, setH, eqS, eq1, cmpS, cmp1, isNil, popTo, killT, setT, leT, V.below, C.below, S_below, R.below, V.val, C.val, S_val, R.val, R.takes, vals, shows, List.any_cons, List.any_nil, unnamed, V.kill, V.names, C.names, S_names, R.names, List.set, List.replicate, ↓q_cond_t, ↓q_cond_f, if_true, if_false, reduceCtorEq, rvals, rvC, result, C_known, V.noL, C.noL, S_noL, R.noL, Option.map, true_and, and_true, ge_iff_le, gt_iff_lt, implies_true, q_ite_t, q_ite_f, beq_iff_eq, bne_iff_ne, q_ne, Nat.reduceAdd, Nat.reducePow, Int.reducePow, Nat.reduceMul, Nat.reduceSub, Nat.reduceLeDiff, Nat.reduceLT, Nat.reduceEqDiff, Int.reduceNeg, Int.reduceLT, Int.reduceLE, Int.reduceEq, Int.reduceNe, Int.reduceAdd, Int.reduceSub, Int.reduceMul, Int.reduceToNat, Int.reduceBEq, Int.reduceBNe, I, ↓hlen, ↓hkn, hF1, hF2, E5, L5, put, fillP, eqS, cmpS]
          exact hFin
    | cons y M =>
      simp only [List.length_cons] at hMl hMl2
      refine run_sound (Tab.ok_Γ _) 300 _ _ _ _ ?_
      simp (config := { maxSteps := 10000000 }) only [run_drx, run_xd, run_xq, run_xg, run_xb, EV1, EV2, EV3, EV4, EV5, EV6, addT, istep, lenR_sl, lenR_ns, lenR_es, pickR, putD, bin1R, un1R, slcR, bnd, capsOf, fillP, S_plain, V_plain, V.cells, S_known, V_known, C.v, blk, setL, setH, eqS, eq1, cmpS, cmp1, isNil, popTo, killT, setT, leT, V.below, C.below, S_below, R.below, V.val, C.val, S_val, R.val, R.takes, vals, shows, List.any_cons, List.any_nil, unnamed, V.kill, V.names, C.names, S_names, R.names, List.set, List.replicate, ↓q_cond_t, ↓q_cond_f, if_true, if_false, reduceCtorEq, rvals, rvC, result, C_known, V.noL, C.noL, S_noL, R.noL, Option.map, true_and, and_true, ge_iff_le, gt_iff_lt, implies_true, q_ite_t, q_ite_f, beq_iff_eq, bne_iff_ne, q_ne, Nat.reduceAdd, Nat.reducePow, Int.reducePow, Nat.reduceMul, Nat.reduceSub, Nat.reduceLeDiff, Nat.reduceLT, Nat.reduceEqDiff, Int.reduceNeg, Int.reduceLT, Int.reduceLE, Int.reduceEq, Int.reduceNe, Int.reduceAdd, Int.reduceSub, Int.reduceMul, Int.reduceToNat, Int.reduceBEq, Int.reduceBNe, TP, unpack4G, R.lend, R.unlend, S_ren, C.ren, V.ren, Blk.ren, take_app, drop_app, Nat.not_lt_zero, Nat.lt_irrefl, Nat.add_sub_cancel_left, Nat.not_lt, Nat.le_add_right, fd_ren, hw, hL64, hp2, hp20, hb, hM, wordsR, pairV, ↓hkn2, ↓hnl2, hld2, hbn, setT]
      intro c hcM
      have h9 : (h ++ [⟨.rw, arr Uc (y :: M), c⟩] : List Blk).length = h.length + 1 := by simp
      have hc9 : clean (h.length + 1) (h ++ [⟨.rw, arr Uc (y :: M), c⟩]) = true := by
        have e1 : vals (h.length + 1) 0 (arr Uc (y :: M)) = true := uc_all _ (fun _ => rfl) _
        simp only [clean, List.all_append, List.all_cons, List.all_nil, Bool.and_true, Bool.and_eq_true, e1, and_true]
        simp only [clean, List.all_eq_true] at hc ⊢
        exact fun B hB => vals_mono (by omega) (Nat.le_refl _) (hc B hB)
      have hlM : (arr Uc (y :: M)).length = M.length + 1 := by rw [arr_length Uc_len]; simp
      have hdu : decI (arr Uc (y :: M)) = y :: M := decU_arr _
      refine loop_rule (α := Nat) (91 :: 94 :: [6, 19, 20, 21, 22, 23, 97, 98, 99, 100, 101, 102, 103, 104, 105, 106, 107, 108, 109, 110, 111, 112, 113, 114, 115, 116, 117, 118, 119, 120, 121, 122, 123, 124, 125, 126, 127, 128]) (fun y => [(19, .s (.i .i64 (y : Int)))]) (fun _ => [⟨.rw, arr Fd.c (F ++ [Fd.z]), (F.length + 1) * 2⟩]) (fun _ => h ++ [⟨.rw, arr Uc (y :: M), c⟩])
        (fun y => y ≤ 2) (fun y => 2 - y) 0 (Nat.zero_le _) (Wk.same rfl rfl ?_) ?_
      · simp (config := { maxSteps := 10000000 }) only [run_drx, run_xd, run_xq, run_xg, run_xb, EV1, EV2, EV3, EV4, EV5, EV6, addT, istep, lenR_sl, lenR_ns, lenR_es, pickR, putD, bin1R, un1R, slcR, bnd, capsOf, fillP, S_plain, V_plain, V.cells, S_known, V_known, C.v, blk, setL, setH, eqS, eq1, cmpS, cmp1, isNil, popTo, killT, setT, leT, V.below, C.below, S_below, R.below, V.val, C.val, S_val, R.val, R.takes, vals, shows, List.any_cons, List.any_nil, unnamed, V.kill, V.names, C.names, S_names, R.names, List.set, List.replicate, ↓q_cond_t, ↓q_cond_f, if_true, if_false, reduceCtorEq, rvals, rvC, result, C_known, V.noL, C.noL, S_noL, R.noL, Option.map, true_and, and_true, ge_iff_le, gt_iff_lt, implies_true, q_ite_t, q_ite_f, beq_iff_eq, bne_iff_ne, q_ne, Nat.reduceAdd, Nat.reducePow, Int.reducePow, Nat.reduceMul, Nat.reduceSub, Nat.reduceLeDiff, Nat.reduceLT, Nat.reduceEqDiff, Int.reduceNeg, Int.reduceLT, Int.reduceLE, Int.reduceEq, Int.reduceNe, Int.reduceAdd, Int.reduceSub, Int.reduceMul, Int.reduceToNat, Int.reduceBEq, Int.reduceBNe, Int.natCast_zero]
      · rintro X z hz IH
        rcases Nat.lt_or_ge z 2 with hlt | hge
        · have I : (z : Int) < 2 := by omega
          have I2 : IntKind.i64.wrap ((z : Int) + 1) = ((z + 1 : Nat) : Int) := by rw [wrap64] <;> omega
          refine run_sound (Tab.ok_Γ _) 300 _ _ _ _ ?_
          simp (config := { maxSteps := 10000000 }) only [run_drx, run_xd, run_xq, run_xg, run_xb, EV1, EV2, EV3, EV4, EV5, EV6, addT, istep, lenR_sl, lenR_ns, lenR_es, pickR, putD, bin1R, un1R, slcR, bnd, capsOf, fillP, S_plain, V_plain, V.cells, S_known, V_known, C.v, blk, setL, setH, eqS, eq1, cmpS, cmp1, isNil, popTo, killT, setT, leT, V.below, C.below, S_below, R.below, V.val, C.val, S_val, R.val, R.takes, vals, shows, List.any_cons, List.any_nil, unnamed, V.kill, V.names, C.names, S_names, R.names, List.set, List.replicate, ↓q_cond_t, ↓q_cond_f, if_true, if_false, reduceCtorEq, rvals, rvC, result, C_known, V.noL, C.noL, S_noL, R.noL, Option.map, true_and, and_true, ge_iff_le, gt_iff_lt, implies_true, q_ite_t, q_ite_f, beq_iff_eq, bne_iff_ne, q_ne, Nat.reduceAdd, Nat.reducePow, Int.reducePow, Nat.reduceMul, Nat.reduceSub, Nat.reduceLeDiff, Nat.reduceLT, Nat.reduceEqDiff, Int.reduceNeg, Int.reduceLT, Int.reduceLE, Int.reduceEq, Int.reduceNe, Int.reduceAdd, Int.reduceSub, Int.reduceMul, Int.reduceToNat, Int.reduceBEq, Int.reduceBNe, TP, unpack4G, same1G, R.lend, R.unlend, S_ren, C.ren, V.ren, Blk.ren, take_app, drop_app, Nat.not_lt_zero, Nat.lt_irrefl, Nat.add_sub_cancel_left, Nat.not_lt, Nat.le_add_right, fd_ren, uc_ren, hw, hL64, hp2, hb, hM, wordsR, pairV, ↓hkn2, ↓hnl2, hld2, hbn, I, h9, app_getn, app_get0, List.getElem?_cons_zero, List.getElem?_cons_succ, hdu]
          intro c3 hc3
          refine ⟨by omega, ?_⟩
          have hn64 : M.length + 1 ≤ 9223372036854775807 := by omega
          obtain ⟨N, hN⟩ : ∃ N, N = y :: M := ⟨_, rfl⟩
          have hNl : N.length = M.length + 1 := by rw [hN]; rfl
          refine loop_rule (α := Nat) (101 :: 104 :: 105 :: 107 :: 118 :: [23, 117, 118, 119, 120, 121, 122, 123, 124, 125]) (fun j => [(20, .s (.sl (.l 1) 0 (M.length + 1) c3)), (23, .s (.i .i64 (j : Int)))]) (fun j => [⟨.rw, arr Fd.c (F ++ [Fd.z]), (F.length + 1) * 2⟩, ⟨.rw, arr Uc (List.replicate j 77 ++ N.drop j), c3⟩]) (fun _ => h ++ [⟨.rw, arr Uc (y :: M), c⟩])
            (fun j => j ≤ M.length + 1) (fun j => M.length + 1 - j) 0 (Nat.zero_le _) ?_ ?_
          · have e : (h ++ [⟨.rw, arr Uc (y :: M), c⟩, ⟨.rw, arr Uc (y :: M), c3⟩] : List Blk) = (h ++ [⟨.rw, arr Uc (y :: M), c⟩]) ++ [⟨.rw, arr Uc (y :: M), c3⟩] := by simp
            rw [e, List.replicate_zero, List.drop_zero, List.nil_append, hN]
            refine Wk.own (ls := [⟨.rw, arr Fd.c (F ++ [Fd.z]), (F.length + 1) * 2⟩]) [⟨.rw, arr Uc (y :: M), c3⟩] (by rw [h9]; omega) ?_ ?_ ?_ ?_ ?_ (by rw [h9]; exact hc9)
            · simp (config := { maxSteps := 10000000 }) only [run_drx, run_xd, run_xq, run_xg, run_xb, EV1, EV2, EV3, EV4, EV5, EV6, addT, istep, lenR_sl, lenR_ns, lenR_es, pickR, putD, bin1R, un1R, slcR, bnd, capsOf, fillP, S_plain, V_plain, V.cells, S_known, V_known, C.v, blk, setL, setH, eqS, eq1, cmpS, cmp1, isNil, popTo, killT, setT, leT, V.below, C.below, S_below, R.below, V.val, C.val, S_val, R.val, R.takes, vals, shows, List.any_cons, List.any_nil, unnamed, V.kill, V.names, C.names, S_names, R.names, List.set, List.replicate, ↓q_cond_t, ↓q_cond_f, if_true, if_false, reduceCtorEq, rvals, rvC, result, C_known, V.noL, C.noL, S_noL, R.noL, Option.map, true_and, and_true, ge_iff_le, gt_iff_lt, implies_true, q_ite_t, q_ite_f, beq_iff_eq, bne_iff_ne, q_ne, Nat.reduceAdd, Nat.reducePow, Int.reducePow, Nat.reduceMul, Nat.reduceSub, Nat.reduceLeDiff, Nat.reduceLT, Nat.reduceEqDiff, Int.reduceNeg, Int.reduceLT, Int.reduceLE, Int.reduceEq, Int.reduceNe, Int.reduceAdd, Int.reduceSub, Int.reduceMul, Int.reduceToNat, Int.reduceBEq, Int.reduceBNe, Blk.ren, uc_ren]
            · simp (config := { maxSteps := 10000000 }) only [run_drx, run_xd, run_xq, run_xg, run_xb, EV1, EV2, EV3, EV4, EV5, EV6, addT, istep, lenR_sl, lenR_ns, lenR_es, pickR, putD, bin1R, un1R, slcR, bnd, capsOf, fillP, S_plain, V_plain, V.cells, S_known, V_known, C.v, blk, setL, setH, eqS, eq1, cmpS, cmp1, isNil, popTo, killT, setT, leT, V.below, C.below, S_below, R.below, V.val, C.val, S_val, R.val, R.takes, vals, shows, List.any_cons, List.any_nil, unnamed, V.kill, V.names, C.names, S_names, R.names, List.set, List.replicate, ↓q_cond_t, ↓q_cond_f, if_true, if_false, reduceCtorEq, rvals, rvC, result, C_known, V.noL, C.noL, S_noL, R.noL, Option.map, true_and, and_true, ge_iff_le, gt_iff_lt, implies_true, q_ite_t, q_ite_f, beq_iff_eq, bne_iff_ne, q_ne, Nat.reduceAdd, Nat.reducePow, Int.reducePow, Nat.reduceMul, Nat.reduceSub, Nat.reduceLeDiff, Nat.reduceLT, Nat.reduceEqDiff, Int.reduceNeg, Int.reduceLT, Int.reduceLE, Int.reduceEq, Int.reduceNe, Int.reduceAdd, Int.reduceSub, Int.reduceMul, Int.reduceToNat, Int.reduceBEq, Int.reduceBNe, Blk.ren, fd_ren]
            · simp (config := { maxSteps := 10000000 }) only [run_drx, run_xd, run_xq, run_xg, run_xb, EV1, EV2, EV3, EV4, EV5, EV6, addT, istep, lenR_sl, lenR_ns, lenR_es, pickR, putD, bin1R, un1R, slcR, bnd, capsOf, fillP, S_plain, V_plain, V.cells, S_known, V_known, C.v, blk, setL, setH, eqS, eq1, cmpS, cmp1, isNil, popTo, killT, setT, leT, V.below, C.below, S_below, R.below, V.val, C.val, S_val, R.val, R.takes, vals, shows, List.any_cons, List.any_nil, unnamed, V.kill, V.names, C.names, S_names, R.names, List.set, List.replicate, ↓q_cond_t, ↓q_cond_f, if_true, if_false, reduceCtorEq, rvals, rvC, result, C_known, V.noL, C.noL, S_noL, R.noL, Option.map, true_and, and_true, ge_iff_le, gt_iff_lt, implies_true, q_ite_t, q_ite_f, beq_iff_eq, bne_iff_ne, q_ne, Nat.reduceAdd, Nat.reducePow, Int.reducePow, Nat.reduceMul, Nat.reduceSub, Nat.reduceLeDiff, Nat.reduceLT, Nat.reduceEqDiff, Int.reduceNeg, Int.reduceLT, Int.reduceLE, Int.reduceEq, Int.reduceNe, Int.reduceAdd, Int.reduceSub, Int.reduceMul, Int.reduceToNat, Int.reduceBEq, Int.reduceBNe, h9, List.length_cons, List.length_nil, V.ren, C.ren, S_ren, R.own_g, R.own_0, R.own_lt, hro, hro2, Int.natCast_zero, Nat.lt_add_one]
            · simp (config := { maxSteps := 10000000 }) only [run_drx, run_xd, run_xq, run_xg, run_xb, EV1, EV2, EV3, EV4, EV5, EV6, addT, istep, lenR_sl, lenR_ns, lenR_es, pickR, putD, bin1R, un1R, slcR, bnd, capsOf, fillP, S_plain, V_plain, V.cells, S_known, V_known, C.v, blk, setL, setH, eqS, eq1, cmpS, cmp1, isNil, popTo, killT, setT, leT, V.below, C.below, S_below, R.below, V.val, C.val, S_val, R.val, R.takes, vals, shows, List.any_cons, List.any_nil, unnamed, V.kill, V.names, C.names, S_names, R.names, List.set, List.replicate, ↓q_cond_t, ↓q_cond_f, if_true, if_false, reduceCtorEq, rvals, rvC, result, C_known, V.noL, C.noL, S_noL, R.noL, Option.map, true_and, and_true, ge_iff_le, gt_iff_lt, implies_true, q_ite_t, q_ite_f, beq_iff_eq, bne_iff_ne, q_ne, Nat.reduceAdd, Nat.reducePow, Int.reducePow, Nat.reduceMul, Nat.reduceSub, Nat.reduceLeDiff, Nat.reduceLT, Nat.reduceEqDiff, Int.reduceNeg, Int.reduceLT, Int.reduceLE, Int.reduceEq, Int.reduceNe, Int.reduceAdd, Int.reduceSub, Int.reduceMul, Int.reduceToNat, Int.reduceBEq, Int.reduceBNe, h9, hvl, hvl2, List.length_append, List.length_cons, List.length_nil, Nat.lt_add_one]
            · simp [fV, uV]
          · rintro X2 j hj IH2
            rcases Nat.lt_or_ge j (M.length + 1) with hlt2 | hge2
            · have I := idx hlt2 hn64
              have hp := rep_put (N := N) (j := j) (by omega)
              have hlN : (arr Uc (List.replicate j 77 ++ N.drop j)).length = M.length + 1 := by rw [arr_length Uc_len]; simp; omega
              have L6 : j + 1 ≤ (arr Uc (List.replicate j 77 ++ N.drop j)).length := by omega
              refine run_sound (Tab.ok_Γ _) 300 _ _ _ _ ?_
              simp (config := { maxSteps := 10000000 }) only [run_drx, run_xd, run_xq, run_xg, run_xb, EV1, EV2, EV3, EV4, EV5, EV6, addT, istep, lenR_sl, lenR_ns, lenR_es, pickR, putD, bin1R, un1R, slcR, bnd, capsOf, fillP, S_plain, V_plain, V.cells, S_known, V_known, C.v, blk, setL, setH, eqS, eq1, cmpS, cmp1, isNil, popTo, killT, setT, leT, V.below, C.below, S_below, R.below, V.val, C.val, S_val, R.val, R.takes, vals, shows, List.any_cons, List.any_nil, unnamed, V.kill, V.names, C.names, S_names, R.names, List.set, List.replicate, ↓q_cond_t, ↓q_cond_f, if_true, if_false, reduceCtorEq, rvals, rvC, result, C_known, V.noL, C.noL, S_noL, R.noL, Option.map, true_and, and_true, ge_iff_le, gt_iff_lt, implies_true, q_ite_t, q_ite_f, beq_iff_eq, bne_iff_ne, q_ne, Nat.reduceAdd, Nat.reducePow, Int.reducePow, Nat.reduceMul, Nat.reduceSub, Nat.reduceLeDiff, Nat.reduceLT, Nat.reduceEqDiff, Int.reduceNeg, Int.reduceLT, Int.reduceLE, Int.reduceEq, Int.reduceNe, Int.reduceAdd, Int.reduceSub, Int.reduceMul, Int.reduceToNat, Int.reduceBEq, Int.reduceBNe, I, hp, L6]
              refine IH2 (j + 1) _ (by omega) (by omega) (Wk.keep 2 (by rfl) rfl ?_ ?_ ?_)
              · simp (config := { maxSteps := 10000000 }) only [run_drx, run_xd, run_xq, run_xg, run_xb, EV1, EV2, EV3, EV4, EV5, EV6, addT, istep, lenR_sl, lenR_ns, lenR_es, pickR, putD, bin1R, un1R, slcR, bnd, capsOf, fillP, S_plain, V_plain, V.cells, S_known, V_known, C.v, blk, setL, setH, eqS, eq1, cmpS, cmp1, isNil, popTo, killT, setT, leT, V.below, C.below, S_below, R.below, V.val, C.val, S_val, R.val, R.takes, vals, shows, List.any_cons, List.any_nil, unnamed, V.kill, V.names, C.names, S_names, R.names, List.set, List.replicate, ↓q_cond_t, ↓q_cond_f, if_true, if_false, reduceCtorEq, rvals, rvC, result, C_known, V.noL, C.noL, S_noL, R.noL, Option.map, true_and, and_true, ge_iff_le, gt_iff_lt, implies_true, q_ite_t, q_ite_f, beq_iff_eq, bne_iff_ne, q_ne, Nat.reduceAdd, Nat.reducePow, Int.reducePow, Nat.reduceMul, Nat.reduceSub, Nat.reduceLeDiff, Nat.reduceLT, Nat.reduceEqDiff, Int.reduceNeg, Int.reduceLT, Int.reduceLE, Int.reduceEq, Int.reduceNe, Int.reduceAdd, Int.reduceSub, Int.reduceMul, Int.reduceToNat, Int.reduceBEq, Int.reduceBNe]
              · simp (config := { maxSteps := 10000000 }) only [run_drx, run_xd, run_xq, run_xg, run_xb, EV1, EV2, EV3, EV4, EV5, EV6, addT, istep, lenR_sl, lenR_ns, lenR_es, pickR, putD, bin1R, un1R, slcR, bnd, capsOf, fillP, S_plain, V_plain, V.cells, S_known, V_known, C.v, blk, setL, setH, eqS, eq1, cmpS, cmp1, isNil, popTo, killT, setT, leT, V.below, C.below, S_below, R.below, V.val, C.val, S_val, R.val, R.takes, vals, shows, List.any_cons, List.any_nil, unnamed, V.kill, V.names, C.names, S_names, R.names, List.set, List.replicate, ↓q_cond_t, ↓q_cond_f, if_true, if_false, reduceCtorEq, rvals, rvC, result, C_known, V.noL, C.noL, S_noL, R.noL, Option.map, true_and, and_true, ge_iff_le, gt_iff_lt, implies_true, q_ite_t, q_ite_f, beq_iff_eq, bne_iff_ne, q_ne, Nat.reduceAdd, Nat.reducePow, Int.reducePow, Nat.reduceMul, Nat.reduceSub, Nat.reduceLeDiff, Nat.reduceLT, Nat.reduceEqDiff, Int.reduceNeg, Int.reduceLT, Int.reduceLE, Int.reduceEq, Int.reduceNe, Int.reduceAdd, Int.reduceSub, Int.reduceMul, Int.reduceToNat, Int.reduceBEq, Int.reduceBNe, hbl, hbl2, List.all_cons, List.all_nil, List.length_cons, List.length_nil]
              · simp [fB, uB]
            · have : j = M.length + 1 := by omega
              subst this
              have hlN : (arr Uc (77 :: (List.replicate M.length 77 ++ N.drop (M.length + 1)))).length = M.length + 1 := by rw [arr_length Uc_len]; simp; omega
              refine run_sound (Tab.ok_Γ _) 300 _ _ _ _ ?_
              simp (config := { maxSteps := 10000000 }) only [run_drx, run_xd, run_xq, run_xg, run_xb, EV1, EV2, EV3, EV4, EV5, EV6, addT, istep, lenR_sl, lenR_ns, lenR_es, pickR, putD, bin1R, un1R, slcR, bnd, capsOf, fillP, S_plain, V_plain, V.cells, S_known, V_known, C.v, blk, setL, setH, eqS, eq1, cmpS, cmp1, isNil, popTo, killT, setT, leT, V.below, C.below, S_below, R.below, V.val, C.val, S_val, R.val, R.takes, vals, shows, List.any_cons, List.any_nil, unnamed, V.kill, V.names, C.names, S_names, R.names, List.set, List.replicate, ↓q_cond_t, ↓q_cond_f, if_true, if_false, reduceCtorEq, rvals, rvC, result, C_known, V.noL, C.noL, S_noL, R.noL, Option.map, true_and, and_true, ge_iff_le, gt_iff_lt, implies_true, q_ite_t, q_ite_f, beq_iff_eq, bne_iff_ne, q_ne, Nat.reduceAdd, Nat.reducePow, Int.reducePow, Nat.reduceMul, Nat.reduceSub, Nat.reduceLeDiff, Nat.reduceLT, Nat.reduceEqDiff, Int.reduceNeg, Int.reduceLT, Int.reduceLE, Int.reduceEq, Int.reduceNe, Int.reduceAdd, Int.reduceSub, Int.reduceMul, Int.reduceToNat, Int.reduceBEq, Int.reduceBNe, Int.lt_irrefl, I2, hlN, uK, uN, fN]
              refine ⟨by omega, fun c4 hc4 => ?_⟩
              refine IH (z + 1) _ (by omega) (by omega) (Wk.keep 1 (by rfl) rfl ?_ ?_ ?_)
              · simp (config := { maxSteps := 10000000 }) only [run_drx, run_xd, run_xq, run_xg, run_xb, EV1, EV2, EV3, EV4, EV5, EV6, addT, istep, lenR_sl, lenR_ns, lenR_es, pickR, putD, bin1R, un1R, slcR, bnd, capsOf, fillP, S_plain, V_plain, V.cells, S_known, V_known, C.v, blk, setL, setH, eqS, eq1, cmpS, cmp1, isNil, popTo, killT, setT, leT, V.below, C.below, S_below, R.below, V.val, C.val, S_val, R.val, R.takes, vals, shows, List.any_cons, List.any_nil, unnamed, V.kill, V.names, C.names, S_names, R.names, List.set, List.replicate, ↓q_cond_t, ↓q_cond_f, if_true, if_false, reduceCtorEq, rvals, rvC, result, C_known, V.noL, C.noL, S_noL, R.noL, Option.map, true_and, and_true, ge_iff_le, gt_iff_lt, implies_true, q_ite_t, q_ite_f, beq_iff_eq, bne_iff_ne, q_ne, Nat.reduceAdd, Nat.reducePow, Int.reducePow, Nat.reduceMul, Nat.reduceSub, Nat.reduceLeDiff, Nat.reduceLT, Nat.reduceEqDiff, Int.reduceNeg, Int.reduceLT, Int.reduceLE, Int.reduceEq, Int.reduceNe, Int.reduceAdd, Int.reduceSub, Int.reduceMul, Int.reduceToNat, Int.reduceBEq, Int.reduceBNe, hnm, hnm2]
              · simp (config := { maxSteps := 10000000 }) only [run_drx, run_xd, run_xq, run_xg, run_xb, EV1, EV2, EV3, EV4, EV5, EV6, addT, istep, lenR_sl, lenR_ns, lenR_es, pickR, putD, bin1R, un1R, slcR, bnd, capsOf, fillP, S_plain, V_plain, V.cells, S_known, V_known, C.v, blk, setL, setH, eqS, eq1, cmpS, cmp1, isNil, popTo, killT, setT, leT, V.below, C.below, S_below, R.below, V.val, C.val, S_val, R.val, R.takes, vals, shows, List.any_cons, List.any_nil, unnamed, V.kill, V.names, C.names, S_names, R.names, List.set, List.replicate, ↓q_cond_t, ↓q_cond_f, if_true, if_false, reduceCtorEq, rvals, rvC, result, C_known, V.noL, C.noL, S_noL, R.noL, Option.map, true_and, and_true, ge_iff_le, gt_iff_lt, implies_true, q_ite_t, q_ite_f, beq_iff_eq, bne_iff_ne, q_ne, Nat.reduceAdd, Nat.reducePow, Int.reducePow, Nat.reduceMul, Nat.reduceSub, Nat.reduceLeDiff, Nat.reduceLT, Nat.reduceEqDiff, Int.reduceNeg, Int.reduceLT, Int.reduceLE, Int.reduceEq, Int.reduceNe, Int.reduceAdd, Int.reduceSub, Int.reduceMul, Int.reduceToNat, Int.reduceBEq, Int.reduceBNe, hbl, hbl2, List.all_cons, List.all_nil, List.length_cons, List.length_nil]
              · simp [fB]
        · have : z = 2 := by omega
          subst this
          have I : ¬ (((2 : Nat) : Int) < 2) := by omega
          refine run_sound (Tab.ok_Γ _) 300 _ _ _ _ ?_
          simp (config := { maxSteps := 10000000 }) only [run_drx, run_xd, run_xq, run_xg, run_xb, EV1, EV2, EV3, EV4, EV5, EV6, addT, istep, lenR_sl, lenR_ns, lenR_es, pickR, putD, bin1R, un1R, slcR, bnd, capsOf, fillP, S_plain, V_plain, V.cells, S_known, V_known, C.v, blk, setL, setH, eqS, eq1, cmpS, cmp1, isNil, popTo, killT, setT, leT, V.below, C.below, S_below, R.below, V.val, C.val, S_val, R.val, R.takes, vals, shows, List.any_cons, List.any_nil, unnamed, V.kill, V.names, C.names, S_names, R.names, List.set, List.replicate, ↓q_cond_t, ↓q_cond_f, if_true, if_false, reduceCtorEq, rvals, rvC, result, C_known, V.noL, C.noL, S_noL, R.noL, Option.map, true_and, and_true, ge_iff_le, gt_iff_lt, implies_true, q_ite_t, q_ite_f, beq_iff_eq, bne_iff_ne, q_ne, Nat.reduceAdd, Nat.reducePow, Int.reducePow, Nat.reduceMul, Nat.reduceSub, Nat.reduceLeDiff, Nat.reduceLT, Nat.reduceEqDiff, Int.reduceNeg, Int.reduceLT, Int.reduceLE, Int.reduceEq, Int.reduceNe, Int.reduceAdd, Int.reduceSub, Int.reduceMul, Int.reduceToNat, Int.reduceBEq, Int.reduceBNe, I, ↓hlen, ↓hkn, hF1, hF2, E5, L5, put, fillP, eqS, cmpS]
          exact cut_app (Nat.le_refl _) hc rfl hK
  | false =>
    refine run_sound (Tab.ok_Γ _) 300 _ _ _ _ ?_
    simp (config := { maxSteps := 10000000 }) only [run_drx, run_xd, run_xq, run_xg, run_xb, EV1, EV2, EV3, EV4, EV5, EV6, addT, istep, lenR_sl, lenR_ns, lenR_es, pickR, putD, bin1R, un1R, slcR, bnd, capsOf, fillP, S_plain, V_plain, V.cells, S_known, V_known, C.v, blk, setL, setH, eqS, eq1, cmpS, cmp1, isNil, popTo, killT, setT, leT, V.below, C.below, S_below, R.below, V.val, C.val, S_val, R.val, R.takes, vals, shows, List.any_cons, List.any_nil, unnamed, V.kill, V.names, C.names, S_names, R.names, List.set, List.replicate, ↓q_cond_t, ↓q_cond_f, if_true, if_false, reduceCtorEq, rvals, rvC, result, C_known, V.noL, C.noL, S_noL, R.noL, Option.map, true_and, and_true, ge_iff_le, gt_iff_lt, implies_true, q_ite_t, q_ite_f, beq_iff_eq, bne_iff_ne, q_ne, Nat.reduceAdd, Nat.reducePow, Int.reducePow, Nat.reduceMul, Nat.reduceSub, Nat.reduceLeDiff, Nat.reduceLT, Nat.reduceEqDiff, Int.reduceNeg, Int.reduceLT, Int.reduceLE, Int.reduceEq, Int.reduceNe, Int.reduceAdd, Int.reduceSub, Int.reduceMul, Int.reduceToNat, Int.reduceBEq, Int.reduceBNe, TP, unpack4G, R.lend, R.unlend, S_ren, C.ren, V.ren, Blk.ren, take_app, drop_app, Nat.not_lt_zero, Nat.lt_irrefl, Nat.add_sub_cancel_left, Nat.not_lt, Nat.le_add_right, fd_ren, hw, hL64, hp2, hp20, hb, wordsR, pairV, ↓hkn2, ↓hnl2, hld2, hbn, setT]
    refine loop_rule (α := Nat) (91 :: 94 :: [6, 19, 20, 21, 22, 23, 97, 98, 99, 100, 101, 102, 103, 104, 105, 106, 107, 108, 109, 110, 111, 112, 113, 114, 115, 116, 117, 118, 119, 120, 121, 122, 123, 124, 125, 126, 127, 128]) (fun y => [(19, .s (.i .i64 (y : Int)))]) (fun _ => [⟨.rw, arr Fd.c (F ++ [Fd.z]), (F.length + 1) * 2⟩]) (fun _ => h)
      (fun y => y ≤ 2) (fun y => 2 - y) 0 (Nat.zero_le _) (Wk.same rfl rfl ?_) ?_
    · simp (config := { maxSteps := 10000000 }) only [run_drx, run_xd, run_xq, run_xg, run_xb, EV1, EV2, EV3, EV4, EV5, EV6, addT, istep, lenR_sl, lenR_ns, lenR_es, pickR, putD, bin1R, un1R, slcR, bnd, capsOf, fillP, S_plain, V_plain, V.cells, S_known, V_known, C.v, blk, setL, setH, eqS, eq1, cmpS, cmp1, isNil, popTo, killT, setT, leT, V.below, C.below, S_below, R.below, V.val, C.val, S_val, R.val, R.takes, vals, shows, List.any_cons, List.any_nil, unnamed, V.kill, V.names, C.names, S_names, R.names, List.set, List.replicate, ↓q_cond_t, ↓q_cond_f, if_true, if_false, reduceCtorEq, rvals, rvC, result, C_known, V.noL, C.noL, S_noL, R.noL, Option.map, true_and, and_true, ge_iff_le, gt_iff_lt, implies_true, q_ite_t, q_ite_f, beq_iff_eq, bne_iff_ne, q_ne, Nat.reduceAdd, Nat.reducePow, Int.reducePow, Nat.reduceMul, Nat.reduceSub, Nat.reduceLeDiff, Nat.reduceLT, Nat.reduceEqDiff, Int.reduceNeg, Int.reduceLT, Int.reduceLE, Int.reduceEq, Int.reduceNe, Int.reduceAdd, Int.reduceSub, Int.reduceMul, Int.reduceToNat, Int.reduceBEq, Int.reduceBNe, Int.natCast_zero]
    · rintro X y hy IH
      rcases Nat.lt_or_ge y 2 with hlt | hge
      · have I : (y : Int) < 2 := by omega
        have I2 : IntKind.i64.wrap ((y : Int) + 1) = ((y + 1 : Nat) : Int) := by rw [wrap64] <;> omega
        refine run_sound (Tab.ok_Γ _) 300 _ _ _ _ ?_
        simp (config := { maxSteps := 10000000 }) only [run_drx, run_xd, run_xq, run_xg, run_xb, EV1, EV2, EV3, EV4, EV5, EV6, addT, istep, lenR_sl, lenR_ns, lenR_es, pickR, putD, bin1R, un1R, slcR, bnd, capsOf, fillP, S_plain, V_plain, V.cells, S_known, V_known, C.v, blk, setL, setH, eqS, eq1, cmpS, cmp1, isNil, popTo, killT, setT, leT, V.below, C.below, S_below, R.below, V.val, C.val, S_val, R.val, R.takes, vals, shows, List.any_cons, List.any_nil, unnamed, V.kill, V.names, C.names, S_names, R.names, List.set, List.replicate, ↓q_cond_t, ↓q_cond_f, if_true, if_false, reduceCtorEq, rvals, rvC, result, C_known, V.noL, C.noL, S_noL, R.noL, Option.map, true_and, and_true, ge_iff_le, gt_iff_lt, implies_true, q_ite_t, q_ite_f, beq_iff_eq, bne_iff_ne, q_ne, Nat.reduceAdd, Nat.reducePow, Int.reducePow, Nat.reduceMul, Nat.reduceSub, Nat.reduceLeDiff, Nat.reduceLT, Nat.reduceEqDiff, Int.reduceNeg, Int.reduceLT, Int.reduceLE, Int.reduceEq, Int.reduceNe, Int.reduceAdd, Int.reduceSub, Int.reduceMul, Int.reduceToNat, Int.reduceBEq, Int.reduceBNe, TP, unpack4G, same1G, R.lend, R.unlend, S_ren, C.ren, V.ren, Blk.ren, take_app, drop_app, Nat.not_lt_zero, Nat.lt_irrefl, Nat.add_sub_cancel_left, Nat.not_lt, Nat.le_add_right, fd_ren, hw, hL64, hp2, hp20, hb, wordsR, pairV, ↓hkn2, ↓hnl2, hld2, hbn, I]
        refine loop_rule (α := Unit) [] (fun _ => []) (fun _ => [⟨.rw, arr Fd.c (F ++ [Fd.z]), (F.length + 1) * 2⟩]) (fun _ => h) (fun _ => True) (fun _ => 0) () trivial .refl ?_
        rintro X2 _ _ _
        refine run_sound (Tab.ok_Γ _) 300 _ _ _ _ ?_
        simp (config := { maxSteps := 10000000 }) only [run_drx, run_xd, run_xq, run_xg, run_xb, EV1, EV2, EV3, EV4, EV5, EV6, addT, istep, lenR_sl, lenR_ns, lenR_es, pickR, putD, bin1R, un1R, slcR, bnd, capsOf, fillP, S_plain, V_plain, V.cells, S_known, V_known, C.v, blk, setL, setH, eqS, eq1, cmpS, cmp1, isNil, popTo, killT, setT, leT, V.below, C.below, S_below, R.below, V.val, C.val, S_val, R.val, R.takes, vals, shows, List.any_cons, List.any_nil, unnamed, V.kill, V.names, C.names, S_names, R.names, List.set, List.replicate, ↓q_cond_t, ↓q_cond_f, if_true, if_false, reduceCtorEq, rvals, rvC, result, C_known, V.noL, C.noL, S_noL, R.noL, Option.map, true_and, and_true, ge_iff_le, gt_iff_lt, implies_true, q_ite_t, q_ite_f, beq_iff_eq, bne_iff_ne, q_ne, Nat.reduceAdd, Nat.reducePow, Int.reducePow, Nat.reduceMul, Nat.reduceSub, Nat.reduceLeDiff, Nat.reduceLT, Nat.reduceEqDiff, Int.reduceNeg, Int.reduceLT, Int.reduceLE, Int.reduceEq, Int.reduceNe, Int.reduceAdd, Int.reduceSub, Int.reduceMul, Int.reduceToNat, Int.reduceBEq, Int.reduceBNe, Int.lt_irrefl, I2]
        intro c2 hc2
        refine IH (y + 1) _ (by omega) (by omega) (Wk.keep 1 (by rfl) rfl ?_ ?_ ?_)
        · simp (config := { maxSteps := 10000000 }) only [run_drx, run_xd, run_xq, run_xg, run_xb, EV1, EV2, EV3, EV4, EV5, EV6, addT, istep, lenR_sl, lenR_ns, lenR_es, pickR, putD, bin1R, un1R, slcR, bnd, capsOf, fillP, S_plain, V_plain, V.cells, S_known, V_known, C.v, blk, setL, setH, eqS, eq1, cmpS, cmp1, isNil, popTo, killT, setT, leT, V.below, C.below, S_below, R.below, V.val, C.val, S_val, R.val, R.takes, vals, shows, List.any_cons, List.any_nil, unnamed, V.kill, V.names, C.names, S_names, R.names, List.set, List.replicate, ↓q_cond_t, ↓q_cond_f, if_true, if_false, reduceCtorEq, rvals, rvC, result, C_known, V.noL, C.noL, S_noL, R.noL, Option.map, true_and, and_true, ge_iff_le, gt_iff_lt, implies_true, q_ite_t, q_ite_f, beq_iff_eq, bne_iff_ne, q_ne, Nat.reduceAdd, Nat.reducePow, Int.reducePow, Nat.reduceMul, Nat.reduceSub, Nat.reduceLeDiff, Nat.reduceLT, Nat.reduceEqDiff, Int.reduceNeg, Int.reduceLT, Int.reduceLE, Int.reduceEq, Int.reduceNe, Int.reduceAdd, Int.reduceSub, Int.reduceMul, Int.reduceToNat, Int.reduceBEq, Int.reduceBNe]
        · simp (config := { maxSteps := 10000000 }) only [run_drx, run_xd, run_xq, run_xg, run_xb, EV1, EV2, EV3, EV4, EV5, EV6, addT, istep, lenR_sl, lenR_ns, lenR_es, pickR, putD, bin1R, un1R, slcR, bnd, capsOf, fillP, S_plain, V_plain, V.cells, S_known, V_known, C.v, blk, setL, setH, eqS, eq1, cmpS, cmp1, isNil, popTo, killT, setT, leT, V.below, C.below, S_below, R.below, V.val, C.val, S_val, R.val, R.takes, vals, shows, List.any_cons, List.any_nil, unnamed, V.kill, V.names, C.names, S_names, R.names, List.set, List.replicate, ↓q_cond_t, ↓q_cond_f, if_true, if_false, reduceCtorEq, rvals, rvC, result, C_known, V.noL, C.noL, S_noL, R.noL, Option.map, true_and, and_true, ge_iff_le, gt_iff_lt, implies_true, q_ite_t, q_ite_f, beq_iff_eq, bne_iff_ne, q_ne, Nat.reduceAdd, Nat.reducePow, Int.reducePow, Nat.reduceMul, Nat.reduceSub, Nat.reduceLeDiff, Nat.reduceLT, Nat.reduceEqDiff, Int.reduceNeg, Int.reduceLT, Int.reduceLE, Int.reduceEq, Int.reduceNe, Int.reduceAdd, Int.reduceSub, Int.reduceMul, Int.reduceToNat, Int.reduceBEq, Int.reduceBNe, hbl, hbl2, List.all_cons, List.all_nil, List.length_cons, List.length_nil]
        · simp [fB]
      · have : y = 2 := by omega
        subst this
        have I : ¬ (((2 : Nat) : Int) < 2) := by omega
        refine run_sound (Tab.ok_Γ _) 300 _ _ _ _ ?_
        simp (config := { maxSteps := 10000000 }) only [run_drx, run_xd, run_xq, run_xg, run_xb, EV1, EV2, EV3, EV4, EV5, EV6, addT, istep, lenR_sl, lenR_ns, lenR_es, pickR, putD, bin1R, un1R, slcR, bnd, capsOf, fillP, S_plain, V_plain, V.cells, S_known, V_known, C.v, blk, setL, setH, eqS, eq1, cmpS, cmp1, isNil, popTo, killT, setT, leT, V.below, C.below, S_below, R.below, V.val, C.val, S_val, R.val, R.takes, vals, shows, List.any_cons, List.any_nil, unnamed, V.kill, V.names, C.names, S_names, R.names, List.set, List.replicate, ↓q_cond_t, ↓q_cond_f, if_true, if_false, reduceCtorEq, rvals, rvC, result, C_known, V.noL, C.noL, S_noL, R.noL, Option.map, true_and, and_true, ge_iff_le, gt_iff_lt, implies_true, q_ite_t, q_ite_f, beq_iff_eq, bne_iff_ne, q_ne, Nat.reduceAdd, Nat.reducePow, Int.reducePow, Nat.reduceMul, Nat.reduceSub, Nat.reduceLeDiff, Nat.reduceLT, Nat.reduceEqDiff, Int.reduceNeg, Int.reduceLT, Int.reduceLE, Int.reduceEq, Int.reduceNe, Int.reduceAdd, Int.reduceSub, Int.reduceMul, Int.reduceToNat, Int.reduceBEq, Int.reduceBNe, I, ↓hlen, ↓hkn, hF1, hF2, E5, L5, put, fillP, eqS, cmpS]
        exact hFin

def wordPacksS : FSpec := fun args h K => ∃ s F w s2 L, args = [.s s, .s (.i .u64 w), .s s2] ∧ IsArr Fd.c h s F ∧ (∀ f, f ∈ F → u64 f.v) ∧ u64 w ∧ IsArr Ic h s2 L ∧ K (.s (.b true)) h
theorem wordPacks_snd : Snd Tryd.prog 4 wordPacksS := (fwp_sound (Tab.snd_Γ TP_snd) mixed Tryd.func4 dc4).cut fun args h K hc hS => by
  obtain ⟨s, F, w, s2, L, rfl, Hs, hu, hw, Hs2, hK⟩ := hS
  have hFin : Cut h.length K (.s (.b true)) h := cut_all (Nat.le_refl _) hc rfl hK
  have hlen := fun ls h' => Hs.sl.len (ls := ls) (h := h')
  have hkn := Hs.sl.known
  have hnl := Hs.sl.noL
  have hlen2 := fun ls h' => Hs2.sl.len (ls := ls) (h := h')
  have hkn2 := Hs2.sl.known
  have hnl2 := Hs2.sl.noL
  by_cases c0 : (2147483647 : Int) < F.length
  · refine fwp_run (Tab.ok_Γ _) 600 ?_
    simp (config := { maxSteps := 10000000 }) only [run_drx, run_xd, run_xq, run_xg, run_xb, EV1, EV2, EV3, EV4, EV5, EV6, addT, istep, lenR_sl, lenR_ns, lenR_es, pickR, putD, bin1R, un1R, slcR, bnd, capsOf, fillP, S_plain, V_plain, V.cells, S_known, V_known, C.v, blk, setL, setH, eqS, eq1, cmpS, cmp1, isNil, popTo, killT, setT, leT, V.below, C.below, S_below, R.below, V.val, C.val, S_val, R.val, R.takes, vals, shows, List.any_cons, List.any_nil, unnamed, V.kill, V.names, C.names, S_names, R.names, List.set, List.replicate, ↓q_cond_t, ↓q_cond_f, if_true, if_false, reduceCtorEq, rvals, rvC, result, C_known, V.noL, C.noL, S_noL, R.noL, Option.map, true_and, and_true, ge_iff_le, gt_iff_lt, implies_true, q_ite_t, q_ite_f, beq_iff_eq, bne_iff_ne, q_ne, Nat.reduceAdd, Nat.reducePow, Int.reducePow, Nat.reduceMul, Nat.reduceSub, Nat.reduceLeDiff, Nat.reduceLT, Nat.reduceEqDiff, Int.reduceNeg, Int.reduceLT, Int.reduceLE, Int.reduceEq, Int.reduceNe, Int.reduceAdd, Int.reduceSub, Int.reduceMul, Int.reduceToNat, Int.reduceBEq, Int.reduceBNe, df4, ↓hlen, ↓hlen2, ↓hkn, ↓hkn2, c0]
    exact hFin
  by_cases c1 : (2147483647 : Int) < L.length
  · refine fwp_run (Tab.ok_Γ _) 600 ?_
    simp (config := { maxSteps := 10000000 }) only [run_drx, run_xd, run_xq, run_xg, run_xb, EV1, EV2, EV3, EV4, EV5, EV6, addT, istep, lenR_sl, lenR_ns, lenR_es, pickR, putD, bin1R, un1R, slcR, bnd, capsOf, fillP, S_plain, V_plain, V.cells, S_known, V_known, C.v, blk, setL, setH, eqS, eq1, cmpS, cmp1, isNil, popTo, killT, setT, leT, V.below, C.below, S_below, R.below, V.val, C.val, S_val, R.val, R.takes, vals, shows, List.any_cons, List.any_nil, unnamed, V.kill, V.names, C.names, S_names, R.names, List.set, List.replicate, ↓q_cond_t, ↓q_cond_f, if_true, if_false, reduceCtorEq, rvals, rvC, result, C_known, V.noL, C.noL, S_noL, R.noL, Option.map, true_and, and_true, ge_iff_le, gt_iff_lt, implies_true, q_ite_t, q_ite_f, beq_iff_eq, bne_iff_ne, q_ne, Nat.reduceAdd, Nat.reducePow, Int.reducePow, Nat.reduceMul, Nat.reduceSub, Nat.reduceLeDiff, Nat.reduceLT, Nat.reduceEqDiff, Int.reduceNeg, Int.reduceLT, Int.reduceLE, Int.reduceEq, Int.reduceNe, Int.reduceAdd, Int.reduceSub, Int.reduceMul, Int.reduceToNat, Int.reduceBEq, Int.reduceBNe, df4, ↓hlen, ↓hlen2, ↓hkn, ↓hkn2, c0, c1]
    exact hFin
  have hsh := fun ls => Hs.shows Fd.c_len ls
  have hkF : known (arr Fd.c F) = true := fd_all _ (fun _ _ => rfl) F
  have htF : ∀ a b, (arr Fd.c F).all ((R.l 0).takes a b) = true := fun a b => fd_all _ (fun _ _ => rfl) F
  have hsb := own_sub F
  have hol := own_len (F.length + 1)
  have w1 : IntKind.i64.wrap ((F.length : Int) + 1) = ((F.length + 1 : Nat) : Int) := by rw [wrap64] <;> omega
  have w2 : (0 : Int) ≤ ((F.length + 1 : Nat) : Int) := by omega
  have w3 : ((F.length + 1 : Nat) : Int) ≤ 1099511627776 := by omega
  have w4 : 16 * ((F.length + 1 : Nat) : Int) ≤ 281474976710656 := by omega
  have ho := own_eq F
  have hn64 : F.length ≤ 9223372036854775807 := by omega
  have hnm := Hs.sl.names
  have hnm2 := Hs2.sl.names
  have iK : ∀ M, known (arr Ic M) = true := ic_all _ fun _ => rfl
  have uK : ∀ M, known (arr Uc M) = true := uc_all _ fun _ => rfl
  have fN : ∀ k M, ((arr Fd.c M).all fun s => !S.names k s) = true := fun k => fd_all _ fun _ _ => rfl
  have iN : ∀ k M, ((arr Ic M).all fun s => !S.names k s) = true := fun k => ic_all _ fun _ => rfl
  have uN : ∀ k M, ((arr Uc M).all fun s => !S.names k s) = true := fun k => uc_all _ fun _ => rfl
  have fB : ∀ k M, (arr Fd.c M).all (S.below k) = true := fun k => fd_all _ fun _ _ => rfl
  have iB : ∀ k M, (arr Ic M).all (S.below k) = true := fun k => ic_all _ fun _ => rfl
  have uB : ∀ k M, (arr Uc M).all (S.below k) = true := fun k => uc_all _ fun _ => rfl
  have hpk2 := Hs2.sl.pick
  have hbl := Hs.sl.below
  have hbl2 := Hs2.sl.below
  have hvl2 := fun m => Hs2.sl.val (Nat.le_refl h.length) (m := m)
  have fVs : ∀ n m M, (arr Fd.c M).all (S.val n m) = true := fun n m => fd_all _ fun _ _ => rfl
  have hcq := hc
  have hnq : h.length ≤ h.length := Nat.le_refl _
  refine fwp_of _ (fun _ _ => finP_fin) (cut_at 11 ?_)
  simp only [df4]
  refine run_sound (Tab.ok_Γ _) 200 _ _ _ _ ?_
  simp (config := { maxSteps := 10000000 }) only [run_drx, run_xd, run_xq, run_xg, run_xb, EV1, EV2, EV3, EV4, EV5, EV6, addT, istep, lenR_sl, lenR_ns, lenR_es, pickR, putD, bin1R, un1R, slcR, bnd, capsOf, fillP, S_plain, V_plain, V.cells, S_known, V_known, C.v, blk, setL, setH, eqS, eq1, cmpS, cmp1, isNil, popTo, killT, setT, leT, V.below, C.below, S_below, R.below, V.val, C.val, S_val, R.val, R.takes, vals, shows, List.any_cons, List.any_nil, unnamed, V.kill, V.names, C.names, S_names, R.names, List.set, List.replicate, ↓q_cond_t, ↓q_cond_f, if_true, if_false, reduceCtorEq, rvals, rvC, result, C_known, V.noL, C.noL, S_noL, R.noL, Option.map, true_and, and_true, ge_iff_le, gt_iff_lt, implies_true, q_ite_t, q_ite_f, beq_iff_eq, bne_iff_ne, q_ne, Nat.reduceAdd, Nat.reducePow, Int.reducePow, Nat.reduceMul, Nat.reduceSub, Nat.reduceLeDiff, Nat.reduceLT, Nat.reduceEqDiff, Int.reduceNeg, Int.reduceLT, Int.reduceLE, Int.reduceEq, Int.reduceNe, Int.reduceAdd, Int.reduceSub, Int.reduceMul, Int.reduceToNat, Int.reduceBEq, Int.reduceBNe, TP, awake1G, ↓hlen, ↓hlen2, ↓hkn, ↓hkn2, c0, c1, ↓hsh, w1, w2, w3, w4, ho, hkF, htF, hsb, hol, Int.le_refl]
  refine loop_rule (α := Nat × Nat × Nat) [8, 9, 11, 40, 41, 42, 43, 44, 45, 46, 47, 48, 49, 50, 51, 52, 53, 54, 55, 56, 57, 58, 59, 60, 61] (fun y => [(8, ppT 1 y.2.1 y.1), (9, ppT 2 y.2.2 y.1), (11, .s (.i .i64 (y.1 : Int)))]) (fun y => ppL ⟨.rw, arr Fd.c (F ++ [Fd.z]), (F.length + 1) * 2⟩ F y.2.1 y.2.2 y.1) (fun _ => h)
    (fun y => y.1 ≤ F.length ∧ y.1 ≤ y.2.1 ∧ y.1 ≤ y.2.2) (fun y => F.length - y.1) (0, 0, 0) ⟨Nat.zero_le _, Nat.le_refl _, Nat.le_refl _⟩ (Wk.same rfl rfl ?_) ?_
  · simp (config := { maxSteps := 10000000 }) only [run_drx, run_xd, run_xq, run_xg, run_xb, EV1, EV2, EV3, EV4, EV5, EV6, addT, istep, lenR_sl, lenR_ns, lenR_es, pickR, putD, bin1R, un1R, slcR, bnd, capsOf, fillP, S_plain, V_plain, V.cells, S_known, V_known, C.v, blk, setL, setH, eqS, eq1, cmpS, cmp1, isNil, popTo, killT, setT, leT, V.below, C.below, S_below, R.below, V.val, C.val, S_val, R.val, R.takes, vals, shows, List.any_cons, List.any_nil, unnamed, V.kill, V.names, C.names, S_names, R.names, List.set, List.replicate, ↓q_cond_t, ↓q_cond_f, if_true, if_false, reduceCtorEq, rvals, rvC, result, C_known, V.noL, C.noL, S_noL, R.noL, Option.map, true_and, and_true, ge_iff_le, gt_iff_lt, implies_true, q_ite_t, q_ite_f, beq_iff_eq, bne_iff_ne, q_ne, Nat.reduceAdd, Nat.reducePow, Int.reducePow, Nat.reduceMul, Nat.reduceSub, Nat.reduceLeDiff, Nat.reduceLT, Nat.reduceEqDiff, Int.reduceNeg, Int.reduceLT, Int.reduceLE, Int.reduceEq, Int.reduceNe, Int.reduceAdd, Int.reduceSub, Int.reduceMul, Int.reduceToNat, Int.reduceBEq, Int.reduceBNe, Int.natCast_zero, ppT]
  · rintro X ⟨i, c1', c2'⟩ ⟨hi, hc1, hc2⟩ IH
    simp only at hi hc1 hc2 ⊢
    rcases Nat.lt_or_ge i F.length with hlt | hge
    · have I := idx hlt hn64
      obtain ⟨j, cc, st, room, hse, hj, hd⟩ := Hs.at hlt
      have hjl : j < h.length := (List.getElem?_eq_some_iff.1 hj).1
      have E1 : (arr Fd.c F)[i * 2]? = some (.i .i64 (nth Fd.z F i).b) := by rw [arr_get0 Fd.c_len hlt (by omega), nth_eq hlt]; rfl
      have E2 : (arr Fd.c F)[i * 2 + 1]? = some (.i .u64 (nth Fd.z F i).v) := by rw [arr_get Fd.c_len hlt (by omega), nth_eq hlt]; rfl
      have ht : F.take (i + 1) = F.take i ++ [nth Fd.z F i] := by rw [List.take_succ_eq_append_getElem hlt, nth_eq hlt]
      obtain ⟨f, hf⟩ : ∃ f, f = nth Fd.z F i := ⟨_, rfl⟩
      rw [← hf] at E1 E2 ht
      cases i with
      | zero =>
        simp only [Nat.zero_mul, Nat.zero_add] at E1 E2 ht
        simp only [ppT, ppL]
        have I0 : (0 : Int) < F.length := by omega
        have I1 : IntKind.i64.wrap 1 = 1 := by decide
        refine run_sound (Tab.ok_Γ _) 300 _ _ _ _ ?_
        simp (config := { maxSteps := 10000000 }) only [run_drx, run_xd, run_xq, run_xg, run_xb, EV1, EV2, EV3, EV4, EV5, EV6, addT, istep, lenR_sl, lenR_ns, lenR_es, pickR, putD, bin1R, un1R, slcR, bnd, capsOf, fillP, S_plain, V_plain, V.cells, S_known, V_known, C.v, blk, setL, setH, eqS, eq1, cmpS, cmp1, isNil, popTo, killT, setT, leT, V.below, C.below, S_below, R.below, V.val, C.val, S_val, R.val, R.takes, vals, shows, List.any_cons, List.any_nil, unnamed, V.kill, V.names, C.names, S_names, R.names, List.set, List.replicate, ↓q_cond_t, ↓q_cond_f, if_true, if_false, reduceCtorEq, rvals, rvC, result, C_known, V.noL, C.noL, S_noL, R.noL, Option.map, true_and, and_true, ge_iff_le, gt_iff_lt, implies_true, q_ite_t, q_ite_f, beq_iff_eq, bne_iff_ne, q_ne, Nat.reduceAdd, Nat.reducePow, Int.reducePow, Nat.reduceMul, Nat.reduceSub, Nat.reduceLeDiff, Nat.reduceLT, Nat.reduceEqDiff, Int.reduceNeg, Int.reduceLT, Int.reduceLE, Int.reduceEq, Int.reduceNe, Int.reduceAdd, Int.reduceSub, Int.reduceMul, Int.reduceToNat, Int.reduceBEq, Int.reduceBNe, ↓hlen, ↓hkn, hse, I0, I1, hj, hd, E1, E2, ↓hnm2, TP]
        intro c3 hc3 c4 hc4
        refine IH (1, c3, c4) _ (by simp only; omega) ⟨by simp only; omega, hc3, hc4⟩ ?_
        simp only [ppT, ppL, ht, List.take_zero, List.nil_append, List.map_cons, List.map_nil]
        refine Wk.sel [0, 2, 4] (by decide) hnq ?_ ?_ ?_ ?_ hcq (clean_pick hcq _)
        · simp (config := { maxSteps := 10000000 }) only [run_drx, run_xd, run_xq, run_xg, run_xb, EV1, EV2, EV3, EV4, EV5, EV6, addT, istep, lenR_sl, lenR_ns, lenR_es, pickR, putD, bin1R, un1R, slcR, bnd, capsOf, fillP, S_plain, V_plain, V.cells, S_known, V_known, C.v, blk, setL, setH, eqS, eq1, cmpS, cmp1, isNil, popTo, killT, setT, leT, V.below, C.below, S_below, R.below, V.val, C.val, S_val, R.val, R.takes, vals, shows, List.any_cons, List.any_nil, unnamed, V.kill, V.names, C.names, S_names, R.names, List.set, List.replicate, ↓q_cond_t, ↓q_cond_f, if_true, if_false, reduceCtorEq, rvals, rvC, result, C_known, V.noL, C.noL, S_noL, R.noL, Option.map, true_and, and_true, ge_iff_le, gt_iff_lt, implies_true, q_ite_t, q_ite_f, beq_iff_eq, bne_iff_ne, q_ne, Nat.reduceAdd, Nat.reducePow, Int.reducePow, Nat.reduceMul, Nat.reduceSub, Nat.reduceLeDiff, Nat.reduceLT, Nat.reduceEqDiff, Int.reduceNeg, Int.reduceLT, Int.reduceLE, Int.reduceEq, Int.reduceNe, Int.reduceAdd, Int.reduceSub, Int.reduceMul, Int.reduceToNat, Int.reduceBEq, Int.reduceBNe, List.nil_append, Blk.ren, V.ren, C.ren, S_ren, R.pick_g, R.pick_0, R.pick_s, List.map_append, fd_ren, arr, Ic, Uc]
        · simp (config := { maxSteps := 10000000 }) only [run_drx, run_xd, run_xq, run_xg, run_xb, EV1, EV2, EV3, EV4, EV5, EV6, addT, istep, lenR_sl, lenR_ns, lenR_es, pickR, putD, bin1R, un1R, slcR, bnd, capsOf, fillP, S_plain, V_plain, V.cells, S_known, V_known, C.v, blk, setL, setH, eqS, eq1, cmpS, cmp1, isNil, popTo, killT, setT, leT, V.below, C.below, S_below, R.below, V.val, C.val, S_val, R.val, R.takes, vals, shows, List.any_cons, List.any_nil, unnamed, V.kill, V.names, C.names, S_names, R.names, List.set, List.replicate, ↓q_cond_t, ↓q_cond_f, if_true, if_false, reduceCtorEq, rvals, rvC, result, C_known, V.noL, C.noL, S_noL, R.noL, Option.map, true_and, and_true, ge_iff_le, gt_iff_lt, implies_true, q_ite_t, q_ite_f, beq_iff_eq, bne_iff_ne, q_ne, Nat.reduceAdd, Nat.reducePow, Int.reducePow, Nat.reduceMul, Nat.reduceSub, Nat.reduceLeDiff, Nat.reduceLT, Nat.reduceEqDiff, Int.reduceNeg, Int.reduceLT, Int.reduceLE, Int.reduceEq, Int.reduceNe, Int.reduceAdd, Int.reduceSub, Int.reduceMul, Int.reduceToNat, Int.reduceBEq, Int.reduceBNe, List.nil_append, Blk.ren, V.ren, C.ren, S_ren, R.pick_g, R.pick_0, R.pick_s, hse, hpk2]
        · simp (config := { maxSteps := 10000000 }) only [run_drx, run_xd, run_xq, run_xg, run_xb, EV1, EV2, EV3, EV4, EV5, EV6, addT, istep, lenR_sl, lenR_ns, lenR_es, pickR, putD, bin1R, un1R, slcR, bnd, capsOf, fillP, S_plain, V_plain, V.cells, S_known, V_known, C.v, blk, setL, setH, eqS, eq1, cmpS, cmp1, isNil, popTo, killT, setT, leT, V.below, C.below, S_below, R.below, V.val, C.val, S_val, R.val, R.takes, vals, shows, List.any_cons, List.any_nil, unnamed, V.kill, V.names, C.names, S_names, R.names, List.set, List.replicate, ↓q_cond_t, ↓q_cond_f, if_true, if_false, reduceCtorEq, rvals, rvC, result, C_known, V.noL, C.noL, S_noL, R.noL, Option.map, true_and, and_true, ge_iff_le, gt_iff_lt, implies_true, q_ite_t, q_ite_f, beq_iff_eq, bne_iff_ne, q_ne, Nat.reduceAdd, Nat.reducePow, Int.reducePow, Nat.reduceMul, Nat.reduceSub, Nat.reduceLeDiff, Nat.reduceLT, Nat.reduceEqDiff, Int.reduceNeg, Int.reduceLT, Int.reduceLE, Int.reduceEq, Int.reduceNe, Int.reduceAdd, Int.reduceSub, Int.reduceMul, Int.reduceToNat, Int.reduceBEq, Int.reduceBNe, List.nil_append, List.all_cons, List.all_nil, hse, hvl2, hjl]
        · simp (config := { maxSteps := 10000000 }) only [run_drx, run_xd, run_xq, run_xg, run_xb, EV1, EV2, EV3, EV4, EV5, EV6, addT, istep, lenR_sl, lenR_ns, lenR_es, pickR, putD, bin1R, un1R, slcR, bnd, capsOf, fillP, S_plain, V_plain, V.cells, S_known, V_known, C.v, blk, setL, setH, eqS, eq1, cmpS, cmp1, isNil, popTo, killT, setT, leT, V.below, C.below, S_below, R.below, V.val, C.val, S_val, R.val, R.takes, vals, shows, List.any_cons, List.any_nil, unnamed, V.kill, V.names, C.names, S_names, R.names, List.set, List.replicate, ↓q_cond_t, ↓q_cond_f, if_true, if_false, reduceCtorEq, rvals, rvC, result, C_known, V.noL, C.noL, S_noL, R.noL, Option.map, true_and, and_true, ge_iff_le, gt_iff_lt, implies_true, q_ite_t, q_ite_f, beq_iff_eq, bne_iff_ne, q_ne, Nat.reduceAdd, Nat.reducePow, Int.reducePow, Nat.reduceMul, Nat.reduceSub, Nat.reduceLeDiff, Nat.reduceLT, Nat.reduceEqDiff, Int.reduceNeg, Int.reduceLT, Int.reduceLE, Int.reduceEq, Int.reduceNe, Int.reduceAdd, Int.reduceSub, Int.reduceMul, Int.reduceToNat, Int.reduceBEq, Int.reduceBNe, List.nil_append, List.all_cons, List.all_nil, arr, Ic, Uc, fVs]
      | succ i =>
        have hl1 : (arr Ic ((F.take (i + 1)).map Fd.b)).length = i + 1 := by rw [arr_length Ic_len]; simp; omega
        have hl2 : (arr Uc ((F.take (i + 1)).map Fd.v)).length = i + 1 := by rw [arr_length Uc_len]; simp; omega
        simp only [ppT, ppL]
        refine run_sound (Tab.ok_Γ _) 300 _ _ _ _ ?_
        simp (config := { maxSteps := 10000000 }) only [run_drx, run_xd, run_xq, run_xg, run_xb, EV1, EV2, EV3, EV4, EV5, EV6, addT, istep, lenR_sl, lenR_ns, lenR_es, pickR, putD, bin1R, un1R, slcR, bnd, capsOf, fillP, S_plain, V_plain, V.cells, S_known, V_known, C.v, blk, setL, setH, eqS, eq1, cmpS, cmp1, isNil, popTo, killT, setT, leT, V.below, C.below, S_below, R.below, V.val, C.val, S_val, R.val, R.takes, vals, shows, List.any_cons, List.any_nil, unnamed, V.kill, V.names, C.names, S_names, R.names, List.set, List.replicate, ↓q_cond_t, ↓q_cond_f, if_true, if_false, reduceCtorEq, rvals, rvC, result, C_known, V.noL, C.noL, S_noL, R.noL, Option.map, true_and, and_true, ge_iff_le, gt_iff_lt, implies_true, q_ite_t, q_ite_f, beq_iff_eq, bne_iff_ne, q_ne, Nat.reduceAdd, Nat.reducePow, Int.reducePow, Nat.reduceMul, Nat.reduceSub, Nat.reduceLeDiff, Nat.reduceLT, Nat.reduceEqDiff, Int.reduceNeg, Int.reduceLT, Int.reduceLE, Int.reduceEq, Int.reduceNe, Int.reduceAdd, Int.reduceSub, Int.reduceMul, Int.reduceToNat, Int.reduceBEq, Int.reduceBNe, ↓hlen, ↓hkn, hse, I, hj, hd, E1, E2, ↓hnm2, hl1, hl2, iK, uK, fN, iN, uN, List.all_append, List.all_cons, List.all_nil, TP]
        refine ⟨by omega, fun c3 hc3 => ⟨by omega, fun c4 hc4 => ?_⟩⟩
        refine IH (i + 2, c3, c4) _ (by simp only; omega) ⟨by simp only; omega, hc3, hc4⟩ ?_
        simp only [ppT, ppL]
        rw [ht]
        simp only [List.map_append, List.map_cons, List.map_nil, arr_append, arr, List.append_nil]
        refine Wk.keep 3 (by rfl) rfl ?_ ?_ ?_
        · simp (config := { maxSteps := 10000000 }) only [run_drx, run_xd, run_xq, run_xg, run_xb, EV1, EV2, EV3, EV4, EV5, EV6, addT, istep, lenR_sl, lenR_ns, lenR_es, pickR, putD, bin1R, un1R, slcR, bnd, capsOf, fillP, S_plain, V_plain, V.cells, S_known, V_known, C.v, blk, setL, setH, eqS, eq1, cmpS, cmp1, isNil, popTo, killT, setT, leT, V.below, C.below, S_below, R.below, V.val, C.val, S_val, R.val, R.takes, vals, shows, List.any_cons, List.any_nil, unnamed, V.kill, V.names, C.names, S_names, R.names, List.set, List.replicate, ↓q_cond_t, ↓q_cond_f, if_true, if_false, reduceCtorEq, rvals, rvC, result, C_known, V.noL, C.noL, S_noL, R.noL, Option.map, true_and, and_true, ge_iff_le, gt_iff_lt, implies_true, q_ite_t, q_ite_f, beq_iff_eq, bne_iff_ne, q_ne, Nat.reduceAdd, Nat.reducePow, Int.reducePow, Nat.reduceMul, Nat.reduceSub, Nat.reduceLeDiff, Nat.reduceLT, Nat.reduceEqDiff, Int.reduceNeg, Int.reduceLT, Int.reduceLE, Int.reduceEq, Int.reduceNe, Int.reduceAdd, Int.reduceSub, Int.reduceMul, Int.reduceToNat, Int.reduceBEq, Int.reduceBNe, hse]
        · simp (config := { maxSteps := 10000000 }) only [run_drx, run_xd, run_xq, run_xg, run_xb, EV1, EV2, EV3, EV4, EV5, EV6, addT, istep, lenR_sl, lenR_ns, lenR_es, pickR, putD, bin1R, un1R, slcR, bnd, capsOf, fillP, S_plain, V_plain, V.cells, S_known, V_known, C.v, blk, setL, setH, eqS, eq1, cmpS, cmp1, isNil, popTo, killT, setT, leT, V.below, C.below, S_below, R.below, V.val, C.val, S_val, R.val, R.takes, vals, shows, List.any_cons, List.any_nil, unnamed, V.kill, V.names, C.names, S_names, R.names, List.set, List.replicate, ↓q_cond_t, ↓q_cond_f, if_true, if_false, reduceCtorEq, rvals, rvC, result, C_known, V.noL, C.noL, S_noL, R.noL, Option.map, true_and, and_true, ge_iff_le, gt_iff_lt, implies_true, q_ite_t, q_ite_f, beq_iff_eq, bne_iff_ne, q_ne, Nat.reduceAdd, Nat.reducePow, Int.reducePow, Nat.reduceMul, Nat.reduceSub, Nat.reduceLeDiff, Nat.reduceLT, Nat.reduceEqDiff, Int.reduceNeg, Int.reduceLT, Int.reduceLE, Int.reduceEq, Int.reduceNe, Int.reduceAdd, Int.reduceSub, Int.reduceMul, Int.reduceToNat, Int.reduceBEq, Int.reduceBNe, hse, hbl2]
        · simp (config := { maxSteps := 10000000 }) only [run_drx, run_xd, run_xq, run_xg, run_xb, EV1, EV2, EV3, EV4, EV5, EV6, addT, istep, lenR_sl, lenR_ns, lenR_es, pickR, putD, bin1R, un1R, slcR, bnd, capsOf, fillP, S_plain, V_plain, V.cells, S_known, V_known, C.v, blk, setL, setH, eqS, eq1, cmpS, cmp1, isNil, popTo, killT, setT, leT, V.below, C.below, S_below, R.below, V.val, C.val, S_val, R.val, R.takes, vals, shows, List.any_cons, List.any_nil, unnamed, V.kill, V.names, C.names, S_names, R.names, List.set, List.replicate, ↓q_cond_t, ↓q_cond_f, if_true, if_false, reduceCtorEq, rvals, rvC, result, C_known, V.noL, C.noL, S_noL, R.noL, Option.map, true_and, and_true, ge_iff_le, gt_iff_lt, implies_true, q_ite_t, q_ite_f, beq_iff_eq, bne_iff_ne, q_ne, Nat.reduceAdd, Nat.reducePow, Int.reducePow, Nat.reduceMul, Nat.reduceSub, Nat.reduceLeDiff, Nat.reduceLT, Nat.reduceEqDiff, Int.reduceNeg, Int.reduceLT, Int.reduceLE, Int.reduceEq, Int.reduceNe, Int.reduceAdd, Int.reduceSub, Int.reduceMul, Int.reduceToNat, Int.reduceBEq, Int.reduceBNe, List.all_append, List.all_cons, List.all_nil, fB, iB, uB, Ic, Uc, Fd.c, Fd.z]
    · have : i = F.length := by omega
      have hpo : ∀ X, preOf Fd.c (h ++ ⟨.rw, arr Fd.c (F ++ [Fd.z]), (F.length + 1) * 2⟩ :: X) (.sl (.g h.length) 0 F.length (F.length + 1)) = some F := fun X => preOf_eq (.inr ⟨h.length, _, .rw, [Fd.z], _, rfl, by rw [app_get0]; rfl, fun _ => by decide⟩)
      have hne : ¬ (F.length + 1 = 0) := by omega
      have hF0 : ¬ ((F.length : Int) < 0) := by omega
      have hF1 : (F.length : Int) ≤ ((F.length + 1 : Nat) : Int) := by omega
      have hF2 : (0 : Int) ≤ (F.length : Int) := by omega
      have hbn : ∀ a b : Nat, ¬ (a + b < a) := fun a b => by omega
      rcases Nat.eq_zero_or_pos F.length with h0 | h0
      · have h0' := List.eq_nil_of_length_eq_zero h0
        obtain rfl : i = 0 := by omega
        subst h0'
        simp only [ppT, ppL]
        have hpo := hpo []
        simp only [List.length_nil, Nat.zero_add, List.nil_append] at hpo hne hF0 hF1 hF2
        refine run_sound (Tab.ok_Γ _) 300 _ _ _ _ ?_
        simp (config := { maxSteps := 10000000 }) only [run_drx, run_xd, run_xq, run_xg, run_xb, EV1, EV2, EV3, EV4, EV5, EV6, addT, istep, lenR_sl, lenR_ns, lenR_es, pickR, putD, bin1R, un1R, slcR, bnd, capsOf, fillP, S_plain, V_plain, V.cells, S_known, V_known, C.v, blk, setL, setH, eqS, eq1, cmpS, cmp1, isNil, popTo, killT, setT, leT, V.below, C.below, S_below, R.below, V.val, C.val, S_val, R.val, R.takes, vals, shows, List.any_cons, List.any_nil, unnamed, V.kill, V.names, C.names, S_names, R.names, List.set, List.replicate, ↓q_cond_t, ↓q_cond_f, if_true, if_false, reduceCtorEq, rvals, rvC, result, C_known, V.noL, C.noL, S_noL, R.noL, Option.map, true_and, and_true, ge_iff_le, gt_iff_lt, implies_true, q_ite_t, q_ite_f, beq_iff_eq, bne_iff_ne, q_ne, Nat.reduceAdd, Nat.reducePow, Int.reducePow, Nat.reduceMul, Nat.reduceSub, Nat.reduceLeDiff, Nat.reduceLT, Nat.reduceEqDiff, Int.reduceNeg, Int.reduceLT, Int.reduceLE, Int.reduceEq, Int.reduceNe, Int.reduceAdd, Int.reduceSub, Int.reduceMul, Int.reduceToNat, Int.reduceBEq, Int.reduceBNe, ↓hlen, ↓hkn, List.length_nil, Int.natCast_zero, Int.lt_irrefl, ↓hnm2, hpo, hne, TP, pack4G, rpackG, R.lend, R.unlend, S_ren, C.ren, V.ren, Blk.ren, take_app, drop_app, Nat.not_lt_zero, Nat.lt_irrefl, Nat.add_sub_cancel_left, Nat.not_lt, Nat.le_add_right, fd_ren, packB, packV, hbn, Int.le_refl, Int.sub_zero, Nat.sub_zero]
        have key := fun p e => wp_end (p := p) (e := e) hc Hs hw Hs2 c0 c1 hK
        refine ⟨by simp, hc, ?_⟩
        refine loop_rule (α := Unit) [] (fun _ => []) (fun _ => [⟨.rw, arr Fd.c (([] : List Fd) ++ [Fd.z]), (([] : List Fd).length + 1) * 2⟩]) (fun _ => h) (fun _ => True) (fun _ => 0) () trivial .refl ?_
        rintro X2 _ _ _
        refine run_sound (Tab.ok_Γ _) 300 _ _ _ _ ?_
        simp (config := { maxSteps := 10000000 }) only [run_drx, run_xd, run_xq, run_xg, run_xb, EV1, EV2, EV3, EV4, EV5, EV6, addT, istep, lenR_sl, lenR_ns, lenR_es, pickR, putD, bin1R, un1R, slcR, bnd, capsOf, fillP, S_plain, V_plain, V.cells, S_known, V_known, C.v, blk, setL, setH, eqS, eq1, cmpS, cmp1, isNil, popTo, killT, setT, leT, V.below, C.below, S_below, R.below, V.val, C.val, S_val, R.val, R.takes, vals, shows, List.any_cons, List.any_nil, unnamed, V.kill, V.names, C.names, S_names, R.names, List.set, List.replicate, ↓q_cond_t, ↓q_cond_f, if_true, if_false, reduceCtorEq, rvals, rvC, result, C_known, V.noL, C.noL, S_noL, R.noL, Option.map, true_and, and_true, ge_iff_le, gt_iff_lt, implies_true, q_ite_t, q_ite_f, beq_iff_eq, bne_iff_ne, q_ne, Nat.reduceAdd, Nat.reducePow, Int.reducePow, Nat.reduceMul, Nat.reduceSub, Nat.reduceLeDiff, Nat.reduceLT, Nat.reduceEqDiff, Int.reduceNeg, Int.reduceLT, Int.reduceLE, Int.reduceEq, Int.reduceNe, Int.reduceAdd, Int.reduceSub, Int.reduceMul, Int.reduceToNat, Int.reduceBEq, Int.reduceBNe, ↓hlen, ↓hkn, List.length_nil, Int.natCast_zero, Int.lt_irrefl]
        refine swp_weak (Wk.keep 1 rfl rfl ?_ ?_ ?_) (key 0 0)
        · simp (config := { maxSteps := 10000000 }) only [run_drx, run_xd, run_xq, run_xg, run_xb, EV1, EV2, EV3, EV4, EV5, EV6, addT, istep, lenR_sl, lenR_ns, lenR_es, pickR, putD, bin1R, un1R, slcR, bnd, capsOf, fillP, S_plain, V_plain, V.cells, S_known, V_known, C.v, blk, setL, setH, eqS, eq1, cmpS, cmp1, isNil, popTo, killT, setT, leT, V.below, C.below, S_below, R.below, V.val, C.val, S_val, R.val, R.takes, vals, shows, List.any_cons, List.any_nil, unnamed, V.kill, V.names, C.names, S_names, R.names, List.set, List.replicate, ↓q_cond_t, ↓q_cond_f, if_true, if_false, reduceCtorEq, rvals, rvC, result, C_known, V.noL, C.noL, S_noL, R.noL, Option.map, true_and, and_true, ge_iff_le, gt_iff_lt, implies_true, q_ite_t, q_ite_f, beq_iff_eq, bne_iff_ne, q_ne, Nat.reduceAdd, Nat.reducePow, Int.reducePow, Nat.reduceMul, Nat.reduceSub, Nat.reduceLeDiff, Nat.reduceLT, Nat.reduceEqDiff, Int.reduceNeg, Int.reduceLT, Int.reduceLE, Int.reduceEq, Int.reduceNe, Int.reduceAdd, Int.reduceSub, Int.reduceMul, Int.reduceToNat, Int.reduceBEq, Int.reduceBNe, wpT]
        · simp (config := { maxSteps := 10000000 }) only [run_drx, run_xd, run_xq, run_xg, run_xb, EV1, EV2, EV3, EV4, EV5, EV6, addT, istep, lenR_sl, lenR_ns, lenR_es, pickR, putD, bin1R, un1R, slcR, bnd, capsOf, fillP, S_plain, V_plain, V.cells, S_known, V_known, C.v, blk, setL, setH, eqS, eq1, cmpS, cmp1, isNil, popTo, killT, setT, leT, V.below, C.below, S_below, R.below, V.val, C.val, S_val, R.val, R.takes, vals, shows, List.any_cons, List.any_nil, unnamed, V.kill, V.names, C.names, S_names, R.names, List.set, List.replicate, ↓q_cond_t, ↓q_cond_f, if_true, if_false, reduceCtorEq, rvals, rvC, result, C_known, V.noL, C.noL, S_noL, R.noL, Option.map, true_and, and_true, ge_iff_le, gt_iff_lt, implies_true, q_ite_t, q_ite_f, beq_iff_eq, bne_iff_ne, q_ne, Nat.reduceAdd, Nat.reducePow, Int.reducePow, Nat.reduceMul, Nat.reduceSub, Nat.reduceLeDiff, Nat.reduceLT, Nat.reduceEqDiff, Int.reduceNeg, Int.reduceLT, Int.reduceLE, Int.reduceEq, Int.reduceNe, Int.reduceAdd, Int.reduceSub, Int.reduceMul, Int.reduceToNat, Int.reduceBEq, Int.reduceBNe, wpT, hbl, hbl2, List.all_cons, List.all_nil, List.take_succ_cons, List.take_zero, List.length_cons, List.length_nil]
        · simp [fB]
      · obtain ⟨n', hn'⟩ : ∃ n', F.length = n' + 1 := ⟨F.length - 1, by omega⟩
        subst this
        have key := fun p e => wp_end (p := p) (e := e) hc Hs hw Hs2 c0 c1 hK
        have hT : F.take (n' + 1) = F := by rw [← hn', List.take_length]
        have hlb : (F.map Fd.b).length = n' + 1 := by simp [hn']
        have hlv : (F.map Fd.v).length = n' + 1 := by simp [hn']
        have hpr : pairs ((F.map Fd.b).take (n' + 1)) ((F.map Fd.v).take (n' + 1)) = F := by
          rw [List.take_of_length_le (by omega), List.take_of_length_le (by omega), pairs_map]
        have hdi : decI (arr Ic (F.map Fd.b)) = F.map Fd.b := decI_arr _
        have hdu : decI (arr Uc (F.map Fd.v)) = F.map Fd.v := decU_arr _
        have hus : ∀ v, v ∈ F.map Fd.v → u64 v := fun v hv => by
          obtain ⟨f, hf, rfl⟩ := List.mem_map.1 hv
          exact hu f hf
        rw [hn'] at hpo hne hF0 hF1 hF2 hn64 hlen hsh
        simp only [hn', ppT, ppL, hT]
        refine run_sound (Tab.ok_Γ _) 300 _ _ _ _ ?_
        simp (config := { maxSteps := 10000000 }) only [run_drx, run_xd, run_xq, run_xg, run_xb, EV1, EV2, EV3, EV4, EV5, EV6, addT, istep, lenR_sl, lenR_ns, lenR_es, pickR, putD, bin1R, un1R, slcR, bnd, capsOf, fillP, S_plain, V_plain, V.cells, S_known, V_known, C.v, blk, setL, setH, eqS, eq1, cmpS, cmp1, isNil, popTo, killT, setT, leT, V.below, C.below, S_below, R.below, V.val, C.val, S_val, R.val, R.takes, vals, shows, List.any_cons, List.any_nil, unnamed, V.kill, V.names, C.names, S_names, R.names, List.set, List.replicate, ↓q_cond_t, ↓q_cond_f, if_true, if_false, reduceCtorEq, rvals, rvC, result, C_known, V.noL, C.noL, S_noL, R.noL, Option.map, true_and, and_true, ge_iff_le, gt_iff_lt, implies_true, q_ite_t, q_ite_f, beq_iff_eq, bne_iff_ne, q_ne, Nat.reduceAdd, Nat.reducePow, Int.reducePow, Nat.reduceMul, Nat.reduceSub, Nat.reduceLeDiff, Nat.reduceLT, Nat.reduceEqDiff, Int.reduceNeg, Int.reduceLT, Int.reduceLE, Int.reduceEq, Int.reduceNe, Int.reduceAdd, Int.reduceSub, Int.reduceMul, Int.reduceToNat, Int.reduceBEq, Int.reduceBNe, ↓hlen, ↓hkn, Int.lt_irrefl, ↓hnm2, hpo, hne, TP, pack4G, rpackG, R.lend, R.unlend, S_ren, C.ren, V.ren, Blk.ren, take_app, drop_app, Nat.not_lt_zero, Nat.lt_irrefl, Nat.add_sub_cancel_left, Nat.not_lt, Nat.le_add_right, fd_ren, ic_ren, uc_ren, hbn, Int.le_refl, Int.sub_zero, Nat.sub_zero, hdi, hdu, hpr, hlb, hlv, app_getn, app_get0, List.getElem?_cons_zero, List.getElem?_cons_succ]
        refine ⟨⟨hF2, hF1⟩, ⟨by omega, hu⟩, fun _ => hc, fun _ => hc, ⟨by omega, hus⟩, fun _ => hc, fun _ => hc, ?_⟩
        have hlF := arr_length Fd.c_len F
        have hlFz := arr_length Fd.c_len (F ++ [Fd.z])
        rw [List.length_append, List.length_singleton] at hlFz
        refine loop_rule (α := Nat) (62 :: 67 :: 70 :: 73 :: [6, 16, 76, 77, 78, 79, 80, 81, 82, 83, 84, 85, 86, 87, 88, 89, 90]) (fun i => [(16, .s (.i .i64 (i : Int)))]) (fun _ => [⟨.rw, arr Fd.c (F ++ [Fd.z]), (n' + 1 + 1) * 2⟩, ⟨.rw, arr Ic (F.map Fd.b), c1'⟩, ⟨.rw, arr Uc (F.map Fd.v), c2'⟩]) (fun _ => h)
          (fun i => i ≤ n' + 1) (fun i => n' + 1 - i) 0 (Nat.zero_le _) (Wk.same rfl rfl ?_) ?_
        · simp (config := { maxSteps := 10000000 }) only [run_drx, run_xd, run_xq, run_xg, run_xb, EV1, EV2, EV3, EV4, EV5, EV6, addT, istep, lenR_sl, lenR_ns, lenR_es, pickR, putD, bin1R, un1R, slcR, bnd, capsOf, fillP, S_plain, V_plain, V.cells, S_known, V_known, C.v, blk, setL, setH, eqS, eq1, cmpS, cmp1, isNil, popTo, killT, setT, leT, V.below, C.below, S_below, R.below, V.val, C.val, S_val, R.val, R.takes, vals, shows, List.any_cons, List.any_nil, unnamed, V.kill, V.names, C.names, S_names, R.names, List.set, List.replicate, ↓q_cond_t, ↓q_cond_f, if_true, if_false, reduceCtorEq, rvals, rvC, result, C_known, V.noL, C.noL, S_noL, R.noL, Option.map, true_and, and_true, ge_iff_le, gt_iff_lt, implies_true, q_ite_t, q_ite_f, beq_iff_eq, bne_iff_ne, q_ne, Nat.reduceAdd, Nat.reducePow, Int.reducePow, Nat.reduceMul, Nat.reduceSub, Nat.reduceLeDiff, Nat.reduceLT, Nat.reduceEqDiff, Int.reduceNeg, Int.reduceLT, Int.reduceLE, Int.reduceEq, Int.reduceNe, Int.reduceAdd, Int.reduceSub, Int.reduceMul, Int.reduceToNat, Int.reduceBEq, Int.reduceBNe, Int.natCast_zero]
        · rintro X2 i hi2 IH2
          rcases Nat.lt_or_ge i (n' + 1) with hlt | hge2
          · have I := idx hlt hn64
            have hltF : i < F.length := by omega
            obtain ⟨j, cc, st, room, hse, hj, hd⟩ := Hs.at hltF
            rw [hn'] at hse
            have E3 : sub (arr Fd.c F) (i * 2) 2 = [.i .i64 (nth Fd.z F i).b, .i .u64 (nth Fd.z F i).v] := by rw [arr_sub Fd.c_len hltF, nth_eq hltF]; rfl
            have E4 : sub (arr Fd.c (F ++ [Fd.z])) (i * 2) 2 = [.i .i64 (nth Fd.z F i).b, .i .u64 (nth Fd.z F i).v] := by
              rw [arr_sub Fd.c_len (by simp; omega), List.getElem_append_left hltF, nth_eq hltF]; rfl
            have L3 : i * 2 + 2 ≤ (arr Fd.c F).length := by rw [hlF]; omega
            have L4 : i * 2 + 2 ≤ (arr Fd.c (F ++ [Fd.z])).length := by rw [hlFz]; omega
            have I3 : (i : Int) < ((n' + 1 + 1 : Nat) : Int) := by omega
            refine run_sound (Tab.ok_Γ _) 300 _ _ _ _ ?_
            simp (config := { maxSteps := 10000000 }) only [run_drx, run_xd, run_xq, run_xg, run_xb, EV1, EV2, EV3, EV4, EV5, EV6, addT, istep, lenR_sl, lenR_ns, lenR_es, pickR, putD, bin1R, un1R, slcR, bnd, capsOf, fillP, S_plain, V_plain, V.cells, S_known, V_known, C.v, blk, setL, setH, eqS, eq1, cmpS, cmp1, isNil, popTo, killT, setT, leT, V.below, C.below, S_below, R.below, V.val, C.val, S_val, R.val, R.takes, vals, shows, List.any_cons, List.any_nil, unnamed, V.kill, V.names, C.names, S_names, R.names, List.set, List.replicate, ↓q_cond_t, ↓q_cond_f, if_true, if_false, reduceCtorEq, rvals, rvC, result, C_known, V.noL, C.noL, S_noL, R.noL, Option.map, true_and, and_true, ge_iff_le, gt_iff_lt, implies_true, q_ite_t, q_ite_f, beq_iff_eq, bne_iff_ne, q_ne, Nat.reduceAdd, Nat.reducePow, Int.reducePow, Nat.reduceMul, Nat.reduceSub, Nat.reduceLeDiff, Nat.reduceLT, Nat.reduceEqDiff, Int.reduceNeg, Int.reduceLT, Int.reduceLE, Int.reduceEq, Int.reduceNe, Int.reduceAdd, Int.reduceSub, Int.reduceMul, Int.reduceToNat, Int.reduceBEq, Int.reduceBNe, ↓hlen, ↓hkn, I, I3, hse, hj, hd, E3, E4, L3, L4]
            refine IH2 (i + 1) _ (by omega) (by omega) (Wk.keep 3 (by rfl) rfl ?_ ?_ ?_)
            · simp (config := { maxSteps := 10000000 }) only [run_drx, run_xd, run_xq, run_xg, run_xb, EV1, EV2, EV3, EV4, EV5, EV6, addT, istep, lenR_sl, lenR_ns, lenR_es, pickR, putD, bin1R, un1R, slcR, bnd, capsOf, fillP, S_plain, V_plain, V.cells, S_known, V_known, C.v, blk, setL, setH, eqS, eq1, cmpS, cmp1, isNil, popTo, killT, setT, leT, V.below, C.below, S_below, R.below, V.val, C.val, S_val, R.val, R.takes, vals, shows, List.any_cons, List.any_nil, unnamed, V.kill, V.names, C.names, S_names, R.names, List.set, List.replicate, ↓q_cond_t, ↓q_cond_f, if_true, if_false, reduceCtorEq, rvals, rvC, result, C_known, V.noL, C.noL, S_noL, R.noL, Option.map, true_and, and_true, ge_iff_le, gt_iff_lt, implies_true, q_ite_t, q_ite_f, beq_iff_eq, bne_iff_ne, q_ne, Nat.reduceAdd, Nat.reducePow, Int.reducePow, Nat.reduceMul, Nat.reduceSub, Nat.reduceLeDiff, Nat.reduceLT, Nat.reduceEqDiff, Int.reduceNeg, Int.reduceLT, Int.reduceLE, Int.reduceEq, Int.reduceNe, Int.reduceAdd, Int.reduceSub, Int.reduceMul, Int.reduceToNat, Int.reduceBEq, Int.reduceBNe, hse]
            · simp (config := { maxSteps := 10000000 }) only [run_drx, run_xd, run_xq, run_xg, run_xb, EV1, EV2, EV3, EV4, EV5, EV6, addT, istep, lenR_sl, lenR_ns, lenR_es, pickR, putD, bin1R, un1R, slcR, bnd, capsOf, fillP, S_plain, V_plain, V.cells, S_known, V_known, C.v, blk, setL, setH, eqS, eq1, cmpS, cmp1, isNil, popTo, killT, setT, leT, V.below, C.below, S_below, R.below, V.val, C.val, S_val, R.val, R.takes, vals, shows, List.any_cons, List.any_nil, unnamed, V.kill, V.names, C.names, S_names, R.names, List.set, List.replicate, ↓q_cond_t, ↓q_cond_f, if_true, if_false, reduceCtorEq, rvals, rvC, result, C_known, V.noL, C.noL, S_noL, R.noL, Option.map, true_and, and_true, ge_iff_le, gt_iff_lt, implies_true, q_ite_t, q_ite_f, beq_iff_eq, bne_iff_ne, q_ne, Nat.reduceAdd, Nat.reducePow, Int.reducePow, Nat.reduceMul, Nat.reduceSub, Nat.reduceLeDiff, Nat.reduceLT, Nat.reduceEqDiff, Int.reduceNeg, Int.reduceLT, Int.reduceLE, Int.reduceEq, Int.reduceNe, Int.reduceAdd, Int.reduceSub, Int.reduceMul, Int.reduceToNat, Int.reduceBEq, Int.reduceBNe, hse, hbl2, List.length_cons, List.length_nil]
            · simp (config := { maxSteps := 10000000 }) only [run_drx, run_xd, run_xq, run_xg, run_xb, EV1, EV2, EV3, EV4, EV5, EV6, addT, istep, lenR_sl, lenR_ns, lenR_es, pickR, putD, bin1R, un1R, slcR, bnd, capsOf, fillP, S_plain, V_plain, V.cells, S_known, V_known, C.v, blk, setL, setH, eqS, eq1, cmpS, cmp1, isNil, popTo, killT, setT, leT, V.below, C.below, S_below, R.below, V.val, C.val, S_val, R.val, R.takes, vals, shows, List.any_cons, List.any_nil, unnamed, V.kill, V.names, C.names, S_names, R.names, List.set, List.replicate, ↓q_cond_t, ↓q_cond_f, if_true, if_false, reduceCtorEq, rvals, rvC, result, C_known, V.noL, C.noL, S_noL, R.noL, Option.map, true_and, and_true, ge_iff_le, gt_iff_lt, implies_true, q_ite_t, q_ite_f, beq_iff_eq, bne_iff_ne, q_ne, Nat.reduceAdd, Nat.reducePow, Int.reducePow, Nat.reduceMul, Nat.reduceSub, Nat.reduceLeDiff, Nat.reduceLT, Nat.reduceEqDiff, Int.reduceNeg, Int.reduceLT, Int.reduceLE, Int.reduceEq, Int.reduceNe, Int.reduceAdd, Int.reduceSub, Int.reduceMul, Int.reduceToNat, Int.reduceBEq, Int.reduceBNe, List.all_cons, List.all_nil, fB, iB, uB]
          · have : i = n' + 1 := by omega
            subst this
            refine run_sound (Tab.ok_Γ _) 300 _ _ _ _ ?_
            simp (config := { maxSteps := 10000000 }) only [run_drx, run_xd, run_xq, run_xg, run_xb, EV1, EV2, EV3, EV4, EV5, EV6, addT, istep, lenR_sl, lenR_ns, lenR_es, pickR, putD, bin1R, un1R, slcR, bnd, capsOf, fillP, S_plain, V_plain, V.cells, S_known, V_known, C.v, blk, setL, setH, eqS, eq1, cmpS, cmp1, isNil, popTo, killT, setT, leT, V.below, C.below, S_below, R.below, V.val, C.val, S_val, R.val, R.takes, vals, shows, List.any_cons, List.any_nil, unnamed, V.kill, V.names, C.names, S_names, R.names, List.set, List.replicate, ↓q_cond_t, ↓q_cond_f, if_true, if_false, reduceCtorEq, rvals, rvC, result, C_known, V.noL, C.noL, S_noL, R.noL, Option.map, true_and, and_true, ge_iff_le, gt_iff_lt, implies_true, q_ite_t, q_ite_f, beq_iff_eq, bne_iff_ne, q_ne, Nat.reduceAdd, Nat.reducePow, Int.reducePow, Nat.reduceMul, Nat.reduceSub, Nat.reduceLeDiff, Nat.reduceLT, Nat.reduceEqDiff, Int.reduceNeg, Int.reduceLT, Int.reduceLE, Int.reduceEq, Int.reduceNe, Int.reduceAdd, Int.reduceSub, Int.reduceMul, Int.reduceToNat, Int.reduceBEq, Int.reduceBNe, ↓hlen, ↓hkn, Int.lt_irrefl]
            have key := key (bif packB F 0 then packV F 0 else 0) (bif packB F 0 then 0 else 10)
            rw [hn'] at key
            refine swp_weak (Wk.keep 1 rfl rfl ?_ ?_ ?_) key
            · simp (config := { maxSteps := 10000000 }) only [run_drx, run_xd, run_xq, run_xg, run_xb, EV1, EV2, EV3, EV4, EV5, EV6, addT, istep, lenR_sl, lenR_ns, lenR_es, pickR, putD, bin1R, un1R, slcR, bnd, capsOf, fillP, S_plain, V_plain, V.cells, S_known, V_known, C.v, blk, setL, setH, eqS, eq1, cmpS, cmp1, isNil, popTo, killT, setT, leT, V.below, C.below, S_below, R.below, V.val, C.val, S_val, R.val, R.takes, vals, shows, List.any_cons, List.any_nil, unnamed, V.kill, V.names, C.names, S_names, R.names, List.set, List.replicate, ↓q_cond_t, ↓q_cond_f, if_true, if_false, reduceCtorEq, rvals, rvC, result, C_known, V.noL, C.noL, S_noL, R.noL, Option.map, true_and, and_true, ge_iff_le, gt_iff_lt, implies_true, q_ite_t, q_ite_f, beq_iff_eq, bne_iff_ne, q_ne, Nat.reduceAdd, Nat.reducePow, Int.reducePow, Nat.reduceMul, Nat.reduceSub, Nat.reduceLeDiff, Nat.reduceLT, Nat.reduceEqDiff, Int.reduceNeg, Int.reduceLT, Int.reduceLE, Int.reduceEq, Int.reduceNe, Int.reduceAdd, Int.reduceSub, Int.reduceMul, Int.reduceToNat, Int.reduceBEq, Int.reduceBNe, wpT]
            · simp (config := { maxSteps := 10000000 }) only [run_drx, run_xd, run_xq, run_xg, run_xb, EV1, EV2, EV3, EV4, EV5, EV6, addT, istep, lenR_sl, lenR_ns, lenR_es, pickR, putD, bin1R, un1R, slcR, bnd, capsOf, fillP, S_plain, V_plain, V.cells, S_known, V_known, C.v, blk, setL, setH, eqS, eq1, cmpS, cmp1, isNil, popTo, killT, setT, leT, V.below, C.below, S_below, R.below, V.val, C.val, S_val, R.val, R.takes, vals, shows, List.any_cons, List.any_nil, unnamed, V.kill, V.names, C.names, S_names, R.names, List.set, List.replicate, ↓q_cond_t, ↓q_cond_f, if_true, if_false, reduceCtorEq, rvals, rvC, result, C_known, V.noL, C.noL, S_noL, R.noL, Option.map, true_and, and_true, ge_iff_le, gt_iff_lt, implies_true, q_ite_t, q_ite_f, beq_iff_eq, bne_iff_ne, q_ne, Nat.reduceAdd, Nat.reducePow, Int.reducePow, Nat.reduceMul, Nat.reduceSub, Nat.reduceLeDiff, Nat.reduceLT, Nat.reduceEqDiff, Int.reduceNeg, Int.reduceLT, Int.reduceLE, Int.reduceEq, Int.reduceNe, Int.reduceAdd, Int.reduceSub, Int.reduceMul, Int.reduceToNat, Int.reduceBEq, Int.reduceBNe, wpT, hbl, hbl2, List.all_cons, List.all_nil, List.take_succ_cons, List.take_zero, List.length_cons, List.length_nil]
            · simp [fB]

end Go.Proofs.YtmchhjjdlcmhoaaDoor

