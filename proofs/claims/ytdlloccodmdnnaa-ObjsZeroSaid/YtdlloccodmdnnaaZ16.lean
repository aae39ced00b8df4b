/- The machine's memory: the document's Copy and Dump. -/
import Derived.Test.YtdlloccodmdnnaaZ10
import Derived.Test.YtdlloccodmdnnaaZ15
/- Lists of words: Dump, Load, Same. -/
namespace Go.Proofs.Ytdlloccodmdnnaa
open Go.D
set_option linter.all false
set_option maxRecDepth 100000
set_option maxHeartbeats 4000000

/-- A list of words, as a slice. -/
def IsList (h : List Blk) (s : S) (vs : List Int) : Prop :=
  ((s = .ns ∨ ∃ a c, s = .es a c) ∧ vs = []) ∨ (∃ j o c B, s = .sl (.g j) o 0 c ∧ h[j]? = some B ∧ vs = []) ∨ ∃ j o c B, s = .sl (.g j) o vs.length c ∧ h[j]? = some B ∧ B.st ≠ .dead ∧ o + vs.length ≤ B.cells.length ∧ sub B.cells o vs.length = wc vs
theorem IsList.uniq {h : List Blk} {s : S} {v w : List Int} (H : IsList h s v) (H' : IsList h s w) : v = w := by
  rcases H with ⟨e0, rfl⟩ | ⟨j, o, c, B, rfl, e1, rfl⟩ | ⟨j, o, c, B, rfl, e1, _, _, e2⟩
  · rcases H' with ⟨_, rfl⟩ | ⟨_, _, _, _, e, _⟩ | ⟨j, o, c, B, e, _⟩
    · rfl
    · subst e; rcases e0 with e0 | ⟨_, _, e0⟩ <;> cases e0
    · subst e; rcases e0 with e0 | ⟨_, _, e0⟩ <;> cases e0
  · rcases H' with ⟨e | ⟨_, _, e⟩, _⟩ | ⟨_, _, _, _, _, _, rfl⟩ | ⟨j', o', c', B', e, _⟩
    · cases e
    · cases e
    · rfl
    · simp only [S.sl.injEq] at e
      exact (List.eq_nil_of_length_eq_zero e.2.2.1.symm).symm
  · rcases H' with ⟨e | ⟨_, _, e⟩, _⟩ | ⟨_, _, _, _, e, _, rfl⟩ | ⟨j', o', c', B', e, e3, _, _, e4⟩
    · cases e
    · cases e
    · simp only [S.sl.injEq] at e
      exact List.eq_nil_of_length_eq_zero e.2.2.1
    · simp only [S.sl.injEq, R.g.injEq] at e
      obtain ⟨rfl, rfl, e5, rfl⟩ := e
      rw [e1, Option.some.injEq] at e3
      subst e3
      rw [← e5, e2] at e4
      exact wc_inj e4
theorem IsList.sl {h : List Blk} {s : S} {vs : List Int} (H : IsList h s vs) : IsSl h.length s vs.length := by
  rcases H with ⟨e0 | ⟨a, c', e0⟩, rfl⟩ | ⟨j, o, c, B, rfl, e1, rfl⟩ | ⟨j, o, c, B, rfl, e1, _, _, e2⟩
  · exact .inl ⟨e0, rfl⟩
  · exact .inr (.inl ⟨a, c', e0, rfl⟩)
  · exact .inr (.inr ⟨j, o, c, rfl, (List.getElem?_eq_some_iff.1 e1).1⟩)
  · exact .inr (.inr ⟨j, o, c, rfl, (List.getElem?_eq_some_iff.1 e1).1⟩)
theorem IsList.shows {h : List Blk} {s : S} {vs : List Int} (H : IsList h s vs) (ls : List Blk) : shows ls h 1 s = some (vs.length, wc vs) := by
  rcases H with ⟨rfl | ⟨a, c', rfl⟩, rfl⟩ | ⟨j, o, c, B, rfl, e1, rfl⟩ | ⟨j, o, c, B, rfl, e1, hd, hl, e2⟩
  · rfl
  · rfl
  · simp only [D.shows, blk, e1]
    split
    · simp [wc]
    · simp [sub, wc]
  · simp only [D.shows, blk, e1, Nat.mul_one]
    rw [if_neg (by rintro (x | x); exact hd x; omega), e2]
/-- Where there is a word the slice is a block's. -/
theorem IsList.at {h : List Blk} {s : S} {vs : List Int} (H : IsList h s vs) {i : Nat} (hi : i < vs.length) : ∃ j o c B, s = .sl (.g j) o vs.length c ∧ h[j]? = some B ∧ B.st ≠ .dead ∧ o + vs.length ≤ B.cells.length ∧ sub B.cells o vs.length = wc vs := by
  rcases H with ⟨_, rfl⟩ | ⟨_, _, _, _, _, _, rfl⟩ | h
  · simp at hi
  · simp at hi
  · exact h
open Classical in
noncomputable def listOf (h : List Blk) (s : S) : Option (List Int) := if hx : ∃ v, IsList h s v then some (Classical.choose hx) else none
theorem listOf_eq {h : List Blk} {s : S} {v : List Int} (H : IsList h s v) : listOf h s = some v := by
  have hx : ∃ v, IsList h s v := ⟨v, H⟩
  unfold listOf
  rw [dif_pos hx, IsList.uniq (Classical.choose_spec hx) H]
theorem listOf_some {h : List Blk} {s : S} {v : List Int} (e : listOf h s = some v) : IsList h s v := by
  unfold listOf at e
  split at e
  · rename_i hx
    have := Classical.choose_spec hx
    rw [Option.some.injEq] at e
    rw [e] at this
    exact this
  · cases e
theorem IsList.get {o n : Nat} {cells : List S} {vs : List Int} (e : sub cells o n = wc vs) {i : Nat} (h : i < vs.length) (hn : vs.length = n) : cells[o + i]? = some (.i .u64 (nth 0 vs i)) := by
  have h1 := congrArg (fun l => l[i]?) e
  simp only [sub, wc_get h] at h1
  rw [List.getElem?_take, if_pos (by omega), List.getElem?_drop] at h1
  exact h1
/-- A whole block. -/
theorem IsList.whole {h : List Blk} {j c room : Nat} {st : BK} {vs : List Int} (hj : h[j]? = some ⟨st, wc vs, room⟩) (hs : st ≠ .dead) : IsList h (.sl (.g j) 0 vs.length c) vs := by
  refine .inr (.inr ⟨j, 0, c, _, rfl, hj, hs, ?_, ?_⟩)
  · simp [wc_len]
  · rw [wc_sub, List.drop_zero, List.take_length]
theorem IsList.app {h X : List Blk} {s : S} {v : List Int} (H : IsList h s v) : IsList (h ++ X) s v := by
  rcases H with ⟨e0, rfl⟩ | ⟨j, o, c, B, rfl, e1, e2⟩ | ⟨j, o, c, B, rfl, e1, e2⟩
  · exact .inl ⟨e0, rfl⟩
  · exact .inr (.inl ⟨j, o, c, B, rfl, by rw [List.getElem?_append_left (List.getElem?_eq_some_iff.1 e1).1]; exact e1, e2⟩)
  · exact .inr (.inr ⟨j, o, c, B, rfl, by rw [List.getElem?_append_left (List.getElem?_eq_some_iff.1 e1).1]; exact e1, e2⟩)

theorem wc_val (n k : Nat) (w : List Int) : (wc w).all (S.val n k) = true := wc_all (fun _ => rfl) w
noncomputable def cloneG : List V → List Blk → Res
  | [.s .ns], h => .ok (.s .ns) [] h
  | [.s (.sl r o n c)], h => match listOf h (.sl r o n c) with
    | some vs => .ob (vs.length ≤ 8796093022208) (.all vs.length fun c => .ok (.s (.sl (.g h.length) 0 vs.length c)) [] (h ++ [⟨.rw, wc vs, c⟩]))
    | none => .bad
  | _, _ => .bad
theorem clone_snd : Snd Try.prog 61 (FSpec.of cloneG) := snd_run (noT_snd _) mixed Try.func61 dc61 100 fun args h K hc hS => by
  unfold cloneG at hS
  split at hS
  · simp only [spec_ok] at hS
    simp (config := { maxSteps := 10000000 }) only [run_drx, run_xd, run_xq, run_xg, run_xb, EV1, EV2, EV3, EV4, EV5, EV6, addT, istep, lenR_sl, lenR_ns, lenR_es, pickR, putD, bin1R, un1R, slcR, bnd, capsOf, fillP, S_plain, V_plain, V.cells, S_known, V_known, C.v, blk, setL, setH, eqS, eq1, cmpS, cmp1, isNil, popTo, killT, setT, leT, V.below, C.below, S_below, R.below, V.val, C.val, S_val, R.val, R.takes, vals, shows, List.any_cons, List.any_nil, unnamed, V.kill, V.names, C.names, S_names, R.names, List.set, List.replicate, ↓q_cond_t, ↓q_cond_f, if_true, if_false, reduceCtorEq, rvals, rvC, result, C_known, V.noL, C.noL, S_noL, R.noL, Option.map, true_and, and_true, ge_iff_le, gt_iff_lt, implies_true, q_ite_t, q_ite_f, beq_iff_eq, bne_iff_ne, q_ne, Nat.reduceAdd, Nat.reducePow, Int.reducePow, Nat.reduceMul, Nat.reduceSub, Nat.reduceLeDiff, Nat.reduceLT, Nat.reduceEqDiff, Int.reduceNeg, Int.reduceLT, Int.reduceLE, Int.reduceEq, Int.reduceNe, Int.reduceAdd, Int.reduceSub, Int.reduceMul, Int.reduceToNat, Int.reduceBEq, Int.reduceBNe, df61]
    exact hS
  · rename_i r o n c
    split at hS
    · rename_i vs hv
      obtain ⟨hl, hS⟩ := hS
      rcases listOf_some hv with ⟨e | ⟨_, _, e⟩, _⟩ | ⟨j, o', c', B, e, hj, rfl⟩ | ⟨j, o', c', B, e, hj, hd, hle, hs⟩
      · cases e
      · cases e
      · simp only [S.sl.injEq] at e
        obtain ⟨rfl, rfl, rfl, rfl⟩ := e
        simp only [spec_all, spec_ok] at hS
        simp (config := { maxSteps := 10000000 }) only [run_drx, run_xd, run_xq, run_xg, run_xb, EV1, EV2, EV3, EV4, EV5, EV6, addT, istep, lenR_sl, lenR_ns, lenR_es, pickR, putD, bin1R, un1R, slcR, bnd, capsOf, fillP, S_plain, V_plain, V.cells, S_known, V_known, C.v, blk, setL, setH, eqS, eq1, cmpS, cmp1, isNil, popTo, killT, setT, leT, V.below, C.below, S_below, R.below, V.val, C.val, S_val, R.val, R.takes, vals, shows, List.any_cons, List.any_nil, unnamed, V.kill, V.names, C.names, S_names, R.names, List.set, List.replicate, ↓q_cond_t, ↓q_cond_f, if_true, if_false, reduceCtorEq, rvals, rvC, result, C_known, V.noL, C.noL, S_noL, R.noL, Option.map, true_and, and_true, ge_iff_le, gt_iff_lt, implies_true, q_ite_t, q_ite_f, beq_iff_eq, bne_iff_ne, q_ne, Nat.reduceAdd, Nat.reducePow, Int.reducePow, Nat.reduceMul, Nat.reduceSub, Nat.reduceLeDiff, Nat.reduceLT, Nat.reduceEqDiff, Int.reduceNeg, Int.reduceLT, Int.reduceLE, Int.reduceEq, Int.reduceNe, Int.reduceAdd, Int.reduceSub, Int.reduceMul, Int.reduceToNat, Int.reduceBEq, Int.reduceBNe, df61, fillP, hj, sub, List.take_zero, ite_self]
        intro c hc1
        refine ⟨[0], by simp, rfl, ?_⟩
        simp only [getAll, List.getElem?_cons_zero]
        refine ⟨rfl, ?_⟩
        have := hS c hc1
        refine cast (congrArg (K _) ?_) this
        simp [Blk.ren, wc]
      · simp only [S.sl.injEq] at e
        obtain ⟨rfl, rfl, rfl, rfl⟩ := e
        have c1 : ¬ (B.st = .dead ∨ B.cells.length < o + vs.length) := by rintro (x | x); exact hd x; omega
        have c2 : vs.length * 8 ≤ 140737488355328 := by omega
        have c3 : vals h.length 1 (wc vs) = true := wc_vals _ _ _
        have c4 : (wc vs).all (fun s => !S.names 0 s) = true := wc_names 0 vs
        have c5 : ¬ B.cells.length < o + vs.length := by omega
        simp only [spec_all, spec_ok] at hS
        simp (config := { maxSteps := 10000000 }) only [run_drx, run_xd, run_xq, run_xg, run_xb, EV1, EV2, EV3, EV4, EV5, EV6, addT, istep, lenR_sl, lenR_ns, lenR_es, pickR, putD, bin1R, un1R, slcR, bnd, capsOf, fillP, S_plain, V_plain, V.cells, S_known, V_known, C.v, blk, setL, setH, eqS, eq1, cmpS, cmp1, isNil, popTo, killT, setT, leT, V.below, C.below, S_below, R.below, V.val, C.val, S_val, R.val, R.takes, vals, shows, List.any_cons, List.any_nil, unnamed, V.kill, V.names, C.names, S_names, R.names, List.set, List.replicate, ↓q_cond_t, ↓q_cond_f, if_true, if_false, reduceCtorEq, rvals, rvC, result, C_known, V.noL, C.noL, S_noL, R.noL, Option.map, true_and, and_true, ge_iff_le, gt_iff_lt, implies_true, q_ite_t, q_ite_f, beq_iff_eq, bne_iff_ne, q_ne, Nat.reduceAdd, Nat.reducePow, Int.reducePow, Nat.reduceMul, Nat.reduceSub, Nat.reduceLeDiff, Nat.reduceLT, Nat.reduceEqDiff, Int.reduceNeg, Int.reduceLT, Int.reduceLE, Int.reduceEq, Int.reduceNe, Int.reduceAdd, Int.reduceSub, Int.reduceMul, Int.reduceToNat, Int.reduceBEq, Int.reduceBNe, df61, fillP, hj, hd, c1, c5, hs, wc_known, c2, wc_val, wc_all]
        intro c hc1
        refine ⟨[0], by simp, rfl, ?_⟩
        simp only [getAll, List.getElem?_cons_zero]
        refine ⟨?_, ?_⟩
        · simp [wc_kept]
        · have := hS c hc1
          refine cast (congrArg (K _) ?_) this
          simp [Blk.ren, wc_ren]
    · exact hS.elim
  · exact hS.elim

noncomputable def dumpM (b : Nat) (m : M) (st : M → List Blk) : List V → Res
  | [.s (.i .i64 x), .s (.i .i64 k)] => .br (m.has x k) (.all k.toNat fun c => .ok (.tup [.s (.sl (.g (st m).length) 0 k.toNat c), .s (.i .i64 0)]) [] (st m ++ [⟨.rw, wc ((m.w.drop x.toNat).take k.toNat), c⟩]))
      (.ok (.tup [.s .ns, .s (.i .i64 20)]) [] (st m))
  | _ => .bad
noncomputable def dumpG := memF dumpM
noncomputable def TDu : Tab := addT 60 spanG (addT 61 cloneG noT)
theorem TDu_snd : TDu.Snd Try.prog := addT_snd ok60 span_snd (addT_snd ok61 clone_snd (noT_snd _))
theorem mdump_snd : Snd Try.prog 26 (FSpec.of dumpG) := snd_run TDu_snd mixed Try.func26 dc26 100 fun args h K hc hS => by
  obtain ⟨a, b, m, rest, rfl, H, hS1⟩ := memF_spec hS
  clear hS
  have hS := hS1
  clear hS1
  unfold dumpM at hS
  split at hS
  · rename_i x k
    simp only [spec_ok, spec_br, spec_all, setM_self H] at hS
    have hl := m.l
    cases hh : m.has x k with
    | true =>
      have hS := hS.1 hh
      obtain ⟨i, j, rfl, rfl, hij⟩ := M.has_nat hh
      simp only [Int.toNat_natCast] at hS
      have hvl : ((m.w.drop i).take j).length = j := by simp; omega
      have hL : IsList h (.sl (.g b) (if m.w.length = i then 0 else i) j (m.w.length - i)) ((m.w.drop i).take j) := by
        refine .inr (.inr ⟨b, _, _, MW m, by rw [hvl], H.hb, fun x => BK.noConfusion x, ?_, ?_⟩)
        · rw [hvl]; simp only [MW, wc_len]; split <;> omega
        · rw [hvl]; simp only [MW]; rw [wc_sub]
          split
          · have : j = 0 := by omega
            subst this; simp
          · rfl
      have hB : j ≤ 8796093022208 := by omega
      simp (config := { maxSteps := 10000000 }) only [run_drx, run_xd, run_xq, run_xg, run_xb, EV1, EV2, EV3, EV4, EV5, EV6, addT, istep, lenR_sl, lenR_ns, lenR_es, pickR, putD, bin1R, un1R, slcR, bnd, capsOf, fillP, S_plain, V_plain, V.cells, S_known, V_known, C.v, blk, setL, setH, eqS, eq1, cmpS, cmp1, isNil, popTo, killT, setT, leT, V.below, C.below, S_below, R.below, V.val, C.val, S_val, R.val, R.takes, vals, shows, List.any_cons, List.any_nil, unnamed, V.kill, V.names, C.names, S_names, R.names, List.set, List.replicate, ↓q_cond_t, ↓q_cond_f, if_true, if_false, reduceCtorEq, rvals, rvC, result, C_known, V.noL, C.noL, S_noL, R.noL, Option.map, true_and, and_true, ge_iff_le, gt_iff_lt, implies_true, q_ite_t, q_ite_f, beq_iff_eq, bne_iff_ne, q_ne, Nat.reduceAdd, Nat.reducePow, Int.reducePow, Nat.reduceMul, Nat.reduceSub, Nat.reduceLeDiff, Nat.reduceLT, Nat.reduceEqDiff, Int.reduceNeg, Int.reduceLT, Int.reduceLE, Int.reduceEq, Int.reduceNe, Int.reduceAdd, Int.reduceSub, Int.reduceMul, Int.reduceToNat, Int.reduceBEq, Int.reduceBNe, df26, TDu, spanG, memF_eq H, spanM, setM_self H, hh, cloneG, listOf_eq hL, hvl, hB, Int.toNat_natCast]
      exact hS
    | false =>
      have hS := hS.2 hh
      simp (config := { maxSteps := 10000000 }) only [run_drx, run_xd, run_xq, run_xg, run_xb, EV1, EV2, EV3, EV4, EV5, EV6, addT, istep, lenR_sl, lenR_ns, lenR_es, pickR, putD, bin1R, un1R, slcR, bnd, capsOf, fillP, S_plain, V_plain, V.cells, S_known, V_known, C.v, blk, setL, setH, eqS, eq1, cmpS, cmp1, isNil, popTo, killT, setT, leT, V.below, C.below, S_below, R.below, V.val, C.val, S_val, R.val, R.takes, vals, shows, List.any_cons, List.any_nil, unnamed, V.kill, V.names, C.names, S_names, R.names, List.set, List.replicate, ↓q_cond_t, ↓q_cond_f, if_true, if_false, reduceCtorEq, rvals, rvC, result, C_known, V.noL, C.noL, S_noL, R.noL, Option.map, true_and, and_true, ge_iff_le, gt_iff_lt, implies_true, q_ite_t, q_ite_f, beq_iff_eq, bne_iff_ne, q_ne, Nat.reduceAdd, Nat.reducePow, Int.reducePow, Nat.reduceMul, Nat.reduceSub, Nat.reduceLeDiff, Nat.reduceLT, Nat.reduceEqDiff, Int.reduceNeg, Int.reduceLT, Int.reduceLE, Int.reduceEq, Int.reduceNe, Int.reduceAdd, Int.reduceSub, Int.reduceMul, Int.reduceToNat, Int.reduceBEq, Int.reduceBNe, df26, TDu, spanG, memF_eq H, spanM, setM_self H, hh]
      exact hS
  · exact hS.elim

/-- The slice is none of the memory's words. -/
def apartS (b : Nat) : S → Prop
  | .sl (.g j) _ _ _ => j ≠ b
  | _ => True
noncomputable def loadG : List V → List Blk → Res
  | [.s (.p (.g a) 0), .s (.i .i64 x), .s s], h => match memOf h a, listOf h s with
    | some (b, m), some vs => .ob (apartS b s ∧ ∀ v, v ∈ vs → u64 v) (.br (m.has x vs.length) (.ok (.s (.i .i64 0)) [] (setM h a b (m.lay x.toNat vs))) (.ok (.s (.i .i64 20)) [] h))
    | _, _ => .bad
  | _, _ => .bad
theorem loadG_spec {args : List V} {h : List Blk} {K : V → List Blk → Prop} (hS : (loadG args h).spec K) : ∃ a x s b m vs, args = [.s (.p (.g a) 0), .s (.i .i64 x), .s s] ∧ IsMem h a b m ∧ IsList h s vs ∧ apartS b s ∧ (∀ v, v ∈ vs → u64 v) ∧
    (m.has x vs.length = true → K (.s (.i .i64 0)) (setM h a b (m.lay x.toNat vs))) ∧ (m.has x vs.length = false → K (.s (.i .i64 20)) h) := by
  unfold loadG at hS
  split at hS
  · split at hS
    · rename_i e1 e2
      exact ⟨_, _, _, _, _, _, rfl, memOf_some e1, listOf_some e2, hS.1.1, hS.1.2, hS.2.1, hS.2.2⟩
    · exact hS.elim
  · exact hS.elim
theorem mload_snd : Snd Try.prog 54 (FSpec.of loadG) := snd_run TSp_snd mixed Try.func54 dc54 100 fun args h K hc hS => by
  obtain ⟨a, x, s, b, m, vs, rfl, H, HL, hap, hu, q1, q2⟩ := loadG_spec hS
  clear hS
  have hl := m.l
  have hlen := fun ls h' => HL.sl.len (ls := ls) (h := h')
  have hsh := fun ls => HL.shows ls
  cases hh : m.has x vs.length with
  | true =>
    have hS := q1 hh
    obtain ⟨i, n, rfl, e, hij⟩ := M.has_nat hh
    have e : vs.length = n := by omega
    simp only [Int.toNat_natCast] at hS
    have hcl : (wc m.w).length = m.w.length := wc_len _
    obtain ⟨o', ho, hoi⟩ : ∃ o' : Nat, (if m.w.length = i then 0 else i) = o' ∧ (i < m.w.length → o' = i) := ⟨_, rfl, fun hlt => if_neg (by omega)⟩
    have c2 : o' + vs.length ≤ m.w.length := by rw [← ho]; split <;> omega
    have hsub : sub (wc vs) 0 vs.length = wc vs := by rw [wc_sub, List.drop_zero, List.take_length]
    have hmin : min vs.length vs.length = vs.length := Nat.min_self _
    have hlay : D.put (wc m.w) o' (wc vs) = wc (m.lay i vs).w := by
      rcases Nat.eq_zero_or_pos vs.length with h0 | h0
      · have : vs = [] := List.eq_nil_of_length_eq_zero h0
        subst this; rfl
      · rw [hoi (by omega)]; exact M.lay_w vs m i hu
    have hset := setM_words H (M.lay_len vs m i) (M.lay_n vs m i)
    rw [← hset] at hS
    simp only [MW, M.lay_len] at hS
    have ht : (wc vs).all (R.takes (R.g b) h.length 0) = true := wc_takes _ _ _ _
    simp (config := { maxSteps := 10000000 }) only [run_drx, run_xd, run_xq, run_xg, run_xb, EV1, EV2, EV3, EV4, EV5, EV6, addT, istep, lenR_sl, lenR_ns, lenR_es, pickR, putD, bin1R, un1R, slcR, bnd, capsOf, fillP, S_plain, V_plain, V.cells, S_known, V_known, C.v, blk, setL, setH, eqS, eq1, cmpS, cmp1, isNil, popTo, killT, setT, leT, V.below, C.below, S_below, R.below, V.val, C.val, S_val, R.val, R.takes, vals, shows, List.any_cons, List.any_nil, unnamed, V.kill, V.names, C.names, S_names, R.names, List.set, List.replicate, ↓q_cond_t, ↓q_cond_f, if_true, if_false, reduceCtorEq, rvals, rvC, result, C_known, V.noL, C.noL, S_noL, R.noL, Option.map, true_and, and_true, ge_iff_le, gt_iff_lt, implies_true, q_ite_t, q_ite_f, beq_iff_eq, bne_iff_ne, q_ne, Nat.reduceAdd, Nat.reducePow, Int.reducePow, Nat.reduceMul, Nat.reduceSub, Nat.reduceLeDiff, Nat.reduceLT, Nat.reduceEqDiff, Int.reduceNeg, Int.reduceLT, Int.reduceLE, Int.reduceEq, Int.reduceNe, Int.reduceAdd, Int.reduceSub, Int.reduceMul, Int.reduceToNat, Int.reduceBEq, Int.reduceBNe, df54, ↓hlen, ↓hsh, TSp, spanG, memF_eq H, spanM, setM_self H, hh, H.hb, MW, hcl, ho, c2, hsub, hmin, hlay, wc_known, wc_takes, wc_all, Int.toNat_natCast]
    exact hS
  | false =>
    have hS := q2 hh
    simp (config := { maxSteps := 10000000 }) only [run_drx, run_xd, run_xq, run_xg, run_xb, EV1, EV2, EV3, EV4, EV5, EV6, addT, istep, lenR_sl, lenR_ns, lenR_es, pickR, putD, bin1R, un1R, slcR, bnd, capsOf, fillP, S_plain, V_plain, V.cells, S_known, V_known, C.v, blk, setL, setH, eqS, eq1, cmpS, cmp1, isNil, popTo, killT, setT, leT, V.below, C.below, S_below, R.below, V.val, C.val, S_val, R.val, R.takes, vals, shows, List.any_cons, List.any_nil, unnamed, V.kill, V.names, C.names, S_names, R.names, List.set, List.replicate, ↓q_cond_t, ↓q_cond_f, if_true, if_false, reduceCtorEq, rvals, rvC, result, C_known, V.noL, C.noL, S_noL, R.noL, Option.map, true_and, and_true, ge_iff_le, gt_iff_lt, implies_true, q_ite_t, q_ite_f, beq_iff_eq, bne_iff_ne, q_ne, Nat.reduceAdd, Nat.reducePow, Int.reducePow, Nat.reduceMul, Nat.reduceSub, Nat.reduceLeDiff, Nat.reduceLT, Nat.reduceEqDiff, Int.reduceNeg, Int.reduceLT, Int.reduceLE, Int.reduceEq, Int.reduceNe, Int.reduceAdd, Int.reduceSub, Int.reduceMul, Int.reduceToNat, Int.reduceBEq, Int.reduceBNe, df54, ↓hlen, TSp, spanG, memF_eq H, spanM, setM_self H, hh]
    exact hS
end Go.Proofs.Ytdlloccodmdnnaa

/- Lists of words: the document's Load, Same. -/
namespace Go.Proofs.Ytdlloccodmdnnaa
open Go.D
set_option linter.all false
set_option maxRecDepth 100000
set_option maxHeartbeats 4000000

theorem take_snoc {vs : List Int} {q : Nat} (h : q < vs.length) : vs.take (q + 1) = vs.take q ++ [nth 0 vs q] := by
  rw [List.take_succ_eq_append_getElem h, nth_eq h]
theorem rload_snd : Snd Try.prog 68 (FSpec.of loadG) := snd_run TSp_snd mixed Try.func68 dc68 100 fun args h K hc hS => by
  obtain ⟨a, x, s, b, m, vs, rfl, H, HL, hap, hu, q1, q2⟩ := loadG_spec hS
  clear hS
  have hl := m.l
  have hlen := fun ls h' => HL.sl.len (ls := ls) (h := h')
  cases hh : m.has x vs.length with
  | true =>
    have hS := q1 hh
    obtain ⟨i, n, rfl, e, hij⟩ := M.has_nat hh
    have e : vs.length = n := by omega
    simp only [Int.toNat_natCast] at hS
    simp (config := { maxSteps := 10000000 }) only [run_drx, run_xd, run_xq, run_xg, run_xb, EV1, EV2, EV3, EV4, EV5, EV6, addT, istep, lenR_sl, lenR_ns, lenR_es, pickR, putD, bin1R, un1R, slcR, bnd, capsOf, fillP, S_plain, V_plain, V.cells, S_known, V_known, C.v, blk, setL, setH, eqS, eq1, cmpS, cmp1, isNil, popTo, killT, setT, leT, V.below, C.below, S_below, R.below, V.val, C.val, S_val, R.val, R.takes, vals, shows, List.any_cons, List.any_nil, unnamed, V.kill, V.names, C.names, S_names, R.names, List.set, List.replicate, ↓q_cond_t, ↓q_cond_f, if_true, if_false, reduceCtorEq, rvals, rvC, result, C_known, V.noL, C.noL, S_noL, R.noL, Option.map, true_and, and_true, ge_iff_le, gt_iff_lt, implies_true, q_ite_t, q_ite_f, beq_iff_eq, bne_iff_ne, q_ne, Nat.reduceAdd, Nat.reducePow, Int.reducePow, Nat.reduceMul, Nat.reduceSub, Nat.reduceLeDiff, Nat.reduceLT, Nat.reduceEqDiff, Int.reduceNeg, Int.reduceLT, Int.reduceLE, Int.reduceEq, Int.reduceNe, Int.reduceAdd, Int.reduceSub, Int.reduceMul, Int.reduceToNat, Int.reduceBEq, Int.reduceBNe, df68, ↓hlen, TSp, thereG, memF_eq H, thereM, setM_self H, hh]
    refine loop_rule (α := Nat) [8, 16, 17, 18, 19, 20, 21, 22, 23, 24, 25, 26, 27, 28, 29, 30, 31, 32, 33] (fun q => [(8, .s (.i .i64 q))]) (fun _ => []) (fun q => h.set b ⟨.rw, wc (m.lay i (vs.take q)).w, m.w.length⟩) (fun q => q ≤ vs.length) (fun q => vs.length - q) 0 (by omega) ?_ ?_
    · simp only [List.take_zero, M.lay]
      rw [show (⟨.rw, wc m.w, m.w.length⟩ : Blk) = MW m from rfl, set_self H.hb]
      refine Wk.less ?_
      simp (config := { maxSteps := 10000000 }) only [run_drx, run_xd, run_xq, run_xg, run_xb, EV1, EV2, EV3, EV4, EV5, EV6, addT, istep, lenR_sl, lenR_ns, lenR_es, pickR, putD, bin1R, un1R, slcR, bnd, capsOf, fillP, S_plain, V_plain, V.cells, S_known, V_known, C.v, blk, setL, setH, eqS, eq1, cmpS, cmp1, isNil, popTo, killT, setT, leT, V.below, C.below, S_below, R.below, V.val, C.val, S_val, R.val, R.takes, vals, shows, List.any_cons, List.any_nil, unnamed, V.kill, V.names, C.names, S_names, R.names, List.set, List.replicate, ↓q_cond_t, ↓q_cond_f, if_true, if_false, reduceCtorEq, rvals, rvC, result, C_known, V.noL, C.noL, S_noL, R.noL, Option.map, true_and, and_true, ge_iff_le, gt_iff_lt, implies_true, q_ite_t, q_ite_f, beq_iff_eq, bne_iff_ne, q_ne, Nat.reduceAdd, Nat.reducePow, Int.reducePow, Nat.reduceMul, Nat.reduceSub, Nat.reduceLeDiff, Nat.reduceLT, Nat.reduceEqDiff, Int.reduceNeg, Int.reduceLT, Int.reduceLE, Int.reduceEq, Int.reduceNe, Int.reduceAdd, Int.reduceSub, Int.reduceMul, Int.reduceToNat, Int.reduceBEq, Int.reduceBNe, q_cast, Int.natCast_zero]
    · intro X q hq IH
      rcases Nat.lt_or_ge q vs.length with h1 | h1
      · obtain ⟨j, o, c, B, rfl, hj, hd, hle, hs⟩ := HL.at h1
        have hap : j ≠ b := hap
        obtain ⟨d1, d2, d3, d4⟩ := idx h1 (by omega)
        have c3 : (h.set b ⟨BK.rw, wc (m.lay i (vs.take q)).w, m.w.length⟩)[b]? = some ⟨BK.rw, wc (m.lay i (vs.take q)).w, m.w.length⟩ := set_hit H.hb
        have c4 : i + q + 1 ≤ (wc (m.lay i (vs.take q)).w).length := by rw [wc_len, M.lay_len]; omega
        have g := IsList.get hs h1 rfl
        have hv : u64 (nth 0 vs q) := hu _ (nth_mem h1)
        have c5 : ((wc (m.lay i (vs.take q)).w).set (i + q) (S.i .u64 (nth 0 vs q))) = wc (m.lay i (vs.take (q + 1))).w := by
          rw [wc_set, take_snoc h1, M.lay_snoc, show (vs.take q).length = q by simp; omega]; simp only [M.put, uw_of hv]
        have hjm : (h.set b ⟨BK.rw, wc (m.lay i (vs.take q)).w, m.w.length⟩)[j]? = some B := by rw [set_miss (Ne.symm hap)]; exact hj
        have ha := H.ha'
        have w1 : IntKind.i64.wrap ((i : Int) + q) = ((i + q : Nat) : Int) := by rw [wrap64] <;> omega
        have d5 : ((i + q : Nat) : Int) < m.w.length := by omega
        have d6 : (0 : Int) ≤ ((i + q : Nat) : Int) := by omega
        refine run_sound (Tab.ok_Γ _) 100 _ _ _ _ ?_
        simp (config := { maxSteps := 10000000 }) only [run_drx, run_xd, run_xq, run_xg, run_xb, EV1, EV2, EV3, EV4, EV5, EV6, addT, istep, lenR_sl, lenR_ns, lenR_es, pickR, putD, bin1R, un1R, slcR, bnd, capsOf, fillP, S_plain, V_plain, V.cells, S_known, V_known, C.v, blk, setL, setH, eqS, eq1, cmpS, cmp1, isNil, popTo, killT, setT, leT, V.below, C.below, S_below, R.below, V.val, C.val, S_val, R.val, R.takes, vals, shows, List.any_cons, List.any_nil, unnamed, V.kill, V.names, C.names, S_names, R.names, List.set, List.replicate, ↓q_cond_t, ↓q_cond_f, if_true, if_false, reduceCtorEq, rvals, rvC, result, C_known, V.noL, C.noL, S_noL, R.noL, Option.map, true_and, and_true, ge_iff_le, gt_iff_lt, implies_true, q_ite_t, q_ite_f, beq_iff_eq, bne_iff_ne, q_ne, Nat.reduceAdd, Nat.reducePow, Int.reducePow, Nat.reduceMul, Nat.reduceSub, Nat.reduceLeDiff, Nat.reduceLT, Nat.reduceEqDiff, Int.reduceNeg, Int.reduceLT, Int.reduceLE, Int.reduceEq, Int.reduceNe, Int.reduceAdd, Int.reduceSub, Int.reduceMul, Int.reduceToNat, Int.reduceBEq, Int.reduceBNe, d1, d2, d3, d4, d5, d6, w1, c3, ha, MB, hjm, hd, g, c4, Int.toNat_natCast, put, c5, List.set_set]
        exact IH (q + 1) _ (by omega) (by omega) (Wk.same rfl rfl (by simp (config := { maxSteps := 10000000 }) only [run_drx, run_xd, run_xq, run_xg, run_xb, EV1, EV2, EV3, EV4, EV5, EV6, addT, istep, lenR_sl, lenR_ns, lenR_es, pickR, putD, bin1R, un1R, slcR, bnd, capsOf, fillP, S_plain, V_plain, V.cells, S_known, V_known, C.v, blk, setL, setH, eqS, eq1, cmpS, cmp1, isNil, popTo, killT, setT, leT, V.below, C.below, S_below, R.below, V.val, C.val, S_val, R.val, R.takes, vals, shows, List.any_cons, List.any_nil, unnamed, V.kill, V.names, C.names, S_names, R.names, List.set, List.replicate, ↓q_cond_t, ↓q_cond_f, if_true, if_false, reduceCtorEq, rvals, rvC, result, C_known, V.noL, C.noL, S_noL, R.noL, Option.map, true_and, and_true, ge_iff_le, gt_iff_lt, implies_true, q_ite_t, q_ite_f, beq_iff_eq, bne_iff_ne, q_ne, Nat.reduceAdd, Nat.reducePow, Int.reducePow, Nat.reduceMul, Nat.reduceSub, Nat.reduceLeDiff, Nat.reduceLT, Nat.reduceEqDiff, Int.reduceNeg, Int.reduceLT, Int.reduceLE, Int.reduceEq, Int.reduceNe, Int.reduceAdd, Int.reduceSub, Int.reduceMul, Int.reduceToNat, Int.reduceBEq, Int.reduceBNe]))
      · have : q = vs.length := by omega
        subst this
        refine run_sound (Tab.ok_Γ _) 100 _ _ _ _ ?_
        simp (config := { maxSteps := 10000000 }) only [run_drx, run_xd, run_xq, run_xg, run_xb, EV1, EV2, EV3, EV4, EV5, EV6, addT, istep, lenR_sl, lenR_ns, lenR_es, pickR, putD, bin1R, un1R, slcR, bnd, capsOf, fillP, S_plain, V_plain, V.cells, S_known, V_known, C.v, blk, setL, setH, eqS, eq1, cmpS, cmp1, isNil, popTo, killT, setT, leT, V.below, C.below, S_below, R.below, V.val, C.val, S_val, R.val, R.takes, vals, shows, List.any_cons, List.any_nil, unnamed, V.kill, V.names, C.names, S_names, R.names, List.set, List.replicate, ↓q_cond_t, ↓q_cond_f, if_true, if_false, reduceCtorEq, rvals, rvC, result, C_known, V.noL, C.noL, S_noL, R.noL, Option.map, true_and, and_true, ge_iff_le, gt_iff_lt, implies_true, q_ite_t, q_ite_f, beq_iff_eq, bne_iff_ne, q_ne, Nat.reduceAdd, Nat.reducePow, Int.reducePow, Nat.reduceMul, Nat.reduceSub, Nat.reduceLeDiff, Nat.reduceLT, Nat.reduceEqDiff, Int.reduceNeg, Int.reduceLT, Int.reduceLE, Int.reduceEq, Int.reduceNe, Int.reduceAdd, Int.reduceSub, Int.reduceMul, Int.reduceToNat, Int.reduceBEq, Int.reduceBNe, ↓hlen, Int.lt_irrefl]
        refine cast (congrArg (K _) ?_) hS
        rw [List.take_length, ← setM_words H (M.lay_len vs m i) (M.lay_n vs m i)]
        simp only [MW, M.lay_len]
  | false =>
    have hS := q2 hh
    simp (config := { maxSteps := 10000000 }) only [run_drx, run_xd, run_xq, run_xg, run_xb, EV1, EV2, EV3, EV4, EV5, EV6, addT, istep, lenR_sl, lenR_ns, lenR_es, pickR, putD, bin1R, un1R, slcR, bnd, capsOf, fillP, S_plain, V_plain, V.cells, S_known, V_known, C.v, blk, setL, setH, eqS, eq1, cmpS, cmp1, isNil, popTo, killT, setT, leT, V.below, C.below, S_below, R.below, V.val, C.val, S_val, R.val, R.takes, vals, shows, List.any_cons, List.any_nil, unnamed, V.kill, V.names, C.names, S_names, R.names, List.set, List.replicate, ↓q_cond_t, ↓q_cond_f, if_true, if_false, reduceCtorEq, rvals, rvC, result, C_known, V.noL, C.noL, S_noL, R.noL, Option.map, true_and, and_true, ge_iff_le, gt_iff_lt, implies_true, q_ite_t, q_ite_f, beq_iff_eq, bne_iff_ne, q_ne, Nat.reduceAdd, Nat.reducePow, Int.reducePow, Nat.reduceMul, Nat.reduceSub, Nat.reduceLeDiff, Nat.reduceLT, Nat.reduceEqDiff, Int.reduceNeg, Int.reduceLT, Int.reduceLE, Int.reduceEq, Int.reduceNe, Int.reduceAdd, Int.reduceSub, Int.reduceMul, Int.reduceToNat, Int.reduceBEq, Int.reduceBNe, df68, ↓hlen, TSp, thereG, memF_eq H, thereM, setM_self H, hh]
    exact hS

noncomputable def sameWG : List V → List Blk → Res
  | [.s x, .s y], h => match listOf h x, listOf h y with
    | some v, some w => .ob (v.length ≤ 8796093022208 ∧ w.length ≤ 8796093022208) (.ok (.s (.b (decide (v = w)))) [] h)
    | _, _ => .bad
  | _, _ => .bad
theorem sameWG_spec {args : List V} {h : List Blk} {K : V → List Blk → Prop} (hS : (sameWG args h).spec K) : ∃ x y v w, args = [.s x, .s y] ∧ IsList h x v ∧ IsList h y w ∧ v.length ≤ 8796093022208 ∧ w.length ≤ 8796093022208 ∧ K (.s (.b (decide (v = w)))) h := by
  unfold sameWG at hS
  split at hS
  · split at hS
    · rename_i e1 e2
      exact ⟨_, _, _, _, rfl, listOf_some e1, listOf_some e2, hS.1.1, hS.1.2, hS.2⟩
    · exact hS.elim
  · exact hS.elim
theorem take_ne {v w : List Int} {q : Nat} (h : q < v.length) (h' : q < w.length) (e : ¬ nth 0 v q = nth 0 w q) : v ≠ w := fun x => by subst x; exact e rfl
theorem eq_of_nth {v w : List Int} (hl : v.length = w.length) (h : ∀ i, i < v.length → nth 0 v i = nth 0 w i) : v = w :=
  List.ext_getElem hl fun i h1 h2 => by have := h i h1; rwa [nth_eq h1, nth_eq h2] at this
theorem sameW_snd : Snd Try.prog 27 (FSpec.of sameWG) := snd_run (noT_snd _) mixed Try.func27 dc27 100 fun args h K hc hS => by
  obtain ⟨x, y, v, w, rfl, Hx, Hy, lx, ly, hK⟩ := sameWG_spec hS
  clear hS
  have hlx := fun ls h' => Hx.sl.len (ls := ls) (h := h')
  have hly := fun ls h' => Hy.sl.len (ls := ls) (h := h')
  by_cases hn : v.length = w.length
  · have e2 : ((v.length : Int) != (w.length : Int)) = false := by rw [hn]; simp
    simp (config := { maxSteps := 10000000 }) only [run_drx, run_xd, run_xq, run_xg, run_xb, EV1, EV2, EV3, EV4, EV5, EV6, addT, istep, lenR_sl, lenR_ns, lenR_es, pickR, putD, bin1R, un1R, slcR, bnd, capsOf, fillP, S_plain, V_plain, V.cells, S_known, V_known, C.v, blk, setL, setH, eqS, eq1, cmpS, cmp1, isNil, popTo, killT, setT, leT, V.below, C.below, S_below, R.below, V.val, C.val, S_val, R.val, R.takes, vals, shows, List.any_cons, List.any_nil, unnamed, V.kill, V.names, C.names, S_names, R.names, List.set, List.replicate, ↓q_cond_t, ↓q_cond_f, if_true, if_false, reduceCtorEq, rvals, rvC, result, C_known, V.noL, C.noL, S_noL, R.noL, Option.map, true_and, and_true, ge_iff_le, gt_iff_lt, implies_true, q_ite_t, q_ite_f, beq_iff_eq, bne_iff_ne, q_ne, Nat.reduceAdd, Nat.reducePow, Int.reducePow, Nat.reduceMul, Nat.reduceSub, Nat.reduceLeDiff, Nat.reduceLT, Nat.reduceEqDiff, Int.reduceNeg, Int.reduceLT, Int.reduceLE, Int.reduceEq, Int.reduceNe, Int.reduceAdd, Int.reduceSub, Int.reduceMul, Int.reduceToNat, Int.reduceBEq, Int.reduceBNe, df27, ↓hlx, ↓hly, e2]
    refine loop_rule (α := Nat) [4, 5, 11, 12, 13, 14, 15, 16, 17, 18, 19, 20, 21, 22, 23, 24, 25] (fun q => [(5, .s (.i .i64 q))]) (fun _ => []) (fun q => h) (fun q => q ≤ v.length ∧ ∀ i, i < q → nth 0 v i = nth 0 w i) (fun q => v.length - q) 0 ⟨by omega, fun i hi => by omega⟩ ?_ ?_
    · refine Wk.less ?_
      simp (config := { maxSteps := 10000000 }) only [run_drx, run_xd, run_xq, run_xg, run_xb, EV1, EV2, EV3, EV4, EV5, EV6, addT, istep, lenR_sl, lenR_ns, lenR_es, pickR, putD, bin1R, un1R, slcR, bnd, capsOf, fillP, S_plain, V_plain, V.cells, S_known, V_known, C.v, blk, setL, setH, eqS, eq1, cmpS, cmp1, isNil, popTo, killT, setT, leT, V.below, C.below, S_below, R.below, V.val, C.val, S_val, R.val, R.takes, vals, shows, List.any_cons, List.any_nil, unnamed, V.kill, V.names, C.names, S_names, R.names, List.set, List.replicate, ↓q_cond_t, ↓q_cond_f, if_true, if_false, reduceCtorEq, rvals, rvC, result, C_known, V.noL, C.noL, S_noL, R.noL, Option.map, true_and, and_true, ge_iff_le, gt_iff_lt, implies_true, q_ite_t, q_ite_f, beq_iff_eq, bne_iff_ne, q_ne, Nat.reduceAdd, Nat.reducePow, Int.reducePow, Nat.reduceMul, Nat.reduceSub, Nat.reduceLeDiff, Nat.reduceLT, Nat.reduceEqDiff, Int.reduceNeg, Int.reduceLT, Int.reduceLE, Int.reduceEq, Int.reduceNe, Int.reduceAdd, Int.reduceSub, Int.reduceMul, Int.reduceToNat, Int.reduceBEq, Int.reduceBNe, q_cast, Int.natCast_zero]
    · rintro X q ⟨hq, hpre⟩ IH
      rcases Nat.lt_or_ge q v.length with h1 | h1
      · obtain ⟨j, o, c, B, rfl, hj, hd, hle, hs⟩ := Hx.at h1
        obtain ⟨j2, o2, c2, B2, rfl, hj2, hd2, hle2, hs2⟩ := Hy.at (i := q) (by omega)
        obtain ⟨d1, d2, d3, d4⟩ := idx h1 (by omega)
        have d5 : (q : Int) < w.length := by omega
        have g1 := IsList.get hs h1 rfl
        have g2 := IsList.get hs2 (i := q) (by omega) rfl
        by_cases hx : nth 0 v q = nth 0 w q
        · have f1 : (nth 0 v q != nth 0 w q) = false := by simpa using hx
          refine run_sound (Tab.ok_Γ _) 100 _ _ _ _ ?_
          simp (config := { maxSteps := 10000000 }) only [run_drx, run_xd, run_xq, run_xg, run_xb, EV1, EV2, EV3, EV4, EV5, EV6, addT, istep, lenR_sl, lenR_ns, lenR_es, pickR, putD, bin1R, un1R, slcR, bnd, capsOf, fillP, S_plain, V_plain, V.cells, S_known, V_known, C.v, blk, setL, setH, eqS, eq1, cmpS, cmp1, isNil, popTo, killT, setT, leT, V.below, C.below, S_below, R.below, V.val, C.val, S_val, R.val, R.takes, vals, shows, List.any_cons, List.any_nil, unnamed, V.kill, V.names, C.names, S_names, R.names, List.set, List.replicate, ↓q_cond_t, ↓q_cond_f, if_true, if_false, reduceCtorEq, rvals, rvC, result, C_known, V.noL, C.noL, S_noL, R.noL, Option.map, true_and, and_true, ge_iff_le, gt_iff_lt, implies_true, q_ite_t, q_ite_f, beq_iff_eq, bne_iff_ne, q_ne, Nat.reduceAdd, Nat.reducePow, Int.reducePow, Nat.reduceMul, Nat.reduceSub, Nat.reduceLeDiff, Nat.reduceLT, Nat.reduceEqDiff, Int.reduceNeg, Int.reduceLT, Int.reduceLE, Int.reduceEq, Int.reduceNe, Int.reduceAdd, Int.reduceSub, Int.reduceMul, Int.reduceToNat, Int.reduceBEq, Int.reduceBNe, d1, d2, d3, d4, d5, g1, g2, hj, hj2, hd, hd2, f1, hx, Int.toNat_natCast]
          exact IH (q + 1) _ (by omega) ⟨by omega, fun i hi => by
            rcases Nat.lt_or_ge i q with h2 | h2
            · exact hpre i h2
            · have : i = q := by omega
              subst this; exact hx⟩ (Wk.same rfl rfl (by simp (config := { maxSteps := 10000000 }) only [run_drx, run_xd, run_xq, run_xg, run_xb, EV1, EV2, EV3, EV4, EV5, EV6, addT, istep, lenR_sl, lenR_ns, lenR_es, pickR, putD, bin1R, un1R, slcR, bnd, capsOf, fillP, S_plain, V_plain, V.cells, S_known, V_known, C.v, blk, setL, setH, eqS, eq1, cmpS, cmp1, isNil, popTo, killT, setT, leT, V.below, C.below, S_below, R.below, V.val, C.val, S_val, R.val, R.takes, vals, shows, List.any_cons, List.any_nil, unnamed, V.kill, V.names, C.names, S_names, R.names, List.set, List.replicate, ↓q_cond_t, ↓q_cond_f, if_true, if_false, reduceCtorEq, rvals, rvC, result, C_known, V.noL, C.noL, S_noL, R.noL, Option.map, true_and, and_true, ge_iff_le, gt_iff_lt, implies_true, q_ite_t, q_ite_f, beq_iff_eq, bne_iff_ne, q_ne, Nat.reduceAdd, Nat.reducePow, Int.reducePow, Nat.reduceMul, Nat.reduceSub, Nat.reduceLeDiff, Nat.reduceLT, Nat.reduceEqDiff, Int.reduceNeg, Int.reduceLT, Int.reduceLE, Int.reduceEq, Int.reduceNe, Int.reduceAdd, Int.reduceSub, Int.reduceMul, Int.reduceToNat, Int.reduceBEq, Int.reduceBNe]))
        · have f1 : (nth 0 v q != nth 0 w q) = true := by simpa using hx
          have e1 := take_ne h1 (by omega) hx
          simp only [e1, decide_false] at hK
          refine run_sound (Tab.ok_Γ _) 100 _ _ _ _ ?_
          simp (config := { maxSteps := 10000000 }) only [run_drx, run_xd, run_xq, run_xg, run_xb, EV1, EV2, EV3, EV4, EV5, EV6, addT, istep, lenR_sl, lenR_ns, lenR_es, pickR, putD, bin1R, un1R, slcR, bnd, capsOf, fillP, S_plain, V_plain, V.cells, S_known, V_known, C.v, blk, setL, setH, eqS, eq1, cmpS, cmp1, isNil, popTo, killT, setT, leT, V.below, C.below, S_below, R.below, V.val, C.val, S_val, R.val, R.takes, vals, shows, List.any_cons, List.any_nil, unnamed, V.kill, V.names, C.names, S_names, R.names, List.set, List.replicate, ↓q_cond_t, ↓q_cond_f, if_true, if_false, reduceCtorEq, rvals, rvC, result, C_known, V.noL, C.noL, S_noL, R.noL, Option.map, true_and, and_true, ge_iff_le, gt_iff_lt, implies_true, q_ite_t, q_ite_f, beq_iff_eq, bne_iff_ne, q_ne, Nat.reduceAdd, Nat.reducePow, Int.reducePow, Nat.reduceMul, Nat.reduceSub, Nat.reduceLeDiff, Nat.reduceLT, Nat.reduceEqDiff, Int.reduceNeg, Int.reduceLT, Int.reduceLE, Int.reduceEq, Int.reduceNe, Int.reduceAdd, Int.reduceSub, Int.reduceMul, Int.reduceToNat, Int.reduceBEq, Int.reduceBNe, d1, d2, d3, d4, d5, g1, g2, hj, hj2, hd, hd2, f1, hx, Int.toNat_natCast]
          exact hK
      · have : q = v.length := by omega
        subst this
        have e1 := eq_of_nth hn hpre
        simp only [e1, decide_true] at hK
        refine run_sound (Tab.ok_Γ _) 100 _ _ _ _ ?_
        simp (config := { maxSteps := 10000000 }) only [run_drx, run_xd, run_xq, run_xg, run_xb, EV1, EV2, EV3, EV4, EV5, EV6, addT, istep, lenR_sl, lenR_ns, lenR_es, pickR, putD, bin1R, un1R, slcR, bnd, capsOf, fillP, S_plain, V_plain, V.cells, S_known, V_known, C.v, blk, setL, setH, eqS, eq1, cmpS, cmp1, isNil, popTo, killT, setT, leT, V.below, C.below, S_below, R.below, V.val, C.val, S_val, R.val, R.takes, vals, shows, List.any_cons, List.any_nil, unnamed, V.kill, V.names, C.names, S_names, R.names, List.set, List.replicate, ↓q_cond_t, ↓q_cond_f, if_true, if_false, reduceCtorEq, rvals, rvC, result, C_known, V.noL, C.noL, S_noL, R.noL, Option.map, true_and, and_true, ge_iff_le, gt_iff_lt, implies_true, q_ite_t, q_ite_f, beq_iff_eq, bne_iff_ne, q_ne, Nat.reduceAdd, Nat.reducePow, Int.reducePow, Nat.reduceMul, Nat.reduceSub, Nat.reduceLeDiff, Nat.reduceLT, Nat.reduceEqDiff, Int.reduceNeg, Int.reduceLT, Int.reduceLE, Int.reduceEq, Int.reduceNe, Int.reduceAdd, Int.reduceSub, Int.reduceMul, Int.reduceToNat, Int.reduceBEq, Int.reduceBNe, ↓hlx, Int.lt_irrefl]
        exact hK
  · have e1 : ¬ (v = w) := fun e => hn (by rw [e])
    have e2 : ((v.length : Int) != (w.length : Int)) = true := by rw [bne_iff_ne]; omega
    have e3 : ¬ ((v.length : Int) = (w.length : Int)) := by omega
    simp only [e1, decide_false] at hK
    simp (config := { maxSteps := 10000000 }) only [run_drx, run_xd, run_xq, run_xg, run_xb, EV1, EV2, EV3, EV4, EV5, EV6, addT, istep, lenR_sl, lenR_ns, lenR_es, pickR, putD, bin1R, un1R, slcR, bnd, capsOf, fillP, S_plain, V_plain, V.cells, S_known, V_known, C.v, blk, setL, setH, eqS, eq1, cmpS, cmp1, isNil, popTo, killT, setT, leT, V.below, C.below, S_below, R.below, V.val, C.val, S_val, R.val, R.takes, vals, shows, List.any_cons, List.any_nil, unnamed, V.kill, V.names, C.names, S_names, R.names, List.set, List.replicate, ↓q_cond_t, ↓q_cond_f, if_true, if_false, reduceCtorEq, rvals, rvC, result, C_known, V.noL, C.noL, S_noL, R.noL, Option.map, true_and, and_true, ge_iff_le, gt_iff_lt, implies_true, q_ite_t, q_ite_f, beq_iff_eq, bne_iff_ne, q_ne, Nat.reduceAdd, Nat.reducePow, Int.reducePow, Nat.reduceMul, Nat.reduceSub, Nat.reduceLeDiff, Nat.reduceLT, Nat.reduceEqDiff, Int.reduceNeg, Int.reduceLT, Int.reduceLE, Int.reduceEq, Int.reduceNe, Int.reduceAdd, Int.reduceSub, Int.reduceMul, Int.reduceToNat, Int.reduceBEq, Int.reduceBNe, df27, ↓hlx, ↓hly, e2, e3]
    exact hK
end Go.Proofs.Ytdlloccodmdnnaa

/- The machine's memory: Copy; the document's Fill, Copy, Dump. -/
namespace Go.Proofs.Ytdlloccodmdnnaa
open Go.D
set_option linter.all false
set_option maxRecDepth 100000
set_option maxHeartbeats 4000000

/-- A part of the words. -/
def M.part (m : M) (x k : Nat) : List Int := (m.w.drop x).take k
theorem M.part_len {m : M} {x k : Nat} (h : x + k ≤ m.w.length) : (m.part x k).length = k := by simp [M.part]; omega
theorem nth_part {m : M} {x k i : Nat} (h : i < k) : nth 0 (m.part x k) i = nth 0 m.w (x + i) := by
  unfold M.part
  generalize m.w = l
  induction x generalizing l with
  | zero =>
    simp only [List.drop_zero, Nat.zero_add]
    induction k generalizing l i with
    | zero => omega
    | succ k ih =>
      cases l with
      | nil => rfl
      | cons x l =>
        cases i with
        | zero => rfl
        | succ i => exact ih (l := l) (by omega)
  | succ a ih =>
    cases l with
    | nil => simp [nth]
    | cons x l =>
      rw [List.drop_succ_cons, ih, show a + 1 + i = (a + i) + 1 by omega]; rfl
def M.copy (m : M) (x y k : Nat) : M := (m.lay y (m.part x k)).tick (2 * k)
end Go.Proofs.Ytdlloccodmdnnaa

/- The machine's memory: plain facts of what is laid, filled, copied. -/
namespace Go.Proofs.Ytdlloccodmdnnaa
open Go.D
set_option linter.all false
set_option maxRecDepth 100000
set_option maxHeartbeats 4000000

theorem M.at_part {m : M} {x k i : Nat} (h : i < k) : nth 0 (m.part x k) i = m.at ((x + i : Nat) : Int) := by
  rw [nth_part h]; simp only [M.at, Int.toNat_natCast]
/-! ### the specs without choices -/
def M.fillE (m : M) (x k : Int) : Int := if m.has x k then 0 else 20
def M.fillX (m : M) (x k v : Int) : M := if m.has x k then (m.fill x.toNat v k.toNat).tick k else m
def fill2M (b : Nat) (m : M) (st : M → List Blk) : List V → Res
  | [.s (.i .i64 x), .s (.i .i64 k), .s (.i .u64 v)] => .ob (u64 v) (.ok (.s (.i .i64 (m.fillE x k))) [] (st (m.fillX x k v)))
  | _ => .bad
noncomputable def fill2G := memF fill2M
theorem fill2_snd : Snd Try.prog 38 (FSpec.of fill2G) := mfill_snd.weaken fun args h K hc hS => by
  obtain ⟨a, b, m, rest, rfl, H, hS1⟩ := memF_spec hS
  unfold fill2M at hS1
  split at hS1
  · obtain ⟨hv, hS1⟩ := hS1
    simp only [spec_ok, M.fillE, M.fillX] at hS1
    show Res.spec K (fillG _ h)
    rw [fillG, memF_eq H]
    simp only [fillM, spec_ob, spec_br, spec_ok]
    exact ⟨hv, fun e => by simpa only [e, if_true] using hS1, fun e => by simpa only [e, Bool.false_eq_true, if_false] using hS1⟩
  · exact hS1.elim
end Go.Proofs.Ytdlloccodmdnnaa

/- The machine's memory: the document's Copy and Dump. -/
namespace Go.Proofs.Ytdlloccodmdnnaa
open Go.D
set_option linter.all false
set_option maxRecDepth 100000
set_option maxHeartbeats 4000000

/-- So many words of a part, then noughts. -/
def M.pz (m : M) (x q k : Nat) : List Int := m.part x q ++ List.replicate (k - q) 0
theorem M.pz_len {m : M} {x q k : Nat} (h : x + k ≤ m.w.length) (hq : q ≤ k) : (m.pz x q k).length = k := by
  rw [M.pz, List.length_append, M.part_len (by omega), List.length_replicate]; omega
theorem M.pz_0 (m : M) (x k : Nat) : m.pz x 0 k = List.replicate k 0 := by simp [M.pz, M.part]
theorem M.pz_all (m : M) (x k : Nat) : m.pz x k k = m.part x k := by simp [M.pz]
theorem M.part_snoc {m : M} {x q : Nat} (h : x + q < m.w.length) : m.part x (q + 1) = m.part x q ++ [m.at ((x + q : Nat) : Int)] := by
  unfold M.part
  rw [List.take_succ_eq_append_getElem (by simp; omega)]
  simp only [List.getElem_drop, M.at, Int.toNat_natCast, nth_eq h]
theorem M.pz_set {m : M} {x q k : Nat} (h : x + k ≤ m.w.length) (hq : q < k) : (wc (m.pz x q k)).set q (.i .u64 (m.at ((x + q : Nat) : Int))) = wc (m.pz x (q + 1) k) := by
  rw [wc_set]
  congr 1
  unfold M.pz
  have hl := M.part_len (m := m) (x := x) (k := q) (by omega)
  rw [List.set_append_right _ _ (by omega), hl, Nat.sub_self, M.part_snoc (by omega), show k - q = (k - (q + 1)) + 1 by omega, List.replicate_succ, List.set_cons_zero]
  simp

end Go.Proofs.Ytdlloccodmdnnaa

