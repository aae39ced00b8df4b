/- Law 07: awake. -/
import Derived.Test.YtdlloccodmdnnaaZ1
import Derived.Test.YtdlloccodmdnnaaZ2
/- The document's caps: plain laws for Right. -/
namespace Go.Proofs.Ytdlloccodmdnnaa
open Go.D
set_option linter.all false
set_option maxRecDepth 100000
set_option maxHeartbeats 4000000

theorem adr_iff {o w : Int} : adrV o w = true ↔ ¬ (o < 1024 ∨ 65535 < o ∨ ¬ o.tmod w = 0) := by
  simp only [adrV, Bool.and_eq_true, decide_eq_true_eq, beq_iff_eq]; omega
theorem close3 {P : Bool → Prop} {A B : Prop} [Decidable A] [Decidable B] {q X X' : Bool} (hq : q = true ↔ ¬ B) (hx : X = X') (h : P (if A then (if B then false else X) else false)) :
    (¬ A → P false) ∧ (A → (¬ q = true → P false) ∧ (q = true → P X')) := by
  subst hx
  have h1 := close2 h
  exact ⟨h1.1, fun a => ⟨fun n => (close1 (h1.2 a)).1 (Classical.byContradiction fun c => n (hq.2 c)), fun y => (close1 (h1.2 a)).2 (hq.1 y)⟩⟩
theorem sz_law {P : Bool → Prop} {ok Z B : Prop} [Decidable ok] [Decidable Z] [Decidable B] {N N' : Int} {q X X' : Bool} (hN : ok → N' = N ∧ 0 < N) (hn : ¬ ok → N' = 0) (hq : ok → (q = true ↔ ¬ B)) (hx : ok → X' = X) (hz : ¬ ok → X' = false)
    (h : P (if ¬ ok ∨ ¬ Z then false else if 0 < N ∧ B then false else X)) :
    (¬ Z → P false) ∧ (Z → (0 < N' → (¬ q = true → P false) ∧ (q = true → P X')) ∧ (¬ 0 < N' → P X')) := by
  have h1 := close1 h
  refine ⟨fun z => h1.1 (.inr z), fun z => ?_⟩
  by_cases o : ok
  · have h2 := close1 (h1.2 fun c => c.elim (fun x => x o) (fun x => x z))
    obtain ⟨e, p⟩ := hN o
    rw [hx o, e]
    exact ⟨fun _ => ⟨fun n => h2.1 ⟨p, Classical.byContradiction fun c => n ((hq o).2 c)⟩, fun y => h2.2 fun c => (hq o).1 y c.2⟩, fun n => absurd p n⟩
  · rw [hz o, hn o]
    have f := h1.1 (.inl o)
    exact ⟨fun _ => ⟨fun _ => f, fun _ => f⟩, fun _ => f⟩
theorem pos2 (n : Nat) : (0 : Int) < 2 ^ n := Int.pow_pos (by decide)
theorem shR_u {b : Int} (h : 4 ≤ b ∧ b ≤ 15) : shR 1 b = uRaw b := by
  have : b = 4 ∨ b = 5 ∨ b = 6 ∨ b = 7 ∨ b = 8 ∨ b = 9 ∨ b = 10 ∨ b = 11 ∨ b = 12 ∨ b = 13 ∨ b = 14 ∨ b = 15 := by omega
  rcases this with rfl | rfl | rfl | rfl | rfl | rfl | rfl | rfl | rfl | rfl | rfl | rfl <;> decide
theorem shR_n {b : Int} (h : 1 ≤ b ∧ b ≤ 8) : shR 4 b = nRaw b := by
  have : b = 1 ∨ b = 2 ∨ b = 3 ∨ b = 4 ∨ b = 5 ∨ b = 6 ∨ b = 7 ∨ b = 8 := by omega
  rcases this with rfl | rfl | rfl | rfl | rfl | rfl | rfl | rfl <;> decide
theorem uRaw_pos {b : Int} (h : 4 ≤ b ∧ b ≤ 15) : 0 < uRaw b := by rw [uRaw_eq h]; exact pos2 _
theorem nRaw_pos {b : Int} (h : 1 ≤ b ∧ b ≤ 8) : 0 < nRaw b := by rw [nRaw_eq h]; have := pos2 b.toNat; omega

theorem pool_eq (k : Int) : (inV k 63 && k.tmod 8 == 0) = (rinV k 0 56 && k.tmod 8 == 0) := by
  rw [Bool.eq_iff_iff]
  simp only [inV, rinV, Bool.and_eq_true, decide_eq_true_eq, beq_iff_eq]
  constructor
  · rintro ⟨⟨h1, h2⟩, h3⟩
    rw [Int.tmod_eq_emod_of_nonneg h1] at h3
    exact ⟨⟨h1, by omega⟩, by rw [Int.tmod_eq_emod_of_nonneg h1]; exact h3⟩
  · rintro ⟨⟨h1, h2⟩, h3⟩
    exact ⟨⟨h1, by omega⟩, h3⟩
theorem table_eq (k l : Int) : mapV k l 1 = (rinV k 0 63 && (rinV l 0 65535 && (decide (0 < k) || l == 0))) := by
  simp [mapV, inV, rinV]
theorem frame_eq (k l : Int) (x : Bool) : (x && mapV k l 16) = (x && (rinV k 0 63 && (rinV l 0 65520 && (l.tmod 16 == 0 && (decide (0 < k) || l == 0))))) := by
  congr 1
  rw [Bool.eq_iff_iff]
  simp only [mapV, inV, rinV, Bool.and_eq_true, Bool.or_eq_true, decide_eq_true_eq, beq_iff_eq]
  constructor
  · rintro ⟨h0, ⟨h1, h2⟩, h3, h4⟩
    rw [Int.tmod_eq_emod_of_nonneg h1] at h3
    exact ⟨h0, ⟨h1, by omega⟩, by rw [Int.tmod_eq_emod_of_nonneg h1]; exact h3, h4⟩
  · rintro ⟨h0, ⟨h1, h2⟩, h3, h4⟩
    exact ⟨h0, ⟨h1, by omega⟩, h3, h4⟩
theorem zrange {b : Int} : ((if b = 31 then true else nOk b) = true) ↔ b = 31 ∨ (1 ≤ b ∧ b ≤ 8) := by
  split
  · simp [*]
  · rw [nOk_iff]; simp [*]

def TQ : Tab := addT 52 rinG (addT 51 adrG (addT 49 onlyG (addT 50 sizeG noT)))
theorem TQ_snd : TQ.Snd Try.prog := addT_snd ok52 rin_snd (addT_snd ok51 adr_snd (addT_snd ok49 only_snd (addT_snd ok50 rsize_snd (noT_snd _))))

theorem rright_snd : Snd Try.prog 14 (FSpec.of rightG) := snd_run TQ_snd mixed Try.func14 dc14 200 fun args h K _ hS => by
  obtain ⟨⟨t, o, b, d, e, g, i, j, k, l, m⟩, rfl, hR⟩ := capF_spec hS
  clear hS
  simp only [Cap.cl, spec_ok, rightB] at hR ⊢
  obtain ⟨P, hP⟩ : ∃ P : Bool → Prop, P = fun B => K (V.s (S.b B)) h := ⟨_, rfl⟩
  rcases kinds t with rfl | rfl | rfl | rfl | rfl | rfl | rfl | rfl | rfl | rfl | rfl | rfl | rfl | rfl | ⟨k0, k1, k2, k3, k4, k5, k6, k7, k8, k9, k10, k11, k12, k13, ho⟩
  all_goals try simp only [k0, k1, k2, k3, k4, k5, k6, k7, k8, k9, k10, k11, k12, k13, if_false] at hR
  all_goals try simp only [Int.reduceEq, if_true, if_false] at hR
  all_goals try simp (config := { maxSteps := 10000000 }) only [EV1, EV2, EV3, EV4, EV5, EV6, addT, istep, lenR_sl, lenR_ns, lenR_es, pickR, putD, bin1R, un1R, slcR, bnd, capsOf, fillP, S_plain, V_plain, V.cells, S_known, V_known, C.v, blk, setL, setH, eqS, eq1, cmpS, cmp1, isNil, popTo, killT, setT, leT, V.below, C.below, S_below, R.below, V.val, C.val, S_val, R.val, R.takes, vals, shows, List.any_cons, List.any_nil, unnamed, V.kill, V.names, C.names, S_names, R.names, List.set, List.replicate, ↓q_cond_t, ↓q_cond_f, if_true, if_false, reduceCtorEq, rvals, rvC, result, C_known, V.noL, C.noL, S_noL, R.noL, Option.map, true_and, and_true, ge_iff_le, gt_iff_lt, implies_true, q_ite_t, q_ite_f, beq_iff_eq, bne_iff_ne, q_ne, Nat.reduceAdd, Nat.reducePow, Int.reducePow, Nat.reduceMul, Nat.reduceSub, Nat.reduceLeDiff, Nat.reduceLT, Nat.reduceEqDiff, Int.reduceNeg, Int.reduceLT, Int.reduceLE, Int.reduceEq, Int.reduceNe, Int.reduceAdd, Int.reduceSub, Int.reduceMul, Int.reduceToNat, Int.reduceBEq, Int.reduceBNe, df14, TQ, rinG, adrG, onlyG, sizeG, capF, rszN, onlyC, Cap.cl, k0, k1, k2, k3, k4, k5, k6, k7, k8, k9, k10, k11, k12, k13]
  all_goals try simp (config := { maxSteps := 10000000 }) only [EV1, EV2, EV3, EV4, EV5, EV6, addT, istep, lenR_sl, lenR_ns, lenR_es, pickR, putD, bin1R, un1R, slcR, bnd, capsOf, fillP, S_plain, V_plain, V.cells, S_known, V_known, C.v, blk, setL, setH, eqS, eq1, cmpS, cmp1, isNil, popTo, killT, setT, leT, V.below, C.below, S_below, R.below, V.val, C.val, S_val, R.val, R.takes, vals, shows, List.any_cons, List.any_nil, unnamed, V.kill, V.names, C.names, S_names, R.names, List.set, List.replicate, ↓q_cond_t, ↓q_cond_f, if_true, if_false, reduceCtorEq, rvals, rvC, result, C_known, V.noL, C.noL, S_noL, R.noL, Option.map, true_and, and_true, ge_iff_le, gt_iff_lt, implies_true, q_ite_t, q_ite_f, beq_iff_eq, bne_iff_ne, q_ne, Nat.reduceAdd, Nat.reducePow, Int.reducePow, Nat.reduceMul, Nat.reduceSub, Nat.reduceLeDiff, Nat.reduceLT, Nat.reduceEqDiff, Int.reduceNeg, Int.reduceLT, Int.reduceLE, Int.reduceEq, Int.reduceNe, Int.reduceAdd, Int.reduceSub, Int.reduceMul, Int.reduceToNat, Int.reduceBEq, Int.reduceBNe, df14, TQ, rinG, adrG, onlyG, sizeG, capF, rszN, onlyC, Cap.cl]
  · exact close2 (P := fun B => K (V.s (S.b B)) h) hR
  · refine ⟨fun _ h => h, sz_law (P := fun B => K (V.s (S.b B)) h) ?_ ?_ ?_ ?_ ?_ hR⟩
    · intro ok; rw [if_pos ok, shR_u ok]; exact ⟨rfl, uRaw_pos ok⟩
    · intro ok; rw [if_neg ok]
    · intro ok; rw [if_pos ok, shR_u ok]; exact adr_iff
    · intro ok; rw [if_pos ok, shR_u ok, decide_eq_true (uRaw_pos ok)]; rfl
    · intro ok; rw [if_neg ok]; rfl
  · refine ⟨fun _ _ _ y => (inV_iff.1 y).1, fun _ h => h, fun _ _ _ _ y => (inV_iff.1 y).1, sz_law (P := fun B => K (V.s (S.b B)) h) ?_ ?_ ?_ ?_ ?_ hR⟩
    · intro ok; have ok := nOk_iff.1 ok; rw [if_pos ok, shR_n ok]; exact ⟨rfl, nRaw_pos ok⟩
    · intro ok; have ok := fun x => ok (nOk_iff.2 x); rw [if_neg ok]
    · intro ok; have ok := nOk_iff.1 ok; rw [if_pos ok, shR_n ok]; exact adr_iff
    · intro ok; have ok := nOk_iff.1 ok; rw [if_pos ok, shR_n ok, decide_eq_true (nRaw_pos ok)]; rfl
    · intro ok; have ok := fun x => ok (nOk_iff.2 x); rw [if_neg ok]; rfl
  · exact close3 (P := fun B => K (V.s (S.b B)) h) adr_iff rfl hR
  · exact close3 (P := fun B => K (V.s (S.b B)) h) adr_iff rfl hR
  · exact close3 (P := fun B => K (V.s (S.b B)) h) adr_iff rfl hR
  · exact close3 (P := fun B => K (V.s (S.b B)) h) adr_iff (table_eq _ _) hR
  · exact close3 (P := fun B => K (V.s (S.b B)) h) adr_iff (pool_eq _) hR
  · exact close3 (P := fun B => K (V.s (S.b B)) h) adr_iff (frame_eq _ _ _) hR
  · exact close3 (P := fun B => K (V.s (S.b B)) h) adr_iff rfl hR
  · have r := sz_law (P := fun B => K (V.s (S.b B)) h) (N' := if 1 ≤ b ∧ b ≤ 8 then shR 4 b else if b = 31 then 64 else 0) (q := adrV o (if 1 ≤ b ∧ b ≤ 8 then shR 4 b else if b = 31 then 64 else 0))
      (X' := if b = 31 then rinV d 0 3 else decide (0 < if 1 ≤ b ∧ b ≤ 8 then shR 4 b else if b = 31 then 64 else 0) && rinV d 0 (IntKind.i64.wrap ((if 1 ≤ b ∧ b ≤ 8 then shR 4 b else if b = 31 then 64 else 0).tdiv 4))) ?_ ?_ ?_ ?_ ?_ hR
    · exact ⟨fun _ h => h, r.1, fun z => ⟨fun p => ⟨((r.2 z).1 p).1, fun a => close1 (P := fun B => K (V.s (S.b B)) h) (((r.2 z).1 p).2 a)⟩, fun p => close1 (P := fun B => K (V.s (S.b B)) h) ((r.2 z).2 p)⟩⟩
    · intro ok
      rcases zrange.1 ok with rfl | ok
      · exact ⟨rfl, by decide⟩
      · rw [if_pos ok, shR_n ok, if_neg (by omega)]; exact ⟨rfl, nRaw_pos ok⟩
    · intro ok
      have ok := fun x => ok (zrange.2 x)
      rw [if_neg (fun x => ok (.inr x)), if_neg (fun x => ok (.inl x))]
    · intro ok
      rcases zrange.1 ok with rfl | ok
      · exact adr_iff
      · rw [if_pos ok, shR_n ok, if_neg (by omega)]; exact adr_iff
    · intro ok
      rcases zrange.1 ok with rfl | ok
      · rfl
      · rw [if_pos ok, shR_n ok, if_neg (by omega), if_neg (by omega), decide_eq_true (nRaw_pos ok), if_neg (by omega)]; rfl
    · intro ok
      have ok := fun x => ok (zrange.2 x)
      rw [if_neg (fun x => ok (.inr x)), if_neg (fun x => ok (.inl x)), if_neg (fun x => ok (.inl x))]; rfl
  · exact close2 (P := fun B => K (V.s (S.b B)) h) hR
  · exact close2 (P := fun B => K (V.s (S.b B)) h) hR
  · exact close2 (P := fun B => K (V.s (S.b B)) h) hR
  · exact ⟨fun _ => hR, fun _ => hR⟩
end Go.Proofs.Ytdlloccodmdnnaa

/- The document's Encode. -/
namespace Go.Proofs.Ytdlloccodmdnnaa
open Go.D
set_option linter.all false
set_option maxRecDepth 100000
set_option maxHeartbeats 4000000

def TF : Tab := addT 14 rightG noT
theorem TF_snd : TF.Snd Try.prog := addT_snd ok14 rright_snd (noT_snd _)
theorem renc_snd : Snd Try.prog 90 (FSpec.of encG) := snd_run TF_snd mixed Try.func90 dc90 200 fun args h K hc hS => by
  obtain ⟨c, rfl, hR⟩ := capF_spec hS
  clear hS
  simp only [spec_br, spec_ok] at hR
  cases hr : rightB c with
  | false =>
    have hQ := hR.2 hr
    clear hR
    obtain ⟨t, o, b, d, e, g, i, j, k, l, m⟩ := c
    simp only [Cap.cl]
    simp (config := { maxSteps := 10000000 }) only [EV1, EV2, EV3, EV4, EV5, EV6, addT, istep, lenR_sl, lenR_ns, lenR_es, pickR, putD, bin1R, un1R, slcR, bnd, capsOf, fillP, S_plain, V_plain, V.cells, S_known, V_known, C.v, blk, setL, setH, eqS, eq1, cmpS, cmp1, isNil, popTo, killT, setT, leT, V.below, C.below, S_below, R.below, V.val, C.val, S_val, R.val, R.takes, vals, shows, List.any_cons, List.any_nil, unnamed, V.kill, V.names, C.names, S_names, R.names, List.set, List.replicate, ↓q_cond_t, ↓q_cond_f, if_true, if_false, reduceCtorEq, rvals, rvC, result, C_known, V.noL, C.noL, S_noL, R.noL, Option.map, true_and, and_true, ge_iff_le, gt_iff_lt, implies_true, q_ite_t, q_ite_f, beq_iff_eq, bne_iff_ne, q_ne, Nat.reduceAdd, Nat.reducePow, Int.reducePow, Nat.reduceMul, Nat.reduceSub, Nat.reduceLeDiff, Nat.reduceLT, Nat.reduceEqDiff, Int.reduceNeg, Int.reduceLT, Int.reduceLE, Int.reduceEq, Int.reduceNe, Int.reduceAdd, Int.reduceSub, Int.reduceMul, Int.reduceToNat, Int.reduceBEq, Int.reduceBNe, df90, TF, rightG, capF, hr]
    exact hQ
  | true =>
    have hQ := hR.1 hr
    clear hR
    have hb := right_bounds hr
    obtain ⟨t, o, b, d, e, g, i, j, k, l, m⟩ := c
    obtain ⟨h1, h2, h3, h4, h5, h6, h7, h8, h9, h10, h11, one⟩ := hb
    simp only at h1 h2 h3 h4 h5 h6 h7 h8 h9 h10 h11 one
    have u1 := wrapu h1.1 (by omega)
    have u2 := wrapu h2.1 (by omega)
    have u3 := wrapu h3.1 (by omega)
    have u4 := wrapu h4.1 (by omega)
    have u5 := wrapu h5.1 (by omega)
    have u6 := wrapu h6.1 (by omega)
    have u7 := wrapu h7.1 (by omega)
    have m4 : min 4 IntKind.u64.bits = 4 := rfl
    have m20 : min 20 IntKind.u64.bits = 20 := rfl
    have m25 : min 25 IntKind.u64.bits = 25 := rfl
    have m28 : min 28 IntKind.u64.bits = 28 := rfl
    have m32 : min 32 IntKind.u64.bits = 32 := rfl
    have m38 : min 38 IntKind.u64.bits = 38 := rfl
    have v2 : IntKind.u64.wrap (o * 16) = o * 16 := wrapu (by omega) (by omega)
    have v3 : IntKind.u64.wrap (b * 1048576) = b * 1048576 := wrapu (by omega) (by omega)
    have v4 : IntKind.u64.wrap (j * 33554432) = j * 33554432 := wrapu (by omega) (by omega)
    have v5 : IntKind.u64.wrap (m * 268435456) = m * 268435456 := wrapu (by omega) (by omega)
    have v6 : IntKind.u64.wrap (k * 4294967296) = k * 4294967296 := wrapu (by omega) (by omega)
    have v7 : IntKind.u64.wrap (g * 274877906944) = g * 274877906944 := wrapu (by omega) (by omega)
    have s2 : IntKind.u64.wrap (t + o * 16) = t + o * 16 := wrapu (by omega) (by omega)
    have s3 : IntKind.u64.wrap (t + o * 16 + b * 1048576) = t + o * 16 + b * 1048576 := wrapu (by omega) (by omega)
    have s4 : IntKind.u64.wrap (t + o * 16 + b * 1048576 + j * 33554432) = t + o * 16 + b * 1048576 + j * 33554432 := wrapu (by omega) (by omega)
    have s5 : IntKind.u64.wrap (t + o * 16 + b * 1048576 + j * 33554432 + m * 268435456) = t + o * 16 + b * 1048576 + j * 33554432 + m * 268435456 := wrapu (by omega) (by omega)
    have s6 : IntKind.u64.wrap (t + o * 16 + b * 1048576 + j * 33554432 + m * 268435456 + k * 4294967296) = t + o * 16 + b * 1048576 + j * 33554432 + m * 268435456 + k * 4294967296 := wrapu (by omega) (by omega)
    have s7 : IntKind.u64.wrap (t + o * 16 + b * 1048576 + j * 33554432 + m * 268435456 + k * 4294967296 + g * 274877906944) = t + o * 16 + b * 1048576 + j * 33554432 + m * 268435456 + k * 4294967296 + g * 274877906944 := wrapu (by omega) (by omega)
    have w0 : (⟨t, o, b, d, e, g, i, j, k, l, m⟩ : Cap).w0 = t + o * 16 + b * 1048576 + j * 33554432 + m * 268435456 + k * 4294967296 + g * 274877906944 := by simp only [Cap.w0]; omega
    have w1 : (⟨t, o, b, d, e, g, i, j, k, l, m⟩ : Cap).num = d + e + i + l := rfl
    rw [w0, w1] at hQ
    have x1 := wrapu (n := d) (by omega) (by omega)
    have x2 := wrapu (n := e) (by omega) (by omega)
    have x3 := wrapu (n := i) (by omega) (by omega)
    have x4 := wrapu (n := l) (by omega) (by omega)
    simp only [Cap.cl]
    have kk : t = 2 ∨ t = 4 ∨ t = 5 ∨ t = 6 ∨ t = 8 ∨ (¬ t = 2 ∧ ¬ t = 4 ∧ ¬ t = 5 ∧ ¬ t = 6 ∧ ¬ t = 8) := by omega
    rcases kk with ht | ht | ht | ht | ht | ⟨k2, k4, k5, k6, k8⟩
    case inr.inr.inr.inr.inr =>
      have eq : d + e + i + l = d := by simp only [k2, k4, k5, k6, k8, if_false, or_self] at one; omega
      rw [eq] at hQ
      simp (config := { maxSteps := 10000000 }) only [EV1, EV2, EV3, EV4, EV5, EV6, addT, istep, lenR_sl, lenR_ns, lenR_es, pickR, putD, bin1R, un1R, slcR, bnd, capsOf, fillP, S_plain, V_plain, V.cells, S_known, V_known, C.v, blk, setL, setH, eqS, eq1, cmpS, cmp1, isNil, popTo, killT, setT, leT, V.below, C.below, S_below, R.below, V.val, C.val, S_val, R.val, R.takes, vals, shows, List.any_cons, List.any_nil, unnamed, V.kill, V.names, C.names, S_names, R.names, List.set, List.replicate, ↓q_cond_t, ↓q_cond_f, if_true, if_false, reduceCtorEq, rvals, rvC, result, C_known, V.noL, C.noL, S_noL, R.noL, Option.map, true_and, and_true, ge_iff_le, gt_iff_lt, implies_true, q_ite_t, q_ite_f, beq_iff_eq, bne_iff_ne, q_ne, Nat.reduceAdd, Nat.reducePow, Int.reducePow, Nat.reduceMul, Nat.reduceSub, Nat.reduceLeDiff, Nat.reduceLT, Nat.reduceEqDiff, Int.reduceNeg, Int.reduceLT, Int.reduceLE, Int.reduceEq, Int.reduceNe, Int.reduceAdd, Int.reduceSub, Int.reduceMul, Int.reduceToNat, Int.reduceBEq, Int.reduceBNe, df90, TF, rightG, capF, hr, u1, u2, u3, u4, u5, u6, u7, m4, m20, m25, m28, m32, m38, v2, v3, v4, v5, v6, v7, s2, s3, s4, s5, s6, s7, x1, k2, k4, k5, k6, k8]
      exact hQ
    case inl =>
      have eq : d + e + i + l = e := by simp only [ht, if_true] at one; omega
      rw [eq] at hQ
      subst ht
      simp (config := { maxSteps := 10000000 }) only [EV1, EV2, EV3, EV4, EV5, EV6, addT, istep, lenR_sl, lenR_ns, lenR_es, pickR, putD, bin1R, un1R, slcR, bnd, capsOf, fillP, S_plain, V_plain, V.cells, S_known, V_known, C.v, blk, setL, setH, eqS, eq1, cmpS, cmp1, isNil, popTo, killT, setT, leT, V.below, C.below, S_below, R.below, V.val, C.val, S_val, R.val, R.takes, vals, shows, List.any_cons, List.any_nil, unnamed, V.kill, V.names, C.names, S_names, R.names, List.set, List.replicate, ↓q_cond_t, ↓q_cond_f, if_true, if_false, reduceCtorEq, rvals, rvC, result, C_known, V.noL, C.noL, S_noL, R.noL, Option.map, true_and, and_true, ge_iff_le, gt_iff_lt, implies_true, q_ite_t, q_ite_f, beq_iff_eq, bne_iff_ne, q_ne, Nat.reduceAdd, Nat.reducePow, Int.reducePow, Nat.reduceMul, Nat.reduceSub, Nat.reduceLeDiff, Nat.reduceLT, Nat.reduceEqDiff, Int.reduceNeg, Int.reduceLT, Int.reduceLE, Int.reduceEq, Int.reduceNe, Int.reduceAdd, Int.reduceSub, Int.reduceMul, Int.reduceToNat, Int.reduceBEq, Int.reduceBNe, df90, TF, rightG, capF, hr, u1, u2, u3, u4, u5, u6, u7, m4, m20, m25, m28, m32, m38, v2, v3, v4, v5, v6, v7, s2, s3, s4, s5, s6, s7, x2]
      exact hQ
    case inr.inl =>
      have eq : d + e + i + l = i := by simp only [ht, Int.reduceEq, if_false, or_false, true_or, if_true] at one; omega
      rw [eq] at hQ
      subst ht
      simp (config := { maxSteps := 10000000 }) only [EV1, EV2, EV3, EV4, EV5, EV6, addT, istep, lenR_sl, lenR_ns, lenR_es, pickR, putD, bin1R, un1R, slcR, bnd, capsOf, fillP, S_plain, V_plain, V.cells, S_known, V_known, C.v, blk, setL, setH, eqS, eq1, cmpS, cmp1, isNil, popTo, killT, setT, leT, V.below, C.below, S_below, R.below, V.val, C.val, S_val, R.val, R.takes, vals, shows, List.any_cons, List.any_nil, unnamed, V.kill, V.names, C.names, S_names, R.names, List.set, List.replicate, ↓q_cond_t, ↓q_cond_f, if_true, if_false, reduceCtorEq, rvals, rvC, result, C_known, V.noL, C.noL, S_noL, R.noL, Option.map, true_and, and_true, ge_iff_le, gt_iff_lt, implies_true, q_ite_t, q_ite_f, beq_iff_eq, bne_iff_ne, q_ne, Nat.reduceAdd, Nat.reducePow, Int.reducePow, Nat.reduceMul, Nat.reduceSub, Nat.reduceLeDiff, Nat.reduceLT, Nat.reduceEqDiff, Int.reduceNeg, Int.reduceLT, Int.reduceLE, Int.reduceEq, Int.reduceNe, Int.reduceAdd, Int.reduceSub, Int.reduceMul, Int.reduceToNat, Int.reduceBEq, Int.reduceBNe, df90, TF, rightG, capF, hr, u1, u2, u3, u4, u5, u6, u7, m4, m20, m25, m28, m32, m38, v2, v3, v4, v5, v6, v7, s2, s3, s4, s5, s6, s7, x3]
      exact hQ
    case inr.inr.inl =>
      have eq : d + e + i + l = i := by simp only [ht, Int.reduceEq, if_false, or_true, if_true] at one; omega
      rw [eq] at hQ
      subst ht
      simp (config := { maxSteps := 10000000 }) only [EV1, EV2, EV3, EV4, EV5, EV6, addT, istep, lenR_sl, lenR_ns, lenR_es, pickR, putD, bin1R, un1R, slcR, bnd, capsOf, fillP, S_plain, V_plain, V.cells, S_known, V_known, C.v, blk, setL, setH, eqS, eq1, cmpS, cmp1, isNil, popTo, killT, setT, leT, V.below, C.below, S_below, R.below, V.val, C.val, S_val, R.val, R.takes, vals, shows, List.any_cons, List.any_nil, unnamed, V.kill, V.names, C.names, S_names, R.names, List.set, List.replicate, ↓q_cond_t, ↓q_cond_f, if_true, if_false, reduceCtorEq, rvals, rvC, result, C_known, V.noL, C.noL, S_noL, R.noL, Option.map, true_and, and_true, ge_iff_le, gt_iff_lt, implies_true, q_ite_t, q_ite_f, beq_iff_eq, bne_iff_ne, q_ne, Nat.reduceAdd, Nat.reducePow, Int.reducePow, Nat.reduceMul, Nat.reduceSub, Nat.reduceLeDiff, Nat.reduceLT, Nat.reduceEqDiff, Int.reduceNeg, Int.reduceLT, Int.reduceLE, Int.reduceEq, Int.reduceNe, Int.reduceAdd, Int.reduceSub, Int.reduceMul, Int.reduceToNat, Int.reduceBEq, Int.reduceBNe, df90, TF, rightG, capF, hr, u1, u2, u3, u4, u5, u6, u7, m4, m20, m25, m28, m32, m38, v2, v3, v4, v5, v6, v7, s2, s3, s4, s5, s6, s7, x3]
      exact hQ
    case inr.inr.inr.inl =>
      have eq : d + e + i + l = l := by simp only [ht, Int.reduceEq, if_false, or_self, true_or, if_true] at one; omega
      rw [eq] at hQ
      subst ht
      simp (config := { maxSteps := 10000000 }) only [EV1, EV2, EV3, EV4, EV5, EV6, addT, istep, lenR_sl, lenR_ns, lenR_es, pickR, putD, bin1R, un1R, slcR, bnd, capsOf, fillP, S_plain, V_plain, V.cells, S_known, V_known, C.v, blk, setL, setH, eqS, eq1, cmpS, cmp1, isNil, popTo, killT, setT, leT, V.below, C.below, S_below, R.below, V.val, C.val, S_val, R.val, R.takes, vals, shows, List.any_cons, List.any_nil, unnamed, V.kill, V.names, C.names, S_names, R.names, List.set, List.replicate, ↓q_cond_t, ↓q_cond_f, if_true, if_false, reduceCtorEq, rvals, rvC, result, C_known, V.noL, C.noL, S_noL, R.noL, Option.map, true_and, and_true, ge_iff_le, gt_iff_lt, implies_true, q_ite_t, q_ite_f, beq_iff_eq, bne_iff_ne, q_ne, Nat.reduceAdd, Nat.reducePow, Int.reducePow, Nat.reduceMul, Nat.reduceSub, Nat.reduceLeDiff, Nat.reduceLT, Nat.reduceEqDiff, Int.reduceNeg, Int.reduceLT, Int.reduceLE, Int.reduceEq, Int.reduceNe, Int.reduceAdd, Int.reduceSub, Int.reduceMul, Int.reduceToNat, Int.reduceBEq, Int.reduceBNe, df90, TF, rightG, capF, hr, u1, u2, u3, u4, u5, u6, u7, m4, m20, m25, m28, m32, m38, v2, v3, v4, v5, v6, v7, s2, s3, s4, s5, s6, s7, x4]
      exact hQ
    case inr.inr.inr.inr.inl =>
      have eq : d + e + i + l = l := by simp only [ht, Int.reduceEq, if_false, or_self, or_true, if_true] at one; omega
      rw [eq] at hQ
      subst ht
      simp (config := { maxSteps := 10000000 }) only [EV1, EV2, EV3, EV4, EV5, EV6, addT, istep, lenR_sl, lenR_ns, lenR_es, pickR, putD, bin1R, un1R, slcR, bnd, capsOf, fillP, S_plain, V_plain, V.cells, S_known, V_known, C.v, blk, setL, setH, eqS, eq1, cmpS, cmp1, isNil, popTo, killT, setT, leT, V.below, C.below, S_below, R.below, V.val, C.val, S_val, R.val, R.takes, vals, shows, List.any_cons, List.any_nil, unnamed, V.kill, V.names, C.names, S_names, R.names, List.set, List.replicate, ↓q_cond_t, ↓q_cond_f, if_true, if_false, reduceCtorEq, rvals, rvC, result, C_known, V.noL, C.noL, S_noL, R.noL, Option.map, true_and, and_true, ge_iff_le, gt_iff_lt, implies_true, q_ite_t, q_ite_f, beq_iff_eq, bne_iff_ne, q_ne, Nat.reduceAdd, Nat.reducePow, Int.reducePow, Nat.reduceMul, Nat.reduceSub, Nat.reduceLeDiff, Nat.reduceLT, Nat.reduceEqDiff, Int.reduceNeg, Int.reduceLT, Int.reduceLE, Int.reduceEq, Int.reduceNe, Int.reduceAdd, Int.reduceSub, Int.reduceMul, Int.reduceToNat, Int.reduceBEq, Int.reduceBNe, df90, TF, rightG, capF, hr, u1, u2, u3, u4, u5, u6, u7, m4, m20, m25, m28, m32, m38, v2, v3, v4, v5, v6, v7, s2, s3, s4, s5, s6, s7, x4]
      exact hQ
end Go.Proofs.Ytdlloccodmdnnaa

/- Package word: Unpack. -/
namespace Go.Proofs.Ytdlloccodmdnnaa
open Go.D
set_option linter.all false
set_option maxRecDepth 100000
set_option maxHeartbeats 4000000

def slT : List Int → Nat → V
  | [], _ => .s .ns
  | y :: M, c => .s (.sl (.l 0) 0 (M.length + 1) c)
def lsT : List Int → Nat → List Blk
  | [], _ => []
  | y :: M, c => [⟨.rw, arr Uc (y :: M), c⟩]

theorem uc_all (p : S → Bool) (hp : ∀ n, p (.i .u64 n) = true) (M : List Int) : (arr Uc M).all p = true := by
  rw [arr_all]; simp [Uc, hp]
theorem uc_ren (ρ : R → R) (M : List Int) : (arr Uc M).map (S.ren ρ) = arr Uc M := by
  induction M with
  | nil => rfl
  | cons y M ih => simp only [arr, List.map_append, ih]; rfl

theorem words_leave {h : List Blk} {K : V → List Blk → Prop} {y e : Int} {M : List Int} {c : Nat} (hc : M.length + 1 ≤ c) (hS : (wordsR (y :: M) (pairV e) h).spec K) :
    leaveB (.tup [.s (.sl (.l 0) 0 (M.length + 1) c), .s (.i .i64 e)]) [⟨.rw, arr Uc (y :: M), c⟩] h K false := by
  have hS := hS c hc
  refine ⟨[0], by simp, rfl, ?_⟩
  simp only [getAll, List.getElem?_cons_zero]
  refine ⟨?_, ?_⟩
  · simp only [List.all_cons, List.all_nil, decide_true, Bool.true_and, Bool.and_true]
    exact uc_all _ (fun _ => rfl) (y :: M)
  · refine cast ?_ hS
    simp only [List.map_cons, List.map_nil, Blk.ren, uc_ren]
    rfl

theorem div_dec (w a : Nat) : decide (((w : Int).toNat) / 2 ^ ((a : Int).toNat) = 0) = decide ((w : Int) / 2 ^ a = 0) := by
  simp only [Int.toNat_natCast]
  have : ((w : Int) / 2 ^ a = 0) ↔ w / 2 ^ a = 0 := by
    constructor
    · intro h; have : ((w / 2 ^ a : Nat) : Int) = 0 := by push_cast; exact h
      omega
    · intro h; have : ((w / 2 ^ a : Nat) : Int) = 0 := by rw [h]; rfl
      push_cast at this; exact this
  simp only [this]

theorem unpack_loop {h : List Blk} {K : V → List Blk → Prop} {k n c0 : Nat} {w : Nat} {B : Blk} {L : List Int} (hw : w < 18446744073709551616) (hk : h[k]? = some B) (hst : B.st ≠ .dead) (hB : B.cells = arr Ic L) (hn : n ≤ L.length) (hn64 : n ≤ 9223372036854775807) (hc : clean h.length h = true)
    (hS : (Res.br (unpackB (w : Int) (L.take n) 0) (wordsR (unpackV (w : Int) (L.take n) 0) (pairV 0) h) (.ok (.tup [.s .ns, .s (.i .i64 10)]) [] h)).spec K) :
    holds W2.Γ h.length (finP df98.res K) (run W2 100 [.c df98.body] ([V.s (.i .u64 w), V.s (.sl (.g k) 0 n c0)] ++ List.replicate 39 (.tup [])) [] h) := by
  simp only [spec_br, spec_ok] at hS
  obtain ⟨F, hF⟩ : ∃ F, F = L.take n := ⟨_, rfl⟩
  have hFl : F.length = n := by rw [hF]; simp; omega
  rw [← hF] at hS
  have hwu := u64_of hw
  simp (config := { maxSteps := 10000000 }) only [EV1, EV2, EV3, EV4, EV5, EV6, addT, istep, lenR_sl, lenR_ns, lenR_es, pickR, putD, bin1R, un1R, slcR, bnd, capsOf, fillP, S_plain, V_plain, V.cells, S_known, V_known, C.v, blk, setL, setH, eqS, eq1, cmpS, cmp1, isNil, popTo, killT, setT, leT, V.below, C.below, S_below, R.below, V.val, C.val, S_val, R.val, R.takes, vals, shows, List.any_cons, List.any_nil, unnamed, V.kill, V.names, C.names, S_names, R.names, List.set, List.replicate, ↓q_cond_t, ↓q_cond_f, if_true, if_false, reduceCtorEq, rvals, rvC, result, C_known, V.noL, C.noL, S_noL, R.noL, Option.map, true_and, and_true, ge_iff_le, gt_iff_lt, implies_true, q_ite_t, q_ite_f, beq_iff_eq, bne_iff_ne, q_ne, Nat.reduceAdd, Nat.reducePow, Int.reducePow, Nat.reduceMul, Nat.reduceSub, Nat.reduceLeDiff, Nat.reduceLT, Nat.reduceEqDiff, Int.reduceNeg, Int.reduceLT, Int.reduceLE, Int.reduceEq, Int.reduceNe, Int.reduceAdd, Int.reduceSub, Int.reduceMul, Int.reduceToNat, Int.reduceBEq, Int.reduceBNe, df98]
  refine loop_rule (α := Nat × Nat × List Int × Nat) [4, 5, 6, 7, 9, 10, 11, 14, 15, 16, 17, 18, 19, 20, 21, 22, 23, 24, 25, 26, 27, 28, 29, 30, 31, 32, 33, 34, 35] (fun y => [(6, slT y.2.2.1 y.2.2.2), (7, .s (.i .i64 y.2.1)), (14, .s (.i .i64 y.1))]) (fun y => lsT y.2.2.1 y.2.2.2) (fun _ => h)
    (fun y => y.1 ≤ n ∧ y.2.1 ≤ 64 ∧ y.2.2.1.length = y.1 ∧ y.1 ≤ y.2.1 ∧ y.2.2.1.length ≤ y.2.2.2 ∧ unpackB w F 0 = unpackB w (F.drop y.1) y.2.1 ∧ unpackV w F 0 = y.2.2.1 ++ unpackV w (F.drop y.1) y.2.1) (fun y => n - y.1) (0, 0, [], 0) ⟨by simp, by simp, rfl, by simp, by simp, by simp, by simp⟩ (Wk.same rfl rfl ?_) ?_
  · simp (config := { maxSteps := 10000000 }) only [EV1, EV2, EV3, EV4, EV5, EV6, addT, istep, lenR_sl, lenR_ns, lenR_es, pickR, putD, bin1R, un1R, slcR, bnd, capsOf, fillP, S_plain, V_plain, V.cells, S_known, V_known, C.v, blk, setL, setH, eqS, eq1, cmpS, cmp1, isNil, popTo, killT, setT, leT, V.below, C.below, S_below, R.below, V.val, C.val, S_val, R.val, R.takes, vals, shows, List.any_cons, List.any_nil, unnamed, V.kill, V.names, C.names, S_names, R.names, List.set, List.replicate, ↓q_cond_t, ↓q_cond_f, if_true, if_false, reduceCtorEq, rvals, rvC, result, C_known, V.noL, C.noL, S_noL, R.noL, Option.map, true_and, and_true, ge_iff_le, gt_iff_lt, implies_true, q_ite_t, q_ite_f, beq_iff_eq, bne_iff_ne, q_ne, Nat.reduceAdd, Nat.reducePow, Int.reducePow, Nat.reduceMul, Nat.reduceSub, Nat.reduceLeDiff, Nat.reduceLT, Nat.reduceEqDiff, Int.reduceNeg, Int.reduceLT, Int.reduceLE, Int.reduceEq, Int.reduceNe, Int.reduceAdd, Int.reduceSub, Int.reduceMul, Int.reduceToNat, Int.reduceBEq, Int.reduceBNe, Int.natCast_zero, slT]
  · rintro X ⟨i, a, M, c⟩ ⟨hi, ha, hM, hia, hMc, hpb, hpv⟩ IH
    simp only at hi ha hM hia hMc hpb hpv ⊢
    rcases Nat.lt_or_ge i n with hlt | hge
    · have I := idx hlt hn64
      have hiL : i < L.length := by omega
      obtain ⟨b, hb⟩ : ∃ b, b = nth 0 L i := ⟨_, rfl⟩
      have E : B.cells[i]? = some (.i .i64 b) := by
        have := arr_get0 Ic_len hiL (by omega)
        rw [Nat.mul_one] at this
        rw [hB, this, hb, nth_eq hiL]; rfl
      have hd : F.drop i = b :: F.drop (i + 1) := by
        rw [List.drop_eq_getElem_cons (by omega), hb, nth_eq hiL]
        congr 1
        subst hF; simp
      rw [hd] at hpb hpv
      simp only [unpackB, unpackV] at hpb hpv
      cases hf : fieldB (a : Int) b with
      | true =>
        obtain ⟨a', m, e1, e2, h1, h2, h3⟩ := fieldB_nat hf
        have : a' = a := by omega
        subst this
        have hwr : IntKind.i64.wrap ((a' : Int) + b) = ((a' + m : Nat) : Int) := by rw [wrap64] <;> omega
        have hpb' : unpackB w F 0 = unpackB w (F.drop (i + 1)) ((a' + m : Nat) : Int) := by rw [hpb, hf, Bool.true_and, e2]; rfl
        cases M with
        | nil =>
          have hkl : k < h.length := (List.getElem?_eq_some_iff.1 hk).1
          simp only [slT, lsT]
          refine run_sound (Tab.ok_Γ _) 200 _ _ _ _ ?_
          simp (config := { maxSteps := 10000000 }) only [EV1, EV2, EV3, EV4, EV5, EV6, addT, istep, lenR_sl, lenR_ns, lenR_es, pickR, putD, bin1R, un1R, slcR, bnd, capsOf, fillP, S_plain, V_plain, V.cells, S_known, V_known, C.v, blk, setL, setH, eqS, eq1, cmpS, cmp1, isNil, popTo, killT, setT, leT, V.below, C.below, S_below, R.below, V.val, C.val, S_val, R.val, R.takes, vals, shows, List.any_cons, List.any_nil, unnamed, V.kill, V.names, C.names, S_names, R.names, List.set, List.replicate, ↓q_cond_t, ↓q_cond_f, if_true, if_false, reduceCtorEq, rvals, rvC, result, C_known, V.noL, C.noL, S_noL, R.noL, Option.map, true_and, and_true, ge_iff_le, gt_iff_lt, implies_true, q_ite_t, q_ite_f, beq_iff_eq, bne_iff_ne, q_ne, Nat.reduceAdd, Nat.reducePow, Int.reducePow, Nat.reduceMul, Nat.reduceSub, Nat.reduceLeDiff, Nat.reduceLT, Nat.reduceEqDiff, Int.reduceNeg, Int.reduceLT, Int.reduceLE, Int.reduceEq, Int.reduceNe, Int.reduceAdd, Int.reduceSub, Int.reduceMul, Int.reduceToNat, Int.reduceBEq, Int.reduceBNe, I, E, hk, hst, W2, getG, hwu, hf, hwr]
          intro c' hc'
          refine IH (i + 1, a' + m, [getV w a' b], c') _ (by simp only; omega) ⟨by simp only; omega, h3, by simp at hM ⊢; omega, by simp only; omega, by simpa using hc', hpb', ?_⟩ (Wk.shift 1 ?_ (Nat.le_refl _) ?_ ?_ hc ?_ (clean_ren hc 1))
          · rw [hpv, e2]; rfl
          · simp [lsT, arr, Uc, Blk.ren, S.ren]
          · simp (config := { maxSteps := 10000000 }) only [EV1, EV2, EV3, EV4, EV5, EV6, addT, istep, lenR_sl, lenR_ns, lenR_es, pickR, putD, bin1R, un1R, slcR, bnd, capsOf, fillP, S_plain, V_plain, V.cells, S_known, V_known, C.v, blk, setL, setH, eqS, eq1, cmpS, cmp1, isNil, popTo, killT, setT, leT, V.below, C.below, S_below, R.below, V.val, C.val, S_val, R.val, R.takes, vals, shows, List.any_cons, List.any_nil, unnamed, V.kill, V.names, C.names, S_names, R.names, List.set, List.replicate, ↓q_cond_t, ↓q_cond_f, if_true, if_false, reduceCtorEq, rvals, rvC, result, C_known, V.noL, C.noL, S_noL, R.noL, Option.map, true_and, and_true, ge_iff_le, gt_iff_lt, implies_true, q_ite_t, q_ite_f, beq_iff_eq, bne_iff_ne, q_ne, Nat.reduceAdd, Nat.reducePow, Int.reducePow, Nat.reduceMul, Nat.reduceSub, Nat.reduceLeDiff, Nat.reduceLT, Nat.reduceEqDiff, Int.reduceNeg, Int.reduceLT, Int.reduceLE, Int.reduceEq, Int.reduceNe, Int.reduceAdd, Int.reduceSub, Int.reduceMul, Int.reduceToNat, Int.reduceBEq, Int.reduceBNe, slT, V.ren, S.ren, R.shift, Nat.add_comm]
          · simp (config := { maxSteps := 10000000 }) only [EV1, EV2, EV3, EV4, EV5, EV6, addT, istep, lenR_sl, lenR_ns, lenR_es, pickR, putD, bin1R, un1R, slcR, bnd, capsOf, fillP, S_plain, V_plain, V.cells, S_known, V_known, C.v, blk, setL, setH, eqS, eq1, cmpS, cmp1, isNil, popTo, killT, setT, leT, V.below, C.below, S_below, R.below, V.val, C.val, S_val, R.val, R.takes, vals, shows, List.any_cons, List.any_nil, unnamed, V.kill, V.names, C.names, S_names, R.names, List.set, List.replicate, ↓q_cond_t, ↓q_cond_f, if_true, if_false, reduceCtorEq, rvals, rvC, result, C_known, V.noL, C.noL, S_noL, R.noL, Option.map, true_and, and_true, ge_iff_le, gt_iff_lt, implies_true, q_ite_t, q_ite_f, beq_iff_eq, bne_iff_ne, q_ne, Nat.reduceAdd, Nat.reducePow, Int.reducePow, Nat.reduceMul, Nat.reduceSub, Nat.reduceLeDiff, Nat.reduceLT, Nat.reduceEqDiff, Int.reduceNeg, Int.reduceLT, Int.reduceLE, Int.reduceEq, Int.reduceNe, Int.reduceAdd, Int.reduceSub, Int.reduceMul, Int.reduceToNat, Int.reduceBEq, Int.reduceBNe, slT, lsT, hkl]
          · simp (config := { maxSteps := 10000000 }) only [EV1, EV2, EV3, EV4, EV5, EV6, addT, istep, lenR_sl, lenR_ns, lenR_es, pickR, putD, bin1R, un1R, slcR, bnd, capsOf, fillP, S_plain, V_plain, V.cells, S_known, V_known, C.v, blk, setL, setH, eqS, eq1, cmpS, cmp1, isNil, popTo, killT, setT, leT, V.below, C.below, S_below, R.below, V.val, C.val, S_val, R.val, R.takes, vals, shows, List.any_cons, List.any_nil, unnamed, V.kill, V.names, C.names, S_names, R.names, List.set, List.replicate, ↓q_cond_t, ↓q_cond_f, if_true, if_false, reduceCtorEq, rvals, rvC, result, C_known, V.noL, C.noL, S_noL, R.noL, Option.map, true_and, and_true, ge_iff_le, gt_iff_lt, implies_true, q_ite_t, q_ite_f, beq_iff_eq, bne_iff_ne, q_ne, Nat.reduceAdd, Nat.reducePow, Int.reducePow, Nat.reduceMul, Nat.reduceSub, Nat.reduceLeDiff, Nat.reduceLT, Nat.reduceEqDiff, Int.reduceNeg, Int.reduceLT, Int.reduceLE, Int.reduceEq, Int.reduceNe, Int.reduceAdd, Int.reduceSub, Int.reduceMul, Int.reduceToNat, Int.reduceBEq, Int.reduceBNe, lsT, arr, Uc, hkl, hst]
        | cons y M =>
          have hl := arr_length Uc_len (y :: M)
          have hk1 : known (arr Uc (y :: M)) = true := uc_all _ (fun _ => rfl) _
          have hk2 : ∀ k, ((arr Uc (y :: M)).all fun s => !S.names k s) = true := fun k => uc_all _ (fun _ => rfl) _
          have hMl : M.length + 1 = i := by simpa using hM
          have hroom : M.length + 1 ≤ 64 := by omega
          simp only [slT, lsT]
          refine run_sound (Tab.ok_Γ _) 200 _ _ _ _ ?_
          simp (config := { maxSteps := 10000000 }) only [EV1, EV2, EV3, EV4, EV5, EV6, addT, istep, lenR_sl, lenR_ns, lenR_es, pickR, putD, bin1R, un1R, slcR, bnd, capsOf, fillP, S_plain, V_plain, V.cells, S_known, V_known, C.v, blk, setL, setH, eqS, eq1, cmpS, cmp1, isNil, popTo, killT, setT, leT, V.below, C.below, S_below, R.below, V.val, C.val, S_val, R.val, R.takes, vals, shows, List.any_cons, List.any_nil, unnamed, V.kill, V.names, C.names, S_names, R.names, List.set, List.replicate, ↓q_cond_t, ↓q_cond_f, if_true, if_false, reduceCtorEq, rvals, rvC, result, C_known, V.noL, C.noL, S_noL, R.noL, Option.map, true_and, and_true, ge_iff_le, gt_iff_lt, implies_true, q_ite_t, q_ite_f, beq_iff_eq, bne_iff_ne, q_ne, Nat.reduceAdd, Nat.reducePow, Int.reducePow, Nat.reduceMul, Nat.reduceSub, Nat.reduceLeDiff, Nat.reduceLT, Nat.reduceEqDiff, Int.reduceNeg, Int.reduceLT, Int.reduceLE, Int.reduceEq, Int.reduceNe, Int.reduceAdd, Int.reduceSub, Int.reduceMul, Int.reduceToNat, Int.reduceBEq, Int.reduceBNe, I, E, hk, hst, W2, getG, hwu, hf, hwr, hl, hk1, hk2]
          refine ⟨by omega, fun c' hc' => ?_⟩
          obtain ⟨M', hM'⟩ : ∃ M', M' = M ++ [getV w a' b] := ⟨_, rfl⟩
          have hM'l : M'.length = M.length + 1 := by rw [hM']; simp
          have hI : i + 1 ≤ n ∧ a' + m ≤ 64 ∧ (y :: M').length = i + 1 ∧ i + 1 ≤ a' + m ∧ (y :: M').length ≤ c' ∧ unpackB w F 0 = unpackB w (F.drop (i + 1)) ((a' + m : Nat) : Int) ∧ unpackV w F 0 = (y :: M') ++ unpackV w (F.drop (i + 1)) ((a' + m : Nat) : Int) := by
            refine ⟨by omega, h3, by simp only [List.length_cons]; omega, by omega, by simp only [List.length_cons]; omega, hpb', ?_⟩
            rw [hpv, hM', e2, Int.natCast_add, List.cons_append, List.cons_append, List.append_assoc]; rfl
          refine IH (i + 1, a' + m, y :: M', c') _ (by simp only; omega) hI ?_
          simp only [slT, lsT]
          have hc2 : arr Uc (y :: M) ++ [S.i .u64 (getV w a' b)] = arr Uc (y :: M') := by rw [hM']; simp [arr_append, arr, Uc]
          have hk3 : (arr Uc (y :: M')).all (S.below 1) = true := uc_all _ (fun _ => rfl) _
          refine Wk.keep 1 (by rw [hc2]; rfl) rfl ?_ ?_ ?_
          · simp (config := { maxSteps := 10000000 }) only [EV1, EV2, EV3, EV4, EV5, EV6, addT, istep, lenR_sl, lenR_ns, lenR_es, pickR, putD, bin1R, un1R, slcR, bnd, capsOf, fillP, S_plain, V_plain, V.cells, S_known, V_known, C.v, blk, setL, setH, eqS, eq1, cmpS, cmp1, isNil, popTo, killT, setT, leT, V.below, C.below, S_below, R.below, V.val, C.val, S_val, R.val, R.takes, vals, shows, List.any_cons, List.any_nil, unnamed, V.kill, V.names, C.names, S_names, R.names, List.set, List.replicate, ↓q_cond_t, ↓q_cond_f, if_true, if_false, reduceCtorEq, rvals, rvC, result, C_known, V.noL, C.noL, S_noL, R.noL, Option.map, true_and, and_true, ge_iff_le, gt_iff_lt, implies_true, q_ite_t, q_ite_f, beq_iff_eq, bne_iff_ne, q_ne, Nat.reduceAdd, Nat.reducePow, Int.reducePow, Nat.reduceMul, Nat.reduceSub, Nat.reduceLeDiff, Nat.reduceLT, Nat.reduceEqDiff, Int.reduceNeg, Int.reduceLT, Int.reduceLE, Int.reduceEq, Int.reduceNe, Int.reduceAdd, Int.reduceSub, Int.reduceMul, Int.reduceToNat, Int.reduceBEq, Int.reduceBNe, hM'l]
            all_goals try simp
          · simp (config := { maxSteps := 10000000 }) only [EV1, EV2, EV3, EV4, EV5, EV6, addT, istep, lenR_sl, lenR_ns, lenR_es, pickR, putD, bin1R, un1R, slcR, bnd, capsOf, fillP, S_plain, V_plain, V.cells, S_known, V_known, C.v, blk, setL, setH, eqS, eq1, cmpS, cmp1, isNil, popTo, killT, setT, leT, V.below, C.below, S_below, R.below, V.val, C.val, S_val, R.val, R.takes, vals, shows, List.any_cons, List.any_nil, unnamed, V.kill, V.names, C.names, S_names, R.names, List.set, List.replicate, ↓q_cond_t, ↓q_cond_f, if_true, if_false, reduceCtorEq, rvals, rvC, result, C_known, V.noL, C.noL, S_noL, R.noL, Option.map, true_and, and_true, ge_iff_le, gt_iff_lt, implies_true, q_ite_t, q_ite_f, beq_iff_eq, bne_iff_ne, q_ne, Nat.reduceAdd, Nat.reducePow, Int.reducePow, Nat.reduceMul, Nat.reduceSub, Nat.reduceLeDiff, Nat.reduceLT, Nat.reduceEqDiff, Int.reduceNeg, Int.reduceLT, Int.reduceLE, Int.reduceEq, Int.reduceNe, Int.reduceAdd, Int.reduceSub, Int.reduceMul, Int.reduceToNat, Int.reduceBEq, Int.reduceBNe]
          · simp only [List.all_cons, List.all_nil, List.length_cons, List.length_nil, Bool.and_true]
            exact hk3
      | false =>
        cases M with
        | nil =>
          simp only [slT, lsT]
          refine run_sound (Tab.ok_Γ _) 200 _ _ _ _ ?_
          simp (config := { maxSteps := 10000000 }) only [EV1, EV2, EV3, EV4, EV5, EV6, addT, istep, lenR_sl, lenR_ns, lenR_es, pickR, putD, bin1R, un1R, slcR, bnd, capsOf, fillP, S_plain, V_plain, V.cells, S_known, V_known, C.v, blk, setL, setH, eqS, eq1, cmpS, cmp1, isNil, popTo, killT, setT, leT, V.below, C.below, S_below, R.below, V.val, C.val, S_val, R.val, R.takes, vals, shows, List.any_cons, List.any_nil, unnamed, V.kill, V.names, C.names, S_names, R.names, List.set, List.replicate, ↓q_cond_t, ↓q_cond_f, if_true, if_false, reduceCtorEq, rvals, rvC, result, C_known, V.noL, C.noL, S_noL, R.noL, Option.map, true_and, and_true, ge_iff_le, gt_iff_lt, implies_true, q_ite_t, q_ite_f, beq_iff_eq, bne_iff_ne, q_ne, Nat.reduceAdd, Nat.reducePow, Int.reducePow, Nat.reduceMul, Nat.reduceSub, Nat.reduceLeDiff, Nat.reduceLT, Nat.reduceEqDiff, Int.reduceNeg, Int.reduceLT, Int.reduceLE, Int.reduceEq, Int.reduceNe, Int.reduceAdd, Int.reduceSub, Int.reduceMul, Int.reduceToNat, Int.reduceBEq, Int.reduceBNe, I, E, hk, hst, W2, getG, hwu, hf]
          rw [hf, Bool.false_and] at hpb
          exact hS.2 hpb
        | cons y M =>
          simp only [slT, lsT]
          refine run_sound (Tab.ok_Γ _) 200 _ _ _ _ ?_
          simp (config := { maxSteps := 10000000 }) only [EV1, EV2, EV3, EV4, EV5, EV6, addT, istep, lenR_sl, lenR_ns, lenR_es, pickR, putD, bin1R, un1R, slcR, bnd, capsOf, fillP, S_plain, V_plain, V.cells, S_known, V_known, C.v, blk, setL, setH, eqS, eq1, cmpS, cmp1, isNil, popTo, killT, setT, leT, V.below, C.below, S_below, R.below, V.val, C.val, S_val, R.val, R.takes, vals, shows, List.any_cons, List.any_nil, unnamed, V.kill, V.names, C.names, S_names, R.names, List.set, List.replicate, ↓q_cond_t, ↓q_cond_f, if_true, if_false, reduceCtorEq, rvals, rvC, result, C_known, V.noL, C.noL, S_noL, R.noL, Option.map, true_and, and_true, ge_iff_le, gt_iff_lt, implies_true, q_ite_t, q_ite_f, beq_iff_eq, bne_iff_ne, q_ne, Nat.reduceAdd, Nat.reducePow, Int.reducePow, Nat.reduceMul, Nat.reduceSub, Nat.reduceLeDiff, Nat.reduceLT, Nat.reduceEqDiff, Int.reduceNeg, Int.reduceLT, Int.reduceLE, Int.reduceEq, Int.reduceNe, Int.reduceAdd, Int.reduceSub, Int.reduceMul, Int.reduceToNat, Int.reduceBEq, Int.reduceBNe, I, E, hk, hst, W2, getG, hwu, hf]
          rw [hf, Bool.false_and] at hpb
          exact hS.2 hpb
    · have : i = n := by omega
      subst this
      have hdn : F.drop i = [] := List.drop_eq_nil_of_le (by omega)
      rw [hdn] at hpb hpv
      simp only [unpackB, unpackV, List.append_nil] at hpb hpv
      have m2 : min a IntKind.u64.bits = a := by show min a 64 = _; omega
      have a0 : (0 : Int) ≤ a := by omega
      cases M with
      | nil =>
        simp only [slT, lsT]
        refine run_sound (Tab.ok_Γ _) 100 _ _ _ _ ?_
        simp (config := { maxSteps := 10000000 }) only [EV1, EV2, EV3, EV4, EV5, EV6, addT, istep, lenR_sl, lenR_ns, lenR_es, pickR, putD, bin1R, un1R, slcR, bnd, capsOf, fillP, S_plain, V_plain, V.cells, S_known, V_known, C.v, blk, setL, setH, eqS, eq1, cmpS, cmp1, isNil, popTo, killT, setT, leT, V.below, C.below, S_below, R.below, V.val, C.val, S_val, R.val, R.takes, vals, shows, List.any_cons, List.any_nil, unnamed, V.kill, V.names, C.names, S_names, R.names, List.set, List.replicate, ↓q_cond_t, ↓q_cond_f, if_true, if_false, reduceCtorEq, rvals, rvC, result, C_known, V.noL, C.noL, S_noL, R.noL, Option.map, true_and, and_true, ge_iff_le, gt_iff_lt, implies_true, q_ite_t, q_ite_f, beq_iff_eq, bne_iff_ne, q_ne, Nat.reduceAdd, Nat.reducePow, Int.reducePow, Nat.reduceMul, Nat.reduceSub, Nat.reduceLeDiff, Nat.reduceLT, Nat.reduceEqDiff, Int.reduceNeg, Int.reduceLT, Int.reduceLE, Int.reduceEq, Int.reduceNe, Int.reduceAdd, Int.reduceSub, Int.reduceMul, Int.reduceToNat, Int.reduceBEq, Int.reduceBNe, Int.lt_irrefl, m2, a0]
        rw [hpb, hpv, div_dec] at hS
        simp only [decide_eq_true_eq, decide_eq_false_iff_not] at hS
        exact ⟨hS.2, hS.1⟩
      | cons y M =>
        simp only [slT, lsT]
        refine run_sound (Tab.ok_Γ _) 100 _ _ _ _ ?_
        simp (config := { maxSteps := 10000000 }) only [EV1, EV2, EV3, EV4, EV5, EV6, addT, istep, lenR_sl, lenR_ns, lenR_es, pickR, putD, bin1R, un1R, slcR, bnd, capsOf, fillP, S_plain, V_plain, V.cells, S_known, V_known, C.v, blk, setL, setH, eqS, eq1, cmpS, cmp1, isNil, popTo, killT, setT, leT, V.below, C.below, S_below, R.below, V.val, C.val, S_val, R.val, R.takes, vals, shows, List.any_cons, List.any_nil, unnamed, V.kill, V.names, C.names, S_names, R.names, List.set, List.replicate, ↓q_cond_t, ↓q_cond_f, if_true, if_false, reduceCtorEq, rvals, rvC, result, C_known, V.noL, C.noL, S_noL, R.noL, Option.map, true_and, and_true, ge_iff_le, gt_iff_lt, implies_true, q_ite_t, q_ite_f, beq_iff_eq, bne_iff_ne, q_ne, Nat.reduceAdd, Nat.reducePow, Int.reducePow, Nat.reduceMul, Nat.reduceSub, Nat.reduceLeDiff, Nat.reduceLT, Nat.reduceEqDiff, Int.reduceNeg, Int.reduceLT, Int.reduceLE, Int.reduceEq, Int.reduceNe, Int.reduceAdd, Int.reduceSub, Int.reduceMul, Int.reduceToNat, Int.reduceBEq, Int.reduceBNe, Int.lt_irrefl, m2, a0]
        rw [hpb, hpv, div_dec] at hS
        simp only [decide_eq_true_eq, decide_eq_false_iff_not] at hS
        exact ⟨hS.2, fun e => words_leave (by simpa using hMc) (hS.1 e)⟩

end Go.Proofs.Ytdlloccodmdnnaa

/- Package word: Unpack's law. -/
namespace Go.Proofs.Ytdlloccodmdnnaa
open Go.D
set_option linter.all false
set_option maxRecDepth 100000
set_option maxHeartbeats 4000000

theorem unpack_snd : Snd Try.prog 98 (FSpec.of unpackG) := snd_run W2_snd mixed Try.func98 dc98 100 fun args h K hc hS => by
  unfold unpackG at hS
  split at hS
  · rename_i w h
    obtain ⟨hw, hS⟩ := hS
    obtain ⟨w, rfl, hw'⟩ := hw.nat
    simp only [spec_br, spec_ok, decide_eq_true_eq, decide_eq_false_iff_not] at hS
    simp (config := { maxSteps := 10000000 }) only [EV1, EV2, EV3, EV4, EV5, EV6, addT, istep, lenR_sl, lenR_ns, lenR_es, pickR, putD, bin1R, un1R, slcR, bnd, capsOf, fillP, S_plain, V_plain, V.cells, S_known, V_known, C.v, blk, setL, setH, eqS, eq1, cmpS, cmp1, isNil, popTo, killT, setT, leT, V.below, C.below, S_below, R.below, V.val, C.val, S_val, R.val, R.takes, vals, shows, List.any_cons, List.any_nil, unnamed, V.kill, V.names, C.names, S_names, R.names, List.set, List.replicate, ↓q_cond_t, ↓q_cond_f, if_true, if_false, reduceCtorEq, rvals, rvC, result, C_known, V.noL, C.noL, S_noL, R.noL, Option.map, true_and, and_true, ge_iff_le, gt_iff_lt, implies_true, q_ite_t, q_ite_f, beq_iff_eq, bne_iff_ne, q_ne, Nat.reduceAdd, Nat.reducePow, Int.reducePow, Nat.reduceMul, Nat.reduceSub, Nat.reduceLeDiff, Nat.reduceLT, Nat.reduceEqDiff, Int.reduceNeg, Int.reduceLT, Int.reduceLE, Int.reduceEq, Int.reduceNe, Int.reduceAdd, Int.reduceSub, Int.reduceMul, Int.reduceToNat, Int.reduceBEq, Int.reduceBNe, df98]
    refine loop_rule (α := Unit) [] (fun _ => []) (fun _ => []) (fun _ => h) (fun _ => True) (fun _ => 0) () trivial .refl ?_
    rintro X _ _ _
    refine run_sound (Tab.ok_Γ _) 100 _ _ _ _ ?_
    simp (config := { maxSteps := 10000000 }) only [EV1, EV2, EV3, EV4, EV5, EV6, addT, istep, lenR_sl, lenR_ns, lenR_es, pickR, putD, bin1R, un1R, slcR, bnd, capsOf, fillP, S_plain, V_plain, V.cells, S_known, V_known, C.v, blk, setL, setH, eqS, eq1, cmpS, cmp1, isNil, popTo, killT, setT, leT, V.below, C.below, S_below, R.below, V.val, C.val, S_val, R.val, R.takes, vals, shows, List.any_cons, List.any_nil, unnamed, V.kill, V.names, C.names, S_names, R.names, List.set, List.replicate, ↓q_cond_t, ↓q_cond_f, if_true, if_false, reduceCtorEq, rvals, rvC, result, C_known, V.noL, C.noL, S_noL, R.noL, Option.map, true_and, and_true, ge_iff_le, gt_iff_lt, implies_true, q_ite_t, q_ite_f, beq_iff_eq, bne_iff_ne, q_ne, Nat.reduceAdd, Nat.reducePow, Int.reducePow, Nat.reduceMul, Nat.reduceSub, Nat.reduceLeDiff, Nat.reduceLT, Nat.reduceEqDiff, Int.reduceNeg, Int.reduceLT, Int.reduceLE, Int.reduceEq, Int.reduceNe, Int.reduceAdd, Int.reduceSub, Int.reduceMul, Int.reduceToNat, Int.reduceBEq, Int.reduceBNe, Int.lt_irrefl]
    have m2 : min 0 IntKind.u64.bits = 0 := rfl
    simp only [m2, Int.reducePow, Int.ediv_one]
    exact ⟨hS.2, hS.1⟩
  · rename_i w k n c h
    split at hS
    · rename_i B hk
      obtain ⟨⟨hw, hst, hB, hn, hn64⟩, hS⟩ := hS
      obtain ⟨w, rfl, hw'⟩ := hw.nat
      exact unpack_loop hw' hk hst hB hn hn64 hc hS
    · exact hS.elim
  · exact hS.elim

end Go.Proofs.Ytdlloccodmdnnaa

/- Package caps: Decode. -/
namespace Go.Proofs.Ytdlloccodmdnnaa
open Go.D
set_option linter.all false
set_option maxRecDepth 100000
set_option maxHeartbeats 4000000

theorem up_B (w : Nat) : unpackB (w : Int) [4, 16, 5, 3, 4, 6, 5] 0 = decide ((w : Int) / 8796093022208 = 0) := by
  simp only [unpackB, fieldB, Int.reduceAdd, Int.reduceSub, Int.reduceLE, Int.reduceToNat, Nat.reducePow, true_and, and_true, decide_true, Bool.true_and, Int.toNat_natCast]
  rw [Bool.eq_iff_iff]
  simp only [decide_eq_true_eq, and_self, true_and]
  omega
theorem up_V (w : Nat) : unpackV (w : Int) [4, 16, 5, 3, 4, 6, 5] 0 = [(w : Int) % 16, (w : Int) / 16 % 65536, (w : Int) / 1048576 % 32, (w : Int) / 33554432 % 8, (w : Int) / 268435456 % 16, (w : Int) / 4294967296 % 64, (w : Int) / 274877906944 % 32] := by
  simp only [unpackV, getV, Int.reduceAdd, Int.reduceToNat, Nat.reducePow, Int.toNat_natCast, Int.natCast_ediv, Int.natCast_emod, Nat.div_one]
  rfl

theorem nlt (n k : Nat) : (n + k < n) = False := by simp
def decC (w0 w1 : Int) : Cap := ⟨w0 % 16, w0 / 16 % 65536, w0 / 1048576 % 32, if w0 % 16 = 2 ∨ w0 % 16 = 4 ∨ w0 % 16 = 5 ∨ w0 % 16 = 6 ∨ w0 % 16 = 8 then 0 else w1,
  if w0 % 16 = 2 then w1 else 0, w0 / 274877906944 % 32, if w0 % 16 = 4 ∨ w0 % 16 = 5 then w1 else 0, w0 / 33554432 % 8, w0 / 4294967296 % 64, if w0 % 16 = 6 ∨ w0 % 16 = 8 then w1 else 0, w0 / 268435456 % 16⟩
def decB (w0 w1 : Int) : Bool := decide (w0 / 8796093022208 = 0) && (decide (w1 < 4294967296) && rightB (decC w0 w1))
def capZ : Cap := ⟨0, 0, 0, 0, 0, 0, 0, 0, 0, 0, 0⟩
def decG : List V → List Blk → Res
  | [.s (.i .u64 w0), .s (.i .u64 w1)], h => .ob (u64 w0 ∧ u64 w1) (.br (decB w0 w1) (.ok (.tup [.agg (decC w0 w1).cl, .s (.i .i64 0)]) [] h) (.ok (.tup [.agg capZ.cl, .s (.i .i64 60)]) [] h))
  | _, _ => .bad

def TD : Tab := addT 98 unpackG (addT 55 rightG noT)
theorem TD_snd : TD.Snd Try.prog := addT_snd ok98 unpack_snd (addT_snd ok55 right_snd (noT_snd _))
theorem dec_snd : Snd Try.prog 97 (FSpec.of decG) := snd_run TD_snd mixed Try.func97 dc97 300 fun args h K hc hS => by
  unfold decG at hS
  split at hS
  · rename_i w0 w1
    obtain ⟨⟨hw0, hw1⟩, hS⟩ := hS
    obtain ⟨w0, rfl, hw0'⟩ := hw0.nat
    simp only [spec_br, spec_ok] at hS
    have eB := up_B w0
    have eV := up_V w0
    by_cases hA : (w0 : Int) / 8796093022208 = 0
    · by_cases hB : w1 < 4294967296
      · have hB' : ¬ 4294967296 ≤ w1 := by omega
        have i0 : IntKind.i64.wrap ((w0 : Int) % 16) = (w0 : Int) % 16 := wrap64 (by omega) (by omega)
        have i1 : IntKind.i64.wrap ((w0 : Int) / 16 % 65536) = (w0 : Int) / 16 % 65536 := wrap64 (by omega) (by omega)
        have i2 : IntKind.i64.wrap ((w0 : Int) / 1048576 % 32) = (w0 : Int) / 1048576 % 32 := wrap64 (by omega) (by omega)
        have i3 : IntKind.i64.wrap ((w0 : Int) / 33554432 % 8) = (w0 : Int) / 33554432 % 8 := wrap64 (by omega) (by omega)
        have i4 : IntKind.i64.wrap ((w0 : Int) / 268435456 % 16) = (w0 : Int) / 268435456 % 16 := wrap64 (by omega) (by omega)
        have i5 : IntKind.i64.wrap ((w0 : Int) / 4294967296 % 64) = (w0 : Int) / 4294967296 % 64 := wrap64 (by omega) (by omega)
        have i6 : IntKind.i64.wrap ((w0 : Int) / 274877906944 % 32) = (w0 : Int) / 274877906944 % 32 := wrap64 (by omega) (by omega)
        have i7 : IntKind.i64.wrap w1 = w1 := wrap64 (by have := hw1.1; omega) (by omega)
        simp only [decB, hA, hB, decide_true, Bool.true_and, decC] at hS
        have kk : (w0 : Int) % 16 = 2 ∨ (w0 : Int) % 16 = 4 ∨ (w0 : Int) % 16 = 5 ∨ (w0 : Int) % 16 = 6 ∨ (w0 : Int) % 16 = 8 ∨ (¬ (w0 : Int) % 16 = 2 ∧ ¬ (w0 : Int) % 16 = 4 ∧ ¬ (w0 : Int) % 16 = 5 ∧ ¬ (w0 : Int) % 16 = 6 ∧ ¬ (w0 : Int) % 16 = 8) := by omega
        generalize (w0 : Int) % 16 = t at *
        generalize (w0 : Int) / 16 % 65536 = f1 at *
        generalize (w0 : Int) / 1048576 % 32 = f2 at *
        generalize (w0 : Int) / 33554432 % 8 = f3 at *
        generalize (w0 : Int) / 268435456 % 16 = f4 at *
        generalize (w0 : Int) / 4294967296 % 64 = f5 at *
        generalize (w0 : Int) / 274877906944 % 32 = f6 at *
        rcases kk with ht | ht | ht | ht | ht | ⟨k2, k4, k5, k6, k8⟩
        case inr.inr.inr.inr.inr =>
          simp only [k2, k4, k5, k6, k8, or_self, if_false] at hS
          simp (config := { maxSteps := 10000000 }) only [EV1, EV2, EV3, EV4, EV5, EV6, addT, istep, lenR_sl, lenR_ns, lenR_es, pickR, putD, bin1R, un1R, slcR, bnd, capsOf, fillP, S_plain, V_plain, V.cells, S_known, V_known, C.v, blk, setL, setH, eqS, eq1, cmpS, cmp1, isNil, popTo, killT, setT, leT, V.below, C.below, S_below, R.below, V.val, C.val, S_val, R.val, R.takes, vals, shows, List.any_cons, List.any_nil, unnamed, V.kill, V.names, C.names, S_names, R.names, List.set, List.replicate, ↓q_cond_t, ↓q_cond_f, if_true, if_false, reduceCtorEq, rvals, rvC, result, C_known, V.noL, C.noL, S_noL, R.noL, Option.map, true_and, and_true, ge_iff_le, gt_iff_lt, implies_true, q_ite_t, q_ite_f, beq_iff_eq, bne_iff_ne, q_ne, Nat.reduceAdd, Nat.reducePow, Int.reducePow, Nat.reduceMul, Nat.reduceSub, Nat.reduceLeDiff, Nat.reduceLT, Nat.reduceEqDiff, Int.reduceNeg, Int.reduceLT, Int.reduceLE, Int.reduceEq, Int.reduceNe, Int.reduceAdd, Int.reduceSub, Int.reduceMul, Int.reduceToNat, Int.reduceBEq, Int.reduceBNe, df97, TD, unpackG, wordsR, pairV, rightG, capF, R.lend, R.unlend, S_ren, C.ren, V.ren, Blk.ren, take_app, drop_app, Nat.not_lt_zero, Nat.lt_irrefl, Nat.add_sub_cancel_left, Nat.not_lt, Nat.le_add_right, decI, arr, Ic, Uc, List.take, eB, eV, hw0, hA, hB', i0, i1, i2, i3, i4, i5, i6, i7, put, fillP, nlt, k2, k4, k5, k6, k8]
          exact fun c _ => ⟨hc, fun n => hS.2 (by simpa using n), hS.1⟩
        all_goals
          subst ht
          simp only [Int.reduceEq, or_self, or_true, true_or, or_false, false_or, if_true, if_false] at hS
          simp (config := { maxSteps := 10000000 }) only [EV1, EV2, EV3, EV4, EV5, EV6, addT, istep, lenR_sl, lenR_ns, lenR_es, pickR, putD, bin1R, un1R, slcR, bnd, capsOf, fillP, S_plain, V_plain, V.cells, S_known, V_known, C.v, blk, setL, setH, eqS, eq1, cmpS, cmp1, isNil, popTo, killT, setT, leT, V.below, C.below, S_below, R.below, V.val, C.val, S_val, R.val, R.takes, vals, shows, List.any_cons, List.any_nil, unnamed, V.kill, V.names, C.names, S_names, R.names, List.set, List.replicate, ↓q_cond_t, ↓q_cond_f, if_true, if_false, reduceCtorEq, rvals, rvC, result, C_known, V.noL, C.noL, S_noL, R.noL, Option.map, true_and, and_true, ge_iff_le, gt_iff_lt, implies_true, q_ite_t, q_ite_f, beq_iff_eq, bne_iff_ne, q_ne, Nat.reduceAdd, Nat.reducePow, Int.reducePow, Nat.reduceMul, Nat.reduceSub, Nat.reduceLeDiff, Nat.reduceLT, Nat.reduceEqDiff, Int.reduceNeg, Int.reduceLT, Int.reduceLE, Int.reduceEq, Int.reduceNe, Int.reduceAdd, Int.reduceSub, Int.reduceMul, Int.reduceToNat, Int.reduceBEq, Int.reduceBNe, df97, TD, unpackG, wordsR, pairV, rightG, capF, R.lend, R.unlend, S_ren, C.ren, V.ren, Blk.ren, take_app, drop_app, Nat.not_lt_zero, Nat.lt_irrefl, Nat.add_sub_cancel_left, Nat.not_lt, Nat.le_add_right, decI, arr, Ic, Uc, List.take, eB, eV, hw0, hA, hB', i0, i1, i2, i3, i4, i5, i6, i7, put, fillP, nlt]
          exact fun c _ => ⟨hc, fun n => hS.2 (by simpa using n), hS.1⟩
      · have hB' : 4294967296 ≤ w1 := by omega
        simp only [decB, hB, decide_false, Bool.false_and, Bool.and_false] at hS
        simp (config := { maxSteps := 10000000 }) only [EV1, EV2, EV3, EV4, EV5, EV6, addT, istep, lenR_sl, lenR_ns, lenR_es, pickR, putD, bin1R, un1R, slcR, bnd, capsOf, fillP, S_plain, V_plain, V.cells, S_known, V_known, C.v, blk, setL, setH, eqS, eq1, cmpS, cmp1, isNil, popTo, killT, setT, leT, V.below, C.below, S_below, R.below, V.val, C.val, S_val, R.val, R.takes, vals, shows, List.any_cons, List.any_nil, unnamed, V.kill, V.names, C.names, S_names, R.names, List.set, List.replicate, ↓q_cond_t, ↓q_cond_f, if_true, if_false, reduceCtorEq, rvals, rvC, result, C_known, V.noL, C.noL, S_noL, R.noL, Option.map, true_and, and_true, ge_iff_le, gt_iff_lt, implies_true, q_ite_t, q_ite_f, beq_iff_eq, bne_iff_ne, q_ne, Nat.reduceAdd, Nat.reducePow, Int.reducePow, Nat.reduceMul, Nat.reduceSub, Nat.reduceLeDiff, Nat.reduceLT, Nat.reduceEqDiff, Int.reduceNeg, Int.reduceLT, Int.reduceLE, Int.reduceEq, Int.reduceNe, Int.reduceAdd, Int.reduceSub, Int.reduceMul, Int.reduceToNat, Int.reduceBEq, Int.reduceBNe, df97, TD, unpackG, wordsR, pairV, rightG, capF, R.lend, R.unlend, S_ren, C.ren, V.ren, Blk.ren, take_app, drop_app, Nat.not_lt_zero, Nat.lt_irrefl, Nat.add_sub_cancel_left, Nat.not_lt, Nat.le_add_right, decI, arr, Ic, Uc, List.take, eB, eV, hw0, hA, hB', put, fillP, nlt]
        exact fun c _ => ⟨hc, hS.2 trivial⟩
    · simp only [decB, hA, decide_false, Bool.false_and] at hS
      simp (config := { maxSteps := 10000000 }) only [EV1, EV2, EV3, EV4, EV5, EV6, addT, istep, lenR_sl, lenR_ns, lenR_es, pickR, putD, bin1R, un1R, slcR, bnd, capsOf, fillP, S_plain, V_plain, V.cells, S_known, V_known, C.v, blk, setL, setH, eqS, eq1, cmpS, cmp1, isNil, popTo, killT, setT, leT, V.below, C.below, S_below, R.below, V.val, C.val, S_val, R.val, R.takes, vals, shows, List.any_cons, List.any_nil, unnamed, V.kill, V.names, C.names, S_names, R.names, List.set, List.replicate, ↓q_cond_t, ↓q_cond_f, if_true, if_false, reduceCtorEq, rvals, rvC, result, C_known, V.noL, C.noL, S_noL, R.noL, Option.map, true_and, and_true, ge_iff_le, gt_iff_lt, implies_true, q_ite_t, q_ite_f, beq_iff_eq, bne_iff_ne, q_ne, Nat.reduceAdd, Nat.reducePow, Int.reducePow, Nat.reduceMul, Nat.reduceSub, Nat.reduceLeDiff, Nat.reduceLT, Nat.reduceEqDiff, Int.reduceNeg, Int.reduceLT, Int.reduceLE, Int.reduceEq, Int.reduceNe, Int.reduceAdd, Int.reduceSub, Int.reduceMul, Int.reduceToNat, Int.reduceBEq, Int.reduceBNe, df97, TD, unpackG, wordsR, rightG, capF, R.lend, R.unlend, S_ren, C.ren, V.ren, Blk.ren, take_app, drop_app, Nat.not_lt_zero, Nat.lt_irrefl, Nat.add_sub_cancel_left, Nat.not_lt, Nat.le_add_right, decI, arr, Ic, Uc, List.take, eB, eV, hw0, hA, put, fillP, nlt]
      exact ⟨hc, hS.2 trivial⟩
  · exact hS.elim
end Go.Proofs.Ytdlloccodmdnnaa

/- The document's Decode. -/
namespace Go.Proofs.Ytdlloccodmdnnaa
open Go.D
set_option linter.all false
set_option maxRecDepth 100000
set_option maxHeartbeats 4000000

theorem mark_zero {c : Cap} (h : rightB c = true) (h1 : ¬ c.ty = 1) (h2 : ¬ c.ty = 10) : c.mark = 0 := by
  obtain ⟨t, o, b, d, e, g, i, j, k, l, m⟩ := c
  simp only [rightB] at h h1 h2 ⊢
  rcases kinds t with rfl | rfl | rfl | rfl | rfl | rfl | rfl | rfl | rfl | rfl | rfl | rfl | rfl | rfl | ⟨k0, k1, k2, k3, k4, k5, k6, k7, k8, k9, k10, k11, k12, k13, ho⟩
  all_goals try simp only [k0, k1, k2, k3, k4, k5, k6, k7, k8, k9, k10, k11, k12, k13, if_false] at h
  all_goals try simp only [Int.reduceEq, if_true, if_false, ite_t, ite_f, Bool.and_eq_true, inV_iff, mapV, Bool.or_eq_true, decide_eq_true_eq, beq_iff_eq, not_or, Classical.not_not, nOk_iff, and_true] at h
  case inr.inr.inr.inr.inr.inr.inr.inr.inr.inr.inr.inr.inr.inr => exact absurd h (by decide)
  case inr.inl => exact absurd rfl h1
  case inr.inr.inr.inr.inr.inr.inr.inr.inr.inr.inl => exact absurd rfl h2
  all_goals omega

theorem w0_back {w : Nat} : ((w : Int) % 16 + 16 * ((w : Int) / 16 % 65536) + 1048576 * ((w : Int) / 1048576 % 32) + 33554432 * ((w : Int) / 33554432 % 8) + 268435456 * ((w : Int) / 268435456 % 16) + 4294967296 * ((w : Int) / 4294967296 % 64) + 274877906944 * ((w : Int) / 274877906944 % 32) = w) ↔ (w : Int) / 8796093022208 = 0 := by
  omega

def TG : Tab := addT 90 encG noT
theorem TG_snd : TG.Snd Try.prog := addT_snd ok90 renc_snd (noT_snd _)
theorem rdec_snd : Snd Try.prog 101 (FSpec.of decG) := snd_run TG_snd mixed Try.func101 dc101 300 fun args h K hc hS => by
  unfold decG at hS
  split at hS
  · rename_i w0 w1
    obtain ⟨⟨hw0, hw1⟩, hS⟩ := hS
    obtain ⟨w0, rfl, hw0'⟩ := hw0.nat
    simp only [spec_br, spec_ok] at hS
    by_cases hB : w1 < 4294967296
    · have hB' : ¬ 4294967296 ≤ w1 := by omega
      have hb := w0_back (w := w0)
      have r0 : (w0 : Int).tmod 16 = (w0 : Int) % 16 := Int.tmod_eq_emod_of_nonneg (by omega)
      have r1 : ((w0 : Int) / 16).tmod 65536 = (w0 : Int) / 16 % 65536 := Int.tmod_eq_emod_of_nonneg (by omega)
      have r2 : ((w0 : Int) / 1048576).tmod 32 = (w0 : Int) / 1048576 % 32 := Int.tmod_eq_emod_of_nonneg (by omega)
      have r3 : ((w0 : Int) / 33554432).tmod 8 = (w0 : Int) / 33554432 % 8 := Int.tmod_eq_emod_of_nonneg (by omega)
      have r4 : ((w0 : Int) / 268435456).tmod 16 = (w0 : Int) / 268435456 % 16 := Int.tmod_eq_emod_of_nonneg (by omega)
      have r5 : ((w0 : Int) / 4294967296).tmod 64 = (w0 : Int) / 4294967296 % 64 := Int.tmod_eq_emod_of_nonneg (by omega)
      have r6 : ((w0 : Int) / 274877906944).tmod 32 = (w0 : Int) / 274877906944 % 32 := Int.tmod_eq_emod_of_nonneg (by omega)
      have i0 : IntKind.i64.wrap ((w0 : Int) % 16) = (w0 : Int) % 16 := wrap64 (by omega) (by omega)
      have i1 : IntKind.i64.wrap ((w0 : Int) / 16 % 65536) = (w0 : Int) / 16 % 65536 := wrap64 (by omega) (by omega)
      have i2 : IntKind.i64.wrap ((w0 : Int) / 1048576 % 32) = (w0 : Int) / 1048576 % 32 := wrap64 (by omega) (by omega)
      have i3 : IntKind.i64.wrap ((w0 : Int) / 33554432 % 8) = (w0 : Int) / 33554432 % 8 := wrap64 (by omega) (by omega)
      have i4 : IntKind.i64.wrap ((w0 : Int) / 268435456 % 16) = (w0 : Int) / 268435456 % 16 := wrap64 (by omega) (by omega)
      have i5 : IntKind.i64.wrap ((w0 : Int) / 4294967296 % 64) = (w0 : Int) / 4294967296 % 64 := wrap64 (by omega) (by omega)
      have i6 : IntKind.i64.wrap ((w0 : Int) / 274877906944 % 32) = (w0 : Int) / 274877906944 % 32 := wrap64 (by omega) (by omega)
      have i7 : IntKind.i64.wrap w1 = w1 := wrap64 (by have := hw1.1; omega) (by omega)
      have m4 : min 4 IntKind.u64.bits = 4 := rfl
      have m20 : min 20 IntKind.u64.bits = 20 := rfl
      have m25 : min 25 IntKind.u64.bits = 25 := rfl
      have m28 : min 28 IntKind.u64.bits = 28 := rfl
      have m32 : min 32 IntKind.u64.bits = 32 := rfl
      have m38 : min 38 IntKind.u64.bits = 38 := rfl
      simp only [decB, hB, decide_true, Bool.true_and, decC, Bool.and_eq_true, Bool.and_eq_false_iff, decide_eq_true_eq, decide_eq_false_iff_not] at hS
      rw [← hb] at hS
      have kk : (w0 : Int) % 16 = 1 ∨ (w0 : Int) % 16 = 10 ∨ (w0 : Int) % 16 = 2 ∨ (w0 : Int) % 16 = 4 ∨ (w0 : Int) % 16 = 5 ∨ (w0 : Int) % 16 = 6 ∨ (w0 : Int) % 16 = 8 ∨ (¬ (w0 : Int) % 16 = 1 ∧ ¬ (w0 : Int) % 16 = 10 ∧ ¬ (w0 : Int) % 16 = 2 ∧ ¬ (w0 : Int) % 16 = 4 ∧ ¬ (w0 : Int) % 16 = 5 ∧ ¬ (w0 : Int) % 16 = 6 ∧ ¬ (w0 : Int) % 16 = 8) := by omega
      clear hb
      obtain ⟨q0, e0⟩ : ∃ q, q = (w0 : Int) % 16 := ⟨_, rfl⟩
      obtain ⟨q1, e1⟩ : ∃ q, q = (w0 : Int) / 16 % 65536 := ⟨_, rfl⟩
      obtain ⟨q2, e2⟩ : ∃ q, q = (w0 : Int) / 1048576 % 32 := ⟨_, rfl⟩
      obtain ⟨q3, e3⟩ : ∃ q, q = (w0 : Int) / 33554432 % 8 := ⟨_, rfl⟩
      obtain ⟨q4, e4⟩ : ∃ q, q = (w0 : Int) / 268435456 % 16 := ⟨_, rfl⟩
      obtain ⟨q5, e5⟩ : ∃ q, q = (w0 : Int) / 4294967296 % 64 := ⟨_, rfl⟩
      obtain ⟨q6, e6⟩ : ∃ q, q = (w0 : Int) / 274877906944 % 32 := ⟨_, rfl⟩
      rw [← e0] at r0 i0 kk
      rw [← e1] at r1 i1
      rw [← e2] at r2 i2
      rw [← e3] at r3 i3
      rw [← e4] at r4 i4
      rw [← e5] at r5 i5
      rw [← e6] at r6 i6
      rw [← e0, ← e1, ← e2, ← e3, ← e4, ← e5, ← e6] at hS
      clear e0 e1 e2 e3 e4 e5 e6
      rcases kk with rfl | rfl | rfl | rfl | rfl | rfl | rfl | ⟨k1, k10, k2, k4, k5, k6, k8⟩
      case inl =>
        simp only [Int.reduceEq, or_self, or_true, true_or, or_false, false_or, if_true, if_false] at hS
        cases hr : rightB ⟨1, q1, q2, w1, 0, q6, 0, q3, q5, 0, q4⟩ with
        | true =>
          have hn : (⟨1, q1, q2, w1, 0, q6, 0, q3, q5, 0, q4⟩ : Cap).num = w1 := by simp [Cap.num]
          simp (config := { maxSteps := 10000000 }) only [EV1, EV2, EV3, EV4, EV5, EV6, addT, istep, lenR_sl, lenR_ns, lenR_es, pickR, putD, bin1R, un1R, slcR, bnd, capsOf, fillP, S_plain, V_plain, V.cells, S_known, V_known, C.v, blk, setL, setH, eqS, eq1, cmpS, cmp1, isNil, popTo, killT, setT, leT, V.below, C.below, S_below, R.below, V.val, C.val, S_val, R.val, R.takes, vals, shows, List.any_cons, List.any_nil, unnamed, V.kill, V.names, C.names, S_names, R.names, List.set, List.replicate, ↓q_cond_t, ↓q_cond_f, if_true, if_false, reduceCtorEq, rvals, rvC, result, C_known, V.noL, C.noL, S_noL, R.noL, Option.map, true_and, and_true, ge_iff_le, gt_iff_lt, implies_true, q_ite_t, q_ite_f, beq_iff_eq, bne_iff_ne, q_ne, Nat.reduceAdd, Nat.reducePow, Int.reducePow, Nat.reduceMul, Nat.reduceSub, Nat.reduceLeDiff, Nat.reduceLT, Nat.reduceEqDiff, Int.reduceNeg, Int.reduceLT, Int.reduceLE, Int.reduceEq, Int.reduceNe, Int.reduceAdd, Int.reduceSub, Int.reduceMul, Int.reduceToNat, Int.reduceBEq, Int.reduceBNe, df101, TG, encG, capF, hB', r0, r1, r2, r3, r4, r5, r6, i0, i1, i2, i3, i4, i5, i6, i7, m4, m20, m25, m28, m32, m38, put, fillP, hr, hn]
          exact ⟨fun n => hS.2 (.inl n), fun n => hS.1 ⟨n, hr⟩⟩
        | false =>
          simp (config := { maxSteps := 10000000 }) only [EV1, EV2, EV3, EV4, EV5, EV6, addT, istep, lenR_sl, lenR_ns, lenR_es, pickR, putD, bin1R, un1R, slcR, bnd, capsOf, fillP, S_plain, V_plain, V.cells, S_known, V_known, C.v, blk, setL, setH, eqS, eq1, cmpS, cmp1, isNil, popTo, killT, setT, leT, V.below, C.below, S_below, R.below, V.val, C.val, S_val, R.val, R.takes, vals, shows, List.any_cons, List.any_nil, unnamed, V.kill, V.names, C.names, S_names, R.names, List.set, List.replicate, ↓q_cond_t, ↓q_cond_f, if_true, if_false, reduceCtorEq, rvals, rvC, result, C_known, V.noL, C.noL, S_noL, R.noL, Option.map, true_and, and_true, ge_iff_le, gt_iff_lt, implies_true, q_ite_t, q_ite_f, beq_iff_eq, bne_iff_ne, q_ne, Nat.reduceAdd, Nat.reducePow, Int.reducePow, Nat.reduceMul, Nat.reduceSub, Nat.reduceLeDiff, Nat.reduceLT, Nat.reduceEqDiff, Int.reduceNeg, Int.reduceLT, Int.reduceLE, Int.reduceEq, Int.reduceNe, Int.reduceAdd, Int.reduceSub, Int.reduceMul, Int.reduceToNat, Int.reduceBEq, Int.reduceBNe, df101, TG, encG, capF, hB', r0, r1, r2, r3, r4, r5, r6, i0, i1, i2, i3, i4, i5, i6, i7, m4, m20, m25, m28, m32, m38, put, fillP, hr]
          exact hS.2 (.inr hr)
      case inr.inl =>
        simp only [Int.reduceEq, or_self, or_true, true_or, or_false, false_or, if_true, if_false] at hS
        cases hr : rightB ⟨10, q1, q2, w1, 0, q6, 0, q3, q5, 0, q4⟩ with
        | true =>
          have hn : (⟨10, q1, q2, w1, 0, q6, 0, q3, q5, 0, q4⟩ : Cap).num = w1 := by simp [Cap.num]
          simp (config := { maxSteps := 10000000 }) only [EV1, EV2, EV3, EV4, EV5, EV6, addT, istep, lenR_sl, lenR_ns, lenR_es, pickR, putD, bin1R, un1R, slcR, bnd, capsOf, fillP, S_plain, V_plain, V.cells, S_known, V_known, C.v, blk, setL, setH, eqS, eq1, cmpS, cmp1, isNil, popTo, killT, setT, leT, V.below, C.below, S_below, R.below, V.val, C.val, S_val, R.val, R.takes, vals, shows, List.any_cons, List.any_nil, unnamed, V.kill, V.names, C.names, S_names, R.names, List.set, List.replicate, ↓q_cond_t, ↓q_cond_f, if_true, if_false, reduceCtorEq, rvals, rvC, result, C_known, V.noL, C.noL, S_noL, R.noL, Option.map, true_and, and_true, ge_iff_le, gt_iff_lt, implies_true, q_ite_t, q_ite_f, beq_iff_eq, bne_iff_ne, q_ne, Nat.reduceAdd, Nat.reducePow, Int.reducePow, Nat.reduceMul, Nat.reduceSub, Nat.reduceLeDiff, Nat.reduceLT, Nat.reduceEqDiff, Int.reduceNeg, Int.reduceLT, Int.reduceLE, Int.reduceEq, Int.reduceNe, Int.reduceAdd, Int.reduceSub, Int.reduceMul, Int.reduceToNat, Int.reduceBEq, Int.reduceBNe, df101, TG, encG, capF, hB', r0, r1, r2, r3, r4, r5, r6, i0, i1, i2, i3, i4, i5, i6, i7, m4, m20, m25, m28, m32, m38, put, fillP, hr, hn]
          exact ⟨fun n => hS.2 (.inl n), fun n => hS.1 ⟨n, hr⟩⟩
        | false =>
          simp (config := { maxSteps := 10000000 }) only [EV1, EV2, EV3, EV4, EV5, EV6, addT, istep, lenR_sl, lenR_ns, lenR_es, pickR, putD, bin1R, un1R, slcR, bnd, capsOf, fillP, S_plain, V_plain, V.cells, S_known, V_known, C.v, blk, setL, setH, eqS, eq1, cmpS, cmp1, isNil, popTo, killT, setT, leT, V.below, C.below, S_below, R.below, V.val, C.val, S_val, R.val, R.takes, vals, shows, List.any_cons, List.any_nil, unnamed, V.kill, V.names, C.names, S_names, R.names, List.set, List.replicate, ↓q_cond_t, ↓q_cond_f, if_true, if_false, reduceCtorEq, rvals, rvC, result, C_known, V.noL, C.noL, S_noL, R.noL, Option.map, true_and, and_true, ge_iff_le, gt_iff_lt, implies_true, q_ite_t, q_ite_f, beq_iff_eq, bne_iff_ne, q_ne, Nat.reduceAdd, Nat.reducePow, Int.reducePow, Nat.reduceMul, Nat.reduceSub, Nat.reduceLeDiff, Nat.reduceLT, Nat.reduceEqDiff, Int.reduceNeg, Int.reduceLT, Int.reduceLE, Int.reduceEq, Int.reduceNe, Int.reduceAdd, Int.reduceSub, Int.reduceMul, Int.reduceToNat, Int.reduceBEq, Int.reduceBNe, df101, TG, encG, capF, hB', r0, r1, r2, r3, r4, r5, r6, i0, i1, i2, i3, i4, i5, i6, i7, m4, m20, m25, m28, m32, m38, put, fillP, hr]
          exact hS.2 (.inr hr)
      case inr.inr.inl =>
        simp only [Int.reduceEq, or_self, or_true, true_or, or_false, false_or, if_true, if_false] at hS
        cases hr : rightB ⟨2, q1, q2, 0, w1, q6, 0, q3, q5, 0, q4⟩ with
        | true =>
          have hn : (⟨2, q1, q2, 0, w1, q6, 0, q3, q5, 0, q4⟩ : Cap).num = w1 := by simp [Cap.num]
          simp (config := { maxSteps := 10000000 }) only [EV1, EV2, EV3, EV4, EV5, EV6, addT, istep, lenR_sl, lenR_ns, lenR_es, pickR, putD, bin1R, un1R, slcR, bnd, capsOf, fillP, S_plain, V_plain, V.cells, S_known, V_known, C.v, blk, setL, setH, eqS, eq1, cmpS, cmp1, isNil, popTo, killT, setT, leT, V.below, C.below, S_below, R.below, V.val, C.val, S_val, R.val, R.takes, vals, shows, List.any_cons, List.any_nil, unnamed, V.kill, V.names, C.names, S_names, R.names, List.set, List.replicate, ↓q_cond_t, ↓q_cond_f, if_true, if_false, reduceCtorEq, rvals, rvC, result, C_known, V.noL, C.noL, S_noL, R.noL, Option.map, true_and, and_true, ge_iff_le, gt_iff_lt, implies_true, q_ite_t, q_ite_f, beq_iff_eq, bne_iff_ne, q_ne, Nat.reduceAdd, Nat.reducePow, Int.reducePow, Nat.reduceMul, Nat.reduceSub, Nat.reduceLeDiff, Nat.reduceLT, Nat.reduceEqDiff, Int.reduceNeg, Int.reduceLT, Int.reduceLE, Int.reduceEq, Int.reduceNe, Int.reduceAdd, Int.reduceSub, Int.reduceMul, Int.reduceToNat, Int.reduceBEq, Int.reduceBNe, df101, TG, encG, capF, hB', r0, r1, r2, r3, r4, r5, r6, i0, i1, i2, i3, i4, i5, i6, i7, m4, m20, m25, m28, m32, m38, put, fillP, hr, hn]
          exact ⟨fun n => hS.2 (.inl n), fun n => hS.1 ⟨n, hr⟩⟩
        | false =>
          simp (config := { maxSteps := 10000000 }) only [EV1, EV2, EV3, EV4, EV5, EV6, addT, istep, lenR_sl, lenR_ns, lenR_es, pickR, putD, bin1R, un1R, slcR, bnd, capsOf, fillP, S_plain, V_plain, V.cells, S_known, V_known, C.v, blk, setL, setH, eqS, eq1, cmpS, cmp1, isNil, popTo, killT, setT, leT, V.below, C.below, S_below, R.below, V.val, C.val, S_val, R.val, R.takes, vals, shows, List.any_cons, List.any_nil, unnamed, V.kill, V.names, C.names, S_names, R.names, List.set, List.replicate, ↓q_cond_t, ↓q_cond_f, if_true, if_false, reduceCtorEq, rvals, rvC, result, C_known, V.noL, C.noL, S_noL, R.noL, Option.map, true_and, and_true, ge_iff_le, gt_iff_lt, implies_true, q_ite_t, q_ite_f, beq_iff_eq, bne_iff_ne, q_ne, Nat.reduceAdd, Nat.reducePow, Int.reducePow, Nat.reduceMul, Nat.reduceSub, Nat.reduceLeDiff, Nat.reduceLT, Nat.reduceEqDiff, Int.reduceNeg, Int.reduceLT, Int.reduceLE, Int.reduceEq, Int.reduceNe, Int.reduceAdd, Int.reduceSub, Int.reduceMul, Int.reduceToNat, Int.reduceBEq, Int.reduceBNe, df101, TG, encG, capF, hB', r0, r1, r2, r3, r4, r5, r6, i0, i1, i2, i3, i4, i5, i6, i7, m4, m20, m25, m28, m32, m38, put, fillP, hr]
          exact hS.2 (.inr hr)
      case inr.inr.inr.inl =>
        simp only [Int.reduceEq, or_self, or_true, true_or, or_false, false_or, if_true, if_false] at hS
        cases hr : rightB ⟨4, q1, q2, 0, 0, q6, w1, q3, q5, 0, q4⟩ with
        | true =>
          have hn : (⟨4, q1, q2, 0, 0, q6, w1, q3, q5, 0, q4⟩ : Cap).num = w1 := by simp [Cap.num]
          simp (config := { maxSteps := 10000000 }) only [EV1, EV2, EV3, EV4, EV5, EV6, addT, istep, lenR_sl, lenR_ns, lenR_es, pickR, putD, bin1R, un1R, slcR, bnd, capsOf, fillP, S_plain, V_plain, V.cells, S_known, V_known, C.v, blk, setL, setH, eqS, eq1, cmpS, cmp1, isNil, popTo, killT, setT, leT, V.below, C.below, S_below, R.below, V.val, C.val, S_val, R.val, R.takes, vals, shows, List.any_cons, List.any_nil, unnamed, V.kill, V.names, C.names, S_names, R.names, List.set, List.replicate, ↓q_cond_t, ↓q_cond_f, if_true, if_false, reduceCtorEq, rvals, rvC, result, C_known, V.noL, C.noL, S_noL, R.noL, Option.map, true_and, and_true, ge_iff_le, gt_iff_lt, implies_true, q_ite_t, q_ite_f, beq_iff_eq, bne_iff_ne, q_ne, Nat.reduceAdd, Nat.reducePow, Int.reducePow, Nat.reduceMul, Nat.reduceSub, Nat.reduceLeDiff, Nat.reduceLT, Nat.reduceEqDiff, Int.reduceNeg, Int.reduceLT, Int.reduceLE, Int.reduceEq, Int.reduceNe, Int.reduceAdd, Int.reduceSub, Int.reduceMul, Int.reduceToNat, Int.reduceBEq, Int.reduceBNe, df101, TG, encG, capF, hB', r0, r1, r2, r3, r4, r5, r6, i0, i1, i2, i3, i4, i5, i6, i7, m4, m20, m25, m28, m32, m38, put, fillP, hr, hn]
          exact ⟨fun n => hS.2 (.inl n), fun n => hS.1 ⟨n, hr⟩⟩
        | false =>
          simp (config := { maxSteps := 10000000 }) only [EV1, EV2, EV3, EV4, EV5, EV6, addT, istep, lenR_sl, lenR_ns, lenR_es, pickR, putD, bin1R, un1R, slcR, bnd, capsOf, fillP, S_plain, V_plain, V.cells, S_known, V_known, C.v, blk, setL, setH, eqS, eq1, cmpS, cmp1, isNil, popTo, killT, setT, leT, V.below, C.below, S_below, R.below, V.val, C.val, S_val, R.val, R.takes, vals, shows, List.any_cons, List.any_nil, unnamed, V.kill, V.names, C.names, S_names, R.names, List.set, List.replicate, ↓q_cond_t, ↓q_cond_f, if_true, if_false, reduceCtorEq, rvals, rvC, result, C_known, V.noL, C.noL, S_noL, R.noL, Option.map, true_and, and_true, ge_iff_le, gt_iff_lt, implies_true, q_ite_t, q_ite_f, beq_iff_eq, bne_iff_ne, q_ne, Nat.reduceAdd, Nat.reducePow, Int.reducePow, Nat.reduceMul, Nat.reduceSub, Nat.reduceLeDiff, Nat.reduceLT, Nat.reduceEqDiff, Int.reduceNeg, Int.reduceLT, Int.reduceLE, Int.reduceEq, Int.reduceNe, Int.reduceAdd, Int.reduceSub, Int.reduceMul, Int.reduceToNat, Int.reduceBEq, Int.reduceBNe, df101, TG, encG, capF, hB', r0, r1, r2, r3, r4, r5, r6, i0, i1, i2, i3, i4, i5, i6, i7, m4, m20, m25, m28, m32, m38, put, fillP, hr]
          exact hS.2 (.inr hr)
      case inr.inr.inr.inr.inl =>
        simp only [Int.reduceEq, or_self, or_true, true_or, or_false, false_or, if_true, if_false] at hS
        cases hr : rightB ⟨5, q1, q2, 0, 0, q6, w1, q3, q5, 0, q4⟩ with
        | true =>
          have hn : (⟨5, q1, q2, 0, 0, q6, w1, q3, q5, 0, q4⟩ : Cap).num = w1 := by simp [Cap.num]
          simp (config := { maxSteps := 10000000 }) only [EV1, EV2, EV3, EV4, EV5, EV6, addT, istep, lenR_sl, lenR_ns, lenR_es, pickR, putD, bin1R, un1R, slcR, bnd, capsOf, fillP, S_plain, V_plain, V.cells, S_known, V_known, C.v, blk, setL, setH, eqS, eq1, cmpS, cmp1, isNil, popTo, killT, setT, leT, V.below, C.below, S_below, R.below, V.val, C.val, S_val, R.val, R.takes, vals, shows, List.any_cons, List.any_nil, unnamed, V.kill, V.names, C.names, S_names, R.names, List.set, List.replicate, ↓q_cond_t, ↓q_cond_f, if_true, if_false, reduceCtorEq, rvals, rvC, result, C_known, V.noL, C.noL, S_noL, R.noL, Option.map, true_and, and_true, ge_iff_le, gt_iff_lt, implies_true, q_ite_t, q_ite_f, beq_iff_eq, bne_iff_ne, q_ne, Nat.reduceAdd, Nat.reducePow, Int.reducePow, Nat.reduceMul, Nat.reduceSub, Nat.reduceLeDiff, Nat.reduceLT, Nat.reduceEqDiff, Int.reduceNeg, Int.reduceLT, Int.reduceLE, Int.reduceEq, Int.reduceNe, Int.reduceAdd, Int.reduceSub, Int.reduceMul, Int.reduceToNat, Int.reduceBEq, Int.reduceBNe, df101, TG, encG, capF, hB', r0, r1, r2, r3, r4, r5, r6, i0, i1, i2, i3, i4, i5, i6, i7, m4, m20, m25, m28, m32, m38, put, fillP, hr, hn]
          exact ⟨fun n => hS.2 (.inl n), fun n => hS.1 ⟨n, hr⟩⟩
        | false =>
          simp (config := { maxSteps := 10000000 }) only [EV1, EV2, EV3, EV4, EV5, EV6, addT, istep, lenR_sl, lenR_ns, lenR_es, pickR, putD, bin1R, un1R, slcR, bnd, capsOf, fillP, S_plain, V_plain, V.cells, S_known, V_known, C.v, blk, setL, setH, eqS, eq1, cmpS, cmp1, isNil, popTo, killT, setT, leT, V.below, C.below, S_below, R.below, V.val, C.val, S_val, R.val, R.takes, vals, shows, List.any_cons, List.any_nil, unnamed, V.kill, V.names, C.names, S_names, R.names, List.set, List.replicate, ↓q_cond_t, ↓q_cond_f, if_true, if_false, reduceCtorEq, rvals, rvC, result, C_known, V.noL, C.noL, S_noL, R.noL, Option.map, true_and, and_true, ge_iff_le, gt_iff_lt, implies_true, q_ite_t, q_ite_f, beq_iff_eq, bne_iff_ne, q_ne, Nat.reduceAdd, Nat.reducePow, Int.reducePow, Nat.reduceMul, Nat.reduceSub, Nat.reduceLeDiff, Nat.reduceLT, Nat.reduceEqDiff, Int.reduceNeg, Int.reduceLT, Int.reduceLE, Int.reduceEq, Int.reduceNe, Int.reduceAdd, Int.reduceSub, Int.reduceMul, Int.reduceToNat, Int.reduceBEq, Int.reduceBNe, df101, TG, encG, capF, hB', r0, r1, r2, r3, r4, r5, r6, i0, i1, i2, i3, i4, i5, i6, i7, m4, m20, m25, m28, m32, m38, put, fillP, hr]
          exact hS.2 (.inr hr)
      case inr.inr.inr.inr.inr.inl =>
        simp only [Int.reduceEq, or_self, or_true, true_or, or_false, false_or, if_true, if_false] at hS
        cases hr : rightB ⟨6, q1, q2, 0, 0, q6, 0, q3, q5, w1, q4⟩ with
        | true =>
          have hn : (⟨6, q1, q2, 0, 0, q6, 0, q3, q5, w1, q4⟩ : Cap).num = w1 := by simp [Cap.num]
          simp (config := { maxSteps := 10000000 }) only [EV1, EV2, EV3, EV4, EV5, EV6, addT, istep, lenR_sl, lenR_ns, lenR_es, pickR, putD, bin1R, un1R, slcR, bnd, capsOf, fillP, S_plain, V_plain, V.cells, S_known, V_known, C.v, blk, setL, setH, eqS, eq1, cmpS, cmp1, isNil, popTo, killT, setT, leT, V.below, C.below, S_below, R.below, V.val, C.val, S_val, R.val, R.takes, vals, shows, List.any_cons, List.any_nil, unnamed, V.kill, V.names, C.names, S_names, R.names, List.set, List.replicate, ↓q_cond_t, ↓q_cond_f, if_true, if_false, reduceCtorEq, rvals, rvC, result, C_known, V.noL, C.noL, S_noL, R.noL, Option.map, true_and, and_true, ge_iff_le, gt_iff_lt, implies_true, q_ite_t, q_ite_f, beq_iff_eq, bne_iff_ne, q_ne, Nat.reduceAdd, Nat.reducePow, Int.reducePow, Nat.reduceMul, Nat.reduceSub, Nat.reduceLeDiff, Nat.reduceLT, Nat.reduceEqDiff, Int.reduceNeg, Int.reduceLT, Int.reduceLE, Int.reduceEq, Int.reduceNe, Int.reduceAdd, Int.reduceSub, Int.reduceMul, Int.reduceToNat, Int.reduceBEq, Int.reduceBNe, df101, TG, encG, capF, hB', r0, r1, r2, r3, r4, r5, r6, i0, i1, i2, i3, i4, i5, i6, i7, m4, m20, m25, m28, m32, m38, put, fillP, hr, hn]
          exact ⟨fun n => hS.2 (.inl n), fun n => hS.1 ⟨n, hr⟩⟩
        | false =>
          simp (config := { maxSteps := 10000000 }) only [EV1, EV2, EV3, EV4, EV5, EV6, addT, istep, lenR_sl, lenR_ns, lenR_es, pickR, putD, bin1R, un1R, slcR, bnd, capsOf, fillP, S_plain, V_plain, V.cells, S_known, V_known, C.v, blk, setL, setH, eqS, eq1, cmpS, cmp1, isNil, popTo, killT, setT, leT, V.below, C.below, S_below, R.below, V.val, C.val, S_val, R.val, R.takes, vals, shows, List.any_cons, List.any_nil, unnamed, V.kill, V.names, C.names, S_names, R.names, List.set, List.replicate, ↓q_cond_t, ↓q_cond_f, if_true, if_false, reduceCtorEq, rvals, rvC, result, C_known, V.noL, C.noL, S_noL, R.noL, Option.map, true_and, and_true, ge_iff_le, gt_iff_lt, implies_true, q_ite_t, q_ite_f, beq_iff_eq, bne_iff_ne, q_ne, Nat.reduceAdd, Nat.reducePow, Int.reducePow, Nat.reduceMul, Nat.reduceSub, Nat.reduceLeDiff, Nat.reduceLT, Nat.reduceEqDiff, Int.reduceNeg, Int.reduceLT, Int.reduceLE, Int.reduceEq, Int.reduceNe, Int.reduceAdd, Int.reduceSub, Int.reduceMul, Int.reduceToNat, Int.reduceBEq, Int.reduceBNe, df101, TG, encG, capF, hB', r0, r1, r2, r3, r4, r5, r6, i0, i1, i2, i3, i4, i5, i6, i7, m4, m20, m25, m28, m32, m38, put, fillP, hr]
          exact hS.2 (.inr hr)
      case inr.inr.inr.inr.inr.inr.inl =>
        simp only [Int.reduceEq, or_self, or_true, true_or, or_false, false_or, if_true, if_false] at hS
        cases hr : rightB ⟨8, q1, q2, 0, 0, q6, 0, q3, q5, w1, q4⟩ with
        | true =>
          have hn : (⟨8, q1, q2, 0, 0, q6, 0, q3, q5, w1, q4⟩ : Cap).num = w1 := by simp [Cap.num]
          simp (config := { maxSteps := 10000000 }) only [EV1, EV2, EV3, EV4, EV5, EV6, addT, istep, lenR_sl, lenR_ns, lenR_es, pickR, putD, bin1R, un1R, slcR, bnd, capsOf, fillP, S_plain, V_plain, V.cells, S_known, V_known, C.v, blk, setL, setH, eqS, eq1, cmpS, cmp1, isNil, popTo, killT, setT, leT, V.below, C.below, S_below, R.below, V.val, C.val, S_val, R.val, R.takes, vals, shows, List.any_cons, List.any_nil, unnamed, V.kill, V.names, C.names, S_names, R.names, List.set, List.replicate, ↓q_cond_t, ↓q_cond_f, if_true, if_false, reduceCtorEq, rvals, rvC, result, C_known, V.noL, C.noL, S_noL, R.noL, Option.map, true_and, and_true, ge_iff_le, gt_iff_lt, implies_true, q_ite_t, q_ite_f, beq_iff_eq, bne_iff_ne, q_ne, Nat.reduceAdd, Nat.reducePow, Int.reducePow, Nat.reduceMul, Nat.reduceSub, Nat.reduceLeDiff, Nat.reduceLT, Nat.reduceEqDiff, Int.reduceNeg, Int.reduceLT, Int.reduceLE, Int.reduceEq, Int.reduceNe, Int.reduceAdd, Int.reduceSub, Int.reduceMul, Int.reduceToNat, Int.reduceBEq, Int.reduceBNe, df101, TG, encG, capF, hB', r0, r1, r2, r3, r4, r5, r6, i0, i1, i2, i3, i4, i5, i6, i7, m4, m20, m25, m28, m32, m38, put, fillP, hr, hn]
          exact ⟨fun n => hS.2 (.inl n), fun n => hS.1 ⟨n, hr⟩⟩
        | false =>
          simp (config := { maxSteps := 10000000 }) only [EV1, EV2, EV3, EV4, EV5, EV6, addT, istep, lenR_sl, lenR_ns, lenR_es, pickR, putD, bin1R, un1R, slcR, bnd, capsOf, fillP, S_plain, V_plain, V.cells, S_known, V_known, C.v, blk, setL, setH, eqS, eq1, cmpS, cmp1, isNil, popTo, killT, setT, leT, V.below, C.below, S_below, R.below, V.val, C.val, S_val, R.val, R.takes, vals, shows, List.any_cons, List.any_nil, unnamed, V.kill, V.names, C.names, S_names, R.names, List.set, List.replicate, ↓q_cond_t, ↓q_cond_f, if_true, if_false, reduceCtorEq, rvals, rvC, result, C_known, V.noL, C.noL, S_noL, R.noL, Option.map, true_and, and_true, ge_iff_le, gt_iff_lt, implies_true, q_ite_t, q_ite_f, beq_iff_eq, bne_iff_ne, q_ne, Nat.reduceAdd, Nat.reducePow, Int.reducePow, Nat.reduceMul, Nat.reduceSub, Nat.reduceLeDiff, Nat.reduceLT, Nat.reduceEqDiff, Int.reduceNeg, Int.reduceLT, Int.reduceLE, Int.reduceEq, Int.reduceNe, Int.reduceAdd, Int.reduceSub, Int.reduceMul, Int.reduceToNat, Int.reduceBEq, Int.reduceBNe, df101, TG, encG, capF, hB', r0, r1, r2, r3, r4, r5, r6, i0, i1, i2, i3, i4, i5, i6, i7, m4, m20, m25, m28, m32, m38, put, fillP, hr]
          exact hS.2 (.inr hr)
      case inr.inr.inr.inr.inr.inr.inr =>
        simp only [k2, k4, k5, k6, k8, or_self, if_false] at hS
        have hz : ¬ w1 = 0 → rightB ⟨q0, q1, q2, w1, 0, q6, 0, q3, q5, 0, q4⟩ = false := fun n => Bool.eq_false_iff.2 fun x => n (mark_zero x k1 k10)
        cases hr : rightB ⟨q0, q1, q2, 0, 0, q6, 0, q3, q5, 0, q4⟩ with
        | true =>
          have hn : (⟨q0, q1, q2, 0, 0, q6, 0, q3, q5, 0, q4⟩ : Cap).num = 0 := by simp [Cap.num]
          simp (config := { maxSteps := 10000000 }) only [EV1, EV2, EV3, EV4, EV5, EV6, addT, istep, lenR_sl, lenR_ns, lenR_es, pickR, putD, bin1R, un1R, slcR, bnd, capsOf, fillP, S_plain, V_plain, V.cells, S_known, V_known, C.v, blk, setL, setH, eqS, eq1, cmpS, cmp1, isNil, popTo, killT, setT, leT, V.below, C.below, S_below, R.below, V.val, C.val, S_val, R.val, R.takes, vals, shows, List.any_cons, List.any_nil, unnamed, V.kill, V.names, C.names, S_names, R.names, List.set, List.replicate, ↓q_cond_t, ↓q_cond_f, if_true, if_false, reduceCtorEq, rvals, rvC, result, C_known, V.noL, C.noL, S_noL, R.noL, Option.map, true_and, and_true, ge_iff_le, gt_iff_lt, implies_true, q_ite_t, q_ite_f, beq_iff_eq, bne_iff_ne, q_ne, Nat.reduceAdd, Nat.reducePow, Int.reducePow, Nat.reduceMul, Nat.reduceSub, Nat.reduceLeDiff, Nat.reduceLT, Nat.reduceEqDiff, Int.reduceNeg, Int.reduceLT, Int.reduceLE, Int.reduceEq, Int.reduceNe, Int.reduceAdd, Int.reduceSub, Int.reduceMul, Int.reduceToNat, Int.reduceBEq, Int.reduceBNe, df101, TG, encG, capF, hB', r0, r1, r2, r3, r4, r5, r6, i0, i1, i2, i3, i4, i5, i6, i7, m4, m20, m25, m28, m32, m38, put, fillP, hr, hn, k1, k10, k2, k4, k5, k6, k8]
          refine ⟨fun n => n.elim (fun x => hS.2 (.inl x)) (fun x => hS.2 (.inr (hz (fun e => x e.symm)))), fun n => ?_⟩
          have hw : 0 = w1 := Classical.byContradiction fun x => n (.inr x)
          subst hw
          exact hS.1 ⟨Classical.byContradiction fun x => n (.inl x), hr⟩
        | false =>
          simp (config := { maxSteps := 10000000 }) only [EV1, EV2, EV3, EV4, EV5, EV6, addT, istep, lenR_sl, lenR_ns, lenR_es, pickR, putD, bin1R, un1R, slcR, bnd, capsOf, fillP, S_plain, V_plain, V.cells, S_known, V_known, C.v, blk, setL, setH, eqS, eq1, cmpS, cmp1, isNil, popTo, killT, setT, leT, V.below, C.below, S_below, R.below, V.val, C.val, S_val, R.val, R.takes, vals, shows, List.any_cons, List.any_nil, unnamed, V.kill, V.names, C.names, S_names, R.names, List.set, List.replicate, ↓q_cond_t, ↓q_cond_f, if_true, if_false, reduceCtorEq, rvals, rvC, result, C_known, V.noL, C.noL, S_noL, R.noL, Option.map, true_and, and_true, ge_iff_le, gt_iff_lt, implies_true, q_ite_t, q_ite_f, beq_iff_eq, bne_iff_ne, q_ne, Nat.reduceAdd, Nat.reducePow, Int.reducePow, Nat.reduceMul, Nat.reduceSub, Nat.reduceLeDiff, Nat.reduceLT, Nat.reduceEqDiff, Int.reduceNeg, Int.reduceLT, Int.reduceLE, Int.reduceEq, Int.reduceNe, Int.reduceAdd, Int.reduceSub, Int.reduceMul, Int.reduceToNat, Int.reduceBEq, Int.reduceBNe, df101, TG, encG, capF, hB', r0, r1, r2, r3, r4, r5, r6, i0, i1, i2, i3, i4, i5, i6, i7, m4, m20, m25, m28, m32, m38, put, fillP, hr, k1, k10, k2, k4, k5, k6, k8]
          by_cases hw : w1 = 0
          · subst hw; exact hS.2 (.inr hr)
          · exact hS.2 (.inr (hz hw))
    · have hB' : 4294967296 ≤ w1 := by omega
      simp only [decB, hB, decide_false, Bool.false_and, Bool.and_false] at hS
      simp (config := { maxSteps := 10000000 }) only [EV1, EV2, EV3, EV4, EV5, EV6, addT, istep, lenR_sl, lenR_ns, lenR_es, pickR, putD, bin1R, un1R, slcR, bnd, capsOf, fillP, S_plain, V_plain, V.cells, S_known, V_known, C.v, blk, setL, setH, eqS, eq1, cmpS, cmp1, isNil, popTo, killT, setT, leT, V.below, C.below, S_below, R.below, V.val, C.val, S_val, R.val, R.takes, vals, shows, List.any_cons, List.any_nil, unnamed, V.kill, V.names, C.names, S_names, R.names, List.set, List.replicate, ↓q_cond_t, ↓q_cond_f, if_true, if_false, reduceCtorEq, rvals, rvC, result, C_known, V.noL, C.noL, S_noL, R.noL, Option.map, true_and, and_true, ge_iff_le, gt_iff_lt, implies_true, q_ite_t, q_ite_f, beq_iff_eq, bne_iff_ne, q_ne, Nat.reduceAdd, Nat.reducePow, Int.reducePow, Nat.reduceMul, Nat.reduceSub, Nat.reduceLeDiff, Nat.reduceLT, Nat.reduceEqDiff, Int.reduceNeg, Int.reduceLT, Int.reduceLE, Int.reduceEq, Int.reduceNe, Int.reduceAdd, Int.reduceSub, Int.reduceMul, Int.reduceToNat, Int.reduceBEq, Int.reduceBNe, df101, TG, encG, capF, hB', put, fillP]
      exact hS.2 trivial
  · exact hS.elim
end Go.Proofs.Ytdlloccodmdnnaa

/- Caps: Words, Same. -/
namespace Go.Proofs.Ytdlloccodmdnnaa
open Go.D
set_option linter.all false
set_option maxRecDepth 100000
set_option maxHeartbeats 4000000

def capWG (args : List V) (h : List Blk) : Res := capF (fun c => .br (rightB c) (.ok (.s (.i .i64 (szN c))) [] h) (.ok (.s (.i .i64 0)) [] h)) args
def TW : Tab := addT 55 rightG (addT 92 sizesG noT)
theorem TW_snd : TW.Snd Try.prog := addT_snd ok55 right_snd (addT_snd ok92 sizes_snd (noT_snd _))
theorem rsz_eq {c : Cap} (h : rightB c = true) : rszN c = szN c := by
  obtain ⟨t, o, b, d, e, g, i, j, k, l, m⟩ := c
  simp only [rightB] at h
  simp only [rszN, szN]
  rcases kinds t with rfl | rfl | rfl | rfl | rfl | rfl | rfl | rfl | rfl | rfl | rfl | rfl | rfl | rfl | ⟨k0, k1, k2, k3, k4, k5, k6, k7, k8, k9, k10, k11, k12, k13, ho⟩
  case inr.inr.inr.inr.inr.inr.inr.inr.inr.inr.inr.inr.inr.inr => simp only [k0, k1, k2, k3, k4, k5, k6, k7, k8, k9, k10, k11, k12, k13, if_false]
  all_goals simp only [Int.reduceEq, if_true, if_false, ite_t, ite_f, not_or, Classical.not_not, nOk_iff] at h ⊢
  · rw [if_pos h.1.1, shR_u h.1.1]
  · rw [if_pos h.1.1, shR_n h.1.1]
  · rcases zrange.1 h.1.1 with rfl | hb
    · rfl
    · rw [if_pos hb, shR_n hb, if_neg (by omega)]
def TX : Tab := addT 14 rightG (addT 50 sizeG noT)
theorem TX_snd : TX.Snd Try.prog := addT_snd ok14 rright_snd (addT_snd ok50 rsize_snd (noT_snd _))
end Go.Proofs.Ytdlloccodmdnnaa

/- Caps: Same. -/
namespace Go.Proofs.Ytdlloccodmdnnaa
open Go.D
set_option linter.all false
set_option maxRecDepth 100000
set_option maxHeartbeats 4000000

/-- Two caps as arguments. -/
def cap2F (f : Cap → Cap → Res) : List V → Res
  | [x, y] => capF (fun c => capF (fun d => f c d) [y]) [x]
  | _ => .bad
theorem cap2F_spec {f : Cap → Cap → Res} {args : List V} {K : V → List Blk → Prop} (h : (cap2F f args).spec K) : ∃ c d : Cap, args = [.agg c.cl, .agg d.cl] ∧ (f c d).spec K := by
  unfold cap2F at h
  split at h
  · obtain ⟨c, e, h⟩ := capF_spec h
    obtain ⟨d, e', h⟩ := capF_spec h
    simp only [List.cons.injEq, and_true] at e e'
    subst e; subst e'
    exact ⟨c, d, rfl, h⟩
  · exact h.elim

def oneC (c : Cap) : Cap := if c.ty = 12 then ⟨12, c.obj, 0, 0, 0, 0, 0, 0, 0, 0, c.line⟩ else ⟨c.ty, c.obj, 0, 0, 0, 0, 0, 0, 0, 0, 0⟩
def oneG (args : List V) (h : List Blk) : Res := capF (fun c => .ok (.agg (oneC c).cl) [] h) args
def sameB (c d : Cap) : Bool := !(c.ty == 0) && (c.ty == d.ty && (c.obj == d.obj && (!(c.ty == 12) || c.line == d.line)))
def sameG (args : List V) (h : List Blk) : Res := cap2F (fun c d => .ok (.s (.b (sameB c d))) [] h) args
end Go.Proofs.Ytdlloccodmdnnaa

/- Law 06: awake. -/
namespace Go.Proofs.Ytdlloccodmdnnaa
open Go.D
set_option linter.all false
set_option maxRecDepth 100000
set_option maxHeartbeats 4000000

def awake6G : List V → List Blk → Res
  | [], h => .ok (.s (.b true)) [] h
  | _, _ => .bad
end Go.Proofs.Ytdlloccodmdnnaa

/- Law 06: CapsWords. -/
namespace Go.Proofs.Ytdlloccodmdnnaa
open Go.D
set_option linter.all false
set_option maxRecDepth 100000
set_option maxHeartbeats 4000000

def capsWordsG : List V → List Blk → Res
  | [.agg [.i .i64 a, .i .i64 b, .i .i64 c, .i .i64 d, .i .i64 e, .i .i64 g, .i .i64 i, .i .i64 j, .i .i64 k, .i .i64 l, .i .i64 m, .i .i64 a2, .i .i64 b2, .i .i64 c2, .i .i64 d2, .i .i64 e2, .i .i64 g2, .i .i64 i2, .i .i64 j2, .i .i64 k2, .i .i64 l2, .i .i64 m2, .i .u64 w0, .i .u64 w1]], h => .ob (u64 w0 ∧ u64 w1) (.ok (.s (.b true)) [] h)
  | _, _ => .bad
end Go.Proofs.Ytdlloccodmdnnaa

/- Law 06: CapsRead. -/
namespace Go.Proofs.Ytdlloccodmdnnaa
open Go.D
set_option linter.all false
set_option maxRecDepth 100000
set_option maxHeartbeats 4000000

theorem dec_back {w0 w1 : Int} (h0 : u64 w0) (h : decB w0 w1 = true) : rightB (decC w0 w1) = true ∧ (decC w0 w1).w0 = w0 ∧ (decC w0 w1).num = w1 := by
  obtain ⟨w, rfl, hw⟩ := h0.nat
  simp only [decB, Bool.and_eq_true, decide_eq_true_eq] at h
  refine ⟨h.2.2, w0_back.2 h.1, ?_⟩
  simp only [decC, Cap.num]
  split <;> split <;> split <;> split <;> omega

theorem cap_eta (c : Cap) : (⟨c.ty, c.obj, c.bits, c.mark, c.guard, c.gbits, c.badge, c.rights, c.asid, c.vaddr, c.line⟩ : Cap) = c := rfl
def capsReadG : List V → List Blk → Res
  | [.s (.i .u64 w0), .s (.i .u64 w1)], h => .ob (u64 w0 ∧ u64 w1) (.ok (.s (.b true)) [] h)
  | _, _ => .bad
end Go.Proofs.Ytdlloccodmdnnaa

/- Caps: what was written is read. -/
namespace Go.Proofs.Ytdlloccodmdnnaa
open Go.D
set_option linter.all false
set_option maxRecDepth 100000
set_option maxHeartbeats 4000000

theorem Cap.ext' {c d : Cap} (h1 : c.ty = d.ty) (h2 : c.obj = d.obj) (h3 : c.bits = d.bits) (h4 : c.mark = d.mark) (h5 : c.guard = d.guard) (h6 : c.gbits = d.gbits) (h7 : c.badge = d.badge) (h8 : c.rights = d.rights) (h9 : c.asid = d.asid) (ha : c.vaddr = d.vaddr) (hb : c.line = d.line) : c = d := by
  cases c; cases d; simp_all
theorem enc_back {c : Cap} (h : rightB c = true) : u64 c.w0 ∧ u64 c.num ∧ decB c.w0 c.num = true ∧ decC c.w0 c.num = c := by
  obtain ⟨h1, h2, h3, h4, h5, h6, h7, h8, h9, h10, h11, one⟩ := right_bounds h
  have t0 : c.w0 % 16 = c.ty := by simp only [Cap.w0]; omega
  have e : decC c.w0 c.num = c := by
    apply Cap.ext'
    · exact t0
    · simp only [decC, Cap.w0]; omega
    · simp only [decC, Cap.w0]; omega
    · simp only [decC, t0, Cap.num]
      split at one
      · simp [*]
      · split at one
        · rename_i x; rcases x with x | x <;> simp [x, one]
        · split at one
          · rename_i x; rcases x with x | x <;> simp [x, one]
          · rename_i x y z; rw [if_neg (by omega)]; omega
    · simp only [decC, t0, Cap.num]
      split at one
      · rename_i x; rw [if_pos x]; omega
      · rename_i x; rw [if_neg x]
        split at one
        · omega
        · split at one <;> omega
    · simp only [decC, Cap.w0]; omega
    · simp only [decC, t0, Cap.num]
      split at one
      · rename_i x; rw [if_neg (by omega)]; omega
      · split at one
        · rename_i x; rw [if_pos x]; omega
        · rename_i x; rw [if_neg x]; split at one <;> omega
    · simp only [decC, Cap.w0]; omega
    · simp only [decC, Cap.w0]; omega
    · simp only [decC, t0, Cap.num]
      split at one
      · rw [if_neg (by omega)]; omega
      · split at one
        · rw [if_neg (by omega)]; omega
        · split at one
          · rename_i x; rw [if_pos x]; omega
          · rename_i x; rw [if_neg x]; omega
    · simp only [decC, Cap.w0]; omega
  refine ⟨by simp only [u64, Cap.w0]; omega, by simp only [u64, Cap.num]; omega, ?_, e⟩
  simp only [decB, e, h, Bool.and_true, Bool.and_eq_true, decide_eq_true_eq]
  constructor
  · simp only [Cap.w0]; omega
  · simp only [Cap.num]; omega
end Go.Proofs.Ytdlloccodmdnnaa

/- The machine's memory: how it stands among the blocks. -/
namespace Go.Proofs.Ytdlloccodmdnnaa
open Go.D
set_option linter.all false
set_option maxRecDepth 100000
set_option maxHeartbeats 4000000

/-- A word of any number. -/
def uw (x : Int) : Int := x % 18446744073709551616
theorem uw_u (x : Int) : u64 (uw x) := by simp only [u64, uw]; omega
theorem uw_of {x : Int} (h : u64 x) : uw x = x := by simp only [u64, uw] at *; omega
theorem u64_0 : u64 0 := by simp only [u64]; omega

structure M where
  w : List Int
  n : Int
  u : ∀ x, x ∈ w → u64 x
  l : w.length ≤ 65536
theorem M.ext' {m k : M} (h1 : m.w = k.w) (h2 : m.n = k.n) : m = k := by
  cases m; cases k; simp only at h1 h2; subst h1; subst h2; rfl

def wc (w : List Int) : List S := w.map (S.i .u64)
theorem wc_len (w : List Int) : (wc w).length = w.length := by simp [wc]
theorem wc_get {w : List Int} {i : Nat} (h : i < w.length) : (wc w)[i]? = some (.i .u64 (nth 0 w i)) := by
  simp only [wc, List.getElem?_map, nth_get (d := 0) h, Option.map_some]
theorem wc_set (w : List Int) (i : Nat) (x : Int) : (wc w).set i (.i .u64 x) = wc (w.set i x) := by simp [wc, List.map_set]
theorem wc_all {p : S → Bool} (hp : ∀ x, p (.i .u64 x) = true) (w : List Int) : (wc w).all p = true := by simp [wc, hp]
theorem wc_known (w : List Int) : known (wc w) = true := by unfold known; exact wc_all (fun _ => rfl) w
theorem wc_vals (n k : Nat) (w : List Int) : vals n k (wc w) = true := by unfold vals; exact wc_all (fun _ => rfl) w
theorem wc_below (n : Nat) (w : List Int) : (wc w).all (S.below n) = true := wc_all (fun _ => rfl) w
theorem wc_takes (r : R) (n k : Nat) (w : List Int) : (wc w).all (r.takes n k) = true := wc_all (fun _ => by cases r <;> rfl) w
theorem wc_names (k : Nat) (w : List Int) : (wc w).all (fun s => !s.names k) = true := wc_all (fun _ => rfl) w
theorem wc_kept (k : List Nat) (w : List Int) : (wc w).all (S.kept k) = true := wc_all (fun _ => rfl) w
theorem wc_sub (w : List Int) (a k : Nat) : sub (wc w) a k = wc ((w.drop a).take k) := by simp [wc, sub, List.map_take, List.map_drop]
theorem wc_app (v w : List Int) : wc v ++ wc w = wc (v ++ w) := by simp [wc]
theorem wc_snoc (v : List Int) (a : Int) : wc (v ++ [a]) = wc v ++ [.i .u64 a] := by simp [wc]
theorem wc_nil : wc [] = [] := rfl
theorem wc_cons (x : Int) (w : List Int) : wc (x :: w) = .i .u64 x :: wc w := rfl
theorem wc_inj {v w : List Int} (h : wc v = wc w) : v = w := by
  induction v generalizing w with
  | nil => cases w with
    | nil => rfl
    | cons y w => simp [wc] at h
  | cons x v ih => cases w with
    | nil => simp [wc] at h
    | cons y w =>
      simp only [wc, List.map_cons, List.cons.injEq, S.i.injEq, true_and] at h
      rw [h.1, ih h.2]
theorem wc_ren (ρ : R → R) (w : List Int) : (wc w).map (S.ren ρ) = wc w := by simp [wc, Function.comp_def, S.ren]
theorem wc_zeros (n : Nat) : zeros [.i .u64 0] n = wc (List.replicate n 0) := by
  induction n with
  | zero => rfl
  | succ n ih => simp only [zeros, ih, List.replicate_succ, wc_cons, List.cons_append, List.nil_append]
theorem wc_map (w : List Int) : w.map (S.i .u64) = wc w := rfl

def M.at (m : M) (i : Int) : Int := nth 0 m.w i.toNat
theorem nth_mem {α : Type} {d : α} {l : List α} {i : Nat} (h : i < l.length) : nth d l i ∈ l := by rw [nth_eq h]; exact List.getElem_mem h
theorem nth_out {α : Type} {d : α} : ∀ {l : List α} {i : Nat}, l.length ≤ i → nth d l i = d
  | [], _, _ => rfl
  | _ :: _, 0, h => by simp at h
  | _ :: l, i + 1, h => nth_out (l := l) (by simpa using h)
theorem M.at_u (m : M) (i : Int) : u64 (m.at i) := by
  unfold M.at
  rcases Nat.lt_or_ge i.toNat m.w.length with h | h
  · exact m.u _ (nth_mem h)
  · rw [nth_out h]; exact u64_0

def M.put (m : M) (i : Nat) (x : Int) : M := ⟨m.w.set i (uw x), m.n, fun y hy => by
  rcases List.mem_or_eq_of_mem_set hy with h | h
  · exact m.u y h
  · subst h; exact uw_u x, by simpa using m.l⟩
def M.tick (m : M) (k : Int) : M := ⟨m.w, IntKind.i64.wrap (m.n + k), m.u, m.l⟩
def M.fill (m : M) (a : Nat) (x : Int) : Nat → M
  | 0 => m
  | k + 1 => (M.fill m a x k).put (a + k) x
def M.lay (m : M) (o : Nat) : List Int → M
  | [] => m
  | v :: vs => M.lay (m.put o v) (o + 1) vs
/-- Is a range there? -/
def M.has (m : M) (a k : Int) : Bool := decide (0 ≤ a ∧ 0 ≤ k ∧ a ≤ m.w.length ∧ k ≤ m.w.length - a)
theorem M.has_iff {m : M} {a k : Int} : m.has a k = true ↔ 0 ≤ a ∧ 0 ≤ k ∧ a ≤ m.w.length ∧ k ≤ m.w.length - a := by simp [M.has]
theorem M.has_nat {m : M} {a k : Int} (h : m.has a k = true) : ∃ i j : Nat, a = i ∧ k = j ∧ i + j ≤ m.w.length := by
  rw [M.has_iff] at h
  exact ⟨a.toNat, k.toNat, by omega, by omega, by omega⟩
theorem M.has_not {m : M} {a k : Int} (h : m.has a k = false) : ¬ (0 ≤ a ∧ 0 ≤ k ∧ a ≤ m.w.length ∧ k ≤ m.w.length - a) := by simpa [M.has] using h

theorem M.put_len (m : M) (i : Nat) (x : Int) : (m.put i x).w.length = m.w.length := by simp [M.put]
theorem M.tick_len (m : M) (k : Int) : (m.tick k).w.length = m.w.length := rfl
theorem M.fill_len (m : M) (a : Nat) (x : Int) : ∀ k, (m.fill a x k).w.length = m.w.length
  | 0 => rfl
  | k + 1 => by rw [M.fill, M.put_len, M.fill_len m a x k]
theorem M.lay_len : ∀ (vs : List Int) (m : M) (o : Nat), (m.lay o vs).w.length = m.w.length
  | [], _, _ => rfl
  | v :: vs, m, o => by rw [M.lay, M.lay_len vs, M.put_len]
theorem M.put_has (m : M) (i : Nat) (x a k : Int) : (m.put i x).has a k = m.has a k := by simp only [M.has, M.put_len]
theorem M.tick_has (m : M) (j a k : Int) : (m.tick j).has a k = m.has a k := rfl
theorem M.fill_has (m : M) (o : Nat) (x : Int) (j : Nat) (a k : Int) : (m.fill o x j).has a k = m.has a k := by simp only [M.has, M.fill_len]
theorem M.lay_has (m : M) (o : Nat) (vs : List Int) (a k : Int) : (m.lay o vs).has a k = m.has a k := by simp only [M.has, M.lay_len]
theorem M.put_n (m : M) (i : Nat) (x : Int) : (m.put i x).n = m.n := rfl
theorem M.fill_n (m : M) (a : Nat) (x : Int) : ∀ k, (m.fill a x k).n = m.n
  | 0 => rfl
  | k + 1 => by rw [M.fill, M.put_n, M.fill_n m a x k]
theorem M.lay_n : ∀ (vs : List Int) (m : M) (o : Nat), (m.lay o vs).n = m.n
  | [], _, _ => rfl
  | v :: vs, m, o => by rw [M.lay, M.lay_n vs, M.put_n]
theorem M.lay_snoc (v : Int) : ∀ (vs : List Int) (m : M) (o : Nat), m.lay o (vs ++ [v]) = (m.lay o vs).put (o + vs.length) v
  | [], m, o => rfl
  | u :: vs, m, o => by
    simp only [List.cons_append, M.lay, M.lay_snoc v vs, List.length_cons]
    rw [show o + 1 + vs.length = o + (vs.length + 1) by omega]
theorem M.lay_w : ∀ (vs : List Int) (m : M) (o : Nat), (∀ x, x ∈ vs → u64 x) → D.put (wc m.w) o (wc vs) = wc (m.lay o vs).w
  | [], _, _, _ => rfl
  | v :: vs, m, o, hu => by
    simp only [wc_cons, M.lay]
    rw [show D.put (wc m.w) o (S.i .u64 v :: wc vs) = D.put ((wc m.w).set o (.i .u64 v)) (o + 1) (wc vs) from rfl]
    rw [wc_set, show v = uw v from (uw_of (hu v (by simp))).symm]
    rw [show m.w.set o (uw v) = (m.put o v).w from rfl, M.lay_w vs (m.put o v) (o + 1) (fun x hx => hu x (by simp [hx]))]
    rw [← show v = uw v from (uw_of (hu v (by simp))).symm]

/-! ### among the blocks -/
def MB (b : Nat) (m : M) : Blk := ⟨.rw, [.sl (.g b) 0 m.w.length m.w.length, .i .i64 m.n], 2⟩
def MW (m : M) : Blk := ⟨.rw, wc m.w, m.w.length⟩
structure IsMem (h : List Blk) (a b : Nat) (m : M) : Prop where
  ne : a ≠ b
  ha : h[a]? = some (MB b m)
  hb : h[b]? = some (MW m)
def setM (h : List Blk) (a b : Nat) (m : M) : List Blk := (h.set a (MB b m)).set b (MW m)

theorem IsMem.lta {h : List Blk} {a b : Nat} {m : M} (H : IsMem h a b m) : a < h.length := (List.getElem?_eq_some_iff.1 H.ha).1
theorem IsMem.ltb {h : List Blk} {a b : Nat} {m : M} (H : IsMem h a b m) : b < h.length := (List.getElem?_eq_some_iff.1 H.hb).1
theorem setM_len {h : List Blk} {a b : Nat} {m : M} : (setM h a b m).length = h.length := by simp [setM]
theorem IsMem.set {h : List Blk} {a b : Nat} {m : M} (H : IsMem h a b m) (m' : M) : IsMem (setM h a b m') a b m' := by
  refine ⟨H.ne, ?_, ?_⟩
  · simp only [setM]
    rw [List.getElem?_set_ne (Ne.symm H.ne), List.getElem?_set_self H.lta]
  · simp only [setM]
    rw [List.getElem?_set_self (by simpa using H.ltb)]
theorem setM_set {h : List Blk} {a b : Nat} {m m' : M} (ne : a ≠ b) : setM (setM h a b m) a b m' = setM h a b m' := by
  simp only [setM]
  rw [List.set_comm _ _ ne, List.set_set, List.set_comm _ _ ne, List.set_set, List.set_comm _ _ (Ne.symm ne)]
theorem setM_self {h : List Blk} {a b : Nat} {m : M} (H : IsMem h a b m) : setM h a b m = h := by
  simp only [setM]
  rw [set_self H.ha, set_self H.hb]
theorem setM_fun {h : List Blk} {a b : Nat} {m m0 : M} (H : IsMem h a b m0) : setM (setM h a b m) a b = setM h a b := funext fun m' => setM_set H.ne
theorem IsMem.app {h X : List Blk} {a b : Nat} {m : M} (H : IsMem h a b m) : IsMem (h ++ X) a b m :=
  ⟨H.ne, by rw [List.getElem?_append_left H.lta]; exact H.ha, by rw [List.getElem?_append_left H.ltb]; exact H.hb⟩
theorem setM_app {h X : List Blk} {a b : Nat} {m m' : M} (H : IsMem h a b m) : setM (h ++ X) a b m' = setM h a b m' ++ X := by
  simp only [setM]
  rw [app_setl H.lta, app_setl (by simpa using H.ltb)]
theorem setM_words {h : List Blk} {a b : Nat} {m m' : M} (H : IsMem h a b m) (hl : m'.w.length = m.w.length) (hn : m'.n = m.n) : h.set b (MW m') = setM h a b m' := by
  simp only [setM]
  rw [show MB b m' = MB b m by simp only [MB, hl, hn], set_self H.ha]
theorem setM_steps {h : List Blk} {a b : Nat} {m m' : M} (H : IsMem h a b m) (hw : m'.w = m.w) : h.set a (MB b m') = setM h a b m' := by
  simp only [setM]
  rw [List.set_comm _ _ H.ne, show MW m' = MW m by simp only [MW, hw], set_self H.hb]
theorem IsMem.uniq {h : List Blk} {a b b' : Nat} {m m' : M} (H : IsMem h a b m) (H' : IsMem h a b' m') : b = b' ∧ m = m' := by
  have h1 := H.ha.symm.trans H'.ha
  simp only [MB, Option.some.injEq, Blk.mk.injEq, List.cons.injEq, S.sl.injEq, R.g.injEq, S.i.injEq, true_and, and_true] at h1
  obtain ⟨⟨e, _, _⟩, e2⟩ := h1
  subst e
  have h2 := H.hb.symm.trans H'.hb
  simp only [MW, Option.some.injEq, Blk.mk.injEq, true_and] at h2
  exact ⟨rfl, M.ext' (wc_inj h2.1) e2⟩
theorem setM_clean {h : List Blk} {a b : Nat} {m m0 : M} {n : Nat} (H : IsMem h a b m0) (hc : clean n h = true) (hn : b < n) : clean n (setM h a b m) = true := by
  refine clean_set (clean_set hc ?_) (wc_vals _ _ _)
  simp [MB, vals, S.val, R.val, hn]

open Classical in
noncomputable def memOf (h : List Blk) (a : Nat) : Option (Nat × M) := if hx : ∃ x : Nat × M, IsMem h a x.1 x.2 then some (Classical.choose hx) else none
theorem memOf_eq {h : List Blk} {a b : Nat} {m : M} (H : IsMem h a b m) : memOf h a = some (b, m) := by
  have hx : ∃ x : Nat × M, IsMem h a x.1 x.2 := ⟨(b, m), H⟩
  unfold memOf
  rw [dif_pos hx]
  have := IsMem.uniq (Classical.choose_spec hx) H
  rw [show Classical.choose hx = (b, m) from Prod.ext this.1 this.2]
theorem memOf_some {h : List Blk} {a b : Nat} {m : M} (e : memOf h a = some (b, m)) : IsMem h a b m := by
  unfold memOf at e
  split at e
  · rename_i hx
    have := Classical.choose_spec hx
    rw [Option.some.injEq] at e
    rw [e] at this
    exact this
  · cases e

/-- What is done with a memory, its first argument. -/
noncomputable def memF (f : Nat → M → (M → List Blk) → List V → Res) : List V → List Blk → Res
  | .s (.p (.g a) 0) :: rest, h => match memOf h a with
    | some (b, m) => f b m (setM h a b) rest
    | none => .bad
  | _, _ => .bad
theorem memF_spec {f : Nat → M → (M → List Blk) → List V → Res} {args : List V} {h : List Blk} {K : V → List Blk → Prop} (hS : (memF f args h).spec K) :
    ∃ a b m rest, args = .s (.p (.g a) 0) :: rest ∧ IsMem h a b m ∧ (f b m (setM h a b) rest).spec K := by
  unfold memF at hS
  split at hS
  · split at hS
    · rename_i e
      exact ⟨_, _, _, _, rfl, memOf_some e, hS⟩
    · exact hS.elim
  · exact hS.elim
theorem memF_eq {f : Nat → M → (M → List Blk) → List V → Res} {h : List Blk} {a b : Nat} {m : M} {rest : List V} (H : IsMem h a b m) : memF f (.s (.p (.g a) 0) :: rest) h = f b m (setM h a b) rest := by
  simp only [memF, memOf_eq H]
theorem memF_set {f : Nat → M → (M → List Blk) → List V → Res} {h : List Blk} {a b : Nat} {m m' : M} {rest : List V} (H : IsMem h a b m) : memF f (.s (.p (.g a) 0) :: rest) (setM h a b m') = f b m' (setM h a b) rest := by
  rw [memF_eq (H.set m'), setM_fun H]
theorem memF_app {f : Nat → M → (M → List Blk) → List V → Res} {h X : List Blk} {a b : Nat} {m m' : M} {rest : List V} (H : IsMem h a b m) : memF f (.s (.p (.g a) 0) :: rest) (setM h a b m' ++ X) = f b m' (fun m => setM h a b m ++ X) rest := by
  rw [memF_eq ((H.set m').app), show setM (setM h a b m' ++ X) a b = fun m => setM h a b m ++ X from funext fun k => by rw [setM_app (H.set m'), setM_set H.ne]]
theorem memF_app0 {f : Nat → M → (M → List Blk) → List V → Res} {h X : List Blk} {a b : Nat} {m : M} {rest : List V} (H : IsMem h a b m) : memF f (.s (.p (.g a) 0) :: rest) (h ++ X) = f b m (fun m => setM h a b m ++ X) rest := by
  rw [memF_eq H.app, show setM (h ++ X) a b = fun m => setM h a b m ++ X from funext fun k => by rw [setM_app H]]

/-! ### new memories -/
def memH (h : List Blk) (m : M) : List Blk := h ++ [MB (h.length + 1) m, MW m]
theorem memH_len {h : List Blk} {m : M} : (memH h m).length = h.length + 2 := by simp [memH]
theorem memH_is (h : List Blk) (m : M) : IsMem (memH h m) h.length (h.length + 1) m := by
  refine ⟨by omega, ?_, ?_⟩
  · simp only [memH]; rw [app_get0]; rfl
  · simp only [memH]; rw [app_getn]; rfl
theorem memH_set (h : List Blk) (m m' : M) : setM (memH h m) h.length (h.length + 1) m' = memH h m' := by
  simp only [memH, setM]
  rw [app_set0, app_setn]; rfl
theorem memH_fun (h : List Blk) (m : M) : setM (memH h m) h.length (h.length + 1) = memH h := funext (memH_set h m)
theorem memF_new {f : Nat → M → (M → List Blk) → List V → Res} {h : List Blk} {m : M} {rest : List V} : memF f (.s (.p (.g h.length) 0) :: rest) (memH h m) = f (h.length + 1) m (memH h) rest := by
  rw [memF_eq (memH_is h m), memH_fun]
theorem memH_is1 (h : List Blk) (m k : M) : IsMem (memH (memH h m) k) h.length (h.length + 1) m := (memH_is h m).app
theorem memH_is2 (h : List Blk) (m k : M) : IsMem (memH (memH h m) k) (h.length + 2) (h.length + 3) k := by
  have := memH_is (memH h m) k
  rw [memH_len] at this
  exact this
theorem memH_set1 (h : List Blk) (m k m' : M) : setM (memH (memH h m) k) h.length (h.length + 1) m' = memH (memH h m') k := by
  show setM (memH h m ++ [MB ((memH h m).length + 1) k, MW k]) _ _ _ = _
  rw [setM_app (memH_is h m), memH_set]
  simp [memH]
theorem memH_set2 (h : List Blk) (m k m' : M) : setM (memH (memH h m) k) (h.length + 2) (h.length + 3) m' = memH (memH h m) m' := by
  have := memH_set (memH h m) k m'
  rw [memH_len] at this
  exact this
theorem memF_new1 {f : Nat → M → (M → List Blk) → List V → Res} {h : List Blk} {m k : M} {rest : List V} : memF f (.s (.p (.g h.length) 0) :: rest) (memH (memH h m) k) = f (h.length + 1) m (fun m => memH (memH h m) k) rest := by
  rw [memF_eq (memH_is1 h m k), show setM (memH (memH h m) k) h.length (h.length + 1) = fun m => memH (memH h m) k from funext (memH_set1 h m k)]
theorem memF_new2 {f : Nat → M → (M → List Blk) → List V → Res} {h : List Blk} {m k : M} {rest : List V} : memF f (.s (.p (.g (h.length + 2)) 0) :: rest) (memH (memH h m) k) = f (h.length + 3) k (memH (memH h m)) rest := by
  rw [memF_eq (memH_is2 h m k), show setM (memH (memH h m) k) (h.length + 2) (h.length + 3) = memH (memH h m) from funext (memH_set2 h m k)]
end Go.Proofs.Ytdlloccodmdnnaa

/- The machine's memory: what its functions do. -/
namespace Go.Proofs.Ytdlloccodmdnnaa
open Go.D
set_option linter.all false
set_option maxRecDepth 100000
set_option maxHeartbeats 4000000

theorem pow16 (k : Nat) : 2 ^ min k 16 ≤ 65536 := by
  have : min k 16 ≤ 16 := by omega
  exact Nat.pow_le_pow_right (n := 2) (by omega) this
def M.zero (k : Nat) : M := ⟨List.replicate (2 ^ min k 16) 0, 0, fun x hx => by rw [List.eq_of_mem_replicate hx]; exact u64_0, by simpa using pow16 k⟩
theorem M.zero_len (k : Nat) : (M.zero k).w.length = 2 ^ min k 16 := by simp [M.zero]

def newM : List V → List Blk → Res
  | [.s (.i .i64 b)], h => .br (decide (11 ≤ b) && decide (b ≤ 16)) (.ok (.tup [.s (.p (.g h.length) 0), .s (.i .i64 0)]) [] (memH h (M.zero b.toNat))) (.ok (.tup [.s .np, .s (.i .i64 1)]) [] h)
  | _, _ => .bad
theorem new_snd : Snd Try.prog 29 (FSpec.of newM) := snd_run (noT_snd _) mixed Try.func29 dc29 100 fun args h K hc hS => by
  unfold newM at hS
  split at hS
  · rename_i b
    simp only [spec_br, spec_ok, Bool.and_eq_true, decide_eq_true_eq] at hS
    by_cases c1 : b < 11
    · simp (config := { maxSteps := 10000000 }) only [EV1, EV2, EV3, EV4, EV5, EV6, addT, istep, lenR_sl, lenR_ns, lenR_es, pickR, putD, bin1R, un1R, slcR, bnd, capsOf, fillP, S_plain, V_plain, V.cells, S_known, V_known, C.v, blk, setL, setH, eqS, eq1, cmpS, cmp1, isNil, popTo, killT, setT, leT, V.below, C.below, S_below, R.below, V.val, C.val, S_val, R.val, R.takes, vals, shows, List.any_cons, List.any_nil, unnamed, V.kill, V.names, C.names, S_names, R.names, List.set, List.replicate, ↓q_cond_t, ↓q_cond_f, if_true, if_false, reduceCtorEq, rvals, rvC, result, C_known, V.noL, C.noL, S_noL, R.noL, Option.map, true_and, and_true, ge_iff_le, gt_iff_lt, implies_true, q_ite_t, q_ite_f, beq_iff_eq, bne_iff_ne, q_ne, Nat.reduceAdd, Nat.reducePow, Int.reducePow, Nat.reduceMul, Nat.reduceSub, Nat.reduceLeDiff, Nat.reduceLT, Nat.reduceEqDiff, Int.reduceNeg, Int.reduceLT, Int.reduceLE, Int.reduceEq, Int.reduceNe, Int.reduceAdd, Int.reduceSub, Int.reduceMul, Int.reduceToNat, Int.reduceBEq, Int.reduceBNe, df29, c1]
      exact hS.2 (by simp; omega)
    by_cases c2 : 16 < b
    · simp (config := { maxSteps := 10000000 }) only [EV1, EV2, EV3, EV4, EV5, EV6, addT, istep, lenR_sl, lenR_ns, lenR_es, pickR, putD, bin1R, un1R, slcR, bnd, capsOf, fillP, S_plain, V_plain, V.cells, S_known, V_known, C.v, blk, setL, setH, eqS, eq1, cmpS, cmp1, isNil, popTo, killT, setT, leT, V.below, C.below, S_below, R.below, V.val, C.val, S_val, R.val, R.takes, vals, shows, List.any_cons, List.any_nil, unnamed, V.kill, V.names, C.names, S_names, R.names, List.set, List.replicate, ↓q_cond_t, ↓q_cond_f, if_true, if_false, reduceCtorEq, rvals, rvC, result, C_known, V.noL, C.noL, S_noL, R.noL, Option.map, true_and, and_true, ge_iff_le, gt_iff_lt, implies_true, q_ite_t, q_ite_f, beq_iff_eq, bne_iff_ne, q_ne, Nat.reduceAdd, Nat.reducePow, Int.reducePow, Nat.reduceMul, Nat.reduceSub, Nat.reduceLeDiff, Nat.reduceLT, Nat.reduceEqDiff, Int.reduceNeg, Int.reduceLT, Int.reduceLE, Int.reduceEq, Int.reduceNe, Int.reduceAdd, Int.reduceSub, Int.reduceMul, Int.reduceToNat, Int.reduceBEq, Int.reduceBNe, df29, c1, c2]
      exact hS.2 (by simp; omega)
    have hS := hS.1 (by omega)
    obtain ⟨k, rfl⟩ : ∃ k : Nat, b = k := ⟨b.toNat, by omega⟩
    have hk : min k 16 = k := by omega
    have m1 : min k IntKind.i64.bits = k := by show min k 64 = _; omega
    have p1 := pow16 k
    rw [hk] at p1
    obtain ⟨p, hp⟩ : ∃ p : Nat, 2 ^ k = p := ⟨_, rfl⟩
    rw [hp] at p1
    have c3 : (0 : Int) ≤ k := by omega
    have w1 : IntKind.i64.wrap (1 * 2 ^ k) = (p : Int) := by
      rw [Int.one_mul, show (2 : Int) ^ k = (p : Int) by rw [← hp]; simp, wrap64] <;> omega
    have c4 : (0 : Int) ≤ (p : Int) := by omega
    have c5 : (p : Int) ≤ 1099511627776 := by omega
    have c6 : (8 : Int) * (p : Int) ≤ 281474976710656 := by omega
    simp (config := { maxSteps := 10000000 }) only [EV1, EV2, EV3, EV4, EV5, EV6, addT, istep, lenR_sl, lenR_ns, lenR_es, pickR, putD, bin1R, un1R, slcR, bnd, capsOf, fillP, S_plain, V_plain, V.cells, S_known, V_known, C.v, blk, setL, setH, eqS, eq1, cmpS, cmp1, isNil, popTo, killT, setT, leT, V.below, C.below, S_below, R.below, V.val, C.val, S_val, R.val, R.takes, vals, shows, List.any_cons, List.any_nil, unnamed, V.kill, V.names, C.names, S_names, R.names, List.set, List.replicate, ↓q_cond_t, ↓q_cond_f, if_true, if_false, reduceCtorEq, rvals, rvC, result, C_known, V.noL, C.noL, S_noL, R.noL, Option.map, true_and, and_true, ge_iff_le, gt_iff_lt, implies_true, q_ite_t, q_ite_f, beq_iff_eq, bne_iff_ne, q_ne, Nat.reduceAdd, Nat.reducePow, Int.reducePow, Nat.reduceMul, Nat.reduceSub, Nat.reduceLeDiff, Nat.reduceLT, Nat.reduceEqDiff, Int.reduceNeg, Int.reduceLT, Int.reduceLE, Int.reduceEq, Int.reduceNe, Int.reduceAdd, Int.reduceSub, Int.reduceMul, Int.reduceToNat, Int.reduceBEq, Int.reduceBNe, df29, c1, c2, c3, m1, w1, c4, Int.le_refl, c5, c6, wc_zeros, put, fillP]
    refine ⟨[1, 0], by simp, rfl, ?_⟩
    simp only [getAll, List.getElem?_cons_zero, List.getElem?_cons_succ]
    refine ⟨?_, ?_⟩
    · simp [S.kept, R.kept, wc_kept]
    · refine cast (congrArg (K _) ?_) hS
      simp [memH, MB, MW, M.zero, hk, hp, Blk.ren, S.ren, R.prom, List.idxOf, List.findIdx, List.findIdx.go, wc_ren, wc_len, V.ren, C.ren, wc_map]
  · exact hS.elim
theorem rnew_snd : Snd Try.prog 30 (FSpec.of newM) := snd_run (noT_snd _) mixed Try.func30 dc30 100 fun args h K hc hS => by
  unfold newM at hS
  split at hS
  · rename_i b
    simp only [spec_br, spec_ok, Bool.and_eq_true, decide_eq_true_eq] at hS
    by_cases c1 : b < 11
    · simp (config := { maxSteps := 10000000 }) only [EV1, EV2, EV3, EV4, EV5, EV6, addT, istep, lenR_sl, lenR_ns, lenR_es, pickR, putD, bin1R, un1R, slcR, bnd, capsOf, fillP, S_plain, V_plain, V.cells, S_known, V_known, C.v, blk, setL, setH, eqS, eq1, cmpS, cmp1, isNil, popTo, killT, setT, leT, V.below, C.below, S_below, R.below, V.val, C.val, S_val, R.val, R.takes, vals, shows, List.any_cons, List.any_nil, unnamed, V.kill, V.names, C.names, S_names, R.names, List.set, List.replicate, ↓q_cond_t, ↓q_cond_f, if_true, if_false, reduceCtorEq, rvals, rvC, result, C_known, V.noL, C.noL, S_noL, R.noL, Option.map, true_and, and_true, ge_iff_le, gt_iff_lt, implies_true, q_ite_t, q_ite_f, beq_iff_eq, bne_iff_ne, q_ne, Nat.reduceAdd, Nat.reducePow, Int.reducePow, Nat.reduceMul, Nat.reduceSub, Nat.reduceLeDiff, Nat.reduceLT, Nat.reduceEqDiff, Int.reduceNeg, Int.reduceLT, Int.reduceLE, Int.reduceEq, Int.reduceNe, Int.reduceAdd, Int.reduceSub, Int.reduceMul, Int.reduceToNat, Int.reduceBEq, Int.reduceBNe, df30, c1]
      exact hS.2 (by simp; omega)
    by_cases c2 : 16 < b
    · simp (config := { maxSteps := 10000000 }) only [EV1, EV2, EV3, EV4, EV5, EV6, addT, istep, lenR_sl, lenR_ns, lenR_es, pickR, putD, bin1R, un1R, slcR, bnd, capsOf, fillP, S_plain, V_plain, V.cells, S_known, V_known, C.v, blk, setL, setH, eqS, eq1, cmpS, cmp1, isNil, popTo, killT, setT, leT, V.below, C.below, S_below, R.below, V.val, C.val, S_val, R.val, R.takes, vals, shows, List.any_cons, List.any_nil, unnamed, V.kill, V.names, C.names, S_names, R.names, List.set, List.replicate, ↓q_cond_t, ↓q_cond_f, if_true, if_false, reduceCtorEq, rvals, rvC, result, C_known, V.noL, C.noL, S_noL, R.noL, Option.map, true_and, and_true, ge_iff_le, gt_iff_lt, implies_true, q_ite_t, q_ite_f, beq_iff_eq, bne_iff_ne, q_ne, Nat.reduceAdd, Nat.reducePow, Int.reducePow, Nat.reduceMul, Nat.reduceSub, Nat.reduceLeDiff, Nat.reduceLT, Nat.reduceEqDiff, Int.reduceNeg, Int.reduceLT, Int.reduceLE, Int.reduceEq, Int.reduceNe, Int.reduceAdd, Int.reduceSub, Int.reduceMul, Int.reduceToNat, Int.reduceBEq, Int.reduceBNe, df30, c1, c2]
      exact hS.2 (by simp; omega)
    have hS := hS.1 (by omega)
    obtain ⟨k, rfl⟩ : ∃ k : Nat, b = k := ⟨b.toNat, by omega⟩
    have hk : min k 16 = k := by omega
    have m1 : min k IntKind.i64.bits = k := by show min k 64 = _; omega
    have p1 := pow16 k
    rw [hk] at p1
    obtain ⟨p, hp⟩ : ∃ p : Nat, 2 ^ k = p := ⟨_, rfl⟩
    rw [hp] at p1
    have c3 : (0 : Int) ≤ k := by omega
    have w1 : IntKind.i64.wrap (1 * 2 ^ k) = (p : Int) := by
      rw [Int.one_mul, show (2 : Int) ^ k = (p : Int) by rw [← hp]; simp, wrap64] <;> omega
    have c4 : (0 : Int) ≤ (p : Int) := by omega
    have c5 : (p : Int) ≤ 1099511627776 := by omega
    have c6 : (8 : Int) * (p : Int) ≤ 281474976710656 := by omega
    simp (config := { maxSteps := 10000000 }) only [EV1, EV2, EV3, EV4, EV5, EV6, addT, istep, lenR_sl, lenR_ns, lenR_es, pickR, putD, bin1R, un1R, slcR, bnd, capsOf, fillP, S_plain, V_plain, V.cells, S_known, V_known, C.v, blk, setL, setH, eqS, eq1, cmpS, cmp1, isNil, popTo, killT, setT, leT, V.below, C.below, S_below, R.below, V.val, C.val, S_val, R.val, R.takes, vals, shows, List.any_cons, List.any_nil, unnamed, V.kill, V.names, C.names, S_names, R.names, List.set, List.replicate, ↓q_cond_t, ↓q_cond_f, if_true, if_false, reduceCtorEq, rvals, rvC, result, C_known, V.noL, C.noL, S_noL, R.noL, Option.map, true_and, and_true, ge_iff_le, gt_iff_lt, implies_true, q_ite_t, q_ite_f, beq_iff_eq, bne_iff_ne, q_ne, Nat.reduceAdd, Nat.reducePow, Int.reducePow, Nat.reduceMul, Nat.reduceSub, Nat.reduceLeDiff, Nat.reduceLT, Nat.reduceEqDiff, Int.reduceNeg, Int.reduceLT, Int.reduceLE, Int.reduceEq, Int.reduceNe, Int.reduceAdd, Int.reduceSub, Int.reduceMul, Int.reduceToNat, Int.reduceBEq, Int.reduceBNe, df30, c1, c2, c3, m1, w1, c4, Int.le_refl, c5, c6, wc_zeros, put, fillP]
    refine ⟨[1, 0], by simp, rfl, ?_⟩
    simp only [getAll, List.getElem?_cons_zero, List.getElem?_cons_succ]
    refine ⟨?_, ?_⟩
    · simp [S.kept, R.kept, wc_kept]
    · refine cast (congrArg (K _) ?_) hS
      simp [memH, MB, MW, M.zero, hk, hp, Blk.ren, S.ren, R.prom, List.idxOf, List.findIdx, List.findIdx.go, wc_ren, wc_len, V.ren, C.ren, wc_map]
  · exact hS.elim
def wordsM (b : Nat) (m : M) (st : M → List Blk) : List V → Res
  | [] => .ok (.s (.i .i64 m.w.length)) [] (st m)
  | _ => .bad
noncomputable def wordsG := memF wordsM
theorem mwords_snd : Snd Try.prog 111 (FSpec.of wordsG) := snd_run (noT_snd _) mixed Try.func111 dc111 100 fun args h K hc hS => by
  obtain ⟨a, b, m, rest, rfl, H, hS1⟩ := memF_spec hS
  clear hS
  have hS := hS1
  clear hS1
  unfold wordsM at hS
  split at hS
  · simp only [spec_ok, setM_self H] at hS
    simp (config := { maxSteps := 10000000 }) only [EV1, EV2, EV3, EV4, EV5, EV6, addT, istep, lenR_sl, lenR_ns, lenR_es, pickR, putD, bin1R, un1R, slcR, bnd, capsOf, fillP, S_plain, V_plain, V.cells, S_known, V_known, C.v, blk, setL, setH, eqS, eq1, cmpS, cmp1, isNil, popTo, killT, setT, leT, V.below, C.below, S_below, R.below, V.val, C.val, S_val, R.val, R.takes, vals, shows, List.any_cons, List.any_nil, unnamed, V.kill, V.names, C.names, S_names, R.names, List.set, List.replicate, ↓q_cond_t, ↓q_cond_f, if_true, if_false, reduceCtorEq, rvals, rvC, result, C_known, V.noL, C.noL, S_noL, R.noL, Option.map, true_and, and_true, ge_iff_le, gt_iff_lt, implies_true, q_ite_t, q_ite_f, beq_iff_eq, bne_iff_ne, q_ne, Nat.reduceAdd, Nat.reducePow, Int.reducePow, Nat.reduceMul, Nat.reduceSub, Nat.reduceLeDiff, Nat.reduceLT, Nat.reduceEqDiff, Int.reduceNeg, Int.reduceLT, Int.reduceLE, Int.reduceEq, Int.reduceNe, Int.reduceAdd, Int.reduceSub, Int.reduceMul, Int.reduceToNat, Int.reduceBEq, Int.reduceBNe, df111, H.ha, MB]
    exact hS
  · exact hS.elim

def stepsM (b : Nat) (m : M) (st : M → List Blk) : List V → Res
  | [] => .ok (.s (.i .i64 m.n)) [] (st m)
  | _ => .bad
noncomputable def stepsG := memF stepsM
theorem msteps_snd : Snd Try.prog 18 (FSpec.of stepsG) := snd_run (noT_snd _) mixed Try.func18 dc18 100 fun args h K hc hS => by
  obtain ⟨a, b, m, rest, rfl, H, hS1⟩ := memF_spec hS
  clear hS
  have hS := hS1
  clear hS1
  unfold stepsM at hS
  split at hS
  · simp only [spec_ok, setM_self H] at hS
    simp (config := { maxSteps := 10000000 }) only [EV1, EV2, EV3, EV4, EV5, EV6, addT, istep, lenR_sl, lenR_ns, lenR_es, pickR, putD, bin1R, un1R, slcR, bnd, capsOf, fillP, S_plain, V_plain, V.cells, S_known, V_known, C.v, blk, setL, setH, eqS, eq1, cmpS, cmp1, isNil, popTo, killT, setT, leT, V.below, C.below, S_below, R.below, V.val, C.val, S_val, R.val, R.takes, vals, shows, List.any_cons, List.any_nil, unnamed, V.kill, V.names, C.names, S_names, R.names, List.set, List.replicate, ↓q_cond_t, ↓q_cond_f, if_true, if_false, reduceCtorEq, rvals, rvC, result, C_known, V.noL, C.noL, S_noL, R.noL, Option.map, true_and, and_true, ge_iff_le, gt_iff_lt, implies_true, q_ite_t, q_ite_f, beq_iff_eq, bne_iff_ne, q_ne, Nat.reduceAdd, Nat.reducePow, Int.reducePow, Nat.reduceMul, Nat.reduceSub, Nat.reduceLeDiff, Nat.reduceLT, Nat.reduceEqDiff, Int.reduceNeg, Int.reduceLT, Int.reduceLE, Int.reduceEq, Int.reduceNe, Int.reduceAdd, Int.reduceSub, Int.reduceMul, Int.reduceToNat, Int.reduceBEq, Int.reduceBNe, df18, H.ha, MB]
    exact hS
  · exact hS.elim

/-- Where a part of the words begins. -/
def offM (m : M) (a : Nat) : Nat := if m.w.length = a then 0 else a
def spanM (b : Nat) (m : M) (st : M → List Blk) : List V → Res
  | [.s (.i .i64 a), .s (.i .i64 k)] => .br (m.has a k) (.ok (.tup [.s (.sl (.g b) (if m.w.length = a.toNat then 0 else a.toNat) k.toNat (m.w.length - a.toNat)), .s (.b true)]) [] (st m)) (.ok (.tup [.s .ns, .s (.b false)]) [] (st m))
  | _ => .bad
noncomputable def spanG := memF spanM
theorem span_snd : Snd Try.prog 60 (FSpec.of spanG) := snd_run (noT_snd _) mixed Try.func60 dc60 100 fun args h K hc hS => by
  obtain ⟨a, b, m, rest, rfl, H, hS1⟩ := memF_spec hS
  clear hS
  have hS := hS1
  clear hS1
  unfold spanM at hS
  split at hS
  · rename_i x k
    simp only [spec_ok, spec_br, setM_self H] at hS
    have hl := m.l
    cases hh : m.has x k with
    | true =>
      have hS := hS.1 hh
      obtain ⟨i, j, rfl, rfl, hij⟩ := M.has_nat hh
      have c1 : ¬ ((i : Int) < 0) := by omega
      have c2 : ¬ ((j : Int) < 0) := by omega
      have c3 : ¬ ((m.w.length : Int) < i) := by omega
      have w1 : IntKind.i64.wrap ((m.w.length : Int) - i) = m.w.length - i := wrap64 (by omega) (by omega)
      have c4 : ¬ ((m.w.length : Int) - i < j) := by omega
      have w2 : IntKind.i64.wrap ((i : Int) + j) = ((i + j : Nat) : Int) := by rw [wrap64] <;> omega
      have c5 : (0 : Int) ≤ i := by omega
      have c6 : (i : Int) ≤ ((i + j : Nat) : Int) := by omega
      have c7 : ((i + j : Nat) : Int) ≤ m.w.length := by omega
      have e1 : i + j - i = j := by omega
      have c8 : 0 ≤ (i : Int) ∧ (i : Int) ≤ ((i + j : Nat) : Int) ∧ ((i + j : Nat) : Int) ≤ m.w.length := by omega
      simp (config := { maxSteps := 10000000 }) only [EV1, EV2, EV3, EV4, EV5, EV6, addT, istep, lenR_sl, lenR_ns, lenR_es, pickR, putD, bin1R, un1R, slcR, bnd, capsOf, fillP, S_plain, V_plain, V.cells, S_known, V_known, C.v, blk, setL, setH, eqS, eq1, cmpS, cmp1, isNil, popTo, killT, setT, leT, V.below, C.below, S_below, R.below, V.val, C.val, S_val, R.val, R.takes, vals, shows, List.any_cons, List.any_nil, unnamed, V.kill, V.names, C.names, S_names, R.names, List.set, List.replicate, ↓q_cond_t, ↓q_cond_f, if_true, if_false, reduceCtorEq, rvals, rvC, result, C_known, V.noL, C.noL, S_noL, R.noL, Option.map, true_and, and_true, ge_iff_le, gt_iff_lt, implies_true, q_ite_t, q_ite_f, beq_iff_eq, bne_iff_ne, q_ne, Nat.reduceAdd, Nat.reducePow, Int.reducePow, Nat.reduceMul, Nat.reduceSub, Nat.reduceLeDiff, Nat.reduceLT, Nat.reduceEqDiff, Int.reduceNeg, Int.reduceLT, Int.reduceLE, Int.reduceEq, Int.reduceNe, Int.reduceAdd, Int.reduceSub, Int.reduceMul, Int.reduceToNat, Int.reduceBEq, Int.reduceBNe, df60, H.ha, MB, c1, c2, c3, w1, c4, w2, slcR, c5, c6, c7, e1]
      exact hS
    | false =>
      have hS := hS.2 hh
      have hn := M.has_not hh
      by_cases c1 : x < 0
      · simp (config := { maxSteps := 10000000 }) only [EV1, EV2, EV3, EV4, EV5, EV6, addT, istep, lenR_sl, lenR_ns, lenR_es, pickR, putD, bin1R, un1R, slcR, bnd, capsOf, fillP, S_plain, V_plain, V.cells, S_known, V_known, C.v, blk, setL, setH, eqS, eq1, cmpS, cmp1, isNil, popTo, killT, setT, leT, V.below, C.below, S_below, R.below, V.val, C.val, S_val, R.val, R.takes, vals, shows, List.any_cons, List.any_nil, unnamed, V.kill, V.names, C.names, S_names, R.names, List.set, List.replicate, ↓q_cond_t, ↓q_cond_f, if_true, if_false, reduceCtorEq, rvals, rvC, result, C_known, V.noL, C.noL, S_noL, R.noL, Option.map, true_and, and_true, ge_iff_le, gt_iff_lt, implies_true, q_ite_t, q_ite_f, beq_iff_eq, bne_iff_ne, q_ne, Nat.reduceAdd, Nat.reducePow, Int.reducePow, Nat.reduceMul, Nat.reduceSub, Nat.reduceLeDiff, Nat.reduceLT, Nat.reduceEqDiff, Int.reduceNeg, Int.reduceLT, Int.reduceLE, Int.reduceEq, Int.reduceNe, Int.reduceAdd, Int.reduceSub, Int.reduceMul, Int.reduceToNat, Int.reduceBEq, Int.reduceBNe, df60, c1]
        exact hS
      by_cases c2 : k < 0
      · simp (config := { maxSteps := 10000000 }) only [EV1, EV2, EV3, EV4, EV5, EV6, addT, istep, lenR_sl, lenR_ns, lenR_es, pickR, putD, bin1R, un1R, slcR, bnd, capsOf, fillP, S_plain, V_plain, V.cells, S_known, V_known, C.v, blk, setL, setH, eqS, eq1, cmpS, cmp1, isNil, popTo, killT, setT, leT, V.below, C.below, S_below, R.below, V.val, C.val, S_val, R.val, R.takes, vals, shows, List.any_cons, List.any_nil, unnamed, V.kill, V.names, C.names, S_names, R.names, List.set, List.replicate, ↓q_cond_t, ↓q_cond_f, if_true, if_false, reduceCtorEq, rvals, rvC, result, C_known, V.noL, C.noL, S_noL, R.noL, Option.map, true_and, and_true, ge_iff_le, gt_iff_lt, implies_true, q_ite_t, q_ite_f, beq_iff_eq, bne_iff_ne, q_ne, Nat.reduceAdd, Nat.reducePow, Int.reducePow, Nat.reduceMul, Nat.reduceSub, Nat.reduceLeDiff, Nat.reduceLT, Nat.reduceEqDiff, Int.reduceNeg, Int.reduceLT, Int.reduceLE, Int.reduceEq, Int.reduceNe, Int.reduceAdd, Int.reduceSub, Int.reduceMul, Int.reduceToNat, Int.reduceBEq, Int.reduceBNe, df60, c1, c2]
        exact hS
      by_cases c3 : (m.w.length : Int) < x
      · simp (config := { maxSteps := 10000000 }) only [EV1, EV2, EV3, EV4, EV5, EV6, addT, istep, lenR_sl, lenR_ns, lenR_es, pickR, putD, bin1R, un1R, slcR, bnd, capsOf, fillP, S_plain, V_plain, V.cells, S_known, V_known, C.v, blk, setL, setH, eqS, eq1, cmpS, cmp1, isNil, popTo, killT, setT, leT, V.below, C.below, S_below, R.below, V.val, C.val, S_val, R.val, R.takes, vals, shows, List.any_cons, List.any_nil, unnamed, V.kill, V.names, C.names, S_names, R.names, List.set, List.replicate, ↓q_cond_t, ↓q_cond_f, if_true, if_false, reduceCtorEq, rvals, rvC, result, C_known, V.noL, C.noL, S_noL, R.noL, Option.map, true_and, and_true, ge_iff_le, gt_iff_lt, implies_true, q_ite_t, q_ite_f, beq_iff_eq, bne_iff_ne, q_ne, Nat.reduceAdd, Nat.reducePow, Int.reducePow, Nat.reduceMul, Nat.reduceSub, Nat.reduceLeDiff, Nat.reduceLT, Nat.reduceEqDiff, Int.reduceNeg, Int.reduceLT, Int.reduceLE, Int.reduceEq, Int.reduceNe, Int.reduceAdd, Int.reduceSub, Int.reduceMul, Int.reduceToNat, Int.reduceBEq, Int.reduceBNe, df60, H.ha, MB, c1, c2, c3]
        exact hS
      have w1 : IntKind.i64.wrap ((m.w.length : Int) - x) = m.w.length - x := wrap64 (by omega) (by omega)
      have c4 : (m.w.length : Int) - x < k := by omega
      simp (config := { maxSteps := 10000000 }) only [EV1, EV2, EV3, EV4, EV5, EV6, addT, istep, lenR_sl, lenR_ns, lenR_es, pickR, putD, bin1R, un1R, slcR, bnd, capsOf, fillP, S_plain, V_plain, V.cells, S_known, V_known, C.v, blk, setL, setH, eqS, eq1, cmpS, cmp1, isNil, popTo, killT, setT, leT, V.below, C.below, S_below, R.below, V.val, C.val, S_val, R.val, R.takes, vals, shows, List.any_cons, List.any_nil, unnamed, V.kill, V.names, C.names, S_names, R.names, List.set, List.replicate, ↓q_cond_t, ↓q_cond_f, if_true, if_false, reduceCtorEq, rvals, rvC, result, C_known, V.noL, C.noL, S_noL, R.noL, Option.map, true_and, and_true, ge_iff_le, gt_iff_lt, implies_true, q_ite_t, q_ite_f, beq_iff_eq, bne_iff_ne, q_ne, Nat.reduceAdd, Nat.reducePow, Int.reducePow, Nat.reduceMul, Nat.reduceSub, Nat.reduceLeDiff, Nat.reduceLT, Nat.reduceEqDiff, Int.reduceNeg, Int.reduceLT, Int.reduceLE, Int.reduceEq, Int.reduceNe, Int.reduceAdd, Int.reduceSub, Int.reduceMul, Int.reduceToNat, Int.reduceBEq, Int.reduceBNe, df60, H.ha, MB, c1, c2, c3, w1, c4]
      exact hS
  · exact hS.elim

def thereM (b : Nat) (m : M) (st : M → List Blk) : List V → Res
  | [.s (.i .i64 a), .s (.i .i64 k)] => .ok (.s (.b (m.has a k))) [] (st m)
  | _ => .bad
noncomputable def thereG := memF thereM
theorem rthere_snd : Snd Try.prog 110 (FSpec.of thereG) := snd_run (noT_snd _) mixed Try.func110 dc110 100 fun args h K hc hS => by
  obtain ⟨a, b, m, rest, rfl, H, hS1⟩ := memF_spec hS
  clear hS
  have hS := hS1
  clear hS1
  unfold thereM at hS
  split at hS
  · rename_i x k
    simp only [spec_ok, setM_self H] at hS
    have hl := m.l
    cases hh : m.has x k with
    | true =>
      rw [hh] at hS
      obtain ⟨i, j, rfl, rfl, hij⟩ := M.has_nat hh
      have w1 : IntKind.i64.wrap ((m.w.length : Int) - i) = m.w.length - i := wrap64 (by omega) (by omega)
      have c1 : (0 : Int) ≤ i := by omega
      have c2 : (0 : Int) ≤ j := by omega
      have c3 : (i : Int) ≤ m.w.length := by omega
      have c4 : (j : Int) ≤ (m.w.length : Int) - i := by omega
      simp (config := { maxSteps := 10000000 }) only [EV1, EV2, EV3, EV4, EV5, EV6, addT, istep, lenR_sl, lenR_ns, lenR_es, pickR, putD, bin1R, un1R, slcR, bnd, capsOf, fillP, S_plain, V_plain, V.cells, S_known, V_known, C.v, blk, setL, setH, eqS, eq1, cmpS, cmp1, isNil, popTo, killT, setT, leT, V.below, C.below, S_below, R.below, V.val, C.val, S_val, R.val, R.takes, vals, shows, List.any_cons, List.any_nil, unnamed, V.kill, V.names, C.names, S_names, R.names, List.set, List.replicate, ↓q_cond_t, ↓q_cond_f, if_true, if_false, reduceCtorEq, rvals, rvC, result, C_known, V.noL, C.noL, S_noL, R.noL, Option.map, true_and, and_true, ge_iff_le, gt_iff_lt, implies_true, q_ite_t, q_ite_f, beq_iff_eq, bne_iff_ne, q_ne, Nat.reduceAdd, Nat.reducePow, Int.reducePow, Nat.reduceMul, Nat.reduceSub, Nat.reduceLeDiff, Nat.reduceLT, Nat.reduceEqDiff, Int.reduceNeg, Int.reduceLT, Int.reduceLE, Int.reduceEq, Int.reduceNe, Int.reduceAdd, Int.reduceSub, Int.reduceMul, Int.reduceToNat, Int.reduceBEq, Int.reduceBNe, df110, H.ha, MB, c1, c2, c3, w1, c4]
      exact hS
    | false =>
      rw [hh] at hS
      have hn := M.has_not hh
      by_cases c1 : 0 ≤ x
      · by_cases c2 : 0 ≤ k
        · by_cases c3 : x ≤ m.w.length
          · have w1 : IntKind.i64.wrap ((m.w.length : Int) - x) = m.w.length - x := wrap64 (by omega) (by omega)
            have c4 : ¬ (k ≤ (m.w.length : Int) - x) := by omega
            simp (config := { maxSteps := 10000000 }) only [EV1, EV2, EV3, EV4, EV5, EV6, addT, istep, lenR_sl, lenR_ns, lenR_es, pickR, putD, bin1R, un1R, slcR, bnd, capsOf, fillP, S_plain, V_plain, V.cells, S_known, V_known, C.v, blk, setL, setH, eqS, eq1, cmpS, cmp1, isNil, popTo, killT, setT, leT, V.below, C.below, S_below, R.below, V.val, C.val, S_val, R.val, R.takes, vals, shows, List.any_cons, List.any_nil, unnamed, V.kill, V.names, C.names, S_names, R.names, List.set, List.replicate, ↓q_cond_t, ↓q_cond_f, if_true, if_false, reduceCtorEq, rvals, rvC, result, C_known, V.noL, C.noL, S_noL, R.noL, Option.map, true_and, and_true, ge_iff_le, gt_iff_lt, implies_true, q_ite_t, q_ite_f, beq_iff_eq, bne_iff_ne, q_ne, Nat.reduceAdd, Nat.reducePow, Int.reducePow, Nat.reduceMul, Nat.reduceSub, Nat.reduceLeDiff, Nat.reduceLT, Nat.reduceEqDiff, Int.reduceNeg, Int.reduceLT, Int.reduceLE, Int.reduceEq, Int.reduceNe, Int.reduceAdd, Int.reduceSub, Int.reduceMul, Int.reduceToNat, Int.reduceBEq, Int.reduceBNe, df110, H.ha, MB, c1, c2, c3, w1, c4]
            exact hS
          · simp (config := { maxSteps := 10000000 }) only [EV1, EV2, EV3, EV4, EV5, EV6, addT, istep, lenR_sl, lenR_ns, lenR_es, pickR, putD, bin1R, un1R, slcR, bnd, capsOf, fillP, S_plain, V_plain, V.cells, S_known, V_known, C.v, blk, setL, setH, eqS, eq1, cmpS, cmp1, isNil, popTo, killT, setT, leT, V.below, C.below, S_below, R.below, V.val, C.val, S_val, R.val, R.takes, vals, shows, List.any_cons, List.any_nil, unnamed, V.kill, V.names, C.names, S_names, R.names, List.set, List.replicate, ↓q_cond_t, ↓q_cond_f, if_true, if_false, reduceCtorEq, rvals, rvC, result, C_known, V.noL, C.noL, S_noL, R.noL, Option.map, true_and, and_true, ge_iff_le, gt_iff_lt, implies_true, q_ite_t, q_ite_f, beq_iff_eq, bne_iff_ne, q_ne, Nat.reduceAdd, Nat.reducePow, Int.reducePow, Nat.reduceMul, Nat.reduceSub, Nat.reduceLeDiff, Nat.reduceLT, Nat.reduceEqDiff, Int.reduceNeg, Int.reduceLT, Int.reduceLE, Int.reduceEq, Int.reduceNe, Int.reduceAdd, Int.reduceSub, Int.reduceMul, Int.reduceToNat, Int.reduceBEq, Int.reduceBNe, df110, H.ha, MB, c1, c2, c3]
            exact hS
        · simp (config := { maxSteps := 10000000 }) only [EV1, EV2, EV3, EV4, EV5, EV6, addT, istep, lenR_sl, lenR_ns, lenR_es, pickR, putD, bin1R, un1R, slcR, bnd, capsOf, fillP, S_plain, V_plain, V.cells, S_known, V_known, C.v, blk, setL, setH, eqS, eq1, cmpS, cmp1, isNil, popTo, killT, setT, leT, V.below, C.below, S_below, R.below, V.val, C.val, S_val, R.val, R.takes, vals, shows, List.any_cons, List.any_nil, unnamed, V.kill, V.names, C.names, S_names, R.names, List.set, List.replicate, ↓q_cond_t, ↓q_cond_f, if_true, if_false, reduceCtorEq, rvals, rvC, result, C_known, V.noL, C.noL, S_noL, R.noL, Option.map, true_and, and_true, ge_iff_le, gt_iff_lt, implies_true, q_ite_t, q_ite_f, beq_iff_eq, bne_iff_ne, q_ne, Nat.reduceAdd, Nat.reducePow, Int.reducePow, Nat.reduceMul, Nat.reduceSub, Nat.reduceLeDiff, Nat.reduceLT, Nat.reduceEqDiff, Int.reduceNeg, Int.reduceLT, Int.reduceLE, Int.reduceEq, Int.reduceNe, Int.reduceAdd, Int.reduceSub, Int.reduceMul, Int.reduceToNat, Int.reduceBEq, Int.reduceBNe, df110, H.ha, MB, c1, c2]
          exact hS
      · simp (config := { maxSteps := 10000000 }) only [EV1, EV2, EV3, EV4, EV5, EV6, addT, istep, lenR_sl, lenR_ns, lenR_es, pickR, putD, bin1R, un1R, slcR, bnd, capsOf, fillP, S_plain, V_plain, V.cells, S_known, V_known, C.v, blk, setL, setH, eqS, eq1, cmpS, cmp1, isNil, popTo, killT, setT, leT, V.below, C.below, S_below, R.below, V.val, C.val, S_val, R.val, R.takes, vals, shows, List.any_cons, List.any_nil, unnamed, V.kill, V.names, C.names, S_names, R.names, List.set, List.replicate, ↓q_cond_t, ↓q_cond_f, if_true, if_false, reduceCtorEq, rvals, rvC, result, C_known, V.noL, C.noL, S_noL, R.noL, Option.map, true_and, and_true, ge_iff_le, gt_iff_lt, implies_true, q_ite_t, q_ite_f, beq_iff_eq, bne_iff_ne, q_ne, Nat.reduceAdd, Nat.reducePow, Int.reducePow, Nat.reduceMul, Nat.reduceSub, Nat.reduceLeDiff, Nat.reduceLT, Nat.reduceEqDiff, Int.reduceNeg, Int.reduceLT, Int.reduceLE, Int.reduceEq, Int.reduceNe, Int.reduceAdd, Int.reduceSub, Int.reduceMul, Int.reduceToNat, Int.reduceBEq, Int.reduceBNe, df110, H.ha, MB, c1]
        exact hS
  · exact hS.elim
end Go.Proofs.Ytdlloccodmdnnaa

/- The machine's memory: reading and writing. -/
namespace Go.Proofs.Ytdlloccodmdnnaa
open Go.D
set_option linter.all false
set_option maxRecDepth 100000
set_option maxHeartbeats 4000000

theorem IsMem.hb' {h : List Blk} {a b : Nat} {m : M} (H : IsMem h a b m) (B : Blk) : (h.set a B)[b]? = some (MW m) := by rw [set_miss H.ne]; exact H.hb
theorem IsMem.ha' {h : List Blk} {a b : Nat} {m : M} (H : IsMem h a b m) (B : Blk) : (h.set b B)[a]? = some (MB b m) := by rw [set_miss (Ne.symm H.ne)]; exact H.ha

noncomputable def TSp : Tab := addT 60 spanG (addT 110 thereG noT)
theorem TSp_snd : TSp.Snd Try.prog := addT_snd ok60 span_snd (addT_snd ok110 rthere_snd (noT_snd _))

def readM (b : Nat) (m : M) (st : M → List Blk) : List V → Res
  | [.s (.i .i64 x)] => .br (m.has x 1) (.ok (.tup [.s (.i .u64 (m.at x)), .s (.i .i64 0)]) [] (st (m.tick 1))) (.ok (.tup [.s (.i .u64 0), .s (.i .i64 20)]) [] (st m))
  | _ => .bad
noncomputable def readG := memF readM
theorem mread_snd : Snd Try.prog 70 (FSpec.of readG) := snd_run TSp_snd mixed Try.func70 dc70 100 fun args h K hc hS => by
  obtain ⟨a, b, m, rest, rfl, H, hS1⟩ := memF_spec hS
  clear hS
  have hS := hS1
  clear hS1
  unfold readM at hS
  split at hS
  · rename_i x
    simp only [spec_ok, spec_br, setM_self H] at hS
    rw [← setM_steps H (m' := m.tick 1) rfl] at hS
    cases hh : m.has x 1 with
    | true =>
      have hS := hS.1 hh
      obtain ⟨i, j, rfl, e, hij⟩ := M.has_nat hh
      have c1 : ¬ (m.w.length = i) := by omega
      have c2 : (0 : Int) ≤ i ∧ (i : Int) < m.w.length := by omega
      have g := wc_get (w := m.w) (i := i) (by omega)
      simp (config := { maxSteps := 10000000 }) only [EV1, EV2, EV3, EV4, EV5, EV6, addT, istep, lenR_sl, lenR_ns, lenR_es, pickR, putD, bin1R, un1R, slcR, bnd, capsOf, fillP, S_plain, V_plain, V.cells, S_known, V_known, C.v, blk, setL, setH, eqS, eq1, cmpS, cmp1, isNil, popTo, killT, setT, leT, V.below, C.below, S_below, R.below, V.val, C.val, S_val, R.val, R.takes, vals, shows, List.any_cons, List.any_nil, unnamed, V.kill, V.names, C.names, S_names, R.names, List.set, List.replicate, ↓q_cond_t, ↓q_cond_f, if_true, if_false, reduceCtorEq, rvals, rvC, result, C_known, V.noL, C.noL, S_noL, R.noL, Option.map, true_and, and_true, ge_iff_le, gt_iff_lt, implies_true, q_ite_t, q_ite_f, beq_iff_eq, bne_iff_ne, q_ne, Nat.reduceAdd, Nat.reducePow, Int.reducePow, Nat.reduceMul, Nat.reduceSub, Nat.reduceLeDiff, Nat.reduceLT, Nat.reduceEqDiff, Int.reduceNeg, Int.reduceLT, Int.reduceLE, Int.reduceEq, Int.reduceNe, Int.reduceAdd, Int.reduceSub, Int.reduceMul, Int.reduceToNat, Int.reduceBEq, Int.reduceBNe, df70, TSp, spanG, thereG, memF_eq H, spanM, thereM, setM_self H, hh, c1, c2, H.ha, H.hb, H.hb', MB, MW, g, Int.toNat_natCast, set_hit H.ha]
      exact hS
    | false =>
      have hS := hS.2 hh
      simp (config := { maxSteps := 10000000 }) only [EV1, EV2, EV3, EV4, EV5, EV6, addT, istep, lenR_sl, lenR_ns, lenR_es, pickR, putD, bin1R, un1R, slcR, bnd, capsOf, fillP, S_plain, V_plain, V.cells, S_known, V_known, C.v, blk, setL, setH, eqS, eq1, cmpS, cmp1, isNil, popTo, killT, setT, leT, V.below, C.below, S_below, R.below, V.val, C.val, S_val, R.val, R.takes, vals, shows, List.any_cons, List.any_nil, unnamed, V.kill, V.names, C.names, S_names, R.names, List.set, List.replicate, ↓q_cond_t, ↓q_cond_f, if_true, if_false, reduceCtorEq, rvals, rvC, result, C_known, V.noL, C.noL, S_noL, R.noL, Option.map, true_and, and_true, ge_iff_le, gt_iff_lt, implies_true, q_ite_t, q_ite_f, beq_iff_eq, bne_iff_ne, q_ne, Nat.reduceAdd, Nat.reducePow, Int.reducePow, Nat.reduceMul, Nat.reduceSub, Nat.reduceLeDiff, Nat.reduceLT, Nat.reduceEqDiff, Int.reduceNeg, Int.reduceLT, Int.reduceLE, Int.reduceEq, Int.reduceNe, Int.reduceAdd, Int.reduceSub, Int.reduceMul, Int.reduceToNat, Int.reduceBEq, Int.reduceBNe, df70, TSp, spanG, thereG, memF_eq H, spanM, thereM, setM_self H, hh]
      exact hS
  · exact hS.elim
theorem rread_snd : Snd Try.prog 100 (FSpec.of readG) := snd_run TSp_snd mixed Try.func100 dc100 100 fun args h K hc hS => by
  obtain ⟨a, b, m, rest, rfl, H, hS1⟩ := memF_spec hS
  clear hS
  have hS := hS1
  clear hS1
  unfold readM at hS
  split at hS
  · rename_i x
    simp only [spec_ok, spec_br, setM_self H] at hS
    rw [← setM_steps H (m' := m.tick 1) rfl] at hS
    cases hh : m.has x 1 with
    | true =>
      have hS := hS.1 hh
      obtain ⟨i, j, rfl, e, hij⟩ := M.has_nat hh
      have c1 : ¬ (m.w.length = i) := by omega
      have c2 : (0 : Int) ≤ i ∧ (i : Int) < m.w.length := by omega
      have g := wc_get (w := m.w) (i := i) (by omega)
      simp (config := { maxSteps := 10000000 }) only [EV1, EV2, EV3, EV4, EV5, EV6, addT, istep, lenR_sl, lenR_ns, lenR_es, pickR, putD, bin1R, un1R, slcR, bnd, capsOf, fillP, S_plain, V_plain, V.cells, S_known, V_known, C.v, blk, setL, setH, eqS, eq1, cmpS, cmp1, isNil, popTo, killT, setT, leT, V.below, C.below, S_below, R.below, V.val, C.val, S_val, R.val, R.takes, vals, shows, List.any_cons, List.any_nil, unnamed, V.kill, V.names, C.names, S_names, R.names, List.set, List.replicate, ↓q_cond_t, ↓q_cond_f, if_true, if_false, reduceCtorEq, rvals, rvC, result, C_known, V.noL, C.noL, S_noL, R.noL, Option.map, true_and, and_true, ge_iff_le, gt_iff_lt, implies_true, q_ite_t, q_ite_f, beq_iff_eq, bne_iff_ne, q_ne, Nat.reduceAdd, Nat.reducePow, Int.reducePow, Nat.reduceMul, Nat.reduceSub, Nat.reduceLeDiff, Nat.reduceLT, Nat.reduceEqDiff, Int.reduceNeg, Int.reduceLT, Int.reduceLE, Int.reduceEq, Int.reduceNe, Int.reduceAdd, Int.reduceSub, Int.reduceMul, Int.reduceToNat, Int.reduceBEq, Int.reduceBNe, df100, TSp, spanG, thereG, memF_eq H, spanM, thereM, setM_self H, hh, c1, c2, H.ha, H.hb, H.hb', MB, MW, g, Int.toNat_natCast, set_hit H.ha]
      exact hS
    | false =>
      have hS := hS.2 hh
      simp (config := { maxSteps := 10000000 }) only [EV1, EV2, EV3, EV4, EV5, EV6, addT, istep, lenR_sl, lenR_ns, lenR_es, pickR, putD, bin1R, un1R, slcR, bnd, capsOf, fillP, S_plain, V_plain, V.cells, S_known, V_known, C.v, blk, setL, setH, eqS, eq1, cmpS, cmp1, isNil, popTo, killT, setT, leT, V.below, C.below, S_below, R.below, V.val, C.val, S_val, R.val, R.takes, vals, shows, List.any_cons, List.any_nil, unnamed, V.kill, V.names, C.names, S_names, R.names, List.set, List.replicate, ↓q_cond_t, ↓q_cond_f, if_true, if_false, reduceCtorEq, rvals, rvC, result, C_known, V.noL, C.noL, S_noL, R.noL, Option.map, true_and, and_true, ge_iff_le, gt_iff_lt, implies_true, q_ite_t, q_ite_f, beq_iff_eq, bne_iff_ne, q_ne, Nat.reduceAdd, Nat.reducePow, Int.reducePow, Nat.reduceMul, Nat.reduceSub, Nat.reduceLeDiff, Nat.reduceLT, Nat.reduceEqDiff, Int.reduceNeg, Int.reduceLT, Int.reduceLE, Int.reduceEq, Int.reduceNe, Int.reduceAdd, Int.reduceSub, Int.reduceMul, Int.reduceToNat, Int.reduceBEq, Int.reduceBNe, df100, TSp, spanG, thereG, memF_eq H, spanM, thereM, setM_self H, hh]
      exact hS
  · exact hS.elim

def fillM (b : Nat) (m : M) (st : M → List Blk) : List V → Res
  | [.s (.i .i64 x), .s (.i .i64 k), .s (.i .u64 v)] => .ob (u64 v) (.br (m.has x k) (.ok (.s (.i .i64 0)) [] (st ((m.fill x.toNat v k.toNat).tick k))) (.ok (.s (.i .i64 20)) [] (st m)))
  | _ => .bad
noncomputable def fillG := memF fillM
theorem mfill_snd : Snd Try.prog 38 (FSpec.of fillG) := snd_run TSp_snd mixed Try.func38 dc38 100 fun args h K hc hS => by
  obtain ⟨a, b, m, rest, rfl, H, hS1⟩ := memF_spec hS
  clear hS
  have hS := hS1
  clear hS1
  unfold fillM at hS
  split at hS
  · rename_i x k v
    simp only [spec_ob, spec_ok, spec_br, setM_self H] at hS
    obtain ⟨hv, hS⟩ := hS
    cases hh : m.has x k with
    | true =>
      have hS := hS.1 hh
      obtain ⟨i, j, rfl, rfl, hij⟩ := M.has_nat hh
      simp only [Int.toNat_natCast] at hS
      have hl := m.l
      obtain ⟨o, ho, hoi⟩ : ∃ o : Nat, (if m.w.length = i then 0 else i) = o ∧ (i < m.w.length → o = i) := ⟨_, rfl, fun hlt => if_neg (by omega)⟩
      simp (config := { maxSteps := 10000000 }) only [EV1, EV2, EV3, EV4, EV5, EV6, addT, istep, lenR_sl, lenR_ns, lenR_es, pickR, putD, bin1R, un1R, slcR, bnd, capsOf, fillP, S_plain, V_plain, V.cells, S_known, V_known, C.v, blk, setL, setH, eqS, eq1, cmpS, cmp1, isNil, popTo, killT, setT, leT, V.below, C.below, S_below, R.below, V.val, C.val, S_val, R.val, R.takes, vals, shows, List.any_cons, List.any_nil, unnamed, V.kill, V.names, C.names, S_names, R.names, List.set, List.replicate, ↓q_cond_t, ↓q_cond_f, if_true, if_false, reduceCtorEq, rvals, rvC, result, C_known, V.noL, C.noL, S_noL, R.noL, Option.map, true_and, and_true, ge_iff_le, gt_iff_lt, implies_true, q_ite_t, q_ite_f, beq_iff_eq, bne_iff_ne, q_ne, Nat.reduceAdd, Nat.reducePow, Int.reducePow, Nat.reduceMul, Nat.reduceSub, Nat.reduceLeDiff, Nat.reduceLT, Nat.reduceEqDiff, Int.reduceNeg, Int.reduceLT, Int.reduceLE, Int.reduceEq, Int.reduceNe, Int.reduceAdd, Int.reduceSub, Int.reduceMul, Int.reduceToNat, Int.reduceBEq, Int.reduceBNe, df38, TSp, spanG, memF_eq H, spanM, setM_self H, hh, Int.toNat_natCast, ho]
      refine loop_rule (α := Nat) [11, 23, 24, 25, 26, 27, 28, 29, 30] (fun q => [(23, .s (.i .i64 q))]) (fun _ => []) (fun q => h.set b ⟨.rw, wc (m.fill i v q).w, m.w.length⟩) (fun q => q ≤ j) (fun q => j - q) 0 (by omega) ?_ ?_
      · simp only [M.fill]
        rw [show (⟨.rw, wc m.w, m.w.length⟩ : Blk) = MW m from rfl, set_self H.hb]
        refine Wk.less ?_
        simp (config := { maxSteps := 10000000 }) only [EV1, EV2, EV3, EV4, EV5, EV6, addT, istep, lenR_sl, lenR_ns, lenR_es, pickR, putD, bin1R, un1R, slcR, bnd, capsOf, fillP, S_plain, V_plain, V.cells, S_known, V_known, C.v, blk, setL, setH, eqS, eq1, cmpS, cmp1, isNil, popTo, killT, setT, leT, V.below, C.below, S_below, R.below, V.val, C.val, S_val, R.val, R.takes, vals, shows, List.any_cons, List.any_nil, unnamed, V.kill, V.names, C.names, S_names, R.names, List.set, List.replicate, ↓q_cond_t, ↓q_cond_f, if_true, if_false, reduceCtorEq, rvals, rvC, result, C_known, V.noL, C.noL, S_noL, R.noL, Option.map, true_and, and_true, ge_iff_le, gt_iff_lt, implies_true, q_ite_t, q_ite_f, beq_iff_eq, bne_iff_ne, q_ne, Nat.reduceAdd, Nat.reducePow, Int.reducePow, Nat.reduceMul, Nat.reduceSub, Nat.reduceLeDiff, Nat.reduceLT, Nat.reduceEqDiff, Int.reduceNeg, Int.reduceLT, Int.reduceLE, Int.reduceEq, Int.reduceNe, Int.reduceAdd, Int.reduceSub, Int.reduceMul, Int.reduceToNat, Int.reduceBEq, Int.reduceBNe, q_cast, Int.natCast_zero]
      · rintro X q hq IH
        rcases Nat.lt_or_ge q j with h1 | h1
        · obtain ⟨d1, d2, d3, d4⟩ := idx h1 (by omega)
          have c1 := (hoi (by omega)).symm
          subst c1
          have c3 : (h.set b ⟨BK.rw, wc (m.fill i v q).w, m.w.length⟩)[b]? = some ⟨BK.rw, wc (m.fill i v q).w, m.w.length⟩ := set_hit H.hb
          have c4 : i + q + 1 ≤ (wc (m.fill i v q).w).length := by rw [wc_len, M.fill_len]; omega
          have c5 : ((wc (m.fill i v q).w).set (i + q) (S.i .u64 v)) = wc (m.fill i v (q + 1)).w := by rw [wc_set]; simp only [M.fill, M.put, uw_of hv]
          refine run_sound (Tab.ok_Γ _) 100 _ _ _ _ ?_
          simp (config := { maxSteps := 10000000 }) only [EV1, EV2, EV3, EV4, EV5, EV6, addT, istep, lenR_sl, lenR_ns, lenR_es, pickR, putD, bin1R, un1R, slcR, bnd, capsOf, fillP, S_plain, V_plain, V.cells, S_known, V_known, C.v, blk, setL, setH, eqS, eq1, cmpS, cmp1, isNil, popTo, killT, setT, leT, V.below, C.below, S_below, R.below, V.val, C.val, S_val, R.val, R.takes, vals, shows, List.any_cons, List.any_nil, unnamed, V.kill, V.names, C.names, S_names, R.names, List.set, List.replicate, ↓q_cond_t, ↓q_cond_f, if_true, if_false, reduceCtorEq, rvals, rvC, result, C_known, V.noL, C.noL, S_noL, R.noL, Option.map, true_and, and_true, ge_iff_le, gt_iff_lt, implies_true, q_ite_t, q_ite_f, beq_iff_eq, bne_iff_ne, q_ne, Nat.reduceAdd, Nat.reducePow, Int.reducePow, Nat.reduceMul, Nat.reduceSub, Nat.reduceLeDiff, Nat.reduceLT, Nat.reduceEqDiff, Int.reduceNeg, Int.reduceLT, Int.reduceLE, Int.reduceEq, Int.reduceNe, Int.reduceAdd, Int.reduceSub, Int.reduceMul, Int.reduceToNat, Int.reduceBEq, Int.reduceBNe, d1, d2, d3, d4, c3, MW, c4, Int.toNat_natCast, put, c5, List.set_set]
          exact IH (q + 1) _ (by omega) (by omega) (Wk.same rfl rfl (by simp (config := { maxSteps := 10000000 }) only [EV1, EV2, EV3, EV4, EV5, EV6, addT, istep, lenR_sl, lenR_ns, lenR_es, pickR, putD, bin1R, un1R, slcR, bnd, capsOf, fillP, S_plain, V_plain, V.cells, S_known, V_known, C.v, blk, setL, setH, eqS, eq1, cmpS, cmp1, isNil, popTo, killT, setT, leT, V.below, C.below, S_below, R.below, V.val, C.val, S_val, R.val, R.takes, vals, shows, List.any_cons, List.any_nil, unnamed, V.kill, V.names, C.names, S_names, R.names, List.set, List.replicate, ↓q_cond_t, ↓q_cond_f, if_true, if_false, reduceCtorEq, rvals, rvC, result, C_known, V.noL, C.noL, S_noL, R.noL, Option.map, true_and, and_true, ge_iff_le, gt_iff_lt, implies_true, q_ite_t, q_ite_f, beq_iff_eq, bne_iff_ne, q_ne, Nat.reduceAdd, Nat.reducePow, Int.reducePow, Nat.reduceMul, Nat.reduceSub, Nat.reduceLeDiff, Nat.reduceLT, Nat.reduceEqDiff, Int.reduceNeg, Int.reduceLT, Int.reduceLE, Int.reduceEq, Int.reduceNe, Int.reduceAdd, Int.reduceSub, Int.reduceMul, Int.reduceToNat, Int.reduceBEq, Int.reduceBNe]))
        · have : q = j := by omega
          subst this
          have ha := H.ha'
          refine run_sound (Tab.ok_Γ _) 100 _ _ _ _ ?_
          simp (config := { maxSteps := 10000000 }) only [EV1, EV2, EV3, EV4, EV5, EV6, addT, istep, lenR_sl, lenR_ns, lenR_es, pickR, putD, bin1R, un1R, slcR, bnd, capsOf, fillP, S_plain, V_plain, V.cells, S_known, V_known, C.v, blk, setL, setH, eqS, eq1, cmpS, cmp1, isNil, popTo, killT, setT, leT, V.below, C.below, S_below, R.below, V.val, C.val, S_val, R.val, R.takes, vals, shows, List.any_cons, List.any_nil, unnamed, V.kill, V.names, C.names, S_names, R.names, List.set, List.replicate, ↓q_cond_t, ↓q_cond_f, if_true, if_false, reduceCtorEq, rvals, rvC, result, C_known, V.noL, C.noL, S_noL, R.noL, Option.map, true_and, and_true, ge_iff_le, gt_iff_lt, implies_true, q_ite_t, q_ite_f, beq_iff_eq, bne_iff_ne, q_ne, Nat.reduceAdd, Nat.reducePow, Int.reducePow, Nat.reduceMul, Nat.reduceSub, Nat.reduceLeDiff, Nat.reduceLT, Nat.reduceEqDiff, Int.reduceNeg, Int.reduceLT, Int.reduceLE, Int.reduceEq, Int.reduceNe, Int.reduceAdd, Int.reduceSub, Int.reduceMul, Int.reduceToNat, Int.reduceBEq, Int.reduceBNe, Int.lt_irrefl, ha, MB]
          refine cast (congrArg (K _) ?_) hS
          simp only [setM]
          rw [List.set_comm _ _ H.ne]
          simp only [MW, MB, M.tick, M.fill_len, M.fill_n]
    | false =>
      have hS := hS.2 hh
      simp (config := { maxSteps := 10000000 }) only [EV1, EV2, EV3, EV4, EV5, EV6, addT, istep, lenR_sl, lenR_ns, lenR_es, pickR, putD, bin1R, un1R, slcR, bnd, capsOf, fillP, S_plain, V_plain, V.cells, S_known, V_known, C.v, blk, setL, setH, eqS, eq1, cmpS, cmp1, isNil, popTo, killT, setT, leT, V.below, C.below, S_below, R.below, V.val, C.val, S_val, R.val, R.takes, vals, shows, List.any_cons, List.any_nil, unnamed, V.kill, V.names, C.names, S_names, R.names, List.set, List.replicate, ↓q_cond_t, ↓q_cond_f, if_true, if_false, reduceCtorEq, rvals, rvC, result, C_known, V.noL, C.noL, S_noL, R.noL, Option.map, true_and, and_true, ge_iff_le, gt_iff_lt, implies_true, q_ite_t, q_ite_f, beq_iff_eq, bne_iff_ne, q_ne, Nat.reduceAdd, Nat.reducePow, Int.reducePow, Nat.reduceMul, Nat.reduceSub, Nat.reduceLeDiff, Nat.reduceLT, Nat.reduceEqDiff, Int.reduceNeg, Int.reduceLT, Int.reduceLE, Int.reduceEq, Int.reduceNe, Int.reduceAdd, Int.reduceSub, Int.reduceMul, Int.reduceToNat, Int.reduceBEq, Int.reduceBNe, df38, TSp, spanG, memF_eq H, spanM, setM_self H, hh]
      exact hS
  · exact hS.elim

def writeM (b : Nat) (m : M) (st : M → List Blk) : List V → Res
  | [.s (.i .i64 x), .s (.i .u64 v)] => .ob (u64 v) (.br (m.has x 1) (.ok (.s (.i .i64 0)) [] (st ((m.put x.toNat v).tick 1))) (.ok (.s (.i .i64 20)) [] (st m)))
  | _ => .bad
noncomputable def writeG := memF writeM
noncomputable def TFi : Tab := addT 38 fillG noT
theorem TFi_snd : TFi.Snd Try.prog := addT_snd ok38 mfill_snd (noT_snd _)
theorem mwrite_snd : Snd Try.prog 78 (FSpec.of writeG) := snd_run TFi_snd mixed Try.func78 dc78 100 fun args h K hc hS => by
  obtain ⟨a, b, m, rest, rfl, H, hS1⟩ := memF_spec hS
  clear hS
  have hS := hS1
  clear hS1
  unfold writeM at hS
  split at hS
  · rename_i x v
    simp only [spec_ob, spec_ok, spec_br, setM_self H] at hS
    obtain ⟨hv, hS⟩ := hS
    cases hh : m.has x 1 with
    | true =>
      have hS := hS.1 hh
      simp (config := { maxSteps := 10000000 }) only [EV1, EV2, EV3, EV4, EV5, EV6, addT, istep, lenR_sl, lenR_ns, lenR_es, pickR, putD, bin1R, un1R, slcR, bnd, capsOf, fillP, S_plain, V_plain, V.cells, S_known, V_known, C.v, blk, setL, setH, eqS, eq1, cmpS, cmp1, isNil, popTo, killT, setT, leT, V.below, C.below, S_below, R.below, V.val, C.val, S_val, R.val, R.takes, vals, shows, List.any_cons, List.any_nil, unnamed, V.kill, V.names, C.names, S_names, R.names, List.set, List.replicate, ↓q_cond_t, ↓q_cond_f, if_true, if_false, reduceCtorEq, rvals, rvC, result, C_known, V.noL, C.noL, S_noL, R.noL, Option.map, true_and, and_true, ge_iff_le, gt_iff_lt, implies_true, q_ite_t, q_ite_f, beq_iff_eq, bne_iff_ne, q_ne, Nat.reduceAdd, Nat.reducePow, Int.reducePow, Nat.reduceMul, Nat.reduceSub, Nat.reduceLeDiff, Nat.reduceLT, Nat.reduceEqDiff, Int.reduceNeg, Int.reduceLT, Int.reduceLE, Int.reduceEq, Int.reduceNe, Int.reduceAdd, Int.reduceSub, Int.reduceMul, Int.reduceToNat, Int.reduceBEq, Int.reduceBNe, df78, TFi, fillG, memF_eq H, fillM, setM_self H, hh, hv, M.fill]
      exact hS
    | false =>
      have hS := hS.2 hh
      simp (config := { maxSteps := 10000000 }) only [EV1, EV2, EV3, EV4, EV5, EV6, addT, istep, lenR_sl, lenR_ns, lenR_es, pickR, putD, bin1R, un1R, slcR, bnd, capsOf, fillP, S_plain, V_plain, V.cells, S_known, V_known, C.v, blk, setL, setH, eqS, eq1, cmpS, cmp1, isNil, popTo, killT, setT, leT, V.below, C.below, S_below, R.below, V.val, C.val, S_val, R.val, R.takes, vals, shows, List.any_cons, List.any_nil, unnamed, V.kill, V.names, C.names, S_names, R.names, List.set, List.replicate, ↓q_cond_t, ↓q_cond_f, if_true, if_false, reduceCtorEq, rvals, rvC, result, C_known, V.noL, C.noL, S_noL, R.noL, Option.map, true_and, and_true, ge_iff_le, gt_iff_lt, implies_true, q_ite_t, q_ite_f, beq_iff_eq, bne_iff_ne, q_ne, Nat.reduceAdd, Nat.reducePow, Int.reducePow, Nat.reduceMul, Nat.reduceSub, Nat.reduceLeDiff, Nat.reduceLT, Nat.reduceEqDiff, Int.reduceNeg, Int.reduceLT, Int.reduceLE, Int.reduceEq, Int.reduceNe, Int.reduceAdd, Int.reduceSub, Int.reduceMul, Int.reduceToNat, Int.reduceBEq, Int.reduceBNe, df78, TFi, fillG, memF_eq H, fillM, setM_self H, hh, hv, M.fill]
      exact hS
  · exact hS.elim
theorem rwrite_snd : Snd Try.prog 91 (FSpec.of writeG) := snd_run TSp_snd mixed Try.func91 dc91 100 fun args h K hc hS => by
  obtain ⟨a, b, m, rest, rfl, H, hS1⟩ := memF_spec hS
  clear hS
  have hS := hS1
  clear hS1
  unfold writeM at hS
  split at hS
  · rename_i x v
    simp only [spec_ob, spec_ok, spec_br, setM_self H] at hS
    obtain ⟨hv, hS⟩ := hS
    cases hh : m.has x 1 with
    | true =>
      have hS := hS.1 hh
      obtain ⟨i, j, rfl, e, hij⟩ := M.has_nat hh
      have c2 : (0 : Int) ≤ i ∧ (i : Int) < m.w.length := by omega
      have c4 : i + 1 ≤ (wc m.w).length := by rw [wc_len]; omega
      simp (config := { maxSteps := 10000000 }) only [EV1, EV2, EV3, EV4, EV5, EV6, addT, istep, lenR_sl, lenR_ns, lenR_es, pickR, putD, bin1R, un1R, slcR, bnd, capsOf, fillP, S_plain, V_plain, V.cells, S_known, V_known, C.v, blk, setL, setH, eqS, eq1, cmpS, cmp1, isNil, popTo, killT, setT, leT, V.below, C.below, S_below, R.below, V.val, C.val, S_val, R.val, R.takes, vals, shows, List.any_cons, List.any_nil, unnamed, V.kill, V.names, C.names, S_names, R.names, List.set, List.replicate, ↓q_cond_t, ↓q_cond_f, if_true, if_false, reduceCtorEq, rvals, rvC, result, C_known, V.noL, C.noL, S_noL, R.noL, Option.map, true_and, and_true, ge_iff_le, gt_iff_lt, implies_true, q_ite_t, q_ite_f, beq_iff_eq, bne_iff_ne, q_ne, Nat.reduceAdd, Nat.reducePow, Int.reducePow, Nat.reduceMul, Nat.reduceSub, Nat.reduceLeDiff, Nat.reduceLT, Nat.reduceEqDiff, Int.reduceNeg, Int.reduceLT, Int.reduceLE, Int.reduceEq, Int.reduceNe, Int.reduceAdd, Int.reduceSub, Int.reduceMul, Int.reduceToNat, Int.reduceBEq, Int.reduceBNe, df91, TSp, thereG, memF_eq H, thereM, setM_self H, hh, c2, H.ha, H.hb, H.ha', H.hb', MB, MW, put, wc_set, Int.toNat_natCast, c4, set_hit H.ha]
      refine cast (congrArg (K _) ?_) hS
      simp only [setM, MW, MB, M.tick, M.put, List.length_set, uw_of hv, Int.toNat_natCast]
    | false =>
      have hS := hS.2 hh
      simp (config := { maxSteps := 10000000 }) only [EV1, EV2, EV3, EV4, EV5, EV6, addT, istep, lenR_sl, lenR_ns, lenR_es, pickR, putD, bin1R, un1R, slcR, bnd, capsOf, fillP, S_plain, V_plain, V.cells, S_known, V_known, C.v, blk, setL, setH, eqS, eq1, cmpS, cmp1, isNil, popTo, killT, setT, leT, V.below, C.below, S_below, R.below, V.val, C.val, S_val, R.val, R.takes, vals, shows, List.any_cons, List.any_nil, unnamed, V.kill, V.names, C.names, S_names, R.names, List.set, List.replicate, ↓q_cond_t, ↓q_cond_f, if_true, if_false, reduceCtorEq, rvals, rvC, result, C_known, V.noL, C.noL, S_noL, R.noL, Option.map, true_and, and_true, ge_iff_le, gt_iff_lt, implies_true, q_ite_t, q_ite_f, beq_iff_eq, bne_iff_ne, q_ne, Nat.reduceAdd, Nat.reducePow, Int.reducePow, Nat.reduceMul, Nat.reduceSub, Nat.reduceLeDiff, Nat.reduceLT, Nat.reduceEqDiff, Int.reduceNeg, Int.reduceLT, Int.reduceLE, Int.reduceEq, Int.reduceNe, Int.reduceAdd, Int.reduceSub, Int.reduceMul, Int.reduceToNat, Int.reduceBEq, Int.reduceBNe, df91, TSp, thereG, memF_eq H, thereM, setM_self H, hh]
      exact hS
  · exact hS.elim
end Go.Proofs.Ytdlloccodmdnnaa

/- The machine's memory: what is read behind a write. -/
namespace Go.Proofs.Ytdlloccodmdnnaa
open Go.D
set_option linter.all false
set_option maxRecDepth 100000
set_option maxHeartbeats 4000000

theorem nth_set {α : Type} {d : α} : ∀ (l : List α) (i j : Nat) (x : α), nth d (l.set i x) j = if i = j ∧ i < l.length then x else nth d l j
  | [], i, j, x => by simp [nth]
  | y :: l, 0, 0, x => by simp [nth]
  | y :: l, 0, j + 1, x => by simp [nth]
  | y :: l, i + 1, 0, x => by simp [nth]
  | y :: l, i + 1, j + 1, x => by simp [nth, nth_set l i j x]
theorem nth_replicate {α : Type} {d : α} {n i : Nat} : nth d (List.replicate n d) i = d := by
  induction n generalizing i with
  | zero => rfl
  | succ n ih => cases i with
    | zero => rfl
    | succ i => exact ih
theorem M.at_put (m : M) (i : Nat) (x : Int) (j : Int) : (m.put i x).at j = if i = j.toNat ∧ i < m.w.length then uw x else m.at j := by
  simp only [M.at, M.put, nth_set]
theorem M.at_tick (m : M) (k j : Int) : (m.tick k).at j = m.at j := rfl
theorem M.at_zero (k : Nat) (j : Int) : (M.zero k).at j = 0 := by simp only [M.at, M.zero, nth_replicate]
theorem M.at_fill (m : M) (a : Nat) (x : Int) (j : Int) : ∀ k : Nat, (m.fill a x k).at j = if a ≤ j.toNat ∧ j.toNat < a + k ∧ j.toNat < m.w.length then uw x else m.at j
  | 0 => by rw [M.fill, if_neg (by omega)]
  | k + 1 => by
    rw [M.fill, M.at_put, M.fill_len, M.at_fill m a x j k]
    split
    · rw [if_pos (by omega)]
    · split
      · rw [if_pos (by omega)]
      · rw [if_neg (by omega)]
/-- Two memories of the same words and steps are the same. -/
theorem M.ext_at {m k : M} (hl : m.w.length = k.w.length) (hn : m.n = k.n) (h : ∀ i : Nat, i < m.w.length → m.at i = k.at i) : m = k := by
  refine M.ext' (List.ext_getElem hl fun i h1 h2 => ?_) hn
  have := h i h1
  simp only [M.at, Int.toNat_natCast, nth_eq h1, nth_eq h2] at this
  exact this
theorem M.has_of {m : M} {a k : Int} (h : 0 ≤ a ∧ 0 ≤ k ∧ a + k ≤ m.w.length) : m.has a k = true := by rw [M.has_iff]; omega
theorem M.has_no {m : M} {a k : Int} (h : ¬ (0 ≤ a ∧ 0 ≤ k ∧ a + k ≤ m.w.length)) : m.has a k = false := by
  rw [Bool.eq_false_iff]
  intro e
  rw [M.has_iff] at e
  omega
end Go.Proofs.Ytdlloccodmdnnaa

/- Package slots: which slots may be, where. -/
namespace Go.Proofs.Ytdlloccodmdnnaa
open Go.D
set_option linter.all false
set_option maxRecDepth 100000
set_option maxHeartbeats 4000000

structure Slot where
  cap : Cap
  prev : Int
  next : Int
  depth : Int
def Slot.cl (s : Slot) : List S := [.i .i64 s.cap.ty, .i .i64 s.cap.obj, .i .i64 s.cap.bits, .i .i64 s.cap.mark, .i .i64 s.cap.guard, .i .i64 s.cap.gbits, .i .i64 s.cap.badge, .i .i64 s.cap.rights, .i .i64 s.cap.asid, .i .i64 s.cap.vaddr, .i .i64 s.cap.line,
  .i .i64 s.prev, .i .i64 s.next, .i .i64 s.depth]
def slotZ : Slot := ⟨capZ, 0, 0, 0⟩
def slotF (f : Slot → Res) : List V → Res
  | [.agg [.i .i64 a, .i .i64 b, .i .i64 c, .i .i64 d, .i .i64 e, .i .i64 g, .i .i64 i, .i .i64 j, .i .i64 k, .i .i64 l, .i .i64 m, .i .i64 p, .i .i64 n, .i .i64 q]] => f ⟨⟨a, b, c, d, e, g, i, j, k, l, m⟩, p, n, q⟩
  | _ => .bad
theorem slotF_spec {f : Slot → Res} {args : List V} {K : V → List Blk → Prop} (h : (slotF f args).spec K) : ∃ s : Slot, args = [.agg s.cl] ∧ (f s).spec K := by
  unfold slotF at h
  split at h
  · exact ⟨_, rfl, h⟩
  · exact h.elim
theorem slot_eta (s : Slot) : (⟨⟨s.cap.ty, s.cap.obj, s.cap.bits, s.cap.mark, s.cap.guard, s.cap.gbits, s.cap.badge, s.cap.rights, s.cap.asid, s.cap.vaddr, s.cap.line⟩, s.prev, s.next, s.depth⟩ : Slot) = s := rfl

def linkB (n : Int) : Bool := decide (0 ≤ n) && (decide (n < 65536) && n.tmod 4 == 0)
def linkG : List V → List Blk → Res
  | [.s (.i .i64 n)], h => .ok (.s (.b (linkB n))) [] h
  | _, _ => .bad
theorem link_snd : Snd Try.prog 120 (FSpec.of linkG) := snd_run (noT_snd _) mixed Try.func120 dc120 100 fun args h K hc hS => by
  unfold linkG at hS
  split at hS
  · simp only [spec_ok, linkB] at hS
    simp (config := { maxSteps := 10000000 }) only [EV1, EV2, EV3, EV4, EV5, EV6, addT, istep, lenR_sl, lenR_ns, lenR_es, pickR, putD, bin1R, un1R, slcR, bnd, capsOf, fillP, S_plain, V_plain, V.cells, S_known, V_known, C.v, blk, setL, setH, eqS, eq1, cmpS, cmp1, isNil, popTo, killT, setT, leT, V.below, C.below, S_below, R.below, V.val, C.val, S_val, R.val, R.takes, vals, shows, List.any_cons, List.any_nil, unnamed, V.kill, V.names, C.names, S_names, R.names, List.set, List.replicate, ↓q_cond_t, ↓q_cond_f, if_true, if_false, reduceCtorEq, rvals, rvC, result, C_known, V.noL, C.noL, S_noL, R.noL, Option.map, true_and, and_true, ge_iff_le, gt_iff_lt, implies_true, q_ite_t, q_ite_f, beq_iff_eq, bne_iff_ne, q_ne, Nat.reduceAdd, Nat.reducePow, Int.reducePow, Nat.reduceMul, Nat.reduceSub, Nat.reduceLeDiff, Nat.reduceLT, Nat.reduceEqDiff, Int.reduceNeg, Int.reduceLT, Int.reduceLE, Int.reduceEq, Int.reduceNe, Int.reduceAdd, Int.reduceSub, Int.reduceMul, Int.reduceToNat, Int.reduceBEq, Int.reduceBNe, df120, Bool.and_assoc]
    exact hS
  · exact hS.elim
theorem link_ref (n : Int) : (decide (0 ≤ n) && (decide (n ≤ 65532) && n.tmod 4 == 0)) = linkB n := by
  unfold linkB
  by_cases h : 0 ≤ n
  · rw [Int.tmod_eq_emod_of_nonneg h, Bool.eq_iff_iff]
    simp only [Bool.and_eq_true, decide_eq_true_eq, beq_iff_eq]
    omega
  · simp [h]
theorem rlink_snd : Snd Try.prog 117 (FSpec.of linkG) := snd_run (noT_snd _) mixed Try.func117 dc117 100 fun args h K hc hS => by
  unfold linkG at hS
  split at hS
  · simp only [spec_ok, ← link_ref] at hS
    simp (config := { maxSteps := 10000000 }) only [EV1, EV2, EV3, EV4, EV5, EV6, addT, istep, lenR_sl, lenR_ns, lenR_es, pickR, putD, bin1R, un1R, slcR, bnd, capsOf, fillP, S_plain, V_plain, V.cells, S_known, V_known, C.v, blk, setL, setH, eqS, eq1, cmpS, cmp1, isNil, popTo, killT, setT, leT, V.below, C.below, S_below, R.below, V.val, C.val, S_val, R.val, R.takes, vals, shows, List.any_cons, List.any_nil, unnamed, V.kill, V.names, C.names, S_names, R.names, List.set, List.replicate, ↓q_cond_t, ↓q_cond_f, if_true, if_false, reduceCtorEq, rvals, rvC, result, C_known, V.noL, C.noL, S_noL, R.noL, Option.map, true_and, and_true, ge_iff_le, gt_iff_lt, implies_true, q_ite_t, q_ite_f, beq_iff_eq, bne_iff_ne, q_ne, Nat.reduceAdd, Nat.reducePow, Int.reducePow, Nat.reduceMul, Nat.reduceSub, Nat.reduceLeDiff, Nat.reduceLT, Nat.reduceEqDiff, Int.reduceNeg, Int.reduceLT, Int.reduceLE, Int.reduceEq, Int.reduceNe, Int.reduceAdd, Int.reduceSub, Int.reduceMul, Int.reduceToNat, Int.reduceBEq, Int.reduceBNe, df117, Bool.and_assoc]
    exact hS
  · exact hS.elim

/-- Is it the empty slot? -/
def Slot.isZ (s : Slot) : Bool := s.cap.ty == 0 && (s.cap.obj == 0 && (s.cap.bits == 0 && (s.cap.mark == 0 && (s.cap.guard == 0 && (s.cap.gbits == 0 && (s.cap.badge == 0 && (s.cap.rights == 0 && (s.cap.asid == 0 && (s.cap.vaddr == 0 && (s.cap.line == 0 && (s.prev == 0 && (s.next == 0 && s.depth == 0))))))))))))
theorem Slot.isZ_iff {s : Slot} : s.isZ = true ↔ s = slotZ := by
  obtain ⟨⟨t, o, b, d, e, g, i, j, k, l, m⟩, p, n, q⟩ := s
  simp [Slot.isZ, slotZ, capZ, Bool.and_eq_true, and_assoc]
def slotRB (s : Slot) : Bool := !(s.cap.ty == 0 && !s.isZ) && (rightB s.cap && (linkB s.prev && (linkB s.next && (decide (0 ≤ s.depth) && decide (s.depth < 65536)))))
def slotRG (args : List V) (h : List Blk) : Res := slotF (fun s => .ok (.s (.b (slotRB s))) [] h) args
def TSr : Tab := addT 120 linkG (addT 55 rightG (addT 117 linkG (addT 14 rightG noT)))
theorem TSr_snd : TSr.Snd Try.prog := addT_snd ok120 link_snd (addT_snd ok55 right_snd (addT_snd ok117 rlink_snd (addT_snd ok14 rright_snd (noT_snd _))))
theorem slotR_snd : Snd Try.prog 99 (FSpec.of slotRG) := snd_run TSr_snd mixed Try.func99 dc99 200 fun args h K hc hS => by
  obtain ⟨s, rfl, hR⟩ := slotF_spec hS
  clear hS
  simp only [spec_ok] at hR
  obtain ⟨c, p, n, q⟩ := s
  have hR : K (.s (.b (!(c.ty == 0 && !(Slot.mk c p n q).isZ) && (rightB c && (linkB p && (linkB n && (decide (0 ≤ q) && decide (q < 65536)))))))) h := hR
  have ez : (c.ty == 0 && (c.obj == 0 && (c.bits == 0 && (c.mark == 0 && (c.guard == 0 && (c.gbits == 0 && (c.badge == 0 && (c.rights == 0 && (c.asid == 0 && (c.vaddr == 0 && (c.line == 0 && (p == 0 && (n == 0 && q == 0))))))))))))) = (Slot.mk c p n q).isZ := rfl
  simp only [Slot.cl]
  by_cases h0 : c.ty = 0
  · have hne : (c.ty != 0) = false := by simp [h0]
    cases hz : (Slot.mk c p n q).isZ <;> cases hr : rightB c <;> cases hp : linkB p <;> cases hn : linkB n
    all_goals simp only [hz, hr, hp, hn, h0, beq_self_eq_true, Bool.not_true, Bool.not_false, Bool.true_and, Bool.and_true, Bool.false_and, Bool.and_false] at hR
    all_goals by_cases hq : q < 0
    all_goals (try have hq1 : ¬ 0 ≤ q := by omega)
    all_goals (try have hq1 : 0 ≤ q := by omega)
    all_goals by_cases hq2 : 65535 < q
    all_goals try (exfalso; omega)
    all_goals (try have hq3 : ¬ q < 65536 := by omega)
    all_goals (try have hq3 : q < 65536 := by omega)
    all_goals try simp only [hq1, hq3, decide_true, decide_false, Bool.true_and, Bool.and_true, Bool.false_and, Bool.and_false] at hR
    all_goals (simp (config := { maxSteps := 10000000 }) only [EV1, EV2, EV3, EV4, EV5, EV6, addT, istep, lenR_sl, lenR_ns, lenR_es, pickR, putD, bin1R, un1R, slcR, bnd, capsOf, fillP, S_plain, V_plain, V.cells, S_known, V_known, C.v, blk, setL, setH, eqS, eq1, cmpS, cmp1, isNil, popTo, killT, setT, leT, V.below, C.below, S_below, R.below, V.val, C.val, S_val, R.val, R.takes, vals, shows, List.any_cons, List.any_nil, unnamed, V.kill, V.names, C.names, S_names, R.names, List.set, List.replicate, ↓q_cond_t, ↓q_cond_f, if_true, if_false, reduceCtorEq, rvals, rvC, result, C_known, V.noL, C.noL, S_noL, R.noL, Option.map, true_and, and_true, ge_iff_le, gt_iff_lt, implies_true, q_ite_t, q_ite_f, beq_iff_eq, bne_iff_ne, q_ne, Nat.reduceAdd, Nat.reducePow, Int.reducePow, Nat.reduceMul, Nat.reduceSub, Nat.reduceLeDiff, Nat.reduceLT, Nat.reduceEqDiff, Int.reduceNeg, Int.reduceLT, Int.reduceLE, Int.reduceEq, Int.reduceNe, Int.reduceAdd, Int.reduceSub, Int.reduceMul, Int.reduceToNat, Int.reduceBEq, Int.reduceBNe, df99, TSr, linkG, rightG, capF, cap_eta, ez, hne, hz, hr, hp, hn, hq, hq1, hq2, hq3, put, fillP, sub, List.take_succ_cons, List.take_zero, List.drop_zero])
    all_goals first | exact hR | exact ⟨fun _ => hR, fun _ => hR⟩ | exact ⟨fun _ => hR, fun x => absurd h0 x⟩
  · have h1 : (c.ty == 0) = false := by simpa using h0
    have hne : (c.ty != 0) = true := by simpa using h0
    cases hr : rightB c <;> cases hp : linkB p <;> cases hn : linkB n
    all_goals simp only [hr, hp, hn, h1, Bool.not_true, Bool.not_false, Bool.true_and, Bool.and_true, Bool.false_and, Bool.and_false] at hR
    all_goals by_cases hq : q < 0
    all_goals (try have hq1 : ¬ 0 ≤ q := by omega)
    all_goals (try have hq1 : 0 ≤ q := by omega)
    all_goals by_cases hq2 : 65535 < q
    all_goals try (exfalso; omega)
    all_goals (try have hq3 : ¬ q < 65536 := by omega)
    all_goals (try have hq3 : q < 65536 := by omega)
    all_goals try simp only [hq1, hq3, decide_true, decide_false, Bool.true_and, Bool.and_true, Bool.false_and, Bool.and_false] at hR
    all_goals (simp (config := { maxSteps := 10000000 }) only [EV1, EV2, EV3, EV4, EV5, EV6, addT, istep, lenR_sl, lenR_ns, lenR_es, pickR, putD, bin1R, un1R, slcR, bnd, capsOf, fillP, S_plain, V_plain, V.cells, S_known, V_known, C.v, blk, setL, setH, eqS, eq1, cmpS, cmp1, isNil, popTo, killT, setT, leT, V.below, C.below, S_below, R.below, V.val, C.val, S_val, R.val, R.takes, vals, shows, List.any_cons, List.any_nil, unnamed, V.kill, V.names, C.names, S_names, R.names, List.set, List.replicate, ↓q_cond_t, ↓q_cond_f, if_true, if_false, reduceCtorEq, rvals, rvC, result, C_known, V.noL, C.noL, S_noL, R.noL, Option.map, true_and, and_true, ge_iff_le, gt_iff_lt, implies_true, q_ite_t, q_ite_f, beq_iff_eq, bne_iff_ne, q_ne, Nat.reduceAdd, Nat.reducePow, Int.reducePow, Nat.reduceMul, Nat.reduceSub, Nat.reduceLeDiff, Nat.reduceLT, Nat.reduceEqDiff, Int.reduceNeg, Int.reduceLT, Int.reduceLE, Int.reduceEq, Int.reduceNe, Int.reduceAdd, Int.reduceSub, Int.reduceMul, Int.reduceToNat, Int.reduceBEq, Int.reduceBNe, df99, TSr, linkG, rightG, capF, cap_eta, h0, h1, hne, hr, hp, hn, hq, hq1, hq2, hq3, put, fillP, sub, List.take_succ_cons, List.take_zero, List.drop_zero])
    all_goals exact hR
theorem rslotR_snd : Snd Try.prog 89 (FSpec.of slotRG) := snd_run TSr_snd mixed Try.func89 dc89 200 fun args h K hc hS => by
  obtain ⟨s, rfl, hR⟩ := slotF_spec hS
  clear hS
  simp only [spec_ok] at hR
  obtain ⟨c, p, n, q⟩ := s
  have hR : K (.s (.b (!(c.ty == 0 && !(Slot.mk c p n q).isZ) && (rightB c && (linkB p && (linkB n && (decide (0 ≤ q) && decide (q < 65536)))))))) h := hR
  have ez : (c.ty == 0 && (c.obj == 0 && (c.bits == 0 && (c.mark == 0 && (c.guard == 0 && (c.gbits == 0 && (c.badge == 0 && (c.rights == 0 && (c.asid == 0 && (c.vaddr == 0 && (c.line == 0 && (p == 0 && (n == 0 && q == 0))))))))))))) = (Slot.mk c p n q).isZ := rfl
  simp only [Slot.cl]
  by_cases h0 : c.ty = 0
  · have hne : (c.ty != 0) = false := by simp [h0]
    cases hz : (Slot.mk c p n q).isZ <;> cases hr : rightB c <;> cases hp : linkB p <;> cases hn : linkB n
    all_goals simp only [hz, hr, hp, hn, h0, beq_self_eq_true, Bool.not_true, Bool.not_false, Bool.true_and, Bool.and_true, Bool.false_and, Bool.and_false] at hR
    all_goals by_cases hq : q < 0
    all_goals (try have hq1 : ¬ 0 ≤ q := by omega)
    all_goals (try have hq1 : 0 ≤ q := by omega)
    all_goals by_cases hq2 : 65535 < q
    all_goals try (exfalso; omega)
    all_goals (try have hq3 : ¬ q < 65536 := by omega)
    all_goals (try have hq3 : q < 65536 := by omega)
    all_goals try simp only [hq1, hq3, decide_true, decide_false, Bool.true_and, Bool.and_true, Bool.false_and, Bool.and_false] at hR
    all_goals (simp (config := { maxSteps := 10000000 }) only [EV1, EV2, EV3, EV4, EV5, EV6, addT, istep, lenR_sl, lenR_ns, lenR_es, pickR, putD, bin1R, un1R, slcR, bnd, capsOf, fillP, S_plain, V_plain, V.cells, S_known, V_known, C.v, blk, setL, setH, eqS, eq1, cmpS, cmp1, isNil, popTo, killT, setT, leT, V.below, C.below, S_below, R.below, V.val, C.val, S_val, R.val, R.takes, vals, shows, List.any_cons, List.any_nil, unnamed, V.kill, V.names, C.names, S_names, R.names, List.set, List.replicate, ↓q_cond_t, ↓q_cond_f, if_true, if_false, reduceCtorEq, rvals, rvC, result, C_known, V.noL, C.noL, S_noL, R.noL, Option.map, true_and, and_true, ge_iff_le, gt_iff_lt, implies_true, q_ite_t, q_ite_f, beq_iff_eq, bne_iff_ne, q_ne, Nat.reduceAdd, Nat.reducePow, Int.reducePow, Nat.reduceMul, Nat.reduceSub, Nat.reduceLeDiff, Nat.reduceLT, Nat.reduceEqDiff, Int.reduceNeg, Int.reduceLT, Int.reduceLE, Int.reduceEq, Int.reduceNe, Int.reduceAdd, Int.reduceSub, Int.reduceMul, Int.reduceToNat, Int.reduceBEq, Int.reduceBNe, df89, TSr, linkG, rightG, capF, cap_eta, ez, hne, hz, hr, hp, hn, hq, hq1, hq2, hq3, put, fillP, sub, List.take_succ_cons, List.take_zero, List.drop_zero])
    all_goals first | exact hR | exact ⟨fun _ => hR, fun _ => hR⟩ | exact ⟨fun _ => hR, fun x => absurd h0 x⟩
  · have h1 : (c.ty == 0) = false := by simpa using h0
    have hne : (c.ty != 0) = true := by simpa using h0
    cases hr : rightB c <;> cases hp : linkB p <;> cases hn : linkB n
    all_goals simp only [hr, hp, hn, h1, Bool.not_true, Bool.not_false, Bool.true_and, Bool.and_true, Bool.false_and, Bool.and_false] at hR
    all_goals by_cases hq : q < 0
    all_goals (try have hq1 : ¬ 0 ≤ q := by omega)
    all_goals (try have hq1 : 0 ≤ q := by omega)
    all_goals by_cases hq2 : 65535 < q
    all_goals try (exfalso; omega)
    all_goals (try have hq3 : ¬ q < 65536 := by omega)
    all_goals (try have hq3 : q < 65536 := by omega)
    all_goals try simp only [hq1, hq3, decide_true, decide_false, Bool.true_and, Bool.and_true, Bool.false_and, Bool.and_false] at hR
    all_goals (simp (config := { maxSteps := 10000000 }) only [EV1, EV2, EV3, EV4, EV5, EV6, addT, istep, lenR_sl, lenR_ns, lenR_es, pickR, putD, bin1R, un1R, slcR, bnd, capsOf, fillP, S_plain, V_plain, V.cells, S_known, V_known, C.v, blk, setL, setH, eqS, eq1, cmpS, cmp1, isNil, popTo, killT, setT, leT, V.below, C.below, S_below, R.below, V.val, C.val, S_val, R.val, R.takes, vals, shows, List.any_cons, List.any_nil, unnamed, V.kill, V.names, C.names, S_names, R.names, List.set, List.replicate, ↓q_cond_t, ↓q_cond_f, if_true, if_false, reduceCtorEq, rvals, rvC, result, C_known, V.noL, C.noL, S_noL, R.noL, Option.map, true_and, and_true, ge_iff_le, gt_iff_lt, implies_true, q_ite_t, q_ite_f, beq_iff_eq, bne_iff_ne, q_ne, Nat.reduceAdd, Nat.reducePow, Int.reducePow, Nat.reduceMul, Nat.reduceSub, Nat.reduceLeDiff, Nat.reduceLT, Nat.reduceEqDiff, Int.reduceNeg, Int.reduceLT, Int.reduceLE, Int.reduceEq, Int.reduceNe, Int.reduceAdd, Int.reduceSub, Int.reduceMul, Int.reduceToNat, Int.reduceBEq, Int.reduceBNe, df89, TSr, linkG, rightG, capF, cap_eta, h0, h1, hne, hr, hp, hn, hq, hq1, hq2, hq3, put, fillP, sub, List.take_succ_cons, List.take_zero, List.drop_zero])
    all_goals exact hR

/-- Is there a slot? -/
def thereB (m : M) (a : Int) : Bool := decide (4 ≤ a) && (a.tmod 4 == 0 && decide (a ≤ m.w.length - 4))
def sthereM (b : Nat) (m : M) (st : M → List Blk) : List V → Res
  | [.s (.i .i64 a)] => .ok (.s (.b (thereB m a))) [] (st m)
  | _ => .bad
noncomputable def sthereG := memF sthereM
noncomputable def TMw2 : Tab := addT 111 wordsG (addT 110 thereG noT)
theorem TMw2_snd : TMw2.Snd Try.prog := addT_snd ok111 mwords_snd (addT_snd ok110 rthere_snd (noT_snd _))
theorem sthere_snd : Snd Try.prog 96 (FSpec.of sthereG) := snd_run TMw2_snd mixed Try.func96 dc96 100 fun args h K hc hS => by
  obtain ⟨a, b, m, rest, rfl, H, hS1⟩ := memF_spec hS
  clear hS
  have hS := hS1
  clear hS1
  unfold sthereM at hS
  split at hS
  · rename_i x
    simp only [spec_ok, setM_self H, thereB] at hS
    have hl := m.l
    have w1 : IntKind.i64.wrap ((m.w.length : Int) - 4) = m.w.length - 4 := wrap64 (by omega) (by omega)
    by_cases c1 : 4 ≤ x
    · by_cases c2 : x.tmod 4 = 0
      · simp only [c1, c2, decide_true, Bool.true_and, beq_self_eq_true] at hS
        simp (config := { maxSteps := 10000000 }) only [EV1, EV2, EV3, EV4, EV5, EV6, addT, istep, lenR_sl, lenR_ns, lenR_es, pickR, putD, bin1R, un1R, slcR, bnd, capsOf, fillP, S_plain, V_plain, V.cells, S_known, V_known, C.v, blk, setL, setH, eqS, eq1, cmpS, cmp1, isNil, popTo, killT, setT, leT, V.below, C.below, S_below, R.below, V.val, C.val, S_val, R.val, R.takes, vals, shows, List.any_cons, List.any_nil, unnamed, V.kill, V.names, C.names, S_names, R.names, List.set, List.replicate, ↓q_cond_t, ↓q_cond_f, if_true, if_false, reduceCtorEq, rvals, rvC, result, C_known, V.noL, C.noL, S_noL, R.noL, Option.map, true_and, and_true, ge_iff_le, gt_iff_lt, implies_true, q_ite_t, q_ite_f, beq_iff_eq, bne_iff_ne, q_ne, Nat.reduceAdd, Nat.reducePow, Int.reducePow, Nat.reduceMul, Nat.reduceSub, Nat.reduceLeDiff, Nat.reduceLT, Nat.reduceEqDiff, Int.reduceNeg, Int.reduceLT, Int.reduceLE, Int.reduceEq, Int.reduceNe, Int.reduceAdd, Int.reduceSub, Int.reduceMul, Int.reduceToNat, Int.reduceBEq, Int.reduceBNe, df96, TMw2, wordsG, memF_eq H, wordsM, setM_self H, c1, c2, w1]
        exact hS
      · have c3 : (x.tmod 4 == 0) = false := by simpa using c2
        simp only [c1, c3, decide_true, Bool.true_and, Bool.false_and] at hS
        simp (config := { maxSteps := 10000000 }) only [EV1, EV2, EV3, EV4, EV5, EV6, addT, istep, lenR_sl, lenR_ns, lenR_es, pickR, putD, bin1R, un1R, slcR, bnd, capsOf, fillP, S_plain, V_plain, V.cells, S_known, V_known, C.v, blk, setL, setH, eqS, eq1, cmpS, cmp1, isNil, popTo, killT, setT, leT, V.below, C.below, S_below, R.below, V.val, C.val, S_val, R.val, R.takes, vals, shows, List.any_cons, List.any_nil, unnamed, V.kill, V.names, C.names, S_names, R.names, List.set, List.replicate, ↓q_cond_t, ↓q_cond_f, if_true, if_false, reduceCtorEq, rvals, rvC, result, C_known, V.noL, C.noL, S_noL, R.noL, Option.map, true_and, and_true, ge_iff_le, gt_iff_lt, implies_true, q_ite_t, q_ite_f, beq_iff_eq, bne_iff_ne, q_ne, Nat.reduceAdd, Nat.reducePow, Int.reducePow, Nat.reduceMul, Nat.reduceSub, Nat.reduceLeDiff, Nat.reduceLT, Nat.reduceEqDiff, Int.reduceNeg, Int.reduceLT, Int.reduceLE, Int.reduceEq, Int.reduceNe, Int.reduceAdd, Int.reduceSub, Int.reduceMul, Int.reduceToNat, Int.reduceBEq, Int.reduceBNe, df96, TMw2, wordsG, memF_eq H, wordsM, setM_self H, c1, c2, c3, w1]
        exact hS
    · simp only [c1, decide_false, Bool.false_and] at hS
      simp (config := { maxSteps := 10000000 }) only [EV1, EV2, EV3, EV4, EV5, EV6, addT, istep, lenR_sl, lenR_ns, lenR_es, pickR, putD, bin1R, un1R, slcR, bnd, capsOf, fillP, S_plain, V_plain, V.cells, S_known, V_known, C.v, blk, setL, setH, eqS, eq1, cmpS, cmp1, isNil, popTo, killT, setT, leT, V.below, C.below, S_below, R.below, V.val, C.val, S_val, R.val, R.takes, vals, shows, List.any_cons, List.any_nil, unnamed, V.kill, V.names, C.names, S_names, R.names, List.set, List.replicate, ↓q_cond_t, ↓q_cond_f, if_true, if_false, reduceCtorEq, rvals, rvC, result, C_known, V.noL, C.noL, S_noL, R.noL, Option.map, true_and, and_true, ge_iff_le, gt_iff_lt, implies_true, q_ite_t, q_ite_f, beq_iff_eq, bne_iff_ne, q_ne, Nat.reduceAdd, Nat.reducePow, Int.reducePow, Nat.reduceMul, Nat.reduceSub, Nat.reduceLeDiff, Nat.reduceLT, Nat.reduceEqDiff, Int.reduceNeg, Int.reduceLT, Int.reduceLE, Int.reduceEq, Int.reduceNe, Int.reduceAdd, Int.reduceSub, Int.reduceMul, Int.reduceToNat, Int.reduceBEq, Int.reduceBNe, df96, TMw2, wordsG, memF_eq H, wordsM, setM_self H, c1]
      exact hS
  · exact hS.elim
theorem there_has (m : M) (a : Int) : (m.has a 4 && (decide (4 ≤ a) && a.tmod 4 == 0)) = thereB m a := by
  have hl := m.l
  rw [Bool.eq_iff_iff]
  simp only [M.has, thereB, Bool.and_eq_true, decide_eq_true_eq, beq_iff_eq]
  omega
theorem rat_snd : Snd Try.prog 88 (FSpec.of sthereG) := snd_run TMw2_snd mixed Try.func88 dc88 100 fun args h K hc hS => by
  obtain ⟨a, b, m, rest, rfl, H, hS1⟩ := memF_spec hS
  clear hS
  have hS := hS1
  clear hS1
  unfold sthereM at hS
  split at hS
  · rename_i x
    simp only [spec_ok, setM_self H, ← there_has] at hS
    cases hh : m.has x 4
    · simp only [hh, Bool.false_and] at hS
      simp (config := { maxSteps := 10000000 }) only [EV1, EV2, EV3, EV4, EV5, EV6, addT, istep, lenR_sl, lenR_ns, lenR_es, pickR, putD, bin1R, un1R, slcR, bnd, capsOf, fillP, S_plain, V_plain, V.cells, S_known, V_known, C.v, blk, setL, setH, eqS, eq1, cmpS, cmp1, isNil, popTo, killT, setT, leT, V.below, C.below, S_below, R.below, V.val, C.val, S_val, R.val, R.takes, vals, shows, List.any_cons, List.any_nil, unnamed, V.kill, V.names, C.names, S_names, R.names, List.set, List.replicate, ↓q_cond_t, ↓q_cond_f, if_true, if_false, reduceCtorEq, rvals, rvC, result, C_known, V.noL, C.noL, S_noL, R.noL, Option.map, true_and, and_true, ge_iff_le, gt_iff_lt, implies_true, q_ite_t, q_ite_f, beq_iff_eq, bne_iff_ne, q_ne, Nat.reduceAdd, Nat.reducePow, Int.reducePow, Nat.reduceMul, Nat.reduceSub, Nat.reduceLeDiff, Nat.reduceLT, Nat.reduceEqDiff, Int.reduceNeg, Int.reduceLT, Int.reduceLE, Int.reduceEq, Int.reduceNe, Int.reduceAdd, Int.reduceSub, Int.reduceMul, Int.reduceToNat, Int.reduceBEq, Int.reduceBNe, df88, TMw2, thereG, memF_eq H, thereM, setM_self H, hh]
      exact hS
    · simp only [hh, Bool.true_and] at hS
      simp (config := { maxSteps := 10000000 }) only [EV1, EV2, EV3, EV4, EV5, EV6, addT, istep, lenR_sl, lenR_ns, lenR_es, pickR, putD, bin1R, un1R, slcR, bnd, capsOf, fillP, S_plain, V_plain, V.cells, S_known, V_known, C.v, blk, setL, setH, eqS, eq1, cmpS, cmp1, isNil, popTo, killT, setT, leT, V.below, C.below, S_below, R.below, V.val, C.val, S_val, R.val, R.takes, vals, shows, List.any_cons, List.any_nil, unnamed, V.kill, V.names, C.names, S_names, R.names, List.set, List.replicate, ↓q_cond_t, ↓q_cond_f, if_true, if_false, reduceCtorEq, rvals, rvC, result, C_known, V.noL, C.noL, S_noL, R.noL, Option.map, true_and, and_true, ge_iff_le, gt_iff_lt, implies_true, q_ite_t, q_ite_f, beq_iff_eq, bne_iff_ne, q_ne, Nat.reduceAdd, Nat.reducePow, Int.reducePow, Nat.reduceMul, Nat.reduceSub, Nat.reduceLeDiff, Nat.reduceLT, Nat.reduceEqDiff, Int.reduceNeg, Int.reduceLT, Int.reduceLE, Int.reduceEq, Int.reduceNe, Int.reduceAdd, Int.reduceSub, Int.reduceMul, Int.reduceToNat, Int.reduceBEq, Int.reduceBNe, df88, TMw2, thereG, memF_eq H, thereM, setM_self H, hh]
      exact hS
  · exact hS.elim
end Go.Proofs.Ytdlloccodmdnnaa

/- Package slots: Get, Empty. -/
namespace Go.Proofs.Ytdlloccodmdnnaa
open Go.D
set_option linter.all false
set_option maxRecDepth 100000
set_option maxHeartbeats 4000000

theorem M.tick_tick (m : M) (j k : Int) : (m.tick j).tick k = m.tick (j + k) := by
  refine M.ext' rfl ?_
  simp only [M.tick]
  rw [IntKind.wrap_i64, IntKind.wrap_i64, IntKind.wrap_i64]; omega

/-- What four words say. -/
def slotC (w0 w1 w2 : Int) : Slot := ⟨decC w0 w1, w2 % 65536, w2 / 65536 % 65536, w2 / 4294967296 % 65536⟩
def slotB (w0 w1 w2 w3 : Int) : Bool := decB w0 w1 && (decide (w2 / 281474976710656 = 0) && (w3 == 0 && slotRB (slotC w0 w1 w2)))
def M.slotB (m : M) (a : Int) : Bool := _root_.Go.Proofs.Ytdlloccodmdnnaa.slotB (m.at a) (m.at (a + 1)) (m.at (a + 2)) (m.at (a + 3))
def M.slotC (m : M) (a : Int) : Slot := _root_.Go.Proofs.Ytdlloccodmdnnaa.slotC (m.at a) (m.at (a + 1)) (m.at (a + 2))
def getSM (b : Nat) (m : M) (st : M → List Blk) : List V → Res
  | [.s (.i .i64 a)] => .br (thereB m a) (.br (m.slotB a) (.ok (.tup [.agg (m.slotC a).cl, .s (.i .i64 0)]) [] (st (m.tick 4))) (.ok (.tup [.agg slotZ.cl, .s (.i .i64 110)]) [] (st (m.tick 4))))
      (.ok (.tup [.agg slotZ.cl, .s (.i .i64 20)]) [] (st m))
  | _ => .bad
noncomputable def getSG := memF getSM

theorem there_iff {m : M} {a : Int} : thereB m a = true ↔ 4 ≤ a ∧ a.tmod 4 = 0 ∧ a ≤ m.w.length - 4 := by
  simp only [thereB, Bool.and_eq_true, decide_eq_true_eq, beq_iff_eq]

theorem up16_B (w : Nat) : unpackB (w : Int) [16, 16, 16] 0 = decide ((w : Int) / 281474976710656 = 0) := by
  simp only [unpackB, fieldB, Int.reduceAdd, Int.reduceSub, Int.reduceLE, Int.reduceToNat, Int.toNat_natCast, Nat.reducePow, and_true, decide_true, Bool.true_and]
  rw [Bool.eq_iff_iff]; simp only [decide_eq_true_eq]; omega
theorem up16_V (w : Nat) : unpackV (w : Int) [16, 16, 16] 0 = [(w : Int) % 65536, (w : Int) / 65536 % 65536, (w : Int) / 4294967296 % 65536] := by
  simp only [unpackV, getV, Int.reduceAdd, Int.reduceToNat, Int.toNat_natCast, Nat.reducePow, Nat.div_one]
  simp only [List.cons.injEq, and_true]
  omega

noncomputable def TGt : Tab := addT 96 sthereG (addT 70 readG (addT 97 decG (addT 98 unpackG (addT 99 slotRG noT))))
theorem TGt_snd : TGt.Snd Try.prog := addT_snd ok96 sthere_snd (addT_snd ok70 mread_snd (addT_snd ok97 dec_snd (addT_snd ok98 unpack_snd (addT_snd ok99 slotR_snd (noT_snd _)))))
theorem getS_snd : Snd Try.prog 57 (FSpec.of getSG) := snd_run TGt_snd mixed Try.func57 dc57 300 fun args h K hc hS => by
  obtain ⟨a, b, m, rest, rfl, H, hS1⟩ := memF_spec hS
  clear hS
  have hS := hS1
  clear hS1
  unfold getSM at hS
  split at hS
  · rename_i x
    simp only [spec_ok, spec_br, setM_self H] at hS
    have hl := m.l
    cases ht : thereB m x with
    | false =>
      have hS := hS.2 ht
      simp (config := { maxSteps := 10000000 }) only [EV1, EV2, EV3, EV4, EV5, EV6, addT, istep, lenR_sl, lenR_ns, lenR_es, pickR, putD, bin1R, un1R, slcR, bnd, capsOf, fillP, S_plain, V_plain, V.cells, S_known, V_known, C.v, blk, setL, setH, eqS, eq1, cmpS, cmp1, isNil, popTo, killT, setT, leT, V.below, C.below, S_below, R.below, V.val, C.val, S_val, R.val, R.takes, vals, shows, List.any_cons, List.any_nil, unnamed, V.kill, V.names, C.names, S_names, R.names, List.set, List.replicate, ↓q_cond_t, ↓q_cond_f, if_true, if_false, reduceCtorEq, rvals, rvC, result, C_known, V.noL, C.noL, S_noL, R.noL, Option.map, true_and, and_true, ge_iff_le, gt_iff_lt, implies_true, q_ite_t, q_ite_f, beq_iff_eq, bne_iff_ne, q_ne, Nat.reduceAdd, Nat.reducePow, Int.reducePow, Nat.reduceMul, Nat.reduceSub, Nat.reduceLeDiff, Nat.reduceLT, Nat.reduceEqDiff, Int.reduceNeg, Int.reduceLT, Int.reduceLE, Int.reduceEq, Int.reduceNe, Int.reduceAdd, Int.reduceSub, Int.reduceMul, Int.reduceToNat, Int.reduceBEq, Int.reduceBNe, df57, TGt, sthereG, memF_eq H, sthereM, setM_self H, ht, put, fillP, sub, List.take_succ_cons, List.take_zero, List.drop_zero]
      exact hS
    | true =>
      have hS := hS.1 ht
      have hb := there_iff.1 ht
      have hcm : ∀ m', clean (setM h a b m').length (setM h a b m') = true := fun m' => by rw [setM_len]; exact setM_clean H hc H.ltb
      have h0 : m.has x 1 = true := M.has_of (by omega)
      have h1 : m.has (x + 1) 1 = true := M.has_of (by omega)
      have h2 : m.has (x + 2) 1 = true := M.has_of (by omega)
      have h3 : m.has (x + 3) 1 = true := M.has_of (by omega)
      have w0 : IntKind.i64.wrap (x + 0) = x := by rw [wrap64] <;> omega
      have w1 : IntKind.i64.wrap (x + 1) = x + 1 := wrap64 (by omega) (by omega)
      have w2 : IntKind.i64.wrap (x + 2) = x + 2 := wrap64 (by omega) (by omega)
      have w3 : IntKind.i64.wrap (x + 3) = x + 3 := wrap64 (by omega) (by omega)
      have v1 : IntKind.i64.wrap 1 = 1 := by decide
      have v2 : IntKind.i64.wrap 2 = 2 := by decide
      have v3 : IntKind.i64.wrap 3 = 3 := by decide
      have v4 : IntKind.i64.wrap 4 = 4 := by decide
      have u0 := m.at_u x
      have u1 := m.at_u (x + 1)
      have u2 := m.at_u (x + 2)
      have u3 := m.at_u (x + 3)
      simp only [M.slotB, M.slotC] at hS
      obtain ⟨a0, e0⟩ : ∃ a, m.at x = a := ⟨_, rfl⟩
      obtain ⟨a1, e1⟩ : ∃ a, m.at (x + 1) = a := ⟨_, rfl⟩
      obtain ⟨a2, e2⟩ : ∃ a, m.at (x + 2) = a := ⟨_, rfl⟩
      obtain ⟨a3, e3⟩ : ∃ a, m.at (x + 3) = a := ⟨_, rfl⟩
      rw [e0] at u0 hS
      rw [e1] at u1 hS
      rw [e2] at u2 hS
      rw [e3] at hS
      obtain ⟨a2, rfl, _⟩ := u2.nat
      have eB := up16_B a2
      have eV := up16_V a2
      have i0 : IntKind.i64.wrap ((a2 : Int) % 65536) = (a2 : Int) % 65536 := wrap64 (by omega) (by omega)
      have i1 : IntKind.i64.wrap ((a2 : Int) / 65536 % 65536) = (a2 : Int) / 65536 % 65536 := wrap64 (by omega) (by omega)
      have i2 : IntKind.i64.wrap ((a2 : Int) / 4294967296 % 65536) = (a2 : Int) / 4294967296 % 65536 := wrap64 (by omega) (by omega)
      simp (config := { maxSteps := 10000000 }) only [EV1, EV2, EV3, EV4, EV5, EV6, addT, istep, lenR_sl, lenR_ns, lenR_es, pickR, putD, bin1R, un1R, slcR, bnd, capsOf, fillP, S_plain, V_plain, V.cells, S_known, V_known, C.v, blk, setL, setH, eqS, eq1, cmpS, cmp1, isNil, popTo, killT, setT, leT, V.below, C.below, S_below, R.below, V.val, C.val, S_val, R.val, R.takes, vals, shows, List.any_cons, List.any_nil, unnamed, V.kill, V.names, C.names, S_names, R.names, List.set, List.replicate, ↓q_cond_t, ↓q_cond_f, if_true, if_false, reduceCtorEq, rvals, rvC, result, C_known, V.noL, C.noL, S_noL, R.noL, Option.map, true_and, and_true, ge_iff_le, gt_iff_lt, implies_true, q_ite_t, q_ite_f, beq_iff_eq, bne_iff_ne, q_ne, Nat.reduceAdd, Nat.reducePow, Int.reducePow, Nat.reduceMul, Nat.reduceSub, Nat.reduceLeDiff, Nat.reduceLT, Nat.reduceEqDiff, Int.reduceNeg, Int.reduceLT, Int.reduceLE, Int.reduceEq, Int.reduceNe, Int.reduceAdd, Int.reduceSub, Int.reduceMul, Int.reduceToNat, Int.reduceBEq, Int.reduceBNe, df57, TGt, sthereG, memF_eq H, sthereM, setM_self H, ht, put, fillP, sub, List.take_succ_cons, List.take_zero, List.drop_zero]
      rw [holds_loop]
      refine swp_loop fun X hX => ?_
      refine hX _ ?_
      refine run_sound (Tab.ok_Γ _) 200 _ _ _ _ ?_
      simp (config := { maxSteps := 10000000 }) only [EV1, EV2, EV3, EV4, EV5, EV6, addT, istep, lenR_sl, lenR_ns, lenR_es, pickR, putD, bin1R, un1R, slcR, bnd, capsOf, fillP, S_plain, V_plain, V.cells, S_known, V_known, C.v, blk, setL, setH, eqS, eq1, cmpS, cmp1, isNil, popTo, killT, setT, leT, V.below, C.below, S_below, R.below, V.val, C.val, S_val, R.val, R.takes, vals, shows, List.any_cons, List.any_nil, unnamed, V.kill, V.names, C.names, S_names, R.names, List.set, List.replicate, ↓q_cond_t, ↓q_cond_f, if_true, if_false, reduceCtorEq, rvals, rvC, result, C_known, V.noL, C.noL, S_noL, R.noL, Option.map, true_and, and_true, ge_iff_le, gt_iff_lt, implies_true, q_ite_t, q_ite_f, beq_iff_eq, bne_iff_ne, q_ne, Nat.reduceAdd, Nat.reducePow, Int.reducePow, Nat.reduceMul, Nat.reduceSub, Nat.reduceLeDiff, Nat.reduceLT, Nat.reduceEqDiff, Int.reduceNeg, Int.reduceLT, Int.reduceLE, Int.reduceEq, Int.reduceNe, Int.reduceAdd, Int.reduceSub, Int.reduceMul, Int.reduceToNat, Int.reduceBEq, Int.reduceBNe, TGt, readG, memF_eq H, memF_set H, readM, h0, h1, h2, h3, w0, w1, w2, w3, v1, v2, v3, v4, e0, e1, e2, e3, M.at_tick, M.tick_has, M.tick_tick, put, setM_fun H]
      refine hX _ ?_
      refine run_sound (Tab.ok_Γ _) 200 _ _ _ _ ?_
      simp (config := { maxSteps := 10000000 }) only [EV1, EV2, EV3, EV4, EV5, EV6, addT, istep, lenR_sl, lenR_ns, lenR_es, pickR, putD, bin1R, un1R, slcR, bnd, capsOf, fillP, S_plain, V_plain, V.cells, S_known, V_known, C.v, blk, setL, setH, eqS, eq1, cmpS, cmp1, isNil, popTo, killT, setT, leT, V.below, C.below, S_below, R.below, V.val, C.val, S_val, R.val, R.takes, vals, shows, List.any_cons, List.any_nil, unnamed, V.kill, V.names, C.names, S_names, R.names, List.set, List.replicate, ↓q_cond_t, ↓q_cond_f, if_true, if_false, reduceCtorEq, rvals, rvC, result, C_known, V.noL, C.noL, S_noL, R.noL, Option.map, true_and, and_true, ge_iff_le, gt_iff_lt, implies_true, q_ite_t, q_ite_f, beq_iff_eq, bne_iff_ne, q_ne, Nat.reduceAdd, Nat.reducePow, Int.reducePow, Nat.reduceMul, Nat.reduceSub, Nat.reduceLeDiff, Nat.reduceLT, Nat.reduceEqDiff, Int.reduceNeg, Int.reduceLT, Int.reduceLE, Int.reduceEq, Int.reduceNe, Int.reduceAdd, Int.reduceSub, Int.reduceMul, Int.reduceToNat, Int.reduceBEq, Int.reduceBNe, TGt, readG, memF_eq H, memF_set H, readM, h0, h1, h2, h3, w0, w1, w2, w3, v1, v2, v3, v4, e0, e1, e2, e3, M.at_tick, M.tick_has, M.tick_tick, put, setM_fun H]
      refine hX _ ?_
      refine run_sound (Tab.ok_Γ _) 200 _ _ _ _ ?_
      simp (config := { maxSteps := 10000000 }) only [EV1, EV2, EV3, EV4, EV5, EV6, addT, istep, lenR_sl, lenR_ns, lenR_es, pickR, putD, bin1R, un1R, slcR, bnd, capsOf, fillP, S_plain, V_plain, V.cells, S_known, V_known, C.v, blk, setL, setH, eqS, eq1, cmpS, cmp1, isNil, popTo, killT, setT, leT, V.below, C.below, S_below, R.below, V.val, C.val, S_val, R.val, R.takes, vals, shows, List.any_cons, List.any_nil, unnamed, V.kill, V.names, C.names, S_names, R.names, List.set, List.replicate, ↓q_cond_t, ↓q_cond_f, if_true, if_false, reduceCtorEq, rvals, rvC, result, C_known, V.noL, C.noL, S_noL, R.noL, Option.map, true_and, and_true, ge_iff_le, gt_iff_lt, implies_true, q_ite_t, q_ite_f, beq_iff_eq, bne_iff_ne, q_ne, Nat.reduceAdd, Nat.reducePow, Int.reducePow, Nat.reduceMul, Nat.reduceSub, Nat.reduceLeDiff, Nat.reduceLT, Nat.reduceEqDiff, Int.reduceNeg, Int.reduceLT, Int.reduceLE, Int.reduceEq, Int.reduceNe, Int.reduceAdd, Int.reduceSub, Int.reduceMul, Int.reduceToNat, Int.reduceBEq, Int.reduceBNe, TGt, readG, memF_eq H, memF_set H, readM, h0, h1, h2, h3, w0, w1, w2, w3, v1, v2, v3, v4, e0, e1, e2, e3, M.at_tick, M.tick_has, M.tick_tick, put, setM_fun H]
      refine hX _ ?_
      refine run_sound (Tab.ok_Γ _) 200 _ _ _ _ ?_
      simp (config := { maxSteps := 10000000 }) only [EV1, EV2, EV3, EV4, EV5, EV6, addT, istep, lenR_sl, lenR_ns, lenR_es, pickR, putD, bin1R, un1R, slcR, bnd, capsOf, fillP, S_plain, V_plain, V.cells, S_known, V_known, C.v, blk, setL, setH, eqS, eq1, cmpS, cmp1, isNil, popTo, killT, setT, leT, V.below, C.below, S_below, R.below, V.val, C.val, S_val, R.val, R.takes, vals, shows, List.any_cons, List.any_nil, unnamed, V.kill, V.names, C.names, S_names, R.names, List.set, List.replicate, ↓q_cond_t, ↓q_cond_f, if_true, if_false, reduceCtorEq, rvals, rvC, result, C_known, V.noL, C.noL, S_noL, R.noL, Option.map, true_and, and_true, ge_iff_le, gt_iff_lt, implies_true, q_ite_t, q_ite_f, beq_iff_eq, bne_iff_ne, q_ne, Nat.reduceAdd, Nat.reducePow, Int.reducePow, Nat.reduceMul, Nat.reduceSub, Nat.reduceLeDiff, Nat.reduceLT, Nat.reduceEqDiff, Int.reduceNeg, Int.reduceLT, Int.reduceLE, Int.reduceEq, Int.reduceNe, Int.reduceAdd, Int.reduceSub, Int.reduceMul, Int.reduceToNat, Int.reduceBEq, Int.reduceBNe, TGt, readG, memF_eq H, memF_set H, readM, h0, h1, h2, h3, w0, w1, w2, w3, v1, v2, v3, v4, e0, e1, e2, e3, M.at_tick, M.tick_has, M.tick_tick, put, setM_fun H]
      refine hX _ ?_
      cases hd : decB a0 a1 with
      | false =>
        have hS := hS.2 (by simp only [slotB, hd, Bool.false_and])
        by_cases c2 : (a2 : Int) / 281474976710656 = 0
        · refine run_sound (Tab.ok_Γ _) 400 _ _ _ _ ?_
          simp (config := { maxSteps := 10000000 }) only [EV1, EV2, EV3, EV4, EV5, EV6, addT, istep, lenR_sl, lenR_ns, lenR_es, pickR, putD, bin1R, un1R, slcR, bnd, capsOf, fillP, S_plain, V_plain, V.cells, S_known, V_known, C.v, blk, setL, setH, eqS, eq1, cmpS, cmp1, isNil, popTo, killT, setT, leT, V.below, C.below, S_below, R.below, V.val, C.val, S_val, R.val, R.takes, vals, shows, List.any_cons, List.any_nil, unnamed, V.kill, V.names, C.names, S_names, R.names, List.set, List.replicate, ↓q_cond_t, ↓q_cond_f, if_true, if_false, reduceCtorEq, rvals, rvC, result, C_known, V.noL, C.noL, S_noL, R.noL, Option.map, true_and, and_true, ge_iff_le, gt_iff_lt, implies_true, q_ite_t, q_ite_f, beq_iff_eq, bne_iff_ne, q_ne, Nat.reduceAdd, Nat.reducePow, Int.reducePow, Nat.reduceMul, Nat.reduceSub, Nat.reduceLeDiff, Nat.reduceLT, Nat.reduceEqDiff, Int.reduceNeg, Int.reduceLT, Int.reduceLE, Int.reduceEq, Int.reduceNe, Int.reduceAdd, Int.reduceSub, Int.reduceMul, Int.reduceToNat, Int.reduceBEq, Int.reduceBNe, TGt, readG, memF_eq H, memF_set H, readM, h0, h1, h2, h3, w0, w1, w2, w3, v1, v2, v3, v4, e0, e1, e2, e3, M.at_tick, M.tick_has, M.tick_tick, put, setM_fun H, decG, unpackG, wordsR, pairV, R.lend, R.unlend, S_ren, C.ren, V.ren, Blk.ren, take_app, drop_app, Nat.not_lt_zero, Nat.lt_irrefl, Nat.add_sub_cancel_left, Nat.not_lt, Nat.le_add_right, decI, arr, Ic, Uc, List.take, eB, eV, u0, u1, u2, hd, c2, capZ, Cap.cl, fillP, nlt, hcm, sub, List.take_succ_cons, List.take_zero, List.drop_zero, List.map_cons, List.map_nil]
          first | exact hS | exact fun _ _ => hS
        · refine run_sound (Tab.ok_Γ _) 400 _ _ _ _ ?_
          simp (config := { maxSteps := 10000000 }) only [EV1, EV2, EV3, EV4, EV5, EV6, addT, istep, lenR_sl, lenR_ns, lenR_es, pickR, putD, bin1R, un1R, slcR, bnd, capsOf, fillP, S_plain, V_plain, V.cells, S_known, V_known, C.v, blk, setL, setH, eqS, eq1, cmpS, cmp1, isNil, popTo, killT, setT, leT, V.below, C.below, S_below, R.below, V.val, C.val, S_val, R.val, R.takes, vals, shows, List.any_cons, List.any_nil, unnamed, V.kill, V.names, C.names, S_names, R.names, List.set, List.replicate, ↓q_cond_t, ↓q_cond_f, if_true, if_false, reduceCtorEq, rvals, rvC, result, C_known, V.noL, C.noL, S_noL, R.noL, Option.map, true_and, and_true, ge_iff_le, gt_iff_lt, implies_true, q_ite_t, q_ite_f, beq_iff_eq, bne_iff_ne, q_ne, Nat.reduceAdd, Nat.reducePow, Int.reducePow, Nat.reduceMul, Nat.reduceSub, Nat.reduceLeDiff, Nat.reduceLT, Nat.reduceEqDiff, Int.reduceNeg, Int.reduceLT, Int.reduceLE, Int.reduceEq, Int.reduceNe, Int.reduceAdd, Int.reduceSub, Int.reduceMul, Int.reduceToNat, Int.reduceBEq, Int.reduceBNe, TGt, readG, memF_eq H, memF_set H, readM, h0, h1, h2, h3, w0, w1, w2, w3, v1, v2, v3, v4, e0, e1, e2, e3, M.at_tick, M.tick_has, M.tick_tick, put, setM_fun H, decG, unpackG, wordsR, pairV, R.lend, R.unlend, S_ren, C.ren, V.ren, Blk.ren, take_app, drop_app, Nat.not_lt_zero, Nat.lt_irrefl, Nat.add_sub_cancel_left, Nat.not_lt, Nat.le_add_right, decI, arr, Ic, Uc, List.take, eB, eV, u0, u1, u2, hd, c2, capZ, Cap.cl, fillP, nlt, hcm, sub, List.take_succ_cons, List.take_zero, List.drop_zero]
          first | exact hS | exact fun _ _ => hS
      | true =>
        by_cases c2 : (a2 : Int) / 281474976710656 = 0
        · by_cases c3 : a3 = 0
          · cases hr : slotRB (slotC a0 a1 a2) with
            | false =>
              have hS := hS.2 (by simp only [slotB, hd, hr, Bool.and_false])
              simp only [slotC] at hr
              refine run_sound (Tab.ok_Γ _) 400 _ _ _ _ ?_
              simp (config := { maxSteps := 10000000 }) only [EV1, EV2, EV3, EV4, EV5, EV6, addT, istep, lenR_sl, lenR_ns, lenR_es, pickR, putD, bin1R, un1R, slcR, bnd, capsOf, fillP, S_plain, V_plain, V.cells, S_known, V_known, C.v, blk, setL, setH, eqS, eq1, cmpS, cmp1, isNil, popTo, killT, setT, leT, V.below, C.below, S_below, R.below, V.val, C.val, S_val, R.val, R.takes, vals, shows, List.any_cons, List.any_nil, unnamed, V.kill, V.names, C.names, S_names, R.names, List.set, List.replicate, ↓q_cond_t, ↓q_cond_f, if_true, if_false, reduceCtorEq, rvals, rvC, result, C_known, V.noL, C.noL, S_noL, R.noL, Option.map, true_and, and_true, ge_iff_le, gt_iff_lt, implies_true, q_ite_t, q_ite_f, beq_iff_eq, bne_iff_ne, q_ne, Nat.reduceAdd, Nat.reducePow, Int.reducePow, Nat.reduceMul, Nat.reduceSub, Nat.reduceLeDiff, Nat.reduceLT, Nat.reduceEqDiff, Int.reduceNeg, Int.reduceLT, Int.reduceLE, Int.reduceEq, Int.reduceNe, Int.reduceAdd, Int.reduceSub, Int.reduceMul, Int.reduceToNat, Int.reduceBEq, Int.reduceBNe, TGt, readG, memF_eq H, memF_set H, readM, h0, h1, h2, h3, w0, w1, w2, w3, v1, v2, v3, v4, e0, e1, e2, e3, M.at_tick, M.tick_has, M.tick_tick, put, setM_fun H, decG, unpackG, wordsR, pairV, slotRG, slotF, cap_eta, R.lend, R.unlend, S_ren, C.ren, V.ren, Blk.ren, take_app, drop_app, Nat.not_lt_zero, Nat.lt_irrefl, Nat.add_sub_cancel_left, Nat.not_lt, Nat.le_add_right, decI, arr, Ic, Uc, List.take, eB, eV, u0, u1, u2, hd, c2, c3, hr, i0, i1, i2, capZ, Cap.cl, fillP, nlt, hcm, sub, List.take_succ_cons, List.take_zero, List.drop_zero]
              first | exact hS | exact fun _ _ => hS
            | true =>
              have hS := hS.1 (by simp only [slotB, hd, c2, c3, hr, decide_true, beq_self_eq_true, Bool.and_true])
              simp only [slotC] at hr
              simp only [slotC, Slot.cl] at hS
              refine run_sound (Tab.ok_Γ _) 400 _ _ _ _ ?_
              simp (config := { maxSteps := 10000000 }) only [EV1, EV2, EV3, EV4, EV5, EV6, addT, istep, lenR_sl, lenR_ns, lenR_es, pickR, putD, bin1R, un1R, slcR, bnd, capsOf, fillP, S_plain, V_plain, V.cells, S_known, V_known, C.v, blk, setL, setH, eqS, eq1, cmpS, cmp1, isNil, popTo, killT, setT, leT, V.below, C.below, S_below, R.below, V.val, C.val, S_val, R.val, R.takes, vals, shows, List.any_cons, List.any_nil, unnamed, V.kill, V.names, C.names, S_names, R.names, List.set, List.replicate, ↓q_cond_t, ↓q_cond_f, if_true, if_false, reduceCtorEq, rvals, rvC, result, C_known, V.noL, C.noL, S_noL, R.noL, Option.map, true_and, and_true, ge_iff_le, gt_iff_lt, implies_true, q_ite_t, q_ite_f, beq_iff_eq, bne_iff_ne, q_ne, Nat.reduceAdd, Nat.reducePow, Int.reducePow, Nat.reduceMul, Nat.reduceSub, Nat.reduceLeDiff, Nat.reduceLT, Nat.reduceEqDiff, Int.reduceNeg, Int.reduceLT, Int.reduceLE, Int.reduceEq, Int.reduceNe, Int.reduceAdd, Int.reduceSub, Int.reduceMul, Int.reduceToNat, Int.reduceBEq, Int.reduceBNe, TGt, readG, memF_eq H, memF_set H, readM, h0, h1, h2, h3, w0, w1, w2, w3, v1, v2, v3, v4, e0, e1, e2, e3, M.at_tick, M.tick_has, M.tick_tick, put, setM_fun H, decG, unpackG, wordsR, pairV, slotRG, slotF, cap_eta, R.lend, R.unlend, S_ren, C.ren, V.ren, Blk.ren, take_app, drop_app, Nat.not_lt_zero, Nat.lt_irrefl, Nat.add_sub_cancel_left, Nat.not_lt, Nat.le_add_right, decI, arr, Ic, Uc, List.take, eB, eV, u0, u1, u2, hd, c2, c3, hr, i0, i1, i2, capZ, Cap.cl, fillP, nlt, hcm, sub, List.take_succ_cons, List.take_zero, List.drop_zero]
              first | exact hS | exact fun _ _ => hS
          · have hS := hS.2 (by simp [slotB, c3])
            refine run_sound (Tab.ok_Γ _) 400 _ _ _ _ ?_
            simp (config := { maxSteps := 10000000 }) only [EV1, EV2, EV3, EV4, EV5, EV6, addT, istep, lenR_sl, lenR_ns, lenR_es, pickR, putD, bin1R, un1R, slcR, bnd, capsOf, fillP, S_plain, V_plain, V.cells, S_known, V_known, C.v, blk, setL, setH, eqS, eq1, cmpS, cmp1, isNil, popTo, killT, setT, leT, V.below, C.below, S_below, R.below, V.val, C.val, S_val, R.val, R.takes, vals, shows, List.any_cons, List.any_nil, unnamed, V.kill, V.names, C.names, S_names, R.names, List.set, List.replicate, ↓q_cond_t, ↓q_cond_f, if_true, if_false, reduceCtorEq, rvals, rvC, result, C_known, V.noL, C.noL, S_noL, R.noL, Option.map, true_and, and_true, ge_iff_le, gt_iff_lt, implies_true, q_ite_t, q_ite_f, beq_iff_eq, bne_iff_ne, q_ne, Nat.reduceAdd, Nat.reducePow, Int.reducePow, Nat.reduceMul, Nat.reduceSub, Nat.reduceLeDiff, Nat.reduceLT, Nat.reduceEqDiff, Int.reduceNeg, Int.reduceLT, Int.reduceLE, Int.reduceEq, Int.reduceNe, Int.reduceAdd, Int.reduceSub, Int.reduceMul, Int.reduceToNat, Int.reduceBEq, Int.reduceBNe, TGt, readG, memF_eq H, memF_set H, readM, h0, h1, h2, h3, w0, w1, w2, w3, v1, v2, v3, v4, e0, e1, e2, e3, M.at_tick, M.tick_has, M.tick_tick, put, setM_fun H, decG, unpackG, wordsR, pairV, slotRG, slotF, cap_eta, R.lend, R.unlend, S_ren, C.ren, V.ren, Blk.ren, take_app, drop_app, Nat.not_lt_zero, Nat.lt_irrefl, Nat.add_sub_cancel_left, Nat.not_lt, Nat.le_add_right, decI, arr, Ic, Uc, List.take, eB, eV, u0, u1, u2, hd, c2, c3, i0, i1, i2, capZ, Cap.cl, fillP, nlt, hcm, sub, List.take_succ_cons, List.take_zero, List.drop_zero]
            first | exact hS | exact fun _ _ => hS
        · have hS := hS.2 (by simp [slotB, c2])
          refine run_sound (Tab.ok_Γ _) 400 _ _ _ _ ?_
          simp (config := { maxSteps := 10000000 }) only [EV1, EV2, EV3, EV4, EV5, EV6, addT, istep, lenR_sl, lenR_ns, lenR_es, pickR, putD, bin1R, un1R, slcR, bnd, capsOf, fillP, S_plain, V_plain, V.cells, S_known, V_known, C.v, blk, setL, setH, eqS, eq1, cmpS, cmp1, isNil, popTo, killT, setT, leT, V.below, C.below, S_below, R.below, V.val, C.val, S_val, R.val, R.takes, vals, shows, List.any_cons, List.any_nil, unnamed, V.kill, V.names, C.names, S_names, R.names, List.set, List.replicate, ↓q_cond_t, ↓q_cond_f, if_true, if_false, reduceCtorEq, rvals, rvC, result, C_known, V.noL, C.noL, S_noL, R.noL, Option.map, true_and, and_true, ge_iff_le, gt_iff_lt, implies_true, q_ite_t, q_ite_f, beq_iff_eq, bne_iff_ne, q_ne, Nat.reduceAdd, Nat.reducePow, Int.reducePow, Nat.reduceMul, Nat.reduceSub, Nat.reduceLeDiff, Nat.reduceLT, Nat.reduceEqDiff, Int.reduceNeg, Int.reduceLT, Int.reduceLE, Int.reduceEq, Int.reduceNe, Int.reduceAdd, Int.reduceSub, Int.reduceMul, Int.reduceToNat, Int.reduceBEq, Int.reduceBNe, TGt, readG, memF_eq H, memF_set H, readM, h0, h1, h2, h3, w0, w1, w2, w3, v1, v2, v3, v4, e0, e1, e2, e3, M.at_tick, M.tick_has, M.tick_tick, put, setM_fun H, decG, unpackG, wordsR, pairV, R.lend, R.unlend, S_ren, C.ren, V.ren, Blk.ren, take_app, drop_app, Nat.not_lt_zero, Nat.lt_irrefl, Nat.add_sub_cancel_left, Nat.not_lt, Nat.le_add_right, decI, arr, Ic, Uc, List.take, eB, eV, u0, u1, u2, hd, c2, capZ, Cap.cl, fillP, nlt, hcm, sub, List.take_succ_cons, List.take_zero, List.drop_zero]
          first | exact hS | exact fun _ _ => hS
  · exact hS.elim
end Go.Proofs.Ytdlloccodmdnnaa

/- Package slots: the document's Get, Put, Empty. -/
namespace Go.Proofs.Ytdlloccodmdnnaa
open Go.D
set_option linter.all false
set_option maxRecDepth 100000
set_option maxHeartbeats 4000000

noncomputable def TGr : Tab := addT 88 sthereG (addT 100 readG (addT 101 decG (addT 89 slotRG (addT 90 encG (addT 91 writeG noT)))))
theorem TGr_snd : TGr.Snd Try.prog := addT_snd ok88 rat_snd (addT_snd ok100 rread_snd (addT_snd ok101 rdec_snd (addT_snd ok89 rslotR_snd (addT_snd ok90 renc_snd (addT_snd ok91 rwrite_snd (noT_snd _))))))
theorem min16 : min 16 IntKind.u64.bits = 16 := rfl
theorem min32 : min 32 IntKind.u64.bits = 32 := rfl
theorem rgetS_snd : Snd Try.prog 58 (FSpec.of getSG) := snd_run TGr_snd mixed Try.func58 dc58 300 fun args h K hc hS => by
  obtain ⟨a, b, m, rest, rfl, H, hS1⟩ := memF_spec hS
  clear hS
  have hS := hS1
  clear hS1
  unfold getSM at hS
  split at hS
  · rename_i x
    simp only [spec_ok, spec_br, setM_self H] at hS
    have hl := m.l
    cases ht : thereB m x with
    | false =>
      have hS := hS.2 ht
      simp (config := { maxSteps := 10000000 }) only [EV1, EV2, EV3, EV4, EV5, EV6, addT, istep, lenR_sl, lenR_ns, lenR_es, pickR, putD, bin1R, un1R, slcR, bnd, capsOf, fillP, S_plain, V_plain, V.cells, S_known, V_known, C.v, blk, setL, setH, eqS, eq1, cmpS, cmp1, isNil, popTo, killT, setT, leT, V.below, C.below, S_below, R.below, V.val, C.val, S_val, R.val, R.takes, vals, shows, List.any_cons, List.any_nil, unnamed, V.kill, V.names, C.names, S_names, R.names, List.set, List.replicate, ↓q_cond_t, ↓q_cond_f, if_true, if_false, reduceCtorEq, rvals, rvC, result, C_known, V.noL, C.noL, S_noL, R.noL, Option.map, true_and, and_true, ge_iff_le, gt_iff_lt, implies_true, q_ite_t, q_ite_f, beq_iff_eq, bne_iff_ne, q_ne, Nat.reduceAdd, Nat.reducePow, Int.reducePow, Nat.reduceMul, Nat.reduceSub, Nat.reduceLeDiff, Nat.reduceLT, Nat.reduceEqDiff, Int.reduceNeg, Int.reduceLT, Int.reduceLE, Int.reduceEq, Int.reduceNe, Int.reduceAdd, Int.reduceSub, Int.reduceMul, Int.reduceToNat, Int.reduceBEq, Int.reduceBNe, df58, TGr, sthereG, memF_eq H, sthereM, setM_self H, ht, put, fillP, sub, List.take_succ_cons, List.take_zero, List.drop_zero]
      exact hS
    | true =>
      have hS := hS.1 ht
      have hb := there_iff.1 ht
      have h0 : m.has x 1 = true := M.has_of (by omega)
      have h1 : m.has (x + 1) 1 = true := M.has_of (by omega)
      have h2 : m.has (x + 2) 1 = true := M.has_of (by omega)
      have h3 : m.has (x + 3) 1 = true := M.has_of (by omega)
      have w1 : IntKind.i64.wrap (x + 1) = x + 1 := wrap64 (by omega) (by omega)
      have w2 : IntKind.i64.wrap (x + 2) = x + 2 := wrap64 (by omega) (by omega)
      have w3 : IntKind.i64.wrap (x + 3) = x + 3 := wrap64 (by omega) (by omega)
      have u0 := m.at_u x
      have u1 := m.at_u (x + 1)
      have u2 := m.at_u (x + 2)
      simp only [M.slotB, M.slotC] at hS
      obtain ⟨a0, e0⟩ : ∃ a, m.at x = a := ⟨_, rfl⟩
      obtain ⟨a1, e1⟩ : ∃ a, m.at (x + 1) = a := ⟨_, rfl⟩
      obtain ⟨a2, e2⟩ : ∃ a, m.at (x + 2) = a := ⟨_, rfl⟩
      obtain ⟨a3, e3⟩ : ∃ a, m.at (x + 3) = a := ⟨_, rfl⟩
      rw [e0] at u0 hS
      rw [e1] at u1 hS
      rw [e2] at u2 hS
      rw [e3] at hS
      obtain ⟨a2, rfl, _⟩ := u2.nat
      have t0 : ((a2 : Int)).tmod 65536 = (a2 : Int) % 65536 := Int.tmod_eq_emod_of_nonneg (by omega)
      have t1 : ((a2 : Int) / 65536).tmod 65536 = (a2 : Int) / 65536 % 65536 := Int.tmod_eq_emod_of_nonneg (by omega)
      have t2 : ((a2 : Int) / 4294967296).tmod 65536 = (a2 : Int) / 4294967296 % 65536 := Int.tmod_eq_emod_of_nonneg (by omega)
      have i0 : IntKind.i64.wrap ((a2 : Int) % 65536) = (a2 : Int) % 65536 := wrap64 (by omega) (by omega)
      have i1 : IntKind.i64.wrap ((a2 : Int) / 65536 % 65536) = (a2 : Int) / 65536 % 65536 := wrap64 (by omega) (by omega)
      have i2 : IntKind.i64.wrap ((a2 : Int) / 4294967296 % 65536) = (a2 : Int) / 4294967296 % 65536 := wrap64 (by omega) (by omega)
      have c2 : (281474976710656 ≤ (a2 : Int)) = ¬ ((a2 : Int) / 281474976710656 = 0) := propext (by omega)
      cases hd : decB a0 a1 with
      | false =>
        have hS := hS.2 (by simp only [slotB, hd, Bool.false_and])
        cases hr : slotRB ⟨capZ, (a2 : Int) % 65536, (a2 : Int) / 65536 % 65536, (a2 : Int) / 4294967296 % 65536⟩
        all_goals simp only [capZ] at hr
        all_goals simp (config := { maxSteps := 10000000 }) only [EV1, EV2, EV3, EV4, EV5, EV6, addT, istep, lenR_sl, lenR_ns, lenR_es, pickR, putD, bin1R, un1R, slcR, bnd, capsOf, fillP, S_plain, V_plain, V.cells, S_known, V_known, C.v, blk, setL, setH, eqS, eq1, cmpS, cmp1, isNil, popTo, killT, setT, leT, V.below, C.below, S_below, R.below, V.val, C.val, S_val, R.val, R.takes, vals, shows, List.any_cons, List.any_nil, unnamed, V.kill, V.names, C.names, S_names, R.names, List.set, List.replicate, ↓q_cond_t, ↓q_cond_f, if_true, if_false, reduceCtorEq, rvals, rvC, result, C_known, V.noL, C.noL, S_noL, R.noL, Option.map, true_and, and_true, ge_iff_le, gt_iff_lt, implies_true, q_ite_t, q_ite_f, beq_iff_eq, bne_iff_ne, q_ne, Nat.reduceAdd, Nat.reducePow, Int.reducePow, Nat.reduceMul, Nat.reduceSub, Nat.reduceLeDiff, Nat.reduceLT, Nat.reduceEqDiff, Int.reduceNeg, Int.reduceLT, Int.reduceLE, Int.reduceEq, Int.reduceNe, Int.reduceAdd, Int.reduceSub, Int.reduceMul, Int.reduceToNat, Int.reduceBEq, Int.reduceBNe, df58, TGr, sthereG, memF_eq H, memF_set H, sthereM, setM_self H, setM_fun H, ht, readG, readM, h0, h1, h2, h3, w1, w2, w3, e0, e1, e2, e3, M.at_tick, M.tick_has, M.tick_tick, decG, slotRG, slotF, cap_eta, u0, u1, u2, t0, t1, t2, i0, i1, i2, hd, hr, min16, min32, capZ, Cap.cl, put, fillP, sub, List.take_succ_cons, List.take_zero, List.drop_zero]
        all_goals exact hS
      | true =>
        by_cases hx : slotB a0 a1 a2 a3 = true
        · have hS := hS.1 hx
          simp only [slotB, hd, Bool.true_and, Bool.and_eq_true, decide_eq_true_eq, beq_iff_eq] at hx
          obtain ⟨c3, c4, hr⟩ := hx
          simp only [slotC] at hr
          simp only [slotC, Slot.cl] at hS
          simp (config := { maxSteps := 10000000 }) only [EV1, EV2, EV3, EV4, EV5, EV6, addT, istep, lenR_sl, lenR_ns, lenR_es, pickR, putD, bin1R, un1R, slcR, bnd, capsOf, fillP, S_plain, V_plain, V.cells, S_known, V_known, C.v, blk, setL, setH, eqS, eq1, cmpS, cmp1, isNil, popTo, killT, setT, leT, V.below, C.below, S_below, R.below, V.val, C.val, S_val, R.val, R.takes, vals, shows, List.any_cons, List.any_nil, unnamed, V.kill, V.names, C.names, S_names, R.names, List.set, List.replicate, ↓q_cond_t, ↓q_cond_f, if_true, if_false, reduceCtorEq, rvals, rvC, result, C_known, V.noL, C.noL, S_noL, R.noL, Option.map, true_and, and_true, ge_iff_le, gt_iff_lt, implies_true, q_ite_t, q_ite_f, beq_iff_eq, bne_iff_ne, q_ne, Nat.reduceAdd, Nat.reducePow, Int.reducePow, Nat.reduceMul, Nat.reduceSub, Nat.reduceLeDiff, Nat.reduceLT, Nat.reduceEqDiff, Int.reduceNeg, Int.reduceLT, Int.reduceLE, Int.reduceEq, Int.reduceNe, Int.reduceAdd, Int.reduceSub, Int.reduceMul, Int.reduceToNat, Int.reduceBEq, Int.reduceBNe, df58, TGr, sthereG, memF_eq H, memF_set H, sthereM, setM_self H, setM_fun H, ht, readG, readM, h0, h1, h2, h3, w1, w2, w3, e0, e1, e2, e3, M.at_tick, M.tick_has, M.tick_tick, decG, slotRG, slotF, cap_eta, u0, u1, u2, t0, t1, t2, i0, i1, i2, hd, hr, c2, c3, c4, min16, min32, capZ, Cap.cl, put, fillP, sub, List.take_succ_cons, List.take_zero, List.drop_zero]
          exact hS
        · have hS := hS.2 (by simpa using hx)
          by_cases c3 : (a2 : Int) / 281474976710656 = 0
          all_goals by_cases c4 : a3 = 0
          all_goals cases hr : slotRB (slotC a0 a1 a2)
          all_goals try (exfalso; apply hx; simp [slotB, hd, c3, c4, hr]; done)
          all_goals simp only [slotC] at hr
          all_goals simp (config := { maxSteps := 10000000 }) only [EV1, EV2, EV3, EV4, EV5, EV6, addT, istep, lenR_sl, lenR_ns, lenR_es, pickR, putD, bin1R, un1R, slcR, bnd, capsOf, fillP, S_plain, V_plain, V.cells, S_known, V_known, C.v, blk, setL, setH, eqS, eq1, cmpS, cmp1, isNil, popTo, killT, setT, leT, V.below, C.below, S_below, R.below, V.val, C.val, S_val, R.val, R.takes, vals, shows, List.any_cons, List.any_nil, unnamed, V.kill, V.names, C.names, S_names, R.names, List.set, List.replicate, ↓q_cond_t, ↓q_cond_f, if_true, if_false, reduceCtorEq, rvals, rvC, result, C_known, V.noL, C.noL, S_noL, R.noL, Option.map, true_and, and_true, ge_iff_le, gt_iff_lt, implies_true, q_ite_t, q_ite_f, beq_iff_eq, bne_iff_ne, q_ne, Nat.reduceAdd, Nat.reducePow, Int.reducePow, Nat.reduceMul, Nat.reduceSub, Nat.reduceLeDiff, Nat.reduceLT, Nat.reduceEqDiff, Int.reduceNeg, Int.reduceLT, Int.reduceLE, Int.reduceEq, Int.reduceNe, Int.reduceAdd, Int.reduceSub, Int.reduceMul, Int.reduceToNat, Int.reduceBEq, Int.reduceBNe, df58, TGr, sthereG, memF_eq H, memF_set H, sthereM, setM_self H, setM_fun H, ht, readG, readM, h0, h1, h2, h3, w1, w2, w3, e0, e1, e2, e3, M.at_tick, M.tick_has, M.tick_tick, decG, slotRG, slotF, cap_eta, u0, u1, u2, t0, t1, t2, i0, i1, i2, hd, hr, c2, c3, c4, min16, min32, capZ, Cap.cl, put, fillP, sub, List.take_succ_cons, List.take_zero, List.drop_zero]
          all_goals exact hS
  · exact hS.elim

/-! ### Empty -/
def emptySM (b : Nat) (m : M) (st : M → List Blk) : List V → Res
  | [.s (.i .i64 a)] => .br (thereB m a) (.br (m.slotB a) (.ok (.tup [.s (.b (m.slotC a).isZ), .s (.i .i64 0)]) [] (st (m.tick 4))) (.ok (.tup [.s (.b false), .s (.i .i64 110)]) [] (st (m.tick 4))))
      (.ok (.tup [.s (.b false), .s (.i .i64 20)]) [] (st m))
  | _ => .bad
noncomputable def emptySG := memF emptySM
noncomputable def TEm : Tab := addT 57 getSG (addT 58 getSG noT)
theorem TEm_snd : TEm.Snd Try.prog := addT_snd ok57 getS_snd (addT_snd ok58 rgetS_snd (noT_snd _))
/-- A slot that may be, of no cap, is the empty one. -/
theorem slot_null {s : Slot} (h : slotRB s = true) : (s.cap.ty == 0) = s.isZ := by
  cases hz : s.isZ with
  | true => rw [Slot.isZ_iff.1 hz]; rfl
  | false =>
    simp only [slotRB, hz, Bool.not_false, Bool.and_true, Bool.and_eq_true, Bool.not_eq_true'] at h
    exact h.1
end Go.Proofs.Ytdlloccodmdnnaa

/- Package slots: Put. -/
namespace Go.Proofs.Ytdlloccodmdnnaa
open Go.D
set_option linter.all false
set_option maxRecDepth 100000
set_option maxHeartbeats 4000000

theorem M.put_tick (m : M) (k : Int) (i : Nat) (x : Int) : (m.tick k).put i x = (m.put i x).tick k := rfl
def Slot.links (s : Slot) : Int := s.prev + 65536 * s.next + 4294967296 * s.depth
/-- A slot, put. -/
def M.putS (m : M) (a : Int) (s : Slot) : M := ((((m.put a.toNat s.cap.w0).put (a + 1).toNat s.cap.num).put (a + 2).toNat s.links).put (a + 3).toNat 0).tick 4
def putSM (b : Nat) (m : M) (st : M → List Blk) : List V → Res
  | [.s (.i .i64 a), x] => slotF (fun s => .br (thereB m a) (.br (slotRB s) (.ok (.s (.i .i64 0)) [] (st (m.putS a s))) (.ok (.s (.i .i64 110)) [] (st m))) (.ok (.s (.i .i64 20)) [] (st m))) [x]
  | _ => .bad
noncomputable def putSG := memF putSM
theorem putSM_spec {b : Nat} {m : M} {st : M → List Blk} {args : List V} {K : V → List Blk → Prop} (h : (putSM b m st args).spec K) :
    ∃ a s, args = [.s (.i .i64 a), .agg s.cl] ∧ (thereB m a = false → K (.s (.i .i64 20)) (st m)) ∧ (thereB m a = true → slotRB s = false → K (.s (.i .i64 110)) (st m)) ∧ (thereB m a = true → slotRB s = true → K (.s (.i .i64 0)) (st (m.putS a s))) := by
  unfold putSM at h
  split at h
  · rename_i a x
    obtain ⟨s, e, h⟩ := slotF_spec h
    simp only [List.cons.injEq, and_true] at e
    subst e
    have h : (thereB m a = true → (slotRB s = true → K _ _) ∧ (slotRB s = false → K _ _)) ∧ (thereB m a = false → K _ _) := h
    exact ⟨a, s, rfl, h.2, fun e => (h.1 e).2, fun e => (h.1 e).1⟩
  · exact h.elim

def pfldG : List V → List Blk → Res
  | [.s (.i .i64 n)], h => .ok (.agg [.i .i64 16, .i .u64 (IntKind.u64.wrap n)]) [] h
  | _, _ => .bad
/-- What is told of a slot that may be. -/
theorem slotRB_iff {s : Slot} (h : slotRB s = true) : rightB s.cap = true ∧ (0 ≤ s.prev ∧ s.prev < 65536 ∧ s.prev % 4 = 0) ∧ (0 ≤ s.next ∧ s.next < 65536 ∧ s.next % 4 = 0) ∧ 0 ≤ s.depth ∧ s.depth < 65536 := by
  simp only [slotRB, linkB, Bool.and_eq_true, decide_eq_true_eq, beq_iff_eq] at h
  obtain ⟨_, h1, ⟨p1, p2, p3⟩, ⟨n1, n2, n3⟩, d1, d2⟩ := h
  rw [Int.tmod_eq_emod_of_nonneg p1] at p3
  rw [Int.tmod_eq_emod_of_nonneg n1] at n3
  exact ⟨h1, ⟨p1, p2, p3⟩, ⟨n1, n2, n3⟩, d1, d2⟩
theorem links_B {s : Slot} (h : slotRB s = true) : packB [⟨16, s.prev⟩, ⟨16, s.next⟩, ⟨16, s.depth⟩] 0 = true := by
  obtain ⟨_, h1, h2, h3⟩ := slotRB_iff h
  simp only [packB, setB, fieldB, Bool.and_eq_true, decide_eq_true_eq]
  simp only [Int.reduceAdd, Int.reduceSub, Int.reduceLE, Int.reduceToNat, Nat.reducePow, true_and, and_true]
  omega
theorem links_V {s : Slot} (h : slotRB s = true) : packV [⟨16, s.prev⟩, ⟨16, s.next⟩, ⟨16, s.depth⟩] 0 = s.links := by
  obtain ⟨_, h1, h2, h3⟩ := slotRB_iff h
  simp only [packV, Int.reduceAdd, Int.reduceToNat, Nat.reducePow, Slot.links]
  omega
theorem links_u {s : Slot} (h : slotRB s = true) : u64 s.links := by
  obtain ⟨_, h1, h2, h3⟩ := slotRB_iff h
  simp only [u64, Slot.links]; omega

theorem rputS_snd : Snd Try.prog 53 (FSpec.of putSG) := snd_run TGr_snd mixed Try.func53 dc53 300 fun args h K hc hS => by
  obtain ⟨a, b, m, rest, rfl, H, hS1⟩ := memF_spec hS
  clear hS
  have hS := hS1
  clear hS1
  obtain ⟨x, s, rfl, q1, q2, q3⟩ := putSM_spec hS
  clear hS
  rw [setM_self H] at q1 q2
  have hl := m.l
  cases ht : thereB m x with
  | false =>
    have hS := q1 ht
    simp only [Slot.cl]
    simp (config := { maxSteps := 10000000 }) only [EV1, EV2, EV3, EV4, EV5, EV6, addT, istep, lenR_sl, lenR_ns, lenR_es, pickR, putD, bin1R, un1R, slcR, bnd, capsOf, fillP, S_plain, V_plain, V.cells, S_known, V_known, C.v, blk, setL, setH, eqS, eq1, cmpS, cmp1, isNil, popTo, killT, setT, leT, V.below, C.below, S_below, R.below, V.val, C.val, S_val, R.val, R.takes, vals, shows, List.any_cons, List.any_nil, unnamed, V.kill, V.names, C.names, S_names, R.names, List.set, List.replicate, ↓q_cond_t, ↓q_cond_f, if_true, if_false, reduceCtorEq, rvals, rvC, result, C_known, V.noL, C.noL, S_noL, R.noL, Option.map, true_and, and_true, ge_iff_le, gt_iff_lt, implies_true, q_ite_t, q_ite_f, beq_iff_eq, bne_iff_ne, q_ne, Nat.reduceAdd, Nat.reducePow, Int.reducePow, Nat.reduceMul, Nat.reduceSub, Nat.reduceLeDiff, Nat.reduceLT, Nat.reduceEqDiff, Int.reduceNeg, Int.reduceLT, Int.reduceLE, Int.reduceEq, Int.reduceNe, Int.reduceAdd, Int.reduceSub, Int.reduceMul, Int.reduceToNat, Int.reduceBEq, Int.reduceBNe, df53, TGr, sthereG, memF_eq H, sthereM, setM_self H, ht]
    exact hS
  | true =>
    cases hr : slotRB s with
    | false =>
      have hS := q2 ht hr
      simp only [Slot.cl]
      simp (config := { maxSteps := 10000000 }) only [EV1, EV2, EV3, EV4, EV5, EV6, addT, istep, lenR_sl, lenR_ns, lenR_es, pickR, putD, bin1R, un1R, slcR, bnd, capsOf, fillP, S_plain, V_plain, V.cells, S_known, V_known, C.v, blk, setL, setH, eqS, eq1, cmpS, cmp1, isNil, popTo, killT, setT, leT, V.below, C.below, S_below, R.below, V.val, C.val, S_val, R.val, R.takes, vals, shows, List.any_cons, List.any_nil, unnamed, V.kill, V.names, C.names, S_names, R.names, List.set, List.replicate, ↓q_cond_t, ↓q_cond_f, if_true, if_false, reduceCtorEq, rvals, rvC, result, C_known, V.noL, C.noL, S_noL, R.noL, Option.map, true_and, and_true, ge_iff_le, gt_iff_lt, implies_true, q_ite_t, q_ite_f, beq_iff_eq, bne_iff_ne, q_ne, Nat.reduceAdd, Nat.reducePow, Int.reducePow, Nat.reduceMul, Nat.reduceSub, Nat.reduceLeDiff, Nat.reduceLT, Nat.reduceEqDiff, Int.reduceNeg, Int.reduceLT, Int.reduceLE, Int.reduceEq, Int.reduceNe, Int.reduceAdd, Int.reduceSub, Int.reduceMul, Int.reduceToNat, Int.reduceBEq, Int.reduceBNe, df53, TGr, sthereG, memF_eq H, sthereM, setM_self H, ht, slotRG, slotF, slot_eta, hr, sub, List.take_succ_cons, List.take_zero, List.drop_zero]
      exact hS
    | true =>
      have hS := q3 ht hr
      have hb := there_iff.1 ht
      obtain ⟨rc, ⟨p1, p2, _⟩, ⟨n1, n2, _⟩, d1, d2⟩ := slotRB_iff hr
      obtain ⟨u0, u1, _, _⟩ := enc_back rc
      have u2 := links_u hr
      have h0 : m.has x 1 = true := M.has_of (by omega)
      have h1 : m.has (x + 1) 1 = true := M.has_of (by omega)
      have h2 : m.has (x + 2) 1 = true := M.has_of (by omega)
      have h3 : m.has (x + 3) 1 = true := M.has_of (by omega)
      have w1 : IntKind.i64.wrap (x + 1) = x + 1 := wrap64 (by omega) (by omega)
      have w2 : IntKind.i64.wrap (x + 2) = x + 2 := wrap64 (by omega) (by omega)
      have w3 : IntKind.i64.wrap (x + 3) = x + 3 := wrap64 (by omega) (by omega)
      have x1 : IntKind.u64.wrap s.prev = s.prev := wrapu p1 (by omega)
      have x2 : IntKind.u64.wrap s.next = s.next := wrapu n1 (by omega)
      have x3 : IntKind.u64.wrap s.depth = s.depth := wrapu d1 (by omega)
      have x4 : IntKind.u64.wrap (s.next * 65536) = s.next * 65536 := wrapu (by omega) (by omega)
      have x5 : IntKind.u64.wrap (s.depth * 4294967296) = s.depth * 4294967296 := wrapu (by omega) (by omega)
      have x6 : IntKind.u64.wrap (s.prev + s.next * 65536) = s.prev + s.next * 65536 := wrapu (by omega) (by omega)
      have x7 : IntKind.u64.wrap (s.prev + s.next * 65536 + s.depth * 4294967296) = s.links := by
        rw [wrapu (by omega) (by omega), Slot.links]; omega
      have u3 := u64_0
      simp only [M.putS] at hS
      simp only [Slot.cl]
      simp (config := { maxSteps := 10000000 }) only [EV1, EV2, EV3, EV4, EV5, EV6, addT, istep, lenR_sl, lenR_ns, lenR_es, pickR, putD, bin1R, un1R, slcR, bnd, capsOf, fillP, S_plain, V_plain, V.cells, S_known, V_known, C.v, blk, setL, setH, eqS, eq1, cmpS, cmp1, isNil, popTo, killT, setT, leT, V.below, C.below, S_below, R.below, V.val, C.val, S_val, R.val, R.takes, vals, shows, List.any_cons, List.any_nil, unnamed, V.kill, V.names, C.names, S_names, R.names, List.set, List.replicate, ↓q_cond_t, ↓q_cond_f, if_true, if_false, reduceCtorEq, rvals, rvC, result, C_known, V.noL, C.noL, S_noL, R.noL, Option.map, true_and, and_true, ge_iff_le, gt_iff_lt, implies_true, q_ite_t, q_ite_f, beq_iff_eq, bne_iff_ne, q_ne, Nat.reduceAdd, Nat.reducePow, Int.reducePow, Nat.reduceMul, Nat.reduceSub, Nat.reduceLeDiff, Nat.reduceLT, Nat.reduceEqDiff, Int.reduceNeg, Int.reduceLT, Int.reduceLE, Int.reduceEq, Int.reduceNe, Int.reduceAdd, Int.reduceSub, Int.reduceMul, Int.reduceToNat, Int.reduceBEq, Int.reduceBNe, df53, TGr, sthereG, memF_eq H, memF_set H, sthereM, setM_self H, setM_fun H, ht, slotRG, slotF, slot_eta, cap_eta, hr, rc, encG, capF, writeG, writeM, h0, h1, h2, h3, w1, w2, w3, u0, u1, u2, u3, M.put_has, M.tick_has, M.put_tick, M.tick_tick, x1, x2, x3, x4, x5, x6, x7, min16, min32, put, fillP, sub, List.take_succ_cons, List.take_zero, List.drop_zero]
      exact hS
end Go.Proofs.Ytdlloccodmdnnaa

/- Slices of elements, as they lie in a block. -/
namespace Go.Proofs.Ytdlloccodmdnnaa
open Go.D
set_option linter.all false
set_option maxRecDepth 100000

/-- A slice of elements, as an argument. -/
def IsArr {α : Type} (c : α → List S) (h : List Blk) (s : S) (L : List α) : Prop :=
  ((s = .ns ∨ ∃ a c', s = .es a c') ∧ L = []) ∨ ∃ j c' st room, s = .sl (.g j) 0 L.length c' ∧ h[j]? = some ⟨st, arr c L, room⟩ ∧ (L.length ≠ 0 → st ≠ .dead)
theorem arr_inj {α : Type} {c : α → List S} {k : Nat} (hk : ∀ x, (c x).length = k) (hc : ∀ x y, c x = c y → x = y) : ∀ (L M : List α), L.length = M.length → arr c L = arr c M → L = M
  | [], [], _, _ => rfl
  | x :: L, y :: M, hl, e => by
    simp only [arr] at e
    obtain ⟨e1, e2⟩ := List.append_inj e (by rw [hk, hk])
    rw [hc x y e1, arr_inj hk hc L M (by simpa using hl) e2]
  | [], _ :: _, hl, _ => by simp at hl
  | _ :: _, [], hl, _ => by simp at hl
/-- Elements that can be told apart by their cells. -/
class Cells {α : Type} (c : α → List S) : Prop where
  len : ∃ k, ∀ x, (c x).length = k
  inj : ∀ x y, c x = c y → x = y
theorem IsArr.uniq {α : Type} {c : α → List S} [C : Cells c] {h : List Blk} {s : S} {L M : List α} (H : IsArr c h s L) (H' : IsArr c h s M) : L = M := by
  rcases H with ⟨e0, rfl⟩ | ⟨j, c1, st, room, rfl, e1, _⟩
  · rcases H' with ⟨_, rfl⟩ | ⟨_, _, _, _, e, _⟩
    · rfl
    · subst e; rcases e0 with e0 | ⟨_, _, e0⟩ <;> cases e0
  · rcases H' with ⟨e | ⟨_, _, e⟩, _⟩ | ⟨j', c1', st', room', e, e2, _⟩
    · cases e
    · cases e
    · simp only [S.sl.injEq, R.g.injEq, true_and] at e
      obtain ⟨rfl, hl, rfl⟩ := e
      rw [e1, Option.some.injEq, Blk.mk.injEq] at e2
      obtain ⟨k, hk⟩ := C.len
      exact arr_inj hk C.inj L M hl e2.2.1
open Classical in
noncomputable def arrOf {α : Type} (c : α → List S) (h : List Blk) (s : S) : Option (List α) := if hx : ∃ v, IsArr c h s v then some (Classical.choose hx) else none
theorem arrOf_eq {α : Type} {c : α → List S} [Cells c] {h : List Blk} {s : S} {v : List α} (H : IsArr c h s v) : arrOf c h s = some v := by
  have hx : ∃ v, IsArr c h s v := ⟨v, H⟩
  unfold arrOf
  rw [dif_pos hx, IsArr.uniq (Classical.choose_spec hx) H]
theorem arrOf_some {α : Type} {c : α → List S} {h : List Blk} {s : S} {v : List α} (e : arrOf c h s = some v) : IsArr c h s v := by
  unfold arrOf at e
  split at e
  · rename_i hx
    have := Classical.choose_spec hx
    rw [Option.some.injEq] at e
    rw [e] at this
    exact this
  · cases e
theorem IsArr.app {α : Type} {c : α → List S} {h X : List Blk} {s : S} {L : List α} (H : IsArr c h s L) : IsArr c (h ++ X) s L := by
  rcases H with ⟨e0, rfl⟩ | ⟨j, c', st, room, rfl, e1, e2⟩
  · exact .inl ⟨e0, rfl⟩
  · exact .inr ⟨j, c', st, room, rfl, by rw [List.getElem?_append_left (List.getElem?_eq_some_iff.1 e1).1]; exact e1, e2⟩
def In.c (n : Int) : List S := [.i .i64 n]
theorem In.c_len (n : Int) : (In.c n).length = 1 := rfl
instance : Cells In.c := ⟨⟨1, In.c_len⟩, fun x y e => by simpa [In.c] using e⟩

/-! ### a slice whose form is not looked at -/
/-- A slice of so many elements; of a block that was there. -/
def IsSl (q : Nat) (s : S) (n : Nat) : Prop := (s = .ns ∧ n = 0) ∨ (∃ a c, s = .es a c ∧ n = 0) ∨ ∃ j o c, s = .sl (.g j) o n c ∧ j < q
section
variable {q : Nat} {s : S} {n : Nat} (H : IsSl q s n)
include H
theorem IsSl.len {ls h : List Blk} : lenR (.s s) ls h = .ok (.s (.i .i64 n)) ls h := by
  rcases H with ⟨rfl, rfl⟩ | ⟨a, c, rfl, rfl⟩ | ⟨j, o, c, rfl, _⟩ <;> rfl
theorem IsSl.known : V.known (.s s) = true := by
  rcases H with ⟨rfl, rfl⟩ | ⟨a, c, rfl, rfl⟩ | ⟨j, o, c, rfl, _⟩ <;> rfl
theorem IsSl.plain : V.plain (.s s) = true := by
  rcases H with ⟨rfl, rfl⟩ | ⟨a, c, rfl, rfl⟩ | ⟨j, o, c, rfl, _⟩ <;> rfl
theorem IsSl.noL : s.noL = true := by
  rcases H with ⟨rfl, rfl⟩ | ⟨a, c, rfl, rfl⟩ | ⟨j, o, c, rfl, _⟩ <;> rfl
theorem IsSl.below (m : Nat) : s.below m = true := by
  rcases H with ⟨rfl, rfl⟩ | ⟨a, c, rfl, rfl⟩ | ⟨j, o, c, rfl, _⟩ <;> rfl
theorem IsSl.names (m : Nat) : s.names m = false := by
  rcases H with ⟨rfl, rfl⟩ | ⟨a, c, rfl, rfl⟩ | ⟨j, o, c, rfl, _⟩ <;> rfl
theorem IsSl.ren {ρ : R → R} (hρ : ∀ k, ρ (.g k) = .g k) : s.ren ρ = s := by
  rcases H with ⟨rfl, rfl⟩ | ⟨a, c, rfl, rfl⟩ | ⟨j, o, c, rfl, _⟩ <;> simp [S.ren, hρ]
theorem IsSl.lend (m : Nat) : s.ren (R.lend m) = s := H.ren fun _ => rfl
theorem IsSl.unlend {k : Nat} (hk : q ≤ k) : s.ren (R.unlend k) = s := by
  rcases H with ⟨rfl, rfl⟩ | ⟨a, c, rfl, rfl⟩ | ⟨j, o, c, rfl, hj⟩
  · rfl
  · rfl
  · simp only [S.ren, R.unlend]; rw [if_pos (by omega)]
theorem IsSl.pick (l : List Nat) : s.ren (R.pick l) = s := H.ren fun _ => rfl
theorem IsSl.val {k m : Nat} (hk : q ≤ k) : s.val k m = true := by
  rcases H with ⟨rfl, rfl⟩ | ⟨a, c, rfl, rfl⟩ | ⟨j, o, c, rfl, hj⟩
  · rfl
  · rfl
  · simp only [S.val, R.val, decide_eq_true_eq]; omega
end
theorem IsArr.sl {α : Type} {c : α → List S} {h : List Blk} {s : S} {L : List α} (H : IsArr c h s L) : IsSl h.length s L.length := by
  rcases H with ⟨e0 | ⟨a, c', e0⟩, rfl⟩ | ⟨j, c', st, room, rfl, e, _⟩
  · exact .inl ⟨e0, rfl⟩
  · exact .inr (.inl ⟨a, c', e0, rfl⟩)
  · exact .inr (.inr ⟨j, 0, c', rfl, (List.getElem?_eq_some_iff.1 e).1⟩)
/-- Where there is an element the slice is a block's. -/
theorem IsArr.at {α : Type} {c : α → List S} {h : List Blk} {s : S} {L : List α} (H : IsArr c h s L) {i : Nat} (hi : i < L.length) : ∃ j c' st room, s = .sl (.g j) 0 L.length c' ∧ h[j]? = some ⟨st, arr c L, room⟩ ∧ st ≠ .dead := by
  rcases H with ⟨_, rfl⟩ | ⟨j, c', st, room, e, e1, e2⟩
  · simp at hi
  · exact ⟨j, c', st, room, e, e1, e2 (by omega)⟩
end Go.Proofs.Ytdlloccodmdnnaa

/- Lists of words: Dump, Load, Same. -/
namespace Go.Proofs.Ytdlloccodmdnnaa
open Go.D
set_option linter.all false
set_option maxRecDepth 100000
set_option maxHeartbeats 4000000

/-- A list of words, as a slice. -/
def IsList (h : List Blk) (s : S) (vs : List Int) : Prop :=
  ((s = .ns ∨ ∃ a c, s = .es a c) ∧ vs = []) ∨ (∃ j o c B, s = .sl (.g j) o 0 c ∧ h[j]? = some B ∧ vs = []) ∨ ∃ j o c B, s = .sl (.g j) o vs.length c ∧ h[j]? = some B ∧ B.st ≠ .dead ∧ o + vs.length ≤ B.cells.length ∧ sub B.cells o vs.length = wc vs
theorem IsList.uniq {h : List Blk} {s : S} {v w : List Int} (H : IsList h s v) (H' : IsList h s w) : v = w := by
  rcases H with ⟨e0, rfl⟩ | ⟨j, o, c, B, rfl, e1, rfl⟩ | ⟨j, o, c, B, rfl, e1, _, _, e2⟩
  · rcases H' with ⟨_, rfl⟩ | ⟨_, _, _, _, e, _⟩ | ⟨j, o, c, B, e, _⟩
    · rfl
    · subst e; rcases e0 with e0 | ⟨_, _, e0⟩ <;> cases e0
    · subst e; rcases e0 with e0 | ⟨_, _, e0⟩ <;> cases e0
  · rcases H' with ⟨e | ⟨_, _, e⟩, _⟩ | ⟨_, _, _, _, _, _, rfl⟩ | ⟨j', o', c', B', e, _⟩
    · cases e
    · cases e
    · rfl
    · simp only [S.sl.injEq] at e
      exact (List.eq_nil_of_length_eq_zero e.2.2.1.symm).symm
  · rcases H' with ⟨e | ⟨_, _, e⟩, _⟩ | ⟨_, _, _, _, e, _, rfl⟩ | ⟨j', o', c', B', e, e3, _, _, e4⟩
    · cases e
    · cases e
    · simp only [S.sl.injEq] at e
      exact List.eq_nil_of_length_eq_zero e.2.2.1
    · simp only [S.sl.injEq, R.g.injEq] at e
      obtain ⟨rfl, rfl, e5, rfl⟩ := e
      rw [e1, Option.some.injEq] at e3
      subst e3
      rw [← e5, e2] at e4
      exact wc_inj e4
theorem IsList.sl {h : List Blk} {s : S} {vs : List Int} (H : IsList h s vs) : IsSl h.length s vs.length := by
  rcases H with ⟨e0 | ⟨a, c', e0⟩, rfl⟩ | ⟨j, o, c, B, rfl, e1, rfl⟩ | ⟨j, o, c, B, rfl, e1, _, _, e2⟩
  · exact .inl ⟨e0, rfl⟩
  · exact .inr (.inl ⟨a, c', e0, rfl⟩)
  · exact .inr (.inr ⟨j, o, c, rfl, (List.getElem?_eq_some_iff.1 e1).1⟩)
  · exact .inr (.inr ⟨j, o, c, rfl, (List.getElem?_eq_some_iff.1 e1).1⟩)
theorem IsList.shows {h : List Blk} {s : S} {vs : List Int} (H : IsList h s vs) (ls : List Blk) : shows ls h 1 s = some (vs.length, wc vs) := by
  rcases H with ⟨rfl | ⟨a, c', rfl⟩, rfl⟩ | ⟨j, o, c, B, rfl, e1, rfl⟩ | ⟨j, o, c, B, rfl, e1, hd, hl, e2⟩
  · rfl
  · rfl
  · simp only [D.shows, blk, e1]
    split
    · simp [wc]
    · simp [sub, wc]
  · simp only [D.shows, blk, e1, Nat.mul_one]
    rw [if_neg (by rintro (x | x); exact hd x; omega), e2]
/-- Where there is a word the slice is a block's. -/
theorem IsList.at {h : List Blk} {s : S} {vs : List Int} (H : IsList h s vs) {i : Nat} (hi : i < vs.length) : ∃ j o c B, s = .sl (.g j) o vs.length c ∧ h[j]? = some B ∧ B.st ≠ .dead ∧ o + vs.length ≤ B.cells.length ∧ sub B.cells o vs.length = wc vs := by
  rcases H with ⟨_, rfl⟩ | ⟨_, _, _, _, _, _, rfl⟩ | h
  · simp at hi
  · simp at hi
  · exact h
open Classical in
noncomputable def listOf (h : List Blk) (s : S) : Option (List Int) := if hx : ∃ v, IsList h s v then some (Classical.choose hx) else none
theorem listOf_eq {h : List Blk} {s : S} {v : List Int} (H : IsList h s v) : listOf h s = some v := by
  have hx : ∃ v, IsList h s v := ⟨v, H⟩
  unfold listOf
  rw [dif_pos hx, IsList.uniq (Classical.choose_spec hx) H]
theorem listOf_some {h : List Blk} {s : S} {v : List Int} (e : listOf h s = some v) : IsList h s v := by
  unfold listOf at e
  split at e
  · rename_i hx
    have := Classical.choose_spec hx
    rw [Option.some.injEq] at e
    rw [e] at this
    exact this
  · cases e
theorem IsList.get {o n : Nat} {cells : List S} {vs : List Int} (e : sub cells o n = wc vs) {i : Nat} (h : i < vs.length) (hn : vs.length = n) : cells[o + i]? = some (.i .u64 (nth 0 vs i)) := by
  have h1 := congrArg (fun l => l[i]?) e
  simp only [sub, wc_get h] at h1
  rw [List.getElem?_take, if_pos (by omega), List.getElem?_drop] at h1
  exact h1
/-- A whole block. -/
theorem IsList.whole {h : List Blk} {j c room : Nat} {st : BK} {vs : List Int} (hj : h[j]? = some ⟨st, wc vs, room⟩) (hs : st ≠ .dead) : IsList h (.sl (.g j) 0 vs.length c) vs := by
  refine .inr (.inr ⟨j, 0, c, _, rfl, hj, hs, ?_, ?_⟩)
  · simp [wc_len]
  · rw [wc_sub, List.drop_zero, List.take_length]
theorem IsList.app {h X : List Blk} {s : S} {v : List Int} (H : IsList h s v) : IsList (h ++ X) s v := by
  rcases H with ⟨e0, rfl⟩ | ⟨j, o, c, B, rfl, e1, e2⟩ | ⟨j, o, c, B, rfl, e1, e2⟩
  · exact .inl ⟨e0, rfl⟩
  · exact .inr (.inl ⟨j, o, c, B, rfl, by rw [List.getElem?_append_left (List.getElem?_eq_some_iff.1 e1).1]; exact e1, e2⟩)
  · exact .inr (.inr ⟨j, o, c, B, rfl, by rw [List.getElem?_append_left (List.getElem?_eq_some_iff.1 e1).1]; exact e1, e2⟩)

theorem wc_val (n k : Nat) (w : List Int) : (wc w).all (S.val n k) = true := wc_all (fun _ => rfl) w
noncomputable def cloneG : List V → List Blk → Res
  | [.s .ns], h => .ok (.s .ns) [] h
  | [.s (.sl r o n c)], h => match listOf h (.sl r o n c) with
    | some vs => .ob (vs.length ≤ 8796093022208) (.all vs.length fun c => .ok (.s (.sl (.g h.length) 0 vs.length c)) [] (h ++ [⟨.rw, wc vs, c⟩]))
    | none => .bad
  | _, _ => .bad
theorem clone_snd : Snd Try.prog 61 (FSpec.of cloneG) := snd_run (noT_snd _) mixed Try.func61 dc61 100 fun args h K hc hS => by
  unfold cloneG at hS
  split at hS
  · simp only [spec_ok] at hS
    simp (config := { maxSteps := 10000000 }) only [EV1, EV2, EV3, EV4, EV5, EV6, addT, istep, lenR_sl, lenR_ns, lenR_es, pickR, putD, bin1R, un1R, slcR, bnd, capsOf, fillP, S_plain, V_plain, V.cells, S_known, V_known, C.v, blk, setL, setH, eqS, eq1, cmpS, cmp1, isNil, popTo, killT, setT, leT, V.below, C.below, S_below, R.below, V.val, C.val, S_val, R.val, R.takes, vals, shows, List.any_cons, List.any_nil, unnamed, V.kill, V.names, C.names, S_names, R.names, List.set, List.replicate, ↓q_cond_t, ↓q_cond_f, if_true, if_false, reduceCtorEq, rvals, rvC, result, C_known, V.noL, C.noL, S_noL, R.noL, Option.map, true_and, and_true, ge_iff_le, gt_iff_lt, implies_true, q_ite_t, q_ite_f, beq_iff_eq, bne_iff_ne, q_ne, Nat.reduceAdd, Nat.reducePow, Int.reducePow, Nat.reduceMul, Nat.reduceSub, Nat.reduceLeDiff, Nat.reduceLT, Nat.reduceEqDiff, Int.reduceNeg, Int.reduceLT, Int.reduceLE, Int.reduceEq, Int.reduceNe, Int.reduceAdd, Int.reduceSub, Int.reduceMul, Int.reduceToNat, Int.reduceBEq, Int.reduceBNe, df61]
    exact hS
  · rename_i r o n c
    split at hS
    · rename_i vs hv
      obtain ⟨hl, hS⟩ := hS
      rcases listOf_some hv with ⟨e | ⟨_, _, e⟩, _⟩ | ⟨j, o', c', B, e, hj, rfl⟩ | ⟨j, o', c', B, e, hj, hd, hle, hs⟩
      · cases e
      · cases e
      · simp only [S.sl.injEq] at e
        obtain ⟨rfl, rfl, rfl, rfl⟩ := e
        simp only [spec_all, spec_ok] at hS
        simp (config := { maxSteps := 10000000 }) only [EV1, EV2, EV3, EV4, EV5, EV6, addT, istep, lenR_sl, lenR_ns, lenR_es, pickR, putD, bin1R, un1R, slcR, bnd, capsOf, fillP, S_plain, V_plain, V.cells, S_known, V_known, C.v, blk, setL, setH, eqS, eq1, cmpS, cmp1, isNil, popTo, killT, setT, leT, V.below, C.below, S_below, R.below, V.val, C.val, S_val, R.val, R.takes, vals, shows, List.any_cons, List.any_nil, unnamed, V.kill, V.names, C.names, S_names, R.names, List.set, List.replicate, ↓q_cond_t, ↓q_cond_f, if_true, if_false, reduceCtorEq, rvals, rvC, result, C_known, V.noL, C.noL, S_noL, R.noL, Option.map, true_and, and_true, ge_iff_le, gt_iff_lt, implies_true, q_ite_t, q_ite_f, beq_iff_eq, bne_iff_ne, q_ne, Nat.reduceAdd, Nat.reducePow, Int.reducePow, Nat.reduceMul, Nat.reduceSub, Nat.reduceLeDiff, Nat.reduceLT, Nat.reduceEqDiff, Int.reduceNeg, Int.reduceLT, Int.reduceLE, Int.reduceEq, Int.reduceNe, Int.reduceAdd, Int.reduceSub, Int.reduceMul, Int.reduceToNat, Int.reduceBEq, Int.reduceBNe, df61, fillP, hj, sub, List.take_zero, ite_self]
        intro c hc1
        refine ⟨[0], by simp, rfl, ?_⟩
        simp only [getAll, List.getElem?_cons_zero]
        refine ⟨rfl, ?_⟩
        have := hS c hc1
        refine cast (congrArg (K _) ?_) this
        simp [Blk.ren, wc]
      · simp only [S.sl.injEq] at e
        obtain ⟨rfl, rfl, rfl, rfl⟩ := e
        have c1 : ¬ (B.st = .dead ∨ B.cells.length < o + vs.length) := by rintro (x | x); exact hd x; omega
        have c2 : vs.length * 8 ≤ 140737488355328 := by omega
        have c3 : vals h.length 1 (wc vs) = true := wc_vals _ _ _
        have c4 : (wc vs).all (fun s => !S.names 0 s) = true := wc_names 0 vs
        have c5 : ¬ B.cells.length < o + vs.length := by omega
        simp only [spec_all, spec_ok] at hS
        simp (config := { maxSteps := 10000000 }) only [EV1, EV2, EV3, EV4, EV5, EV6, addT, istep, lenR_sl, lenR_ns, lenR_es, pickR, putD, bin1R, un1R, slcR, bnd, capsOf, fillP, S_plain, V_plain, V.cells, S_known, V_known, C.v, blk, setL, setH, eqS, eq1, cmpS, cmp1, isNil, popTo, killT, setT, leT, V.below, C.below, S_below, R.below, V.val, C.val, S_val, R.val, R.takes, vals, shows, List.any_cons, List.any_nil, unnamed, V.kill, V.names, C.names, S_names, R.names, List.set, List.replicate, ↓q_cond_t, ↓q_cond_f, if_true, if_false, reduceCtorEq, rvals, rvC, result, C_known, V.noL, C.noL, S_noL, R.noL, Option.map, true_and, and_true, ge_iff_le, gt_iff_lt, implies_true, q_ite_t, q_ite_f, beq_iff_eq, bne_iff_ne, q_ne, Nat.reduceAdd, Nat.reducePow, Int.reducePow, Nat.reduceMul, Nat.reduceSub, Nat.reduceLeDiff, Nat.reduceLT, Nat.reduceEqDiff, Int.reduceNeg, Int.reduceLT, Int.reduceLE, Int.reduceEq, Int.reduceNe, Int.reduceAdd, Int.reduceSub, Int.reduceMul, Int.reduceToNat, Int.reduceBEq, Int.reduceBNe, df61, fillP, hj, hd, c1, c5, hs, wc_known, c2, wc_val, wc_all]
        intro c hc1
        refine ⟨[0], by simp, rfl, ?_⟩
        simp only [getAll, List.getElem?_cons_zero]
        refine ⟨?_, ?_⟩
        · simp [wc_kept]
        · have := hS c hc1
          refine cast (congrArg (K _) ?_) this
          simp [Blk.ren, wc_ren]
    · exact hS.elim
  · exact hS.elim

noncomputable def dumpM (b : Nat) (m : M) (st : M → List Blk) : List V → Res
  | [.s (.i .i64 x), .s (.i .i64 k)] => .br (m.has x k) (.all k.toNat fun c => .ok (.tup [.s (.sl (.g (st m).length) 0 k.toNat c), .s (.i .i64 0)]) [] (st m ++ [⟨.rw, wc ((m.w.drop x.toNat).take k.toNat), c⟩]))
      (.ok (.tup [.s .ns, .s (.i .i64 20)]) [] (st m))
  | _ => .bad
noncomputable def dumpG := memF dumpM
noncomputable def TDu : Tab := addT 60 spanG (addT 61 cloneG noT)
theorem TDu_snd : TDu.Snd Try.prog := addT_snd ok60 span_snd (addT_snd ok61 clone_snd (noT_snd _))
theorem mdump_snd : Snd Try.prog 26 (FSpec.of dumpG) := snd_run TDu_snd mixed Try.func26 dc26 100 fun args h K hc hS => by
  obtain ⟨a, b, m, rest, rfl, H, hS1⟩ := memF_spec hS
  clear hS
  have hS := hS1
  clear hS1
  unfold dumpM at hS
  split at hS
  · rename_i x k
    simp only [spec_ok, spec_br, spec_all, setM_self H] at hS
    have hl := m.l
    cases hh : m.has x k with
    | true =>
      have hS := hS.1 hh
      obtain ⟨i, j, rfl, rfl, hij⟩ := M.has_nat hh
      simp only [Int.toNat_natCast] at hS
      have hvl : ((m.w.drop i).take j).length = j := by simp; omega
      have hL : IsList h (.sl (.g b) (if m.w.length = i then 0 else i) j (m.w.length - i)) ((m.w.drop i).take j) := by
        refine .inr (.inr ⟨b, _, _, MW m, by rw [hvl], H.hb, fun x => BK.noConfusion x, ?_, ?_⟩)
        · rw [hvl]; simp only [MW, wc_len]; split <;> omega
        · rw [hvl]; simp only [MW]; rw [wc_sub]
          split
          · have : j = 0 := by omega
            subst this; simp
          · rfl
      have hB : j ≤ 8796093022208 := by omega
      simp (config := { maxSteps := 10000000 }) only [EV1, EV2, EV3, EV4, EV5, EV6, addT, istep, lenR_sl, lenR_ns, lenR_es, pickR, putD, bin1R, un1R, slcR, bnd, capsOf, fillP, S_plain, V_plain, V.cells, S_known, V_known, C.v, blk, setL, setH, eqS, eq1, cmpS, cmp1, isNil, popTo, killT, setT, leT, V.below, C.below, S_below, R.below, V.val, C.val, S_val, R.val, R.takes, vals, shows, List.any_cons, List.any_nil, unnamed, V.kill, V.names, C.names, S_names, R.names, List.set, List.replicate, ↓q_cond_t, ↓q_cond_f, if_true, if_false, reduceCtorEq, rvals, rvC, result, C_known, V.noL, C.noL, S_noL, R.noL, Option.map, true_and, and_true, ge_iff_le, gt_iff_lt, implies_true, q_ite_t, q_ite_f, beq_iff_eq, bne_iff_ne, q_ne, Nat.reduceAdd, Nat.reducePow, Int.reducePow, Nat.reduceMul, Nat.reduceSub, Nat.reduceLeDiff, Nat.reduceLT, Nat.reduceEqDiff, Int.reduceNeg, Int.reduceLT, Int.reduceLE, Int.reduceEq, Int.reduceNe, Int.reduceAdd, Int.reduceSub, Int.reduceMul, Int.reduceToNat, Int.reduceBEq, Int.reduceBNe, df26, TDu, spanG, memF_eq H, spanM, setM_self H, hh, cloneG, listOf_eq hL, hvl, hB, Int.toNat_natCast]
      exact hS
    | false =>
      have hS := hS.2 hh
      simp (config := { maxSteps := 10000000 }) only [EV1, EV2, EV3, EV4, EV5, EV6, addT, istep, lenR_sl, lenR_ns, lenR_es, pickR, putD, bin1R, un1R, slcR, bnd, capsOf, fillP, S_plain, V_plain, V.cells, S_known, V_known, C.v, blk, setL, setH, eqS, eq1, cmpS, cmp1, isNil, popTo, killT, setT, leT, V.below, C.below, S_below, R.below, V.val, C.val, S_val, R.val, R.takes, vals, shows, List.any_cons, List.any_nil, unnamed, V.kill, V.names, C.names, S_names, R.names, List.set, List.replicate, ↓q_cond_t, ↓q_cond_f, if_true, if_false, reduceCtorEq, rvals, rvC, result, C_known, V.noL, C.noL, S_noL, R.noL, Option.map, true_and, and_true, ge_iff_le, gt_iff_lt, implies_true, q_ite_t, q_ite_f, beq_iff_eq, bne_iff_ne, q_ne, Nat.reduceAdd, Nat.reducePow, Int.reducePow, Nat.reduceMul, Nat.reduceSub, Nat.reduceLeDiff, Nat.reduceLT, Nat.reduceEqDiff, Int.reduceNeg, Int.reduceLT, Int.reduceLE, Int.reduceEq, Int.reduceNe, Int.reduceAdd, Int.reduceSub, Int.reduceMul, Int.reduceToNat, Int.reduceBEq, Int.reduceBNe, df26, TDu, spanG, memF_eq H, spanM, setM_self H, hh]
      exact hS
  · exact hS.elim

/-- The slice is none of the memory's words. -/
def apartS (b : Nat) : S → Prop
  | .sl (.g j) _ _ _ => j ≠ b
  | _ => True
noncomputable def loadG : List V → List Blk → Res
  | [.s (.p (.g a) 0), .s (.i .i64 x), .s s], h => match memOf h a, listOf h s with
    | some (b, m), some vs => .ob (apartS b s ∧ ∀ v, v ∈ vs → u64 v) (.br (m.has x vs.length) (.ok (.s (.i .i64 0)) [] (setM h a b (m.lay x.toNat vs))) (.ok (.s (.i .i64 20)) [] h))
    | _, _ => .bad
  | _, _ => .bad
theorem loadG_spec {args : List V} {h : List Blk} {K : V → List Blk → Prop} (hS : (loadG args h).spec K) : ∃ a x s b m vs, args = [.s (.p (.g a) 0), .s (.i .i64 x), .s s] ∧ IsMem h a b m ∧ IsList h s vs ∧ apartS b s ∧ (∀ v, v ∈ vs → u64 v) ∧
    (m.has x vs.length = true → K (.s (.i .i64 0)) (setM h a b (m.lay x.toNat vs))) ∧ (m.has x vs.length = false → K (.s (.i .i64 20)) h) := by
  unfold loadG at hS
  split at hS
  · split at hS
    · rename_i e1 e2
      exact ⟨_, _, _, _, _, _, rfl, memOf_some e1, listOf_some e2, hS.1.1, hS.1.2, hS.2.1, hS.2.2⟩
    · exact hS.elim
  · exact hS.elim
theorem put_none {xs : List S} {o : Nat} : put xs o [] = xs := rfl
theorem mload_snd : Snd Try.prog 54 (FSpec.of loadG) := snd_run TSp_snd mixed Try.func54 dc54 100 fun args h K hc hS => by
  obtain ⟨a, x, s, b, m, vs, rfl, H, HL, hap, hu, q1, q2⟩ := loadG_spec hS
  clear hS
  have hl := m.l
  have hlen := fun ls h' => HL.sl.len (ls := ls) (h := h')
  have hsh := fun ls => HL.shows ls
  cases hh : m.has x vs.length with
  | true =>
    have hS := q1 hh
    obtain ⟨i, n, rfl, e, hij⟩ := M.has_nat hh
    have e : vs.length = n := by omega
    simp only [Int.toNat_natCast] at hS
    have hcl : (wc m.w).length = m.w.length := wc_len _
    obtain ⟨o', ho, hoi⟩ : ∃ o' : Nat, (if m.w.length = i then 0 else i) = o' ∧ (i < m.w.length → o' = i) := ⟨_, rfl, fun hlt => if_neg (by omega)⟩
    have c2 : o' + vs.length ≤ m.w.length := by rw [← ho]; split <;> omega
    have hsub : sub (wc vs) 0 vs.length = wc vs := by rw [wc_sub, List.drop_zero, List.take_length]
    have hmin : min vs.length vs.length = vs.length := Nat.min_self _
    have hlay : D.put (wc m.w) o' (wc vs) = wc (m.lay i vs).w := by
      rcases Nat.eq_zero_or_pos vs.length with h0 | h0
      · have : vs = [] := List.eq_nil_of_length_eq_zero h0
        subst this; rfl
      · rw [hoi (by omega)]; exact M.lay_w vs m i hu
    have hset := setM_words H (M.lay_len vs m i) (M.lay_n vs m i)
    rw [← hset] at hS
    simp only [MW, M.lay_len] at hS
    have ht : (wc vs).all (R.takes (R.g b) h.length 0) = true := wc_takes _ _ _ _
    simp (config := { maxSteps := 10000000 }) only [EV1, EV2, EV3, EV4, EV5, EV6, addT, istep, lenR_sl, lenR_ns, lenR_es, pickR, putD, bin1R, un1R, slcR, bnd, capsOf, fillP, S_plain, V_plain, V.cells, S_known, V_known, C.v, blk, setL, setH, eqS, eq1, cmpS, cmp1, isNil, popTo, killT, setT, leT, V.below, C.below, S_below, R.below, V.val, C.val, S_val, R.val, R.takes, vals, shows, List.any_cons, List.any_nil, unnamed, V.kill, V.names, C.names, S_names, R.names, List.set, List.replicate, ↓q_cond_t, ↓q_cond_f, if_true, if_false, reduceCtorEq, rvals, rvC, result, C_known, V.noL, C.noL, S_noL, R.noL, Option.map, true_and, and_true, ge_iff_le, gt_iff_lt, implies_true, q_ite_t, q_ite_f, beq_iff_eq, bne_iff_ne, q_ne, Nat.reduceAdd, Nat.reducePow, Int.reducePow, Nat.reduceMul, Nat.reduceSub, Nat.reduceLeDiff, Nat.reduceLT, Nat.reduceEqDiff, Int.reduceNeg, Int.reduceLT, Int.reduceLE, Int.reduceEq, Int.reduceNe, Int.reduceAdd, Int.reduceSub, Int.reduceMul, Int.reduceToNat, Int.reduceBEq, Int.reduceBNe, df54, ↓hlen, ↓hsh, TSp, spanG, memF_eq H, spanM, setM_self H, hh, H.hb, MW, hcl, ho, c2, hsub, hmin, hlay, wc_known, wc_takes, wc_all, Int.toNat_natCast]
    exact hS
  | false =>
    have hS := q2 hh
    simp (config := { maxSteps := 10000000 }) only [EV1, EV2, EV3, EV4, EV5, EV6, addT, istep, lenR_sl, lenR_ns, lenR_es, pickR, putD, bin1R, un1R, slcR, bnd, capsOf, fillP, S_plain, V_plain, V.cells, S_known, V_known, C.v, blk, setL, setH, eqS, eq1, cmpS, cmp1, isNil, popTo, killT, setT, leT, V.below, C.below, S_below, R.below, V.val, C.val, S_val, R.val, R.takes, vals, shows, List.any_cons, List.any_nil, unnamed, V.kill, V.names, C.names, S_names, R.names, List.set, List.replicate, ↓q_cond_t, ↓q_cond_f, if_true, if_false, reduceCtorEq, rvals, rvC, result, C_known, V.noL, C.noL, S_noL, R.noL, Option.map, true_and, and_true, ge_iff_le, gt_iff_lt, implies_true, q_ite_t, q_ite_f, beq_iff_eq, bne_iff_ne, q_ne, Nat.reduceAdd, Nat.reducePow, Int.reducePow, Nat.reduceMul, Nat.reduceSub, Nat.reduceLeDiff, Nat.reduceLT, Nat.reduceEqDiff, Int.reduceNeg, Int.reduceLT, Int.reduceLE, Int.reduceEq, Int.reduceNe, Int.reduceAdd, Int.reduceSub, Int.reduceMul, Int.reduceToNat, Int.reduceBEq, Int.reduceBNe, df54, ↓hlen, TSp, spanG, memF_eq H, spanM, setM_self H, hh]
    exact hS
end Go.Proofs.Ytdlloccodmdnnaa

/- Lists of words: the document's Load, Same. -/
namespace Go.Proofs.Ytdlloccodmdnnaa
open Go.D
set_option linter.all false
set_option maxRecDepth 100000
set_option maxHeartbeats 4000000

theorem take_snoc {vs : List Int} {q : Nat} (h : q < vs.length) : vs.take (q + 1) = vs.take q ++ [nth 0 vs q] := by
  rw [List.take_succ_eq_append_getElem h, nth_eq h]
theorem rload_snd : Snd Try.prog 68 (FSpec.of loadG) := snd_run TSp_snd mixed Try.func68 dc68 100 fun args h K hc hS => by
  obtain ⟨a, x, s, b, m, vs, rfl, H, HL, hap, hu, q1, q2⟩ := loadG_spec hS
  clear hS
  have hl := m.l
  have hlen := fun ls h' => HL.sl.len (ls := ls) (h := h')
  cases hh : m.has x vs.length with
  | true =>
    have hS := q1 hh
    obtain ⟨i, n, rfl, e, hij⟩ := M.has_nat hh
    have e : vs.length = n := by omega
    simp only [Int.toNat_natCast] at hS
    simp (config := { maxSteps := 10000000 }) only [EV1, EV2, EV3, EV4, EV5, EV6, addT, istep, lenR_sl, lenR_ns, lenR_es, pickR, putD, bin1R, un1R, slcR, bnd, capsOf, fillP, S_plain, V_plain, V.cells, S_known, V_known, C.v, blk, setL, setH, eqS, eq1, cmpS, cmp1, isNil, popTo, killT, setT, leT, V.below, C.below, S_below, R.below, V.val, C.val, S_val, R.val, R.takes, vals, shows, List.any_cons, List.any_nil, unnamed, V.kill, V.names, C.names, S_names, R.names, List.set, List.replicate, ↓q_cond_t, ↓q_cond_f, if_true, if_false, reduceCtorEq, rvals, rvC, result, C_known, V.noL, C.noL, S_noL, R.noL, Option.map, true_and, and_true, ge_iff_le, gt_iff_lt, implies_true, q_ite_t, q_ite_f, beq_iff_eq, bne_iff_ne, q_ne, Nat.reduceAdd, Nat.reducePow, Int.reducePow, Nat.reduceMul, Nat.reduceSub, Nat.reduceLeDiff, Nat.reduceLT, Nat.reduceEqDiff, Int.reduceNeg, Int.reduceLT, Int.reduceLE, Int.reduceEq, Int.reduceNe, Int.reduceAdd, Int.reduceSub, Int.reduceMul, Int.reduceToNat, Int.reduceBEq, Int.reduceBNe, df68, ↓hlen, TSp, thereG, memF_eq H, thereM, setM_self H, hh]
    refine loop_rule (α := Nat) [8, 16, 17, 18, 19, 20, 21, 22, 23, 24, 25, 26, 27, 28, 29, 30, 31, 32, 33] (fun q => [(8, .s (.i .i64 q))]) (fun _ => []) (fun q => h.set b ⟨.rw, wc (m.lay i (vs.take q)).w, m.w.length⟩) (fun q => q ≤ vs.length) (fun q => vs.length - q) 0 (by omega) ?_ ?_
    · simp only [List.take_zero, M.lay]
      rw [show (⟨.rw, wc m.w, m.w.length⟩ : Blk) = MW m from rfl, set_self H.hb]
      refine Wk.less ?_
      simp (config := { maxSteps := 10000000 }) only [EV1, EV2, EV3, EV4, EV5, EV6, addT, istep, lenR_sl, lenR_ns, lenR_es, pickR, putD, bin1R, un1R, slcR, bnd, capsOf, fillP, S_plain, V_plain, V.cells, S_known, V_known, C.v, blk, setL, setH, eqS, eq1, cmpS, cmp1, isNil, popTo, killT, setT, leT, V.below, C.below, S_below, R.below, V.val, C.val, S_val, R.val, R.takes, vals, shows, List.any_cons, List.any_nil, unnamed, V.kill, V.names, C.names, S_names, R.names, List.set, List.replicate, ↓q_cond_t, ↓q_cond_f, if_true, if_false, reduceCtorEq, rvals, rvC, result, C_known, V.noL, C.noL, S_noL, R.noL, Option.map, true_and, and_true, ge_iff_le, gt_iff_lt, implies_true, q_ite_t, q_ite_f, beq_iff_eq, bne_iff_ne, q_ne, Nat.reduceAdd, Nat.reducePow, Int.reducePow, Nat.reduceMul, Nat.reduceSub, Nat.reduceLeDiff, Nat.reduceLT, Nat.reduceEqDiff, Int.reduceNeg, Int.reduceLT, Int.reduceLE, Int.reduceEq, Int.reduceNe, Int.reduceAdd, Int.reduceSub, Int.reduceMul, Int.reduceToNat, Int.reduceBEq, Int.reduceBNe, q_cast, Int.natCast_zero]
    · intro X q hq IH
      rcases Nat.lt_or_ge q vs.length with h1 | h1
      · obtain ⟨j, o, c, B, rfl, hj, hd, hle, hs⟩ := HL.at h1
        have hap : j ≠ b := hap
        obtain ⟨d1, d2, d3, d4⟩ := idx h1 (by omega)
        have c3 : (h.set b ⟨BK.rw, wc (m.lay i (vs.take q)).w, m.w.length⟩)[b]? = some ⟨BK.rw, wc (m.lay i (vs.take q)).w, m.w.length⟩ := set_hit H.hb
        have c4 : i + q + 1 ≤ (wc (m.lay i (vs.take q)).w).length := by rw [wc_len, M.lay_len]; omega
        have g := IsList.get hs h1 rfl
        have hv : u64 (nth 0 vs q) := hu _ (nth_mem h1)
        have c5 : ((wc (m.lay i (vs.take q)).w).set (i + q) (S.i .u64 (nth 0 vs q))) = wc (m.lay i (vs.take (q + 1))).w := by
          rw [wc_set, take_snoc h1, M.lay_snoc, show (vs.take q).length = q by simp; omega]; simp only [M.put, uw_of hv]
        have hjm : (h.set b ⟨BK.rw, wc (m.lay i (vs.take q)).w, m.w.length⟩)[j]? = some B := by rw [set_miss (Ne.symm hap)]; exact hj
        have ha := H.ha'
        have w1 : IntKind.i64.wrap ((i : Int) + q) = ((i + q : Nat) : Int) := by rw [wrap64] <;> omega
        have d5 : ((i + q : Nat) : Int) < m.w.length := by omega
        have d6 : (0 : Int) ≤ ((i + q : Nat) : Int) := by omega
        refine run_sound (Tab.ok_Γ _) 100 _ _ _ _ ?_
        simp (config := { maxSteps := 10000000 }) only [EV1, EV2, EV3, EV4, EV5, EV6, addT, istep, lenR_sl, lenR_ns, lenR_es, pickR, putD, bin1R, un1R, slcR, bnd, capsOf, fillP, S_plain, V_plain, V.cells, S_known, V_known, C.v, blk, setL, setH, eqS, eq1, cmpS, cmp1, isNil, popTo, killT, setT, leT, V.below, C.below, S_below, R.below, V.val, C.val, S_val, R.val, R.takes, vals, shows, List.any_cons, List.any_nil, unnamed, V.kill, V.names, C.names, S_names, R.names, List.set, List.replicate, ↓q_cond_t, ↓q_cond_f, if_true, if_false, reduceCtorEq, rvals, rvC, result, C_known, V.noL, C.noL, S_noL, R.noL, Option.map, true_and, and_true, ge_iff_le, gt_iff_lt, implies_true, q_ite_t, q_ite_f, beq_iff_eq, bne_iff_ne, q_ne, Nat.reduceAdd, Nat.reducePow, Int.reducePow, Nat.reduceMul, Nat.reduceSub, Nat.reduceLeDiff, Nat.reduceLT, Nat.reduceEqDiff, Int.reduceNeg, Int.reduceLT, Int.reduceLE, Int.reduceEq, Int.reduceNe, Int.reduceAdd, Int.reduceSub, Int.reduceMul, Int.reduceToNat, Int.reduceBEq, Int.reduceBNe, d1, d2, d3, d4, d5, d6, w1, c3, ha, MB, hjm, hd, g, c4, Int.toNat_natCast, put, c5, List.set_set]
        exact IH (q + 1) _ (by omega) (by omega) (Wk.same rfl rfl (by simp (config := { maxSteps := 10000000 }) only [EV1, EV2, EV3, EV4, EV5, EV6, addT, istep, lenR_sl, lenR_ns, lenR_es, pickR, putD, bin1R, un1R, slcR, bnd, capsOf, fillP, S_plain, V_plain, V.cells, S_known, V_known, C.v, blk, setL, setH, eqS, eq1, cmpS, cmp1, isNil, popTo, killT, setT, leT, V.below, C.below, S_below, R.below, V.val, C.val, S_val, R.val, R.takes, vals, shows, List.any_cons, List.any_nil, unnamed, V.kill, V.names, C.names, S_names, R.names, List.set, List.replicate, ↓q_cond_t, ↓q_cond_f, if_true, if_false, reduceCtorEq, rvals, rvC, result, C_known, V.noL, C.noL, S_noL, R.noL, Option.map, true_and, and_true, ge_iff_le, gt_iff_lt, implies_true, q_ite_t, q_ite_f, beq_iff_eq, bne_iff_ne, q_ne, Nat.reduceAdd, Nat.reducePow, Int.reducePow, Nat.reduceMul, Nat.reduceSub, Nat.reduceLeDiff, Nat.reduceLT, Nat.reduceEqDiff, Int.reduceNeg, Int.reduceLT, Int.reduceLE, Int.reduceEq, Int.reduceNe, Int.reduceAdd, Int.reduceSub, Int.reduceMul, Int.reduceToNat, Int.reduceBEq, Int.reduceBNe]))
      · have : q = vs.length := by omega
        subst this
        refine run_sound (Tab.ok_Γ _) 100 _ _ _ _ ?_
        simp (config := { maxSteps := 10000000 }) only [EV1, EV2, EV3, EV4, EV5, EV6, addT, istep, lenR_sl, lenR_ns, lenR_es, pickR, putD, bin1R, un1R, slcR, bnd, capsOf, fillP, S_plain, V_plain, V.cells, S_known, V_known, C.v, blk, setL, setH, eqS, eq1, cmpS, cmp1, isNil, popTo, killT, setT, leT, V.below, C.below, S_below, R.below, V.val, C.val, S_val, R.val, R.takes, vals, shows, List.any_cons, List.any_nil, unnamed, V.kill, V.names, C.names, S_names, R.names, List.set, List.replicate, ↓q_cond_t, ↓q_cond_f, if_true, if_false, reduceCtorEq, rvals, rvC, result, C_known, V.noL, C.noL, S_noL, R.noL, Option.map, true_and, and_true, ge_iff_le, gt_iff_lt, implies_true, q_ite_t, q_ite_f, beq_iff_eq, bne_iff_ne, q_ne, Nat.reduceAdd, Nat.reducePow, Int.reducePow, Nat.reduceMul, Nat.reduceSub, Nat.reduceLeDiff, Nat.reduceLT, Nat.reduceEqDiff, Int.reduceNeg, Int.reduceLT, Int.reduceLE, Int.reduceEq, Int.reduceNe, Int.reduceAdd, Int.reduceSub, Int.reduceMul, Int.reduceToNat, Int.reduceBEq, Int.reduceBNe, ↓hlen, Int.lt_irrefl]
        refine cast (congrArg (K _) ?_) hS
        rw [List.take_length, ← setM_words H (M.lay_len vs m i) (M.lay_n vs m i)]
        simp only [MW, M.lay_len]
  | false =>
    have hS := q2 hh
    simp (config := { maxSteps := 10000000 }) only [EV1, EV2, EV3, EV4, EV5, EV6, addT, istep, lenR_sl, lenR_ns, lenR_es, pickR, putD, bin1R, un1R, slcR, bnd, capsOf, fillP, S_plain, V_plain, V.cells, S_known, V_known, C.v, blk, setL, setH, eqS, eq1, cmpS, cmp1, isNil, popTo, killT, setT, leT, V.below, C.below, S_below, R.below, V.val, C.val, S_val, R.val, R.takes, vals, shows, List.any_cons, List.any_nil, unnamed, V.kill, V.names, C.names, S_names, R.names, List.set, List.replicate, ↓q_cond_t, ↓q_cond_f, if_true, if_false, reduceCtorEq, rvals, rvC, result, C_known, V.noL, C.noL, S_noL, R.noL, Option.map, true_and, and_true, ge_iff_le, gt_iff_lt, implies_true, q_ite_t, q_ite_f, beq_iff_eq, bne_iff_ne, q_ne, Nat.reduceAdd, Nat.reducePow, Int.reducePow, Nat.reduceMul, Nat.reduceSub, Nat.reduceLeDiff, Nat.reduceLT, Nat.reduceEqDiff, Int.reduceNeg, Int.reduceLT, Int.reduceLE, Int.reduceEq, Int.reduceNe, Int.reduceAdd, Int.reduceSub, Int.reduceMul, Int.reduceToNat, Int.reduceBEq, Int.reduceBNe, df68, ↓hlen, TSp, thereG, memF_eq H, thereM, setM_self H, hh]
    exact hS

noncomputable def sameWG : List V → List Blk → Res
  | [.s x, .s y], h => match listOf h x, listOf h y with
    | some v, some w => .ob (v.length ≤ 8796093022208 ∧ w.length ≤ 8796093022208) (.ok (.s (.b (decide (v = w)))) [] h)
    | _, _ => .bad
  | _, _ => .bad
theorem sameWG_spec {args : List V} {h : List Blk} {K : V → List Blk → Prop} (hS : (sameWG args h).spec K) : ∃ x y v w, args = [.s x, .s y] ∧ IsList h x v ∧ IsList h y w ∧ v.length ≤ 8796093022208 ∧ w.length ≤ 8796093022208 ∧ K (.s (.b (decide (v = w)))) h := by
  unfold sameWG at hS
  split at hS
  · split at hS
    · rename_i e1 e2
      exact ⟨_, _, _, _, rfl, listOf_some e1, listOf_some e2, hS.1.1, hS.1.2, hS.2⟩
    · exact hS.elim
  · exact hS.elim
theorem nil_of {v : List Int} (h : v.length = 0) : v = [] := List.eq_nil_of_length_eq_zero h
theorem take_ne {v w : List Int} {q : Nat} (h : q < v.length) (h' : q < w.length) (e : ¬ nth 0 v q = nth 0 w q) : v ≠ w := fun x => by subst x; exact e rfl
theorem eq_of_nth {v w : List Int} (hl : v.length = w.length) (h : ∀ i, i < v.length → nth 0 v i = nth 0 w i) : v = w :=
  List.ext_getElem hl fun i h1 h2 => by have := h i h1; rwa [nth_eq h1, nth_eq h2] at this
theorem sameW_snd : Snd Try.prog 27 (FSpec.of sameWG) := snd_run (noT_snd _) mixed Try.func27 dc27 100 fun args h K hc hS => by
  obtain ⟨x, y, v, w, rfl, Hx, Hy, lx, ly, hK⟩ := sameWG_spec hS
  clear hS
  have hlx := fun ls h' => Hx.sl.len (ls := ls) (h := h')
  have hly := fun ls h' => Hy.sl.len (ls := ls) (h := h')
  by_cases hn : v.length = w.length
  · have e2 : ((v.length : Int) != (w.length : Int)) = false := by rw [hn]; simp
    simp (config := { maxSteps := 10000000 }) only [EV1, EV2, EV3, EV4, EV5, EV6, addT, istep, lenR_sl, lenR_ns, lenR_es, pickR, putD, bin1R, un1R, slcR, bnd, capsOf, fillP, S_plain, V_plain, V.cells, S_known, V_known, C.v, blk, setL, setH, eqS, eq1, cmpS, cmp1, isNil, popTo, killT, setT, leT, V.below, C.below, S_below, R.below, V.val, C.val, S_val, R.val, R.takes, vals, shows, List.any_cons, List.any_nil, unnamed, V.kill, V.names, C.names, S_names, R.names, List.set, List.replicate, ↓q_cond_t, ↓q_cond_f, if_true, if_false, reduceCtorEq, rvals, rvC, result, C_known, V.noL, C.noL, S_noL, R.noL, Option.map, true_and, and_true, ge_iff_le, gt_iff_lt, implies_true, q_ite_t, q_ite_f, beq_iff_eq, bne_iff_ne, q_ne, Nat.reduceAdd, Nat.reducePow, Int.reducePow, Nat.reduceMul, Nat.reduceSub, Nat.reduceLeDiff, Nat.reduceLT, Nat.reduceEqDiff, Int.reduceNeg, Int.reduceLT, Int.reduceLE, Int.reduceEq, Int.reduceNe, Int.reduceAdd, Int.reduceSub, Int.reduceMul, Int.reduceToNat, Int.reduceBEq, Int.reduceBNe, df27, ↓hlx, ↓hly, e2]
    refine loop_rule (α := Nat) [4, 5, 11, 12, 13, 14, 15, 16, 17, 18, 19, 20, 21, 22, 23, 24, 25] (fun q => [(5, .s (.i .i64 q))]) (fun _ => []) (fun q => h) (fun q => q ≤ v.length ∧ ∀ i, i < q → nth 0 v i = nth 0 w i) (fun q => v.length - q) 0 ⟨by omega, fun i hi => by omega⟩ ?_ ?_
    · refine Wk.less ?_
      simp (config := { maxSteps := 10000000 }) only [EV1, EV2, EV3, EV4, EV5, EV6, addT, istep, lenR_sl, lenR_ns, lenR_es, pickR, putD, bin1R, un1R, slcR, bnd, capsOf, fillP, S_plain, V_plain, V.cells, S_known, V_known, C.v, blk, setL, setH, eqS, eq1, cmpS, cmp1, isNil, popTo, killT, setT, leT, V.below, C.below, S_below, R.below, V.val, C.val, S_val, R.val, R.takes, vals, shows, List.any_cons, List.any_nil, unnamed, V.kill, V.names, C.names, S_names, R.names, List.set, List.replicate, ↓q_cond_t, ↓q_cond_f, if_true, if_false, reduceCtorEq, rvals, rvC, result, C_known, V.noL, C.noL, S_noL, R.noL, Option.map, true_and, and_true, ge_iff_le, gt_iff_lt, implies_true, q_ite_t, q_ite_f, beq_iff_eq, bne_iff_ne, q_ne, Nat.reduceAdd, Nat.reducePow, Int.reducePow, Nat.reduceMul, Nat.reduceSub, Nat.reduceLeDiff, Nat.reduceLT, Nat.reduceEqDiff, Int.reduceNeg, Int.reduceLT, Int.reduceLE, Int.reduceEq, Int.reduceNe, Int.reduceAdd, Int.reduceSub, Int.reduceMul, Int.reduceToNat, Int.reduceBEq, Int.reduceBNe, q_cast, Int.natCast_zero]
    · rintro X q ⟨hq, hpre⟩ IH
      rcases Nat.lt_or_ge q v.length with h1 | h1
      · obtain ⟨j, o, c, B, rfl, hj, hd, hle, hs⟩ := Hx.at h1
        obtain ⟨j2, o2, c2, B2, rfl, hj2, hd2, hle2, hs2⟩ := Hy.at (i := q) (by omega)
        obtain ⟨d1, d2, d3, d4⟩ := idx h1 (by omega)
        have d5 : (q : Int) < w.length := by omega
        have g1 := IsList.get hs h1 rfl
        have g2 := IsList.get hs2 (i := q) (by omega) rfl
        by_cases hx : nth 0 v q = nth 0 w q
        · have f1 : (nth 0 v q != nth 0 w q) = false := by simpa using hx
          refine run_sound (Tab.ok_Γ _) 100 _ _ _ _ ?_
          simp (config := { maxSteps := 10000000 }) only [EV1, EV2, EV3, EV4, EV5, EV6, addT, istep, lenR_sl, lenR_ns, lenR_es, pickR, putD, bin1R, un1R, slcR, bnd, capsOf, fillP, S_plain, V_plain, V.cells, S_known, V_known, C.v, blk, setL, setH, eqS, eq1, cmpS, cmp1, isNil, popTo, killT, setT, leT, V.below, C.below, S_below, R.below, V.val, C.val, S_val, R.val, R.takes, vals, shows, List.any_cons, List.any_nil, unnamed, V.kill, V.names, C.names, S_names, R.names, List.set, List.replicate, ↓q_cond_t, ↓q_cond_f, if_true, if_false, reduceCtorEq, rvals, rvC, result, C_known, V.noL, C.noL, S_noL, R.noL, Option.map, true_and, and_true, ge_iff_le, gt_iff_lt, implies_true, q_ite_t, q_ite_f, beq_iff_eq, bne_iff_ne, q_ne, Nat.reduceAdd, Nat.reducePow, Int.reducePow, Nat.reduceMul, Nat.reduceSub, Nat.reduceLeDiff, Nat.reduceLT, Nat.reduceEqDiff, Int.reduceNeg, Int.reduceLT, Int.reduceLE, Int.reduceEq, Int.reduceNe, Int.reduceAdd, Int.reduceSub, Int.reduceMul, Int.reduceToNat, Int.reduceBEq, Int.reduceBNe, d1, d2, d3, d4, d5, g1, g2, hj, hj2, hd, hd2, f1, hx, Int.toNat_natCast]
          exact IH (q + 1) _ (by omega) ⟨by omega, fun i hi => by
            rcases Nat.lt_or_ge i q with h2 | h2
            · exact hpre i h2
            · have : i = q := by omega
              subst this; exact hx⟩ (Wk.same rfl rfl (by simp (config := { maxSteps := 10000000 }) only [EV1, EV2, EV3, EV4, EV5, EV6, addT, istep, lenR_sl, lenR_ns, lenR_es, pickR, putD, bin1R, un1R, slcR, bnd, capsOf, fillP, S_plain, V_plain, V.cells, S_known, V_known, C.v, blk, setL, setH, eqS, eq1, cmpS, cmp1, isNil, popTo, killT, setT, leT, V.below, C.below, S_below, R.below, V.val, C.val, S_val, R.val, R.takes, vals, shows, List.any_cons, List.any_nil, unnamed, V.kill, V.names, C.names, S_names, R.names, List.set, List.replicate, ↓q_cond_t, ↓q_cond_f, if_true, if_false, reduceCtorEq, rvals, rvC, result, C_known, V.noL, C.noL, S_noL, R.noL, Option.map, true_and, and_true, ge_iff_le, gt_iff_lt, implies_true, q_ite_t, q_ite_f, beq_iff_eq, bne_iff_ne, q_ne, Nat.reduceAdd, Nat.reducePow, Int.reducePow, Nat.reduceMul, Nat.reduceSub, Nat.reduceLeDiff, Nat.reduceLT, Nat.reduceEqDiff, Int.reduceNeg, Int.reduceLT, Int.reduceLE, Int.reduceEq, Int.reduceNe, Int.reduceAdd, Int.reduceSub, Int.reduceMul, Int.reduceToNat, Int.reduceBEq, Int.reduceBNe]))
        · have f1 : (nth 0 v q != nth 0 w q) = true := by simpa using hx
          have e1 := take_ne h1 (by omega) hx
          simp only [e1, decide_false] at hK
          refine run_sound (Tab.ok_Γ _) 100 _ _ _ _ ?_
          simp (config := { maxSteps := 10000000 }) only [EV1, EV2, EV3, EV4, EV5, EV6, addT, istep, lenR_sl, lenR_ns, lenR_es, pickR, putD, bin1R, un1R, slcR, bnd, capsOf, fillP, S_plain, V_plain, V.cells, S_known, V_known, C.v, blk, setL, setH, eqS, eq1, cmpS, cmp1, isNil, popTo, killT, setT, leT, V.below, C.below, S_below, R.below, V.val, C.val, S_val, R.val, R.takes, vals, shows, List.any_cons, List.any_nil, unnamed, V.kill, V.names, C.names, S_names, R.names, List.set, List.replicate, ↓q_cond_t, ↓q_cond_f, if_true, if_false, reduceCtorEq, rvals, rvC, result, C_known, V.noL, C.noL, S_noL, R.noL, Option.map, true_and, and_true, ge_iff_le, gt_iff_lt, implies_true, q_ite_t, q_ite_f, beq_iff_eq, bne_iff_ne, q_ne, Nat.reduceAdd, Nat.reducePow, Int.reducePow, Nat.reduceMul, Nat.reduceSub, Nat.reduceLeDiff, Nat.reduceLT, Nat.reduceEqDiff, Int.reduceNeg, Int.reduceLT, Int.reduceLE, Int.reduceEq, Int.reduceNe, Int.reduceAdd, Int.reduceSub, Int.reduceMul, Int.reduceToNat, Int.reduceBEq, Int.reduceBNe, d1, d2, d3, d4, d5, g1, g2, hj, hj2, hd, hd2, f1, hx, Int.toNat_natCast]
          exact hK
      · have : q = v.length := by omega
        subst this
        have e1 := eq_of_nth hn hpre
        simp only [e1, decide_true] at hK
        refine run_sound (Tab.ok_Γ _) 100 _ _ _ _ ?_
        simp (config := { maxSteps := 10000000 }) only [EV1, EV2, EV3, EV4, EV5, EV6, addT, istep, lenR_sl, lenR_ns, lenR_es, pickR, putD, bin1R, un1R, slcR, bnd, capsOf, fillP, S_plain, V_plain, V.cells, S_known, V_known, C.v, blk, setL, setH, eqS, eq1, cmpS, cmp1, isNil, popTo, killT, setT, leT, V.below, C.below, S_below, R.below, V.val, C.val, S_val, R.val, R.takes, vals, shows, List.any_cons, List.any_nil, unnamed, V.kill, V.names, C.names, S_names, R.names, List.set, List.replicate, ↓q_cond_t, ↓q_cond_f, if_true, if_false, reduceCtorEq, rvals, rvC, result, C_known, V.noL, C.noL, S_noL, R.noL, Option.map, true_and, and_true, ge_iff_le, gt_iff_lt, implies_true, q_ite_t, q_ite_f, beq_iff_eq, bne_iff_ne, q_ne, Nat.reduceAdd, Nat.reducePow, Int.reducePow, Nat.reduceMul, Nat.reduceSub, Nat.reduceLeDiff, Nat.reduceLT, Nat.reduceEqDiff, Int.reduceNeg, Int.reduceLT, Int.reduceLE, Int.reduceEq, Int.reduceNe, Int.reduceAdd, Int.reduceSub, Int.reduceMul, Int.reduceToNat, Int.reduceBEq, Int.reduceBNe, ↓hlx, Int.lt_irrefl]
        exact hK
  · have e1 : ¬ (v = w) := fun e => hn (by rw [e])
    have e2 : ((v.length : Int) != (w.length : Int)) = true := by rw [bne_iff_ne]; omega
    have e3 : ¬ ((v.length : Int) = (w.length : Int)) := by omega
    simp only [e1, decide_false] at hK
    simp (config := { maxSteps := 10000000 }) only [EV1, EV2, EV3, EV4, EV5, EV6, addT, istep, lenR_sl, lenR_ns, lenR_es, pickR, putD, bin1R, un1R, slcR, bnd, capsOf, fillP, S_plain, V_plain, V.cells, S_known, V_known, C.v, blk, setL, setH, eqS, eq1, cmpS, cmp1, isNil, popTo, killT, setT, leT, V.below, C.below, S_below, R.below, V.val, C.val, S_val, R.val, R.takes, vals, shows, List.any_cons, List.any_nil, unnamed, V.kill, V.names, C.names, S_names, R.names, List.set, List.replicate, ↓q_cond_t, ↓q_cond_f, if_true, if_false, reduceCtorEq, rvals, rvC, result, C_known, V.noL, C.noL, S_noL, R.noL, Option.map, true_and, and_true, ge_iff_le, gt_iff_lt, implies_true, q_ite_t, q_ite_f, beq_iff_eq, bne_iff_ne, q_ne, Nat.reduceAdd, Nat.reducePow, Int.reducePow, Nat.reduceMul, Nat.reduceSub, Nat.reduceLeDiff, Nat.reduceLT, Nat.reduceEqDiff, Int.reduceNeg, Int.reduceLT, Int.reduceLE, Int.reduceEq, Int.reduceNe, Int.reduceAdd, Int.reduceSub, Int.reduceMul, Int.reduceToNat, Int.reduceBEq, Int.reduceBNe, df27, ↓hlx, ↓hly, e2, e3]
    exact hK
end Go.Proofs.Ytdlloccodmdnnaa

/- Slots: what was put is got; the plain facts. -/
namespace Go.Proofs.Ytdlloccodmdnnaa
open Go.D
set_option linter.all false
set_option maxRecDepth 100000
set_option maxHeartbeats 4000000

theorem M.putS_len (m : M) (a : Int) (s : Slot) : (m.putS a s).w.length = m.w.length := by simp only [M.putS, M.tick_len, M.put_len]
theorem M.putS_there (m : M) (a b : Int) (s : Slot) : thereB (m.putS a s) b = thereB m b := by simp only [thereB, M.putS_len]
theorem M.putS_has (m : M) (a x k : Int) (s : Slot) : (m.putS a s).has x k = m.has x k := by simp only [M.has, M.putS_len]
theorem M.tick_there (m : M) (k b : Int) : thereB (m.tick k) b = thereB m b := rfl
theorem M.tick_slotB (m : M) (k b : Int) : (m.tick k).slotB b = m.slotB b := rfl
theorem M.tick_slotC (m : M) (k b : Int) : (m.tick k).slotC b = m.slotC b := rfl
theorem uw_0 : uw 0 = 0 := rfl
theorem M.at_putS {m : M} {a : Int} {s : Slot} (ht : thereB m a = true) (hr : slotRB s = true) {j : Int} (hj : 0 ≤ j) :
    (m.putS a s).at j = if j = a then s.cap.w0 else if j = a + 1 then s.cap.num else if j = a + 2 then s.links else if j = a + 3 then 0 else m.at j := by
  have hb := there_iff.1 ht
  obtain ⟨u0, u1, _, _⟩ := enc_back (slotRB_iff hr).1
  have u2 := links_u hr
  simp only [M.putS, M.at_tick, M.at_put, M.put_len, uw_of u0, uw_of u1, uw_of u2, uw_0]
  by_cases h0 : j = a
  · subst h0
    rw [if_neg (by omega), if_neg (by omega), if_neg (by omega), if_pos (by omega), if_pos rfl]
  · rw [if_neg h0]
    by_cases h1 : j = a + 1
    · subst h1
      rw [if_neg (by omega), if_neg (by omega), if_pos (by omega), if_pos rfl]
    · rw [if_neg h1]
      by_cases h2 : j = a + 2
      · subst h2
        rw [if_neg (by omega), if_pos (by omega), if_pos rfl]
      · rw [if_neg h2]
        by_cases h3 : j = a + 3
        · subst h3
          rw [if_pos (by omega), if_pos rfl]
        · rw [if_neg h3, if_neg (by omega), if_neg (by omega), if_neg (by omega), if_neg (by omega)]
theorem slot_back {s : Slot} (hr : slotRB s = true) : slotB s.cap.w0 s.cap.num s.links 0 = true ∧ slotC s.cap.w0 s.cap.num s.links = s := by
  obtain ⟨rc, h1, h2, h3⟩ := slotRB_iff hr
  obtain ⟨_, _, e1, e2⟩ := enc_back rc
  have e : slotC s.cap.w0 s.cap.num s.links = s := by
    obtain ⟨c, p, n, d⟩ := s
    simp only at h1 h2 h3 e2
    simp only [slotC, e2, Slot.links, Slot.mk.injEq, true_and]
    omega
  refine ⟨?_, e⟩
  have hl : s.links / 281474976710656 = 0 := by simp only [Slot.links]; omega
  simp only [slotB, e1, e, hr, hl, decide_true, Bool.true_and, beq_self_eq_true, Bool.and_true]
theorem M.putS_slot {m : M} {a : Int} {s : Slot} (ht : thereB m a = true) (hr : slotRB s = true) : (m.putS a s).slotB a = true ∧ (m.putS a s).slotC a = s := by
  have hb := there_iff.1 ht
  simp only [M.slotB, M.slotC]
  rw [M.at_putS ht hr (by omega), M.at_putS ht hr (by omega), M.at_putS ht hr (by omega), M.at_putS ht hr (by omega)]
  simp only [if_true]
  rw [if_neg (by omega), if_neg (by omega), if_neg (by omega), if_neg (by omega), if_neg (by omega), if_neg (by omega)]
  exact slot_back hr
theorem M.putS_other {m : M} {a b : Int} {s : Slot} (ht : thereB m a = true) (hr : slotRB s = true) (hb : thereB m b = true) (hn : a ≠ b) : (m.putS a s).slotB b = m.slotB b ∧ (m.putS a s).slotC b = m.slotC b := by
  have h1 := there_iff.1 ht
  have h2 := there_iff.1 hb
  rw [Int.tmod_eq_emod_of_nonneg (by omega)] at h1 h2
  have e : ∀ k : Int, 0 ≤ k → k ≤ 3 → (m.putS a s).at (b + k) = m.at (b + k) := fun k h3 h4 => by
    rw [M.at_putS ht hr (by omega), if_neg (by omega), if_neg (by omega), if_neg (by omega), if_neg (by omega)]
  have e0 := e 0 (by omega) (by omega)
  rw [Int.add_zero] at e0
  simp only [M.slotB, M.slotC, e0, e 1 (by omega) (by omega), e 2 (by omega) (by omega), e 3 (by omega) (by omega), and_self]
theorem putS_comm {m : M} {a b : Int} {s t : Slot} (ha : thereB m a = true) (hb : thereB m b = true) (hs : slotRB s = true) (ht : slotRB t = true) (hn : a ≠ b) : ((m.putS a s).putS b t).w = ((m.putS b t).putS a s).w := by
  have h1 := there_iff.1 ha
  have h2 := there_iff.1 hb
  rw [Int.tmod_eq_emod_of_nonneg (by omega)] at h1 h2
  refine eq_of_nth (by simp only [M.putS_len]) fun i hi => ?_
  have g1 : ((m.putS a s).putS b t).at i = ((m.putS b t).putS a s).at i := by
    have e1 := M.at_putS (m := m.putS a s) (a := b) (s := t) (j := (i : Int)) (by rw [M.putS_there]; exact hb) ht (by omega)
    have e2 := M.at_putS (m := m.putS b t) (a := a) (s := s) (j := (i : Int)) (by rw [M.putS_there]; exact ha) hs (by omega)
    rw [e1, e2, M.at_putS ha hs (by omega), M.at_putS hb ht (by omega)]
    by_cases k0 : (i : Int) = a ∨ (i : Int) = a + 1 ∨ (i : Int) = a + 2 ∨ (i : Int) = a + 3
    · have n0 : ¬ (i : Int) = b := by omega
      have n1 : ¬ (i : Int) = b + 1 := by omega
      have n2 : ¬ (i : Int) = b + 2 := by omega
      have n3 : ¬ (i : Int) = b + 3 := by omega
      simp only [n0, n1, n2, n3, if_false]
    · have n0 : ¬ (i : Int) = a := by omega
      have n1 : ¬ (i : Int) = a + 1 := by omega
      have n2 : ¬ (i : Int) = a + 2 := by omega
      have n3 : ¬ (i : Int) = a + 3 := by omega
      simp only [n0, n1, n2, n3, if_false]
  simpa [M.at] using g1
theorem nth_window {l : List Int} {a k i : Nat} (h : i < k) : nth 0 ((l.drop a).take k) i = nth 0 l (a + i) := by
  induction a generalizing l with
  | zero =>
    simp only [List.drop_zero, Nat.zero_add]
    induction k generalizing l i with
    | zero => omega
    | succ k ih =>
      cases l with
      | nil => rfl
      | cons x l =>
        cases i with
        | zero => rfl
        | succ i => exact ih (l := l) (by omega)
  | succ a ih =>
    cases l with
    | nil => simp [nth]
    | cons x l =>
      rw [List.drop_succ_cons, ih, show a + 1 + i = (a + i) + 1 by omega]; rfl
theorem M.window4 {m : M} {a : Int} {s : Slot} (ht : thereB m a = true) (hr : slotRB s = true) : ((m.putS a s).w.drop a.toNat).take 4 = [s.cap.w0, s.cap.num, s.links, 0] := by
  have hb := there_iff.1 ht
  refine eq_of_nth (by simp [M.putS_len]; omega) fun i hi => ?_
  have h4 : i < 4 := by simp [M.putS_len] at hi; omega
  rw [nth_window h4]
  have g := M.at_putS ht hr (j := ((a.toNat + i : Nat) : Int)) (by omega)
  simp only [M.at, Int.toNat_natCast] at g
  rw [g]
  have : i = 0 ∨ i = 1 ∨ i = 2 ∨ i = 3 := by omega
  rcases this with rfl | rfl | rfl | rfl
  · rw [if_pos (by omega)]; rfl
  · rw [if_neg (by omega), if_pos (by omega)]; rfl
  · rw [if_neg (by omega), if_neg (by omega), if_pos (by omega)]; rfl
  · rw [if_neg (by omega), if_neg (by omega), if_neg (by omega), if_pos (by omega)]; rfl
end Go.Proofs.Ytdlloccodmdnnaa

/- The machine's memory: more facts for use: new memories among the blocks, Load without choices. -/
namespace Go.Proofs.Ytdlloccodmdnnaa
open Go.D
set_option linter.all false
set_option maxRecDepth 100000
set_option maxHeartbeats 4000000

theorem memF_newA {f : Nat → M → (M → List Blk) → List V → Res} {h X : List Blk} {m : M} {rest : List V} : memF f (.s (.p (.g h.length) 0) :: rest) (memH h m ++ X) = f (h.length + 1) m (fun m => memH h m ++ X) rest := by
  rw [memF_app0 (memH_is h m), memH_fun]
theorem memF_new1A {f : Nat → M → (M → List Blk) → List V → Res} {h X : List Blk} {m k : M} {rest : List V} : memF f (.s (.p (.g h.length) 0) :: rest) (memH (memH h m) k ++ X) = f (h.length + 1) m (fun m => memH (memH h m) k ++ X) rest := by
  rw [memF_app0 (memH_is1 h m k), show setM (memH (memH h m) k) h.length (h.length + 1) = fun m => memH (memH h m) k from funext (memH_set1 h m k)]
theorem memF_new2A {f : Nat → M → (M → List Blk) → List V → Res} {h X : List Blk} {m k : M} {rest : List V} : memF f (.s (.p (.g (h.length + 2)) 0) :: rest) (memH (memH h m) k ++ X) = f (h.length + 3) k (fun k => memH (memH h m) k ++ X) rest := by
  rw [memF_app0 (memH_is2 h m k), show setM (memH (memH h m) k) (h.length + 2) (h.length + 3) = memH (memH h m) from funext (memH_set2 h m k)]

section
variable {h X : List Blk} {m : M} {k : Nat}
theorem mg0 : (memH h m ++ X)[h.length + 2]? = X[0]? := by rw [List.getElem?_append_right (by rw [memH_len]; omega), memH_len, Nat.sub_self]
theorem mg1 : (memH h m ++ X)[h.length + 2 + k]? = X[k]? := by rw [List.getElem?_append_right (by rw [memH_len]; omega), memH_len, Nat.add_sub_cancel_left]
theorem mg2 : (memH h m ++ X)[h.length + 2 + 1 + k]? = X[k + 1]? := by
  rw [List.getElem?_append_right (by rw [memH_len]; omega), memH_len]
  congr 1; omega
theorem mt1 : (memH h m ++ X).take (h.length + 2 + k) = memH h m ++ X.take k := by
  have := app_taken (h := memH h m) (r := X) (n := k)
  rwa [memH_len] at this
theorem md1 : (memH h m ++ X).drop (h.length + 2 + k) = X.drop k := by
  have := app_dropn (h := memH h m) (r := X) (n := k)
  rwa [memH_len] at this
theorem memH_clean (hc : clean h.length h = true) : clean (h.length + 2) (memH h m) = true := by
  refine clean_app hc (by omega) ?_
  simp only [clean, List.all_cons, List.all_nil, Bool.and_true, Bool.and_eq_true, MB, MW, wc_vals]
  simp [vals, S.val, R.val]
theorem memH_cleanA {n : Nat} (hc : clean h.length h = true) (hn : h.length + 2 ≤ n) (hX : clean n X = true) : clean n (memH h m ++ X) = true := clean_app (memH_clean hc) hn hX
theorem listOf_at {H : List Blk} {j c room : Nat} {st : BK} {vs : List Int} {n : Nat} (hj : H[j]? = some ⟨st, wc vs, room⟩) (hs : st ≠ .dead) (hn : vs.length = n) : listOf H (.sl (.g j) 0 n c) = some vs := by
  subst hn; exact listOf_eq (IsList.whole hj hs)
end

theorem take_all {l : List Int} {n : Nat} (h : l.length = n) : l.take n = l := List.take_of_length_le (by omega)
theorem mh2_len {h : List Blk} {m k : M} {X : List Blk} : (memH (memH h m) k ++ X).length = h.length + 2 + 2 + X.length := by rw [List.length_append, memH_len, memH_len]
section
variable {h X : List Blk} {m n : M} {k : Nat}
theorem nh0 : (memH (memH h m) n ++ X)[h.length + 2 + 2]? = X[0]? := by
  have := mg0 (h := memH h m) (m := n) (X := X); rwa [memH_len] at this
theorem nh1 : (memH (memH h m) n ++ X)[h.length + 2 + 2 + k]? = X[k]? := by
  have := mg1 (h := memH h m) (m := n) (X := X) (k := k); rwa [memH_len] at this
theorem nt1 : (memH (memH h m) n ++ X).take (h.length + 2 + 2 + k) = memH (memH h m) n ++ X.take k := by
  have := mt1 (h := memH h m) (m := n) (X := X) (k := k); rwa [memH_len] at this
theorem nd1 : (memH (memH h m) n ++ X).drop (h.length + 2 + 2 + k) = X.drop k := by
  have := md1 (h := memH h m) (m := n) (X := X) (k := k); rwa [memH_len] at this
theorem memH2_app : memH (memH h m) n ++ X = h ++ ([MB (h.length + 1) m, MW m] ++ ([MB (h.length + 2 + 1) n, MW n] ++ X)) := by
  show h ++ [_, _] ++ [MB ((h ++ [_, _]).length + 1) n, _] ++ X = _
  simp
end

section
variable {h X : List Blk} {m n m' n' : M} {k : Nat} {B : Blk}
theorem nh2 : (memH (memH h m) n ++ (B :: X))[h.length + 2 + 2 + 1 + k]? = X[k]? := by
  rw [List.getElem?_append_right (by rw [memH_len, memH_len]; omega), memH_len, memH_len]
  rw [show h.length + 2 + 2 + 1 + k - (h.length + 2 + 2) = k + 1 by omega]; rfl
theorem nhl {j : Nat} (hj : j < h.length) : (memH (memH h m) n ++ X)[j]? = h[j]? := by rw [memH2_app, List.getElem?_append_left hj]
theorem memOf_1 : memOf (memH (memH h m) n ++ X) h.length = some (h.length + 1, m) := memOf_eq (memH_is1 h m n).app
theorem memOf_2 : memOf (memH (memH h m) n ++ X) (h.length + 2) = some (h.length + 3, n) := memOf_eq (memH_is2 h m n).app
theorem setM_1 : setM (memH (memH h m) n ++ X) h.length (h.length + 1) m' = memH (memH h m') n ++ X := by rw [setM_app (memH_is1 h m n), memH_set1]
theorem setM_2 : setM (memH (memH h m) n ++ X) (h.length + 2) (h.length + 3) n' = memH (memH h m) n' ++ X := by rw [setM_app (memH_is2 h m n), memH_set2]
theorem clean_both {c : Nat} (hc : clean c (memH (memH h m) n ++ X) = true) (hl : h.length + 4 ≤ c) : clean c (memH (memH h m') n' ++ X) = true := by
  rw [memH2_app] at hc ⊢
  simp only [clean, List.all_append, List.all_cons, List.all_nil, Bool.and_eq_true, Bool.and_true] at hc ⊢
  obtain ⟨h1, _, _, h2⟩ := hc
  refine ⟨h1, ⟨?_, wc_vals _ _ _⟩, ⟨?_, wc_vals _ _ _⟩, h2⟩
  · simp [MB, vals, S.val, R.val]; omega
  · simp [MB, vals, S.val, R.val]; omega
end

def M.loadE (m : M) (x : Int) (vs : List Int) : Int := if m.has x vs.length then 0 else 20
def M.loadX (m : M) (x : Int) (vs : List Int) : M := if m.has x vs.length then m.lay x.toNat vs else m
noncomputable def load2G : List V → List Blk → Res
  | [.s (.p (.g a) 0), .s (.i .i64 x), .s s], h => match memOf h a, listOf h s with
    | some (b, m), some vs => .ob (apartS b s ∧ ∀ v, v ∈ vs → u64 v) (.ok (.s (.i .i64 (m.loadE x vs))) [] (setM h a b (m.loadX x vs)))
    | _, _ => .bad
  | _, _ => .bad

theorem load2_snd : Snd Try.prog 54 (FSpec.of load2G) := mload_snd.weaken fun args h K hc hS => by
  have hS : (load2G args h).spec K := hS
  unfold load2G at hS
  split at hS
  · rename_i a x s
    split at hS
    · rename_i b m vs e1 e2
      obtain ⟨hp, hS⟩ := hS
      simp only [spec_ok, M.loadE, M.loadX] at hS
      show Res.spec K (loadG _ h)
      simp only [loadG, e1, e2, spec_ob, spec_br, spec_ok]
      refine ⟨hp, fun e => ?_, fun e => ?_⟩
      · simpa only [e, if_true] using hS
      · have := setM_self (memOf_some e1)
        simpa only [e, Bool.false_eq_true, if_false, this] using hS
    · exact hS.elim
  · exact hS.elim
theorem rload2_snd : Snd Try.prog 68 (FSpec.of load2G) := rload_snd.weaken fun args h K hc hS => by
  have hS : (load2G args h).spec K := hS
  unfold load2G at hS
  split at hS
  · rename_i a x s
    split at hS
    · rename_i b m vs e1 e2
      obtain ⟨hp, hS⟩ := hS
      simp only [spec_ok, M.loadE, M.loadX] at hS
      show Res.spec K (loadG _ h)
      simp only [loadG, e1, e2, spec_ob, spec_br, spec_ok]
      refine ⟨hp, fun e => ?_, fun e => ?_⟩
      · simpa only [e, if_true] using hS
      · have := setM_self (memOf_some e1)
        simpa only [e, Bool.false_eq_true, if_false, this] using hS
    · exact hS.elim
  · exact hS.elim

theorem M.loadX_len (m : M) (x : Int) (vs : List Int) : (m.loadX x vs).w.length = m.w.length := by
  unfold M.loadX; split
  · exact M.lay_len _ _ _
  · rfl
end Go.Proofs.Ytdlloccodmdnnaa

/- Law 07: awake. -/
namespace Go.Proofs.Ytdlloccodmdnnaa
open Go.D
set_option linter.all false
set_option maxRecDepth 100000
set_option maxHeartbeats 4000000

def awake7G : List V → List Blk → Res
  | [], h => .ok (.s (.b true)) [] h
  | _, _ => .bad
def exS : Slot := ⟨⟨5, 2048, 0, 0, 0, 0, 0, 3, 0, 0, 0⟩, 1024, 0, 1⟩
def exT : Slot := ⟨capZ, 0, 0, 1⟩
end Go.Proofs.Ytdlloccodmdnnaa

