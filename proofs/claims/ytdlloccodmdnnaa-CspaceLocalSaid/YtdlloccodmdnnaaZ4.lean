/- Law 10: CspaceLocal: the walk behind its lists. -/
import Derived.Test.YtdlloccodmdnnaaZ3
import Derived.Test.YtdlloccodmdnnaaZ1
import Derived.Deep.Slices
import Derived.ChangeSame
import Derived.ReadAgain
import Derived.RowKit3
import Derived.OpenShut
import Derived.SizedLaws
import Derived.JoinedCond
import Derived.KernelRfl
import Derived.Test.YtdlloccodmdnnaaRows
/- Slots: the same specs without choices. -/
namespace Go.Proofs.Ytdlloccodmdnnaa
open Go.D
set_option linter.all false
set_option maxRecDepth 100000
set_option maxHeartbeats 4000000

def M.putE (m : M) (a : Int) (s : Slot) : Int := if thereB m a then (if slotRB s then 0 else 110) else 20
def M.putX (m : M) (a : Int) (s : Slot) : M := if thereB m a && slotRB s then m.putS a s else m
def M.getE (m : M) (a : Int) : Int := if thereB m a then (if m.slotB a then 0 else 110) else 20
def M.getV (m : M) (a : Int) : Slot := if thereB m a && m.slotB a then m.slotC a else slotZ
def M.getX (m : M) (a : Int) : M := if thereB m a then m.tick 4 else m
def M.emptyV (m : M) (a : Int) : Bool := thereB m a && (m.slotB a && (m.slotC a).isZ)

def put2M (b : Nat) (m : M) (st : M → List Blk) : List V → Res
  | [.s (.i .i64 a), x] => slotF (fun s => .ok (.s (.i .i64 (m.putE a s))) [] (st (m.putX a s))) [x]
  | _ => .bad
noncomputable def put2G := memF put2M
def get2M (b : Nat) (m : M) (st : M → List Blk) : List V → Res
  | [.s (.i .i64 a)] => .ok (.tup [.agg (m.getV a).cl, .s (.i .i64 (m.getE a))]) [] (st (m.getX a))
  | _ => .bad
noncomputable def get2G := memF get2M
def empty2M (b : Nat) (m : M) (st : M → List Blk) : List V → Res
  | [.s (.i .i64 a)] => .ok (.tup [.s (.b (m.emptyV a)), .s (.i .i64 (m.getE a))]) [] (st (m.getX a))
  | _ => .bad
noncomputable def empty2G := memF empty2M
theorem rput2_snd : Snd Try.prog 53 (FSpec.of put2G) := rputS_snd.weaken fun args h K hc hS => by
  obtain ⟨a, b, m, rest, rfl, H, hS1⟩ := memF_spec hS
  clear hS
  unfold put2M at hS1
  split at hS1
  · rename_i x y
    obtain ⟨s, e, hR⟩ := slotF_spec hS1
    simp only [List.cons.injEq, and_true] at e
    subst e
    simp only [spec_ok, M.putE, M.putX] at hR
    show Res.spec K (putSG _ h)
    rw [putSG, memF_eq H]
    show Res.spec K (.br (thereB m x) (.br (slotRB s) (.ok (.s (.i .i64 0)) [] (setM h a b (m.putS x s))) (.ok (.s (.i .i64 110)) [] (setM h a b m))) (.ok (.s (.i .i64 20)) [] (setM h a b m)))
    simp only [spec_br, spec_ok]
    refine ⟨fun e => ⟨fun e1 => ?_, fun e1 => ?_⟩, fun e => ?_⟩
    · simpa only [e, e1, Bool.and_self, if_true] using hR
    · simpa only [e, e1, Bool.and_false, Bool.false_eq_true, if_true, if_false] using hR
    · simpa only [e, Bool.false_and, Bool.false_eq_true, if_false] using hR
  · exact hS1.elim
theorem get2_snd : Snd Try.prog 57 (FSpec.of get2G) := getS_snd.weaken fun args h K hc hS => by
  obtain ⟨a, b, m, rest, rfl, H, hS1⟩ := memF_spec hS
  clear hS
  unfold get2M at hS1
  split at hS1
  · rename_i x
    simp only [spec_ok, M.getE, M.getX, M.getV] at hS1
    show Res.spec K (getSG _ h)
    rw [getSG, memF_eq H]
    simp only [getSM, spec_br, spec_ok]
    refine ⟨fun e => ⟨fun e1 => ?_, fun e1 => ?_⟩, fun e => ?_⟩
    · simpa only [e, e1, Bool.and_self, if_true] using hS1
    · simpa only [e, e1, Bool.and_false, Bool.false_eq_true, if_true, if_false] using hS1
    · simpa only [e, Bool.false_and, Bool.false_eq_true, if_false] using hS1
  · exact hS1.elim
theorem rget2_snd : Snd Try.prog 58 (FSpec.of get2G) := rgetS_snd.weaken fun args h K hc hS => by
  obtain ⟨a, b, m, rest, rfl, H, hS1⟩ := memF_spec hS
  clear hS
  unfold get2M at hS1
  split at hS1
  · rename_i x
    simp only [spec_ok, M.getE, M.getX, M.getV] at hS1
    show Res.spec K (getSG _ h)
    rw [getSG, memF_eq H]
    simp only [getSM, spec_br, spec_ok]
    refine ⟨fun e => ⟨fun e1 => ?_, fun e1 => ?_⟩, fun e => ?_⟩
    · simpa only [e, e1, Bool.and_self, if_true] using hS1
    · simpa only [e, e1, Bool.and_false, Bool.false_eq_true, if_true, if_false] using hS1
    · simpa only [e, Bool.false_and, Bool.false_eq_true, if_false] using hS1
  · exact hS1.elim
/-- Few steps. -/
theorem steps_le {n k : Int} (h0 : 0 ≤ k) (h : k ≤ 4) : IntKind.i64.wrap (IntKind.i64.wrap (n + k) - n) ≤ 4 := by
  rw [IntKind.wrap_i64, IntKind.wrap_i64]; omega
theorem steps_0 {n : Int} : IntKind.i64.wrap (n - n) ≤ 4 := by
  rw [Int.sub_self]; decide
theorem putX_steps (m : M) (a : Int) (s : Slot) : IntKind.i64.wrap ((m.putX a s).n - m.n) ≤ 4 := by
  unfold M.putX
  split
  · exact steps_le (k := 4) (by omega) (by omega)
  · exact steps_0
theorem getX_steps (m : M) (a : Int) : IntKind.i64.wrap ((m.getX a).n - m.n) ≤ 4 := by
  unfold M.getX
  split
  · exact steps_le (k := 4) (by omega) (by omega)
  · exact steps_0

end Go.Proofs.Ytdlloccodmdnnaa

/- Cspace: plain facts: what an address means. -/
namespace Go.Proofs.Ytdlloccodmdnnaa
open Go.D
set_option linter.all false
set_option maxRecDepth 100000
set_option maxHeartbeats 4000000

theorem u64_and_mask' {w : Int} (hw : u64 w) {k : Nat} (hk : k ≤ 64) {m : Int} (hm : m = ((2 ^ k - 1 : Nat) : Int)) : bits .and .u64 w m = w % (2 ^ k : Nat) := by
  obtain ⟨n, rfl, hn⟩ := hw.nat
  have hp : 2 ^ k ≤ 18446744073709551616 := by have := pow_le64 (k := 0) (n := k) (by omega); simpa using this
  rw [hm, bits_and_u64_nat n _ hn (by have := Nat.two_pow_pos k; omega), Nat.and_two_pow_sub_one_eq_mod, Int.natCast_emod]
/-- So many bits of a word, from a place on. -/
def someB (w n k : Int) : Int := w / 2 ^ n.toNat % 2 ^ k.toNat
theorem node_facts {c : Cap} (h : rightB c = true) (ht : c.ty = 2) : 1 ≤ c.bits ∧ c.bits ≤ 8 ∧ c.RB := by
  refine ⟨?_, ?_, right_bounds h⟩
  all_goals
    unfold rightB at h
    rw [if_neg (by omega), if_neg (by omega), if_pos ht] at h
    split at h
    · cases h
    · rename_i hn
      simp only [not_or, Classical.not_not, nOk_iff] at hn
      omega
theorem someB_le {w n k : Int} (hk : 0 ≤ k ∧ k ≤ 8) : 0 ≤ someB w n k ∧ someB w n k ≤ 255 := by
  unfold someB
  have h0 : ∀ j : Fin 9, (2 : Int) ^ j.val ≤ 256 := by decide
  have h2 : (2 : Int) ^ k.toNat ≤ 256 := h0 ⟨k.toNat, by omega⟩
  have h3 : (0 : Int) < 2 ^ k.toNat := Int.pow_pos (by omega)
  have := Int.emod_nonneg (w / 2 ^ n.toNat) (Int.ne_of_gt h3)
  have := Int.emod_lt_of_pos (w / 2 ^ n.toNat) h3
  omega

/-- What a lookup tells: the slot, how many bits are left, the errno; the memory behind it. -/
structure RW where
  s : Int
  l : Int
  e : Int
  m : M
def RW.v (x : RW) : V := .tup [.s (.i .i64 x.s), .s (.i .i64 x.l), .s (.i .i64 x.e)]
/-- The slot that a CNode's cap and so many bits of an address mean. -/
def wayA (w : Int) (c : Cap) (n : Int) : Int := c.obj + 4 * someB w (n - c.gbits - c.bits) c.bits
/-- The way of an address (d: the last slot is read, too). -/
def way (d : Bool) (w : Int) : Nat → M → Cap → Int → RW
  | 0, m, _, _ => ⟨0, 0, 0, m⟩
  | f + 1, m, c, n =>
    if n < c.gbits then ⟨0, 0, 102, m⟩
    else if ¬ someB w (n - c.gbits) c.gbits = c.guard then ⟨0, 0, 102, m⟩
    else if n - c.gbits < c.bits then ⟨0, 0, 101, m⟩
    else if n - c.gbits - c.bits = 0 then ⟨wayA w c n, 0, 0, if d then m.getX (wayA w c n) else m⟩
    else if m.getE (wayA w c n) = 0 ∧ (m.getV (wayA w c n)).cap.ty = 2 then way d w f (m.getX (wayA w c n)) (m.getV (wayA w c n)).cap (n - c.gbits - c.bits)
    else ⟨wayA w c n, n - c.gbits - c.bits, 0, m.getX (wayA w c n)⟩

theorem M.getE_there {m : M} {a : Int} (h : m.getE a = 0) : thereB m a = true ∧ m.slotB a = true := by
  unfold M.getE at h
  split at h
  · split at h
    · exact ⟨‹_›, ‹_›⟩
    · cases h
  · cases h
theorem M.getV_right {m : M} {a : Int} (h : m.getE a = 0) : rightB (m.getV a).cap = true := by
  obtain ⟨h1, h2⟩ := M.getE_there h
  have : m.getV a = m.slotC a := by unfold M.getV; rw [h1, h2]; rfl
  rw [this]
  simp only [M.slotB, Go.Proofs.Ytdlloccodmdnnaa.slotB, slotRB, Bool.and_eq_true] at h2
  exact h2.2.2.2.2.1

def rsl (d : Bool) (m : M) (c : Cap) (w n : Int) : RW :=
  if ¬ c.ty = 2 ∨ rightB c = false then ⟨0, 0, 100, m⟩ else if n < 1 ∨ 32 < n then ⟨0, 0, 101, m⟩ else way d w 32 m c n
theorem wayA_le {w n : Int} {c : Cap} (h : rightB c = true) (ht : c.ty = 2) : 0 ≤ wayA w c n ∧ wayA w c n ≤ 66555 := by
  obtain ⟨h1, h2, h3⟩ := node_facts h ht
  have := h3.obj
  have := someB_le (w := w) (n := n - c.gbits - c.bits) (k := c.bits) ⟨by omega, h2⟩
  unfold wayA; omega
end Go.Proofs.Ytdlloccodmdnnaa

/- Cspace: take; the document's bits. -/
namespace Go.Proofs.Ytdlloccodmdnnaa
open Go.D
set_option linter.all false
set_option maxRecDepth 100000
set_option maxHeartbeats 4000000

/-- Some bits of a number that are left. -/
def takeG : List V → List Blk → Res
  | [.s (.p (.g k) 0), .s (.i .i64 n)], h => match h[k]? with
    | some ⟨.rw, [.i .u64 w, .i .i64 l], 2⟩ => .ob (u64 w ∧ 0 ≤ n ∧ n ≤ 31 ∧ 0 ≤ l ∧ l ≤ 32) (.br (decide (l < n)) (.ok (.tup [.s (.i .i64 0), .s (.b false)]) [] h)
        (.ok (.tup [.s (.i .i64 (someB w (l - n) n)), .s (.b true)]) [] (h.set k ⟨.rw, [.i .u64 w, .i .i64 (l - n)], 2⟩)))
    | _ => .bad
  | _, _ => .bad
theorem mask_eq {n : Nat} (hn : n ≤ 31) : IntKind.u64.wrap (IntKind.u64.wrap (1 * 2 ^ min n IntKind.u64.bits) - 1) = ((2 ^ n - 1 : Nat) : Int) := by
  have : ∀ k : Fin 32, IntKind.u64.wrap (IntKind.u64.wrap (1 * 2 ^ min k.val IntKind.u64.bits) - 1) = ((2 ^ k.val - 1 : Nat) : Int) := by decide +kernel
  exact this ⟨n, by omega⟩
theorem someB_nat {w : Nat} {l n : Nat} : someB (w : Int) (l : Int) (n : Int) = ((w / 2 ^ l % 2 ^ n : Nat) : Int) := by
  simp [someB]
theorem someB_lt {w l n : Int} (hn : 0 ≤ n ∧ n ≤ 31) : 0 ≤ someB w l n ∧ someB w l n < 2147483648 := by
  unfold someB
  have h0 : ∀ j : Fin 32, (2 : Int) ^ j.val ≤ 2147483648 := by decide
  have h2 : (2 : Int) ^ n.toNat ≤ 2147483648 := h0 ⟨n.toNat, by omega⟩
  have h3 : (0 : Int) < 2 ^ n.toNat := Int.pow_pos (by omega)
  have := Int.emod_nonneg (w / 2 ^ l.toNat) (Int.ne_of_gt h3)
  have := Int.emod_lt_of_pos (w / 2 ^ l.toNat) h3
  omega
theorem take_snd : Snd Try.prog 56 (FSpec.of takeG) := snd_run (noT_snd _) mixed Try.func56 dc56 100 fun args h K _ hS => by
  unfold takeG at hS
  split at hS
  · rename_i k n
    split at hS
    · rename_i w l hk
      obtain ⟨⟨hw, h1, h2, h3, h4⟩, hS⟩ := hS
      simp only [spec_br, spec_ok] at hS
      by_cases hl : l < n
      · have hS := hS.1 (by simpa using hl)
        simp (config := { maxSteps := 10000000 }) only [EV1, EV2, EV3, EV4, EV5, EV6, addT, istep, lenR_sl, lenR_ns, lenR_es, pickR, putD, bin1R, un1R, slcR, bnd, capsOf, fillP, S_plain, V_plain, V.cells, S_known, V_known, C.v, blk, setL, setH, eqS, eq1, cmpS, cmp1, isNil, popTo, killT, setT, leT, V.below, C.below, S_below, R.below, V.val, C.val, S_val, R.val, R.takes, vals, shows, List.any_cons, List.any_nil, unnamed, V.kill, V.names, C.names, S_names, R.names, List.set, List.replicate, ↓q_cond_t, ↓q_cond_f, if_true, if_false, reduceCtorEq, rvals, rvC, result, C_known, V.noL, C.noL, S_noL, R.noL, Option.map, true_and, and_true, ge_iff_le, gt_iff_lt, implies_true, q_ite_t, q_ite_f, beq_iff_eq, bne_iff_ne, q_ne, Nat.reduceAdd, Nat.reducePow, Int.reducePow, Nat.reduceMul, Nat.reduceSub, Nat.reduceLeDiff, Nat.reduceLT, Nat.reduceEqDiff, Int.reduceNeg, Int.reduceLT, Int.reduceLE, Int.reduceEq, Int.reduceNe, Int.reduceAdd, Int.reduceSub, Int.reduceMul, Int.reduceToNat, Int.reduceBEq, Int.reduceBNe, df56, hk, hl]
        exact hS
      · have hS := hS.2 (by simpa using hl)
        obtain ⟨a, rfl⟩ : ∃ a : Nat, n = a := ⟨n.toNat, by omega⟩
        obtain ⟨b, hb⟩ : ∃ b : Nat, l - (a : Int) = b := ⟨(l - a).toNat, by omega⟩
        obtain ⟨w, rfl, hw'⟩ := hw.nat
        rw [hb] at hS
        have w1 : IntKind.i64.wrap (l - (a : Int)) = b := by rw [wrap64 (by omega) (by omega), hb]
        have c1 : (0 : Int) ≤ b := by omega
        have c2 : (0 : Int) ≤ a := by omega
        have m1 : min b IntKind.u64.bits = b := by show min b 64 = _; omega
        have m2 := mask_eq (n := a) (by omega)
        have m3 : bits .and .u64 ((w : Int) / 2 ^ b) ((2 ^ a - 1 : Nat) : Int) = someB w b a := by
          rw [u64_and_mask' (k := a) _ (by omega) rfl]
          · simp [someB]
          · have : ((w : Int) / 2 ^ b) = ((w / 2 ^ b : Nat) : Int) := by simp
            rw [this]
            have h5 := Nat.div_le_self w (2 ^ b)
            generalize w / 2 ^ b = q at h5 ⊢
            exact ⟨by omega, by omega⟩
        have m4 : IntKind.i64.wrap (someB w b a) = someB w b a := by
          have := someB_lt (w := w) (l := b) (n := a) ⟨by omega, by omega⟩
          exact wrap64 (by omega) (by omega)
        simp (config := { maxSteps := 10000000 }) only [EV1, EV2, EV3, EV4, EV5, EV6, addT, istep, lenR_sl, lenR_ns, lenR_es, pickR, putD, bin1R, un1R, slcR, bnd, capsOf, fillP, S_plain, V_plain, V.cells, S_known, V_known, C.v, blk, setL, setH, eqS, eq1, cmpS, cmp1, isNil, popTo, killT, setT, leT, V.below, C.below, S_below, R.below, V.val, C.val, S_val, R.val, R.takes, vals, shows, List.any_cons, List.any_nil, unnamed, V.kill, V.names, C.names, S_names, R.names, List.set, List.replicate, ↓q_cond_t, ↓q_cond_f, if_true, if_false, reduceCtorEq, rvals, rvC, result, C_known, V.noL, C.noL, S_noL, R.noL, Option.map, true_and, and_true, ge_iff_le, gt_iff_lt, implies_true, q_ite_t, q_ite_f, beq_iff_eq, bne_iff_ne, q_ne, Nat.reduceAdd, Nat.reducePow, Int.reducePow, Nat.reduceMul, Nat.reduceSub, Nat.reduceLeDiff, Nat.reduceLT, Nat.reduceEqDiff, Int.reduceNeg, Int.reduceLT, Int.reduceLE, Int.reduceEq, Int.reduceNe, Int.reduceAdd, Int.reduceSub, Int.reduceMul, Int.reduceToNat, Int.reduceBEq, Int.reduceBNe, df56, hk, hl, w1, c1, c2, m1, m2, m3, m4, put, set_hit hk, List.set_set]
        exact hS
    · exact hS.elim
  · exact hS.elim
end Go.Proofs.Ytdlloccodmdnnaa

/- Cspace: the document's bits. -/
namespace Go.Proofs.Ytdlloccodmdnnaa
open Go.D
set_option linter.all false
set_option maxRecDepth 100000
set_option maxHeartbeats 4000000

def bitsG : List V → List Blk → Res
  | [.s (.i .u64 w), .s (.i .i64 l), .s (.i .i64 n)], h => .ob (u64 w ∧ 0 ≤ n ∧ n ≤ 31 ∧ 0 ≤ l ∧ l ≤ 32) (.ok (.s (.i .i64 (someB w l n))) [] h)
  | _, _ => .bad
theorem someB_step {w p k : Nat} : 2 * (w / 2 ^ (p + 1) % 2 ^ k) + w / 2 ^ p % 2 = w / 2 ^ p % 2 ^ (k + 1) := by
  rw [Nat.pow_succ (n := 2) (m := k), Nat.mul_comm (2 ^ k) 2, Nat.mod_mul, Nat.div_div_eq_div_mul, Nat.pow_succ (n := 2) (m := p)]
  exact Nat.add_comm _ _
theorem rbits_snd : Snd Try.prog 59 (FSpec.of bitsG) := snd_run (noT_snd _) mixed Try.func59 dc59 100 fun args h K _ hS => by
  unfold bitsG at hS
  split at hS
  · rename_i w l n
    obtain ⟨⟨hw, h1, h2, h3, h4⟩, hS⟩ := hS
    simp only [spec_ok] at hS
    obtain ⟨a, rfl⟩ : ∃ a : Nat, n = a := ⟨n.toNat, by omega⟩
    obtain ⟨b, rfl⟩ : ∃ b : Nat, l = b := ⟨l.toNat, by omega⟩
    obtain ⟨w, rfl, hw'⟩ := hw.nat
    have w0 : IntKind.i64.wrap ((a : Int) - 1) = (a : Int) - 1 := wrap64 (by omega) (by omega)
    simp (config := { maxSteps := 10000000 }) only [EV1, EV2, EV3, EV4, EV5, EV6, addT, istep, lenR_sl, lenR_ns, lenR_es, pickR, putD, bin1R, un1R, slcR, bnd, capsOf, fillP, S_plain, V_plain, V.cells, S_known, V_known, C.v, blk, setL, setH, eqS, eq1, cmpS, cmp1, isNil, popTo, killT, setT, leT, V.below, C.below, S_below, R.below, V.val, C.val, S_val, R.val, R.takes, vals, shows, List.any_cons, List.any_nil, unnamed, V.kill, V.names, C.names, S_names, R.names, List.set, List.replicate, ↓q_cond_t, ↓q_cond_f, if_true, if_false, reduceCtorEq, rvals, rvC, result, C_known, V.noL, C.noL, S_noL, R.noL, Option.map, true_and, and_true, ge_iff_le, gt_iff_lt, implies_true, q_ite_t, q_ite_f, beq_iff_eq, bne_iff_ne, q_ne, Nat.reduceAdd, Nat.reducePow, Int.reducePow, Nat.reduceMul, Nat.reduceSub, Nat.reduceLeDiff, Nat.reduceLT, Nat.reduceEqDiff, Int.reduceNeg, Int.reduceLT, Int.reduceLE, Int.reduceEq, Int.reduceNe, Int.reduceAdd, Int.reduceSub, Int.reduceMul, Int.reduceToNat, Int.reduceBEq, Int.reduceBNe, df59, w0]
    refine loop_rule (α := Nat) [7, 8, 11, 12, 13, 14, 15, 16, 17, 18, 19, 20, 21, 22, 23, 24] (fun r => [(7, .s (.i .i64 ((w / 2 ^ (b + r) % 2 ^ (a - r) : Nat) : Int))), (8, .s (.i .i64 ((r : Int) - 1)))]) (fun _ => []) (fun _ => h) (fun r => r ≤ a) (fun r => r) a (Nat.le_refl _) ?_ ?_
    · have e0 : ((w / 2 ^ (b + a) % 2 ^ (a - a) : Nat) : Int) = 0 := by rw [Nat.sub_self, Nat.pow_zero, Nat.mod_one]; rfl
      refine Wk.same rfl rfl ?_
      simp (config := { maxSteps := 10000000 }) only [EV1, EV2, EV3, EV4, EV5, EV6, addT, istep, lenR_sl, lenR_ns, lenR_es, pickR, putD, bin1R, un1R, slcR, bnd, capsOf, fillP, S_plain, V_plain, V.cells, S_known, V_known, C.v, blk, setL, setH, eqS, eq1, cmpS, cmp1, isNil, popTo, killT, setT, leT, V.below, C.below, S_below, R.below, V.val, C.val, S_val, R.val, R.takes, vals, shows, List.any_cons, List.any_nil, unnamed, V.kill, V.names, C.names, S_names, R.names, List.set, List.replicate, ↓q_cond_t, ↓q_cond_f, if_true, if_false, reduceCtorEq, rvals, rvC, result, C_known, V.noL, C.noL, S_noL, R.noL, Option.map, true_and, and_true, ge_iff_le, gt_iff_lt, implies_true, q_ite_t, q_ite_f, beq_iff_eq, bne_iff_ne, q_ne, Nat.reduceAdd, Nat.reducePow, Int.reducePow, Nat.reduceMul, Nat.reduceSub, Nat.reduceLeDiff, Nat.reduceLT, Nat.reduceEqDiff, Int.reduceNeg, Int.reduceLT, Int.reduceLE, Int.reduceEq, Int.reduceNe, Int.reduceAdd, Int.reduceSub, Int.reduceMul, Int.reduceToNat, Int.reduceBEq, Int.reduceBNe, e0]
    · intro X r hr IH
      cases r with
      | zero =>
        have g0 : ¬ (0 : Int) ≤ ((0 : Nat) : Int) - 1 := by omega
        have e0 : ((w / 2 ^ (b + 0) % 2 ^ (a - 0) : Nat) : Int) = someB w b a := by rw [someB_nat]; rfl
        obtain ⟨i, hi⟩ : ∃ i : Int, ((0 : Nat) : Int) - 1 = i := ⟨_, rfl⟩
        rw [hi] at g0
        refine run_sound (Tab.ok_Γ _) 100 _ _ _ _ ?_
        simp (config := { maxSteps := 10000000 }) only [EV1, EV2, EV3, EV4, EV5, EV6, addT, istep, lenR_sl, lenR_ns, lenR_es, pickR, putD, bin1R, un1R, slcR, bnd, capsOf, fillP, S_plain, V_plain, V.cells, S_known, V_known, C.v, blk, setL, setH, eqS, eq1, cmpS, cmp1, isNil, popTo, killT, setT, leT, V.below, C.below, S_below, R.below, V.val, C.val, S_val, R.val, R.takes, vals, shows, List.any_cons, List.any_nil, unnamed, V.kill, V.names, C.names, S_names, R.names, List.set, List.replicate, ↓q_cond_t, ↓q_cond_f, if_true, if_false, reduceCtorEq, rvals, rvC, result, C_known, V.noL, C.noL, S_noL, R.noL, Option.map, true_and, and_true, ge_iff_le, gt_iff_lt, implies_true, q_ite_t, q_ite_f, beq_iff_eq, bne_iff_ne, q_ne, Nat.reduceAdd, Nat.reducePow, Int.reducePow, Nat.reduceMul, Nat.reduceSub, Nat.reduceLeDiff, Nat.reduceLT, Nat.reduceEqDiff, Int.reduceNeg, Int.reduceLT, Int.reduceLE, Int.reduceEq, Int.reduceNe, Int.reduceAdd, Int.reduceSub, Int.reduceMul, Int.reduceToNat, Int.reduceBEq, Int.reduceBNe, hi, g0, e0]
        exact hS
      | succ q =>
        have g0 : (0 : Int) ≤ (q : Int) := by omega
        have hi : ((q + 1 : Nat) : Int) - 1 = q := by omega
        have k1 := someB_step (w := w) (p := b + q) (k := a - (q + 1))
        have k2 : w / 2 ^ (b + (q + 1)) % 2 ^ (a - (q + 1)) < 2 ^ 31 := Nat.lt_of_lt_of_le (Nat.mod_lt _ (Nat.two_pow_pos _)) (Nat.pow_le_pow_right (by omega) (by omega))
        rw [show b + q + 1 = b + (q + 1) by omega, show a - (q + 1) + 1 = a - q by omega] at k1
        obtain ⟨x, hx⟩ : ∃ x, w / 2 ^ (b + (q + 1)) % 2 ^ (a - (q + 1)) = x := ⟨_, rfl⟩
        rw [hx] at k1 k2
        have w1 : IntKind.i64.wrap (2 * (x : Int)) = 2 * (x : Int) := wrap64 (by omega) (by omega)
        have w2 : IntKind.i64.wrap ((b : Int) + (q : Int)) = ((b + q : Nat) : Int) := by rw [wrap64] <;> omega
        have w4 : IntKind.i64.wrap ((q : Int) - 1) = (q : Int) - 1 := wrap64 (by omega) (by omega)
        have m1 : min (b + q) IntKind.u64.bits = b + q := by show min (b + q) 64 = _; omega
        have d1 : (0 : Int) ≤ ((b + q : Nat) : Int) := by omega
        have m3 : bits .and .u64 ((w : Int) / 2 ^ (b + q)) 1 = ((w / 2 ^ (b + q) % 2 : Nat) : Int) := by
          rw [u64_and_mask' (k := 1) _ (by omega) (by decide)]
          · simp
          · have : ((w : Int) / 2 ^ (b + q)) = ((w / 2 ^ (b + q) : Nat) : Int) := by simp
            rw [this]
            have h5 := Nat.div_le_self w (2 ^ (b + q))
            generalize w / 2 ^ (b + q) = p at h5 ⊢
            exact ⟨by omega, by omega⟩
        have w3 : IntKind.i64.wrap ((w / 2 ^ (b + q) % 2 : Nat) : Int) = ((w / 2 ^ (b + q) % 2 : Nat) : Int) := wrap64 (by omega) (by omega)
        have w5 : IntKind.i64.wrap (2 * (x : Int) + ((w / 2 ^ (b + q) % 2 : Nat) : Int)) = ((w / 2 ^ (b + q) % 2 ^ (a - q) : Nat) : Int) := by rw [wrap64] <;> omega
        refine run_sound (Tab.ok_Γ _) 100 _ _ _ _ ?_
        simp (config := { maxSteps := 10000000 }) only [EV1, EV2, EV3, EV4, EV5, EV6, addT, istep, lenR_sl, lenR_ns, lenR_es, pickR, putD, bin1R, un1R, slcR, bnd, capsOf, fillP, S_plain, V_plain, V.cells, S_known, V_known, C.v, blk, setL, setH, eqS, eq1, cmpS, cmp1, isNil, popTo, killT, setT, leT, V.below, C.below, S_below, R.below, V.val, C.val, S_val, R.val, R.takes, vals, shows, List.any_cons, List.any_nil, unnamed, V.kill, V.names, C.names, S_names, R.names, List.set, List.replicate, ↓q_cond_t, ↓q_cond_f, if_true, if_false, reduceCtorEq, rvals, rvC, result, C_known, V.noL, C.noL, S_noL, R.noL, Option.map, true_and, and_true, ge_iff_le, gt_iff_lt, implies_true, q_ite_t, q_ite_f, beq_iff_eq, bne_iff_ne, q_ne, Nat.reduceAdd, Nat.reducePow, Int.reducePow, Nat.reduceMul, Nat.reduceSub, Nat.reduceLeDiff, Nat.reduceLT, Nat.reduceEqDiff, Int.reduceNeg, Int.reduceLT, Int.reduceLE, Int.reduceEq, Int.reduceNe, Int.reduceAdd, Int.reduceSub, Int.reduceMul, Int.reduceToNat, Int.reduceBEq, Int.reduceBNe, hi, hx, g0, w1, w2, w3, w4, w5, m1, m3, d1]
        exact IH q _ (by omega) (by omega) (Wk.same rfl rfl (by simp (config := { maxSteps := 10000000 }) only [EV1, EV2, EV3, EV4, EV5, EV6, addT, istep, lenR_sl, lenR_ns, lenR_es, pickR, putD, bin1R, un1R, slcR, bnd, capsOf, fillP, S_plain, V_plain, V.cells, S_known, V_known, C.v, blk, setL, setH, eqS, eq1, cmpS, cmp1, isNil, popTo, killT, setT, leT, V.below, C.below, S_below, R.below, V.val, C.val, S_val, R.val, R.takes, vals, shows, List.any_cons, List.any_nil, unnamed, V.kill, V.names, C.names, S_names, R.names, List.set, List.replicate, ↓q_cond_t, ↓q_cond_f, if_true, if_false, reduceCtorEq, rvals, rvC, result, C_known, V.noL, C.noL, S_noL, R.noL, Option.map, true_and, and_true, ge_iff_le, gt_iff_lt, implies_true, q_ite_t, q_ite_f, beq_iff_eq, bne_iff_ne, q_ne, Nat.reduceAdd, Nat.reducePow, Int.reducePow, Nat.reduceMul, Nat.reduceSub, Nat.reduceLeDiff, Nat.reduceLT, Nat.reduceEqDiff, Int.reduceNeg, Int.reduceLT, Int.reduceLE, Int.reduceEq, Int.reduceNe, Int.reduceAdd, Int.reduceSub, Int.reduceMul, Int.reduceToNat, Int.reduceBEq, Int.reduceBNe]))
  · exact hS.elim
end Go.Proofs.Ytdlloccodmdnnaa

/- Cspace: Resolve, the document's Resolve. -/
namespace Go.Proofs.Ytdlloccodmdnnaa
open Go.D
set_option linter.all false
set_option maxRecDepth 100000
set_option maxHeartbeats 8000000

def rslM (d : Bool) (b : Nat) (m : M) (st : M → List Blk) : List V → Res
  | [x, .s (.i .u64 w), .s (.i .i64 n)] => capF (fun c => .ob (u64 w) (.ok (rsl d m c w n).v [] (st (rsl d m c w n).m))) [x]
  | _ => .bad
noncomputable def rslG (d : Bool) := memF (rslM d)
theorem rsl_no {d : Bool} {m : M} {c : Cap} {w n : Int} (h : ¬ (c.ty = 2 ∧ rightB c = true)) : rsl d m c w n = ⟨0, 0, 100, m⟩ := by
  unfold rsl
  rw [if_pos]
  by_cases h1 : c.ty = 2
  · right; cases h2 : rightB c
    · rfl
    · exact absurd ⟨h1, h2⟩ h
  · exact .inl h1
theorem rsl_deep {d : Bool} {m : M} {c : Cap} {w n : Int} (h1 : c.ty = 2) (h2 : rightB c = true) (h : n < 1 ∨ 32 < n) : rsl d m c w n = ⟨0, 0, 101, m⟩ := by
  unfold rsl
  rw [if_neg (by simp [h1, h2]), if_pos h]
theorem rsl_way {d : Bool} {m : M} {c : Cap} {w n : Int} (h1 : c.ty = 2) (h2 : rightB c = true) (h : ¬ (n < 1 ∨ 32 < n)) : rsl d m c w n = way d w 32 m c n := by
  unfold rsl
  rw [if_neg (by simp [h1, h2]), if_neg h]

noncomputable def TCs : Tab := addT 55 rightG (addT 56 takeG (addT 57 get2G (addT 14 rightG (addT 59 bitsG (addT 58 get2G (noT))))))
theorem TCs_snd : TCs.Snd Try.prog := addT_snd ok55 right_snd (addT_snd ok56 take_snd (addT_snd ok57 get2_snd (addT_snd ok14 rright_snd (addT_snd ok59 rbits_snd (addT_snd ok58 rget2_snd ((noT_snd _)))))))
theorem rsl_snd : Snd Try.prog 16 (FSpec.of (rslG false)) := snd_run TCs_snd mixed Try.func16 dc16 400 fun args h K hc hS => by
  obtain ⟨a, b, m, rest, rfl, H, hS1⟩ := memF_spec hS
  clear hS
  have hS := hS1
  clear hS1
  unfold rslM at hS
  split at hS
  · rename_i x w n
    obtain ⟨c, e, hu, hR⟩ := capF_spec hS
    clear hS
    simp only [List.cons.injEq, and_true] at e
    subst e
    simp only [spec_ok] at hR
    by_cases ht : c.ty = 2
    case neg =>
      rw [rsl_no (fun x => ht x.1), setM_self H] at hR
      simp only [RW.v] at hR
      have ht' : (c.ty != 2) = true := by simpa using ht
      simp only [Cap.cl]
      simp (config := { maxSteps := 10000000 }) only [EV1, EV2, EV3, EV4, EV5, EV6, addT, istep, lenR_sl, lenR_ns, lenR_es, pickR, putD, bin1R, un1R, slcR, bnd, capsOf, fillP, S_plain, V_plain, V.cells, S_known, V_known, C.v, blk, setL, setH, eqS, eq1, cmpS, cmp1, isNil, popTo, killT, setT, leT, V.below, C.below, S_below, R.below, V.val, C.val, S_val, R.val, R.takes, vals, shows, List.any_cons, List.any_nil, unnamed, V.kill, V.names, C.names, S_names, R.names, List.set, List.replicate, ↓q_cond_t, ↓q_cond_f, if_true, if_false, reduceCtorEq, rvals, rvC, result, C_known, V.noL, C.noL, S_noL, R.noL, Option.map, true_and, and_true, ge_iff_le, gt_iff_lt, implies_true, q_ite_t, q_ite_f, beq_iff_eq, bne_iff_ne, q_ne, Nat.reduceAdd, Nat.reducePow, Int.reducePow, Nat.reduceMul, Nat.reduceSub, Nat.reduceLeDiff, Nat.reduceLT, Nat.reduceEqDiff, Int.reduceNeg, Int.reduceLT, Int.reduceLE, Int.reduceEq, Int.reduceNe, Int.reduceAdd, Int.reduceSub, Int.reduceMul, Int.reduceToNat, Int.reduceBEq, Int.reduceBNe, df16, TCs, ht']
      exact hR
    have ht' : (c.ty != 2) = false := by simpa using ht
    cases hr : rightB c with
    | false =>
      rw [rsl_no (fun x => by simp [hr] at x), setM_self H] at hR
      simp only [RW.v] at hR
      simp only [Cap.cl]
      simp (config := { maxSteps := 10000000 }) only [EV1, EV2, EV3, EV4, EV5, EV6, addT, istep, lenR_sl, lenR_ns, lenR_es, pickR, putD, bin1R, un1R, slcR, bnd, capsOf, fillP, S_plain, V_plain, V.cells, S_known, V_known, C.v, blk, setL, setH, eqS, eq1, cmpS, cmp1, isNil, popTo, killT, setT, leT, V.below, C.below, S_below, R.below, V.val, C.val, S_val, R.val, R.takes, vals, shows, List.any_cons, List.any_nil, unnamed, V.kill, V.names, C.names, S_names, R.names, List.set, List.replicate, ↓q_cond_t, ↓q_cond_f, if_true, if_false, reduceCtorEq, rvals, rvC, result, C_known, V.noL, C.noL, S_noL, R.noL, Option.map, true_and, and_true, ge_iff_le, gt_iff_lt, implies_true, q_ite_t, q_ite_f, beq_iff_eq, bne_iff_ne, q_ne, Nat.reduceAdd, Nat.reducePow, Int.reducePow, Nat.reduceMul, Nat.reduceSub, Nat.reduceLeDiff, Nat.reduceLT, Nat.reduceEqDiff, Int.reduceNeg, Int.reduceLT, Int.reduceLE, Int.reduceEq, Int.reduceNe, Int.reduceAdd, Int.reduceSub, Int.reduceMul, Int.reduceToNat, Int.reduceBEq, Int.reduceBNe, df16, TCs, rightG, capF, cap_eta, hr, ht', sub, List.take_succ_cons, List.take_zero, List.drop_zero]
      exact hR
    | true =>
    by_cases d1 : n < 1
    case pos =>
      rw [rsl_deep ht hr (.inl d1), setM_self H] at hR
      simp only [RW.v] at hR
      simp only [Cap.cl]
      simp (config := { maxSteps := 10000000 }) only [EV1, EV2, EV3, EV4, EV5, EV6, addT, istep, lenR_sl, lenR_ns, lenR_es, pickR, putD, bin1R, un1R, slcR, bnd, capsOf, fillP, S_plain, V_plain, V.cells, S_known, V_known, C.v, blk, setL, setH, eqS, eq1, cmpS, cmp1, isNil, popTo, killT, setT, leT, V.below, C.below, S_below, R.below, V.val, C.val, S_val, R.val, R.takes, vals, shows, List.any_cons, List.any_nil, unnamed, V.kill, V.names, C.names, S_names, R.names, List.set, List.replicate, ↓q_cond_t, ↓q_cond_f, if_true, if_false, reduceCtorEq, rvals, rvC, result, C_known, V.noL, C.noL, S_noL, R.noL, Option.map, true_and, and_true, ge_iff_le, gt_iff_lt, implies_true, q_ite_t, q_ite_f, beq_iff_eq, bne_iff_ne, q_ne, Nat.reduceAdd, Nat.reducePow, Int.reducePow, Nat.reduceMul, Nat.reduceSub, Nat.reduceLeDiff, Nat.reduceLT, Nat.reduceEqDiff, Int.reduceNeg, Int.reduceLT, Int.reduceLE, Int.reduceEq, Int.reduceNe, Int.reduceAdd, Int.reduceSub, Int.reduceMul, Int.reduceToNat, Int.reduceBEq, Int.reduceBNe, df16, TCs, rightG, capF, cap_eta, hr, ht', d1, sub, List.take_succ_cons, List.take_zero, List.drop_zero]
      exact hR
    by_cases d2 : 32 < n
    case pos =>
      rw [rsl_deep ht hr (.inr d2), setM_self H] at hR
      simp only [RW.v] at hR
      simp only [Cap.cl]
      simp (config := { maxSteps := 10000000 }) only [EV1, EV2, EV3, EV4, EV5, EV6, addT, istep, lenR_sl, lenR_ns, lenR_es, pickR, putD, bin1R, un1R, slcR, bnd, capsOf, fillP, S_plain, V_plain, V.cells, S_known, V_known, C.v, blk, setL, setH, eqS, eq1, cmpS, cmp1, isNil, popTo, killT, setT, leT, V.below, C.below, S_below, R.below, V.val, C.val, S_val, R.val, R.takes, vals, shows, List.any_cons, List.any_nil, unnamed, V.kill, V.names, C.names, S_names, R.names, List.set, List.replicate, ↓q_cond_t, ↓q_cond_f, if_true, if_false, reduceCtorEq, rvals, rvC, result, C_known, V.noL, C.noL, S_noL, R.noL, Option.map, true_and, and_true, ge_iff_le, gt_iff_lt, implies_true, q_ite_t, q_ite_f, beq_iff_eq, bne_iff_ne, q_ne, Nat.reduceAdd, Nat.reducePow, Int.reducePow, Nat.reduceMul, Nat.reduceSub, Nat.reduceLeDiff, Nat.reduceLT, Nat.reduceEqDiff, Int.reduceNeg, Int.reduceLT, Int.reduceLE, Int.reduceEq, Int.reduceNe, Int.reduceAdd, Int.reduceSub, Int.reduceMul, Int.reduceToNat, Int.reduceBEq, Int.reduceBNe, df16, TCs, rightG, capF, cap_eta, hr, ht', d1, d2, sub, List.take_succ_cons, List.take_zero, List.drop_zero]
      exact hR
    rw [rsl_way ht hr (by omega)] at hR
    simp only [Cap.cl]
    simp (config := { maxSteps := 10000000 }) only [EV1, EV2, EV3, EV4, EV5, EV6, addT, istep, lenR_sl, lenR_ns, lenR_es, pickR, putD, bin1R, un1R, slcR, bnd, capsOf, fillP, S_plain, V_plain, V.cells, S_known, V_known, C.v, blk, setL, setH, eqS, eq1, cmpS, cmp1, isNil, popTo, killT, setT, leT, V.below, C.below, S_below, R.below, V.val, C.val, S_val, R.val, R.takes, vals, shows, List.any_cons, List.any_nil, unnamed, V.kill, V.names, C.names, S_names, R.names, List.set, List.replicate, ↓q_cond_t, ↓q_cond_f, if_true, if_false, reduceCtorEq, rvals, rvC, result, C_known, V.noL, C.noL, S_noL, R.noL, Option.map, true_and, and_true, ge_iff_le, gt_iff_lt, implies_true, q_ite_t, q_ite_f, beq_iff_eq, bne_iff_ne, q_ne, Nat.reduceAdd, Nat.reducePow, Int.reducePow, Nat.reduceMul, Nat.reduceSub, Nat.reduceLeDiff, Nat.reduceLT, Nat.reduceEqDiff, Int.reduceNeg, Int.reduceLT, Int.reduceLE, Int.reduceEq, Int.reduceNe, Int.reduceAdd, Int.reduceSub, Int.reduceMul, Int.reduceToNat, Int.reduceBEq, Int.reduceBNe, df16, TCs, rightG, capF, cap_eta, hr, ht', d1, d2, sub, put, List.take_succ_cons, List.take_zero, List.drop_zero]
    have hcm : ∀ m', clean (setM h a b m').length (setM h a b m') = true := fun m' => by rw [setM_len]; exact setM_clean H hc H.ltb
    refine loop_rule (α := M × Cap × Int) [8, 9, 10, 13, 14, 15, 16, 17, 18, 37, 38, 39, 40, 41, 42, 43, 44, 45, 46, 47, 48, 49, 50, 51, 52, 53, 54, 55, 56, 57, 58, 59, 60, 61, 62, 63, 64, 65, 66, 67, 68, 69, 70, 71, 72, 73, 74, 75, 76, 77, 78, 79, 80, 81, 82, 83] (fun x => []) (fun x => [⟨.rw, c.cl, 11⟩, ⟨.rw, [.i .u64 w, .i .i64 x.2.2], 2⟩, ⟨.rw, x.2.1.cl, 11⟩]) (fun x => setM h a b x.1)
      (fun x => rightB x.2.1 = true ∧ x.2.1.ty = 2 ∧ 0 < x.2.2 ∧ x.2.2 ≤ 32 ∧ ∃ f : Nat, x.2.2 ≤ f ∧ K (way false w f x.1 x.2.1 x.2.2).v (setM h a b (way false w f x.1 x.2.1 x.2.2).m)) (fun x => x.2.2.toNat) (m, c, n) ?_ ?_ ?_
    · exact ⟨hr, ht, by show 0 < n; omega, by show n ≤ 32; omega, 32, by show n ≤ 32; omega, hR⟩
    · refine Wk.same rfl (setM_self H).symm ?_
      simp (config := { maxSteps := 10000000 }) only [EV1, EV2, EV3, EV4, EV5, EV6, addT, istep, lenR_sl, lenR_ns, lenR_es, pickR, putD, bin1R, un1R, slcR, bnd, capsOf, fillP, S_plain, V_plain, V.cells, S_known, V_known, C.v, blk, setL, setH, eqS, eq1, cmpS, cmp1, isNil, popTo, killT, setT, leT, V.below, C.below, S_below, R.below, V.val, C.val, S_val, R.val, R.takes, vals, shows, List.any_cons, List.any_nil, unnamed, V.kill, V.names, C.names, S_names, R.names, List.set, List.replicate, ↓q_cond_t, ↓q_cond_f, if_true, if_false, reduceCtorEq, rvals, rvC, result, C_known, V.noL, C.noL, S_noL, R.noL, Option.map, true_and, and_true, ge_iff_le, gt_iff_lt, implies_true, q_ite_t, q_ite_f, beq_iff_eq, bne_iff_ne, q_ne, Nat.reduceAdd, Nat.reducePow, Int.reducePow, Nat.reduceMul, Nat.reduceSub, Nat.reduceLeDiff, Nat.reduceLT, Nat.reduceEqDiff, Int.reduceNeg, Int.reduceLT, Int.reduceLE, Int.reduceEq, Int.reduceNe, Int.reduceAdd, Int.reduceSub, Int.reduceMul, Int.reduceToNat, Int.reduceBEq, Int.reduceBNe]
    · rintro X ⟨m', c', n'⟩ ⟨hr', ht', hn0, hn1, f, hf, hK⟩ IH
      simp only at hr' ht' hn0 hn1 hf hK
      obtain ⟨f, rfl⟩ : ∃ g, f = g + 1 := ⟨f - 1, by omega⟩
      obtain ⟨hb1, hb2, RB⟩ := node_facts hr' ht'
      have hg := RB.gbits
      have ho := RB.obj
      have ha := wayA_le (w := w) (n := n') hr' ht'
      have i1 := someB_le (w := w) (n := n' - c'.gbits - c'.bits) (k := c'.bits) ⟨by omega, hb2⟩
      have b1 : (0 : Int) ≤ c'.gbits ∧ c'.gbits ≤ 31 ∧ 0 ≤ n' ∧ n' ≤ 32 := by omega
      have b2 : 0 ≤ c'.bits ∧ c'.bits ≤ 31 := by omega
      by_cases g1 : n' < c'.gbits
      · simp only [way, g1, if_true] at hK
        simp only [RW.v] at hK
        refine run_sound (Tab.ok_Γ _) 200 _ _ _ _ ?_
        simp (config := { maxSteps := 10000000 }) only [EV1, EV2, EV3, EV4, EV5, EV6, addT, istep, lenR_sl, lenR_ns, lenR_es, pickR, putD, bin1R, un1R, slcR, bnd, capsOf, fillP, S_plain, V_plain, V.cells, S_known, V_known, C.v, blk, setL, setH, eqS, eq1, cmpS, cmp1, isNil, popTo, killT, setT, leT, V.below, C.below, S_below, R.below, V.val, C.val, S_val, R.val, R.takes, vals, shows, List.any_cons, List.any_nil, unnamed, V.kill, V.names, C.names, S_names, R.names, List.set, List.replicate, ↓q_cond_t, ↓q_cond_f, if_true, if_false, reduceCtorEq, rvals, rvC, result, C_known, V.noL, C.noL, S_noL, R.noL, Option.map, true_and, and_true, ge_iff_le, gt_iff_lt, implies_true, q_ite_t, q_ite_f, beq_iff_eq, bne_iff_ne, q_ne, Nat.reduceAdd, Nat.reducePow, Int.reducePow, Nat.reduceMul, Nat.reduceSub, Nat.reduceLeDiff, Nat.reduceLT, Nat.reduceEqDiff, Int.reduceNeg, Int.reduceLT, Int.reduceLE, Int.reduceEq, Int.reduceNe, Int.reduceAdd, Int.reduceSub, Int.reduceMul, Int.reduceToNat, Int.reduceBEq, Int.reduceBNe, TCs, takeG, R.lend, R.unlend, S_ren, C.ren, V.ren, app_taken, app_dropn, app_take0, app_drop0, List.take_succ_cons, List.take_zero, List.drop_succ_cons, List.drop_zero, Nat.not_lt_zero, Nat.lt_irrefl, Nat.add_sub_cancel_left, Nat.not_lt, Nat.le_add_right, g1, b1, hu, hcm, Cap.cl, Blk.ren, List.map_cons, List.map_nil]
        exact hK
      by_cases g2 : someB w (n' - c'.gbits) c'.gbits = c'.guard
      case neg =>
        simp only [way, g1, g2, if_true, if_false, not_false_eq_true] at hK
        simp only [RW.v] at hK
        have g2' : (someB w (n' - c'.gbits) c'.gbits != c'.guard) = true := by simpa using g2
        refine run_sound (Tab.ok_Γ _) 200 _ _ _ _ ?_
        simp (config := { maxSteps := 10000000 }) only [EV1, EV2, EV3, EV4, EV5, EV6, addT, istep, lenR_sl, lenR_ns, lenR_es, pickR, putD, bin1R, un1R, slcR, bnd, capsOf, fillP, S_plain, V_plain, V.cells, S_known, V_known, C.v, blk, setL, setH, eqS, eq1, cmpS, cmp1, isNil, popTo, killT, setT, leT, V.below, C.below, S_below, R.below, V.val, C.val, S_val, R.val, R.takes, vals, shows, List.any_cons, List.any_nil, unnamed, V.kill, V.names, C.names, S_names, R.names, List.set, List.replicate, ↓q_cond_t, ↓q_cond_f, if_true, if_false, reduceCtorEq, rvals, rvC, result, C_known, V.noL, C.noL, S_noL, R.noL, Option.map, true_and, and_true, ge_iff_le, gt_iff_lt, implies_true, q_ite_t, q_ite_f, beq_iff_eq, bne_iff_ne, q_ne, Nat.reduceAdd, Nat.reducePow, Int.reducePow, Nat.reduceMul, Nat.reduceSub, Nat.reduceLeDiff, Nat.reduceLT, Nat.reduceEqDiff, Int.reduceNeg, Int.reduceLT, Int.reduceLE, Int.reduceEq, Int.reduceNe, Int.reduceAdd, Int.reduceSub, Int.reduceMul, Int.reduceToNat, Int.reduceBEq, Int.reduceBNe, TCs, takeG, R.lend, R.unlend, S_ren, C.ren, V.ren, app_taken, app_dropn, app_take0, app_drop0, List.take_succ_cons, List.take_zero, List.drop_succ_cons, List.drop_zero, Nat.not_lt_zero, Nat.lt_irrefl, Nat.add_sub_cancel_left, Nat.not_lt, Nat.le_add_right, g1, b1, hu, hcm, g2', Cap.cl, Blk.ren, List.map_cons, List.map_nil]
        exact hK
      have g2' : (someB w (n' - c'.gbits) c'.gbits != c'.guard) = false := by simpa using g2
      have b3 : 0 ≤ n' - c'.gbits ∧ n' - c'.gbits ≤ 32 := by omega
      by_cases g3 : n' - c'.gbits < c'.bits
      · simp only [way, g1, g2, g3, if_true, if_false, not_true_eq_false] at hK
        simp only [RW.v] at hK
        refine run_sound (Tab.ok_Γ _) 200 _ _ _ _ ?_
        simp (config := { maxSteps := 10000000 }) only [EV1, EV2, EV3, EV4, EV5, EV6, addT, istep, lenR_sl, lenR_ns, lenR_es, pickR, putD, bin1R, un1R, slcR, bnd, capsOf, fillP, S_plain, V_plain, V.cells, S_known, V_known, C.v, blk, setL, setH, eqS, eq1, cmpS, cmp1, isNil, popTo, killT, setT, leT, V.below, C.below, S_below, R.below, V.val, C.val, S_val, R.val, R.takes, vals, shows, List.any_cons, List.any_nil, unnamed, V.kill, V.names, C.names, S_names, R.names, List.set, List.replicate, ↓q_cond_t, ↓q_cond_f, if_true, if_false, reduceCtorEq, rvals, rvC, result, C_known, V.noL, C.noL, S_noL, R.noL, Option.map, true_and, and_true, ge_iff_le, gt_iff_lt, implies_true, q_ite_t, q_ite_f, beq_iff_eq, bne_iff_ne, q_ne, Nat.reduceAdd, Nat.reducePow, Int.reducePow, Nat.reduceMul, Nat.reduceSub, Nat.reduceLeDiff, Nat.reduceLT, Nat.reduceEqDiff, Int.reduceNeg, Int.reduceLT, Int.reduceLE, Int.reduceEq, Int.reduceNe, Int.reduceAdd, Int.reduceSub, Int.reduceMul, Int.reduceToNat, Int.reduceBEq, Int.reduceBNe, TCs, takeG, R.lend, R.unlend, S_ren, C.ren, V.ren, app_taken, app_dropn, app_take0, app_drop0, List.take_succ_cons, List.take_zero, List.drop_succ_cons, List.drop_zero, Nat.not_lt_zero, Nat.lt_irrefl, Nat.add_sub_cancel_left, Nat.not_lt, Nat.le_add_right, g1, b1, b2, b3, hu, hcm, g2', g3, Cap.cl, Blk.ren, List.map_cons, List.map_nil]
        exact hK
      have w4 : IntKind.i64.wrap (4 * someB w (n' - c'.gbits - c'.bits) c'.bits) = 4 * someB w (n' - c'.gbits - c'.bits) c'.bits := wrap64 (by omega) (by omega)
      have w5 : IntKind.i64.wrap (c'.obj + 4 * someB w (n' - c'.gbits - c'.bits) c'.bits) = wayA w c' n' := wrap64 (by omega) (by omega)
      by_cases g4 : n' - c'.gbits - c'.bits = 0
      · simp only [way, g1, g2, g3, g4, if_true, if_false, not_true_eq_false, Bool.false_eq_true] at hK
        simp only [RW.v] at hK
        have g4' : (n' - c'.gbits - c'.bits == 0) = true := by simpa using g4
        refine run_sound (Tab.ok_Γ _) 200 _ _ _ _ ?_
        simp (config := { maxSteps := 10000000 }) only [EV1, EV2, EV3, EV4, EV5, EV6, addT, istep, lenR_sl, lenR_ns, lenR_es, pickR, putD, bin1R, un1R, slcR, bnd, capsOf, fillP, S_plain, V_plain, V.cells, S_known, V_known, C.v, blk, setL, setH, eqS, eq1, cmpS, cmp1, isNil, popTo, killT, setT, leT, V.below, C.below, S_below, R.below, V.val, C.val, S_val, R.val, R.takes, vals, shows, List.any_cons, List.any_nil, unnamed, V.kill, V.names, C.names, S_names, R.names, List.set, List.replicate, ↓q_cond_t, ↓q_cond_f, if_true, if_false, reduceCtorEq, rvals, rvC, result, C_known, V.noL, C.noL, S_noL, R.noL, Option.map, true_and, and_true, ge_iff_le, gt_iff_lt, implies_true, q_ite_t, q_ite_f, beq_iff_eq, bne_iff_ne, q_ne, Nat.reduceAdd, Nat.reducePow, Int.reducePow, Nat.reduceMul, Nat.reduceSub, Nat.reduceLeDiff, Nat.reduceLT, Nat.reduceEqDiff, Int.reduceNeg, Int.reduceLT, Int.reduceLE, Int.reduceEq, Int.reduceNe, Int.reduceAdd, Int.reduceSub, Int.reduceMul, Int.reduceToNat, Int.reduceBEq, Int.reduceBNe, TCs, takeG, R.lend, R.unlend, S_ren, C.ren, V.ren, app_taken, app_dropn, app_take0, app_drop0, List.take_succ_cons, List.take_zero, List.drop_succ_cons, List.drop_zero, Nat.not_lt_zero, Nat.lt_irrefl, Nat.add_sub_cancel_left, Nat.not_lt, Nat.le_add_right, g1, b1, b2, b3, hu, hcm, g2', g3, w4, w5, g4', Cap.cl, Blk.ren, List.map_cons, List.map_nil]
        rw [g4]
        exact hK
      have g4' : (n' - c'.gbits - c'.bits == 0) = false := by simpa using g4
      obtain ⟨s, hs⟩ : ∃ s, m'.getV (wayA w c' n') = s := ⟨_, rfl⟩
      obtain ⟨e, he⟩ : ∃ e, m'.getE (wayA w c' n') = e := ⟨_, rfl⟩
      have hsr : e = 0 → rightB s.cap = true := fun h0 => by rw [← hs]; exact M.getV_right (he.trans h0)
      by_cases g5 : e = 0
      case neg =>
        simp only [way, g1, g2, g3, g4, he, hs, g5, if_true, if_false, not_true_eq_false, false_and] at hK
        simp only [RW.v] at hK
        have g5' : (e != 0) = true := by simpa using g5
        refine run_sound (Tab.ok_Γ _) 300 _ _ _ _ ?_
        simp (config := { maxSteps := 10000000 }) only [EV1, EV2, EV3, EV4, EV5, EV6, addT, istep, lenR_sl, lenR_ns, lenR_es, pickR, putD, bin1R, un1R, slcR, bnd, capsOf, fillP, S_plain, V_plain, V.cells, S_known, V_known, C.v, blk, setL, setH, eqS, eq1, cmpS, cmp1, isNil, popTo, killT, setT, leT, V.below, C.below, S_below, R.below, V.val, C.val, S_val, R.val, R.takes, vals, shows, List.any_cons, List.any_nil, unnamed, V.kill, V.names, C.names, S_names, R.names, List.set, List.replicate, ↓q_cond_t, ↓q_cond_f, if_true, if_false, reduceCtorEq, rvals, rvC, result, C_known, V.noL, C.noL, S_noL, R.noL, Option.map, true_and, and_true, ge_iff_le, gt_iff_lt, implies_true, q_ite_t, q_ite_f, beq_iff_eq, bne_iff_ne, q_ne, Nat.reduceAdd, Nat.reducePow, Int.reducePow, Nat.reduceMul, Nat.reduceSub, Nat.reduceLeDiff, Nat.reduceLT, Nat.reduceEqDiff, Int.reduceNeg, Int.reduceLT, Int.reduceLE, Int.reduceEq, Int.reduceNe, Int.reduceAdd, Int.reduceSub, Int.reduceMul, Int.reduceToNat, Int.reduceBEq, Int.reduceBNe, TCs, takeG, R.lend, R.unlend, S_ren, C.ren, V.ren, app_taken, app_dropn, app_take0, app_drop0, List.take_succ_cons, List.take_zero, List.drop_succ_cons, List.drop_zero, Nat.not_lt_zero, Nat.lt_irrefl, Nat.add_sub_cancel_left, Nat.not_lt, Nat.le_add_right, g1, b1, b2, b3, hu, hcm, g2', g3, w4, w5, g4', get2G, memF_set H, get2M, he, hs, g5', Slot.cl, Cap.cl, sub, put, List.take_succ_cons, List.take_zero, List.drop_zero, Blk.ren, List.map_cons, List.map_nil]
        exact hK
      have g5' : (e != 0) = false := by simpa using g5
      by_cases g6 : s.cap.ty = 2
      case neg =>
        simp only [way, g1, g2, g3, g4, he, hs, g5, g6, if_true, if_false, not_true_eq_false, and_false] at hK
        simp only [RW.v] at hK
        have g6' : (s.cap.ty != 2) = true := by simpa using g6
        refine run_sound (Tab.ok_Γ _) 300 _ _ _ _ ?_
        simp (config := { maxSteps := 10000000 }) only [EV1, EV2, EV3, EV4, EV5, EV6, addT, istep, lenR_sl, lenR_ns, lenR_es, pickR, putD, bin1R, un1R, slcR, bnd, capsOf, fillP, S_plain, V_plain, V.cells, S_known, V_known, C.v, blk, setL, setH, eqS, eq1, cmpS, cmp1, isNil, popTo, killT, setT, leT, V.below, C.below, S_below, R.below, V.val, C.val, S_val, R.val, R.takes, vals, shows, List.any_cons, List.any_nil, unnamed, V.kill, V.names, C.names, S_names, R.names, List.set, List.replicate, ↓q_cond_t, ↓q_cond_f, if_true, if_false, reduceCtorEq, rvals, rvC, result, C_known, V.noL, C.noL, S_noL, R.noL, Option.map, true_and, and_true, ge_iff_le, gt_iff_lt, implies_true, q_ite_t, q_ite_f, beq_iff_eq, bne_iff_ne, q_ne, Nat.reduceAdd, Nat.reducePow, Int.reducePow, Nat.reduceMul, Nat.reduceSub, Nat.reduceLeDiff, Nat.reduceLT, Nat.reduceEqDiff, Int.reduceNeg, Int.reduceLT, Int.reduceLE, Int.reduceEq, Int.reduceNe, Int.reduceAdd, Int.reduceSub, Int.reduceMul, Int.reduceToNat, Int.reduceBEq, Int.reduceBNe, TCs, takeG, R.lend, R.unlend, S_ren, C.ren, V.ren, app_taken, app_dropn, app_take0, app_drop0, List.take_succ_cons, List.take_zero, List.drop_succ_cons, List.drop_zero, Nat.not_lt_zero, Nat.lt_irrefl, Nat.add_sub_cancel_left, Nat.not_lt, Nat.le_add_right, g1, b1, b2, b3, hu, hcm, g2', g3, w4, w5, g4', get2G, memF_set H, get2M, he, hs, g5', g6', Slot.cl, Cap.cl, sub, put, List.take_succ_cons, List.take_zero, List.drop_zero, Blk.ren, List.map_cons, List.map_nil]
        exact hK
      have g6' : (s.cap.ty != 2) = false := by simpa using g6
      simp only [way, g1, g2, g3, g4, he, hs, g5, g6, if_true, if_false, not_true_eq_false, and_true] at hK
      refine run_sound (Tab.ok_Γ _) 300 _ _ _ _ ?_
      simp (config := { maxSteps := 10000000 }) only [EV1, EV2, EV3, EV4, EV5, EV6, addT, istep, lenR_sl, lenR_ns, lenR_es, pickR, putD, bin1R, un1R, slcR, bnd, capsOf, fillP, S_plain, V_plain, V.cells, S_known, V_known, C.v, blk, setL, setH, eqS, eq1, cmpS, cmp1, isNil, popTo, killT, setT, leT, V.below, C.below, S_below, R.below, V.val, C.val, S_val, R.val, R.takes, vals, shows, List.any_cons, List.any_nil, unnamed, V.kill, V.names, C.names, S_names, R.names, List.set, List.replicate, ↓q_cond_t, ↓q_cond_f, if_true, if_false, reduceCtorEq, rvals, rvC, result, C_known, V.noL, C.noL, S_noL, R.noL, Option.map, true_and, and_true, ge_iff_le, gt_iff_lt, implies_true, q_ite_t, q_ite_f, beq_iff_eq, bne_iff_ne, q_ne, Nat.reduceAdd, Nat.reducePow, Int.reducePow, Nat.reduceMul, Nat.reduceSub, Nat.reduceLeDiff, Nat.reduceLT, Nat.reduceEqDiff, Int.reduceNeg, Int.reduceLT, Int.reduceLE, Int.reduceEq, Int.reduceNe, Int.reduceAdd, Int.reduceSub, Int.reduceMul, Int.reduceToNat, Int.reduceBEq, Int.reduceBNe, TCs, takeG, R.lend, R.unlend, S_ren, C.ren, V.ren, app_taken, app_dropn, app_take0, app_drop0, List.take_succ_cons, List.take_zero, List.drop_succ_cons, List.drop_zero, Nat.not_lt_zero, Nat.lt_irrefl, Nat.add_sub_cancel_left, Nat.not_lt, Nat.le_add_right, g1, b1, b2, b3, hu, hcm, g2', g3, w4, w5, g4', get2G, memF_set H, get2M, he, hs, g5', g6', Slot.cl, Cap.cl, sub, put, List.take_succ_cons, List.take_zero, List.drop_zero, Blk.ren, List.map_cons, List.map_nil]
      refine IH (m'.getX (wayA w c' n'), s.cap, n' - c'.gbits - c'.bits) _ ?_ ⟨hsr g5, g6, ?_, ?_, f, ?_, hK⟩ ?_
      · show (n' - c'.gbits - c'.bits).toNat < n'.toNat
        omega
      · show 0 < n' - c'.gbits - c'.bits
        omega
      · show n' - c'.gbits - c'.bits ≤ 32
        omega
      · show n' - c'.gbits - c'.bits ≤ f
        omega
      · refine Wk.keep 3 rfl rfl ?_ ?_ ?_
        all_goals simp (config := { maxSteps := 10000000 }) only [EV1, EV2, EV3, EV4, EV5, EV6, addT, istep, lenR_sl, lenR_ns, lenR_es, pickR, putD, bin1R, un1R, slcR, bnd, capsOf, fillP, S_plain, V_plain, V.cells, S_known, V_known, C.v, blk, setL, setH, eqS, eq1, cmpS, cmp1, isNil, popTo, killT, setT, leT, V.below, C.below, S_below, R.below, V.val, C.val, S_val, R.val, R.takes, vals, shows, List.any_cons, List.any_nil, unnamed, V.kill, V.names, C.names, S_names, R.names, List.set, List.replicate, ↓q_cond_t, ↓q_cond_f, if_true, if_false, reduceCtorEq, rvals, rvC, result, C_known, V.noL, C.noL, S_noL, R.noL, Option.map, true_and, and_true, ge_iff_le, gt_iff_lt, implies_true, q_ite_t, q_ite_f, beq_iff_eq, bne_iff_ne, q_ne, Nat.reduceAdd, Nat.reducePow, Int.reducePow, Nat.reduceMul, Nat.reduceSub, Nat.reduceLeDiff, Nat.reduceLT, Nat.reduceEqDiff, Int.reduceNeg, Int.reduceLT, Int.reduceLE, Int.reduceEq, Int.reduceNe, Int.reduceAdd, Int.reduceSub, Int.reduceMul, Int.reduceToNat, Int.reduceBEq, Int.reduceBNe, Cap.cl]
  · exact hS.elim
theorem rrsl_snd : Snd Try.prog 21 (FSpec.of (rslG true)) := snd_run TCs_snd mixed Try.func21 dc21 400 fun args h K hc hS => by
  obtain ⟨a, b, m, rest, rfl, H, hS1⟩ := memF_spec hS
  clear hS
  have hS := hS1
  clear hS1
  unfold rslM at hS
  split at hS
  · rename_i x w n
    obtain ⟨c, e, hu, hR⟩ := capF_spec hS
    clear hS
    simp only [List.cons.injEq, and_true] at e
    subst e
    simp only [spec_ok] at hR
    by_cases ht : c.ty = 2
    case neg =>
      rw [rsl_no (fun x => ht x.1), setM_self H] at hR
      simp only [RW.v] at hR
      have ht' : (c.ty != 2) = true := by simpa using ht
      simp only [Cap.cl]
      simp (config := { maxSteps := 10000000 }) only [EV1, EV2, EV3, EV4, EV5, EV6, addT, istep, lenR_sl, lenR_ns, lenR_es, pickR, putD, bin1R, un1R, slcR, bnd, capsOf, fillP, S_plain, V_plain, V.cells, S_known, V_known, C.v, blk, setL, setH, eqS, eq1, cmpS, cmp1, isNil, popTo, killT, setT, leT, V.below, C.below, S_below, R.below, V.val, C.val, S_val, R.val, R.takes, vals, shows, List.any_cons, List.any_nil, unnamed, V.kill, V.names, C.names, S_names, R.names, List.set, List.replicate, ↓q_cond_t, ↓q_cond_f, if_true, if_false, reduceCtorEq, rvals, rvC, result, C_known, V.noL, C.noL, S_noL, R.noL, Option.map, true_and, and_true, ge_iff_le, gt_iff_lt, implies_true, q_ite_t, q_ite_f, beq_iff_eq, bne_iff_ne, q_ne, Nat.reduceAdd, Nat.reducePow, Int.reducePow, Nat.reduceMul, Nat.reduceSub, Nat.reduceLeDiff, Nat.reduceLT, Nat.reduceEqDiff, Int.reduceNeg, Int.reduceLT, Int.reduceLE, Int.reduceEq, Int.reduceNe, Int.reduceAdd, Int.reduceSub, Int.reduceMul, Int.reduceToNat, Int.reduceBEq, Int.reduceBNe, df21, TCs, rightG, capF, cap_eta, ht', sub, List.take_succ_cons, List.take_zero, List.drop_zero]
      exact hR
    have ht' : (c.ty != 2) = false := by simpa using ht
    cases hr : rightB c with
    | false =>
      rw [rsl_no (fun x => by simp [hr] at x), setM_self H] at hR
      simp only [RW.v] at hR
      simp only [Cap.cl]
      simp (config := { maxSteps := 10000000 }) only [EV1, EV2, EV3, EV4, EV5, EV6, addT, istep, lenR_sl, lenR_ns, lenR_es, pickR, putD, bin1R, un1R, slcR, bnd, capsOf, fillP, S_plain, V_plain, V.cells, S_known, V_known, C.v, blk, setL, setH, eqS, eq1, cmpS, cmp1, isNil, popTo, killT, setT, leT, V.below, C.below, S_below, R.below, V.val, C.val, S_val, R.val, R.takes, vals, shows, List.any_cons, List.any_nil, unnamed, V.kill, V.names, C.names, S_names, R.names, List.set, List.replicate, ↓q_cond_t, ↓q_cond_f, if_true, if_false, reduceCtorEq, rvals, rvC, result, C_known, V.noL, C.noL, S_noL, R.noL, Option.map, true_and, and_true, ge_iff_le, gt_iff_lt, implies_true, q_ite_t, q_ite_f, beq_iff_eq, bne_iff_ne, q_ne, Nat.reduceAdd, Nat.reducePow, Int.reducePow, Nat.reduceMul, Nat.reduceSub, Nat.reduceLeDiff, Nat.reduceLT, Nat.reduceEqDiff, Int.reduceNeg, Int.reduceLT, Int.reduceLE, Int.reduceEq, Int.reduceNe, Int.reduceAdd, Int.reduceSub, Int.reduceMul, Int.reduceToNat, Int.reduceBEq, Int.reduceBNe, df21, TCs, rightG, capF, cap_eta, hr, ht', sub, List.take_succ_cons, List.take_zero, List.drop_zero]
      exact hR
    | true =>
    by_cases d1 : n < 1
    case pos =>
      rw [rsl_deep ht hr (.inl d1), setM_self H] at hR
      simp only [RW.v] at hR
      simp only [Cap.cl]
      simp (config := { maxSteps := 10000000 }) only [EV1, EV2, EV3, EV4, EV5, EV6, addT, istep, lenR_sl, lenR_ns, lenR_es, pickR, putD, bin1R, un1R, slcR, bnd, capsOf, fillP, S_plain, V_plain, V.cells, S_known, V_known, C.v, blk, setL, setH, eqS, eq1, cmpS, cmp1, isNil, popTo, killT, setT, leT, V.below, C.below, S_below, R.below, V.val, C.val, S_val, R.val, R.takes, vals, shows, List.any_cons, List.any_nil, unnamed, V.kill, V.names, C.names, S_names, R.names, List.set, List.replicate, ↓q_cond_t, ↓q_cond_f, if_true, if_false, reduceCtorEq, rvals, rvC, result, C_known, V.noL, C.noL, S_noL, R.noL, Option.map, true_and, and_true, ge_iff_le, gt_iff_lt, implies_true, q_ite_t, q_ite_f, beq_iff_eq, bne_iff_ne, q_ne, Nat.reduceAdd, Nat.reducePow, Int.reducePow, Nat.reduceMul, Nat.reduceSub, Nat.reduceLeDiff, Nat.reduceLT, Nat.reduceEqDiff, Int.reduceNeg, Int.reduceLT, Int.reduceLE, Int.reduceEq, Int.reduceNe, Int.reduceAdd, Int.reduceSub, Int.reduceMul, Int.reduceToNat, Int.reduceBEq, Int.reduceBNe, df21, TCs, rightG, capF, cap_eta, hr, ht', d1, sub, List.take_succ_cons, List.take_zero, List.drop_zero]
      exact hR
    by_cases d2 : 32 < n
    case pos =>
      rw [rsl_deep ht hr (.inr d2), setM_self H] at hR
      simp only [RW.v] at hR
      simp only [Cap.cl]
      simp (config := { maxSteps := 10000000 }) only [EV1, EV2, EV3, EV4, EV5, EV6, addT, istep, lenR_sl, lenR_ns, lenR_es, pickR, putD, bin1R, un1R, slcR, bnd, capsOf, fillP, S_plain, V_plain, V.cells, S_known, V_known, C.v, blk, setL, setH, eqS, eq1, cmpS, cmp1, isNil, popTo, killT, setT, leT, V.below, C.below, S_below, R.below, V.val, C.val, S_val, R.val, R.takes, vals, shows, List.any_cons, List.any_nil, unnamed, V.kill, V.names, C.names, S_names, R.names, List.set, List.replicate, ↓q_cond_t, ↓q_cond_f, if_true, if_false, reduceCtorEq, rvals, rvC, result, C_known, V.noL, C.noL, S_noL, R.noL, Option.map, true_and, and_true, ge_iff_le, gt_iff_lt, implies_true, q_ite_t, q_ite_f, beq_iff_eq, bne_iff_ne, q_ne, Nat.reduceAdd, Nat.reducePow, Int.reducePow, Nat.reduceMul, Nat.reduceSub, Nat.reduceLeDiff, Nat.reduceLT, Nat.reduceEqDiff, Int.reduceNeg, Int.reduceLT, Int.reduceLE, Int.reduceEq, Int.reduceNe, Int.reduceAdd, Int.reduceSub, Int.reduceMul, Int.reduceToNat, Int.reduceBEq, Int.reduceBNe, df21, TCs, rightG, capF, cap_eta, hr, ht', d1, d2, sub, List.take_succ_cons, List.take_zero, List.drop_zero]
      exact hR
    rw [rsl_way ht hr (by omega)] at hR
    simp only [Cap.cl]
    simp (config := { maxSteps := 10000000 }) only [EV1, EV2, EV3, EV4, EV5, EV6, addT, istep, lenR_sl, lenR_ns, lenR_es, pickR, putD, bin1R, un1R, slcR, bnd, capsOf, fillP, S_plain, V_plain, V.cells, S_known, V_known, C.v, blk, setL, setH, eqS, eq1, cmpS, cmp1, isNil, popTo, killT, setT, leT, V.below, C.below, S_below, R.below, V.val, C.val, S_val, R.val, R.takes, vals, shows, List.any_cons, List.any_nil, unnamed, V.kill, V.names, C.names, S_names, R.names, List.set, List.replicate, ↓q_cond_t, ↓q_cond_f, if_true, if_false, reduceCtorEq, rvals, rvC, result, C_known, V.noL, C.noL, S_noL, R.noL, Option.map, true_and, and_true, ge_iff_le, gt_iff_lt, implies_true, q_ite_t, q_ite_f, beq_iff_eq, bne_iff_ne, q_ne, Nat.reduceAdd, Nat.reducePow, Int.reducePow, Nat.reduceMul, Nat.reduceSub, Nat.reduceLeDiff, Nat.reduceLT, Nat.reduceEqDiff, Int.reduceNeg, Int.reduceLT, Int.reduceLE, Int.reduceEq, Int.reduceNe, Int.reduceAdd, Int.reduceSub, Int.reduceMul, Int.reduceToNat, Int.reduceBEq, Int.reduceBNe, df21, TCs, rightG, capF, cap_eta, hr, ht', d1, d2, sub, put, List.take_succ_cons, List.take_zero, List.drop_zero]
    have hcm : ∀ m', clean (setM h a b m').length (setM h a b m') = true := fun m' => by rw [setM_len]; exact setM_clean H hc H.ltb
    refine loop_rule (α := M × Cap × Int) [8, 9, 10, 13, 14, 15, 16, 17, 18, 36, 37, 38, 39, 40, 41, 42, 43, 44, 45, 46, 47, 48, 49, 50, 51, 52, 53, 54, 55, 56, 57, 58, 59, 60, 61, 62, 63, 64, 65, 66, 67, 68, 69, 70, 71, 72, 73, 74, 75, 76, 77, 78, 79, 80, 81, 82, 83, 84, 85, 86, 87, 88, 89, 90, 91, 92] (fun x => [(13, .s (.i .i64 x.2.2))]) (fun x => [⟨.rw, c.cl, 11⟩, ⟨.rw, x.2.1.cl, 11⟩]) (fun x => setM h a b x.1)
      (fun x => rightB x.2.1 = true ∧ x.2.1.ty = 2 ∧ 0 < x.2.2 ∧ x.2.2 ≤ 32 ∧ ∃ f : Nat, x.2.2 ≤ f ∧ K (way true w f x.1 x.2.1 x.2.2).v (setM h a b (way true w f x.1 x.2.1 x.2.2).m)) (fun x => x.2.2.toNat) (m, c, n) ?_ ?_ ?_
    · exact ⟨hr, ht, by show 0 < n; omega, by show n ≤ 32; omega, 32, by show n ≤ 32; omega, hR⟩
    · refine Wk.same rfl (setM_self H).symm ?_
      simp (config := { maxSteps := 10000000 }) only [EV1, EV2, EV3, EV4, EV5, EV6, addT, istep, lenR_sl, lenR_ns, lenR_es, pickR, putD, bin1R, un1R, slcR, bnd, capsOf, fillP, S_plain, V_plain, V.cells, S_known, V_known, C.v, blk, setL, setH, eqS, eq1, cmpS, cmp1, isNil, popTo, killT, setT, leT, V.below, C.below, S_below, R.below, V.val, C.val, S_val, R.val, R.takes, vals, shows, List.any_cons, List.any_nil, unnamed, V.kill, V.names, C.names, S_names, R.names, List.set, List.replicate, ↓q_cond_t, ↓q_cond_f, if_true, if_false, reduceCtorEq, rvals, rvC, result, C_known, V.noL, C.noL, S_noL, R.noL, Option.map, true_and, and_true, ge_iff_le, gt_iff_lt, implies_true, q_ite_t, q_ite_f, beq_iff_eq, bne_iff_ne, q_ne, Nat.reduceAdd, Nat.reducePow, Int.reducePow, Nat.reduceMul, Nat.reduceSub, Nat.reduceLeDiff, Nat.reduceLT, Nat.reduceEqDiff, Int.reduceNeg, Int.reduceLT, Int.reduceLE, Int.reduceEq, Int.reduceNe, Int.reduceAdd, Int.reduceSub, Int.reduceMul, Int.reduceToNat, Int.reduceBEq, Int.reduceBNe]
    · rintro X ⟨m', c', n'⟩ ⟨hr', ht', hn0, hn1, f, hf, hK⟩ IH
      simp only at hr' ht' hn0 hn1 hf hK
      obtain ⟨f, rfl⟩ : ∃ g, f = g + 1 := ⟨f - 1, by omega⟩
      obtain ⟨hb1, hb2, RB⟩ := node_facts hr' ht'
      have hg := RB.gbits
      have ho := RB.obj
      have ha := wayA_le (w := w) (n := n') hr' ht'
      have i1 := someB_le (w := w) (n := n' - c'.gbits - c'.bits) (k := c'.bits) ⟨by omega, hb2⟩
      have b1 : (0 : Int) ≤ c'.gbits ∧ c'.gbits ≤ 31 ∧ 0 ≤ n' ∧ n' ≤ 32 := by omega
      have b2 : 0 ≤ c'.bits ∧ c'.bits ≤ 31 := by omega
      by_cases g1 : n' < c'.gbits
      · simp only [way, g1, if_true] at hK
        simp only [RW.v] at hK
        refine run_sound (Tab.ok_Γ _) 200 _ _ _ _ ?_
        simp (config := { maxSteps := 10000000 }) only [EV1, EV2, EV3, EV4, EV5, EV6, addT, istep, lenR_sl, lenR_ns, lenR_es, pickR, putD, bin1R, un1R, slcR, bnd, capsOf, fillP, S_plain, V_plain, V.cells, S_known, V_known, C.v, blk, setL, setH, eqS, eq1, cmpS, cmp1, isNil, popTo, killT, setT, leT, V.below, C.below, S_below, R.below, V.val, C.val, S_val, R.val, R.takes, vals, shows, List.any_cons, List.any_nil, unnamed, V.kill, V.names, C.names, S_names, R.names, List.set, List.replicate, ↓q_cond_t, ↓q_cond_f, if_true, if_false, reduceCtorEq, rvals, rvC, result, C_known, V.noL, C.noL, S_noL, R.noL, Option.map, true_and, and_true, ge_iff_le, gt_iff_lt, implies_true, q_ite_t, q_ite_f, beq_iff_eq, bne_iff_ne, q_ne, Nat.reduceAdd, Nat.reducePow, Int.reducePow, Nat.reduceMul, Nat.reduceSub, Nat.reduceLeDiff, Nat.reduceLT, Nat.reduceEqDiff, Int.reduceNeg, Int.reduceLT, Int.reduceLE, Int.reduceEq, Int.reduceNe, Int.reduceAdd, Int.reduceSub, Int.reduceMul, Int.reduceToNat, Int.reduceBEq, Int.reduceBNe, TCs, bitsG, g1, b1, hu, Cap.cl, Blk.ren, List.map_cons, List.map_nil]
        exact hK
      have v1 : IntKind.i64.wrap (n' - c'.gbits) = n' - c'.gbits := wrap64 (by omega) (by omega)
      have v2 : IntKind.i64.wrap (n' - c'.gbits - c'.bits) = n' - c'.gbits - c'.bits := wrap64 (by omega) (by omega)
      have b3 : 0 ≤ n' - c'.gbits ∧ n' - c'.gbits ≤ 32 := by omega
      by_cases g2 : someB w (n' - c'.gbits) c'.gbits = c'.guard
      case neg =>
        simp only [way, g1, g2, if_true, if_false, not_false_eq_true] at hK
        simp only [RW.v] at hK
        have g2' : (someB w (n' - c'.gbits) c'.gbits != c'.guard) = true := by simpa using g2
        refine run_sound (Tab.ok_Γ _) 200 _ _ _ _ ?_
        simp (config := { maxSteps := 10000000 }) only [EV1, EV2, EV3, EV4, EV5, EV6, addT, istep, lenR_sl, lenR_ns, lenR_es, pickR, putD, bin1R, un1R, slcR, bnd, capsOf, fillP, S_plain, V_plain, V.cells, S_known, V_known, C.v, blk, setL, setH, eqS, eq1, cmpS, cmp1, isNil, popTo, killT, setT, leT, V.below, C.below, S_below, R.below, V.val, C.val, S_val, R.val, R.takes, vals, shows, List.any_cons, List.any_nil, unnamed, V.kill, V.names, C.names, S_names, R.names, List.set, List.replicate, ↓q_cond_t, ↓q_cond_f, if_true, if_false, reduceCtorEq, rvals, rvC, result, C_known, V.noL, C.noL, S_noL, R.noL, Option.map, true_and, and_true, ge_iff_le, gt_iff_lt, implies_true, q_ite_t, q_ite_f, beq_iff_eq, bne_iff_ne, q_ne, Nat.reduceAdd, Nat.reducePow, Int.reducePow, Nat.reduceMul, Nat.reduceSub, Nat.reduceLeDiff, Nat.reduceLT, Nat.reduceEqDiff, Int.reduceNeg, Int.reduceLT, Int.reduceLE, Int.reduceEq, Int.reduceNe, Int.reduceAdd, Int.reduceSub, Int.reduceMul, Int.reduceToNat, Int.reduceBEq, Int.reduceBNe, TCs, bitsG, g1, b1, b3, v1, hu, g2', Cap.cl, Blk.ren, List.map_cons, List.map_nil]
        exact hK
      have g2' : (someB w (n' - c'.gbits) c'.gbits != c'.guard) = false := by simpa using g2
      have b5 : 0 ≤ n' - c'.gbits - c'.bits ∨ n' - c'.gbits < c'.bits := by omega
      by_cases g3 : n' - c'.gbits < c'.bits
      · simp only [way, g1, g2, g3, if_true, if_false, not_true_eq_false] at hK
        simp only [RW.v] at hK
        refine run_sound (Tab.ok_Γ _) 200 _ _ _ _ ?_
        simp (config := { maxSteps := 10000000 }) only [EV1, EV2, EV3, EV4, EV5, EV6, addT, istep, lenR_sl, lenR_ns, lenR_es, pickR, putD, bin1R, un1R, slcR, bnd, capsOf, fillP, S_plain, V_plain, V.cells, S_known, V_known, C.v, blk, setL, setH, eqS, eq1, cmpS, cmp1, isNil, popTo, killT, setT, leT, V.below, C.below, S_below, R.below, V.val, C.val, S_val, R.val, R.takes, vals, shows, List.any_cons, List.any_nil, unnamed, V.kill, V.names, C.names, S_names, R.names, List.set, List.replicate, ↓q_cond_t, ↓q_cond_f, if_true, if_false, reduceCtorEq, rvals, rvC, result, C_known, V.noL, C.noL, S_noL, R.noL, Option.map, true_and, and_true, ge_iff_le, gt_iff_lt, implies_true, q_ite_t, q_ite_f, beq_iff_eq, bne_iff_ne, q_ne, Nat.reduceAdd, Nat.reducePow, Int.reducePow, Nat.reduceMul, Nat.reduceSub, Nat.reduceLeDiff, Nat.reduceLT, Nat.reduceEqDiff, Int.reduceNeg, Int.reduceLT, Int.reduceLE, Int.reduceEq, Int.reduceNe, Int.reduceAdd, Int.reduceSub, Int.reduceMul, Int.reduceToNat, Int.reduceBEq, Int.reduceBNe, TCs, bitsG, g1, b1, b2, b3, v1, hu, g2', g3, Cap.cl, Blk.ren, List.map_cons, List.map_nil]
        exact hK
      have b4 : 0 ≤ n' - c'.gbits - c'.bits ∧ n' - c'.gbits - c'.bits ≤ 32 := by omega
      have w4 : IntKind.i64.wrap (4 * someB w (n' - c'.gbits - c'.bits) c'.bits) = 4 * someB w (n' - c'.gbits - c'.bits) c'.bits := wrap64 (by omega) (by omega)
      have w5 : IntKind.i64.wrap (c'.obj + 4 * someB w (n' - c'.gbits - c'.bits) c'.bits) = wayA w c' n' := wrap64 (by omega) (by omega)
      obtain ⟨s, hs⟩ : ∃ s, m'.getV (wayA w c' n') = s := ⟨_, rfl⟩
      obtain ⟨e, he⟩ : ∃ e, m'.getE (wayA w c' n') = e := ⟨_, rfl⟩
      have hsr : e = 0 → rightB s.cap = true := fun h0 => by rw [← hs]; exact M.getV_right (he.trans h0)
      by_cases g4 : n' - c'.gbits - c'.bits = 0
      · simp only [way, g1, g2, g3, g4, if_true, if_false, not_true_eq_false, Bool.false_eq_true] at hK
        simp only [RW.v] at hK
        have g4' : (n' - c'.gbits - c'.bits == 0) = true := by simpa using g4
        refine run_sound (Tab.ok_Γ _) 300 _ _ _ _ ?_
        simp (config := { maxSteps := 10000000 }) only [EV1, EV2, EV3, EV4, EV5, EV6, addT, istep, lenR_sl, lenR_ns, lenR_es, pickR, putD, bin1R, un1R, slcR, bnd, capsOf, fillP, S_plain, V_plain, V.cells, S_known, V_known, C.v, blk, setL, setH, eqS, eq1, cmpS, cmp1, isNil, popTo, killT, setT, leT, V.below, C.below, S_below, R.below, V.val, C.val, S_val, R.val, R.takes, vals, shows, List.any_cons, List.any_nil, unnamed, V.kill, V.names, C.names, S_names, R.names, List.set, List.replicate, ↓q_cond_t, ↓q_cond_f, if_true, if_false, reduceCtorEq, rvals, rvC, result, C_known, V.noL, C.noL, S_noL, R.noL, Option.map, true_and, and_true, ge_iff_le, gt_iff_lt, implies_true, q_ite_t, q_ite_f, beq_iff_eq, bne_iff_ne, q_ne, Nat.reduceAdd, Nat.reducePow, Int.reducePow, Nat.reduceMul, Nat.reduceSub, Nat.reduceLeDiff, Nat.reduceLT, Nat.reduceEqDiff, Int.reduceNeg, Int.reduceLT, Int.reduceLE, Int.reduceEq, Int.reduceNe, Int.reduceAdd, Int.reduceSub, Int.reduceMul, Int.reduceToNat, Int.reduceBEq, Int.reduceBNe, TCs, bitsG, g1, b1, b2, b3, b4, v1, v2, hu, g2', g3, w4, w5, g4', get2G, memF_set H, get2M, he, hs, Slot.cl, Cap.cl, sub, put, List.take_succ_cons, List.take_zero, List.drop_zero]
        rw [g4]
        exact hK
      have g4' : (n' - c'.gbits - c'.bits == 0) = false := by simpa using g4
      by_cases g5 : e = 0
      case neg =>
        simp only [way, g1, g2, g3, g4, he, hs, g5, if_true, if_false, not_true_eq_false, false_and] at hK
        simp only [RW.v] at hK
        have g5' : (e != 0) = true := by simpa using g5
        refine run_sound (Tab.ok_Γ _) 300 _ _ _ _ ?_
        simp (config := { maxSteps := 10000000 }) only [EV1, EV2, EV3, EV4, EV5, EV6, addT, istep, lenR_sl, lenR_ns, lenR_es, pickR, putD, bin1R, un1R, slcR, bnd, capsOf, fillP, S_plain, V_plain, V.cells, S_known, V_known, C.v, blk, setL, setH, eqS, eq1, cmpS, cmp1, isNil, popTo, killT, setT, leT, V.below, C.below, S_below, R.below, V.val, C.val, S_val, R.val, R.takes, vals, shows, List.any_cons, List.any_nil, unnamed, V.kill, V.names, C.names, S_names, R.names, List.set, List.replicate, ↓q_cond_t, ↓q_cond_f, if_true, if_false, reduceCtorEq, rvals, rvC, result, C_known, V.noL, C.noL, S_noL, R.noL, Option.map, true_and, and_true, ge_iff_le, gt_iff_lt, implies_true, q_ite_t, q_ite_f, beq_iff_eq, bne_iff_ne, q_ne, Nat.reduceAdd, Nat.reducePow, Int.reducePow, Nat.reduceMul, Nat.reduceSub, Nat.reduceLeDiff, Nat.reduceLT, Nat.reduceEqDiff, Int.reduceNeg, Int.reduceLT, Int.reduceLE, Int.reduceEq, Int.reduceNe, Int.reduceAdd, Int.reduceSub, Int.reduceMul, Int.reduceToNat, Int.reduceBEq, Int.reduceBNe, TCs, bitsG, g1, b1, b2, b3, b4, v1, v2, hu, g2', g3, w4, w5, g4', get2G, memF_set H, get2M, he, hs, g5', Slot.cl, Cap.cl, sub, put, List.take_succ_cons, List.take_zero, List.drop_zero, Blk.ren, List.map_cons, List.map_nil]
        exact hK
      have g5' : (e != 0) = false := by simpa using g5
      by_cases g6 : s.cap.ty = 2
      case neg =>
        simp only [way, g1, g2, g3, g4, he, hs, g5, g6, if_true, if_false, not_true_eq_false, and_false] at hK
        simp only [RW.v] at hK
        have g6' : (s.cap.ty != 2) = true := by simpa using g6
        refine run_sound (Tab.ok_Γ _) 300 _ _ _ _ ?_
        simp (config := { maxSteps := 10000000 }) only [EV1, EV2, EV3, EV4, EV5, EV6, addT, istep, lenR_sl, lenR_ns, lenR_es, pickR, putD, bin1R, un1R, slcR, bnd, capsOf, fillP, S_plain, V_plain, V.cells, S_known, V_known, C.v, blk, setL, setH, eqS, eq1, cmpS, cmp1, isNil, popTo, killT, setT, leT, V.below, C.below, S_below, R.below, V.val, C.val, S_val, R.val, R.takes, vals, shows, List.any_cons, List.any_nil, unnamed, V.kill, V.names, C.names, S_names, R.names, List.set, List.replicate, ↓q_cond_t, ↓q_cond_f, if_true, if_false, reduceCtorEq, rvals, rvC, result, C_known, V.noL, C.noL, S_noL, R.noL, Option.map, true_and, and_true, ge_iff_le, gt_iff_lt, implies_true, q_ite_t, q_ite_f, beq_iff_eq, bne_iff_ne, q_ne, Nat.reduceAdd, Nat.reducePow, Int.reducePow, Nat.reduceMul, Nat.reduceSub, Nat.reduceLeDiff, Nat.reduceLT, Nat.reduceEqDiff, Int.reduceNeg, Int.reduceLT, Int.reduceLE, Int.reduceEq, Int.reduceNe, Int.reduceAdd, Int.reduceSub, Int.reduceMul, Int.reduceToNat, Int.reduceBEq, Int.reduceBNe, TCs, bitsG, g1, b1, b2, b3, b4, v1, v2, hu, g2', g3, w4, w5, g4', get2G, memF_set H, get2M, he, hs, g5', g6', Slot.cl, Cap.cl, sub, put, List.take_succ_cons, List.take_zero, List.drop_zero, Blk.ren, List.map_cons, List.map_nil]
        exact hK
      have g6' : (s.cap.ty != 2) = false := by simpa using g6
      simp only [way, g1, g2, g3, g4, he, hs, g5, g6, if_true, if_false, not_true_eq_false, and_true] at hK
      refine run_sound (Tab.ok_Γ _) 300 _ _ _ _ ?_
      simp (config := { maxSteps := 10000000 }) only [EV1, EV2, EV3, EV4, EV5, EV6, addT, istep, lenR_sl, lenR_ns, lenR_es, pickR, putD, bin1R, un1R, slcR, bnd, capsOf, fillP, S_plain, V_plain, V.cells, S_known, V_known, C.v, blk, setL, setH, eqS, eq1, cmpS, cmp1, isNil, popTo, killT, setT, leT, V.below, C.below, S_below, R.below, V.val, C.val, S_val, R.val, R.takes, vals, shows, List.any_cons, List.any_nil, unnamed, V.kill, V.names, C.names, S_names, R.names, List.set, List.replicate, ↓q_cond_t, ↓q_cond_f, if_true, if_false, reduceCtorEq, rvals, rvC, result, C_known, V.noL, C.noL, S_noL, R.noL, Option.map, true_and, and_true, ge_iff_le, gt_iff_lt, implies_true, q_ite_t, q_ite_f, beq_iff_eq, bne_iff_ne, q_ne, Nat.reduceAdd, Nat.reducePow, Int.reducePow, Nat.reduceMul, Nat.reduceSub, Nat.reduceLeDiff, Nat.reduceLT, Nat.reduceEqDiff, Int.reduceNeg, Int.reduceLT, Int.reduceLE, Int.reduceEq, Int.reduceNe, Int.reduceAdd, Int.reduceSub, Int.reduceMul, Int.reduceToNat, Int.reduceBEq, Int.reduceBNe, TCs, bitsG, g1, b1, b2, b3, b4, v1, v2, hu, g2', g3, w4, w5, g4', get2G, memF_set H, get2M, he, hs, g5', g6', Slot.cl, Cap.cl, sub, put, List.take_succ_cons, List.take_zero, List.drop_zero, Blk.ren, List.map_cons, List.map_nil]
      refine IH (m'.getX (wayA w c' n'), s.cap, n' - c'.gbits - c'.bits) _ ?_ ⟨hsr g5, g6, ?_, ?_, f, ?_, hK⟩ ?_
      · show (n' - c'.gbits - c'.bits).toNat < n'.toNat
        omega
      · show 0 < n' - c'.gbits - c'.bits
        omega
      · show n' - c'.gbits - c'.bits ≤ 32
        omega
      · show n' - c'.gbits - c'.bits ≤ f
        omega
      · refine Wk.keep 2 rfl rfl ?_ ?_ ?_
        all_goals simp (config := { maxSteps := 10000000 }) only [EV1, EV2, EV3, EV4, EV5, EV6, addT, istep, lenR_sl, lenR_ns, lenR_es, pickR, putD, bin1R, un1R, slcR, bnd, capsOf, fillP, S_plain, V_plain, V.cells, S_known, V_known, C.v, blk, setL, setH, eqS, eq1, cmpS, cmp1, isNil, popTo, killT, setT, leT, V.below, C.below, S_below, R.below, V.val, C.val, S_val, R.val, R.takes, vals, shows, List.any_cons, List.any_nil, unnamed, V.kill, V.names, C.names, S_names, R.names, List.set, List.replicate, ↓q_cond_t, ↓q_cond_f, if_true, if_false, reduceCtorEq, rvals, rvC, result, C_known, V.noL, C.noL, S_noL, R.noL, Option.map, true_and, and_true, ge_iff_le, gt_iff_lt, implies_true, q_ite_t, q_ite_f, beq_iff_eq, bne_iff_ne, q_ne, Nat.reduceAdd, Nat.reducePow, Int.reducePow, Nat.reduceMul, Nat.reduceSub, Nat.reduceLeDiff, Nat.reduceLT, Nat.reduceEqDiff, Int.reduceNeg, Int.reduceLT, Int.reduceLE, Int.reduceEq, Int.reduceNe, Int.reduceAdd, Int.reduceSub, Int.reduceMul, Int.reduceToNat, Int.reduceBEq, Int.reduceBNe, Cap.cl]
  · exact hS.elim
end Go.Proofs.Ytdlloccodmdnnaa

/- Cspace: Slot, Cap, Mask; the examples' caps. -/
namespace Go.Proofs.Ytdlloccodmdnnaa
open Go.D
set_option linter.all false
set_option maxRecDepth 100000
set_option maxHeartbeats 8000000

def RW.slE (x : RW) : Int := if x.e = 0 then (if 0 < x.l then 101 else 0) else x.e
def RW.slV (x : RW) : Int := if x.e = 0 then (if 0 < x.l then 0 else x.s) else 0
def sltM (d : Bool) (b : Nat) (m : M) (st : M → List Blk) : List V → Res
  | [x, .s (.i .u64 w), .s (.i .i64 n)] => capF (fun c => .ob (u64 w) (.ok (.tup [.s (.i .i64 (rsl d m c w n).slV), .s (.i .i64 (rsl d m c w n).slE)]) [] (st (rsl d m c w n).m))) [x]
  | _ => .bad
noncomputable def sltG (d : Bool) := memF (sltM d)
noncomputable def Tslt_snd : Tab := addT 16 (rslG false) (noT)
theorem Tslt_snd_snd : Tslt_snd.Snd Try.prog := addT_snd ok16 rsl_snd ((noT_snd _))
theorem slt_snd : Snd Try.prog 22 (FSpec.of (sltG false)) := snd_run Tslt_snd_snd mixed Try.func22 dc22 300 fun args h K hc hS => by
  obtain ⟨a, b, m, rest, rfl, H, hS1⟩ := memF_spec hS
  clear hS
  have hS := hS1
  clear hS1
  unfold sltM at hS
  split at hS
  · rename_i x w n
    obtain ⟨c, e, hu, hR⟩ := capF_spec hS
    clear hS
    simp only [List.cons.injEq, and_true] at e
    subst e
    simp only [spec_ok, RW.slE, RW.slV] at hR
    obtain ⟨y, hy⟩ : ∃ y, rsl false m c w n = y := ⟨_, rfl⟩
    rw [hy] at hR
    simp only [Cap.cl]
    by_cases h1 : y.e = 0
    · have h1' : (y.e != 0) = false := by simpa using h1
      simp only [h1, if_true] at hR
      by_cases h2 : 0 < y.l
      · simp only [h2, if_true] at hR
        simp (config := { maxSteps := 10000000 }) only [EV1, EV2, EV3, EV4, EV5, EV6, addT, istep, lenR_sl, lenR_ns, lenR_es, pickR, putD, bin1R, un1R, slcR, bnd, capsOf, fillP, S_plain, V_plain, V.cells, S_known, V_known, C.v, blk, setL, setH, eqS, eq1, cmpS, cmp1, isNil, popTo, killT, setT, leT, V.below, C.below, S_below, R.below, V.val, C.val, S_val, R.val, R.takes, vals, shows, List.any_cons, List.any_nil, unnamed, V.kill, V.names, C.names, S_names, R.names, List.set, List.replicate, ↓q_cond_t, ↓q_cond_f, if_true, if_false, reduceCtorEq, rvals, rvC, result, C_known, V.noL, C.noL, S_noL, R.noL, Option.map, true_and, and_true, ge_iff_le, gt_iff_lt, implies_true, q_ite_t, q_ite_f, beq_iff_eq, bne_iff_ne, q_ne, Nat.reduceAdd, Nat.reducePow, Int.reducePow, Nat.reduceMul, Nat.reduceSub, Nat.reduceLeDiff, Nat.reduceLT, Nat.reduceEqDiff, Int.reduceNeg, Int.reduceLT, Int.reduceLE, Int.reduceEq, Int.reduceNe, Int.reduceAdd, Int.reduceSub, Int.reduceMul, Int.reduceToNat, Int.reduceBEq, Int.reduceBNe, df22, Tslt_snd, rslG, memF_eq H, rslM, capF, cap_eta, hu, hy, RW.v, h1, h2, sub, List.take_succ_cons, List.take_zero, List.drop_zero]
        exact hR
      · simp only [h2, if_false] at hR
        simp (config := { maxSteps := 10000000 }) only [EV1, EV2, EV3, EV4, EV5, EV6, addT, istep, lenR_sl, lenR_ns, lenR_es, pickR, putD, bin1R, un1R, slcR, bnd, capsOf, fillP, S_plain, V_plain, V.cells, S_known, V_known, C.v, blk, setL, setH, eqS, eq1, cmpS, cmp1, isNil, popTo, killT, setT, leT, V.below, C.below, S_below, R.below, V.val, C.val, S_val, R.val, R.takes, vals, shows, List.any_cons, List.any_nil, unnamed, V.kill, V.names, C.names, S_names, R.names, List.set, List.replicate, ↓q_cond_t, ↓q_cond_f, if_true, if_false, reduceCtorEq, rvals, rvC, result, C_known, V.noL, C.noL, S_noL, R.noL, Option.map, true_and, and_true, ge_iff_le, gt_iff_lt, implies_true, q_ite_t, q_ite_f, beq_iff_eq, bne_iff_ne, q_ne, Nat.reduceAdd, Nat.reducePow, Int.reducePow, Nat.reduceMul, Nat.reduceSub, Nat.reduceLeDiff, Nat.reduceLT, Nat.reduceEqDiff, Int.reduceNeg, Int.reduceLT, Int.reduceLE, Int.reduceEq, Int.reduceNe, Int.reduceAdd, Int.reduceSub, Int.reduceMul, Int.reduceToNat, Int.reduceBEq, Int.reduceBNe, df22, Tslt_snd, rslG, memF_eq H, rslM, capF, cap_eta, hu, hy, RW.v, h1, h2, sub, List.take_succ_cons, List.take_zero, List.drop_zero]
        exact hR
    · have h1' : (y.e != 0) = true := by simpa using h1
      simp only [h1, if_false] at hR
      simp (config := { maxSteps := 10000000 }) only [EV1, EV2, EV3, EV4, EV5, EV6, addT, istep, lenR_sl, lenR_ns, lenR_es, pickR, putD, bin1R, un1R, slcR, bnd, capsOf, fillP, S_plain, V_plain, V.cells, S_known, V_known, C.v, blk, setL, setH, eqS, eq1, cmpS, cmp1, isNil, popTo, killT, setT, leT, V.below, C.below, S_below, R.below, V.val, C.val, S_val, R.val, R.takes, vals, shows, List.any_cons, List.any_nil, unnamed, V.kill, V.names, C.names, S_names, R.names, List.set, List.replicate, ↓q_cond_t, ↓q_cond_f, if_true, if_false, reduceCtorEq, rvals, rvC, result, C_known, V.noL, C.noL, S_noL, R.noL, Option.map, true_and, and_true, ge_iff_le, gt_iff_lt, implies_true, q_ite_t, q_ite_f, beq_iff_eq, bne_iff_ne, q_ne, Nat.reduceAdd, Nat.reducePow, Int.reducePow, Nat.reduceMul, Nat.reduceSub, Nat.reduceLeDiff, Nat.reduceLT, Nat.reduceEqDiff, Int.reduceNeg, Int.reduceLT, Int.reduceLE, Int.reduceEq, Int.reduceNe, Int.reduceAdd, Int.reduceSub, Int.reduceMul, Int.reduceToNat, Int.reduceBEq, Int.reduceBNe, df22, Tslt_snd, rslG, memF_eq H, rslM, capF, cap_eta, hu, hy, RW.v, h1, h1', sub, List.take_succ_cons, List.take_zero, List.drop_zero]
      exact hR
  · exact hS.elim
noncomputable def Trslt_snd : Tab := addT 21 (rslG true) (noT)
theorem Trslt_snd_snd : Trslt_snd.Snd Try.prog := addT_snd ok21 rrsl_snd ((noT_snd _))
theorem rslt_snd : Snd Try.prog 23 (FSpec.of (sltG true)) := snd_run Trslt_snd_snd mixed Try.func23 dc23 300 fun args h K hc hS => by
  obtain ⟨a, b, m, rest, rfl, H, hS1⟩ := memF_spec hS
  clear hS
  have hS := hS1
  clear hS1
  unfold sltM at hS
  split at hS
  · rename_i x w n
    obtain ⟨c, e, hu, hR⟩ := capF_spec hS
    clear hS
    simp only [List.cons.injEq, and_true] at e
    subst e
    simp only [spec_ok, RW.slE, RW.slV] at hR
    obtain ⟨y, hy⟩ : ∃ y, rsl true m c w n = y := ⟨_, rfl⟩
    rw [hy] at hR
    simp only [Cap.cl]
    by_cases h1 : y.e = 0
    · have h1' : (y.e != 0) = false := by simpa using h1
      simp only [h1, if_true] at hR
      by_cases h2 : 0 < y.l
      · simp only [h2, if_true] at hR
        simp (config := { maxSteps := 10000000 }) only [EV1, EV2, EV3, EV4, EV5, EV6, addT, istep, lenR_sl, lenR_ns, lenR_es, pickR, putD, bin1R, un1R, slcR, bnd, capsOf, fillP, S_plain, V_plain, V.cells, S_known, V_known, C.v, blk, setL, setH, eqS, eq1, cmpS, cmp1, isNil, popTo, killT, setT, leT, V.below, C.below, S_below, R.below, V.val, C.val, S_val, R.val, R.takes, vals, shows, List.any_cons, List.any_nil, unnamed, V.kill, V.names, C.names, S_names, R.names, List.set, List.replicate, ↓q_cond_t, ↓q_cond_f, if_true, if_false, reduceCtorEq, rvals, rvC, result, C_known, V.noL, C.noL, S_noL, R.noL, Option.map, true_and, and_true, ge_iff_le, gt_iff_lt, implies_true, q_ite_t, q_ite_f, beq_iff_eq, bne_iff_ne, q_ne, Nat.reduceAdd, Nat.reducePow, Int.reducePow, Nat.reduceMul, Nat.reduceSub, Nat.reduceLeDiff, Nat.reduceLT, Nat.reduceEqDiff, Int.reduceNeg, Int.reduceLT, Int.reduceLE, Int.reduceEq, Int.reduceNe, Int.reduceAdd, Int.reduceSub, Int.reduceMul, Int.reduceToNat, Int.reduceBEq, Int.reduceBNe, df23, Trslt_snd, rslG, memF_eq H, rslM, capF, cap_eta, hu, hy, RW.v, h1, h2, sub, List.take_succ_cons, List.take_zero, List.drop_zero]
        exact hR
      · simp only [h2, if_false] at hR
        simp (config := { maxSteps := 10000000 }) only [EV1, EV2, EV3, EV4, EV5, EV6, addT, istep, lenR_sl, lenR_ns, lenR_es, pickR, putD, bin1R, un1R, slcR, bnd, capsOf, fillP, S_plain, V_plain, V.cells, S_known, V_known, C.v, blk, setL, setH, eqS, eq1, cmpS, cmp1, isNil, popTo, killT, setT, leT, V.below, C.below, S_below, R.below, V.val, C.val, S_val, R.val, R.takes, vals, shows, List.any_cons, List.any_nil, unnamed, V.kill, V.names, C.names, S_names, R.names, List.set, List.replicate, ↓q_cond_t, ↓q_cond_f, if_true, if_false, reduceCtorEq, rvals, rvC, result, C_known, V.noL, C.noL, S_noL, R.noL, Option.map, true_and, and_true, ge_iff_le, gt_iff_lt, implies_true, q_ite_t, q_ite_f, beq_iff_eq, bne_iff_ne, q_ne, Nat.reduceAdd, Nat.reducePow, Int.reducePow, Nat.reduceMul, Nat.reduceSub, Nat.reduceLeDiff, Nat.reduceLT, Nat.reduceEqDiff, Int.reduceNeg, Int.reduceLT, Int.reduceLE, Int.reduceEq, Int.reduceNe, Int.reduceAdd, Int.reduceSub, Int.reduceMul, Int.reduceToNat, Int.reduceBEq, Int.reduceBNe, df23, Trslt_snd, rslG, memF_eq H, rslM, capF, cap_eta, hu, hy, RW.v, h1, h2, sub, List.take_succ_cons, List.take_zero, List.drop_zero]
        exact hR
    · have h1' : (y.e != 0) = true := by simpa using h1
      simp only [h1, if_false] at hR
      simp (config := { maxSteps := 10000000 }) only [EV1, EV2, EV3, EV4, EV5, EV6, addT, istep, lenR_sl, lenR_ns, lenR_es, pickR, putD, bin1R, un1R, slcR, bnd, capsOf, fillP, S_plain, V_plain, V.cells, S_known, V_known, C.v, blk, setL, setH, eqS, eq1, cmpS, cmp1, isNil, popTo, killT, setT, leT, V.below, C.below, S_below, R.below, V.val, C.val, S_val, R.val, R.takes, vals, shows, List.any_cons, List.any_nil, unnamed, V.kill, V.names, C.names, S_names, R.names, List.set, List.replicate, ↓q_cond_t, ↓q_cond_f, if_true, if_false, reduceCtorEq, rvals, rvC, result, C_known, V.noL, C.noL, S_noL, R.noL, Option.map, true_and, and_true, ge_iff_le, gt_iff_lt, implies_true, q_ite_t, q_ite_f, beq_iff_eq, bne_iff_ne, q_ne, Nat.reduceAdd, Nat.reducePow, Int.reducePow, Nat.reduceMul, Nat.reduceSub, Nat.reduceLeDiff, Nat.reduceLT, Nat.reduceEqDiff, Int.reduceNeg, Int.reduceLT, Int.reduceLE, Int.reduceEq, Int.reduceNe, Int.reduceAdd, Int.reduceSub, Int.reduceMul, Int.reduceToNat, Int.reduceBEq, Int.reduceBNe, df23, Trslt_snd, rslG, memF_eq H, rslM, capF, cap_eta, hu, hy, RW.v, h1, h1', sub, List.take_succ_cons, List.take_zero, List.drop_zero]
      exact hR
  · exact hS.elim

/-- What a cap's lookup tells. -/
structure RC where
  c : Cap
  s : Int
  e : Int
  m : M
def RC.v (x : RC) : V := .tup [.agg x.c.cl, .s (.i .i64 x.s), .s (.i .i64 x.e)]
def RW.cap (x : RW) : RC :=
  if ¬ x.e = 0 then ⟨capZ, 0, x.e, x.m⟩
  else if ¬ x.m.getE x.s = 0 then ⟨capZ, 0, 100, x.m.getX x.s⟩
  else if (x.m.getV x.s).cap.ty = 0 then ⟨capZ, 0, 100, x.m.getX x.s⟩
  else ⟨(x.m.getV x.s).cap, x.s, 0, x.m.getX x.s⟩
def capOM (d : Bool) (b : Nat) (m : M) (st : M → List Blk) : List V → Res
  | [x, .s (.i .u64 w)] => capF (fun c => .ob (u64 w) (.ok (rsl d m c w 32).cap.v [] (st (rsl d m c w 32).cap.m))) [x]
  | _ => .bad
noncomputable def capOG (d : Bool) := memF (capOM d)
noncomputable def TcapO_snd : Tab := addT 16 (rslG false) (addT 57 get2G (noT))
theorem TcapO_snd_snd : TcapO_snd.Snd Try.prog := addT_snd ok16 rsl_snd (addT_snd ok57 get2_snd ((noT_snd _)))
theorem capO_snd : Snd Try.prog 24 (FSpec.of (capOG false)) := snd_run TcapO_snd_snd mixed Try.func24 dc24 300 fun args h K hc hS => by
  obtain ⟨a, b, m, rest, rfl, H, hS1⟩ := memF_spec hS
  clear hS
  have hS := hS1
  clear hS1
  unfold capOM at hS
  split at hS
  · rename_i x w
    obtain ⟨c, e, hu, hR⟩ := capF_spec hS
    clear hS
    simp only [List.cons.injEq, and_true] at e
    subst e
    simp only [spec_ok, RW.cap] at hR
    obtain ⟨y, hy⟩ : ∃ y, rsl false m c w 32 = y := ⟨_, rfl⟩
    rw [hy] at hR
    simp only [Cap.cl]
    by_cases h1 : y.e = 0
    case neg =>
      have h1' : (y.e != 0) = true := by simpa using h1
      simp only [h1, not_false_eq_true, if_true, RC.v, Cap.cl, capZ] at hR
      simp (config := { maxSteps := 10000000 }) only [EV1, EV2, EV3, EV4, EV5, EV6, addT, istep, lenR_sl, lenR_ns, lenR_es, pickR, putD, bin1R, un1R, slcR, bnd, capsOf, fillP, S_plain, V_plain, V.cells, S_known, V_known, C.v, blk, setL, setH, eqS, eq1, cmpS, cmp1, isNil, popTo, killT, setT, leT, V.below, C.below, S_below, R.below, V.val, C.val, S_val, R.val, R.takes, vals, shows, List.any_cons, List.any_nil, unnamed, V.kill, V.names, C.names, S_names, R.names, List.set, List.replicate, ↓q_cond_t, ↓q_cond_f, if_true, if_false, reduceCtorEq, rvals, rvC, result, C_known, V.noL, C.noL, S_noL, R.noL, Option.map, true_and, and_true, ge_iff_le, gt_iff_lt, implies_true, q_ite_t, q_ite_f, beq_iff_eq, bne_iff_ne, q_ne, Nat.reduceAdd, Nat.reducePow, Int.reducePow, Nat.reduceMul, Nat.reduceSub, Nat.reduceLeDiff, Nat.reduceLT, Nat.reduceEqDiff, Int.reduceNeg, Int.reduceLT, Int.reduceLE, Int.reduceEq, Int.reduceNe, Int.reduceAdd, Int.reduceSub, Int.reduceMul, Int.reduceToNat, Int.reduceBEq, Int.reduceBNe, df24, TcapO_snd, rslG, memF_eq H, rslM, capF, cap_eta, hu, hy, RW.v, h1', sub, put, fillP, List.take_succ_cons, List.take_zero, List.drop_zero]
      exact hR
    have h1' : (y.e != 0) = false := by simpa using h1
    obtain ⟨s, hs⟩ : ∃ s, y.m.getV y.s = s := ⟨_, rfl⟩
    obtain ⟨e, he⟩ : ∃ e, y.m.getE y.s = e := ⟨_, rfl⟩
    simp only [h1, not_true_eq_false, if_false, hs, he] at hR
    by_cases h2 : e = 0
    case neg =>
      have h2' : (e != 0) = true := by simpa using h2
      simp only [h2, not_false_eq_true, if_true, RC.v, Cap.cl, capZ] at hR
      simp (config := { maxSteps := 10000000 }) only [EV1, EV2, EV3, EV4, EV5, EV6, addT, istep, lenR_sl, lenR_ns, lenR_es, pickR, putD, bin1R, un1R, slcR, bnd, capsOf, fillP, S_plain, V_plain, V.cells, S_known, V_known, C.v, blk, setL, setH, eqS, eq1, cmpS, cmp1, isNil, popTo, killT, setT, leT, V.below, C.below, S_below, R.below, V.val, C.val, S_val, R.val, R.takes, vals, shows, List.any_cons, List.any_nil, unnamed, V.kill, V.names, C.names, S_names, R.names, List.set, List.replicate, ↓q_cond_t, ↓q_cond_f, if_true, if_false, reduceCtorEq, rvals, rvC, result, C_known, V.noL, C.noL, S_noL, R.noL, Option.map, true_and, and_true, ge_iff_le, gt_iff_lt, implies_true, q_ite_t, q_ite_f, beq_iff_eq, bne_iff_ne, q_ne, Nat.reduceAdd, Nat.reducePow, Int.reducePow, Nat.reduceMul, Nat.reduceSub, Nat.reduceLeDiff, Nat.reduceLT, Nat.reduceEqDiff, Int.reduceNeg, Int.reduceLT, Int.reduceLE, Int.reduceEq, Int.reduceNe, Int.reduceAdd, Int.reduceSub, Int.reduceMul, Int.reduceToNat, Int.reduceBEq, Int.reduceBNe, df24, TcapO_snd, rslG, memF_eq H, rslM, capF, cap_eta, hu, hy, RW.v, h1', get2G, memF_set H, get2M, hs, he, h2', Slot.cl, sub, put, fillP, List.take_succ_cons, List.take_zero, List.drop_zero]
      exact hR
    have h2' : (e != 0) = false := by simpa using h2
    by_cases h3 : s.cap.ty = 0
    · have h3' : (s.cap.ty == 0) = true := by simpa using h3
      simp only [h2, h3, not_true_eq_false, if_true, if_false, RC.v, Cap.cl, capZ] at hR
      simp (config := { maxSteps := 10000000 }) only [EV1, EV2, EV3, EV4, EV5, EV6, addT, istep, lenR_sl, lenR_ns, lenR_es, pickR, putD, bin1R, un1R, slcR, bnd, capsOf, fillP, S_plain, V_plain, V.cells, S_known, V_known, C.v, blk, setL, setH, eqS, eq1, cmpS, cmp1, isNil, popTo, killT, setT, leT, V.below, C.below, S_below, R.below, V.val, C.val, S_val, R.val, R.takes, vals, shows, List.any_cons, List.any_nil, unnamed, V.kill, V.names, C.names, S_names, R.names, List.set, List.replicate, ↓q_cond_t, ↓q_cond_f, if_true, if_false, reduceCtorEq, rvals, rvC, result, C_known, V.noL, C.noL, S_noL, R.noL, Option.map, true_and, and_true, ge_iff_le, gt_iff_lt, implies_true, q_ite_t, q_ite_f, beq_iff_eq, bne_iff_ne, q_ne, Nat.reduceAdd, Nat.reducePow, Int.reducePow, Nat.reduceMul, Nat.reduceSub, Nat.reduceLeDiff, Nat.reduceLT, Nat.reduceEqDiff, Int.reduceNeg, Int.reduceLT, Int.reduceLE, Int.reduceEq, Int.reduceNe, Int.reduceAdd, Int.reduceSub, Int.reduceMul, Int.reduceToNat, Int.reduceBEq, Int.reduceBNe, df24, TcapO_snd, rslG, memF_eq H, rslM, capF, cap_eta, hu, hy, RW.v, h1', get2G, memF_set H, get2M, hs, he, h2', h3', Slot.cl, sub, put, fillP, List.take_succ_cons, List.take_zero, List.drop_zero]
      exact hR
    · have h3' : (s.cap.ty == 0) = false := by simpa using h3
      simp only [h2, h3, not_true_eq_false, if_false, RC.v, Cap.cl] at hR
      simp (config := { maxSteps := 10000000 }) only [EV1, EV2, EV3, EV4, EV5, EV6, addT, istep, lenR_sl, lenR_ns, lenR_es, pickR, putD, bin1R, un1R, slcR, bnd, capsOf, fillP, S_plain, V_plain, V.cells, S_known, V_known, C.v, blk, setL, setH, eqS, eq1, cmpS, cmp1, isNil, popTo, killT, setT, leT, V.below, C.below, S_below, R.below, V.val, C.val, S_val, R.val, R.takes, vals, shows, List.any_cons, List.any_nil, unnamed, V.kill, V.names, C.names, S_names, R.names, List.set, List.replicate, ↓q_cond_t, ↓q_cond_f, if_true, if_false, reduceCtorEq, rvals, rvC, result, C_known, V.noL, C.noL, S_noL, R.noL, Option.map, true_and, and_true, ge_iff_le, gt_iff_lt, implies_true, q_ite_t, q_ite_f, beq_iff_eq, bne_iff_ne, q_ne, Nat.reduceAdd, Nat.reducePow, Int.reducePow, Nat.reduceMul, Nat.reduceSub, Nat.reduceLeDiff, Nat.reduceLT, Nat.reduceEqDiff, Int.reduceNeg, Int.reduceLT, Int.reduceLE, Int.reduceEq, Int.reduceNe, Int.reduceAdd, Int.reduceSub, Int.reduceMul, Int.reduceToNat, Int.reduceBEq, Int.reduceBNe, df24, TcapO_snd, rslG, memF_eq H, rslM, capF, cap_eta, hu, hy, RW.v, h1', get2G, memF_set H, get2M, hs, he, h2', h3', Slot.cl, sub, put, fillP, List.take_succ_cons, List.take_zero, List.drop_zero]
      exact hR
  · exact hS.elim
noncomputable def TrcapO_snd : Tab := addT 21 (rslG true) (addT 58 get2G (noT))
theorem TrcapO_snd_snd : TrcapO_snd.Snd Try.prog := addT_snd ok21 rrsl_snd (addT_snd ok58 rget2_snd ((noT_snd _)))
theorem rcapO_snd : Snd Try.prog 25 (FSpec.of (capOG true)) := snd_run TrcapO_snd_snd mixed Try.func25 dc25 300 fun args h K hc hS => by
  obtain ⟨a, b, m, rest, rfl, H, hS1⟩ := memF_spec hS
  clear hS
  have hS := hS1
  clear hS1
  unfold capOM at hS
  split at hS
  · rename_i x w
    obtain ⟨c, e, hu, hR⟩ := capF_spec hS
    clear hS
    simp only [List.cons.injEq, and_true] at e
    subst e
    simp only [spec_ok, RW.cap] at hR
    obtain ⟨y, hy⟩ : ∃ y, rsl true m c w 32 = y := ⟨_, rfl⟩
    rw [hy] at hR
    simp only [Cap.cl]
    by_cases h1 : y.e = 0
    case neg =>
      have h1' : (y.e != 0) = true := by simpa using h1
      simp only [h1, not_false_eq_true, if_true, RC.v, Cap.cl, capZ] at hR
      simp (config := { maxSteps := 10000000 }) only [EV1, EV2, EV3, EV4, EV5, EV6, addT, istep, lenR_sl, lenR_ns, lenR_es, pickR, putD, bin1R, un1R, slcR, bnd, capsOf, fillP, S_plain, V_plain, V.cells, S_known, V_known, C.v, blk, setL, setH, eqS, eq1, cmpS, cmp1, isNil, popTo, killT, setT, leT, V.below, C.below, S_below, R.below, V.val, C.val, S_val, R.val, R.takes, vals, shows, List.any_cons, List.any_nil, unnamed, V.kill, V.names, C.names, S_names, R.names, List.set, List.replicate, ↓q_cond_t, ↓q_cond_f, if_true, if_false, reduceCtorEq, rvals, rvC, result, C_known, V.noL, C.noL, S_noL, R.noL, Option.map, true_and, and_true, ge_iff_le, gt_iff_lt, implies_true, q_ite_t, q_ite_f, beq_iff_eq, bne_iff_ne, q_ne, Nat.reduceAdd, Nat.reducePow, Int.reducePow, Nat.reduceMul, Nat.reduceSub, Nat.reduceLeDiff, Nat.reduceLT, Nat.reduceEqDiff, Int.reduceNeg, Int.reduceLT, Int.reduceLE, Int.reduceEq, Int.reduceNe, Int.reduceAdd, Int.reduceSub, Int.reduceMul, Int.reduceToNat, Int.reduceBEq, Int.reduceBNe, df25, TrcapO_snd, rslG, memF_eq H, rslM, capF, cap_eta, hu, hy, RW.v, h1', sub, put, fillP, List.take_succ_cons, List.take_zero, List.drop_zero]
      exact hR
    have h1' : (y.e != 0) = false := by simpa using h1
    obtain ⟨s, hs⟩ : ∃ s, y.m.getV y.s = s := ⟨_, rfl⟩
    obtain ⟨e, he⟩ : ∃ e, y.m.getE y.s = e := ⟨_, rfl⟩
    simp only [h1, not_true_eq_false, if_false, hs, he] at hR
    by_cases h2 : e = 0
    case neg =>
      have h2' : (e != 0) = true := by simpa using h2
      simp only [h2, not_false_eq_true, if_true, RC.v, Cap.cl, capZ] at hR
      simp (config := { maxSteps := 10000000 }) only [EV1, EV2, EV3, EV4, EV5, EV6, addT, istep, lenR_sl, lenR_ns, lenR_es, pickR, putD, bin1R, un1R, slcR, bnd, capsOf, fillP, S_plain, V_plain, V.cells, S_known, V_known, C.v, blk, setL, setH, eqS, eq1, cmpS, cmp1, isNil, popTo, killT, setT, leT, V.below, C.below, S_below, R.below, V.val, C.val, S_val, R.val, R.takes, vals, shows, List.any_cons, List.any_nil, unnamed, V.kill, V.names, C.names, S_names, R.names, List.set, List.replicate, ↓q_cond_t, ↓q_cond_f, if_true, if_false, reduceCtorEq, rvals, rvC, result, C_known, V.noL, C.noL, S_noL, R.noL, Option.map, true_and, and_true, ge_iff_le, gt_iff_lt, implies_true, q_ite_t, q_ite_f, beq_iff_eq, bne_iff_ne, q_ne, Nat.reduceAdd, Nat.reducePow, Int.reducePow, Nat.reduceMul, Nat.reduceSub, Nat.reduceLeDiff, Nat.reduceLT, Nat.reduceEqDiff, Int.reduceNeg, Int.reduceLT, Int.reduceLE, Int.reduceEq, Int.reduceNe, Int.reduceAdd, Int.reduceSub, Int.reduceMul, Int.reduceToNat, Int.reduceBEq, Int.reduceBNe, df25, TrcapO_snd, rslG, memF_eq H, rslM, capF, cap_eta, hu, hy, RW.v, h1', get2G, memF_set H, get2M, hs, he, h2', Slot.cl, sub, put, fillP, List.take_succ_cons, List.take_zero, List.drop_zero]
      exact hR
    have h2' : (e != 0) = false := by simpa using h2
    by_cases h3 : s.cap.ty = 0
    · have h3' : (s.cap.ty == 0) = true := by simpa using h3
      simp only [h2, h3, not_true_eq_false, if_true, if_false, RC.v, Cap.cl, capZ] at hR
      simp (config := { maxSteps := 10000000 }) only [EV1, EV2, EV3, EV4, EV5, EV6, addT, istep, lenR_sl, lenR_ns, lenR_es, pickR, putD, bin1R, un1R, slcR, bnd, capsOf, fillP, S_plain, V_plain, V.cells, S_known, V_known, C.v, blk, setL, setH, eqS, eq1, cmpS, cmp1, isNil, popTo, killT, setT, leT, V.below, C.below, S_below, R.below, V.val, C.val, S_val, R.val, R.takes, vals, shows, List.any_cons, List.any_nil, unnamed, V.kill, V.names, C.names, S_names, R.names, List.set, List.replicate, ↓q_cond_t, ↓q_cond_f, if_true, if_false, reduceCtorEq, rvals, rvC, result, C_known, V.noL, C.noL, S_noL, R.noL, Option.map, true_and, and_true, ge_iff_le, gt_iff_lt, implies_true, q_ite_t, q_ite_f, beq_iff_eq, bne_iff_ne, q_ne, Nat.reduceAdd, Nat.reducePow, Int.reducePow, Nat.reduceMul, Nat.reduceSub, Nat.reduceLeDiff, Nat.reduceLT, Nat.reduceEqDiff, Int.reduceNeg, Int.reduceLT, Int.reduceLE, Int.reduceEq, Int.reduceNe, Int.reduceAdd, Int.reduceSub, Int.reduceMul, Int.reduceToNat, Int.reduceBEq, Int.reduceBNe, df25, TrcapO_snd, rslG, memF_eq H, rslM, capF, cap_eta, hu, hy, RW.v, h1', get2G, memF_set H, get2M, hs, he, h2', h3', Slot.cl, sub, put, fillP, List.take_succ_cons, List.take_zero, List.drop_zero]
      exact hR
    · have h3' : (s.cap.ty == 0) = false := by simpa using h3
      simp only [h2, h3, not_true_eq_false, if_false, RC.v, Cap.cl] at hR
      simp (config := { maxSteps := 10000000 }) only [EV1, EV2, EV3, EV4, EV5, EV6, addT, istep, lenR_sl, lenR_ns, lenR_es, pickR, putD, bin1R, un1R, slcR, bnd, capsOf, fillP, S_plain, V_plain, V.cells, S_known, V_known, C.v, blk, setL, setH, eqS, eq1, cmpS, cmp1, isNil, popTo, killT, setT, leT, V.below, C.below, S_below, R.below, V.val, C.val, S_val, R.val, R.takes, vals, shows, List.any_cons, List.any_nil, unnamed, V.kill, V.names, C.names, S_names, R.names, List.set, List.replicate, ↓q_cond_t, ↓q_cond_f, if_true, if_false, reduceCtorEq, rvals, rvC, result, C_known, V.noL, C.noL, S_noL, R.noL, Option.map, true_and, and_true, ge_iff_le, gt_iff_lt, implies_true, q_ite_t, q_ite_f, beq_iff_eq, bne_iff_ne, q_ne, Nat.reduceAdd, Nat.reducePow, Int.reducePow, Nat.reduceMul, Nat.reduceSub, Nat.reduceLeDiff, Nat.reduceLT, Nat.reduceEqDiff, Int.reduceNeg, Int.reduceLT, Int.reduceLE, Int.reduceEq, Int.reduceNe, Int.reduceAdd, Int.reduceSub, Int.reduceMul, Int.reduceToNat, Int.reduceBEq, Int.reduceBNe, df25, TrcapO_snd, rslG, memF_eq H, rslM, capF, cap_eta, hu, hy, RW.v, h1', get2G, memF_set H, get2M, hs, he, h2', h3', Slot.cl, sub, put, fillP, List.take_succ_cons, List.take_zero, List.drop_zero]
      exact hR
  · exact hS.elim

/-! ### Mask -/
def Cap.mask (c : Cap) (r : Int) : Cap := if c.ty = 4 ∨ c.ty = 5 ∨ c.ty = 8 then { c with rights := Go.bits .and .i64 c.rights r } else c
def cmaskG : List V → List Blk → Res
  | [x, .s (.i .i64 r)], h => capF (fun c => .ok (.agg (c.mask r).cl) [] h) [x]
  | _, _ => .bad
theorem cmask_snd : Snd Try.prog 19 (FSpec.of cmaskG) := snd_run (noT_snd _) mixed Try.func19 dc19 300 fun args h K hc hS => by
  unfold cmaskG at hS
  split at hS
  · rename_i x r
    obtain ⟨c, e, hR⟩ := capF_spec hS
    clear hS
    simp only [List.cons.injEq, and_true] at e
    subst e
    simp only [spec_ok, Cap.mask] at hR
    simp only [Cap.cl]
    by_cases h1 : c.ty = 4
    · have h1' : (c.ty == 4) = true := by simpa using h1
      rw [if_pos (.inl h1)] at hR
      simp only [Cap.cl] at hR
      simp (config := { maxSteps := 10000000 }) only [EV1, EV2, EV3, EV4, EV5, EV6, addT, istep, lenR_sl, lenR_ns, lenR_es, pickR, putD, bin1R, un1R, slcR, bnd, capsOf, fillP, S_plain, V_plain, V.cells, S_known, V_known, C.v, blk, setL, setH, eqS, eq1, cmpS, cmp1, isNil, popTo, killT, setT, leT, V.below, C.below, S_below, R.below, V.val, C.val, S_val, R.val, R.takes, vals, shows, List.any_cons, List.any_nil, unnamed, V.kill, V.names, C.names, S_names, R.names, List.set, List.replicate, ↓q_cond_t, ↓q_cond_f, if_true, if_false, reduceCtorEq, rvals, rvC, result, C_known, V.noL, C.noL, S_noL, R.noL, Option.map, true_and, and_true, ge_iff_le, gt_iff_lt, implies_true, q_ite_t, q_ite_f, beq_iff_eq, bne_iff_ne, q_ne, Nat.reduceAdd, Nat.reducePow, Int.reducePow, Nat.reduceMul, Nat.reduceSub, Nat.reduceLeDiff, Nat.reduceLT, Nat.reduceEqDiff, Int.reduceNeg, Int.reduceLT, Int.reduceLE, Int.reduceEq, Int.reduceNe, Int.reduceAdd, Int.reduceSub, Int.reduceMul, Int.reduceToNat, Int.reduceBEq, Int.reduceBNe, df19, h1', sub, put, fillP, List.take_succ_cons, List.take_zero, List.drop_zero]
      exact hR
    have h1' : (c.ty == 4) = false := by simpa using h1
    by_cases h2 : c.ty = 5
    · have h2' : (c.ty == 5) = true := by simpa using h2
      rw [if_pos (.inr (.inl h2))] at hR
      simp only [Cap.cl] at hR
      simp (config := { maxSteps := 10000000 }) only [EV1, EV2, EV3, EV4, EV5, EV6, addT, istep, lenR_sl, lenR_ns, lenR_es, pickR, putD, bin1R, un1R, slcR, bnd, capsOf, fillP, S_plain, V_plain, V.cells, S_known, V_known, C.v, blk, setL, setH, eqS, eq1, cmpS, cmp1, isNil, popTo, killT, setT, leT, V.below, C.below, S_below, R.below, V.val, C.val, S_val, R.val, R.takes, vals, shows, List.any_cons, List.any_nil, unnamed, V.kill, V.names, C.names, S_names, R.names, List.set, List.replicate, ↓q_cond_t, ↓q_cond_f, if_true, if_false, reduceCtorEq, rvals, rvC, result, C_known, V.noL, C.noL, S_noL, R.noL, Option.map, true_and, and_true, ge_iff_le, gt_iff_lt, implies_true, q_ite_t, q_ite_f, beq_iff_eq, bne_iff_ne, q_ne, Nat.reduceAdd, Nat.reducePow, Int.reducePow, Nat.reduceMul, Nat.reduceSub, Nat.reduceLeDiff, Nat.reduceLT, Nat.reduceEqDiff, Int.reduceNeg, Int.reduceLT, Int.reduceLE, Int.reduceEq, Int.reduceNe, Int.reduceAdd, Int.reduceSub, Int.reduceMul, Int.reduceToNat, Int.reduceBEq, Int.reduceBNe, df19, h1', h2', sub, put, fillP, List.take_succ_cons, List.take_zero, List.drop_zero]
      exact hR
    have h2' : (c.ty == 5) = false := by simpa using h2
    by_cases h3 : c.ty = 8
    · have h3' : (c.ty == 8) = true := by simpa using h3
      rw [if_pos (.inr (.inr h3))] at hR
      simp only [Cap.cl] at hR
      simp (config := { maxSteps := 10000000 }) only [EV1, EV2, EV3, EV4, EV5, EV6, addT, istep, lenR_sl, lenR_ns, lenR_es, pickR, putD, bin1R, un1R, slcR, bnd, capsOf, fillP, S_plain, V_plain, V.cells, S_known, V_known, C.v, blk, setL, setH, eqS, eq1, cmpS, cmp1, isNil, popTo, killT, setT, leT, V.below, C.below, S_below, R.below, V.val, C.val, S_val, R.val, R.takes, vals, shows, List.any_cons, List.any_nil, unnamed, V.kill, V.names, C.names, S_names, R.names, List.set, List.replicate, ↓q_cond_t, ↓q_cond_f, if_true, if_false, reduceCtorEq, rvals, rvC, result, C_known, V.noL, C.noL, S_noL, R.noL, Option.map, true_and, and_true, ge_iff_le, gt_iff_lt, implies_true, q_ite_t, q_ite_f, beq_iff_eq, bne_iff_ne, q_ne, Nat.reduceAdd, Nat.reducePow, Int.reducePow, Nat.reduceMul, Nat.reduceSub, Nat.reduceLeDiff, Nat.reduceLT, Nat.reduceEqDiff, Int.reduceNeg, Int.reduceLT, Int.reduceLE, Int.reduceEq, Int.reduceNe, Int.reduceAdd, Int.reduceSub, Int.reduceMul, Int.reduceToNat, Int.reduceBEq, Int.reduceBNe, df19, h1', h2', h3', sub, put, fillP, List.take_succ_cons, List.take_zero, List.drop_zero]
      exact hR
    have h3' : (c.ty == 8) = false := by simpa using h3
    rw [if_neg (by omega)] at hR
    simp only [Cap.cl] at hR
    simp (config := { maxSteps := 10000000 }) only [EV1, EV2, EV3, EV4, EV5, EV6, addT, istep, lenR_sl, lenR_ns, lenR_es, pickR, putD, bin1R, un1R, slcR, bnd, capsOf, fillP, S_plain, V_plain, V.cells, S_known, V_known, C.v, blk, setL, setH, eqS, eq1, cmpS, cmp1, isNil, popTo, killT, setT, leT, V.below, C.below, S_below, R.below, V.val, C.val, S_val, R.val, R.takes, vals, shows, List.any_cons, List.any_nil, unnamed, V.kill, V.names, C.names, S_names, R.names, List.set, List.replicate, ↓q_cond_t, ↓q_cond_f, if_true, if_false, reduceCtorEq, rvals, rvC, result, C_known, V.noL, C.noL, S_noL, R.noL, Option.map, true_and, and_true, ge_iff_le, gt_iff_lt, implies_true, q_ite_t, q_ite_f, beq_iff_eq, bne_iff_ne, q_ne, Nat.reduceAdd, Nat.reducePow, Int.reducePow, Nat.reduceMul, Nat.reduceSub, Nat.reduceLeDiff, Nat.reduceLT, Nat.reduceEqDiff, Int.reduceNeg, Int.reduceLT, Int.reduceLE, Int.reduceEq, Int.reduceNe, Int.reduceAdd, Int.reduceSub, Int.reduceMul, Int.reduceToNat, Int.reduceBEq, Int.reduceBNe, df19, h1', h2', h3', sub, put, fillP, List.take_succ_cons, List.take_zero, List.drop_zero]
    exact hR
  · exact hS.elim
theorem rcmask_snd : Snd Try.prog 20 (FSpec.of cmaskG) := snd_run (noT_snd _) mixed Try.func20 dc20 300 fun args h K hc hS => by
  unfold cmaskG at hS
  split at hS
  · rename_i x r
    obtain ⟨c, e, hR⟩ := capF_spec hS
    clear hS
    simp only [List.cons.injEq, and_true] at e
    subst e
    simp only [spec_ok, Cap.mask] at hR
    simp only [Cap.cl]
    by_cases h1 : c.ty = 4
    · have h1' : (c.ty == 4) = true := by simpa using h1
      rw [if_pos (.inl h1)] at hR
      simp only [Cap.cl] at hR
      simp (config := { maxSteps := 10000000 }) only [EV1, EV2, EV3, EV4, EV5, EV6, addT, istep, lenR_sl, lenR_ns, lenR_es, pickR, putD, bin1R, un1R, slcR, bnd, capsOf, fillP, S_plain, V_plain, V.cells, S_known, V_known, C.v, blk, setL, setH, eqS, eq1, cmpS, cmp1, isNil, popTo, killT, setT, leT, V.below, C.below, S_below, R.below, V.val, C.val, S_val, R.val, R.takes, vals, shows, List.any_cons, List.any_nil, unnamed, V.kill, V.names, C.names, S_names, R.names, List.set, List.replicate, ↓q_cond_t, ↓q_cond_f, if_true, if_false, reduceCtorEq, rvals, rvC, result, C_known, V.noL, C.noL, S_noL, R.noL, Option.map, true_and, and_true, ge_iff_le, gt_iff_lt, implies_true, q_ite_t, q_ite_f, beq_iff_eq, bne_iff_ne, q_ne, Nat.reduceAdd, Nat.reducePow, Int.reducePow, Nat.reduceMul, Nat.reduceSub, Nat.reduceLeDiff, Nat.reduceLT, Nat.reduceEqDiff, Int.reduceNeg, Int.reduceLT, Int.reduceLE, Int.reduceEq, Int.reduceNe, Int.reduceAdd, Int.reduceSub, Int.reduceMul, Int.reduceToNat, Int.reduceBEq, Int.reduceBNe, df20, h1', sub, put, fillP, List.take_succ_cons, List.take_zero, List.drop_zero]
      exact hR
    have h1' : (c.ty == 4) = false := by simpa using h1
    by_cases h2 : c.ty = 5
    · have h2' : (c.ty == 5) = true := by simpa using h2
      rw [if_pos (.inr (.inl h2))] at hR
      simp only [Cap.cl] at hR
      simp (config := { maxSteps := 10000000 }) only [EV1, EV2, EV3, EV4, EV5, EV6, addT, istep, lenR_sl, lenR_ns, lenR_es, pickR, putD, bin1R, un1R, slcR, bnd, capsOf, fillP, S_plain, V_plain, V.cells, S_known, V_known, C.v, blk, setL, setH, eqS, eq1, cmpS, cmp1, isNil, popTo, killT, setT, leT, V.below, C.below, S_below, R.below, V.val, C.val, S_val, R.val, R.takes, vals, shows, List.any_cons, List.any_nil, unnamed, V.kill, V.names, C.names, S_names, R.names, List.set, List.replicate, ↓q_cond_t, ↓q_cond_f, if_true, if_false, reduceCtorEq, rvals, rvC, result, C_known, V.noL, C.noL, S_noL, R.noL, Option.map, true_and, and_true, ge_iff_le, gt_iff_lt, implies_true, q_ite_t, q_ite_f, beq_iff_eq, bne_iff_ne, q_ne, Nat.reduceAdd, Nat.reducePow, Int.reducePow, Nat.reduceMul, Nat.reduceSub, Nat.reduceLeDiff, Nat.reduceLT, Nat.reduceEqDiff, Int.reduceNeg, Int.reduceLT, Int.reduceLE, Int.reduceEq, Int.reduceNe, Int.reduceAdd, Int.reduceSub, Int.reduceMul, Int.reduceToNat, Int.reduceBEq, Int.reduceBNe, df20, h1', h2', sub, put, fillP, List.take_succ_cons, List.take_zero, List.drop_zero]
      exact hR
    have h2' : (c.ty == 5) = false := by simpa using h2
    by_cases h3 : c.ty = 8
    · have h3' : (c.ty == 8) = true := by simpa using h3
      rw [if_pos (.inr (.inr h3))] at hR
      simp only [Cap.cl] at hR
      simp (config := { maxSteps := 10000000 }) only [EV1, EV2, EV3, EV4, EV5, EV6, addT, istep, lenR_sl, lenR_ns, lenR_es, pickR, putD, bin1R, un1R, slcR, bnd, capsOf, fillP, S_plain, V_plain, V.cells, S_known, V_known, C.v, blk, setL, setH, eqS, eq1, cmpS, cmp1, isNil, popTo, killT, setT, leT, V.below, C.below, S_below, R.below, V.val, C.val, S_val, R.val, R.takes, vals, shows, List.any_cons, List.any_nil, unnamed, V.kill, V.names, C.names, S_names, R.names, List.set, List.replicate, ↓q_cond_t, ↓q_cond_f, if_true, if_false, reduceCtorEq, rvals, rvC, result, C_known, V.noL, C.noL, S_noL, R.noL, Option.map, true_and, and_true, ge_iff_le, gt_iff_lt, implies_true, q_ite_t, q_ite_f, beq_iff_eq, bne_iff_ne, q_ne, Nat.reduceAdd, Nat.reducePow, Int.reducePow, Nat.reduceMul, Nat.reduceSub, Nat.reduceLeDiff, Nat.reduceLT, Nat.reduceEqDiff, Int.reduceNeg, Int.reduceLT, Int.reduceLE, Int.reduceEq, Int.reduceNe, Int.reduceAdd, Int.reduceSub, Int.reduceMul, Int.reduceToNat, Int.reduceBEq, Int.reduceBNe, df20, h1', h2', h3', sub, put, fillP, List.take_succ_cons, List.take_zero, List.drop_zero]
      exact hR
    have h3' : (c.ty == 8) = false := by simpa using h3
    rw [if_neg (by omega)] at hR
    simp only [Cap.cl] at hR
    simp (config := { maxSteps := 10000000 }) only [EV1, EV2, EV3, EV4, EV5, EV6, addT, istep, lenR_sl, lenR_ns, lenR_es, pickR, putD, bin1R, un1R, slcR, bnd, capsOf, fillP, S_plain, V_plain, V.cells, S_known, V_known, C.v, blk, setL, setH, eqS, eq1, cmpS, cmp1, isNil, popTo, killT, setT, leT, V.below, C.below, S_below, R.below, V.val, C.val, S_val, R.val, R.takes, vals, shows, List.any_cons, List.any_nil, unnamed, V.kill, V.names, C.names, S_names, R.names, List.set, List.replicate, ↓q_cond_t, ↓q_cond_f, if_true, if_false, reduceCtorEq, rvals, rvC, result, C_known, V.noL, C.noL, S_noL, R.noL, Option.map, true_and, and_true, ge_iff_le, gt_iff_lt, implies_true, q_ite_t, q_ite_f, beq_iff_eq, bne_iff_ne, q_ne, Nat.reduceAdd, Nat.reducePow, Int.reducePow, Nat.reduceMul, Nat.reduceSub, Nat.reduceLeDiff, Nat.reduceLT, Nat.reduceEqDiff, Int.reduceNeg, Int.reduceLT, Int.reduceLE, Int.reduceEq, Int.reduceNe, Int.reduceAdd, Int.reduceSub, Int.reduceMul, Int.reduceToNat, Int.reduceBEq, Int.reduceBNe, df20, h1', h2', h3', sub, put, fillP, List.take_succ_cons, List.take_zero, List.drop_zero]
    exact hR
  · exact hS.elim
def outerC : Cap := ⟨2, 1024, 2, 0, 5, 3, 0, 0, 0, 0, 0⟩
def innerC : Cap := ⟨2, 1040, 1, 0, 0, 0, 0, 0, 0, 0, 0⟩
def outerCG : List V → List Blk → Res
  | [], h => .ok (.agg outerC.cl) [] h
  | _, _ => .bad
theorem outer_snd : Snd Try.prog 48 (FSpec.of outerCG) := snd_run (noT_snd _) mixed Try.func48 dc48 100 fun args h K hc hS => by
  unfold outerCG at hS
  split at hS
  · simp only [spec_ok, outerC, Cap.cl] at hS
    simp (config := { maxSteps := 10000000 }) only [EV1, EV2, EV3, EV4, EV5, EV6, addT, istep, lenR_sl, lenR_ns, lenR_es, pickR, putD, bin1R, un1R, slcR, bnd, capsOf, fillP, S_plain, V_plain, V.cells, S_known, V_known, C.v, blk, setL, setH, eqS, eq1, cmpS, cmp1, isNil, popTo, killT, setT, leT, V.below, C.below, S_below, R.below, V.val, C.val, S_val, R.val, R.takes, vals, shows, List.any_cons, List.any_nil, unnamed, V.kill, V.names, C.names, S_names, R.names, List.set, List.replicate, ↓q_cond_t, ↓q_cond_f, if_true, if_false, reduceCtorEq, rvals, rvC, result, C_known, V.noL, C.noL, S_noL, R.noL, Option.map, true_and, and_true, ge_iff_le, gt_iff_lt, implies_true, q_ite_t, q_ite_f, beq_iff_eq, bne_iff_ne, q_ne, Nat.reduceAdd, Nat.reducePow, Int.reducePow, Nat.reduceMul, Nat.reduceSub, Nat.reduceLeDiff, Nat.reduceLT, Nat.reduceEqDiff, Int.reduceNeg, Int.reduceLT, Int.reduceLE, Int.reduceEq, Int.reduceNe, Int.reduceAdd, Int.reduceSub, Int.reduceMul, Int.reduceToNat, Int.reduceBEq, Int.reduceBNe, df48, sub, put, fillP, List.take_succ_cons, List.take_zero, List.drop_zero]
    exact hS
  · exact hS.elim
def innerCG : List V → List Blk → Res
  | [], h => .ok (.agg innerC.cl) [] h
  | _, _ => .bad
theorem inner_snd : Snd Try.prog 47 (FSpec.of innerCG) := snd_run (noT_snd _) mixed Try.func47 dc47 100 fun args h K hc hS => by
  unfold innerCG at hS
  split at hS
  · simp only [spec_ok, innerC, Cap.cl] at hS
    simp (config := { maxSteps := 10000000 }) only [EV1, EV2, EV3, EV4, EV5, EV6, addT, istep, lenR_sl, lenR_ns, lenR_es, pickR, putD, bin1R, un1R, slcR, bnd, capsOf, fillP, S_plain, V_plain, V.cells, S_known, V_known, C.v, blk, setL, setH, eqS, eq1, cmpS, cmp1, isNil, popTo, killT, setT, leT, V.below, C.below, S_below, R.below, V.val, C.val, S_val, R.val, R.takes, vals, shows, List.any_cons, List.any_nil, unnamed, V.kill, V.names, C.names, S_names, R.names, List.set, List.replicate, ↓q_cond_t, ↓q_cond_f, if_true, if_false, reduceCtorEq, rvals, rvC, result, C_known, V.noL, C.noL, S_noL, R.noL, Option.map, true_and, and_true, ge_iff_le, gt_iff_lt, implies_true, q_ite_t, q_ite_f, beq_iff_eq, bne_iff_ne, q_ne, Nat.reduceAdd, Nat.reducePow, Int.reducePow, Nat.reduceMul, Nat.reduceSub, Nat.reduceLeDiff, Nat.reduceLT, Nat.reduceEqDiff, Int.reduceNeg, Int.reduceLT, Int.reduceLE, Int.reduceEq, Int.reduceNe, Int.reduceAdd, Int.reduceSub, Int.reduceMul, Int.reduceToNat, Int.reduceBEq, Int.reduceBNe, df47, sub, put, fillP, List.take_succ_cons, List.take_zero, List.drop_zero]
    exact hS
  · exact hS.elim
end Go.Proofs.Ytdlloccodmdnnaa

/- The machine's memory: Copy; the document's Fill, Copy, Dump. -/
namespace Go.Proofs.Ytdlloccodmdnnaa
open Go.D
set_option linter.all false
set_option maxRecDepth 100000
set_option maxHeartbeats 4000000

/-- A part of the words. -/
def M.part (m : M) (x k : Nat) : List Int := (m.w.drop x).take k
theorem M.part_len {m : M} {x k : Nat} (h : x + k ≤ m.w.length) : (m.part x k).length = k := by simp [M.part]; omega
theorem M.part_u {m : M} {x k : Nat} : ∀ v, v ∈ m.part x k → u64 v := fun v hv => m.u v (List.mem_of_mem_drop (List.mem_of_mem_take hv))
theorem nth_part {m : M} {x k i : Nat} (h : i < k) : nth 0 (m.part x k) i = nth 0 m.w (x + i) := by
  unfold M.part
  generalize m.w = l
  induction x generalizing l with
  | zero =>
    simp only [List.drop_zero, Nat.zero_add]
    induction k generalizing l i with
    | zero => omega
    | succ k ih =>
      cases l with
      | nil => rfl
      | cons x l =>
        cases i with
        | zero => rfl
        | succ i => exact ih (l := l) (by omega)
  | succ a ih =>
    cases l with
    | nil => simp [nth]
    | cons x l =>
      rw [List.drop_succ_cons, ih, show a + 1 + i = (a + i) + 1 by omega]; rfl
def M.copy (m : M) (x y k : Nat) : M := (m.lay y (m.part x k)).tick (2 * k)
def copyM (b : Nat) (m : M) (st : M → List Blk) : List V → Res
  | [.s (.i .i64 x), .s (.i .i64 y), .s (.i .i64 k)] => .br (m.has x k && m.has y k) (.ok (.s (.i .i64 0)) [] (st (m.copy x.toNat y.toNat k.toNat))) (.ok (.s (.i .i64 20)) [] (st m))
  | _ => .bad
noncomputable def copyG := memF copyM
end Go.Proofs.Ytdlloccodmdnnaa

/- The machine's memory: plain facts of what is laid, filled, copied. -/
namespace Go.Proofs.Ytdlloccodmdnnaa
open Go.D
set_option linter.all false
set_option maxRecDepth 100000
set_option maxHeartbeats 4000000

theorem M.at_lay : ∀ (vs : List Int) (m : M) (o : Nat) (j : Int), (∀ v, v ∈ vs → u64 v) → (m.lay o vs).at j = if o ≤ j.toNat ∧ j.toNat < o + vs.length ∧ j.toNat < m.w.length then nth 0 vs (j.toNat - o) else m.at j
  | [], m, o, j, _ => by rw [M.lay, if_neg (by simp only [List.length_nil]; omega)]
  | v :: vs, m, o, j, hu => by
    rw [M.lay, M.at_lay vs (m.put o v) (o + 1) j (fun x hx => hu x (List.mem_cons_of_mem _ hx)), M.at_put, M.put_len, List.length_cons]
    by_cases h1 : o + 1 ≤ j.toNat ∧ j.toNat < o + 1 + vs.length ∧ j.toNat < m.w.length
    · rw [if_pos h1, if_pos (by omega), show j.toNat - o = (j.toNat - (o + 1)) + 1 by omega]; rfl
    · rw [if_neg h1]
      by_cases h2 : o = j.toNat ∧ o < m.w.length
      · rw [if_pos h2, if_pos (by omega), show j.toNat - o = 0 by omega]
        exact uw_of (hu v (by simp))
      · rw [if_neg h2, if_neg (by omega)]
theorem M.at_part {m : M} {x k i : Nat} (h : i < k) : nth 0 (m.part x k) i = m.at ((x + i : Nat) : Int) := by
  rw [nth_part h]; simp only [M.at, Int.toNat_natCast]
theorem M.at_copy (m : M) (x y k : Nat) (j : Int) (hx : x + k ≤ m.w.length) (hy : y + k ≤ m.w.length) : (m.copy x y k).at j = if y ≤ j.toNat ∧ j.toNat < y + k then m.at ((x + (j.toNat - y) : Nat) : Int) else m.at j := by
  rw [M.copy, M.at_tick, M.at_lay _ _ _ _ M.part_u, M.part_len hx]
  by_cases h : y ≤ j.toNat ∧ j.toNat < y + k
  · rw [if_pos (by omega), if_pos h, M.at_part (by omega)]
  · rw [if_neg (by omega), if_neg h]
theorem M.copy_len (m : M) (x y k : Nat) : (m.copy x y k).w.length = m.w.length := by rw [M.copy, M.tick_len, M.lay_len]
theorem M.copy_n (m : M) (x y k : Nat) : (m.copy x y k).n = IntKind.i64.wrap (m.n + 2 * (k : Int)) := by rw [M.copy]; simp only [M.tick, M.lay_n]
theorem M.fill_at (m : M) (a : Nat) (x : Int) (j : Int) (k : Nat) (h : a + k ≤ m.w.length) : (m.fill a x k).at j = if a ≤ j.toNat ∧ j.toNat < a + k then uw x else m.at j := by
  rw [M.at_fill]
  by_cases h1 : a ≤ j.toNat ∧ j.toNat < a + k
  · rw [if_pos (by omega), if_pos h1]
  · rw [if_neg (by omega), if_neg h1]
theorem M.tick_wrap (m : M) (j k : Int) : (m.tick j).n = IntKind.i64.wrap (m.n + j) := rfl
theorem wrap_add (a b c : Int) : IntKind.i64.wrap (IntKind.i64.wrap (a + b) + c) = IntKind.i64.wrap (a + (b + c)) := by
  rw [IntKind.wrap_i64, IntKind.wrap_i64, IntKind.wrap_i64]; omega
/-- Words alone. -/
theorem M.w_ext {m k : M} (hl : m.w.length = k.w.length) (h : ∀ i : Nat, i < m.w.length → m.at i = k.at i) : m.w = k.w := by
  refine List.ext_getElem hl fun i h1 h2 => ?_
  have := h i h1
  simp only [M.at, Int.toNat_natCast, nth_eq h1, nth_eq h2] at this
  exact this
/-- Halves. -/
theorem M.fill_halves {m : M} {a c k : Nat} {x : Int} (hk : c ≤ k) (h : a + k ≤ m.w.length) : ((((m.fill a x c).tick c).fill (a + c) x (k - c)).tick ((k - c : Nat) : Int)).w = ((m.fill a x k).tick k).w ∧ ((((m.fill a x c).tick c).fill (a + c) x (k - c)).tick ((k - c : Nat) : Int)).n = ((m.fill a x k).tick k).n := by
  refine ⟨M.w_ext (by simp only [M.tick_len, M.fill_len]) fun i hi => ?_, ?_⟩
  · simp only [M.tick_len, M.fill_len] at hi
    rw [M.at_tick, M.at_tick, M.fill_at _ _ _ _ _ (by rw [M.tick_len, M.fill_len]; omega), M.at_tick, M.fill_at _ _ _ _ _ (by omega), M.fill_at _ _ _ _ _ h]
    simp only [Int.toNat_natCast]
    by_cases h1 : a + c ≤ i ∧ i < a + c + (k - c)
    · rw [if_pos h1, if_pos (by omega)]
    · rw [if_neg h1]
      by_cases h2 : a ≤ i ∧ i < a + c
      · rw [if_pos h2, if_pos (by omega)]
      · rw [if_neg h2, if_neg (by omega)]
  · simp only [M.tick, M.fill_n]
    rw [wrap_add]
    congr 1; omega
theorem M.copy_halves {m : M} {x y c k : Nat} (hk : c ≤ k) (hx : x + k ≤ m.w.length) (hy : y + k ≤ m.w.length) (ha : y + k ≤ x ∨ x + k ≤ y) :
    ((m.copy x y c).copy (x + c) (y + c) (k - c)).w = (m.copy x y k).w ∧ ((m.copy x y c).copy (x + c) (y + c) (k - c)).n = (m.copy x y k).n := by
  refine ⟨M.w_ext (by simp only [M.copy_len]) fun i hi => ?_, ?_⟩
  · rw [M.at_copy _ _ _ _ _ (by rw [M.copy_len]; omega) (by rw [M.copy_len]; omega), M.at_copy _ _ _ _ _ (by omega) (by omega), M.at_copy _ _ _ _ _ (by omega) (by omega), M.at_copy _ _ _ _ _ hx hy]
    simp only [Int.toNat_natCast]
    by_cases h1 : y + c ≤ i ∧ i < y + c + (k - c)
    · rw [if_pos h1, if_neg (by omega), if_pos (by omega)]
      congr 2; omega
    · rw [if_neg h1]
      by_cases h2 : y ≤ i ∧ i < y + c
      · rw [if_pos h2, if_pos (by omega)]
      · rw [if_neg h2, if_neg (by omega)]
  · rw [M.copy_n, M.copy_n, M.copy_n, wrap_add]
    congr 1; omega

/-! ### the specs without choices -/
def M.copyE (m : M) (x y k : Int) : Int := if m.has x k && m.has y k then 0 else 20
def M.copyX (m : M) (x y k : Int) : M := if m.has x k && m.has y k then m.copy x.toNat y.toNat k.toNat else m
def M.fillE (m : M) (x k : Int) : Int := if m.has x k then 0 else 20
def M.fillX (m : M) (x k v : Int) : M := if m.has x k then (m.fill x.toNat v k.toNat).tick k else m
def M.readE (m : M) (x : Int) : Int := if m.has x 1 then 0 else 20
def M.readV (m : M) (x : Int) : Int := if m.has x 1 then m.at x else 0
def M.readX (m : M) (x : Int) : M := if m.has x 1 then m.tick 1 else m
def M.writeX (m : M) (x v : Int) : M := if m.has x 1 then (m.put x.toNat v).tick 1 else m
def copy2M (b : Nat) (m : M) (st : M → List Blk) : List V → Res
  | [.s (.i .i64 x), .s (.i .i64 y), .s (.i .i64 k)] => .ok (.s (.i .i64 (m.copyE x y k))) [] (st (m.copyX x y k))
  | _ => .bad
noncomputable def copy2G := memF copy2M
def fill2M (b : Nat) (m : M) (st : M → List Blk) : List V → Res
  | [.s (.i .i64 x), .s (.i .i64 k), .s (.i .u64 v)] => .ob (u64 v) (.ok (.s (.i .i64 (m.fillE x k))) [] (st (m.fillX x k v)))
  | _ => .bad
noncomputable def fill2G := memF fill2M
def read2M (b : Nat) (m : M) (st : M → List Blk) : List V → Res
  | [.s (.i .i64 x)] => .ok (.tup [.s (.i .u64 (m.readV x)), .s (.i .i64 (m.readE x))]) [] (st (m.readX x))
  | _ => .bad
noncomputable def read2G := memF read2M
def write2M (b : Nat) (m : M) (st : M → List Blk) : List V → Res
  | [.s (.i .i64 x), .s (.i .u64 v)] => .ob (u64 v) (.ok (.s (.i .i64 (m.readE x))) [] (st (m.writeX x v)))
  | _ => .bad
noncomputable def write2G := memF write2M
theorem fill2_snd : Snd Try.prog 38 (FSpec.of fill2G) := mfill_snd.weaken fun args h K hc hS => by
  obtain ⟨a, b, m, rest, rfl, H, hS1⟩ := memF_spec hS
  unfold fill2M at hS1
  split at hS1
  · obtain ⟨hv, hS1⟩ := hS1
    simp only [spec_ok, M.fillE, M.fillX] at hS1
    show Res.spec K (fillG _ h)
    rw [fillG, memF_eq H]
    simp only [fillM, spec_ob, spec_br, spec_ok]
    exact ⟨hv, fun e => by simpa only [e, if_true] using hS1, fun e => by simpa only [e, Bool.false_eq_true, if_false] using hS1⟩
  · exact hS1.elim
theorem read2_snd : Snd Try.prog 70 (FSpec.of read2G) := mread_snd.weaken fun args h K hc hS => by
  obtain ⟨a, b, m, rest, rfl, H, hS1⟩ := memF_spec hS
  unfold read2M at hS1
  split at hS1
  · simp only [spec_ok, M.readE, M.readX, M.readV] at hS1
    show Res.spec K (readG _ h)
    rw [readG, memF_eq H]
    simp only [readM, spec_br, spec_ok]
    exact ⟨fun e => by simpa only [e, if_true] using hS1, fun e => by simpa only [e, Bool.false_eq_true, if_false] using hS1⟩
  · exact hS1.elim
theorem rread2_snd : Snd Try.prog 100 (FSpec.of read2G) := rread_snd.weaken fun args h K hc hS => by
  obtain ⟨a, b, m, rest, rfl, H, hS1⟩ := memF_spec hS
  unfold read2M at hS1
  split at hS1
  · simp only [spec_ok, M.readE, M.readX, M.readV] at hS1
    show Res.spec K (readG _ h)
    rw [readG, memF_eq H]
    simp only [readM, spec_br, spec_ok]
    exact ⟨fun e => by simpa only [e, if_true] using hS1, fun e => by simpa only [e, Bool.false_eq_true, if_false] using hS1⟩
  · exact hS1.elim
theorem write2_snd : Snd Try.prog 78 (FSpec.of write2G) := mwrite_snd.weaken fun args h K hc hS => by
  obtain ⟨a, b, m, rest, rfl, H, hS1⟩ := memF_spec hS
  unfold write2M at hS1
  split at hS1
  · obtain ⟨hv, hS1⟩ := hS1
    simp only [spec_ok, M.readE, M.writeX] at hS1
    show Res.spec K (writeG _ h)
    rw [writeG, memF_eq H]
    simp only [writeM, spec_ob, spec_br, spec_ok]
    exact ⟨hv, fun e => by simpa only [e, if_true] using hS1, fun e => by simpa only [e, Bool.false_eq_true, if_false] using hS1⟩
  · exact hS1.elim
theorem rwrite2_snd : Snd Try.prog 91 (FSpec.of write2G) := rwrite_snd.weaken fun args h K hc hS => by
  obtain ⟨a, b, m, rest, rfl, H, hS1⟩ := memF_spec hS
  unfold write2M at hS1
  split at hS1
  · obtain ⟨hv, hS1⟩ := hS1
    simp only [spec_ok, M.readE, M.writeX] at hS1
    show Res.spec K (writeG _ h)
    rw [writeG, memF_eq H]
    simp only [writeM, spec_ob, spec_br, spec_ok]
    exact ⟨hv, fun e => by simpa only [e, if_true] using hS1, fun e => by simpa only [e, Bool.false_eq_true, if_false] using hS1⟩
  · exact hS1.elim
end Go.Proofs.Ytdlloccodmdnnaa

/- The machine's memory: the document's Copy and Dump. -/
namespace Go.Proofs.Ytdlloccodmdnnaa
open Go.D
set_option linter.all false
set_option maxRecDepth 100000
set_option maxHeartbeats 4000000

/-- So many words of a part, then noughts. -/
def M.pz (m : M) (x q k : Nat) : List Int := m.part x q ++ List.replicate (k - q) 0
theorem M.pz_len {m : M} {x q k : Nat} (h : x + k ≤ m.w.length) (hq : q ≤ k) : (m.pz x q k).length = k := by
  rw [M.pz, List.length_append, M.part_len (by omega), List.length_replicate]; omega
theorem M.pz_0 (m : M) (x k : Nat) : m.pz x 0 k = List.replicate k 0 := by simp [M.pz, M.part]
theorem M.pz_all (m : M) (x k : Nat) : m.pz x k k = m.part x k := by simp [M.pz]
theorem M.part_snoc {m : M} {x q : Nat} (h : x + q < m.w.length) : m.part x (q + 1) = m.part x q ++ [m.at ((x + q : Nat) : Int)] := by
  unfold M.part
  rw [List.take_succ_eq_append_getElem (by simp; omega)]
  simp only [List.getElem_drop, M.at, Int.toNat_natCast, nth_eq h]
theorem M.pz_set {m : M} {x q k : Nat} (h : x + k ≤ m.w.length) (hq : q < k) : (wc (m.pz x q k)).set q (.i .u64 (m.at ((x + q : Nat) : Int))) = wc (m.pz x (q + 1) k) := by
  rw [wc_set]
  congr 1
  unfold M.pz
  have hl := M.part_len (m := m) (x := x) (k := q) (by omega)
  rw [List.set_append_right _ _ (by omega), hl, Nat.sub_self, M.part_snoc (by omega), show k - q = (k - (q + 1)) + 1 by omega, List.replicate_succ, List.set_cons_zero]
  simp

end Go.Proofs.Ytdlloccodmdnnaa

/- Memories and lists among a law's own blocks: the heap is what was there, and blocks behind it, one by one. -/
namespace Go.Proofs.Ytdlloccodmdnnaa
open Go.D
set_option linter.all false
set_option maxRecDepth 100000
set_option maxHeartbeats 4000000

theorem n21 {a : Nat} : a + 2 + 1 = a + 3 := rfl
theorem n22 {a : Nat} : a + 2 + 2 = a + 4 := rfl
theorem n41 {a : Nat} : a + 4 + 1 = a + 5 := rfl
theorem nnn {a : Nat} (n k : Nat) : a + n + k = a + (n + k) := Nat.add_assoc _ _ _
theorem nlt0 {a k : Nat} : (a < a + k) = (0 < k) := by simp
theorem nltn {a j k : Nat} : (a + j < a + k) = (j < k) := by simp
section
variable {h X : List Blk} {A B : Blk} {m : M}
theorem at0_is : IsMem (h ++ (MB (h.length + 1) m :: MW m :: X)) h.length (h.length + 1) m := by
  refine ⟨by omega, ?_, ?_⟩
  · rw [app_get0]; rfl
  · rw [app_getn]; rfl
theorem at0_set (m' : M) : setM (h ++ (MB (h.length + 1) m :: MW m :: X)) h.length (h.length + 1) m' = h ++ (MB (h.length + 1) m' :: MW m' :: X) := by
  simp only [setM]
  rw [app_set0, app_setn]; rfl
theorem at2_is : IsMem (h ++ (A :: B :: MB (h.length + 3) m :: MW m :: X)) (h.length + 2) (h.length + 3) m := by
  refine ⟨by omega, ?_, ?_⟩
  · rw [app_getn]; rfl
  · rw [app_getn]; rfl
theorem at2_set (m' : M) : setM (h ++ (A :: B :: MB (h.length + 3) m :: MW m :: X)) (h.length + 2) (h.length + 3) m' = h ++ (A :: B :: MB (h.length + 3) m' :: MW m' :: X) := by
  simp only [setM]
  rw [app_setn, app_setn]; rfl
theorem memF_0 {f : Nat → M → (M → List Blk) → List V → Res} {rest : List V} : memF f (.s (.p (.g h.length) 0) :: rest) (h ++ (MB (h.length + 1) m :: MW m :: X)) = f (h.length + 1) m (fun m => h ++ (MB (h.length + 1) m :: MW m :: X)) rest := by
  rw [memF_eq at0_is, funext at0_set]
theorem memF_2 {f : Nat → M → (M → List Blk) → List V → Res} {rest : List V} : memF f (.s (.p (.g (h.length + 2)) 0) :: rest) (h ++ (A :: B :: MB (h.length + 3) m :: MW m :: X)) = f (h.length + 3) m (fun m => h ++ (A :: B :: MB (h.length + 3) m :: MW m :: X)) rest := by
  rw [memF_eq at2_is, funext at2_set]
theorem memAt_0 : memOf (h ++ (MB (h.length + 1) m :: MW m :: X)) h.length = some (h.length + 1, m) := memOf_eq at0_is
theorem memAt_2 : memOf (h ++ (A :: B :: MB (h.length + 3) m :: MW m :: X)) (h.length + 2) = some (h.length + 3, m) := memOf_eq at2_is
theorem MB_vals {b n k : Nat} (hb : b < n) : vals n k (MB b m).cells = true := by simp [MB, vals, S.val, R.val, hb]
theorem clean_nil {n : Nat} : clean n [] = true := by rfl
theorem clean_cons {n : Nat} {B : Blk} {X : List Blk} : clean n (B :: X) = (vals n 0 B.cells && clean n X) := by rfl
theorem clean_h {n : Nat} {X : List Blk} (hc : clean h.length h = true) (hn : h.length ≤ n) : clean n (h ++ X) = clean n X := by
  have : clean n h = true := by
    simp only [clean, List.all_eq_true] at hc ⊢
    exact fun x hx => vals_mono hn (Nat.le_refl _) (hc x hx)
  simp only [clean] at this ⊢
  rw [List.all_append, this, Bool.true_and]
theorem vals_MB {n k j : Nat} : vals (h.length + n) k (MB (h.length + j) m).cells = decide (j < n) := by
  simp [MB, vals, S.val, R.val]
theorem vals_wc {n k : Nat} {w : List Int} : vals n k (wc w) = true := wc_vals _ _ _
theorem vals_nil {n k : Nat} : vals n k [] = true := by rfl
theorem vals_cons {n k : Nat} {s : S} {l : List S} : vals n k (s :: l) = (s.val n k && vals n k l) := by rfl
theorem MW_vals {n k : Nat} : vals n k (MW m).cells = true := wc_vals _ _ _
theorem app_len {X : List Blk} : (h ++ X).length = h.length + X.length := List.length_append
end

/-- A spec by the form of the arguments and the heap. -/
noncomputable def shape {α : Type} (pat : α → List V × List Blk) (ok : α → Prop) (res : α → Res) (args : List V) (h : List Blk) : Res :=
  open Classical in if hx : ∃ a, pat a = (args, h) ∧ ok a then res (Classical.choose hx) else .bad
theorem shape_eq {α : Type} {pat : α → List V × List Blk} {ok : α → Prop} {res : α → Res} (inj : ∀ a b, pat a = pat b → ok a → ok b → res a = res b) {args : List V} {h : List Blk} (a : α) (e : pat a = (args, h)) (ha : ok a) : shape pat ok res args h = res a := by
  have hx : ∃ a, pat a = (args, h) ∧ ok a := ⟨a, e, ha⟩
  unfold shape
  rw [dif_pos hx]
  have := Classical.choose_spec hx
  exact inj _ _ (this.1.trans e.symm) this.2 ha
theorem shape_spec {α : Type} {pat : α → List V × List Blk} {ok : α → Prop} {res : α → Res} {args : List V} {h : List Blk} {K : V → List Blk → Prop} (hS : (shape pat ok res args h).spec K) : ∃ a, pat a = (args, h) ∧ ok a ∧ (res a).spec K := by
  unfold shape at hS
  split at hS
  · rename_i hx
    have := Classical.choose_spec hx
    exact ⟨_, this.1, this.2, hS⟩
  · exact hS.elim
theorem app_inj {α : Type} {h h' X X' : List α} (e : h ++ X = h' ++ X') (hl : h.length = h'.length) : h = h' ∧ X = X' := List.append_inj e hl
theorem MB_inj {b b' : Nat} {m m' : M} (e : MB b m = MB b' m') : m.n = m'.n := by
  simp only [MB, Blk.mk.injEq, List.cons.injEq, S.i.injEq, true_and, and_true] at e
  exact e.2
theorem MW_inj {m m' : M} (e : MW m = MW m') : m.w = m'.w := by
  simp only [MW, Blk.mk.injEq, true_and] at e
  exact wc_inj e.1

/-- The words of a block's cells. -/
def unwc : List S → Option (List Int)
  | [] => some []
  | .i .u64 x :: l => match unwc l with
    | some v => some (x :: v)
    | none => none
  | _ => none
theorem unwc_wc : ∀ v : List Int, unwc (wc v) = some v
  | [] => rfl
  | x :: v => by simp only [wc_cons, unwc, unwc_wc v]
theorem unwc_nil : unwc [] = some [] := by rfl
theorem unwc_cons {x : Int} {l : List S} : unwc (.i .u64 x :: l) = match unwc l with | some v => some (x :: v) | none => none := by rfl
theorem wc_unwc : ∀ {l : List S} {v : List Int}, unwc l = some v → l = wc v
  | [], v, e => by simp only [unwc, Option.some.injEq] at e; subst e; rfl
  | .i k x :: l, v, e => by
    cases k <;> simp only [unwc, reduceCtorEq] at e
    split at e
    · rename_i v' e'
      rw [Option.some.injEq] at e
      subst e
      rw [wc_unwc e', wc_cons]
    · cases e
  | .u :: _, _, e => by simp [unwc] at e
  | .b _ :: _, _, e => by simp [unwc] at e
  | .p _ _ :: _, _, e => by simp [unwc] at e
  | .np :: _, _, e => by simp [unwc] at e
  | .sl _ _ _ _ :: _, _, e => by simp [unwc] at e
  | .ns :: _, _, e => by simp [unwc] at e
  | .es _ _ :: _, _, e => by simp [unwc] at e
  | .fn _ _ :: _, _, e => by simp [unwc] at e
  | .nf :: _, _, e => by simp [unwc] at e
def lenIs (n : Nat) (v : List Int) : Option (List Int) := if v.length = n then some v else none
theorem lenIs_t {n : Nat} {v : List Int} (h : v.length = n) : lenIs n v = some v := if_pos h
def lstB (n : Nat) : Option Blk → Option (List Int)
  | some ⟨.rw, cells, _⟩ => (unwc cells).bind (lenIs n)
  | some ⟨.ro, cells, _⟩ => (unwc cells).bind (lenIs n)
  | _ => none
theorem lstB_rw {n room : Nat} {cells : List S} : lstB n (some ⟨.rw, cells, room⟩) = (unwc cells).bind (lenIs n) := by rfl
theorem o_bind {α β : Type} {x : α} {f : α → Option β} : (some x).bind f = f x := by rfl
theorem lstB_list {H : List Blk} {j n c : Nat} {vs : List Int} (h : lstB n H[j]? = some vs) : listOf H (.sl (.g j) 0 n c) = some vs := by
  have key : ∀ st cells room, H[j]? = some ⟨st, cells, room⟩ → st ≠ .dead → (unwc cells).bind (lenIs n) = some vs → listOf H (.sl (.g j) 0 n c) = some vs := by
    intro st cells room e hs e2
    obtain ⟨v, e3, e4⟩ := Option.bind_eq_some_iff.1 e2
    unfold lenIs at e4
    split at e4
    · rename_i hl
      rw [Option.some.injEq] at e4
      subst e4
      rw [wc_unwc e3] at e
      exact listOf_at e hs hl
    · cases e4
  unfold lstB at h
  split at h
  · rename_i e; exact key _ _ _ e (by simp) h
  · rename_i e; exact key _ _ _ e (by simp) h
  · cases h
theorem listOf_g {h X : List Blk} {n c k : Nat} (hs : (lstB n (h ++ X)[h.length + k]?).isSome = true) : listOf (h ++ X) (.sl (.g (h.length + k)) 0 n c) = lstB n (h ++ X)[h.length + k]? := by
  obtain ⟨vs, e⟩ := Option.isSome_iff_exists.1 hs
  rw [e, lstB_list e]
theorem some_is {α : Type} {x : α} : (some x).isSome = true := by rfl
/-- What lay there is a list still. -/
theorem IsList.of {h : List Blk} {s : S} {vs : List Int} (H : IsList h s vs) (X : List Blk) : listOf (h ++ X) s = some vs := listOf_eq H.app

theorem M.part_ext {m : M} {x k : Nat} {vs : List Int} (h : x + k ≤ m.w.length) (hl : vs.length = k) (he : ∀ i, i < k → m.at ((x + i : Nat) : Int) = nth 0 vs i) : (m.w.drop x).take k = vs := by
  have hp := M.part_len h
  refine eq_of_nth (hp.trans hl.symm) fun i hi => ?_
  have hi' : i < k := by rw [show ((m.w.drop x).take k).length = k from hp] at hi; exact hi
  have := M.at_part (m := m) (x := x) hi'
  rw [← he i hi', ← this]; rfl

/-- A list of words that the function itself makes, in its b-th block. -/
def slW (b : Nat) : List Int → Nat → S
  | [], _ => .ns
  | _ :: v, c => .sl (.l b) 0 (v.length + 1) c
def lsW : List Int → Nat → List Blk
  | [], _ => []
  | x :: v, c => [⟨.rw, wc (x :: v), c⟩]
theorem M.readV_t {m : M} {i : Nat} (h : i + 1 ≤ m.w.length) : m.readV i = m.at i := by rw [M.readV, M.has_of (by omega), if_pos rfl]
theorem M.readE_t {m : M} {i : Nat} (h : i + 1 ≤ m.w.length) : m.readE i = 0 := by rw [M.readE, M.has_of (by omega), if_pos rfl]
theorem M.readX_t {m : M} {i : Nat} (h : i + 1 ≤ m.w.length) : m.readX i = m.tick 1 := by rw [M.readX, M.has_of (by omega), if_pos rfl]
theorem M.writeX_t {m : M} {i : Nat} {v : Int} (h : i + 1 ≤ m.w.length) : m.writeX i v = (m.put i v).tick 1 := by rw [M.writeX, M.has_of (by omega), if_pos rfl, Int.toNat_natCast]
theorem M.tick_tick (m : M) (a b : Int) : (m.tick a).tick b = m.tick (a + b) := M.ext' rfl (wrap_add _ _ _)
theorem M.tick_put (m : M) (a : Int) (i : Nat) (v : Int) : (m.tick a).put i v = (m.put i v).tick a := M.ext' rfl rfl
theorem M.tick_lay (a : Int) : ∀ (vs : List Int) (m : M) (o : Nat), (m.tick a).lay o vs = (m.lay o vs).tick a
  | [], _, _ => rfl
  | v :: vs, m, o => by simp only [M.lay, M.tick_put, M.tick_lay a vs]
theorem M.tick_at' (m : M) (a : Int) (j : Int) : (m.tick a).at j = m.at j := rfl

theorem M.copyE_or (m : M) (x y k : Int) : m.copyE x y k = 0 ∨ (m.copyE x y k = 20 ∧ m.copyX x y k = m) := by
  unfold M.copyE M.copyX
  split
  · exact .inl rfl
  · exact .inr ⟨rfl, rfl⟩
theorem M.fillE_or (m : M) (x k v : Int) : m.fillE x k = 0 ∨ (m.fillE x k = 20 ∧ m.fillX x k v = m) := by
  unfold M.fillE M.fillX
  split
  · exact .inl rfl
  · exact .inr ⟨rfl, rfl⟩
theorem M.loadX_n (m : M) (x : Int) (vs : List Int) : (m.loadX x vs).n = m.n := by
  unfold M.loadX; split
  · exact M.lay_n _ _ _
  · rfl
theorem MB_0 {b : Nat} {m : M} : (MB b m).cells[0]? = some (.sl (.g b) 0 m.w.length m.w.length) := by rfl
theorem MB_1 {b : Nat} {m : M} : (MB b m).cells[1]? = some (.i .i64 m.n) := by rfl
theorem MB_st {b : Nat} {m : M} : (MB b m).st = .rw := by rfl
theorem lstB_MW {n : Nat} {m : M} : lstB n (some (MW m)) = lenIs n m.w := by
  show (unwc (wc m.w)).bind (lenIs n) = _
  rw [unwc_wc]; rfl
theorem blk_ren (ρ : R → R) (st : BK) (c : List S) (n : Nat) : Blk.ren ρ ⟨st, c, n⟩ = ⟨st, c.map (S.ren ρ), n⟩ := rfl
end Go.Proofs.Ytdlloccodmdnnaa

/- The arguments of a statement: what is read of them becomes values over read-only blocks; behind the call they read as before. -/
namespace Go.D
set_option linter.all false

inductive TY where
  | int (k : IntKind)
  | bool
  | slice (e : List TY)

mutual
/-- A cell of a type, over a heap of blocks. -/
def hasT (h : List Blk) : TY → S → Prop
  | .int k, s => ∃ n, s = .i k n ∧ (Lit.int k n).wf = true
  | .bool, s => ∃ b, s = .b b
  | .slice e, s => s = .ns ∨ (∃ a c, s = .es a c) ∨ ∃ (j n c : Nat) (E : List (List S)) (st : BK) (room : Nat), s = .sl (.g j) 0 n c ∧ n ≤ c ∧ n ≤ 140737488355328 ∧ h[j]? = some ⟨st, E.flatten, room⟩ ∧ E.length = n ∧ (n ≠ 0 → st = .ro) ∧ st ≠ .rw ∧ ∀ x, x ∈ E → hasTs h e x
def hasTs (h : List Blk) : List TY → List S → Prop
  | [], [] => True
  | t :: ts, s :: ss => hasT h t s ∧ hasTs h ts ss
  | _, _ => False
end

/-- A heap of blocks that are only read. -/
structure RO (σ : Sg) (h : List Blk) (w : World) : Prop where
  ok : ∀ k B, h[k]? = some B → B.st ≠ .rw ∧ OkBlk σ w (.g k) B
  val : ∀ B, B ∈ h → vals h.length 0 B.cells = true

theorem RO.sim {σ : Sg} {h : List Blk} {w : World} (H : RO σ h w) : Sim σ h [] w := by
  refine ⟨fun r B hb => ?_, fun r r' B B' hb hb' hne hst hd => ?_, H.val, fun B hB => by cases hB⟩
  · cases r with
    | g k => exact (H.ok k B hb).2
    | l k => simp [blk] at hb
  · cases r with
    | g k => exact absurd hst (H.ok k B hb).1
    | l k => simp [blk] at hb

mutual
theorem hasT_mono {h h' : List Blk} : ∀ {t : TY} {s : S}, hasT h t s → hasT (h ++ h') t s
  | .int k, s, hs => hs
  | .bool, s, hs => hs
  | .slice e, s, hs => by
    rcases hs with hs | hs | ⟨j, n, c, E, st, room, h1, h2, h3, h4, h5, h6, h7, h8⟩
    · exact .inl hs
    · exact .inr (.inl hs)
    · exact .inr (.inr ⟨j, n, c, E, st, room, h1, h2, h3, by rw [List.getElem?_append_left (List.getElem?_eq_some_iff.1 h4).1]; exact h4, h5, h6, h7, fun x hx => hasTs_mono (h8 x hx)⟩)
theorem hasTs_mono {h h' : List Blk} : ∀ {ts : List TY} {ss : List S}, hasTs h ts ss → hasTs (h ++ h') ts ss
  | [], [], _ => trivial
  | t :: ts, s :: ss, hs => ⟨hasT_mono hs.1, hasTs_mono hs.2⟩
  | [], _ :: _, hs => hs.elim
  | _ :: _, [], hs => hs.elim
end

/-! ### types, flattened -/
def tyFields (P : Program) (r : TypeId → Option (List TY)) : List Field → Nat → Option (List TY)
  | [], _ => some []
  | f :: fs, off => match r f.type, tyFields P r fs (off + P.cellsOf f.type) with
    | some l, some q => if f.offset = off ∧ l.length = P.cellsOf f.type then some (l ++ q) else none
    | _, _ => none

/-- The cells of a type. -/
def tyOf (P : Program) : Nat → TypeId → Option (List TY)
  | 0, _ => none
  | d + 1, t => match P.underlying t with
    | some (.int k) => some [.int k]
    | some .bool => some [.bool]
    | some (.slice e) => match tyOf P d e with
      | some l => if l.length = P.cellsOf e ∧ 0 < l.length ∧ 0 < P.bytesOf e then some [.slice l] else none
      | none => none
    | some (.struct fs) => match tyFields P (tyOf P d) fs.toList 0 with
      | some l => if l.length = P.cellsOf t then some l else none
      | none => none
    | some (.array n e) => match tyOf P d e with
      | some l => if l.length = P.cellsOf e ∧ P.cellsOf t = n * P.cellsOf e then some (List.replicate n l).flatten else none
      | none => none
    | _ => none

section
variable {H : Type} {enc : TypeId × Value → H} {P : Program} {w : World}

/-- Cells of such types become values over read-only blocks. -/
def Opens (w : World) (cs : List Value) (tys : List TY) : Prop :=
  ∀ (σ : Sg) (h : List Blk), RO σ h w → ∃ (h' : List Blk) (σ' : Sg) (ss : List S), (∀ k, k < h.length → σ' (.g k) = σ (.g k)) ∧ RO σ' (h ++ h') w ∧ hasTs (h ++ h') tys ss ∧ ss.map (S.tr σ') = cs ∧ vals (h ++ h').length 0 ss = true ∧ known ss = true

theorem hasTs_append {h : List Blk} : ∀ {t1 t2 : List TY} {s1 s2 : List S}, hasTs h t1 s1 → hasTs h t2 s2 → hasTs h (t1 ++ t2) (s1 ++ s2)
  | [], _, [], _, _, h2 => h2
  | _ :: _, _, _ :: _, _, h1, h2 => ⟨h1.1, hasTs_append h1.2 h2⟩
  | [], _, _ :: _, _, h1, _ => h1.elim
  | _ :: _, _, [], _, h1, _ => h1.elim

theorem hasTs_length {h : List Blk} : ∀ {ts : List TY} {ss : List S}, hasTs h ts ss → ss.length = ts.length
  | [], [], _ => rfl
  | _ :: _, _ :: _, h1 => by simp [hasTs_length h1.2]
  | [], _ :: _, h1 => h1.elim
  | _ :: _, [], h1 => h1.elim

/-- What is valid among the first blocks is translated alike. -/
theorem trs_old {σ σ' : Sg} {n : Nat} (hA : ∀ k, k < n → σ' (.g k) = σ (.g k)) {ss : List S} (hv : vals n 0 ss = true) : ss.map (S.tr σ') = ss.map (S.tr σ) := by
  simp only [vals, List.all_eq_true] at hv
  refine List.map_congr_left fun s hs => S.tr_congr (n := n) (m := 0) (fun r hr => ?_) s (hv s hs)
  cases r with
  | g k => exact hA k (by simpa [R.val] using hr)
  | l k => simp [R.val] at hr

theorem Opens.nil : Opens w [] [] := fun σ h H => ⟨[], σ, [], fun _ _ => rfl, by simpa using H, trivial, rfl, rfl, rfl⟩

theorem Opens.append {c1 c2 : List Value} {t1 t2 : List TY} (h1 : Opens w c1 t1) (h2 : Opens w c2 t2) : Opens w (c1 ++ c2) (t1 ++ t2) := fun σ h H => by
  obtain ⟨ha, σa, sa, a1, a2, a3, a4, a5, a6⟩ := h1 σ h H
  obtain ⟨hb, σb, sb, b1, b2, b3, b4, b5, b6⟩ := h2 σa (h ++ ha) a2
  refine ⟨ha ++ hb, σb, sa ++ sb, fun k hk => ?_, by rw [← List.append_assoc]; exact b2, ?_, ?_, ?_, ?_⟩
  · rw [b1 k (by simp; omega), a1 k hk]
  · rw [← List.append_assoc]; exact hasTs_append (hasTs_mono a3) b3
  · rw [List.map_append, b4, trs_old b1 a5, a4]
  · rw [← List.append_assoc]
    simp only [vals, List.all_append, Bool.and_eq_true]
    exact ⟨vals_mono (by simp) (Nat.le_refl _) a5, b5⟩
  · simp only [known, List.all_append, Bool.and_eq_true]
    exact ⟨a6, b6⟩

theorem Opens.one {v : Value} {t : TY} (h : ∀ σ : Sg, ∀ h : List Blk, ∃ s : S, hasT h t s ∧ s.tr σ = v ∧ s.val 0 0 = true ∧ V.known (.s s) = true) : Opens w [v] [t] := fun σ h0 H => by
  obtain ⟨s, e1, e2, e3, e4⟩ := h σ h0
  refine ⟨[], σ, [s], fun _ _ => rfl, by simpa using H, ⟨by simpa using e1, trivial⟩, by simp [e2], ?_, ?_⟩
  · simp only [vals, List.all_cons, List.all_nil, Bool.and_true]
    exact S.val_mono (Nat.zero_le _) (Nat.zero_le _) e3
  · rw [known_cons, e4]; rfl

/-- Many elements, one after the other. -/
theorem Opens.list {l : List TY} (C : Nat → List Value) : ∀ m : Nat, (∀ i, i < m → Opens w (C i) l) → ∀ (σ : Sg) (h : List Blk), RO σ h w → ∃ (h' : List Blk) (σ' : Sg) (E : List (List S)), (∀ k, k < h.length → σ' (.g k) = σ (.g k)) ∧ RO σ' (h ++ h') w ∧ E.length = m ∧
      (∀ x, x ∈ E → hasTs (h ++ h') l x) ∧ E.flatten.map (S.tr σ') = ((List.range m).map C).flatten ∧ vals (h ++ h').length 0 E.flatten = true ∧ known E.flatten = true
  | 0, _, σ, h, H => ⟨[], σ, [], fun _ _ => rfl, by simpa using H, rfl, fun x hx => absurd hx List.not_mem_nil, rfl, rfl, rfl⟩
  | m + 1, hC, σ, h, H => by
    obtain ⟨ha, σa, E, a1, a2, a3, a4, a5, a6, a7⟩ := Opens.list C m (fun i hi => hC i (by omega)) σ h H
    obtain ⟨hb, σb, sb, b1, b2, b3, b4, b5, b6⟩ := hC m (by omega) σa (h ++ ha) a2
    refine ⟨ha ++ hb, σb, E ++ [sb], fun k hk => ?_, by rw [← List.append_assoc]; exact b2, by simp [a3], fun x hx => ?_, ?_, ?_, ?_⟩
    · rw [b1 k (by simp; omega), a1 k hk]
    · rw [← List.append_assoc]
      rcases List.mem_append.1 hx with h1 | h1
      · exact hasTs_mono (a4 x h1)
      · simp only [List.mem_singleton] at h1; subst h1; exact b3
    · rw [List.flatten_append, List.map_append, trs_old b1 a6, a5, List.range_succ, List.map_append, List.flatten_append]
      simp [b4]
    · rw [← List.append_assoc, List.flatten_append, show [sb].flatten = sb by simp]
      simp only [vals, List.all_append, Bool.and_eq_true]
      exact ⟨vals_mono (by simp) (Nat.le_refl _) a6, b5⟩
    · rw [List.flatten_append, show [sb].flatten = sb by simp]
      simp only [known, List.all_append, Bool.and_eq_true]
      exact ⟨a7, b6⟩

/-- A slice of such elements. -/
theorem Opens.slice {l : List TY} {a : Addr} {len cap k : Nat} (ha : a.spot = none) (hk : l.length = k) (hlc : len ≤ cap) (hcm : len ≤ 140737488355328) (C : Nat → List Value) (hC : ∀ i, i < len → Opens w (C i) l)
    (hcell : ∀ i j, i < len → j < k → ∃ v, (C i)[j]? = some v ∧ w.cell? (a.add (i * k + j)) = some v) (hlen : ∀ i, i < len → (C i).length = k) (hsz : len ≠ 0 → a.block < w.heap.size) : Opens w [.slice (some a) len cap] [.slice l] := fun σ h H => by
  obtain ⟨ha', σa, E, a1, a2, a3, a4, a5, a6, a7⟩ := Opens.list C len hC σ h H
  let n := (h ++ ha').length
  let σ' : Sg := fun r => if r = .g n then (a.block, a.off) else σa r
  have hσ : ∀ k, k < n → σ' (.g k) = σa (.g k) := fun k hk => by
    show (if R.g k = .g n then _ else _) = _
    rw [if_neg (by intro e; cases e; omega)]
  have hσn : σ' (.g n) = (a.block, a.off) := by
    show (if R.g n = .g n then _ else _) = _
    rw [if_pos rfl]
  have hEl : ∀ x, x ∈ E → x.length = k := fun x hx => by rw [hasTs_length (a4 x hx), hk]
  have hEt : E.flatten.map (S.tr σ') = ((List.range len).map C).flatten := by rw [trs_old hσ a6, a5]
  have hflat : ∀ (m : Nat) (q : Nat) (v : Value), m ≤ len → (((List.range m).map C).flatten)[q]? = some v → w.cell? (a.add q) = some v ∧ q < m * k := by
    intro m
    induction m with
    | zero => intro q v _ h; simp at h
    | succ m ih =>
      intro q v hm hq
      have hl : (((List.range m).map C).flatten).length = m * k := by
        have : ∀ m', m' ≤ len → (((List.range m').map C).flatten).length = m' * k := by
          intro m'
          induction m' with
          | zero => intro _; simp
          | succ m' ih' => intro hm'; rw [List.range_succ, List.map_append, List.flatten_append, List.length_append, ih' (by omega)]; simp [hlen m' (by omega), Nat.succ_mul]
        exact this m (by omega)
      rw [List.range_succ, List.map_append, List.flatten_append] at hq
      by_cases hlt : q < m * k
      · rw [List.getElem?_append_left (by omega)] at hq
        obtain ⟨h1, h2⟩ := ih q v (by omega) hq
        exact ⟨h1, by rw [Nat.succ_mul]; omega⟩
      · rw [List.getElem?_append_right (by omega), hl] at hq
        simp only [List.map_cons, List.map_nil, List.flatten_cons, List.flatten_nil, List.append_nil] at hq
        have hj : q - m * k < k := by
          have := (List.getElem?_eq_some_iff.1 hq).1
          rw [hlen m (by omega)] at this; exact this
        obtain ⟨v', h1, h2⟩ := hcell m (q - m * k) (by omega) hj
        rw [hq] at h1
        cases h1
        have e : m * k + (q - m * k) = q := by omega
        rw [e] at h2
        exact ⟨h2, by rw [Nat.succ_mul]; omega⟩
  let B : Blk := ⟨if len = 0 then .dead else .ro, E.flatten, 0⟩
  have hBst : B.st ≠ .rw := by
    show (if len = 0 then BK.dead else .ro) ≠ .rw
    split <;> simp
  have hn1 : (h ++ (ha' ++ [B])).length = n + 1 := by simp only [n, List.length_append, List.length_cons, List.length_nil]; omega
  refine ⟨ha' ++ [B], σ', [.sl (.g n) 0 len cap], fun k hk => ?_, ⟨fun k B' hB => ?_, fun B' hB => ?_⟩, ⟨.inr (.inr ⟨n, len, cap, E, _, 0, rfl, hlc, hcm, ?_, a3, fun h0 => if_neg h0, hBst, fun x hx => ?_⟩), trivial⟩, ?_, ?_, rfl⟩
  · rw [hσ k (by show k < (h ++ ha').length; simp; omega), a1 k hk]
  · rw [← List.append_assoc] at hB
    by_cases hk : k < n
    · rw [List.getElem?_append_left hk] at hB
      obtain ⟨c1, c2⟩ := a2.ok k B' hB
      refine ⟨c1, c2.move (n := n) (m := 0) (hσ k hk) (fun r hr => ?_) (a2.val B' (List.mem_of_getElem? hB)) (Nat.le_refl _) (fun _ => rfl)⟩
      cases r with
      | g i => exact hσ i (by simpa [R.val] using hr)
      | l i => simp [R.val] at hr
    · have hkn : k = n := by
        have := (List.getElem?_eq_some_iff.1 hB).1
        simp only [List.length_append, List.length_cons, List.length_nil] at this
        simp only [n, List.length_append] at hk ⊢
        omega
      subst hkn
      rw [List.getElem?_append_right (Nat.le_refl _), Nat.sub_self] at hB
      simp only [List.getElem?_cons_zero, Option.some.injEq] at hB
      subst hB
      refine ⟨hBst, ?_⟩
      unfold OkBlk
      show match (if len = 0 then BK.dead else .ro) with
        | .dead => True
        | .ro => _
        | .rw => _
      by_cases h0 : len = 0
      · rw [if_pos h0]; trivial
      · rw [if_neg h0]
        refine ⟨by rw [hσn]; exact hsz h0, fun i s hs _ => ?_⟩
        have h1 : (E.flatten.map (S.tr σ'))[i]? = some (s.tr σ') := by
          rw [List.getElem?_map, show E.flatten[i]? = some s from hs]; rfl
        rw [hEt] at h1
        have h2 := (hflat len i _ (Nat.le_refl _) h1).1
        have e : a.add i = adr σ' (.g n) i := by
          simp only [adr, hσn, Addr.add]
          cases a; simp only at ha; subst ha
          by_cases hi : i = 0
          · subst hi; simp
          · simp [hi]
        rw [← e]; exact h2
  · rw [hn1]
    rw [← List.append_assoc] at hB
    rcases List.mem_append.1 hB with hB | hB
    · exact vals_mono (Nat.le_succ n) (Nat.le_refl _) (a2.val B' hB)
    · simp only [List.mem_singleton] at hB
      subst hB
      exact vals_mono (Nat.le_succ n) (Nat.le_refl _) a6
  · rw [← List.append_assoc, List.getElem?_append_right (Nat.le_refl _), Nat.sub_self]; rfl
  · rw [← List.append_assoc]; exact hasTs_mono (a4 x hx)
  · simp only [List.map_cons, List.map_nil, S.tr, adr, hσn, Nat.add_zero]
    cases a; simp only at ha; subst ha; rfl
  · rw [hn1]; simp [vals, S.val, R.val]


theorem Opens.fields {d : TypeId → Option (List TY)} {cs : List Value} : ∀ (fs : List Field) (off : Nat) (tys : List TY), tyFields P d fs off = some tys → off + tys.length = cs.length →
      (∀ f, f ∈ fs → ∀ l, d f.type = some l → l.length = P.cellsOf f.type → f.offset + P.cellsOf f.type ≤ cs.length → Opens w ((cs.drop f.offset).take (P.cellsOf f.type)) l) → Opens w (cs.drop off) tys
  | [], off, tys, ht, hl, _ => by
    simp only [tyFields, Option.some.injEq] at ht
    subst ht
    rw [List.drop_eq_nil_of_le (by simp at hl; omega)]
    exact Opens.nil
  | f :: fs, off, tys, ht, hl, hf => by
    simp only [tyFields] at ht
    split at ht
    · rename_i l q h1 h2
      split at ht
      · rename_i hc
        cases ht
        obtain ⟨h3, h4⟩ := hc
        simp only [List.length_append] at hl
        have ih := Opens.fields fs (off + P.cellsOf f.type) q h2 (by omega) (fun g hg => hf g (List.mem_cons_of_mem _ hg))
        have h0 := hf f List.mem_cons_self l h1 h4 (by rw [h3]; omega)
        rw [h3] at h0
        have e : cs.drop off = (cs.drop off).take (P.cellsOf f.type) ++ cs.drop (off + P.cellsOf f.type) := by
          rw [← List.drop_drop, List.take_append_drop]
        rw [e]
        exact h0.append ih
      · cases ht
    · cases ht

theorem Opens.array {k : Nat} {l : List TY} (hk : l.length = k) : ∀ (n : Nat) (cs : List Value), cs.length = n * k → (∀ i, i < n → Opens w ((cs.drop (i * k)).take k) l) → Opens w cs (List.replicate n l).flatten
  | 0, cs, hl, _ => by
    have : cs = [] := by cases cs <;> simp_all
    subst this
    exact Opens.nil
  | n + 1, cs, hl, h => by
    have h0 := h 0 (by omega)
    simp only [Nat.zero_mul, List.drop_zero] at h0
    have ih := Opens.array hk n (cs.drop k) (by simp [hl, Nat.succ_mul]) (fun i hi => by
      have := h (i + 1) (by omega)
      rw [List.drop_drop]
      have e : k + i * k = (i + 1) * k := by rw [Nat.succ_mul]; omega
      rw [e]; exact this)
    have e : cs = cs.take k ++ cs.drop k := (List.take_append_drop _ _).symm
    rw [e, List.replicate_succ, List.flatten_cons]
    exact h0.append ih


theorem weightsAll_mem {e : TypeId} : ∀ {l : List (DataW H)} {d : DataW H}, d ∈ l → ∀ n, n ∈ d.weights P e → n ∈ DataW.weightsAll P e l
  | x :: l, d, h, n, hn => by
    simp only [DataW.weightsAll, List.mem_append]
    rcases List.mem_cons.1 h with rfl | h
    · exact .inl hn
    · exact .inr (weightsAll_mem h n hn)

theorem open_trod {base : Nat} {spare : Nat → Bool} {held : Bool} : ∀ (d : Nat) (n : Nat) (t : TypeId) (cs : List Value) (x : DataW H × List MemPlace) (tys : List TY),
    DataW.trod enc P w base spare held n t cs = some x → tyOf P d t = some tys → (∀ k, k ∈ x.1.weights P t → k ≤ reachBytes) → Opens w cs tys
  | 0, _, _, _, _, _, _, ht, _ => by simp [tyOf] at ht
  | d + 1, n, t, cs, x, tys, hx, ht, hw => by
    simp only [tyOf] at ht
    split at ht
    · rename_i k hu
      cases ht
      obtain ⟨m, rfl, _, hwf⟩ := DataW.trod_int hu hx
      exact Opens.one fun σ h => ⟨.i k m, ⟨m, rfl, hwf⟩, rfl, rfl, rfl⟩
    · rename_i hu
      cases ht
      obtain ⟨b, rfl, _⟩ := DataW.trod_bool hu hx
      exact Opens.one fun σ h => ⟨.b b, ⟨b, rfl⟩, rfl, rfl, rfl⟩
    · rename_i e hu
      split at ht
      · rename_i l hl
        split at ht
        · rename_i hc
          cases ht
          rcases DataW.trod_slice hu hx with ⟨rfl, _⟩ | ⟨a, len, cap, elems, rest, m, _, rfl, rfl, hb, hlc, hcm, hel, hE, _, _⟩
          · exact Opens.one fun σ h => ⟨.ns, .inl rfl, rfl, rfl, rfl⟩
          · by_cases hl0 : len = 0
            · subst hl0
              exact Opens.one fun σ h => ⟨.es a cap, .inr (.inl ⟨a, cap, rfl⟩), rfl, rfl, rfl⟩
            have hget : ∀ i, i < len → ∃ cs', w.cells? base (a.add (i * P.cellsOf e)) (P.cellsOf e) = some cs' ∧ ∃ y, DataW.trod enc P w base spare held m e cs' = some y := fun i hi => by
              have := hE i hi
              rw [List.getElem?_eq_getElem (by omega)] at this
              obtain ⟨cs', h1, h2⟩ := Option.bind_eq_some_iff.1 this
              exact ⟨cs', h1, _, h2⟩
            let C : Nat → List Value := fun i => (w.cells? base (a.add (i * P.cellsOf e)) (P.cellsOf e)).getD []
            have hC : ∀ i, i < len → w.cells? base (a.add (i * P.cellsOf e)) (P.cellsOf e) = some (C i) := fun i hi => by
              obtain ⟨cs', h1, _⟩ := hget i hi
              simp only [C, h1, Option.getD_some]
            have hadd : ∀ i j, (a.add i).add j = a.add (i + j) := fun i j => by
              simp only [Addr.add]
              by_cases hi : i = 0
              · subst hi; simp
              · by_cases hj : j = 0
                · subst hj; simp [hi]
                · simp [hi, hj, Nat.add_assoc]
            have hsp : a.spot = none := by
              obtain ⟨_, h3, h4⟩ := World.cells?_some (hC 0 (by omega))
              have h5 := h4 0 (by have := hc.1; omega)
              rw [List.getElem?_eq_getElem (by have := hc.1; omega)] at h5
              have h6 := World.cell?_spot h5
              simpa [Addr.add] using h6
            have hbound : len ≤ 140737488355328 := by
              have h1 := hw ((elems.length + rest.length) * P.bytesOf e) (by simp [DataW.weights, hu])
              have h2 := reachBytes_lt
              have h3 := hc.2.2
              have h4 : len ≤ (elems.length + rest.length) * P.bytesOf e := by
                calc len ≤ elems.length + rest.length := by omega
                  _ ≤ (elems.length + rest.length) * P.bytesOf e := Nat.le_mul_of_pos_right _ h3
              omega
            refine Opens.slice (k := P.cellsOf e) hsp hc.1 hlc hbound C (fun i hi => ?_) (fun i j hi hj => ?_) (fun i hi => (World.cells?_some (hC i hi)).2.1) (fun h0 => ?_)
            · obtain ⟨cs', h1, y, h2⟩ := hget i hi
              rw [hC i hi] at h1
              cases h1
              have hy : elems[i]? = some y := by
                rw [← hE i hi, hC i hi]; exact h2
              exact open_trod d m e (C i) y l h2 hl fun k hk => hw k (by
                simp only [DataW.weights, hu, List.mem_cons, List.mem_append]
                exact .inr (.inl (weightsAll_mem (List.mem_map.2 ⟨y, List.mem_of_getElem? hy, rfl⟩) k hk)))
            · obtain ⟨_, h3, h4⟩ := World.cells?_some (hC i hi)
              have h5 := h4 j hj
              rw [List.getElem?_eq_getElem (by omega), hadd] at h5
              exact ⟨_, List.getElem?_eq_getElem (by omega), h5⟩
            · have h3 := hC 0 (by omega)
              obtain ⟨_, h4, h5⟩ := World.cells?_some h3
              have h6 := h5 0 (by have := hc.1; omega)
              rw [List.getElem?_eq_getElem (by have := hc.1; omega), hadd] at h6
              simp only [Nat.zero_mul, Nat.add_zero, Addr.add, if_true] at h6
              unfold World.cell? at h6
              cases hb : w.heap[a.block]? with
              | none => rw [hb] at h6; cases h6
              | some o => exact (Array.getElem?_eq_some_iff.1 hb).1
        · cases ht
      · cases ht
    · rename_i fs hu
      split at ht
      · rename_i l hl
        split at ht
        · rename_i hlen
          have ht' : l = tys := by simpa using ht
          rw [← ht']
          obtain ⟨xs, m, _, rfl, hcs, hxs, hf⟩ := DataW.trod_struct hu hx
          have := Opens.fields (w := w) (cs := cs) fs.toList 0 l hl (by omega) (fun f hf' q hq hql hle => by
            obtain ⟨i, hi, rfl⟩ := List.mem_iff_getElem.1 hf'
            have hi' : i < fs.size := by simpa using hi
            have h1 := hf i fs[i] (Array.getElem?_eq_getElem hi')
            rw [List.getElem?_eq_getElem (by omega)] at h1
            exact open_trod d m _ _ _ q h1 hq fun k hk => hw k (by
              simp only [DataW.weights, hu]
              exact DataW.weights_mem_each (j := i) (t := fs[i].type) (d := (xs[i]'(by omega)).1) (by simp [hi']) (by rw [List.getElem?_map, List.getElem?_eq_getElem (by omega)]; rfl) k hk))
          simpa using this
        · cases ht
      · cases ht
    · rename_i m e hu
      split at ht
      · rename_i l hl
        split at ht
        · rename_i hc
          cases ht
          obtain ⟨xs, f, _, rfl, hcs, hxs, hf⟩ := DataW.trod_array hu hx
          refine Opens.array (k := P.cellsOf e) hc.1 m cs (by rw [hcs, hc.2]) (fun i hi => ?_)
          have h1 := hf i hi
          rw [List.getElem?_eq_getElem (by omega)] at h1
          exact open_trod d f _ _ _ l h1 hl fun k hk => hw k (by
            simp only [DataW.weights, hu]
            exact weightsAll_mem (List.mem_map.2 ⟨_, List.getElem_mem _, rfl⟩) k hk)
        · cases ht
      · cases ht
    · cases ht

end

end Go.D

/- A statement's step: its arguments opened, its answer closed. -/
namespace Go.D
set_option linter.all false
open Go.ChangeShapes Go.WideShapes
section
variable {H : Type} {enc : TypeId × Value → H} {P : Program} {W W' : World}

/-- Behind the call each old block is as it was. -/
structure Still (W W' : World) : Prop where
  os : W'.os = W.os
  output : W'.output = W.output
  heap : ∀ b, b < W.heap.size → W'.heap[b]? = W.heap[b]?

theorem Still.keptBut (h : Still W W') (may : MemPlace → Prop) : W.keptBut W' may := by
  refine ⟨h.os, h.output, fun i hi => ?_⟩
  rw [h.heap i hi]
  split
  · rename_i e1 e2
    cases e1.symm.trans e2
    exact ⟨rfl, rfl, rfl, fun _ _ => rfl⟩
  · rename_i e1 e2
    cases e1.symm.trans e2
    exact .inr ⟨rfl, rfl⟩
  · rfl

theorem Still.cell (h : Still W W') {a : Addr} (ha : a.block < W.heap.size) : W'.cell? a = W.cell? a := by
  simp only [World.cell?, h.heap a.block ha]

theorem Still.frozen (h : Still W W') {a : Addr} (ha : a.block < W.heap.size) : W'.frozen? a = W.frozen? a := by
  simp only [World.frozen?, h.heap a.block ha]

theorem Still.same (h : Still W W') {p : MemPlace} (hp : p.block < W.heap.size) : W.sameAt W' p := by
  cases p with
  | cell b off => exact h.cell hp
  | map b => exact h.heap b hp

/-- The statement's answer: true; the arguments read as before. -/
theorem law_post {T : TypeId → Prop} {f : Func} {s : ChangeSpec} {args : Array Value} {ds gs : List (DataW H)} {before : List MemPlace} {bt : TypeId} (K : Kids P T) (hz : ∀ t e, T t → P.underlying t = some (.slice e) → 0 < P.cellsOf e)
    (hT : ∀ t, t ∈ f.params.toList → T t) (hv : s.vars = []) (hbt : P.underlying bt = some .bool) (hrt : f.resultTypes = #[bt]) (hfn : s.fn H (ds ++ gs) = { results := [.lit (.bool true)], args := ds }) {apart : Bool}
    (hW : DataW.Whole enc P f.params.toList s.vars apart W args.toList ds gs before) (hS : Still W W') {fresh handsOn : Bool} :
    s.post enc P f apart fresh handsOn false W args (.bool true) W' := by
  obtain ⟨p, q, hA, hV, hb, hfz, hnd⟩ := id hW
  have hlt : ∀ x, x ∈ before → x.block < W.heap.size := fun x hx => hW.lt x hx
  rw [hv] at hV
  obtain ⟨rfl, rfl⟩ := trodVars_none hV
  simp only [List.append_nil] at hb hfn
  subst hb
  have hcarry : ∀ {ts : List TypeId} {vs : List Value} {ds : List (DataW H)} {p : List MemPlace} {sp : Nat → Bool}, DataW.TrodAll enc P W 0 sp true ts vs ds p → (∀ x, x ∈ p → x.block < W.heap.size) → DataW.TrodAll enc P W' 0 sp true ts vs ds p := by
    intro ts
    induction ts with
    | nil =>
      intro vs ds p sp h _
      cases vs <;> cases ds <;> first | exact h | exact h.elim
    | cons t ts ih =>
      intro vs ds p sp h hp
      match vs, ds, h with
      | v :: vs, d :: ds, ⟨p1, p2, ⟨n, h1⟩, h2, e⟩ =>
        exact ⟨p1, p2, ⟨n, DataW.trod_carry n _ _ _ h1 (fun x hx => hS.same (hp x (by rw [e]; exact List.mem_append_left _ hx)))⟩, ih h2 (fun x hx => hp x (by rw [e]; exact List.mem_append_right _ hx)), e⟩
  have hres : ∀ (b : Nat) (sp : Nat → Bool) (hd : Bool), DataW.TrodAll enc P W' b sp hd f.resultTypes.toList ((Value.bool true).resultList f.resultTypes.size) (s.fn H (ds ++ [])).results [] := fun b sp hd => by
    simp only [List.append_nil, hfn, hrt]
    exact ⟨[], [], ⟨1, by simp [DataW.trod, Value.cells, hbt]⟩, rfl, rfl⟩
  have hsp : ∀ sp : Nat → Bool, (∀ x, x ∈ before → sp x.block = true) → DataW.TrodAll enc P W' 0 sp true f.params.toList args.toList (s.fn H (ds ++ [])).args before := fun sp hx => by
    simp only [List.append_nil, hfn]
    exact hcarry (DataW.TrodAll.respare K hz hT hA hx) hlt
  have hvars : ∀ sp : Nat → Bool, DataW.TrodVars enc P W' sp s.vars (s.fn H (ds ++ [])).vars [] := fun sp => by
    simp only [List.append_nil, hfn, hv]; rfl
  refine ⟨ds, [], before, [], before, [], hW, hres _ _ _, hsp _ (fun x hx => decide_eq_true (hlt x hx)), hvars _, hS.keptBut _, fun h => Bool.noConfusion h⟩
end
end Go.D

/- A statement's row: a law whose small code answers true over whatever read-only arguments holds. -/
namespace Go.D
set_option linter.all false
open Go.ChangeShapes Go.WideShapes

/-- A parameter: is it an aggregate; its cells. -/
def paramTy (P : Program) (d : Nat) (t : TypeId) : Option (Bool × List TY) :=
  match tyOf P d t with
  | some l => match P.underlying t with
    | some (.struct _) => some (true, l)
    | some (.array _ _) => some (true, l)
    | some (.int _) => some (false, l)
    | some .bool => some (false, l)
    | some (.slice _) => some (false, l)
    | _ => none
  | none => none
def paramTys (P : Program) (d : Nat) : List TypeId → Option (List (Bool × List TY))
  | [] => some []
  | t :: ts => match paramTy P d t, paramTys P d ts with
    | some x, some l => some (x :: l)
    | _, _ => none

/-- A parameter's value. -/
def hasV (h : List Blk) : Bool × List TY → V → Prop
  | (true, l), v => ∃ ss, v = .agg ss ∧ hasTs h l ss
  | (false, l), v => ∃ s, v = .s s ∧ hasTs h l [s]
def hasVs (h : List Blk) : List (Bool × List TY) → List V → Prop
  | [], [] => True
  | t :: ts, v :: vs => hasV h t v ∧ hasVs h ts vs
  | _, _ => False

theorem hasV_mono {h h' : List Blk} {t : Bool × List TY} {v : V} (H : hasV h t v) : hasV (h ++ h') t v := by
  obtain ⟨b, l⟩ := t
  cases b with
  | true => obtain ⟨ss, e, H⟩ := H; exact ⟨ss, e, hasTs_mono H⟩
  | false => obtain ⟨s, e, H⟩ := H; exact ⟨s, e, hasTs_mono H⟩

section
variable {H : Type} {enc : TypeId × Value → H} {P : Program} {w : World}

theorem V.tr_old {σ σ' : Sg} {n : Nat} (hA : ∀ k, k < n → σ' (.g k) = σ (.g k)) {v : V} (hv : v.val n 0 = true) : v.tr σ' = v.tr σ :=
  V.tr_congr (n := n) (m := 0) (fun r hr => by
    cases r with
    | g k => exact hA k (by simpa [R.val] using hr)
    | l k => simp [R.val] at hr) v hv

theorem open_arg {r : Reach} {base : Nat} {t : TypeId} {v : Value} {d : DataW H} {p : List MemPlace} {D : Nat} {x : Bool × List TY} {sp : Nat → Bool} {held : Bool} {b0 : Nat}
    (hok : Value.okWide P w r base t v) (ht : DataW.Trod enc P w b0 sp held t v d p) (hx : paramTy P D t = some x) (hw : ∀ k, k ∈ d.weights P t → k ≤ reachBytes) :
    ∀ (σ : Sg) (h : List Blk), RO σ h w → ∃ (h' : List Blk) (σ' : Sg) (u : V), (∀ k, k < h.length → σ' (.g k) = σ (.g k)) ∧ RO σ' (h ++ h') w ∧ hasV (h ++ h') x u ∧ u.tr σ' = v ∧ u.val (h ++ h').length 0 = true ∧ u.known = true := by
  obtain ⟨n, ht⟩ := ht
  unfold paramTy at hx
  split at hx
  · rename_i l hl
    have agg : ∀ cs, v = .agg cs → Row.okWide P w r base t cs → x = (true, l) → ∀ (σ : Sg) (h : List Blk), RO σ h w → ∃ (h' : List Blk) (σ' : Sg) (u : V), (∀ k, k < h.length → σ' (.g k) = σ (.g k)) ∧ RO σ' (h ++ h') w ∧ hasV (h ++ h') x u ∧ u.tr σ' = v ∧ u.val (h ++ h').length 0 = true ∧ u.known = true := by
      intro cs hv hr hx σ h hR
      subst hv; subst hx
      obtain ⟨h', σ', ss, a1, a2, a3, a4, a5, a6⟩ := open_trod D n t cs.toList (d, p) l ht hl hw σ h hR
      refine ⟨h', σ', .agg ss, a1, a2, ⟨ss, rfl, a3⟩, ?_, a5, a6⟩
      simp only [V.tr, trs, a4, Array.toArray_toList]
    have one : v.cells = #[v] → x = (false, l) → ∀ (σ : Sg) (h : List Blk), RO σ h w → ∃ (h' : List Blk) (σ' : Sg) (u : V), (∀ k, k < h.length → σ' (.g k) = σ (.g k)) ∧ RO σ' (h ++ h') w ∧ hasV (h ++ h') x u ∧ u.tr σ' = v ∧ u.val (h ++ h').length 0 = true ∧ u.known = true := by
      intro hc hx σ h hR
      subst hx
      rw [hc] at ht
      obtain ⟨h', σ', ss, a1, a2, a3, a4, a5, a6⟩ := open_trod D n t [v] (d, p) l ht hl hw σ h hR
      match ss, a4 with
      | [s], a4 =>
        simp only [List.map_cons, List.map_nil, List.cons.injEq, and_true] at a4
        refine ⟨h', σ', .s s, a1, a2, ⟨s, rfl, a3⟩, a4, ?_, ?_⟩
        · simpa [vals, V.val] using a5
        · simpa [known_cons, known_nil] using a6
    unfold Value.okWide at hok
    split at hx <;> rename_i hu <;> simp only [hu, Option.some.injEq] at hok hx
    · obtain ⟨cs, hv, _, hr⟩ := hok; exact agg cs hv hr hx.symm
    · obtain ⟨cs, hv, _, hr⟩ := hok; exact agg cs hv hr hx.symm
    · refine one ?_ hx.symm
      unfold Cell.okWide at hok; rw [hu] at hok
      cases v <;> first | rfl | (simp [Cell.ok, hu] at hok)
    · refine one ?_ hx.symm
      unfold Cell.okWide at hok; rw [hu] at hok
      cases v <;> first | rfl | (simp [Cell.ok, hu] at hok)
    · refine one ?_ hx.symm
      unfold Cell.okWide at hok; rw [hu] at hok
      cases v <;> first | rfl | (simp [Cell.ok, hu] at hok)
    · cases hx
  · cases hx

theorem open_args {r : Reach} {base D : Nat} {sp : Nat → Bool} {held : Bool} {b0 : Nat} : ∀ (ts : List TypeId) (vs : List Value) (ds : List (DataW H)) (p : List MemPlace) (xs : List (Bool × List TY)),
    (∀ (j : Nat) t v, ts[j]? = some t → vs[j]? = some v → Value.okWide P w r base t v) → DataW.TrodAll enc P w b0 sp held ts vs ds p → paramTys P D ts = some xs → (∀ (j : Nat) t d, ts[j]? = some t → ds[j]? = some d → ∀ k, k ∈ d.weights P t → k ≤ reachBytes) →
    ∀ (σ : Sg) (h : List Blk), RO σ h w → ∃ (h' : List Blk) (σ' : Sg) (us : List V), (∀ k, k < h.length → σ' (.g k) = σ (.g k)) ∧ RO σ' (h ++ h') w ∧ hasVs (h ++ h') xs us ∧ us.map (V.tr σ') = vs ∧ us.all (V.val (h ++ h').length 0) = true ∧ us.all V.known = true
  | [], vs, ds, p, xs, _, ht, hx, _ => fun σ h hR => by
    obtain ⟨rfl, rfl, rfl⟩ := trodAll_nil ht
    simp only [paramTys, Option.some.injEq] at hx
    subst hx
    exact ⟨[], σ, [], fun _ _ => rfl, by simpa using hR, trivial, rfl, rfl, rfl⟩
  | t :: ts, vs, ds, p, xs, hok, ht, hx, hw => fun σ h hR => by
    obtain ⟨v, vs', d, ds', p', q, rfl, rfl, rfl, h0, h1⟩ := trodAll_cons ht
    simp only [paramTys] at hx
    split at hx
    · rename_i x l hx1 hx2
      cases hx
      obtain ⟨ha, σa, u, a1, a2, a3, a4, a5, a6⟩ := open_arg (hok 0 t v rfl rfl) h0 hx1 (hw 0 t d rfl rfl) σ h hR
      obtain ⟨hb, σb, us, b1, b2, b3, b4, b5, b6⟩ := open_args ts vs' ds' q l (fun j t v ht hv => hok (j + 1) t v (by simpa using ht) (by simpa using hv)) h1 hx2 (fun j t d ht hd => hw (j + 1) t d (by simpa using ht) (by simpa using hd)) σa (h ++ ha) a2
      refine ⟨ha ++ hb, σb, u :: us, fun k hk => ?_, by rw [← List.append_assoc]; exact b2, ?_, ?_, ?_, ?_⟩
      · rw [b1 k (by simp; omega), a1 k hk]
      · rw [← List.append_assoc]; exact ⟨hasV_mono a3, b3⟩
      · rw [List.map_cons, b4, V.tr_old b1 a5, a4]
      · rw [← List.append_assoc, List.all_cons, Bool.and_eq_true]
        exact ⟨V.val_mono (by simp) (Nat.le_refl _) a5, b5⟩
      · rw [List.all_cons, Bool.and_eq_true]; exact ⟨a6, b6⟩
    · cases hx
end

/-- A law's spec: over whatever arguments it answers true. -/
def Law (S : FSpec) (xs : List (Bool × List TY)) : Prop := ∀ (h : List Blk) (us : List V), hasVs h xs us → clean h.length h = true → S us h fun v _ => v = .s (.b true)

theorem law_calls {P : Program} {H : Type} {enc : TypeId × Value → H} {W : World} {f : FuncId} {S : FSpec} {r : Reach} {base D : Nat} {ts : List TypeId} {args : Array Value} {ds : List (DataW H)} {p : List MemPlace} {xs : List (Bool × List TY)} {sp : Nat → Bool} {held : Bool} {b0 : Nat}
    (hS : Snd P f S) (hL : Law S xs) (hok : ∀ (j : Nat) t v, ts[j]? = some t → args[j]? = some v → Value.okWide P W r base t v) (ht : DataW.TrodAll enc P W b0 sp held ts args.toList ds p) (hx : paramTys P D ts = some xs) (hw : ∀ (j : Nat) t d, ts[j]? = some t → ds[j]? = some d → ∀ k, k ∈ d.weights P t → k ≤ reachBytes) :
    Calls P f args W fun e W' => e = .returned (.bool true) ∧ Still W W' := by
  have hR0 : RO (fun _ => (0, 0)) [] W := ⟨fun k B hB => by simp at hB, fun B hB => by cases hB⟩
  obtain ⟨h, σ, us, _, hR, hV, he, hval, hk⟩ := open_args ts args.toList ds p xs (fun j t v h1 h2 => hok j t v h1 (by simpa using h2)) ht hx hw _ [] hR0
  simp only [List.nil_append] at hR hV hval
  have hcl : clean h.length h = true := by
    simp only [clean, List.all_eq_true]
    exact hR.val
  have hc := hS σ h W us _ hR.sim hval hk (hL h us hV hcl)
  have ha : (us.map (V.tr σ)).toArray = args := by rw [he]
  rw [ha] at hc
  refine hc.mono fun e W' ⟨v, h', σ', e1, _, _, hI, e2⟩ => ?_
  subst e2
  refine ⟨e1, hI.kept.same.os, hI.kept.same.output, fun b hb => hI.kept.keep b hb fun k B hB hst => ?_⟩
  exact absurd hst (hR.ok k B hB).1

/-! ### the row -/
def slicesFull (P : Program) : Bool := (List.range P.types.size).all fun t => match P.underlying t with
  | some (.slice e) => decide (0 < P.cellsOf e)
  | _ => true

theorem trodAll_length {H : Type} {enc : TypeId × Value → H} {P : Program} {w : World} {b0 : Nat} {sp : Nat → Bool} {held : Bool} : ∀ {ts : List TypeId} {vs : List Value} {ds : List (DataW H)} {p : List MemPlace}, DataW.TrodAll enc P w b0 sp held ts vs ds p → ds.length = ts.length
  | [], vs, ds, p, h => by obtain ⟨_, rfl, _⟩ := trodAll_nil h; rfl
  | t :: ts, vs, ds, p, h => by
    obtain ⟨v, vs', d, ds', p', q, rfl, rfl, rfl, _, h1⟩ := trodAll_cons h
    simp [trodAll_length h1]

/-- What is asked of the program and the law's function, by reckoning. -/
structure RowOk (P : Program) (f : FuncId) (fn : Func) (s : ChangeSpec) (xs : List (Bool × List TY)) : Prop where
  own : ownKnob P.godebug = none
  noInit : P.inits.idxOf? f = none
  isf : P.funcs[f]? = some fn
  laid : laidOutB P = true
  rowed : mapsRowed P = true
  full : slicesFull P = true
  params : fn.params.toList.all (fun t => decide (t < P.types.size)) = true
  vars : s.vars = []
  ret : ∃ bt, fn.resultTypes = #[bt] ∧ P.underlying bt = some .bool
  spec : ∀ (H : Type) (ds : List (DataW H)), ds.length = fn.params.toList.length → s.fn H ds = { results := [.lit (.bool true)], args := ds }
  tys : ∃ D, paramTys P D fn.params.toList = some xs

theorem RowOk.calls {P : Program} {f : FuncId} {fn : Func} {s : ChangeSpec} {xs : List (Bool × List TY)} (R : RowOk P f fn s xs) {S : FSpec} (hS : Snd P f S) (hL : Law S xs)
    {H : Type} {enc : TypeId × Value → H} {W : World} {base : Nat} {r : Reach} {args : Array Value} {ds gs : List (DataW H)} {before : List MemPlace} {apart fresh handsOn : Bool}
    (hval : ∀ (j : Nat) t v, fn.params[j]? = some t → args[j]? = some v → Value.okWide P W r base t v) (hW : DataW.Whole enc P fn.params.toList s.vars apart W args.toList ds gs before)
    (hZ : (DataW.weightsEach P (fn.params.toList ++ s.plain.varTypes P) (ds ++ gs)).all (· ≤ reachBytes) = true) :
    Calls P f args W fun e W' => ∃ v, e = .returned v ∧ s.post enc P fn apart fresh handsOn false W args v W' := by
  obtain ⟨D, hx⟩ := R.tys
  obtain ⟨bt, hrt, hbt⟩ := R.ret
  obtain ⟨p, q, hA, hV, hb, hfz, hnd⟩ := id hW
  have hc := law_calls hS hL (fun j t v h1 h2 => hval j t v (by simpa using h1) h2) hA hx (fun j t d ht hd k hk => by
    have h1 : (fn.params.toList ++ s.plain.varTypes P)[j]? = some t := by rw [List.getElem?_append_left (List.getElem?_eq_some_iff.1 ht).1]; exact ht
    have h2 : (ds ++ gs)[j]? = some d := by rw [List.getElem?_append_left (List.getElem?_eq_some_iff.1 hd).1]; exact hd
    have h3 := List.all_eq_true.1 hZ _ (DataW.weights_mem_each h1 h2 k hk)
    simpa using h3)
  refine hc.mono fun e W' ⟨he, hst⟩ => ⟨_, he, ?_⟩
  have hgs : gs = [] := by
    rw [R.vars] at hV; exact (trodVars_none hV).1
  subst hgs
  refine law_post (kids_rows R.laid R.rowed) (fun t e ht hu => ?_) (fun t ht => ?_) R.vars hbt hrt ?_ hW hst
  · have := R.full
    simp only [slicesFull, List.all_eq_true, List.mem_range] at this
    have := this t ht
    rw [hu] at this
    simpa using this
  · have := R.params
    simp only [List.all_eq_true, decide_eq_true_eq] at this
    exact this t ht
  · simp only [List.append_nil]
    exact R.spec H ds (trodAll_length hA)

theorem RowOk.lifted {C : Checked} {f : FuncId} {fn : Func} {s : ChangeSpec} {xs : List (Bool × List TY)} (R : RowOk C.prog f fn s xs) {S : FSpec} (hS : Snd C.prog f S) (hL : Law S xs) {os : Os} (started : os.Started) {H : Type} {enc : TypeId × Value → H} {conds : List PathCond} {apart fresh handsOn : Bool}
    (witness : ∃ (w : World) (tape : Tape) (i : Input), w.os = os ∧ (w.forCall tape i).Shaped C.prog ∧ i.vars = [] ∧ Input.okWide C.prog (w.forCall tape i) .any w.heap.size f i ∧
      s.pre6 enc C.prog fn conds apart (w.forCall tape i).memory i.args ∧ ({} : Assume).holds C.prog (lone (Frame.enter C.prog f i.args .normal) [] (w.forCall tape i))) :
    ReturnsInHanded {} C os f .any (s.pre6 enc C.prog fn conds apart) (s.post enc C.prog fn apart fresh handsOn false) :=
  returnsInHanded_of_change_sized R.own started R.noInit R.isf witness fun _ _ _ _ _ _ hval hW _ hZ _ => R.calls hS hL hval hW hZ

end Go.D

/- The facts of the rows of this seat. -/
namespace Go.Proofs.Ytdlloccodmdnnaa
open Go.D
set_option linter.all false
set_option maxRecDepth 100000

theorem own : ownKnob Try.prog.godebug = none := by kernel_rfl
theorem laid : laidOutB Try.prog = true := by kernel_rfl
theorem rowed : mapsRowed Try.prog = true := by kernel_rfl
theorem full : slicesFull Try.prog = true := by kernel_rfl

theorem hasTs_cons {h : List Blk} {t : TY} {ts : List TY} {ss : List S} (H : hasTs h (t :: ts) ss) : ∃ s ss', ss = s :: ss' ∧ hasT h t s ∧ hasTs h ts ss' := by
  cases ss with
  | nil => exact H.elim
  | cons s ss => exact ⟨s, ss, rfl, H.1, H.2⟩
theorem hasTs_nil {h : List Blk} {ss : List S} (H : hasTs h [] ss) : ss = [] := by
  cases ss with
  | nil => rfl
  | cons s ss => exact H.elim
theorem hasT_int {h : List Blk} {k : IntKind} {s : S} (H : hasT h (.int k) s) : ∃ n, s = .i k n ∧ (Lit.int k n).wf = true := H
theorem hasT_bool {h : List Blk} {s : S} (H : hasT h .bool s) : ∃ b, s = .b b := H
/-- The arguments, one by one. -/
theorem law1 {h : List Blk} {x : Bool × List TY} {us : List V} (H : hasVs h [x] us) : ∃ u, us = [u] ∧ hasV h x u := by
  match us, H with
  | [u], H => exact ⟨u, rfl, H.1⟩
  | [], H => exact H.elim
  | _ :: _ :: _, H => exact H.2.elim
theorem law2 {h : List Blk} {x y : Bool × List TY} {us : List V} (H : hasVs h [x, y] us) : ∃ u v, us = [u, v] ∧ hasV h x u ∧ hasV h y v := by
  match us, H with
  | [u, v], H => exact ⟨u, v, rfl, H.1, H.2.1⟩
  | [], H => exact H.elim
  | [_], H => exact H.2.elim
  | _ :: _ :: _ :: _, H => exact H.2.2.elim
theorem law3 {h : List Blk} {x y z : Bool × List TY} {us : List V} (H : hasVs h [x, y, z] us) : ∃ u v w, us = [u, v, w] ∧ hasV h x u ∧ hasV h y v ∧ hasV h z w := by
  match us, H with
  | [u, v, w], H => exact ⟨u, v, w, rfl, H.1, H.2.1, H.2.2.1⟩
  | [], H => exact H.elim
  | [_], H => exact H.2.elim
  | [_, _], H => exact H.2.2.elim
  | _ :: _ :: _ :: _ :: _, H => exact H.2.2.2.elim
theorem hasV_int {h : List Blk} {k : IntKind} {v : V} (H : hasV h (false, [.int k]) v) : ∃ n, v = .s (.i k n) ∧ (Lit.int k n).wf = true := by
  obtain ⟨s, rfl, ⟨n, rfl, hn⟩, _⟩ := H
  exact ⟨n, rfl, hn⟩

/-- A slice of elements that are read one by one. -/
theorem hasT_arr {α : Type} {c : α → List S} {h : List Blk} {e : List TY} (hd : ∀ ss, hasTs h e ss → ∃ x, ss = c x) : ∀ (E : List (List S)), (∀ x, x ∈ E → hasTs h e x) → ∃ L : List α, E.flatten = arr c L ∧ L.length = E.length
  | [], _ => ⟨[], rfl, rfl⟩
  | x :: E, H => by
    obtain ⟨y, rfl⟩ := hd x (H x List.mem_cons_self)
    obtain ⟨L, e1, e2⟩ := hasT_arr hd E (fun z hz => H z (List.mem_cons_of_mem _ hz))
    exact ⟨y :: L, by simp [arr, e1], by simp [e2]⟩
end Go.Proofs.Ytdlloccodmdnnaa

/- Slices as arguments of a statement. -/
namespace Go.Proofs.Ytdlloccodmdnnaa
open Go.D
set_option linter.all false
set_option maxRecDepth 100000

theorem hasT_arrP {α : Type} {c : α → List S} {p : α → Prop} {h : List Blk} {e : List TY} (hd : ∀ ss, hasTs h e ss → ∃ x, ss = c x ∧ p x) : ∀ (E : List (List S)), (∀ x, x ∈ E → hasTs h e x) → ∃ L : List α, E.flatten = arr c L ∧ L.length = E.length ∧ ∀ x, x ∈ L → p x
  | [], _ => ⟨[], rfl, rfl, fun x hx => by cases hx⟩
  | x :: E, H => by
    obtain ⟨y, rfl, hy⟩ := hd x (H x List.mem_cons_self)
    obtain ⟨L, e1, e2, e3⟩ := hasT_arrP hd E (fun z hz => H z (List.mem_cons_of_mem _ hz))
    refine ⟨y :: L, by simp [arr, e1], by simp [e2], fun z hz => ?_⟩
    rcases List.mem_cons.1 hz with rfl | hz
    · exact hy
    · exact e3 z hz
theorem isArr_of {α : Type} {c : α → List S} {p : α → Prop} {h : List Blk} {e : List TY} {s : S} (hd : ∀ ss, hasTs h e ss → ∃ x, ss = c x ∧ p x) (H : hasT h (.slice e) s) : ∃ L : List α, IsArr c h s L ∧ (∀ x, x ∈ L → p x) ∧ L.length ≤ 140737488355328 := by
  rcases H with rfl | ⟨a, c, rfl⟩ | ⟨j, n, cp, E, st, room, rfl, h1, h2, h3, h4, h5, h6, h7⟩
  · exact ⟨[], .inl ⟨.inl rfl, rfl⟩, (fun x hx => by cases hx), by simp⟩
  · exact ⟨[], .inl ⟨.inr ⟨a, c, rfl⟩, rfl⟩, (fun x hx => by cases hx), by simp⟩
  · obtain ⟨L, e1, e2, e3⟩ := hasT_arrP (c := c) (p := p) hd E h7
    have hn : L.length = n := by omega
    refine ⟨L, .inr ⟨j, cp, st, room, by rw [hn], by rw [← e1]; exact h3, fun h0 e => ?_⟩, e3, ?_⟩
    · have := h5 (by omega)
      rw [this] at e; cases e
    · omega
theorem hasV_slice {α : Type} {c : α → List S} {p : α → Prop} {h : List Blk} {e : List TY} {v : V} (hd : ∀ ss, hasTs h e ss → ∃ x, ss = c x ∧ p x) (H : hasV h (false, [.slice e]) v) : ∃ (s : S) (L : List α), v = .s s ∧ IsArr c h s L ∧ (∀ x, x ∈ L → p x) ∧ L.length ≤ 140737488355328 := by
  obtain ⟨s, rfl, H1, _⟩ := H
  obtain ⟨L, e1, e2, e3⟩ := isArr_of hd H1
  exact ⟨s, L, rfl, e1, e2, e3⟩
def Uw.c (n : Int) : List S := [.i .u64 n]
theorem arr_wc : ∀ L : List Int, arr Uw.c L = wc L
  | [] => rfl
  | x :: L => by simp only [arr, Uw.c, wc_cons, arr_wc L, List.cons_append, List.nil_append]
theorem u64_wf {n : Int} (h : (Lit.int .u64 n).wf = true) : u64 n := by
  have e : (decide ((0 : Int) ≤ n) && decide (n ≤ 18446744073709551615)) = true := h
  simp only [Bool.and_eq_true, decide_eq_true_eq] at e
  simp only [u64]; omega
/-- A slice of words. -/
theorem isList_of {h : List Blk} {s : S} (H : hasT h (.slice [.int .u64]) s) : ∃ L : List Int, IsList h s L ∧ (∀ x, x ∈ L → u64 x) ∧ L.length ≤ 140737488355328 := by
  obtain ⟨L, e1, e2, e3⟩ := isArr_of (c := Uw.c) (p := u64) (fun ss h => by
    obtain ⟨_, _, rfl, ⟨n, rfl, hn⟩, H2⟩ := hasTs_cons h
    obtain rfl := hasTs_nil H2
    exact ⟨n, rfl, u64_wf hn⟩) H
  refine ⟨L, ?_, e2, e3⟩
  rcases e1 with ⟨e0, rfl⟩ | ⟨j, c', st, room, rfl, e1, hd⟩
  · exact .inl ⟨e0, rfl⟩
  · rw [arr_wc] at e1
    rcases Nat.eq_zero_or_pos L.length with h0 | h0
    · exact .inr (.inl ⟨j, 0, c', _, by rw [h0], e1, List.eq_nil_of_length_eq_zero h0⟩)
    · refine .inr (.inr ⟨j, 0, c', _, rfl, e1, hd (by omega), ?_, ?_⟩)
      · simp only [wc_len]; omega
      · simp only; rw [wc_sub, List.drop_zero, List.take_length]
end Go.Proofs.Ytdlloccodmdnnaa

/- Law 07: SlotsBack. -/
namespace Go.Proofs.Ytdlloccodmdnnaa
open Go.D
set_option linter.all false
set_option maxRecDepth 100000
set_option maxHeartbeats 4000000

theorem M.putX_len (m : M) (a : Int) (s : Slot) : (m.putX a s).w.length = m.w.length := by
  unfold M.putX; split
  · exact M.putS_len m a s
  · rfl
theorem M.getX_w (m : M) (a : Int) : (m.getX a).w = m.w := by
  unfold M.getX; split <;> rfl
theorem putE_ok {m : M} {a : Int} {s : Slot} : m.putE a s = 0 ↔ thereB m a = true ∧ slotRB s = true := by
  unfold M.putE
  cases thereB m a <;> cases slotRB s <;> simp
def slot2F (f : Int → Slot → Slot → Res) : List V → Res
  | [.s (.i .i64 a), x, y] => slotF (fun s => slotF (fun t => f a s t) [y]) [x]
  | _ => .bad
theorem slot2F_spec {f : Int → Slot → Slot → Res} {args : List V} {K : V → List Blk → Prop} (h : (slot2F f args).spec K) : ∃ a s t, args = [.s (.i .i64 a), .agg s.cl, .agg t.cl] ∧ (f a s t).spec K := by
  unfold slot2F at h
  split at h
  · obtain ⟨s, e1, h⟩ := slotF_spec h
    obtain ⟨t, e2, h⟩ := slotF_spec h
    simp only [List.cons.injEq, and_true] at e1 e2
    subst e1; subst e2
    exact ⟨_, s, t, rfl, h⟩
  · exact h.elim
def slotsBackG (args : List V) (h : List Blk) : Res := slot2F (fun _ _ _ => .ok (.s (.b true)) [] h) args
end Go.Proofs.Ytdlloccodmdnnaa

/- Law 07: SlotsApart. -/
namespace Go.Proofs.Ytdlloccodmdnnaa
open Go.D
set_option linter.all false
set_option maxRecDepth 100000
set_option maxHeartbeats 4000000

theorem M.putX_there (m : M) (a b : Int) (s : Slot) : thereB (m.putX a s) b = thereB m b := by simp only [thereB, M.putX_len]
theorem M.putX_putE (m : M) (a b : Int) (s t : Slot) : (m.putX a s).putE b t = m.putE b t := by simp only [M.putE, M.putX_there]
theorem M.getX_putE (m : M) (a b : Int) (t : Slot) : (m.getX a).putE b t = m.putE b t := by
  simp only [M.getX]; split <;> rfl
theorem M.getX_getV (m : M) (a b : Int) : (m.getX a).getV b = m.getV b := by
  simp only [M.getX]; split <;> rfl
theorem M.getX_getE (m : M) (a b : Int) : (m.getX a).getE b = m.getE b := by
  simp only [M.getX]; split <;> rfl
theorem M.getX_len (m : M) (a : Int) : (m.getX a).w.length = m.w.length := by rw [M.getX_w]
theorem M.put_get {m : M} {a : Int} {s : Slot} (h : m.putE a s = 0) : (m.putX a s).getV a = s := by
  obtain ⟨ht, hr⟩ := putE_ok.1 h
  obtain ⟨sb, sc⟩ := M.putS_slot ht hr
  simp [M.putX, ht, hr, M.getV, M.putS_there, sb, sc]
theorem M.put_get_other {m : M} {a b : Int} {t : Slot} (hb : thereB m a = true) (hn : b ≠ a) : (m.putX b t).getV a = m.getV a := by
  unfold M.putX
  split
  · rename_i h
    simp only [Bool.and_eq_true] at h
    obtain ⟨x, y⟩ := M.putS_other h.1 h.2 hb hn
    simp only [M.getV, M.putS_there, x, y]
  · rfl
theorem putX_comm (m : M) (a b : Int) (s t : Slot) (hn : a ≠ b) : ((m.putX a s).putX b t).w = ((m.putX b t).putX a s).w := by
  simp only [M.putX]
  by_cases h1 : (thereB m a && slotRB s) = true
  · by_cases h2 : (thereB m b && slotRB t) = true
    · simp only [h1, h2, if_true, M.putS_there]
      simp only [Bool.and_eq_true] at h1 h2
      exact putS_comm h1.1 h2.1 h1.2 h2.2 hn
    · simp only [h1, h2, if_true, if_false, Bool.false_eq_true, M.putS_there]
  · by_cases h2 : (thereB m b && slotRB t) = true
    · simp only [h1, h2, if_true, if_false, Bool.false_eq_true, M.putS_there]
    · simp only [h1, h2, if_false, Bool.false_eq_true]

def pairF (f : Int → Int → Slot → Slot → Res) : List V → Res
  | [.agg [.i .i64 x, .i .i64 y, .i .i64 a, .i .i64 b, .i .i64 c, .i .i64 d, .i .i64 e, .i .i64 g, .i .i64 i, .i .i64 j, .i .i64 k, .i .i64 l, .i .i64 m, .i .i64 p, .i .i64 n, .i .i64 q,
      .i .i64 a2, .i .i64 b2, .i .i64 c2, .i .i64 d2, .i .i64 e2, .i .i64 g2, .i .i64 i2, .i .i64 j2, .i .i64 k2, .i .i64 l2, .i .i64 m2, .i .i64 p2, .i .i64 n2, .i .i64 q2]] =>
    f x y ⟨⟨a, b, c, d, e, g, i, j, k, l, m⟩, p, n, q⟩ ⟨⟨a2, b2, c2, d2, e2, g2, i2, j2, k2, l2, m2⟩, p2, n2, q2⟩
  | _ => .bad
theorem pairF_spec {f : Int → Int → Slot → Slot → Res} {args : List V} {K : V → List Blk → Prop} (h : (pairF f args).spec K) : ∃ (x y : Int) (s t : Slot), args = [.agg (.i .i64 x :: .i .i64 y :: (s.cl ++ t.cl))] ∧ (f x y s t).spec K := by
  unfold pairF at h
  split at h
  · exact ⟨_, _, ⟨⟨_, _, _, _, _, _, _, _, _, _, _⟩, _, _, _⟩, ⟨⟨_, _, _, _, _, _, _, _, _, _, _⟩, _, _, _⟩, rfl, h⟩
  · exact h.elim
def slotsApartG (args : List V) (h : List Blk) : Res := pairF (fun _ _ _ _ => .ok (.s (.b true)) [] h) args
theorem slot_eqB (s : Slot) : (s.cap.ty == s.cap.ty && (s.cap.obj == s.cap.obj && (s.cap.bits == s.cap.bits && (s.cap.mark == s.cap.mark && (s.cap.guard == s.cap.guard && (s.cap.gbits == s.cap.gbits && (s.cap.badge == s.cap.badge && (s.cap.rights == s.cap.rights && (s.cap.asid == s.cap.asid && (s.cap.vaddr == s.cap.vaddr && (s.cap.line == s.cap.line && (s.prev == s.prev && (s.next == s.next && s.depth == s.depth))))))))))))) = true := by simp
end Go.Proofs.Ytdlloccodmdnnaa

/- Law 10: memories with some caps. -/
namespace Go.Proofs.Ytdlloccodmdnnaa
open Go.D
set_option linter.all false
set_option maxRecDepth 100000
set_option maxHeartbeats 8000000

structure Lay where
  at_ : Int
  cap : Cap
def Lay.cl (x : Lay) : List S := .i .i64 x.at_ :: x.cap.cl
theorem Lay.cl_len (x : Lay) : x.cl.length = 12 := rfl
theorem Cap.cl_inj {c d : Cap} (e : c.cl = d.cl) : c = d := by
  obtain ⟨a1, a2, a3, a4, a5, a6, a7, a8, a9, a10, a11⟩ := c
  obtain ⟨b1, b2, b3, b4, b5, b6, b7, b8, b9, b10, b11⟩ := d
  simp only [Cap.cl, List.cons.injEq, S.i.injEq, true_and, and_true] at e
  obtain ⟨rfl, rfl, rfl, rfl, rfl, rfl, rfl, rfl, rfl, rfl, rfl⟩ := e
  rfl
instance : Cells Lay.cl := ⟨⟨12, Lay.cl_len⟩, fun x y e => by
  obtain ⟨a, c⟩ := x
  obtain ⟨b, d⟩ := y
  simp only [Lay.cl, List.cons.injEq, S.i.injEq, true_and] at e
  rw [e.1, Cap.cl_inj e.2]⟩
def layZ : Lay := ⟨0, capZ⟩
def layX (m : M) (x : Lay) : M := m.putX x.at_ ⟨x.cap, 0, 0, 0⟩
def laidW (L : List Lay) : M := (L.take 100).foldl layX (M.zero 12)
/-- The same words, no steps. -/
def M.fresh (m : M) : M := ⟨m.w, 0, m.u, m.l⟩
theorem M.fresh_len (m : M) : m.fresh.w.length = m.w.length := rfl
theorem layX_len (m : M) (x : Lay) : (layX m x).w.length = m.w.length := M.putX_len _ _ _
theorem lays_len : ∀ (L : List Lay) (m : M), (L.foldl layX m).w.length = m.w.length
  | [], _ => rfl
  | x :: L, m => by rw [List.foldl_cons, lays_len L, layX_len]
theorem laidW_len (L : List Lay) : (laidW L).w.length = 4096 := by
  unfold laidW
  rw [lays_len]
  exact M.zero_len 12
theorem M.lay_all {m : M} {vs : List Int} (hl : vs.length = m.w.length) (hu : ∀ v, v ∈ vs → u64 v) : (m.lay 0 vs).w = vs := by
  have h1 := M.lay_w vs m 0 hu
  rw [put_eq _ _ _ (by rw [wc_len, wc_len]; omega), wc_len, List.take_zero, List.drop_of_length_le (by rw [wc_len]; omega)] at h1
  simp only [List.nil_append, List.append_nil] at h1
  exact (wc_inj h1).symm
theorem load_fresh {r : M} (h : r.w.length = 4096) : (M.zero 12).loadX 0 r.w = r.fresh ∧ (M.zero 12).loadE 0 r.w = 0 := by
  have l0 : (M.zero 12).w.length = 4096 := M.zero_len 12
  have hh : (M.zero 12).has 0 r.w.length = true := M.has_of (by omega)
  refine ⟨M.ext' ?_ ?_, ?_⟩
  · rw [M.loadX, if_pos hh]; exact M.lay_all (by rw [l0, h]) r.u
  · rw [M.loadX, if_pos hh, M.lay_n]; rfl
  · rw [M.loadE, if_pos hh]
theorem M.zero_fresh (k : Nat) : (M.zero k).fresh = M.zero k := rfl

/-- Two memories behind what was there. -/
def twoM (h : List Blk) (r m : M) : List Blk := h ++ [MB (h.length + 1) r, MW r, MB (h.length + 3) m, MW m]
theorem twoM_eq (h : List Blk) (r m : M) : memH (memH h r) m = twoM h r m := by
  show h ++ [_, _] ++ [MB ((h ++ [_, _]).length + 1) m, _] = _
  simp [twoM]
noncomputable def laidG : List V → List Blk → Res
  | [.s s], h => match arrOf Lay.cl h s with
    | some L => .ob (L.length ≤ 9223372036854775807) (.ok (.tup [.s (.p (.g (h.length + 2)) 0), .s (.p (.g h.length) 0)]) [] (h ++ [MB (h.length + 1) (laidW L), MW (laidW L), MB (h.length + 3) (laidW L).fresh, MW (laidW L).fresh]))
    | none => .bad
  | _, _ => .bad
noncomputable def Tla : Tab := addT 30 newM (addT 53 put2G (addT 29 newM (addT 54 load2G (noT))))
theorem Tla_snd : Tla.Snd Try.prog := addT_snd ok30 rnew_snd (addT_snd ok53 rput2_snd (addT_snd ok29 new_snd (addT_snd ok54 load2_snd ((noT_snd _)))))
theorem laid10_snd : Snd Try.prog 15 (FSpec.of laidG) := snd_run Tla_snd mixed Try.func15 dc15 300 fun args h K hc hS => by
  unfold laidG at hS
  split at hS
  · split at hS
    · rename_i s _ L e
      obtain ⟨hl, hS⟩ := hS
      simp only [spec_ok] at hS
      have H1 := arrOf_some e
      have hlen := fun ls h' => H1.sl.len (ls := ls) (h := h')
      have hbl : ∀ k, S.below k s = true := H1.sl.below
      have l0 : (M.zero 12).w.length = 4096 := M.zero_len 12
      simp (config := { maxSteps := 10000000 }) only [EV1, EV2, EV3, EV4, EV5, EV6, addT, istep, lenR_sl, lenR_ns, lenR_es, pickR, putD, bin1R, un1R, slcR, bnd, capsOf, fillP, S_plain, V_plain, V.cells, S_known, V_known, C.v, blk, setL, setH, eqS, eq1, cmpS, cmp1, isNil, popTo, killT, setT, leT, V.below, C.below, S_below, R.below, V.val, C.val, S_val, R.val, R.takes, vals, shows, List.any_cons, List.any_nil, unnamed, V.kill, V.names, C.names, S_names, R.names, List.set, List.replicate, ↓q_cond_t, ↓q_cond_f, if_true, if_false, reduceCtorEq, rvals, rvC, result, C_known, V.noL, C.noL, S_noL, R.noL, Option.map, true_and, and_true, ge_iff_le, gt_iff_lt, implies_true, q_ite_t, q_ite_f, beq_iff_eq, bne_iff_ne, q_ne, Nat.reduceAdd, Nat.reducePow, Int.reducePow, Nat.reduceMul, Nat.reduceSub, Nat.reduceLeDiff, Nat.reduceLT, Nat.reduceEqDiff, Int.reduceNeg, Int.reduceLT, Int.reduceLE, Int.reduceEq, Int.reduceNe, Int.reduceAdd, Int.reduceSub, Int.reduceMul, Int.reduceToNat, Int.reduceBEq, Int.reduceBNe, df15, Tla, newM]
      refine loop_rule (α := Nat × M) [6, 14, 15, 16, 17, 18, 19, 20, 21, 22, 23, 24, 25, 26, 27, 28, 29, 30, 31, 32, 33, 34, 35, 36] (fun x => [(6, .s (.i .i64 x.1))]) (fun _ => []) (fun x => memH h x.2) (fun x => x.1 ≤ L.length ∧ x.1 ≤ 100 ∧ x.2 = (L.take x.1).foldl layX (M.zero 12)) (fun x => L.length - x.1) (0, M.zero 12) ⟨Nat.zero_le _, Nat.zero_le _, rfl⟩ ?_ ?_
      · refine Wk.same rfl rfl ?_
        simp (config := { maxSteps := 10000000 }) only [EV1, EV2, EV3, EV4, EV5, EV6, addT, istep, lenR_sl, lenR_ns, lenR_es, pickR, putD, bin1R, un1R, slcR, bnd, capsOf, fillP, S_plain, V_plain, V.cells, S_known, V_known, C.v, blk, setL, setH, eqS, eq1, cmpS, cmp1, isNil, popTo, killT, setT, leT, V.below, C.below, S_below, R.below, V.val, C.val, S_val, R.val, R.takes, vals, shows, List.any_cons, List.any_nil, unnamed, V.kill, V.names, C.names, S_names, R.names, List.set, List.replicate, ↓q_cond_t, ↓q_cond_f, if_true, if_false, reduceCtorEq, rvals, rvC, result, C_known, V.noL, C.noL, S_noL, R.noL, Option.map, true_and, and_true, ge_iff_le, gt_iff_lt, implies_true, q_ite_t, q_ite_f, beq_iff_eq, bne_iff_ne, q_ne, Nat.reduceAdd, Nat.reducePow, Int.reducePow, Nat.reduceMul, Nat.reduceSub, Nat.reduceLeDiff, Nat.reduceLT, Nat.reduceEqDiff, Int.reduceNeg, Int.reduceLT, Int.reduceLE, Int.reduceEq, Int.reduceNe, Int.reduceAdd, Int.reduceSub, Int.reduceMul, Int.reduceToNat, Int.reduceBEq, Int.reduceBNe, q_cast, Int.natCast_zero]
      · rintro X ⟨i, m⟩ ⟨hi, hi2, hm⟩ IH
        simp only at hi hi2 hm IH ⊢
        have fin : ¬ (i < L.length ∧ i < 100) → laidW L = m := fun hx => by
          rw [hm, laidW]
          congr 1
          rcases Nat.lt_or_ge i 100 with h1 | h1
          · rw [List.take_of_length_le (show L.length ≤ 100 by omega), List.take_of_length_le (show L.length ≤ i by omega)]
          · rw [show i = 100 by omega]
        by_cases hx : i < L.length ∧ i < 100
        · obtain ⟨h1, h100⟩ := hx
          obtain ⟨d1, d2, d3, d4⟩ := idx h1 hl
          have d5 : (i : Int) < 100 := by omega
          obtain ⟨j, c', st, room, hse, hj, hd⟩ := H1.at h1
          obtain ⟨x, hx⟩ : ∃ x, nth layZ L i = x := ⟨_, rfl⟩
          have hs : sub (arr Lay.cl L) (i * 12) 12 = x.cl := by rw [← hx, nth_eq h1]; exact arr_sub Lay.cl_len h1
          have g0 : (arr Lay.cl L)[i * 12]? = some (.i .i64 x.at_) := by rw [arr_get0 Lay.cl_len h1 (by omega), ← nth_eq (d := layZ) h1, hx]; rfl
          have g1 : sub (arr Lay.cl L) (i * 12 + 1) 11 = x.cap.cl := by
            have : sub (arr Lay.cl L) (i * 12 + 1) 11 = (sub (arr Lay.cl L) (i * 12) 12).drop 1 := by
              simp only [sub, List.drop_take, List.drop_drop]
            rw [this, hs]; rfl
          have hle : i * 12 + 1 + 11 ≤ (arr Lay.cl L).length := by
            rw [arr_length Lay.cl_len]
            have : (i + 1) * 12 ≤ L.length * 12 := Nat.mul_le_mul_right _ h1
            omega
          have hjl : j < h.length := (List.getElem?_eq_some_iff.1 hj).1
          have hjx : ∀ m, (memH h m)[j]? = some ⟨st, arr Lay.cl L, room⟩ := fun m => by rw [memH, app_getl hjl, hj]
          simp only [Cap.cl] at g1
          refine run_sound (Tab.ok_Γ _) 200 _ _ _ _ ?_
          simp (config := { maxSteps := 10000000 }) only [EV1, EV2, EV3, EV4, EV5, EV6, addT, istep, lenR_sl, lenR_ns, lenR_es, pickR, putD, bin1R, un1R, slcR, bnd, capsOf, fillP, S_plain, V_plain, V.cells, S_known, V_known, C.v, blk, setL, setH, eqS, eq1, cmpS, cmp1, isNil, popTo, killT, setT, leT, V.below, C.below, S_below, R.below, V.val, C.val, S_val, R.val, R.takes, vals, shows, List.any_cons, List.any_nil, unnamed, V.kill, V.names, C.names, S_names, R.names, List.set, List.replicate, ↓q_cond_t, ↓q_cond_f, if_true, if_false, reduceCtorEq, rvals, rvC, result, C_known, V.noL, C.noL, S_noL, R.noL, Option.map, true_and, and_true, ge_iff_le, gt_iff_lt, implies_true, q_ite_t, q_ite_f, beq_iff_eq, bne_iff_ne, q_ne, Nat.reduceAdd, Nat.reducePow, Int.reducePow, Nat.reduceMul, Nat.reduceSub, Nat.reduceLeDiff, Nat.reduceLT, Nat.reduceEqDiff, Int.reduceNeg, Int.reduceLT, Int.reduceLE, Int.reduceEq, Int.reduceNe, Int.reduceAdd, Int.reduceSub, Int.reduceMul, Int.reduceToNat, Int.reduceBEq, Int.reduceBNe, Tla, hse, d1, d2, d3, d4, d5, hjx, hd, g0, g1, hle, memF_new, put2G, put2M, slotF, Int.toNat_natCast, put, fillP]
          refine IH (i + 1, layX m x) _ (by show L.length - (i + 1) < L.length - i; omega) ⟨h1, h100, ?_⟩ (Wk.same rfl rfl ?_)
          · show layX m x = List.foldl layX (M.zero 12) (List.take (i + 1) L)
            rw [List.take_succ_eq_append_getElem h1, List.foldl_append, ← hm, ← hx, nth_eq h1]
            rfl
          · simp (config := { maxSteps := 10000000 }) only [EV1, EV2, EV3, EV4, EV5, EV6, addT, istep, lenR_sl, lenR_ns, lenR_es, pickR, putD, bin1R, un1R, slcR, bnd, capsOf, fillP, S_plain, V_plain, V.cells, S_known, V_known, C.v, blk, setL, setH, eqS, eq1, cmpS, cmp1, isNil, popTo, killT, setT, leT, V.below, C.below, S_below, R.below, V.val, C.val, S_val, R.val, R.takes, vals, shows, List.any_cons, List.any_nil, unnamed, V.kill, V.names, C.names, S_names, R.names, List.set, List.replicate, ↓q_cond_t, ↓q_cond_f, if_true, if_false, reduceCtorEq, rvals, rvC, result, C_known, V.noL, C.noL, S_noL, R.noL, Option.map, true_and, and_true, ge_iff_le, gt_iff_lt, implies_true, q_ite_t, q_ite_f, beq_iff_eq, bne_iff_ne, q_ne, Nat.reduceAdd, Nat.reducePow, Int.reducePow, Nat.reduceMul, Nat.reduceSub, Nat.reduceLeDiff, Nat.reduceLT, Nat.reduceEqDiff, Int.reduceNeg, Int.reduceLT, Int.reduceLE, Int.reduceEq, Int.reduceNe, Int.reduceAdd, Int.reduceSub, Int.reduceMul, Int.reduceToNat, Int.reduceBEq, Int.reduceBNe, hse]
        · have hm := fin hx
          have hlm : m.w.length = 4096 := by rw [← hm]; exact laidW_len L
          rw [hm] at hS
          obtain ⟨q1, q2⟩ := load_fresh hlm
          have hcond : ((i : Int) < L.length) = (i < L.length) := propext (by omega)
          have ha1 : ∀ z, (memH (memH h m) z)[h.length]? = some ⟨.rw, [.sl (.g (h.length + 1)) 0 m.w.length m.w.length, .i .i64 m.n], 2⟩ := fun z => (memH_is1 h m z).ha
          have hL : ∀ z, listOf (memH (memH h m) z) (.sl (.g (h.length + 1)) 0 m.w.length m.w.length) = some m.w := fun z => listOf_at (st := .rw) (room := m.w.length) (memH_is1 h m z).hb (fun x => BK.noConfusion x) rfl
          have hmo : ∀ z, memOf (memH (memH h m) z) (h.length + 2) = some (h.length + 3, z) := fun z => memOf_eq (memH_is2 h m z)
          have hap : apartS (h.length + 3) (.sl (.g (h.length + 1)) 0 m.w.length m.w.length) := by simp only [apartS]; omega
          have hmu : ∀ v, v ∈ m.w → u64 v := m.u
          obtain ⟨z, hz⟩ : ∃ z, M.zero 12 = z := ⟨_, rfl⟩
          rw [hz] at q1 q2
          have h2s : ∀ z', setM (memH (memH h m) z) (h.length + 2) (h.length + 3) z' = twoM h m z' := fun z' => by rw [memH_set2, twoM_eq]
          by_cases c1 : i < L.length
          · have d1 : (i : Int) < L.length := by omega
            have d5 : ¬ (i : Int) < 100 := by omega
            refine run_sound (Tab.ok_Γ _) 300 _ _ _ _ ?_
            simp (config := { maxSteps := 10000000 }) only [EV1, EV2, EV3, EV4, EV5, EV6, addT, istep, lenR_sl, lenR_ns, lenR_es, pickR, putD, bin1R, un1R, slcR, bnd, capsOf, fillP, S_plain, V_plain, V.cells, S_known, V_known, C.v, blk, setL, setH, eqS, eq1, cmpS, cmp1, isNil, popTo, killT, setT, leT, V.below, C.below, S_below, R.below, V.val, C.val, S_val, R.val, R.takes, vals, shows, List.any_cons, List.any_nil, unnamed, V.kill, V.names, C.names, S_names, R.names, List.set, List.replicate, ↓q_cond_t, ↓q_cond_f, if_true, if_false, reduceCtorEq, rvals, rvC, result, C_known, V.noL, C.noL, S_noL, R.noL, Option.map, true_and, and_true, ge_iff_le, gt_iff_lt, implies_true, q_ite_t, q_ite_f, beq_iff_eq, bne_iff_ne, q_ne, Nat.reduceAdd, Nat.reducePow, Int.reducePow, Nat.reduceMul, Nat.reduceSub, Nat.reduceLeDiff, Nat.reduceLT, Nat.reduceEqDiff, Int.reduceNeg, Int.reduceLT, Int.reduceLE, Int.reduceEq, Int.reduceNe, Int.reduceAdd, Int.reduceSub, Int.reduceMul, Int.reduceToNat, Int.reduceBEq, Int.reduceBNe, Tla, hlen, d1, d5, newM, hz, memH_len, ha1, load2G, hmo, hL, hap, hmu, q1, q2, h2s]
            exact ⟨hmu, hS⟩
          · have d1 : ¬ (i : Int) < L.length := by omega
            refine run_sound (Tab.ok_Γ _) 300 _ _ _ _ ?_
            simp (config := { maxSteps := 10000000 }) only [EV1, EV2, EV3, EV4, EV5, EV6, addT, istep, lenR_sl, lenR_ns, lenR_es, pickR, putD, bin1R, un1R, slcR, bnd, capsOf, fillP, S_plain, V_plain, V.cells, S_known, V_known, C.v, blk, setL, setH, eqS, eq1, cmpS, cmp1, isNil, popTo, killT, setT, leT, V.below, C.below, S_below, R.below, V.val, C.val, S_val, R.val, R.takes, vals, shows, List.any_cons, List.any_nil, unnamed, V.kill, V.names, C.names, S_names, R.names, List.set, List.replicate, ↓q_cond_t, ↓q_cond_f, if_true, if_false, reduceCtorEq, rvals, rvC, result, C_known, V.noL, C.noL, S_noL, R.noL, Option.map, true_and, and_true, ge_iff_le, gt_iff_lt, implies_true, q_ite_t, q_ite_f, beq_iff_eq, bne_iff_ne, q_ne, Nat.reduceAdd, Nat.reducePow, Int.reducePow, Nat.reduceMul, Nat.reduceSub, Nat.reduceLeDiff, Nat.reduceLT, Nat.reduceEqDiff, Int.reduceNeg, Int.reduceLT, Int.reduceLE, Int.reduceEq, Int.reduceNe, Int.reduceAdd, Int.reduceSub, Int.reduceMul, Int.reduceToNat, Int.reduceBEq, Int.reduceBNe, Tla, hlen, d1, newM, hz, memH_len, ha1, load2G, hmo, hL, hap, hmu, q1, q2, h2s]
            exact ⟨hmu, hS⟩
    · exact hS.elim
  · exact hS.elim
end Go.Proofs.Ytdlloccodmdnnaa

/- Own blocks become shared ones. Law 10: awake. -/
namespace Go.Proofs.Ytdlloccodmdnnaa
open Go.D
set_option linter.all false
set_option maxRecDepth 100000
set_option maxHeartbeats 8000000

/-- The own blocks from the d-th one on, as shared ones behind the n that there are. -/
def R.unl (n d : Nat) : R → R
  | .g k => if k < n then .g k else .l (d + (k - n))
  | .l k => .l k
theorem R.unl_lt {n d k : Nat} (h : k < n) : R.unl n d (.g k) = .g k := if_pos h
theorem R.unl_0 {n d : Nat} : R.unl n d (.g n) = .l (d + 0) := by simp [R.unl]
theorem R.unl_s {n d j : Nat} : R.unl n d (.g (n + j)) = .l (d + j) := by simp [R.unl]
theorem Wk.share {n0 : Nat} {t t' : List V} {ls h X : List Blk} (d : Nat) (hn : n0 ≤ h.length) (hX : X.map (Blk.ren (R.unl h.length d)) = ls.drop d) (hrw : (ls.drop d).all (fun B => decide (B.st = .rw)) = true)
    (ht : leT (t'.map (V.ren (R.unl h.length d))) t) (hv : t'.all (V.val (h.length + X.length) 0) = true) (hcX : clean (h.length + X.length) X = true) (hh : clean h.length h = true) : Wk n0 ⟨t, ls, h⟩ ⟨t', [], h ++ X⟩ := by
  obtain ⟨h1, h2⟩ := leT_at ht
  have hcl := hh
  simp only [clean, List.all_eq_true] at hh hcX
  have hlen : X.length = (ls.drop d).length := by simpa using congrArg List.length hX
  have hat : ∀ (k : Nat) (B : Blk), X[k]? = some B → ls[d + k]? = some (B.ren (R.unl h.length d)) := fun k B hk => by
    have := congrArg (fun l => l[k]?) hX
    simp only [List.getElem?_map, hk, Option.map_some, List.getElem?_drop] at this
    exact this.symm
  have hρ : ∀ B : Blk, vals h.length 0 B.cells = true → B.ren (R.unl h.length d) = B := fun B hb => by
    obtain ⟨st, cells, room⟩ := B
    simp only [Blk.ren]
    congr 1
    refine (List.map_congr_left fun s hs => ?_).trans (List.map_id _)
    simp only [vals, List.all_eq_true] at hb
    have hs := hb s hs
    have hr : ∀ r : R, r.val h.length 0 = true → R.unl h.length d r = r := fun r hr => by
      cases r with
      | g k => exact R.unl_lt (by simpa [R.val] using hr)
      | l k => simp [R.val] at hr
    cases s with
    | p r o => simp only [S.ren, id]; rw [hr r hs]
    | sl r o a c => simp only [S.ren, id]; rw [hr r hs]
    | fn f cs =>
      simp only [S.ren, S.fn.injEq, true_and, id]
      simp only [S.val, List.all_eq_true] at hs
      refine (List.map_congr_left fun x hx => ?_).trans (List.map_id _)
      rw [hr x.1 (hs x hx)]; rfl
    | _ => rfl
  refine .by_ (R.unl h.length d) ⟨by simp only [List.length_append]; omega, fun k hk => R.unl_lt (by omega), fun k hk hk' => ?_, fun r r' hr hr' e => ?_, fun r B' hb => ?_, fun B' hB' => ?_, fun B' hB' => (by cases hB'), by simpa using h1, fun i' v' hi' => ?_⟩
  · simp only [List.length_append] at hk'
    by_cases e : k < h.length
    · exact .inl ⟨k, hk, R.unl_lt e⟩
    · refine .inr ⟨d + (k - h.length), ((X[k - h.length]'(by omega)).ren (R.unl h.length d)), if_neg e, hat _ _ (List.getElem?_eq_getElem _), ?_⟩
      have : (X[k - h.length]'(by omega)).ren (R.unl h.length d) ∈ ls.drop d := by
        rw [← hX]; exact List.mem_map_of_mem (List.getElem_mem _)
      simp only [List.all_eq_true, decide_eq_true_eq] at hrw
      exact hrw _ this
  · cases r with
    | l k => simp [R.val] at hr
    | g k => cases r' with
      | l k' => simp [R.val] at hr'
      | g k' =>
        simp only [R.unl] at e
        split at e <;> split at e <;> simp only [R.g.injEq, R.l.injEq, reduceCtorEq] at e ⊢ <;> omega
  · cases r with
    | l k => simp [blk] at hb
    | g k =>
      simp only [blk] at hb
      by_cases e : k < h.length
      · rw [R.unl_lt e]
        rw [List.getElem?_append_left e] at hb
        show h[k]? = _
        rw [hb, hρ B' (hh B' (List.mem_of_getElem? hb))]
      · rw [List.getElem?_append_right (by omega)] at hb
        have := hat _ _ hb
        simp only [R.unl, if_neg e]
        exact this
  · simp only [List.length_append]
    rcases List.mem_append.1 hB' with h3 | h3
    · exact vals_mono (by omega) (Nat.le_refl _) (hh _ h3)
    · exact hcX _ h3
  · simp only [List.all_eq_true] at hv
    refine ⟨by simp only [List.length_append]; exact hv v' (List.mem_of_getElem? hi'), ?_⟩
    rcases h2 i' (v'.ren (R.unl h.length d)) (by rw [List.getElem?_map, hi']; rfl) with h3 | h3
    · exact .inl (V.ren_u' h3)
    · exact .inr h3
theorem unl_wc {n d : Nat} (w : List Int) : (wc w).map (S.ren (R.unl n d)) = wc w := wc_ren _ w

theorem MB_c {b : Nat} {m : M} : (MB b m).cells = [.sl (.g b) 0 m.w.length m.w.length, .i .i64 m.n] := by rfl
theorem MB_s {b : Nat} {m : M} : (MB b m).st = .rw := by rfl
theorem MW_c {m : M} : (MW m).cells = wc m.w := by rfl
theorem MW_s {m : M} : (MW m).st = .rw := by rfl
theorem nlx {a k : Nat} : (a + k < a) = False := by simp
theorem clean_MW {n : Nat} {m : M} : vals n 0 (MW m).cells = true := wc_vals _ _ _

/-! ### the examples -/
theorem M.getX_w' (m : M) (a : Int) : (m.getX a).w = m.w := by
  unfold M.getX; split <;> rfl
theorem M.getV_w {m k : M} (h : m.w = k.w) (a : Int) : m.getV a = k.getV a := by
  obtain ⟨w, n, u, l⟩ := m
  obtain ⟨w', n', u', l'⟩ := k
  simp only at h
  subst h
  rfl
theorem M.getE_w {m k : M} (h : m.w = k.w) (a : Int) : m.getE a = k.getE a := by
  obtain ⟨w, n, u, l⟩ := m
  obtain ⟨w', n', u', l'⟩ := k
  simp only at h
  subst h
  rfl
def AW (m : M) : Prop := m.getE 1028 = 0 ∧ m.getV 1028 = ⟨innerC, 0, 0, 0⟩ ∧ m.getE 1040 = 0 ∧ (m.getV 1040).cap.ty = 4
theorem AW.w {m k : M} (H : AW m) (h : k.w = m.w) : AW k := by
  unfold AW at *
  rw [M.getE_w h, M.getE_w h, M.getV_w h, M.getV_w h]; exact H
theorem AW.get {m : M} (H : AW m) (a : Int) : AW (m.getX a) := H.w (M.getX_w' m a)
theorem AW.r1 {m : M} (H : AW m) : rsl false m outerC 21 5 = ⟨1028, 0, 0, m⟩ := by
  rw [rsl_way rfl (by decide) (by decide)]
  rw [way, if_neg (by decide), if_neg (by decide), if_neg (by decide), if_pos (by decide)]
  rfl
theorem AW.r2 {m : M} (H : AW m) : rsl false m outerC 171 8 = ⟨1040, 2, 0, (m.getX 1028).getX 1040⟩ := by
  have e1 : wayA 171 outerC 8 = 1028 := by decide
  have e2 : wayA 171 innerC 3 = 1040 := by decide
  have H2 := H.get 1028
  rw [rsl_way rfl (by decide) (by decide)]
  rw [way, if_neg (by decide), if_neg (by decide), if_neg (by decide), if_neg (by decide), e1, if_pos ⟨H.1, by rw [H.2.1]; rfl⟩]
  rw [H.2.1]
  rw [show (8 : Int) - outerC.gbits - outerC.bits = 3 from rfl]
  rw [way, if_neg (by decide), if_neg (by decide), if_neg (by decide), if_neg (by decide), e2, if_neg (fun e => by rw [H2.2.2.2] at e; exact absurd e.2 (by decide))]
  rfl
theorem AW.r3 {m : M} (H : AW m) : rsl false m outerC 17 5 = ⟨0, 0, 102, m⟩ := by
  rw [rsl_way rfl (by decide) (by decide)]
  rw [way, if_neg (by decide), if_pos (by decide)]
theorem rsl_capZ {d : Bool} {m : M} {w n : Int} : rsl d m capZ w n = ⟨0, 0, 100, m⟩ := rsl_no (by decide)
theorem AW.laid : AW (laidW [⟨1028, innerC⟩, ⟨1040, ⟨4, 1048, 0, 0, 0, 0, 0, 7, 0, 0, 0⟩⟩]).fresh := by
  refine AW.w (m := laidW [⟨1028, innerC⟩, ⟨1040, ⟨4, 1048, 0, 0, 0, 0, 0, 7, 0, 0, 0⟩⟩]) ?_ rfl
  show AW (layX (layX (M.zero 12) ⟨1028, innerC⟩) ⟨1040, ⟨4, 1048, 0, 0, 0, 0, 0, 7, 0, 0, 0⟩⟩)
  have l0 : (M.zero 12).w.length = 4096 := M.zero_len 12
  obtain ⟨z, hz⟩ : ∃ z, M.zero 12 = z := ⟨_, rfl⟩
  rw [hz] at l0 ⊢
  simp only [layX]
  have t1 : thereB z 1028 = true := by simp only [thereB, l0]; decide
  have t2 : thereB z 1040 = true := by simp only [thereB, l0]; decide
  have t3 : ∀ s, thereB (z.putX 1028 s) 1040 = true := fun s => by rw [M.putX_there]; exact t2
  have t4 : ∀ s, thereB (z.putX 1028 s) 1028 = true := fun s => by rw [M.putX_there]; exact t1
  have e1 : z.putE 1028 ⟨innerC, 0, 0, 0⟩ = 0 := putE_ok.2 ⟨t1, by decide⟩
  have e2 : (z.putX 1028 ⟨innerC, 0, 0, 0⟩).putE 1040 ⟨⟨4, 1048, 0, 0, 0, 0, 0, 7, 0, 0, 0⟩, 0, 0, 0⟩ = 0 := putE_ok.2 ⟨t3 _, by decide⟩
  have v2 := M.put_get e2
  have v1 := M.put_get_other (m := z.putX 1028 ⟨innerC, 0, 0, 0⟩) (a := 1028) (b := 1040) (t := ⟨⟨4, 1048, 0, 0, 0, 0, 0, 7, 0, 0, 0⟩, 0, 0, 0⟩) (t4 _) (by decide)
  rw [M.put_get e1] at v1
  have g : ∀ (k : M) (a : Int), thereB k a = true → ¬ (k.getV a).cap.ty = 0 → k.getE a = 0 := fun k a ht hv => by
    unfold M.getE M.getV at *
    rw [ht] at hv ⊢
    cases hb : k.slotB a
    · rw [hb] at hv; exact absurd rfl hv
    · rfl
  refine ⟨g _ _ (by rw [M.putX_there]; exact t4 _) (by rw [v1]; decide), v1, g _ _ (by rw [M.putX_there]; exact t3 _) (by rw [v2]; decide), by rw [v2]⟩
end Go.Proofs.Ytdlloccodmdnnaa

/- Law 10: awake: the walk. -/
namespace Go.Proofs.Ytdlloccodmdnnaa
open Go.D
set_option linter.all false
set_option maxRecDepth 100000
set_option maxHeartbeats 8000000

def awake10G : List V → List Blk → Res
  | [], h => .ok (.s (.b true)) [] h
  | _, _ => .bad
noncomputable def T10a : Tab := addT 47 innerCG (addT 48 outerCG (addT 15 laidG (addT 16 (rslG false) (addT 22 (sltG false) (noT)))))
theorem T10a_snd : T10a.Snd Try.prog := addT_snd ok47 inner_snd (addT_snd ok48 outer_snd (addT_snd ok15 laid10_snd (addT_snd ok16 rsl_snd (addT_snd ok22 slt_snd ((noT_snd _))))))
theorem awake10_end {h : List Blk} {K : V → List Blk → Prop} {r m : M} (hc : clean h.length h = true) (H : AW m) (hS : K (.s (.b true)) h) :
    swp T10a.Γ h.length (finP df13.res (Cut h.length K)) [.c (DC.after 2 df13.body)] ⟨setT [(1, .s (.p (.g (h.length + 2)) 0))] (List.replicate 96 (.s .u)), [], h ++ [MB (h.length + 1) r, MW r, MB (h.length + 3) m, MW m]⟩ := by
  have H1 := (H.get 1028).get 1040
  have H2 := (H1.get 1028).get 1040
  have e1 := H.r1
  have e2 := H.r2
  have e3 := H1.r3
  have e4 := H1.r2
  have e5 := fun m => rsl_capZ (d := false) (m := m) (w := 0) (n := 5)
  obtain ⟨m1, h1⟩ : ∃ m1, (m.getX 1028).getX 1040 = m1 := ⟨_, rfl⟩
  rw [h1] at e2 e3 e4
  obtain ⟨m2, h2⟩ : ∃ m2, (m1.getX 1028).getX 1040 = m2 := ⟨_, rfl⟩
  rw [h2] at e4
  simp only [outerC, capZ] at e1 e2 e3 e4 e5
  simp only [DC.after, df13]
  refine run_sound (Tab.ok_Γ _) 400 _ _ _ _ ?_
  simp (config := { maxSteps := 10000000 }) only [EV1, EV2, EV3, EV4, EV5, EV6, addT, istep, lenR_sl, lenR_ns, lenR_es, pickR, putD, bin1R, un1R, slcR, bnd, capsOf, fillP, S_plain, V_plain, V.cells, S_known, V_known, C.v, blk, setL, setH, eqS, eq1, cmpS, cmp1, isNil, popTo, killT, setT, leT, V.below, C.below, S_below, R.below, V.val, C.val, S_val, R.val, R.takes, vals, shows, List.any_cons, List.any_nil, unnamed, V.kill, V.names, C.names, S_names, R.names, List.set, List.replicate, ↓q_cond_t, ↓q_cond_f, if_true, if_false, reduceCtorEq, rvals, rvC, result, C_known, V.noL, C.noL, S_noL, R.noL, Option.map, true_and, and_true, ge_iff_le, gt_iff_lt, implies_true, q_ite_t, q_ite_f, beq_iff_eq, bne_iff_ne, q_ne, Nat.reduceAdd, Nat.reducePow, Int.reducePow, Nat.reduceMul, Nat.reduceSub, Nat.reduceLeDiff, Nat.reduceLT, Nat.reduceEqDiff, Int.reduceNeg, Int.reduceLT, Int.reduceLE, Int.reduceEq, Int.reduceNe, Int.reduceAdd, Int.reduceSub, Int.reduceMul, Int.reduceToNat, Int.reduceBEq, Int.reduceBNe, T10a, outerCG, rslG, memF_2, rslM, sltG, sltM, capF, e1, e2, e3, e4, e5, u64, RW.v, RW.slE, RW.slV, outerC, Cap.cl, sub, put, fillP, setT, List.take_succ_cons, List.take_zero, List.drop_zero]
  exact cut_app (Nat.le_refl _) hc rfl hS
theorem awake10_snd : Snd Try.prog 13 (FSpec.of awake10G) := (fwp_sound (Tab.snd_Γ T10a_snd) mixed Try.func13 dc13).cut fun args h K hc hS => by
  have hS : (awake10G args h).spec K := hS
  unfold awake10G at hS
  split at hS
  · simp only [spec_ok] at hS
    refine fwp_of _ (fun _ _ => finP_fin) (cut_at 2 ?_)
    obtain ⟨L, hL⟩ : ∃ L : List Lay, [⟨1028, innerC⟩, ⟨1040, ⟨4, 1048, 0, 0, 0, 0, 0, 7, 0, 0, 0⟩⟩] = L := ⟨_, rfl⟩
    have hw := AW.laid
    rw [hL] at hw
    have key := awake10_end (r := laidW L) hc hw hS
    have hn : L.length ≤ 9223372036854775807 := by rw [← hL]; decide
    have hl : L.length = 2 := by rw [← hL]; rfl
    have ha : ∀ cells room, cells = arr Lay.cl L → arrOf Lay.cl (h ++ [⟨.rw, cells, room⟩]) (.sl (.g h.length) 0 2 2) = some L := fun cells room e => arrOf_eq (.inr ⟨h.length, 2, .rw, room, by rw [hl], by rw [app_get0, e, List.getElem?_cons_zero], fun _ => by simp⟩)
    have hcl := congrArg (arr Lay.cl) hL.symm
    have ha' := ha _ 24 rfl
    rw [hcl] at ha'
    simp only [arr, Lay.cl, Cap.cl, innerC, List.cons_append, List.nil_append] at ha'
    obtain ⟨r, hr⟩ : ∃ r, laidW L = r := ⟨_, rfl⟩
    obtain ⟨m, hm⟩ : ∃ m, r.fresh = m := ⟨_, rfl⟩
    rw [hr, hm] at key
    simp only [df13]
    refine run_sound (Tab.ok_Γ _) 300 _ _ _ _ ?_
    simp (config := { maxSteps := 10000000 }) only [EV1, EV2, EV3, EV4, EV5, EV6, addT, istep, lenR_sl, lenR_ns, lenR_es, pickR, putD, bin1R, un1R, slcR, bnd, capsOf, fillP, S_plain, V_plain, V.cells, S_known, V_known, C.v, blk, setL, setH, eqS, eq1, cmpS, cmp1, isNil, popTo, killT, setT, leT, V.below, C.below, S_below, R.below, V.val, C.val, S_val, R.val, R.takes, vals, shows, List.any_cons, List.any_nil, unnamed, V.kill, V.names, C.names, S_names, R.names, List.set, List.replicate, ↓q_cond_t, ↓q_cond_f, if_true, if_false, reduceCtorEq, rvals, rvC, result, C_known, V.noL, C.noL, S_noL, R.noL, Option.map, true_and, and_true, ge_iff_le, gt_iff_lt, implies_true, q_ite_t, q_ite_f, beq_iff_eq, bne_iff_ne, q_ne, Nat.reduceAdd, Nat.reducePow, Int.reducePow, Nat.reduceMul, Nat.reduceSub, Nat.reduceLeDiff, Nat.reduceLT, Nat.reduceEqDiff, Int.reduceNeg, Int.reduceLT, Int.reduceLE, Int.reduceEq, Int.reduceNe, Int.reduceAdd, Int.reduceSub, Int.reduceMul, Int.reduceToNat, Int.reduceBEq, Int.reduceBNe, T10a, innerCG, innerC, laidG, R.lend, R.unlend, S_ren, C.ren, V.ren, app_taken, app_dropn, app_take0, app_drop0, List.take_succ_cons, List.take_zero, List.drop_succ_cons, List.drop_zero, Nat.not_lt_zero, Nat.lt_irrefl, Nat.add_sub_cancel_left, Nat.not_lt, Nat.le_add_right, nnn, nlx, app_len, MB, MW, wc_ren, M.fresh_len, Blk.ren, List.map_cons, List.map_nil, Cap.cl, ha', hn, hr, hm, put, fillP, sub, List.take_succ_cons, List.take_zero, List.drop_zero]
    refine ⟨hc, swp_weak (Wk.share 1 (Nat.le_refl _) ?_ ?_ ?_ ?_ ?_ hc) key⟩
    · simp (config := { maxSteps := 10000000 }) only [EV1, EV2, EV3, EV4, EV5, EV6, addT, istep, lenR_sl, lenR_ns, lenR_es, pickR, putD, bin1R, un1R, slcR, bnd, capsOf, fillP, S_plain, V_plain, V.cells, S_known, V_known, C.v, blk, setL, setH, eqS, eq1, cmpS, cmp1, isNil, popTo, killT, setT, leT, V.below, C.below, S_below, R.below, V.val, C.val, S_val, R.val, R.takes, vals, shows, List.any_cons, List.any_nil, unnamed, V.kill, V.names, C.names, S_names, R.names, List.set, List.replicate, ↓q_cond_t, ↓q_cond_f, if_true, if_false, reduceCtorEq, rvals, rvC, result, C_known, V.noL, C.noL, S_noL, R.noL, Option.map, true_and, and_true, ge_iff_le, gt_iff_lt, implies_true, q_ite_t, q_ite_f, beq_iff_eq, bne_iff_ne, q_ne, Nat.reduceAdd, Nat.reducePow, Int.reducePow, Nat.reduceMul, Nat.reduceSub, Nat.reduceLeDiff, Nat.reduceLT, Nat.reduceEqDiff, Int.reduceNeg, Int.reduceLT, Int.reduceLE, Int.reduceEq, Int.reduceNe, Int.reduceAdd, Int.reduceSub, Int.reduceMul, Int.reduceToNat, Int.reduceBEq, Int.reduceBNe, List.map_cons, List.map_nil, Blk.ren, MB, MW, S_ren, R.unl_s, wc_ren, List.drop_succ_cons, List.drop_zero]
    · simp (config := { maxSteps := 10000000 }) only [EV1, EV2, EV3, EV4, EV5, EV6, addT, istep, lenR_sl, lenR_ns, lenR_es, pickR, putD, bin1R, un1R, slcR, bnd, capsOf, fillP, S_plain, V_plain, V.cells, S_known, V_known, C.v, blk, setL, setH, eqS, eq1, cmpS, cmp1, isNil, popTo, killT, setT, leT, V.below, C.below, S_below, R.below, V.val, C.val, S_val, R.val, R.takes, vals, shows, List.any_cons, List.any_nil, unnamed, V.kill, V.names, C.names, S_names, R.names, List.set, List.replicate, ↓q_cond_t, ↓q_cond_f, if_true, if_false, reduceCtorEq, rvals, rvC, result, C_known, V.noL, C.noL, S_noL, R.noL, Option.map, true_and, and_true, ge_iff_le, gt_iff_lt, implies_true, q_ite_t, q_ite_f, beq_iff_eq, bne_iff_ne, q_ne, Nat.reduceAdd, Nat.reducePow, Int.reducePow, Nat.reduceMul, Nat.reduceSub, Nat.reduceLeDiff, Nat.reduceLT, Nat.reduceEqDiff, Int.reduceNeg, Int.reduceLT, Int.reduceLE, Int.reduceEq, Int.reduceNe, Int.reduceAdd, Int.reduceSub, Int.reduceMul, Int.reduceToNat, Int.reduceBEq, Int.reduceBNe, List.drop_succ_cons, List.drop_zero]
    · simp (config := { maxSteps := 10000000 }) only [EV1, EV2, EV3, EV4, EV5, EV6, addT, istep, lenR_sl, lenR_ns, lenR_es, pickR, putD, bin1R, un1R, slcR, bnd, capsOf, fillP, S_plain, V_plain, V.cells, S_known, V_known, C.v, blk, setL, setH, eqS, eq1, cmpS, cmp1, isNil, popTo, killT, setT, leT, V.below, C.below, S_below, R.below, V.val, C.val, S_val, R.val, R.takes, vals, shows, List.any_cons, List.any_nil, unnamed, V.kill, V.names, C.names, S_names, R.names, List.set, List.replicate, ↓q_cond_t, ↓q_cond_f, if_true, if_false, reduceCtorEq, rvals, rvC, result, C_known, V.noL, C.noL, S_noL, R.noL, Option.map, true_and, and_true, ge_iff_le, gt_iff_lt, implies_true, q_ite_t, q_ite_f, beq_iff_eq, bne_iff_ne, q_ne, Nat.reduceAdd, Nat.reducePow, Int.reducePow, Nat.reduceMul, Nat.reduceSub, Nat.reduceLeDiff, Nat.reduceLT, Nat.reduceEqDiff, Int.reduceNeg, Int.reduceLT, Int.reduceLE, Int.reduceEq, Int.reduceNe, Int.reduceAdd, Int.reduceSub, Int.reduceMul, Int.reduceToNat, Int.reduceBEq, Int.reduceBNe, List.map_cons, List.map_nil, V.ren, S_ren, R.unl_s, setT]
    · simp (config := { maxSteps := 10000000 }) only [EV1, EV2, EV3, EV4, EV5, EV6, addT, istep, lenR_sl, lenR_ns, lenR_es, pickR, putD, bin1R, un1R, slcR, bnd, capsOf, fillP, S_plain, V_plain, V.cells, S_known, V_known, C.v, blk, setL, setH, eqS, eq1, cmpS, cmp1, isNil, popTo, killT, setT, leT, V.below, C.below, S_below, R.below, V.val, C.val, S_val, R.val, R.takes, vals, shows, List.any_cons, List.any_nil, unnamed, V.kill, V.names, C.names, S_names, R.names, List.set, List.replicate, ↓q_cond_t, ↓q_cond_f, if_true, if_false, reduceCtorEq, rvals, rvC, result, C_known, V.noL, C.noL, S_noL, R.noL, Option.map, true_and, and_true, ge_iff_le, gt_iff_lt, implies_true, q_ite_t, q_ite_f, beq_iff_eq, bne_iff_ne, q_ne, Nat.reduceAdd, Nat.reducePow, Int.reducePow, Nat.reduceMul, Nat.reduceSub, Nat.reduceLeDiff, Nat.reduceLT, Nat.reduceEqDiff, Int.reduceNeg, Int.reduceLT, Int.reduceLE, Int.reduceEq, Int.reduceNe, Int.reduceAdd, Int.reduceSub, Int.reduceMul, Int.reduceToNat, Int.reduceBEq, Int.reduceBNe, setT, nltn, app_len]
    · simp only [clean_cons, clean_nil, List.length_cons, List.length_nil, Nat.reduceAdd, Nat.zero_add, vals_MB, MW_vals, Bool.and_true, Nat.reduceLT, decide_true]
  · exact hS.elim
end Go.Proofs.Ytdlloccodmdnnaa

/- Cspace: plain facts of lookups. -/
namespace Go.Proofs.Ytdlloccodmdnnaa
open Go.D
set_option linter.all false
set_option maxRecDepth 100000
set_option maxHeartbeats 4000000

/-! ### rights -/
theorem ofInt_wrap (n : Int) : BitVec.ofInt 64 (IntKind.i64.wrap n) = BitVec.ofInt 64 n := by
  apply BitVec.eq_of_toNat_eq
  rw [BitVec.toNat_ofInt, BitVec.toNat_ofInt, IntKind.wrap_i64]
  congr 1
  simp only [Nat.reducePow]
  omega
theorem ofInt_toNat (v : BitVec 64) : BitVec.ofInt 64 (v.toNat : Int) = v := by
  apply BitVec.eq_of_toNat_eq
  rw [BitVec.ofInt_natCast, BitVec.toNat_ofNat]
  exact Nat.mod_eq_of_lt v.isLt
theorem bits_and_i64 (a b : Int) : bits .and .i64 a b = IntKind.i64.wrap ((BitVec.ofInt 64 a &&& BitVec.ofInt 64 b).toNat : Int) := rfl
theorem bits_andNot_i64 (a b : Int) : bits .andNot .i64 a b = IntKind.i64.wrap ((BitVec.ofInt 64 a &&& ~~~BitVec.ofInt 64 b).toNat : Int) := rfl
theorem and_and_i64 (x r s : Int) : bits .and .i64 (bits .and .i64 x r) s = bits .and .i64 x (bits .and .i64 r s) := by
  rw [bits_and_i64 x r, bits_and_i64 r s, bits_and_i64, bits_and_i64, ofInt_wrap, ofInt_wrap, ofInt_toNat, ofInt_toNat, BitVec.and_assoc]
theorem and_less_i64 (x r : Int) : bits .andNot .i64 (bits .and .i64 x r) x = 0 := by
  rw [bits_and_i64 x r, bits_andNot_i64, ofInt_wrap, ofInt_toNat]
  have : (BitVec.ofInt 64 x &&& BitVec.ofInt 64 r &&& ~~~BitVec.ofInt 64 x) = 0#64 := by
    ext i hi
    simp only [BitVec.getElem_and, BitVec.getElem_not, BitVec.getElem_zero]
    cases (BitVec.ofInt 64 x)[i] <;> cases (BitVec.ofInt 64 r)[i] <;> rfl
  rw [this]; rfl
theorem not_less_i64 (x : Int) : bits .andNot .i64 x x = 0 := by
  rw [bits_andNot_i64]
  have : (BitVec.ofInt 64 x &&& ~~~BitVec.ofInt 64 x) = 0#64 := by
    ext i hi
    simp only [BitVec.getElem_and, BitVec.getElem_not, BitVec.getElem_zero]
    cases (BitVec.ofInt 64 x)[i] <;> rfl
  rw [this]; rfl
theorem Cap.mask_mask (c : Cap) (r s : Int) : (c.mask r).mask s = c.mask (Go.bits .and .i64 r s) := by
  unfold Cap.mask
  by_cases h : c.ty = 4 ∨ c.ty = 5 ∨ c.ty = 8
  · rw [if_pos h, if_pos h, if_pos h]
    simp only [and_and_i64]
  · rw [if_neg h, if_neg h, if_neg h]
theorem Cap.mask_less (c : Cap) (r : Int) : Go.bits .andNot .i64 (c.mask r).rights c.rights = 0 := by
  unfold Cap.mask
  split
  · exact and_less_i64 _ _
  · exact not_less_i64 _
theorem cap_eqB (c : Cap) : (c.ty == c.ty && (c.obj == c.obj && (c.bits == c.bits && (c.mark == c.mark && (c.guard == c.guard && (c.gbits == c.gbits && (c.badge == c.badge && (c.rights == c.rights && (c.asid == c.asid && (c.vaddr == c.vaddr && c.line == c.line)))))))))) = true := by simp

/-! ### how much is read -/
def Ran (m k : M) (j : Nat) : Prop := k.w = m.w ∧ ((j = 0 ∧ k.n = m.n) ∨ k.n = IntKind.i64.wrap (m.n + 4 * j))
theorem Ran.refl (m : M) : Ran m m 0 := ⟨rfl, .inl ⟨rfl, rfl⟩⟩
theorem Ran.trans {m k l : M} {i j : Nat} (H : Ran m k i) (H' : Ran k l j) : Ran m l (i + j) := by
  obtain ⟨w1, h1⟩ := H
  obtain ⟨w2, h2⟩ := H'
  refine ⟨w2.trans w1, ?_⟩
  rcases h1 with ⟨rfl, h1⟩ | h1
  · rcases h2 with ⟨rfl, h2⟩ | h2
    · exact .inl ⟨rfl, h2.trans h1⟩
    · right; rw [h2, h1]; simp
  · rcases h2 with ⟨rfl, h2⟩ | h2
    · right; rw [h2, h1]; rfl
    · right
      rw [h2, h1, IntKind.wrap_i64, IntKind.wrap_i64, IntKind.wrap_i64]
      omega
theorem Ran.get (m : M) (a : Int) : ∃ j, j ≤ 1 ∧ Ran m (m.getX a) j := by
  unfold M.getX
  split
  · exact ⟨1, Nat.le_refl _, rfl, .inr rfl⟩
  · exact ⟨0, by omega, Ran.refl m⟩
theorem Ran.steps {m k : M} {j : Nat} (H : Ran m k j) (hj : j ≤ 32) : IntKind.i64.wrap (k.n - m.n) ≤ 128 := by
  rcases H.2 with ⟨_, h⟩ | h
  · rw [h, Int.sub_self]; decide
  · rw [h, IntKind.wrap_i64, IntKind.wrap_i64]; omega
theorem way_ran (d : Bool) (w : Int) : ∀ (f : Nat) (m : M) (c : Cap) (n : Int), rightB c = true → c.ty = 2 → 0 < n → ∃ j : Nat, j ≤ n.toNat ∧ Ran m (way d w f m c n).m j
  | 0, m, _, _, _, _, _ => ⟨0, Nat.zero_le _, Ran.refl m⟩
  | f + 1, m, c, n, hr, ht, hn => by
    obtain ⟨h1, h2, hb⟩ := node_facts hr ht
    have hg := hb.gbits
    rw [way]
    split; · exact ⟨0, Nat.zero_le _, Ran.refl m⟩
    split; · exact ⟨0, Nat.zero_le _, Ran.refl m⟩
    split; · exact ⟨0, Nat.zero_le _, Ran.refl m⟩
    split
    · cases d
      · exact ⟨0, Nat.zero_le _, Ran.refl m⟩
      · obtain ⟨j, hj, H⟩ := Ran.get m (wayA w c n)
        exact ⟨j, by omega, H⟩
    obtain ⟨j, hj, H⟩ := Ran.get m (wayA w c n)
    split
    · rename_i he
      obtain ⟨i, hi, H'⟩ := way_ran d w f (m.getX (wayA w c n)) (m.getV (wayA w c n)).cap (n - c.gbits - c.bits) (M.getV_right he.1) he.2 (by omega)
      exact ⟨j + i, by omega, H.trans H'⟩
    · exact ⟨j, by omega, H⟩
theorem rsl_ran (d : Bool) (m : M) (c : Cap) (w n : Int) : ∃ j : Nat, j ≤ 32 ∧ Ran m (rsl d m c w n).m j := by
  unfold rsl
  split; · exact ⟨0, by omega, Ran.refl m⟩
  split; · exact ⟨0, by omega, Ran.refl m⟩
  rename_i h1 h2
  have hr : rightB c = true := Classical.byContradiction fun h => h1 (.inr (by simpa using h))
  have ht : c.ty = 2 := Classical.byContradiction fun h => h1 (.inl h)
  obtain ⟨j, hj, H⟩ := way_ran d w 32 m c n hr ht (by omega)
  exact ⟨j, by omega, H⟩
theorem rsl_w (d : Bool) (m : M) (c : Cap) (w n : Int) : (rsl d m c w n).m.w = m.w := by
  obtain ⟨_, _, H⟩ := rsl_ran d m c w n
  exact H.1

/-! ### what is told hangs on the words alone -/
def RW.same (x y : RW) : Prop := x.s = y.s ∧ x.l = y.l ∧ x.e = y.e
theorem way_same (w : Int) (d d' : Bool) : ∀ (f : Nat) (m k : M) (c : Cap) (n : Int), m.w = k.w → (way d w f m c n).same (way d' w f k c n)
  | 0, m, k, c, n, _ => ⟨rfl, rfl, rfl⟩
  | f + 1, m, k, c, n, hw => by
    rw [way, way, M.getE_w hw, M.getV_w hw]
    split; · exact ⟨rfl, rfl, rfl⟩
    split; · exact ⟨rfl, rfl, rfl⟩
    split; · exact ⟨rfl, rfl, rfl⟩
    split; · exact ⟨rfl, rfl, rfl⟩
    split
    · exact way_same w d d' f _ _ _ _ (by rw [M.getX_w', M.getX_w', hw])
    · exact ⟨rfl, rfl, rfl⟩
theorem rsl_same {d d' : Bool} {m k : M} (c : Cap) (w n : Int) (h : m.w = k.w) : (rsl d m c w n).same (rsl d' k c w n) := by
  unfold rsl
  split; · exact ⟨rfl, rfl, rfl⟩
  split; · exact ⟨rfl, rfl, rfl⟩
  exact way_same w d d' 32 m k c n h
theorem RW.slE_same {x y : RW} (h : x.same y) : x.slE = y.slE ∧ x.slV = y.slV := by
  obtain ⟨h1, h2, h3⟩ := h
  unfold RW.slE RW.slV
  rw [h1, h2, h3]; exact ⟨rfl, rfl⟩
theorem RW.cap_same {x y : RW} (h : x.same y) (hw : x.m.w = y.m.w) : x.cap.c = y.cap.c ∧ x.cap.s = y.cap.s ∧ x.cap.e = y.cap.e ∧ x.cap.m.w = y.cap.m.w := by
  obtain ⟨h1, h2, h3⟩ := h
  unfold RW.cap
  rw [h1, h3, M.getE_w hw, M.getV_w hw]
  split; · exact ⟨rfl, rfl, rfl, hw⟩
  split; · exact ⟨rfl, rfl, rfl, by rw [M.getX_w', M.getX_w', hw]⟩
  split; · exact ⟨rfl, rfl, rfl, by rw [M.getX_w', M.getX_w', hw]⟩
  exact ⟨rfl, rfl, rfl, by rw [M.getX_w', M.getX_w', hw]⟩
theorem RW.cap_w (x : RW) : x.cap.m.w = x.m.w := by
  unfold RW.cap
  split; · rfl
  split; · exact M.getX_w' _ _
  split; · exact M.getX_w' _ _
  exact M.getX_w' _ _

/-! ### another guard -/
theorem right_guard {c : Cap} {g : Int} (h : rightB c = true) (ht : c.ty = 2) (hg : 0 ≤ g ∧ g < 2 ^ c.gbits.toNat) : rightB { c with guard := g } = true := by
  have hb := (right_bounds h).gbits
  unfold rightB at h ⊢
  simp only at h ⊢
  rw [if_neg (by omega), if_neg (by omega), if_pos ht] at h ⊢
  split at h
  · cases h
  · rename_i hn
    rw [if_neg hn]
    split at h
    · cases h
    · rename_i hn2
      rw [if_neg hn2]
      simp only [Bool.and_eq_true, inV_iff] at h ⊢
      refine ⟨h.1, hg.1, ?_⟩
      have key : ∀ k : Fin 32, IntKind.i64.wrap (IntKind.i64.wrap (1 * 2 ^ min k.val IntKind.i64.bits) - 1) = 2 ^ k.val - 1 := by decide +kernel
      have := key ⟨c.gbits.toNat, by omega⟩
      simp only at this
      rw [this]; omega
theorem rsl_guard {m k : M} {c : Cap} {w n g : Int} (he : (rsl false m c w n).e = 0) (hg : 0 ≤ g ∧ g < 2 ^ c.gbits.toNat) (hne : ¬ g = c.guard) : rsl false k { c with guard := g } w n = ⟨0, 0, 102, k⟩ := by
  by_cases h : c.ty = 2 ∧ rightB c = true
  case neg => rw [rsl_no h] at he; simp at he
  obtain ⟨ht, hr⟩ := h
  by_cases hd : n < 1 ∨ 32 < n
  · rw [rsl_deep ht hr hd] at he; simp at he
  rw [rsl_way ht hr hd] at he
  have hr2 := right_guard hr ht hg
  rw [rsl_way (c := { c with guard := g }) ht hr2 hd]
  rw [way] at he ⊢
  simp only
  split at he
  · simp at he
  rename_i h1
  rw [if_neg h1]
  split at he
  · simp at he
  rename_i h2
  rw [if_pos]
  intro e
  exact hne (e.symm.trans (Classical.not_not.1 h2))

/-! ### more bits -/
theorem someB_shift {w t p k r : Nat} (h : p + r + k ≤ 64) : (2 ^ r * (w % 2 ^ (64 - r)) + t % 2 ^ r) / 2 ^ (p + r) % 2 ^ k = w / 2 ^ p % 2 ^ k := by
  rw [Nat.add_comm p r, Nat.pow_add, ← Nat.div_div_eq_div_mul, Nat.mul_add_div (Nat.two_pow_pos r), Nat.div_eq_of_lt (Nat.mod_lt t (Nat.two_pow_pos r)), Nat.add_zero]
  rw [show 64 - r = p + (64 - r - p) by omega, Nat.pow_add, Nat.mod_mul_right_div_self, Nat.mod_mod_of_dvd]
  exact Nat.pow_dvd_pow 2 (by omega)
/-- An address with so many bits more. -/
def moreW (w t r : Nat) : Nat := 2 ^ r * (w % 2 ^ (64 - r)) + t % 2 ^ r
theorem someB_more {w t r : Nat} {p k : Int} (hp : 0 ≤ p) (hk : 0 ≤ k) (h : p + r + k ≤ 64) : someB (moreW w t r) (p + r) k = someB w p k := by
  obtain ⟨p, rfl⟩ : ∃ a : Nat, p = a := ⟨p.toNat, by omega⟩
  obtain ⟨k, rfl⟩ : ∃ a : Nat, k = a := ⟨k.toNat, by omega⟩
  rw [show (p : Int) + (r : Int) = ((p + r : Nat) : Int) by omega, someB_nat, someB_nat, moreW, someB_shift (by omega)]
theorem way_more {w t r : Nat} (hr0 : 0 < r) (d : Bool) : ∀ (f : Nat) (m : M) (c : Cap) (n : Int), rightB c = true → c.ty = 2 → 0 < n → n ≤ f → n + r ≤ 32 → (way d w f m c n).e = 0 →
    ((m.getE (way d w f m c n).s = 0 ∧ (m.getV (way d w f m c n).s).cap.ty = 2) → (way d w f m c n).l = 0) ∧
    (¬ (m.getE (way d w f m c n).s = 0 ∧ (m.getV (way d w f m c n).s).cap.ty = 2) → (way d (moreW w t r) f m c (n + r)).e = 0 ∧ (way d (moreW w t r) f m c (n + r)).s = (way d w f m c n).s ∧ (way d (moreW w t r) f m c (n + r)).l = (way d w f m c n).l + r)
  | 0, m, c, n, _, _, h1, h2, _, _ => by omega
  | f + 1, m, c, n, hr, ht, hn, hf, hnr, he => by
    obtain ⟨h1, h2, hb⟩ := node_facts hr ht
    have hg := hb.gbits
    have hA : n - c.gbits < c.bits ∨ wayA (moreW w t r) c (n + r) = wayA w c n := by
      by_cases h : n - c.gbits < c.bits
      · exact .inl h
      · right
        unfold wayA
        rw [show n + (r : Int) - c.gbits - c.bits = (n - c.gbits - c.bits) + r by omega, someB_more (by omega) (by omega) (by omega)]
    rw [way] at he ⊢
    rw [way]
    split at he
    · simp at he
    rename_i g1
    rw [if_neg g1, if_neg (show ¬ n + (r : Int) < c.gbits by omega)]
    split at he
    · simp at he
    rename_i g2
    have e2 : someB (moreW w t r) (n + r - c.gbits) c.gbits = someB w (n - c.gbits) c.gbits := by
      rw [show n + (r : Int) - c.gbits = (n - c.gbits) + r by omega, someB_more (by omega) (by omega) (by omega)]
    rw [if_neg g2, e2, if_neg g2]
    split at he
    · simp at he
    rename_i g3
    rw [if_neg g3, if_neg (show ¬ n + (r : Int) - c.gbits < c.bits by omega)]
    have hA := hA.resolve_left g3
    rw [if_neg (show ¬ n + (r : Int) - c.gbits - c.bits = 0 by omega), hA]
    split at he
    · rename_i g4
      rw [if_pos g4]
      simp only
      refine ⟨fun _ => by trivial, fun hx => ?_⟩
      rw [if_neg hx]
      refine ⟨by trivial, by trivial, ?_⟩
      simp only
      omega
    · rename_i g4
      rw [if_neg g4]
      split at he
      · rename_i g5
        rw [if_pos g5, if_pos g5]
        have ih := way_more (w := w) (t := t) hr0 d f (m.getX (wayA w c n)) (m.getV (wayA w c n)).cap (n - c.gbits - c.bits) (M.getV_right g5.1) g5.2 (by omega) (by omega) (by omega) he
        rw [M.getX_getE, M.getX_getV, show n - c.gbits - c.bits + (r : Int) = n + r - c.gbits - c.bits by omega] at ih
        exact ih
      · rename_i g5
        rw [if_neg g5, if_neg g5]
        refine ⟨fun hx => absurd hx g5, fun _ => ⟨rfl, rfl, by simp only; omega⟩⟩
end Go.Proofs.Ytdlloccodmdnnaa

/- Law 10: the walks of CspaceMasks, CspaceShort, CspaceGuards, CspaceDeeper, CspaceResolves. -/
namespace Go.Proofs.Ytdlloccodmdnnaa
open Go.D
set_option linter.all false
set_option maxRecDepth 100000
set_option maxHeartbeats 8000000

noncomputable def there10G : List V → List Blk → Res
  | [.s s, .s (.i .i64 a)], h => match arrOf Lay.cl h s with
    | some L => .ob (L.length ≤ 9223372036854775807) (.ok (.tup [.agg ((laidW L).getV a).cap.cl, .s (.b ((laidW L).getE a == 0))]) [] h)
    | none => .bad
  | _, _ => .bad
noncomputable def T10b : Tab := addT 15 laidG (addT 58 get2G (noT))
theorem T10b_snd : T10b.Snd Try.prog := addT_snd ok15 laid10_snd (addT_snd ok58 rget2_snd ((noT_snd _)))
theorem there10_snd : Snd Try.prog 17 (FSpec.of there10G) := snd_cut T10b_snd mixed Try.func17 dc17 300 fun args h K hc hS => by
  unfold there10G at hS
  split at hS
  · split at hS
    · rename_i s a _ L e
      obtain ⟨hl, hS⟩ := hS
      simp only [spec_ok] at hS
      have H1 := arrOf_some e
      have hkn := H1.sl.known
      have hnl := H1.sl.noL
      obtain ⟨r, hr⟩ : ∃ r, laidW L = r := ⟨_, rfl⟩
      rw [hr] at hS
      obtain ⟨v, hv⟩ : ∃ v, r.getV a = v := ⟨_, rfl⟩
      rw [hv] at hS
      simp only [Cap.cl] at hS
      simp (config := { maxSteps := 10000000 }) only [EV1, EV2, EV3, EV4, EV5, EV6, addT, istep, lenR_sl, lenR_ns, lenR_es, pickR, putD, bin1R, un1R, slcR, bnd, capsOf, fillP, S_plain, V_plain, V.cells, S_known, V_known, C.v, blk, setL, setH, eqS, eq1, cmpS, cmp1, isNil, popTo, killT, setT, leT, V.below, C.below, S_below, R.below, V.val, C.val, S_val, R.val, R.takes, vals, shows, List.any_cons, List.any_nil, unnamed, V.kill, V.names, C.names, S_names, R.names, List.set, List.replicate, ↓q_cond_t, ↓q_cond_f, if_true, if_false, reduceCtorEq, rvals, rvC, result, C_known, V.noL, C.noL, S_noL, R.noL, Option.map, true_and, and_true, ge_iff_le, gt_iff_lt, implies_true, q_ite_t, q_ite_f, beq_iff_eq, bne_iff_ne, q_ne, Nat.reduceAdd, Nat.reducePow, Int.reducePow, Nat.reduceMul, Nat.reduceSub, Nat.reduceLeDiff, Nat.reduceLT, Nat.reduceEqDiff, Int.reduceNeg, Int.reduceLT, Int.reduceLE, Int.reduceEq, Int.reduceNe, Int.reduceAdd, Int.reduceSub, Int.reduceMul, Int.reduceToNat, Int.reduceBEq, Int.reduceBNe, df17, T10b, laidG, hkn, hnl, e, hl, hr, memF_0, get2G, get2M, hv, Slot.cl, sub, put, fillP, List.take_succ_cons, List.take_zero, List.drop_zero]
      exact cut_app (Nat.le_refl _) hc rfl hS
    · exact hS.elim
  · exact hS.elim

noncomputable def T10 : Tab := addT 13 awake10G (addT 15 laidG (addT 17 there10G (addT 16 (rslG false) (addT 22 (sltG false) (addT 24 (capOG false) (addT 19 cmaskG (addT 20 cmaskG (addT 21 (rslG true) (addT 23 (sltG true) (addT 25 (capOG true) (addT 18 stepsG (addT 26 dumpG (addT 27 sameWG (addT 14 rightG (noT)))))))))))))))
theorem T10_snd : T10.Snd Try.prog := addT_snd ok13 awake10_snd (addT_snd ok15 laid10_snd (addT_snd ok17 there10_snd (addT_snd ok16 rsl_snd (addT_snd ok22 slt_snd (addT_snd ok24 capO_snd (addT_snd ok19 cmask_snd (addT_snd ok20 rcmask_snd (addT_snd ok21 rrsl_snd (addT_snd ok23 rslt_snd (addT_snd ok25 rcapO_snd (addT_snd ok18 msteps_snd (addT_snd ok26 mdump_snd (addT_snd ok27 sameW_snd (addT_snd ok14 rright_snd ((noT_snd _))))))))))))))))

/-! ### CspaceMasks -/
def masksG : List V → List Blk → Res
  | [x, .s (.i .i64 _), .s (.i .i64 _)], h => capF (fun _ => .ok (.s (.b true)) [] h) [x]
  | _, _ => .bad
theorem masks_snd : Snd Try.prog 7 (FSpec.of masksG) := snd_run T10_snd mixed Try.func7 dc7 400 fun args h K hc hS => by
  unfold masksG at hS
  split at hS
  · rename_i x r q
    obtain ⟨c, e, hR⟩ := capF_spec hS
    clear hS
    simp only [List.cons.injEq, and_true] at e
    subst e
    simp only [spec_ok] at hR
    have e1 := Cap.mask_mask c r q
    have e2 := Cap.mask_less c r
    obtain ⟨d, hd⟩ : ∃ d, c.mask r = d := ⟨_, rfl⟩
    rw [hd] at e1 e2
    obtain ⟨g, hg⟩ : ∃ g, d.mask q = g := ⟨_, rfl⟩
    rw [hg] at e1
    simp only [Cap.cl]
    simp (config := { maxSteps := 10000000 }) only [EV1, EV2, EV3, EV4, EV5, EV6, addT, istep, lenR_sl, lenR_ns, lenR_es, pickR, putD, bin1R, un1R, slcR, bnd, capsOf, fillP, S_plain, V_plain, V.cells, S_known, V_known, C.v, blk, setL, setH, eqS, eq1, cmpS, cmp1, isNil, popTo, killT, setT, leT, V.below, C.below, S_below, R.below, V.val, C.val, S_val, R.val, R.takes, vals, shows, List.any_cons, List.any_nil, unnamed, V.kill, V.names, C.names, S_names, R.names, List.set, List.replicate, ↓q_cond_t, ↓q_cond_f, if_true, if_false, reduceCtorEq, rvals, rvC, result, C_known, V.noL, C.noL, S_noL, R.noL, Option.map, true_and, and_true, ge_iff_le, gt_iff_lt, implies_true, q_ite_t, q_ite_f, beq_iff_eq, bne_iff_ne, q_ne, Nat.reduceAdd, Nat.reducePow, Int.reducePow, Nat.reduceMul, Nat.reduceSub, Nat.reduceLeDiff, Nat.reduceLT, Nat.reduceEqDiff, Int.reduceNeg, Int.reduceLT, Int.reduceLE, Int.reduceEq, Int.reduceNe, Int.reduceAdd, Int.reduceSub, Int.reduceMul, Int.reduceToNat, Int.reduceBEq, Int.reduceBNe, df7, T10, awake10G, cmaskG, capF, cap_eta, hd, hg, ← e1, e2, cap_eqB, Cap.cl, sub, put, fillP, List.take_succ_cons, List.take_zero, List.drop_zero]
    exact hR
  · exact hS.elim

/-! ### CspaceShort -/
def shortS : FSpec := fun args h K => ∃ s L c w d, args = [.s s, .agg (Cap.cl c), .s (.i .u64 w), .s (.i .i64 d)] ∧ IsArr Lay.cl h s L ∧ L.length ≤ 9223372036854775807 ∧ u64 w ∧ ∀ h', K (.s (.b true)) h'
theorem short_snd : Snd Try.prog 6 shortS := (fwp_sound (Tab.snd_Γ T10_snd) mixed Try.func6 dc6).weaken fun args h K hc hS => by
  obtain ⟨s, L, c, w, d, rfl, H1, hl, hu, hK⟩ := hS
  refine fwp_run (Tab.ok_Γ _) 400 ?_
  have hkn := H1.sl.known
  have hnl := H1.sl.noL
  have e := arrOf_eq H1
  obtain ⟨r, hr⟩ : ∃ r, laidW L = r := ⟨_, rfl⟩
  obtain ⟨m, hm⟩ : ∃ m, r.fresh = m := ⟨_, rfl⟩
  obtain ⟨j, hj, hran⟩ := rsl_ran false m c w d
  have hst := hran.steps hj
  obtain ⟨y, hy⟩ : ∃ y, rsl false m c w d = y := ⟨_, rfl⟩
  rw [hy] at hst
  simp only [Cap.cl]
  simp (config := { maxSteps := 10000000 }) only [EV1, EV2, EV3, EV4, EV5, EV6, addT, istep, lenR_sl, lenR_ns, lenR_es, pickR, putD, bin1R, un1R, slcR, bnd, capsOf, fillP, S_plain, V_plain, V.cells, S_known, V_known, C.v, blk, setL, setH, eqS, eq1, cmpS, cmp1, isNil, popTo, killT, setT, leT, V.below, C.below, S_below, R.below, V.val, C.val, S_val, R.val, R.takes, vals, shows, List.any_cons, List.any_nil, unnamed, V.kill, V.names, C.names, S_names, R.names, List.set, List.replicate, ↓q_cond_t, ↓q_cond_f, if_true, if_false, reduceCtorEq, rvals, rvC, result, C_known, V.noL, C.noL, S_noL, R.noL, Option.map, true_and, and_true, ge_iff_le, gt_iff_lt, implies_true, q_ite_t, q_ite_f, beq_iff_eq, bne_iff_ne, q_ne, Nat.reduceAdd, Nat.reducePow, Int.reducePow, Nat.reduceMul, Nat.reduceSub, Nat.reduceLeDiff, Nat.reduceLT, Nat.reduceEqDiff, Int.reduceNeg, Int.reduceLT, Int.reduceLE, Int.reduceEq, Int.reduceNe, Int.reduceAdd, Int.reduceSub, Int.reduceMul, Int.reduceToNat, Int.reduceBEq, Int.reduceBNe, df6, T10, awake10G, laidG, hkn, hnl, e, hl, hr, hm, memF_2, stepsG, stepsM, rslG, rslM, capF, cap_eta, hu, hy, RW.v, hst, sub, put, fillP, List.take_succ_cons, List.take_zero, List.drop_zero]
  exact hK _

/-! ### CspaceGuards -/
def guardsS : FSpec := fun args h K => ∃ s L c w d g, args = [.s s, .agg (Cap.cl c), .s (.i .u64 w), .s (.i .i64 d), .s (.i .i64 g)] ∧ IsArr Lay.cl h s L ∧ L.length ≤ 9223372036854775807 ∧ u64 w ∧ ∀ h', K (.s (.b true)) h'
theorem guards_snd : Snd Try.prog 5 guardsS := (fwp_sound (Tab.snd_Γ T10_snd) mixed Try.func5 dc5).weaken fun args h K hc hS => by
  obtain ⟨s, L, c, w, d, g, rfl, H1, hl, hu, hK⟩ := hS
  refine fwp_run (Tab.ok_Γ _) 400 ?_
  have hkn := H1.sl.known
  have hnl := H1.sl.noL
  have e := arrOf_eq H1
  obtain ⟨r, hr⟩ : ∃ r, laidW L = r := ⟨_, rfl⟩
  obtain ⟨m, hm⟩ : ∃ m, r.fresh = m := ⟨_, rfl⟩
  have hgu := fun (k : M) (h1 : (rsl false m c w d).e = 0) (h2 : 0 ≤ g ∧ g < 2 ^ c.gbits.toNat) (h3 : ¬ g = c.guard) => rsl_guard (k := k) h1 h2 h3
  have hok : (rsl false m c w d).e = 0 → 0 ≤ c.gbits ∧ c.gbits ≤ 31 := fun h0 => by
    by_cases h : c.ty = 2 ∧ rightB c = true
    · exact (right_bounds h.2).gbits
    · rw [rsl_no h] at h0; simp at h0
  obtain ⟨y, hy⟩ : ∃ y, rsl false m c w d = y := ⟨_, rfl⟩
  rw [hy] at hgu hok
  simp only [Cap.cl]
  by_cases c1 : y.e = 0
  case neg =>
    have c1' : (y.e != 0) = true := by simpa using c1
    simp (config := { maxSteps := 10000000 }) only [EV1, EV2, EV3, EV4, EV5, EV6, addT, istep, lenR_sl, lenR_ns, lenR_es, pickR, putD, bin1R, un1R, slcR, bnd, capsOf, fillP, S_plain, V_plain, V.cells, S_known, V_known, C.v, blk, setL, setH, eqS, eq1, cmpS, cmp1, isNil, popTo, killT, setT, leT, V.below, C.below, S_below, R.below, V.val, C.val, S_val, R.val, R.takes, vals, shows, List.any_cons, List.any_nil, unnamed, V.kill, V.names, C.names, S_names, R.names, List.set, List.replicate, ↓q_cond_t, ↓q_cond_f, if_true, if_false, reduceCtorEq, rvals, rvC, result, C_known, V.noL, C.noL, S_noL, R.noL, Option.map, true_and, and_true, ge_iff_le, gt_iff_lt, implies_true, q_ite_t, q_ite_f, beq_iff_eq, bne_iff_ne, q_ne, Nat.reduceAdd, Nat.reducePow, Int.reducePow, Nat.reduceMul, Nat.reduceSub, Nat.reduceLeDiff, Nat.reduceLT, Nat.reduceEqDiff, Int.reduceNeg, Int.reduceLT, Int.reduceLE, Int.reduceEq, Int.reduceNe, Int.reduceAdd, Int.reduceSub, Int.reduceMul, Int.reduceToNat, Int.reduceBEq, Int.reduceBNe, df5, T10, awake10G, laidG, hkn, hnl, e, hl, hr, hm, memF_2, rslG, rslM, capF, cap_eta, hu, hy, RW.v, c1', sub, put, fillP, List.take_succ_cons, List.take_zero, List.drop_zero]
    exact hK _
  have c1' : (y.e != 0) = false := by simpa using c1
  by_cases c2 : g = c.guard
  · have c2' : (g == c.guard) = true := by simpa using c2
    simp (config := { maxSteps := 10000000 }) only [EV1, EV2, EV3, EV4, EV5, EV6, addT, istep, lenR_sl, lenR_ns, lenR_es, pickR, putD, bin1R, un1R, slcR, bnd, capsOf, fillP, S_plain, V_plain, V.cells, S_known, V_known, C.v, blk, setL, setH, eqS, eq1, cmpS, cmp1, isNil, popTo, killT, setT, leT, V.below, C.below, S_below, R.below, V.val, C.val, S_val, R.val, R.takes, vals, shows, List.any_cons, List.any_nil, unnamed, V.kill, V.names, C.names, S_names, R.names, List.set, List.replicate, ↓q_cond_t, ↓q_cond_f, if_true, if_false, reduceCtorEq, rvals, rvC, result, C_known, V.noL, C.noL, S_noL, R.noL, Option.map, true_and, and_true, ge_iff_le, gt_iff_lt, implies_true, q_ite_t, q_ite_f, beq_iff_eq, bne_iff_ne, q_ne, Nat.reduceAdd, Nat.reducePow, Int.reducePow, Nat.reduceMul, Nat.reduceSub, Nat.reduceLeDiff, Nat.reduceLT, Nat.reduceEqDiff, Int.reduceNeg, Int.reduceLT, Int.reduceLE, Int.reduceEq, Int.reduceNe, Int.reduceAdd, Int.reduceSub, Int.reduceMul, Int.reduceToNat, Int.reduceBEq, Int.reduceBNe, df5, T10, awake10G, laidG, hkn, hnl, e, hl, hr, hm, memF_2, rslG, rslM, capF, cap_eta, hu, hy, RW.v, c1', c2', sub, put, fillP, List.take_succ_cons, List.take_zero, List.drop_zero]
    exact hK _
  have c2' : (g == c.guard) = false := by simpa using c2
  by_cases c3 : g < 0
  · simp (config := { maxSteps := 10000000 }) only [EV1, EV2, EV3, EV4, EV5, EV6, addT, istep, lenR_sl, lenR_ns, lenR_es, pickR, putD, bin1R, un1R, slcR, bnd, capsOf, fillP, S_plain, V_plain, V.cells, S_known, V_known, C.v, blk, setL, setH, eqS, eq1, cmpS, cmp1, isNil, popTo, killT, setT, leT, V.below, C.below, S_below, R.below, V.val, C.val, S_val, R.val, R.takes, vals, shows, List.any_cons, List.any_nil, unnamed, V.kill, V.names, C.names, S_names, R.names, List.set, List.replicate, ↓q_cond_t, ↓q_cond_f, if_true, if_false, reduceCtorEq, rvals, rvC, result, C_known, V.noL, C.noL, S_noL, R.noL, Option.map, true_and, and_true, ge_iff_le, gt_iff_lt, implies_true, q_ite_t, q_ite_f, beq_iff_eq, bne_iff_ne, q_ne, Nat.reduceAdd, Nat.reducePow, Int.reducePow, Nat.reduceMul, Nat.reduceSub, Nat.reduceLeDiff, Nat.reduceLT, Nat.reduceEqDiff, Int.reduceNeg, Int.reduceLT, Int.reduceLE, Int.reduceEq, Int.reduceNe, Int.reduceAdd, Int.reduceSub, Int.reduceMul, Int.reduceToNat, Int.reduceBEq, Int.reduceBNe, df5, T10, awake10G, laidG, hkn, hnl, e, hl, hr, hm, memF_2, rslG, rslM, capF, cap_eta, hu, hy, RW.v, c1', c2', c3, sub, put, fillP, List.take_succ_cons, List.take_zero, List.drop_zero]
    exact hK _
  have hb := hok c1
  have key : ∀ k : Fin 32, IntKind.i64.wrap (1 * 2 ^ min k.val IntKind.i64.bits) = 2 ^ k.val := by decide +kernel
  have hw := key ⟨c.gbits.toNat, by omega⟩
  simp only at hw
  have b0 := hb.1
  by_cases c4 : 2 ^ c.gbits.toNat ≤ g
  · simp (config := { maxSteps := 10000000 }) only [EV1, EV2, EV3, EV4, EV5, EV6, addT, istep, lenR_sl, lenR_ns, lenR_es, pickR, putD, bin1R, un1R, slcR, bnd, capsOf, fillP, S_plain, V_plain, V.cells, S_known, V_known, C.v, blk, setL, setH, eqS, eq1, cmpS, cmp1, isNil, popTo, killT, setT, leT, V.below, C.below, S_below, R.below, V.val, C.val, S_val, R.val, R.takes, vals, shows, List.any_cons, List.any_nil, unnamed, V.kill, V.names, C.names, S_names, R.names, List.set, List.replicate, ↓q_cond_t, ↓q_cond_f, if_true, if_false, reduceCtorEq, rvals, rvC, result, C_known, V.noL, C.noL, S_noL, R.noL, Option.map, true_and, and_true, ge_iff_le, gt_iff_lt, implies_true, q_ite_t, q_ite_f, beq_iff_eq, bne_iff_ne, q_ne, Nat.reduceAdd, Nat.reducePow, Int.reducePow, Nat.reduceMul, Nat.reduceSub, Nat.reduceLeDiff, Nat.reduceLT, Nat.reduceEqDiff, Int.reduceNeg, Int.reduceLT, Int.reduceLE, Int.reduceEq, Int.reduceNe, Int.reduceAdd, Int.reduceSub, Int.reduceMul, Int.reduceToNat, Int.reduceBEq, Int.reduceBNe, df5, T10, awake10G, laidG, hkn, hnl, e, hl, hr, hm, memF_2, rslG, rslM, capF, cap_eta, hu, hy, RW.v, c1', c2', c3, b0, hw, c4, sub, put, fillP, List.take_succ_cons, List.take_zero, List.drop_zero]
    exact hK _
  have hfin := fun k => hgu k c1 ⟨by omega, by omega⟩ c2
  simp (config := { maxSteps := 10000000 }) only [EV1, EV2, EV3, EV4, EV5, EV6, addT, istep, lenR_sl, lenR_ns, lenR_es, pickR, putD, bin1R, un1R, slcR, bnd, capsOf, fillP, S_plain, V_plain, V.cells, S_known, V_known, C.v, blk, setL, setH, eqS, eq1, cmpS, cmp1, isNil, popTo, killT, setT, leT, V.below, C.below, S_below, R.below, V.val, C.val, S_val, R.val, R.takes, vals, shows, List.any_cons, List.any_nil, unnamed, V.kill, V.names, C.names, S_names, R.names, List.set, List.replicate, ↓q_cond_t, ↓q_cond_f, if_true, if_false, reduceCtorEq, rvals, rvC, result, C_known, V.noL, C.noL, S_noL, R.noL, Option.map, true_and, and_true, ge_iff_le, gt_iff_lt, implies_true, q_ite_t, q_ite_f, beq_iff_eq, bne_iff_ne, q_ne, Nat.reduceAdd, Nat.reducePow, Int.reducePow, Nat.reduceMul, Nat.reduceSub, Nat.reduceLeDiff, Nat.reduceLT, Nat.reduceEqDiff, Int.reduceNeg, Int.reduceLT, Int.reduceLE, Int.reduceEq, Int.reduceNe, Int.reduceAdd, Int.reduceSub, Int.reduceMul, Int.reduceToNat, Int.reduceBEq, Int.reduceBNe, df5, T10, awake10G, laidG, hkn, hnl, e, hl, hr, hm, memF_2, rslG, rslM, capF, cap_eta, hu, hy, RW.v, c1', c2', c3, b0, hw, c4, hfin, sub, put, fillP, List.take_succ_cons, List.take_zero, List.drop_zero]
  exact hK _
end Go.Proofs.Ytdlloccodmdnnaa

/- Law 10: the walks of CspaceDeeper, CspaceResolves. -/
namespace Go.Proofs.Ytdlloccodmdnnaa
open Go.D
set_option linter.all false
set_option maxRecDepth 100000
set_option maxHeartbeats 8000000

theorem mask_eq' {n : Nat} (hn : n ≤ 32) : IntKind.u64.wrap (IntKind.u64.wrap (1 * 2 ^ min n IntKind.u64.bits) - 1) = ((2 ^ n - 1 : Nat) : Int) := by
  have : ∀ k : Fin 33, IntKind.u64.wrap (IntKind.u64.wrap (1 * 2 ^ min k.val IntKind.u64.bits) - 1) = ((2 ^ k.val - 1 : Nat) : Int) := by decide +kernel
  exact this ⟨n, by omega⟩
theorem more_or {w t r : Nat} (hr : r ≤ 32) : bits .or .u64 (IntKind.u64.wrap ((w : Int) * 2 ^ r)) (((t % 2 ^ r : Nat)) : Int) = ((moreW w t r : Nat) : Int) := by
  have hp : 2 ^ r * 2 ^ (64 - r) = 18446744073709551616 := by rw [← Nat.pow_add, show r + (64 - r) = 64 by omega]
  have h1 : IntKind.u64.wrap ((w : Int) * 2 ^ r) = ((2 ^ r * (w % 2 ^ (64 - r)) : Nat) : Int) := by
    rw [← Nat.mul_mod_mul_left, hp, IntKind.wrap_u64]
    have : (w : Int) * 2 ^ r = ((2 ^ r * w : Nat) : Int) := by simp [Int.mul_comm]
    rw [this]
    omega
  have h2 : 2 ^ r * (w % 2 ^ (64 - r)) < 18446744073709551616 := by
    rw [← hp]
    exact Nat.mul_lt_mul_of_pos_left (Nat.mod_lt _ (Nat.two_pow_pos _)) (Nat.two_pow_pos _)
  have h3 : t % 2 ^ r < 2 ^ r := Nat.mod_lt _ (Nat.two_pow_pos _)
  have h4 : 2 ^ r ≤ 18446744073709551616 := by rw [← hp]; exact Nat.le_mul_of_pos_right _ (Nat.two_pow_pos _)
  rw [h1, bits_or_u64_nat _ _ h2 (by omega), ← Nat.two_pow_add_eq_or_of_lt h3]
  rfl
theorem moreW_u {w t r : Nat} (hr : r ≤ 32) : u64 ((moreW w t r : Nat) : Int) := by
  have hp : 2 ^ r * 2 ^ (64 - r) = 18446744073709551616 := by rw [← Nat.pow_add, show r + (64 - r) = 64 by omega]
  have h2 : w % 2 ^ (64 - r) + 1 ≤ 2 ^ (64 - r) := Nat.mod_lt _ (Nat.two_pow_pos _)
  have h3 : t % 2 ^ r < 2 ^ r := Nat.mod_lt _ (Nat.two_pow_pos _)
  have h5 := Nat.mul_le_mul_left (2 ^ r) h2
  rw [hp, Nat.mul_add, Nat.mul_one] at h5
  refine ⟨by omega, ?_⟩
  have : moreW w t r < 18446744073709551616 := by
    unfold moreW
    omega
  omega
theorem rsl_more {w t r : Nat} {m : M} {c : Cap} {n : Int} (hr0 : 0 < r) (hnr : n + r ≤ 32) (he : (rsl false m c w n).e = 0) :
    ((m.getE (rsl false m c w n).s = 0 ∧ (m.getV (rsl false m c w n).s).cap.ty = 2) → (rsl false m c w n).l = 0) ∧
    ∀ k : M, k.w = m.w → (¬ (m.getE (rsl false m c w n).s = 0 ∧ (m.getV (rsl false m c w n).s).cap.ty = 2) → (rsl false k c (moreW w t r) (n + r)).e = 0 ∧ (rsl false k c (moreW w t r) (n + r)).s = (rsl false m c w n).s ∧ (rsl false k c (moreW w t r) (n + r)).l = (rsl false m c w n).l + r) := by
  by_cases h : c.ty = 2 ∧ rightB c = true
  case neg => rw [rsl_no h] at he; simp at he
  obtain ⟨ht, hr⟩ := h
  by_cases hd : n < 1 ∨ 32 < n
  · rw [rsl_deep ht hr hd] at he; simp at he
  have hk := fun (k : M) (hw : k.w = m.w) => rsl_same (d := false) (d' := false) c (moreW w t r) (n + r) hw
  rw [rsl_way (n := n + r) ht hr (by omega)] at hk
  rw [rsl_way ht hr hd] at he ⊢
  obtain ⟨h1, h2⟩ := way_more (t := t) hr0 false 32 m c n hr ht (by omega) (by omega) hnr he
  refine ⟨h1, fun k hw hx => ?_⟩
  obtain ⟨e1, e2, e3⟩ := hk k hw
  obtain ⟨f1, f2, f3⟩ := h2 hx
  exact ⟨e3.trans f1, e1.trans f2, e2.trans f3⟩
theorem rsl_l {d : Bool} {m : M} {c : Cap} {w n : Int} : 0 ≤ (rsl d m c w n).l ∧ (rsl d m c w n).l ≤ 32 := by
  have main : ∀ (f : Nat) (m : M) (c : Cap) (n : Int), rightB c = true → c.ty = 2 → 0 < n → n ≤ 32 → 0 ≤ (way d w f m c n).l ∧ (way d w f m c n).l ≤ 32 := by
    intro f
    induction f with
    | zero => intro m c n _ _ _ _; exact ⟨Int.le_refl _, (by decide : (0 : Int) ≤ 32)⟩
    | succ f ih =>
      intro m c n hr ht h1 h2
      obtain ⟨b1, b2, hb⟩ := node_facts hr ht
      have hg := hb.gbits
      rw [way]
      split; · exact ⟨Int.le_refl _, (by decide : (0 : Int) ≤ 32)⟩
      split; · exact ⟨Int.le_refl _, (by decide : (0 : Int) ≤ 32)⟩
      split; · exact ⟨Int.le_refl _, (by decide : (0 : Int) ≤ 32)⟩
      split; · exact ⟨Int.le_refl _, (by decide : (0 : Int) ≤ 32)⟩
      split
      · rename_i he
        exact ih _ _ _ (M.getV_right he.1) he.2 (by omega) (by omega)
      · simp only; omega
  unfold rsl
  split; · exact ⟨Int.le_refl _, (by decide : (0 : Int) ≤ 32)⟩
  split; · exact ⟨Int.le_refl _, (by decide : (0 : Int) ≤ 32)⟩
  rename_i h1 h2
  exact main 32 m c n (Classical.byContradiction fun h => h1 (.inr (by simpa using h))) (Classical.byContradiction fun h => h1 (.inl h)) (by omega) (by omega)

/-! ### CspaceDeeper -/
def deeperS : FSpec := fun args h K => ∃ s L c w d r t, args = [.s s, .agg (Cap.cl c), .s (.i .u64 w), .s (.i .i64 d), .s (.i .i64 r), .s (.i .u64 t)] ∧ IsArr Lay.cl h s L ∧ L.length ≤ 9223372036854775807 ∧ u64 w ∧ u64 t ∧ -9223372036854775808 ≤ d ∧ d < 9223372036854775808 ∧ ∀ h', K (.s (.b true)) h'
theorem deeper_snd : Snd Try.prog 4 deeperS := (fwp_sound (Tab.snd_Γ T10_snd) mixed Try.func4 dc4).weaken fun args h K hc hS => by
  obtain ⟨s, L, c, w, d, r, t, rfl, H1, hl, hu, ht, hd1, hd2, hK⟩ := hS
  refine fwp_run (Tab.ok_Γ _) 400 ?_
  have hkn := H1.sl.known
  have hnl := H1.sl.noL
  have e := arrOf_eq H1
  have e' : ∀ X, arrOf Lay.cl (h ++ X) s = some L := fun X => arrOf_eq H1.app
  obtain ⟨rr, hr⟩ : ∃ r, laidW L = r := ⟨_, rfl⟩
  obtain ⟨m, hm⟩ : ∃ m, rr.fresh = m := ⟨_, rfl⟩
  have hmw : m.w = rr.w := by rw [← hm]; rfl
  obtain ⟨w, rfl, hw⟩ := hu.nat
  obtain ⟨t, rfl, htw⟩ := ht.nat
  have hll := rsl_l (d := false) (m := m) (c := c) (w := w) (n := d)
  have hmore := fun (r : Nat) h1 h2 h3 => rsl_more (w := w) (t := t) (r := r) (m := m) (c := c) (n := d) h1 h2 h3
  have hyw := rsl_w false m c w d
  have hd0 : (rsl false m c w d).e = 0 → 1 ≤ d := fun h0 => by
    by_cases h : c.ty = 2 ∧ rightB c = true
    · by_cases hd : d < 1 ∨ 32 < d
      · rw [rsl_deep h.1 h.2 hd] at h0; simp at h0
      · omega
    · rw [rsl_no h] at h0; simp at h0
  obtain ⟨y, hy⟩ : ∃ y, rsl false m c w d = y := ⟨_, rfl⟩
  rw [hy] at hll hmore hyw hd0
  simp only [Cap.cl]
  by_cases c1 : y.e = 0
  case neg =>
    have c1' : (y.e != 0) = true := by simpa using c1
    simp (config := { maxSteps := 10000000 }) only [EV1, EV2, EV3, EV4, EV5, EV6, addT, istep, lenR_sl, lenR_ns, lenR_es, pickR, putD, bin1R, un1R, slcR, bnd, capsOf, fillP, S_plain, V_plain, V.cells, S_known, V_known, C.v, blk, setL, setH, eqS, eq1, cmpS, cmp1, isNil, popTo, killT, setT, leT, V.below, C.below, S_below, R.below, V.val, C.val, S_val, R.val, R.takes, vals, shows, List.any_cons, List.any_nil, unnamed, V.kill, V.names, C.names, S_names, R.names, List.set, List.replicate, ↓q_cond_t, ↓q_cond_f, if_true, if_false, reduceCtorEq, rvals, rvC, result, C_known, V.noL, C.noL, S_noL, R.noL, Option.map, true_and, and_true, ge_iff_le, gt_iff_lt, implies_true, q_ite_t, q_ite_f, beq_iff_eq, bne_iff_ne, q_ne, Nat.reduceAdd, Nat.reducePow, Int.reducePow, Nat.reduceMul, Nat.reduceSub, Nat.reduceLeDiff, Nat.reduceLT, Nat.reduceEqDiff, Int.reduceNeg, Int.reduceLT, Int.reduceLE, Int.reduceEq, Int.reduceNe, Int.reduceAdd, Int.reduceSub, Int.reduceMul, Int.reduceToNat, Int.reduceBEq, Int.reduceBNe, df4, T10, awake10G, laidG, hkn, hnl, e, hl, hr, hm, memF_2, rslG, rslM, capF, cap_eta, hu, hy, RW.v, c1', sub, put, fillP, List.take_succ_cons, List.take_zero, List.drop_zero]
    exact hK _
  have c1' : (y.e != 0) = false := by simpa using c1
  by_cases c2 : r < 1
  · simp (config := { maxSteps := 10000000 }) only [EV1, EV2, EV3, EV4, EV5, EV6, addT, istep, lenR_sl, lenR_ns, lenR_es, pickR, putD, bin1R, un1R, slcR, bnd, capsOf, fillP, S_plain, V_plain, V.cells, S_known, V_known, C.v, blk, setL, setH, eqS, eq1, cmpS, cmp1, isNil, popTo, killT, setT, leT, V.below, C.below, S_below, R.below, V.val, C.val, S_val, R.val, R.takes, vals, shows, List.any_cons, List.any_nil, unnamed, V.kill, V.names, C.names, S_names, R.names, List.set, List.replicate, ↓q_cond_t, ↓q_cond_f, if_true, if_false, reduceCtorEq, rvals, rvC, result, C_known, V.noL, C.noL, S_noL, R.noL, Option.map, true_and, and_true, ge_iff_le, gt_iff_lt, implies_true, q_ite_t, q_ite_f, beq_iff_eq, bne_iff_ne, q_ne, Nat.reduceAdd, Nat.reducePow, Int.reducePow, Nat.reduceMul, Nat.reduceSub, Nat.reduceLeDiff, Nat.reduceLT, Nat.reduceEqDiff, Int.reduceNeg, Int.reduceLT, Int.reduceLE, Int.reduceEq, Int.reduceNe, Int.reduceAdd, Int.reduceSub, Int.reduceMul, Int.reduceToNat, Int.reduceBEq, Int.reduceBNe, df4, T10, awake10G, laidG, hkn, hnl, e, hl, hr, hm, memF_2, rslG, rslM, capF, cap_eta, hu, hy, RW.v, c1', c2, sub, put, fillP, List.take_succ_cons, List.take_zero, List.drop_zero]
    exact hK _
  by_cases c3 : 32 < r
  · simp (config := { maxSteps := 10000000 }) only [EV1, EV2, EV3, EV4, EV5, EV6, addT, istep, lenR_sl, lenR_ns, lenR_es, pickR, putD, bin1R, un1R, slcR, bnd, capsOf, fillP, S_plain, V_plain, V.cells, S_known, V_known, C.v, blk, setL, setH, eqS, eq1, cmpS, cmp1, isNil, popTo, killT, setT, leT, V.below, C.below, S_below, R.below, V.val, C.val, S_val, R.val, R.takes, vals, shows, List.any_cons, List.any_nil, unnamed, V.kill, V.names, C.names, S_names, R.names, List.set, List.replicate, ↓q_cond_t, ↓q_cond_f, if_true, if_false, reduceCtorEq, rvals, rvC, result, C_known, V.noL, C.noL, S_noL, R.noL, Option.map, true_and, and_true, ge_iff_le, gt_iff_lt, implies_true, q_ite_t, q_ite_f, beq_iff_eq, bne_iff_ne, q_ne, Nat.reduceAdd, Nat.reducePow, Int.reducePow, Nat.reduceMul, Nat.reduceSub, Nat.reduceLeDiff, Nat.reduceLT, Nat.reduceEqDiff, Int.reduceNeg, Int.reduceLT, Int.reduceLE, Int.reduceEq, Int.reduceNe, Int.reduceAdd, Int.reduceSub, Int.reduceMul, Int.reduceToNat, Int.reduceBEq, Int.reduceBNe, df4, T10, awake10G, laidG, hkn, hnl, e, hl, hr, hm, memF_2, rslG, rslM, capF, cap_eta, hu, hy, RW.v, c1', c2, c3, sub, put, fillP, List.take_succ_cons, List.take_zero, List.drop_zero]
    exact hK _
  have v1 : IntKind.i64.wrap (32 - r) = 32 - r := wrap64 (by omega) (by omega)
  by_cases c4 : 32 - r < d
  · simp (config := { maxSteps := 10000000 }) only [EV1, EV2, EV3, EV4, EV5, EV6, addT, istep, lenR_sl, lenR_ns, lenR_es, pickR, putD, bin1R, un1R, slcR, bnd, capsOf, fillP, S_plain, V_plain, V.cells, S_known, V_known, C.v, blk, setL, setH, eqS, eq1, cmpS, cmp1, isNil, popTo, killT, setT, leT, V.below, C.below, S_below, R.below, V.val, C.val, S_val, R.val, R.takes, vals, shows, List.any_cons, List.any_nil, unnamed, V.kill, V.names, C.names, S_names, R.names, List.set, List.replicate, ↓q_cond_t, ↓q_cond_f, if_true, if_false, reduceCtorEq, rvals, rvC, result, C_known, V.noL, C.noL, S_noL, R.noL, Option.map, true_and, and_true, ge_iff_le, gt_iff_lt, implies_true, q_ite_t, q_ite_f, beq_iff_eq, bne_iff_ne, q_ne, Nat.reduceAdd, Nat.reducePow, Int.reducePow, Nat.reduceMul, Nat.reduceSub, Nat.reduceLeDiff, Nat.reduceLT, Nat.reduceEqDiff, Int.reduceNeg, Int.reduceLT, Int.reduceLE, Int.reduceEq, Int.reduceNe, Int.reduceAdd, Int.reduceSub, Int.reduceMul, Int.reduceToNat, Int.reduceBEq, Int.reduceBNe, df4, T10, awake10G, laidG, hkn, hnl, e, hl, hr, hm, memF_2, rslG, rslM, capF, cap_eta, hu, hy, RW.v, c1', c2, c3, v1, c4, sub, put, fillP, List.take_succ_cons, List.take_zero, List.drop_zero]
    exact hK _
  obtain ⟨r, rfl⟩ : ∃ a : Nat, r = a := ⟨r.toNat, by omega⟩
  have hd0 := hd0 c1
  have v2 : IntKind.i64.wrap (d + (r : Int)) = d + r := wrap64 (by omega) (by omega)
  have v3 : IntKind.i64.wrap (y.l + (r : Int)) = y.l + r := wrap64 (by omega) (by omega)
  have m1 : min r IntKind.u64.bits = r := by show min r 64 = _; omega
  have b1 : (0 : Int) ≤ (r : Int) := by omega
  have m2 := mask_eq' (n := r) (by omega)
  rw [m1] at m2
  have m3 : bits .and .u64 (t : Int) ((2 ^ r - 1 : Nat) : Int) = ((t % 2 ^ r : Nat) : Int) := by
    rw [u64_and_mask' ht (k := r) (by omega) rfl]; simp
  have m4 := more_or (w := w) (t := t) (r := r) (by omega)
  have m5 := moreW_u (w := w) (t := t) (r := r) (by omega)
  obtain ⟨hm1, hm2⟩ := hmore r (by omega) (by omega) c1
  have hm2 := hm2 y.m hyw
  obtain ⟨z, hz⟩ : ∃ z, rsl false y.m c (moreW w t r) (d + r) = z := ⟨_, rfl⟩
  rw [hz] at hm2
  obtain ⟨v, hv⟩ : ∃ v, m.getV y.s = v := ⟨_, rfl⟩
  obtain ⟨g, hg⟩ : ∃ g, m.getE y.s = g := ⟨_, rfl⟩
  have hv' : rr.getV y.s = v := by rw [← hv]; exact M.getV_w hmw.symm _
  have hg' : rr.getE y.s = g := by rw [← hg]; exact M.getE_w hmw.symm _
  rw [hv, hg] at hm1 hm2
  by_cases c5 : g = 0 ∧ v.cap.ty = 2
  · have c6 : (g == 0) = true := by simpa using c5.1
    have c7 : (v.cap.ty == 2) = true := by simpa using c5.2
    have c8 := hm1 c5
    simp (config := { maxSteps := 10000000 }) only [EV1, EV2, EV3, EV4, EV5, EV6, addT, istep, lenR_sl, lenR_ns, lenR_es, pickR, putD, bin1R, un1R, slcR, bnd, capsOf, fillP, S_plain, V_plain, V.cells, S_known, V_known, C.v, blk, setL, setH, eqS, eq1, cmpS, cmp1, isNil, popTo, killT, setT, leT, V.below, C.below, S_below, R.below, V.val, C.val, S_val, R.val, R.takes, vals, shows, List.any_cons, List.any_nil, unnamed, V.kill, V.names, C.names, S_names, R.names, List.set, List.replicate, ↓q_cond_t, ↓q_cond_f, if_true, if_false, reduceCtorEq, rvals, rvC, result, C_known, V.noL, C.noL, S_noL, R.noL, Option.map, true_and, and_true, ge_iff_le, gt_iff_lt, implies_true, q_ite_t, q_ite_f, beq_iff_eq, bne_iff_ne, q_ne, Nat.reduceAdd, Nat.reducePow, Int.reducePow, Nat.reduceMul, Nat.reduceSub, Nat.reduceLeDiff, Nat.reduceLT, Nat.reduceEqDiff, Int.reduceNeg, Int.reduceLT, Int.reduceLE, Int.reduceEq, Int.reduceNe, Int.reduceAdd, Int.reduceSub, Int.reduceMul, Int.reduceToNat, Int.reduceBEq, Int.reduceBNe, df4, T10, awake10G, laidG, hkn, hnl, e, e', hl, hr, hm, memF_2, rslG, rslM, capF, cap_eta, hu, hy, RW.v, c1', c2, c3, v1, c4, v2, v3, m1, b1, m2, m3, m4, m5, hz, there10G, hv', hg', c6, c7, c8, Cap.cl, sub, put, fillP, List.take_succ_cons, List.take_zero, List.drop_zero]
    exact hK _
  · obtain ⟨k1, k2, k3⟩ := hm2 c5
    by_cases c6 : g = 0
    · have c6' : (g == 0) = true := by simpa using c6
      have c7 : (v.cap.ty == 2) = false := by
        have : ¬ v.cap.ty = 2 := fun h => c5 ⟨c6, h⟩
        simpa using this
      simp (config := { maxSteps := 10000000 }) only [EV1, EV2, EV3, EV4, EV5, EV6, addT, istep, lenR_sl, lenR_ns, lenR_es, pickR, putD, bin1R, un1R, slcR, bnd, capsOf, fillP, S_plain, V_plain, V.cells, S_known, V_known, C.v, blk, setL, setH, eqS, eq1, cmpS, cmp1, isNil, popTo, killT, setT, leT, V.below, C.below, S_below, R.below, V.val, C.val, S_val, R.val, R.takes, vals, shows, List.any_cons, List.any_nil, unnamed, V.kill, V.names, C.names, S_names, R.names, List.set, List.replicate, ↓q_cond_t, ↓q_cond_f, if_true, if_false, reduceCtorEq, rvals, rvC, result, C_known, V.noL, C.noL, S_noL, R.noL, Option.map, true_and, and_true, ge_iff_le, gt_iff_lt, implies_true, q_ite_t, q_ite_f, beq_iff_eq, bne_iff_ne, q_ne, Nat.reduceAdd, Nat.reducePow, Int.reducePow, Nat.reduceMul, Nat.reduceSub, Nat.reduceLeDiff, Nat.reduceLT, Nat.reduceEqDiff, Int.reduceNeg, Int.reduceLT, Int.reduceLE, Int.reduceEq, Int.reduceNe, Int.reduceAdd, Int.reduceSub, Int.reduceMul, Int.reduceToNat, Int.reduceBEq, Int.reduceBNe, df4, T10, awake10G, laidG, hkn, hnl, e, e', hl, hr, hm, memF_2, rslG, rslM, capF, cap_eta, hu, hy, RW.v, c1', c2, c3, v1, c4, v2, v3, m1, b1, m2, m3, m4, m5, hz, there10G, hv', hg', c6', c7, k1, k2, k3, Cap.cl, sub, put, fillP, List.take_succ_cons, List.take_zero, List.drop_zero]
      exact hK _
    · have c6' : (g == 0) = false := by simpa using c6
      simp (config := { maxSteps := 10000000 }) only [EV1, EV2, EV3, EV4, EV5, EV6, addT, istep, lenR_sl, lenR_ns, lenR_es, pickR, putD, bin1R, un1R, slcR, bnd, capsOf, fillP, S_plain, V_plain, V.cells, S_known, V_known, C.v, blk, setL, setH, eqS, eq1, cmpS, cmp1, isNil, popTo, killT, setT, leT, V.below, C.below, S_below, R.below, V.val, C.val, S_val, R.val, R.takes, vals, shows, List.any_cons, List.any_nil, unnamed, V.kill, V.names, C.names, S_names, R.names, List.set, List.replicate, ↓q_cond_t, ↓q_cond_f, if_true, if_false, reduceCtorEq, rvals, rvC, result, C_known, V.noL, C.noL, S_noL, R.noL, Option.map, true_and, and_true, ge_iff_le, gt_iff_lt, implies_true, q_ite_t, q_ite_f, beq_iff_eq, bne_iff_ne, q_ne, Nat.reduceAdd, Nat.reducePow, Int.reducePow, Nat.reduceMul, Nat.reduceSub, Nat.reduceLeDiff, Nat.reduceLT, Nat.reduceEqDiff, Int.reduceNeg, Int.reduceLT, Int.reduceLE, Int.reduceEq, Int.reduceNe, Int.reduceAdd, Int.reduceSub, Int.reduceMul, Int.reduceToNat, Int.reduceBEq, Int.reduceBNe, df4, T10, awake10G, laidG, hkn, hnl, e, e', hl, hr, hm, memF_2, rslG, rslM, capF, cap_eta, hu, hy, RW.v, c1', c2, c3, v1, c4, v2, v3, m1, b1, m2, m3, m4, m5, hz, there10G, hv', hg', c6', k1, k2, k3, Cap.cl, sub, put, fillP, List.take_succ_cons, List.take_zero, List.drop_zero]
      exact hK _

/-! ### CspaceResolves -/
def resolvesS : FSpec := fun args h K => ∃ s L c w d, args = [.s s, .agg (Cap.cl c), .s (.i .u64 w), .s (.i .i64 d)] ∧ IsArr Lay.cl h s L ∧ L.length ≤ 9223372036854775807 ∧ u64 w ∧ ∀ h', K (.s (.b true)) h'
theorem resolves_snd : Snd Try.prog 8 resolvesS := (fwp_sound (Tab.snd_Γ T10_snd) mixed Try.func8 dc8).weaken fun args h K hc hS => by
  obtain ⟨s, L, c, w, d, rfl, H1, hl, hu, hK⟩ := hS
  refine fwp_run (Tab.ok_Γ _) 600 ?_
  have hkn := H1.sl.known
  have hnl := H1.sl.noL
  have e := arrOf_eq H1
  have hlr := laidW_len L
  obtain ⟨r, hr⟩ : ∃ r, laidW L = r := ⟨_, rfl⟩
  obtain ⟨m, hm⟩ : ∃ m, r.fresh = m := ⟨_, rfl⟩
  have hmw : m.w = r.w := by rw [← hm]; rfl
  rw [hr] at hlr
  have w1 := rsl_same (d := false) (d' := true) c w d hmw
  have wa := rsl_w false m c w d
  have wb := rsl_w true r c w d
  obtain ⟨y, hy⟩ : ∃ y, rsl false m c w d = y := ⟨_, rfl⟩
  obtain ⟨x, hx⟩ : ∃ x, rsl true r c w d = x := ⟨_, rfl⟩
  rw [hy, hx] at w1
  rw [hy] at wa
  rw [hx] at wb
  have w2 : y.m.w = x.m.w := by rw [wa, wb, hmw]
  have w3 := RW.slE_same (rsl_same (d := false) (d' := true) c w d w2)
  have wc_ := rsl_w false y.m c w d
  have wd_ := rsl_w true x.m c w d
  obtain ⟨y2, hy2⟩ : ∃ z, rsl false y.m c w d = z := ⟨_, rfl⟩
  obtain ⟨x2, hx2⟩ : ∃ z, rsl true x.m c w d = z := ⟨_, rfl⟩
  rw [hy2, hx2] at w3
  rw [hy2] at wc_
  rw [hx2] at wd_
  have w4 : y2.m.w = x2.m.w := by rw [wc_, wd_, w2]
  have we := rsl_w false y2.m c w 32
  have wf := rsl_w true x2.m c w 32
  have w5 := RW.cap_same (rsl_same (d := false) (d' := true) c w 32 w4) (by rw [we, wf, w4])
  have wg := RW.cap_w (rsl false y2.m c w 32)
  have wh := RW.cap_w (rsl true x2.m c w 32)
  obtain ⟨y3, hy3⟩ : ∃ z, (rsl false y2.m c w 32).cap = z := ⟨_, rfl⟩
  obtain ⟨x3, hx3⟩ : ∃ z, (rsl true x2.m c w 32).cap = z := ⟨_, rfl⟩
  rw [hy3, hx3] at w5
  rw [hy3, we, wc_, wa, hmw] at wg
  rw [hx3, wf, wd_, wb] at wh
  obtain ⟨a1, a2, a3⟩ := w1
  obtain ⟨b1, b2⟩ := w3
  obtain ⟨c1, c2, c3, _⟩ := w5
  have l3 : y3.m.w.length = 4096 := by rw [wg, hlr]
  have l4 : x3.m.w.length = 4096 := by rw [wh, hlr]
  have hq0 : 0 + 4096 = 4096 := rfl
  have hx1 : y3.m.has 0 4096 = true := M.has_of (by omega)
  have hw1 : y3.m.w.take 4096 = x3.m.w := by rw [wg, wh]; exact take_all hlr
  have hb : x3.m.w.length ≤ 8796093022208 := by omega
  simp only [Cap.cl]
  simp (config := { maxSteps := 10000000 }) only [EV1, EV2, EV3, EV4, EV5, EV6, addT, istep, lenR_sl, lenR_ns, lenR_es, pickR, putD, bin1R, un1R, slcR, bnd, capsOf, fillP, S_plain, V_plain, V.cells, S_known, V_known, C.v, blk, setL, setH, eqS, eq1, cmpS, cmp1, isNil, popTo, killT, setT, leT, V.below, C.below, S_below, R.below, V.val, C.val, S_val, R.val, R.takes, vals, shows, List.any_cons, List.any_nil, unnamed, V.kill, V.names, C.names, S_names, R.names, List.set, List.replicate, ↓q_cond_t, ↓q_cond_f, if_true, if_false, reduceCtorEq, rvals, rvC, result, C_known, V.noL, C.noL, S_noL, R.noL, Option.map, true_and, and_true, ge_iff_le, gt_iff_lt, implies_true, q_ite_t, q_ite_f, beq_iff_eq, bne_iff_ne, q_ne, Nat.reduceAdd, Nat.reducePow, Int.reducePow, Nat.reduceMul, Nat.reduceSub, Nat.reduceLeDiff, Nat.reduceLT, Nat.reduceEqDiff, Int.reduceNeg, Int.reduceLT, Int.reduceLE, Int.reduceEq, Int.reduceNe, Int.reduceAdd, Int.reduceSub, Int.reduceMul, Int.reduceToNat, Int.reduceBEq, Int.reduceBNe, df8, T10, awake10G, laidG, hkn, hnl, e, hl, hr, hm, memF_2, memF_0, rslG, rslM, sltG, sltM, capOG, capOM, capF, cap_eta, hu, hy, hx, hy2, hx2, hy3, hx3, RW.v, RC.v, Cap.cl, MB_c, MB_s, dumpG, dumpM, l4, hx1, hw1, sub, put, fillP, List.take_succ_cons, List.take_zero, List.drop_zero]
  intro cp hcp
  simp (config := { maxSteps := 10000000 }) only [EV1, EV2, EV3, EV4, EV5, EV6, addT, istep, lenR_sl, lenR_ns, lenR_es, pickR, putD, bin1R, un1R, slcR, bnd, capsOf, fillP, S_plain, V_plain, V.cells, S_known, V_known, C.v, blk, setL, setH, eqS, eq1, cmpS, cmp1, isNil, popTo, killT, setT, leT, V.below, C.below, S_below, R.below, V.val, C.val, S_val, R.val, R.takes, vals, shows, List.any_cons, List.any_nil, unnamed, V.kill, V.names, C.names, S_names, R.names, List.set, List.replicate, ↓q_cond_t, ↓q_cond_f, if_true, if_false, reduceCtorEq, rvals, rvC, result, C_known, V.noL, C.noL, S_noL, R.noL, Option.map, true_and, and_true, ge_iff_le, gt_iff_lt, implies_true, q_ite_t, q_ite_f, beq_iff_eq, bne_iff_ne, q_ne, Nat.reduceAdd, Nat.reducePow, Int.reducePow, Nat.reduceMul, Nat.reduceSub, Nat.reduceLeDiff, Nat.reduceLT, Nat.reduceEqDiff, Int.reduceNeg, Int.reduceLT, Int.reduceLE, Int.reduceEq, Int.reduceNe, Int.reduceAdd, Int.reduceSub, Int.reduceMul, Int.reduceToNat, Int.reduceBEq, Int.reduceBNe, T10, sameWG, listOf_g, app_getn, app_len, MW, Int.toNat_natCast, lstB_rw, unwc_wc, o_bind, lenIs_t, some_is, hb, l4, a1, a2, a3, b1, b2, c1, c2, c3, cap_eqB, Cap.cl, List.drop_zero, sub, put, fillP, List.take_succ_cons, List.take_zero]
  exact hK _
end Go.Proofs.Ytdlloccodmdnnaa

/- Law 10: CspaceLocal: plain facts. -/
namespace Go.Proofs.Ytdlloccodmdnnaa
open Go.D
set_option linter.all false
set_option maxRecDepth 100000
set_option maxHeartbeats 4000000

theorem M.put_getE_other {m : M} {a b : Int} {t : Slot} (hb : thereB m a = true) (hn : b ≠ a) : (m.putX b t).getE a = m.getE a := by
  unfold M.putX
  split
  · rename_i h
    simp only [Bool.and_eq_true] at h
    obtain ⟨x, y⟩ := M.putS_other h.1 h.2 hb hn
    simp only [M.getE, M.putS_there, x]
  · rfl
theorem M.getV_out {m : M} {a : Int} (h : thereB m a = false) : m.getV a = slotZ ∧ m.getE a = 20 := by
  unfold M.getV M.getE
  rw [h]; exact ⟨rfl, rfl⟩
theorem M.put_other {m : M} {a b : Int} {t : Slot} (hn : b ≠ a) : (m.putX b t).getV a = m.getV a ∧ (m.putX b t).getE a = m.getE a := by
  cases h : thereB m a with
  | true => exact ⟨M.put_get_other h hn, M.put_getE_other h hn⟩
  | false =>
    have h2 : thereB (m.putX b t) a = false := by rw [M.putX_there]; exact h
    rw [(M.getV_out h).1, (M.getV_out h).2, (M.getV_out h2).1, (M.getV_out h2).2]; exact ⟨rfl, rfl⟩
/-- A CNode's end. -/
def Cap.ends (c : Cap) : Int := c.obj + 4 * 2 ^ c.bits.toNat
/-- All CNodes end below. -/
def LowOk (m : M) : Prop := ∀ a, m.getE a = 0 → (m.getV a).cap.ty = 2 → (m.getV a).cap.ends ≤ 2048
def Lay.low (x : Lay) : Prop := rightB x.cap = true ∧ 0 ≤ x.at_ ∧ x.at_ < 2048 ∧ (x.cap.ty = 2 → x.cap.ends ≤ 2048)
theorem LowOk.zero (k : Nat) : LowOk (M.zero k) := fun a he ht => by
  obtain ⟨h1, h2⟩ := M.getE_there he
  have : (M.zero k).getV a = (M.zero k).slotC a := by unfold M.getV; rw [h1, h2]; rfl
  rw [this] at ht
  simp only [M.slotC, M.at_zero] at ht
  exact absurd ht (by decide)
theorem LowOk.put {m : M} (H : LowOk m) {x : Lay} (hx : x.cap.ty = 2 → x.cap.ends ≤ 2048) : LowOk (layX m x) := fun a he ht => by
  unfold layX at he ht ⊢
  by_cases h : x.at_ = a
  · subst h
    by_cases h2 : (thereB m x.at_ && slotRB ⟨x.cap, 0, 0, 0⟩) = true
    · have h3 := h2
      simp only [Bool.and_eq_true] at h3
      have := M.put_get (m := m) (putE_ok.2 h3)
      rw [this] at ht ⊢
      exact hx ht
    · have : m.putX x.at_ ⟨x.cap, 0, 0, 0⟩ = m := by unfold M.putX; rw [if_neg h2]
      rw [this] at he ht ⊢
      exact H _ he ht
  · obtain ⟨e1, e2⟩ := M.put_other (m := m) (t := ⟨x.cap, 0, 0, 0⟩) h
    rw [e1] at ht ⊢
    rw [e2] at he
    exact H _ he ht
theorem LowOk.lays : ∀ (L : List Lay) (m : M), LowOk m → (∀ x, x ∈ L → x.low) → LowOk (L.foldl layX m)
  | [], m, H, _ => H
  | x :: L, m, H, hx => by
    rw [List.foldl_cons]
    exact LowOk.lays L _ (H.put (hx x (by simp)).2.2.2) fun y hy => hx y (by simp [hy])
/-- The slots below are as they were. -/
def LowAs (m k : M) : Prop := ∀ a, a < 2048 → m.getV a = k.getV a ∧ m.getE a = k.getE a
theorem LowAs.lays : ∀ (L : List Lay) (m k : M), LowAs m k → (∀ x, x ∈ L → 2048 ≤ x.at_) → LowAs m (L.foldl layX k)
  | [], m, k, H, _ => H
  | x :: L, m, k, H, hx => by
    rw [List.foldl_cons]
    refine LowAs.lays L _ _ (fun a ha => ?_) fun y hy => hx y (by simp [hy])
    have h1 := hx x (by simp)
    obtain ⟨e1, e2⟩ := M.put_other (m := k) (a := a) (b := x.at_) (t := ⟨x.cap, 0, 0, 0⟩) (by omega)
    unfold layX
    rw [e1, e2]; exact H a ha
theorem someB_bits {w n k : Int} (hk : 0 ≤ k ∧ k ≤ 8) : someB w n k + 1 ≤ 2 ^ k.toNat := by
  unfold someB
  have h3 : (0 : Int) < 2 ^ k.toNat := Int.pow_pos (by omega)
  have := Int.emod_lt_of_pos (w / 2 ^ n.toNat) h3
  omega
theorem way_local (w : Int) : ∀ (f : Nat) (m k : M) (c : Cap) (n : Int), LowOk m → LowAs m k → rightB c = true → c.ty = 2 → c.ends ≤ 2048 → (way false w f m c n).same (way false w f k c n)
  | 0, m, k, c, n, _, _, _, _, _ => ⟨rfl, rfl, rfl⟩
  | f + 1, m, k, c, n, H, A, hr, ht, he => by
    obtain ⟨h1, h2, hb⟩ := node_facts hr ht
    have hs := someB_bits (w := w) (n := n - c.gbits - c.bits) (k := c.bits) ⟨by omega, h2⟩
    have hA : wayA w c n < 2048 := by
      unfold wayA
      unfold Cap.ends at he
      omega
    obtain ⟨e1, e2⟩ := A _ hA
    rw [way, way, ← e1, ← e2]
    split; · exact ⟨rfl, rfl, rfl⟩
    split; · exact ⟨rfl, rfl, rfl⟩
    split; · exact ⟨rfl, rfl, rfl⟩
    split; · exact ⟨rfl, rfl, rfl⟩
    split
    · rename_i g
      refine way_local w f _ _ _ _ ?_ ?_ (M.getV_right g.1) g.2 (H _ g.1 g.2)
      · intro a ha hb
        rw [M.getX_getE] at ha
        rw [M.getX_getV] at hb ⊢
        exact H a ha hb
      · intro a ha
        rw [M.getX_getE, M.getX_getV, M.getX_getE, M.getX_getV]
        exact A a ha
    · exact ⟨rfl, rfl, rfl⟩
theorem rsl_local {low more : List Lay} {c : Cap} {w n : Int} (hl : ∀ x, x ∈ low → x.low) (hm : ∀ x, x ∈ more → 2048 ≤ x.at_) (l1 : low.length ≤ 50) (l2 : more.length ≤ 40) (hr : rightB c = true) (ht : c.ty = 2) (he : c.ends ≤ 2048) :
    (rsl false (laidW low).fresh c w n).same (rsl false (laidW (low ++ more)).fresh c w n) := by
  have e1 : laidW low = low.foldl layX (M.zero 12) := by unfold laidW; rw [List.take_of_length_le (by omega)]
  have e2 : laidW (low ++ more) = more.foldl layX (low.foldl layX (M.zero 12)) := by
    unfold laidW; rw [List.take_of_length_le (by rw [List.length_append]; omega), List.foldl_append]
  have f : ∀ m : M, ∀ a, m.fresh.getV a = m.getV a ∧ m.fresh.getE a = m.getE a := fun m a => ⟨M.getV_w rfl a, M.getE_w rfl a⟩
  by_cases hd : n < 1 ∨ 32 < n
  · rw [rsl_deep ht hr hd, rsl_deep ht hr hd]; exact ⟨rfl, rfl, rfl⟩
  rw [rsl_way ht hr hd, rsl_way ht hr hd]
  refine way_local w 32 _ _ c n (fun a => ?_) (fun a ha => ?_) hr ht he
  · rw [(f _ a).1, (f _ a).2, e1]
    exact LowOk.lays low _ (LowOk.zero 12) hl a
  · rw [(f _ a).1, (f _ a).2, (f _ a).1, (f _ a).2, e1, e2]
    exact LowAs.lays more _ _ (fun _ _ => ⟨rfl, rfl⟩) hm a ha
end Go.Proofs.Ytdlloccodmdnnaa

/- Law 10: CspaceLocal: the walk behind its lists. -/
namespace Go.Proofs.Ytdlloccodmdnnaa
open Go.D
set_option linter.all false
set_option maxRecDepth 100000
set_option maxHeartbeats 8000000

section
variable {h X : List Blk} {A B C D E F : Blk} {m : M}
theorem at6_is : IsMem (h ++ (A :: B :: C :: D :: E :: F :: MB (h.length + 7) m :: MW m :: X)) (h.length + 6) (h.length + 7) m := by
  refine ⟨by omega, ?_, ?_⟩
  · rw [app_getn]; rfl
  · rw [app_getn]; rfl
theorem at6_set (m' : M) : setM (h ++ (A :: B :: C :: D :: E :: F :: MB (h.length + 7) m :: MW m :: X)) (h.length + 6) (h.length + 7) m' = h ++ (A :: B :: C :: D :: E :: F :: MB (h.length + 7) m' :: MW m' :: X) := by
  simp only [setM]
  rw [app_setn, app_setn]; rfl
theorem memF_6 {f : Nat → M → (M → List Blk) → List V → Res} {rest : List V} : memF f (.s (.p (.g (h.length + 6)) 0) :: rest) (h ++ (A :: B :: C :: D :: E :: F :: MB (h.length + 7) m :: MW m :: X)) = f (h.length + 7) m (fun m => h ++ (A :: B :: C :: D :: E :: F :: MB (h.length + 7) m :: MW m :: X)) rest := by
  rw [memF_eq at6_is, funext at6_set]
end
theorem ends_wrap {c : Cap} (h1 : 0 ≤ c.bits ∧ c.bits ≤ 31) (h2 : 0 ≤ c.obj ∧ c.obj ≤ 65535) : IntKind.i64.wrap (4 * 2 ^ min c.bits.toNat IntKind.i64.bits) = 4 * 2 ^ c.bits.toNat ∧ IntKind.i64.wrap (c.obj + 4 * 2 ^ c.bits.toNat) = c.ends := by
  have key : ∀ k : Fin 32, IntKind.i64.wrap (4 * 2 ^ min k.val IntKind.i64.bits) = 4 * 2 ^ k.val ∧ (4 : Int) * 2 ^ k.val ≤ 8589934592 ∧ (0 : Int) ≤ 4 * 2 ^ k.val := by decide +kernel
  have := key ⟨c.bits.toNat, by omega⟩
  simp only at this
  exact ⟨this.1, wrap64 (by omega) (by omega)⟩
/-- The temporaries when both lists are there. -/
def localT (w d : Int) (q : Nat) (x y : S) : List V := setT [(2, .s (.i .u64 w)), (3, .s (.i .i64 d)), (6, .s (.p (.g q) 0)), (11, .s (.b true)), (12, .s x), (16, .s y)] (List.replicate 174 (.s .u))
theorem local_end2 {n0 : Nat} {K : V → List Blk → Prop} {H : List Blk} {q : Nat} {x y : S} {low both : List Lay} {c : Cap} {w d : Int} (hH : clean H.length H = true) (hq : H[q]? = some ⟨.rw, c.cl, 11⟩) (h1 : IsArr Lay.cl H x low) (h2 : IsArr Lay.cl H y both) (l1 : low.length ≤ 50) (l2 : both.length ≤ 90) (hu : u64 w)
    (hs : rightB c = true → c.ty = 2 → c.ends ≤ 2048 → (rsl false (laidW low).fresh c w d).same (rsl false (laidW both).fresh c w d)) (hK : ∀ h', K (.s (.b true)) h') :
    swp T10.Γ n0 (finP df3.res K) [.c (DC.after 6 df3.body)] ⟨localT w d q x y, [], H⟩ := by
  have hkn1 := h1.sl.known
  have hnl1 := h1.sl.noL
  have hkn2 := h2.sl.known
  have hnl2 := h2.sl.noL
  have e1 := arrOf_eq h1
  have e2 : ∀ X, arrOf Lay.cl (H ++ X) y = some both := fun X => arrOf_eq h2.app
  have hqx : ∀ X, (H ++ X)[q]? = some ⟨.rw, c.cl, 11⟩ := fun X => by rw [app_getl (List.getElem?_eq_some_iff.1 hq).1, hq]
  have g1 : low.length ≤ 9223372036854775807 := by omega
  have g2 : both.length ≤ 9223372036854775807 := by omega
  obtain ⟨r1, hr1⟩ : ∃ r, laidW low = r := ⟨_, rfl⟩
  obtain ⟨m1, hm1⟩ : ∃ m, r1.fresh = m := ⟨_, rfl⟩
  obtain ⟨r2, hr2⟩ : ∃ r, laidW both = r := ⟨_, rfl⟩
  obtain ⟨m2, hm2⟩ : ∃ m, r2.fresh = m := ⟨_, rfl⟩
  rw [hr1, hm1, hr2, hm2] at hs
  simp only [Cap.cl] at hqx
  simp only [DC.after, df3]
  cases hr : rightB c with
  | false =>
    refine run_sound (Tab.ok_Γ _) 400 _ _ _ _ ?_
    simp (config := { maxSteps := 10000000 }) only [EV1, EV2, EV3, EV4, EV5, EV6, addT, istep, lenR_sl, lenR_ns, lenR_es, pickR, putD, bin1R, un1R, slcR, bnd, capsOf, fillP, S_plain, V_plain, V.cells, S_known, V_known, C.v, blk, setL, setH, eqS, eq1, cmpS, cmp1, isNil, popTo, killT, setT, leT, V.below, C.below, S_below, R.below, V.val, C.val, S_val, R.val, R.takes, vals, shows, List.any_cons, List.any_nil, unnamed, V.kill, V.names, C.names, S_names, R.names, List.set, List.replicate, ↓q_cond_t, ↓q_cond_f, if_true, if_false, reduceCtorEq, rvals, rvC, result, C_known, V.noL, C.noL, S_noL, R.noL, Option.map, true_and, and_true, ge_iff_le, gt_iff_lt, implies_true, q_ite_t, q_ite_f, beq_iff_eq, bne_iff_ne, q_ne, Nat.reduceAdd, Nat.reducePow, Int.reducePow, Nat.reduceMul, Nat.reduceSub, Nat.reduceLeDiff, Nat.reduceLT, Nat.reduceEqDiff, Int.reduceNeg, Int.reduceLT, Int.reduceLE, Int.reduceEq, Int.reduceNe, Int.reduceAdd, Int.reduceSub, Int.reduceMul, Int.reduceToNat, Int.reduceBEq, Int.reduceBNe, localT, setT, T10, laidG, hkn1, hnl1, e1, g1, hr1, hm1, hkn2, hnl2, e2, g2, hr2, hm2, app_len, nnn, hqx, rightG, capF, cap_eta, hr, Cap.cl, sub, put, fillP, List.take_succ_cons, List.take_zero, List.drop_zero]
    exact hK _
  | true =>
  by_cases ht : c.ty = 2
  case neg =>
    have ht' : (c.ty != 2) = true := by simpa using ht
    refine run_sound (Tab.ok_Γ _) 400 _ _ _ _ ?_
    simp (config := { maxSteps := 10000000 }) only [EV1, EV2, EV3, EV4, EV5, EV6, addT, istep, lenR_sl, lenR_ns, lenR_es, pickR, putD, bin1R, un1R, slcR, bnd, capsOf, fillP, S_plain, V_plain, V.cells, S_known, V_known, C.v, blk, setL, setH, eqS, eq1, cmpS, cmp1, isNil, popTo, killT, setT, leT, V.below, C.below, S_below, R.below, V.val, C.val, S_val, R.val, R.takes, vals, shows, List.any_cons, List.any_nil, unnamed, V.kill, V.names, C.names, S_names, R.names, List.set, List.replicate, ↓q_cond_t, ↓q_cond_f, if_true, if_false, reduceCtorEq, rvals, rvC, result, C_known, V.noL, C.noL, S_noL, R.noL, Option.map, true_and, and_true, ge_iff_le, gt_iff_lt, implies_true, q_ite_t, q_ite_f, beq_iff_eq, bne_iff_ne, q_ne, Nat.reduceAdd, Nat.reducePow, Int.reducePow, Nat.reduceMul, Nat.reduceSub, Nat.reduceLeDiff, Nat.reduceLT, Nat.reduceEqDiff, Int.reduceNeg, Int.reduceLT, Int.reduceLE, Int.reduceEq, Int.reduceNe, Int.reduceAdd, Int.reduceSub, Int.reduceMul, Int.reduceToNat, Int.reduceBEq, Int.reduceBNe, localT, setT, T10, laidG, hkn1, hnl1, e1, g1, hr1, hm1, hkn2, hnl2, e2, g2, hr2, hm2, app_len, nnn, hqx, rightG, capF, cap_eta, hr, ht', Cap.cl, sub, put, fillP, List.take_succ_cons, List.take_zero, List.drop_zero]
    exact hK _
  have ht' : (c.ty != 2) = false := by simpa using ht
  have hb := right_bounds hr
  obtain ⟨v1, v2⟩ := ends_wrap hb.bits hb.obj
  have b0 := hb.bits.1
  by_cases he : c.ends ≤ 2048
  case neg =>
    have he' : 2048 < c.ends := by omega
    refine run_sound (Tab.ok_Γ _) 400 _ _ _ _ ?_
    simp (config := { maxSteps := 10000000 }) only [EV1, EV2, EV3, EV4, EV5, EV6, addT, istep, lenR_sl, lenR_ns, lenR_es, pickR, putD, bin1R, un1R, slcR, bnd, capsOf, fillP, S_plain, V_plain, V.cells, S_known, V_known, C.v, blk, setL, setH, eqS, eq1, cmpS, cmp1, isNil, popTo, killT, setT, leT, V.below, C.below, S_below, R.below, V.val, C.val, S_val, R.val, R.takes, vals, shows, List.any_cons, List.any_nil, unnamed, V.kill, V.names, C.names, S_names, R.names, List.set, List.replicate, ↓q_cond_t, ↓q_cond_f, if_true, if_false, reduceCtorEq, rvals, rvC, result, C_known, V.noL, C.noL, S_noL, R.noL, Option.map, true_and, and_true, ge_iff_le, gt_iff_lt, implies_true, q_ite_t, q_ite_f, beq_iff_eq, bne_iff_ne, q_ne, Nat.reduceAdd, Nat.reducePow, Int.reducePow, Nat.reduceMul, Nat.reduceSub, Nat.reduceLeDiff, Nat.reduceLT, Nat.reduceEqDiff, Int.reduceNeg, Int.reduceLT, Int.reduceLE, Int.reduceEq, Int.reduceNe, Int.reduceAdd, Int.reduceSub, Int.reduceMul, Int.reduceToNat, Int.reduceBEq, Int.reduceBNe, localT, setT, T10, laidG, hkn1, hnl1, e1, g1, hr1, hm1, hkn2, hnl2, e2, g2, hr2, hm2, app_len, nnn, hqx, rightG, capF, cap_eta, hr, ht', b0, v1, v2, he', Cap.cl, sub, put, fillP, List.take_succ_cons, List.take_zero, List.drop_zero]
    exact hK _
  have he' : ¬ 2048 < c.ends := by omega
  obtain ⟨s1, s2, s3⟩ := hs hr ht he
  obtain ⟨p, hp⟩ : ∃ p, rsl false m1 c w d = p := ⟨_, rfl⟩
  obtain ⟨o, ho⟩ : ∃ p, rsl false m2 c w d = p := ⟨_, rfl⟩
  rw [hp, ho] at s1 s2 s3
  refine run_sound (Tab.ok_Γ _) 400 _ _ _ _ ?_
  simp (config := { maxSteps := 10000000 }) only [EV1, EV2, EV3, EV4, EV5, EV6, addT, istep, lenR_sl, lenR_ns, lenR_es, pickR, putD, bin1R, un1R, slcR, bnd, capsOf, fillP, S_plain, V_plain, V.cells, S_known, V_known, C.v, blk, setL, setH, eqS, eq1, cmpS, cmp1, isNil, popTo, killT, setT, leT, V.below, C.below, S_below, R.below, V.val, C.val, S_val, R.val, R.takes, vals, shows, List.any_cons, List.any_nil, unnamed, V.kill, V.names, C.names, S_names, R.names, List.set, List.replicate, ↓q_cond_t, ↓q_cond_f, if_true, if_false, reduceCtorEq, rvals, rvC, result, C_known, V.noL, C.noL, S_noL, R.noL, Option.map, true_and, and_true, ge_iff_le, gt_iff_lt, implies_true, q_ite_t, q_ite_f, beq_iff_eq, bne_iff_ne, q_ne, Nat.reduceAdd, Nat.reducePow, Int.reducePow, Nat.reduceMul, Nat.reduceSub, Nat.reduceLeDiff, Nat.reduceLT, Nat.reduceEqDiff, Int.reduceNeg, Int.reduceLT, Int.reduceLE, Int.reduceEq, Int.reduceNe, Int.reduceAdd, Int.reduceSub, Int.reduceMul, Int.reduceToNat, Int.reduceBEq, Int.reduceBNe, localT, setT, T10, laidG, hkn1, hnl1, e1, g1, hr1, hm1, hkn2, hnl2, e2, g2, hr2, hm2, app_len, nnn, hqx, rightG, rslG, memF_2, memF_6, rslM, capF, cap_eta, hu, hr, ht', b0, v1, v2, he', hp, ho, RW.v, s1, s2, s3, Cap.cl, sub, put, fillP, List.take_succ_cons, List.take_zero, List.drop_zero]
  exact hK _
end Go.Proofs.Ytdlloccodmdnnaa

