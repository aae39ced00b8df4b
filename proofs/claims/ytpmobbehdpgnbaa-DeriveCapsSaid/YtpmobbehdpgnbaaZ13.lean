/- The machine's memory: how it stands among the blocks. -/
import Derived.Test.YtpmobbehdpgnbaaZ12
import Derived.Test.YtpmobbehdpgnbaaZ10
import Derived.Laws.BitsLemmas
import Derived.Laws.Bits64b
import Derived.Lib.EndianBits
/- Slices of elements, as they lie in a block. -/
namespace Go.Proofs.Ytpmobbehdpgnbaa
open Go.D
set_option linter.all false
set_option maxRecDepth 100000

def IsArr {α : Type} (c : α → List S) (h : List Blk) (s : S) (L : List α) : Prop :=
  ((s = .ns ∨ ∃ a c', s = .es a c') ∧ L = []) ∨ ∃ j c' st room, s = .sl (.g j) 0 L.length c' ∧ h[j]? = some ⟨st, arr c L, room⟩ ∧ (L.length ≠ 0 → st ≠ .dead)
theorem arr_inj {α : Type} {c : α → List S} {k : Nat} (hk : ∀ x, (c x).length = k) (hc : ∀ x y, c x = c y → x = y) : ∀ (L M : List α), L.length = M.length → arr c L = arr c M → L = M
  | [], [], _, _ => rfl
  | x :: L, y :: M, hl, e => by
    simp only [arr] at e
    obtain ⟨e1, e2⟩ := List.append_inj e (by rw [hk, hk])
    rw [hc x y e1, arr_inj hk hc L M (by simpa using hl) e2]
  | [], _ :: _, hl, _ => by simp at hl
  | _ :: _, [], hl, _ => by simp at hl
class Cells {α : Type} (c : α → List S) : Prop where
  len : ∃ k, ∀ x, (c x).length = k
  inj : ∀ x y, c x = c y → x = y
theorem IsArr.uniq {α : Type} {c : α → List S} [C : Cells c] {h : List Blk} {s : S} {L M : List α} (H : IsArr c h s L) (H' : IsArr c h s M) : L = M := by
  rcases H with ⟨e0, rfl⟩ | ⟨j, c1, st, room, rfl, e1, _⟩
  · rcases H' with ⟨_, rfl⟩ | ⟨_, _, _, _, e, _⟩
    · rfl
    · subst e; rcases e0 with e0 | ⟨_, _, e0⟩ <;> cases e0
  · rcases H' with ⟨e | ⟨_, _, e⟩, _⟩ | ⟨j', c1', st', room', e, e2, _⟩
    · cases e
    · cases e
    · simp only [S.sl.injEq, R.g.injEq, true_and] at e
      obtain ⟨rfl, hl, rfl⟩ := e
      rw [e1, Option.some.injEq, Blk.mk.injEq] at e2
      obtain ⟨k, hk⟩ := C.len
      exact arr_inj hk C.inj L M hl e2.2.1
open Classical in
noncomputable def arrOf {α : Type} (c : α → List S) (h : List Blk) (s : S) : Option (List α) := if hx : ∃ v, IsArr c h s v then some (Classical.choose hx) else none
theorem IsArr.app {α : Type} {c : α → List S} {h X : List Blk} {s : S} {L : List α} (H : IsArr c h s L) : IsArr c (h ++ X) s L := by
  rcases H with ⟨e0, rfl⟩ | ⟨j, c', st, room, rfl, e1, e2⟩
  · exact .inl ⟨e0, rfl⟩
  · exact .inr ⟨j, c', st, room, rfl, by rw [List.getElem?_append_left (List.getElem?_eq_some_iff.1 e1).1]; exact e1, e2⟩
def In.c (n : Int) : List S := [.i .i64 n]
theorem In.c_len (n : Int) : (In.c n).length = 1 := rfl
instance : Cells In.c := ⟨⟨1, In.c_len⟩, fun x y e => by simpa [In.c] using e⟩

/-! ### a slice whose form is not looked at -/
def IsSl (q : Nat) (s : S) (n : Nat) : Prop := (s = .ns ∧ n = 0) ∨ (∃ a c, s = .es a c ∧ n = 0) ∨ ∃ j o c, s = .sl (.g j) o n c ∧ j < q
section
variable {q : Nat} {s : S} {n : Nat} (H : IsSl q s n)
include H
theorem IsSl.len {ls h : List Blk} : lenR (.s s) ls h = .ok (.s (.i .i64 n)) ls h := by
  rcases H with ⟨rfl, rfl⟩ | ⟨a, c, rfl, rfl⟩ | ⟨j, o, c, rfl, _⟩ <;> rfl
theorem IsSl.known : V.known (.s s) = true := by
  rcases H with ⟨rfl, rfl⟩ | ⟨a, c, rfl, rfl⟩ | ⟨j, o, c, rfl, _⟩ <;> rfl
theorem IsSl.plain : V.plain (.s s) = true := by
  rcases H with ⟨rfl, rfl⟩ | ⟨a, c, rfl, rfl⟩ | ⟨j, o, c, rfl, _⟩ <;> rfl
theorem IsSl.noL : s.noL = true := by
  rcases H with ⟨rfl, rfl⟩ | ⟨a, c, rfl, rfl⟩ | ⟨j, o, c, rfl, _⟩ <;> rfl
theorem IsSl.below (m : Nat) : s.below m = true := by
  rcases H with ⟨rfl, rfl⟩ | ⟨a, c, rfl, rfl⟩ | ⟨j, o, c, rfl, _⟩ <;> rfl
theorem IsSl.names (m : Nat) : s.names m = false := by
  rcases H with ⟨rfl, rfl⟩ | ⟨a, c, rfl, rfl⟩ | ⟨j, o, c, rfl, _⟩ <;> rfl
theorem IsSl.ren {ρ : R → R} (hρ : ∀ k, ρ (.g k) = .g k) : s.ren ρ = s := by
  rcases H with ⟨rfl, rfl⟩ | ⟨a, c, rfl, rfl⟩ | ⟨j, o, c, rfl, _⟩ <;> simp [S.ren, hρ]
theorem IsSl.lend (m : Nat) : s.ren (R.lend m) = s := H.ren fun _ => rfl
theorem IsSl.unlend {k : Nat} (hk : q ≤ k) : s.ren (R.unlend k) = s := by
  rcases H with ⟨rfl, rfl⟩ | ⟨a, c, rfl, rfl⟩ | ⟨j, o, c, rfl, hj⟩
  · rfl
  · rfl
  · simp only [S.ren, R.unlend]; rw [if_pos (by omega)]
theorem IsSl.pick (l : List Nat) : s.ren (R.pick l) = s := H.ren fun _ => rfl
theorem IsSl.val {k m : Nat} (hk : q ≤ k) : s.val k m = true := by
  rcases H with ⟨rfl, rfl⟩ | ⟨a, c, rfl, rfl⟩ | ⟨j, o, c, rfl, hj⟩
  · rfl
  · rfl
  · simp only [S.val, R.val, decide_eq_true_eq]; omega
end
theorem IsArr.sl {α : Type} {c : α → List S} {h : List Blk} {s : S} {L : List α} (H : IsArr c h s L) : IsSl h.length s L.length := by
  rcases H with ⟨e0 | ⟨a, c', e0⟩, rfl⟩ | ⟨j, c', st, room, rfl, e, _⟩
  · exact .inl ⟨e0, rfl⟩
  · exact .inr (.inl ⟨a, c', e0, rfl⟩)
  · exact .inr (.inr ⟨j, 0, c', rfl, (List.getElem?_eq_some_iff.1 e).1⟩)
theorem IsArr.at {α : Type} {c : α → List S} {h : List Blk} {s : S} {L : List α} (H : IsArr c h s L) {i : Nat} (hi : i < L.length) : ∃ j c' st room, s = .sl (.g j) 0 L.length c' ∧ h[j]? = some ⟨st, arr c L, room⟩ ∧ st ≠ .dead := by
  rcases H with ⟨_, rfl⟩ | ⟨j, c', st, room, e, e1, e2⟩
  · simp at hi
  · exact ⟨j, c', st, room, e, e1, e2 (by omega)⟩
end Go.Proofs.Ytpmobbehdpgnbaa

/- The equations by which the machine is evaluated, as one fact. -/
namespace Go.D
set_option linter.all false
variable [Tabs]
set_option maxRecDepth 100000
set_option linter.all false
def EV1 := And.intro (And.intro (And.intro (And.intro (And.intro (@run_je) (@resume_leaf)) (And.intro (@resume_all) (@resume_bad))) (And.intro (And.intro (@resume_res) (@resume_cond)) (And.intro (@resume_ob) (@join_leaf)))) (And.intro (And.intro (And.intro (@join_ob1) (@join_ob2)) (And.intro (@obS_true) (@obS_false))) (And.intro (And.intro (@zipC_nil) (@zipC_cons)) (And.intro (@jv_self) (@jv_b))))) (And.intro (And.intro (And.intro (And.intro (@jv_i) (@cond_ff)) (And.intro (@cond_tt) (@cond_ft))) (And.intro (And.intro (@cond_tf) (@cond_same)) (And.intro (@run_zero) (@run_nil)))) (And.intro (And.intro (And.intro (@run_blk) (@run_lp)) (And.intro (@run_gi0) (@run_gi))) (And.intro (And.intro (@run_gig) (@run_q0)) (And.intro (@run_q) (@run_qg)))))
def EV2 := And.intro (And.intro (And.intro (And.intro (And.intro (@run_skip) (@run_reg)) (And.intro (@run_drt) (@run_drq))) (And.intro (And.intro (@cut_s) (@cut_0)) (And.intro (@run_drm) (@frames_nil)))) (And.intro (And.intro (And.intro (@frames_q) (@frames_g)) (And.intro (@run_seq) (@run_cond))) (And.intro (And.intro (@run_block) (@run_loop)) (And.intro (@run_exit) (@run_ret))))) (And.intro (And.intro (And.intro (And.intro (@cont_ok) (@cont_br)) (And.intro (@cont_ob) (@cont_call))) (And.intro (And.intro (@cont_app) (@cont_bad)) (And.intro (@cont_all) (@contG_all)))) (And.intro (And.intro (And.intro (@into_all) (@unlend_all)) (And.intro (@contG_ok) (@contG_br))) (And.intro (And.intro (@contG_ob) (@contG_call)) (And.intro (@contG_app) (@contG_bad)))))
def EV3 := And.intro (And.intro (And.intro (And.intro (And.intro (@contQ_ok) (@contQ_br)) (And.intro (@contQ_ob) (@contQ_call))) (And.intro (And.intro (@contQ_callv) (@contQ_bad)) (And.intro (@contQ2_ok) (@contQ2_br)))) (And.intro (And.intro (And.intro (@contQ2_ob) (@contQG_some)) (And.intro (@contQH_ok) (@contQH_br))) (And.intro (And.intro (@contQH_ob) (@guard_b)) (And.intro (@guard_t) (@guardQ_b))))) (And.intro (And.intro (And.intro (And.intro (@guardQ_t) (@condV_b)) (And.intro (@exitV_some) (@callR_t))) (And.intro (And.intro (@callR_f) (@callO_some)) (And.intro (@callO_none) (@callL_some)))) (And.intro (And.intro (And.intro (@callL_none) (@into_ok)) (And.intro (@into_ob) (@into_br))) (And.intro (And.intro (@unlend_ok) (@unlend_ob)) (And.intro (@unlend_br) (@ev_t)))))
def EV4 := And.intro (And.intro (And.intro (And.intro (And.intro (@ev_k) (@tg_some)) (And.intro (@put_nil) (@put_succ))) (And.intro (And.intro (@put_zero) (@known_nil)) (And.intro (@known_cons) (@List.map_cons.{0, 0})))) (And.intro (And.intro (And.intro (@List.map_nil.{0, 0}) (@q_all_cons.{0})) (And.intro (@q_all_nil.{0}) (@q_get0.{0}))) (And.intro (And.intro (@q_getS.{0}) (@q_getN.{0})) (And.intro (@q_len_cons.{0}) (@q_len_nil.{0}))))) (And.intro (And.intro (And.intro (And.intro (@q_cons_app.{0}) (@q_nil_app.{0})) (And.intro (@List.append_nil.{0}) (@List.append_assoc.{0}))) (And.intro (And.intro (@List.length_append.{0}) (@app_get0)) (And.intro (@app_getn) (@app_set0)))) (And.intro (And.intro (And.intro (@app_setn) (@Bool.and_true)) (And.intro (@Bool.true_and) (@Bool.and_false))) (And.intro (And.intro (@Bool.false_and) (@Bool.or_true)) (And.intro (@Bool.true_or) (@Bool.or_false)))))
def EV5 := And.intro (And.intro (And.intro (And.intro (And.intro (@Bool.false_or) (@Bool.not_true)) (And.intro (@Bool.not_false) (@Bool.false_eq_true))) (And.intro (And.intro (@holds_done) (@holds_obS)) (And.intro (@holds_all) (@holds_lp)))) (And.intro (And.intro (And.intro (@holds_bad) (@holds_cond_eq)) (And.intro (@fin_ret) (@fin_nrm))) (And.intro (And.intro (@finO_some) (@leave_eq)) (And.intro (@leaveB_true) (@rval_t))))) (And.intro (And.intro (And.intro (And.intro (@rval_c) (@rvT_s)) (And.intro (@rvT_agg) (@false_and))) (And.intro (And.intro (@and_false) (@q_cast)) (And.intro (@false_imp_iff) (@true_imp_iff)))) (And.intro (And.intro (And.intro (@not_true_eq_false) (@Classical.not_not)) (And.intro (@true_or) (@or_true))) (And.intro (And.intro (@or_self) (@or_false)) (And.intro (@false_or) (@Nat.lt_irrefl)))))
def EV6 := And.intro (And.intro (And.intro (And.intro (@Nat.one_mul) (@Nat.mul_one)) (And.intro (@decide_true) (And.intro (@decide_false) (@decide_eq_true_eq)))) (And.intro (And.intro (@Bool.not_eq_true') (And.intro (@Bool.not_eq_false') (@Bool.and_eq_true))) (And.intro (@Bool.or_eq_true) (And.intro (@Bool.eq_false_iff) (@Nat.zero_add))))) (And.intro (And.intro (And.intro (@q_add_zero) (@Nat.zero_mul)) (And.intro (@Nat.le_refl) (And.intro (@not_false_eq_true) (@q_toNat)))) (And.intro (And.intro (@sub_succ) (And.intro (@sub_zero) (@sub_none))) (And.intro (@List.length_set.{0}) (And.intro (@beq_self_eq_true.{0}) (@bne_self_eq_false.{0})))))
def EV7 := And.intro (And.intro (And.intro (And.intro (And.intro (And.intro (@addT.eq_1) (@istep.eq_1)) (And.intro (@istep.eq_2) (@istep.eq_3))) (And.intro (And.intro (@istep.eq_4) (@istep.eq_5)) (And.intro (@istep.eq_6) (And.intro (@istep.eq_7) (@istep.eq_8))))) (And.intro (And.intro (And.intro (@istep.eq_9) (@istep.eq_10)) (And.intro (@istep.eq_11) (And.intro (@istep.eq_12) (@istep.eq_13)))) (And.intro (And.intro (@istep.eq_14) (@istep.eq_15)) (And.intro (@istep.eq_16) (And.intro (@istep.eq_17) (@istep.eq_18)))))) (And.intro (And.intro (And.intro (And.intro (@istep.eq_19) (@istep.eq_20)) (And.intro (@istep.eq_21) (@istep.eq_22))) (And.intro (And.intro (@istep.eq_23) (@istep.eq_24)) (And.intro (@istep.eq_25) (And.intro (@istep.eq_26) (@istep.eq_27))))) (And.intro (And.intro (And.intro (@istep.eq_28) (@istep.eq_29)) (And.intro (@istep.eq_30) (And.intro (@istep.eq_31) (@istep.eq_32)))) (And.intro (And.intro (@pickR.eq_1) (@pickR.eq_2)) (And.intro (@pickR.eq_3) (And.intro (@pickR.eq_4) (@putD.eq_1))))))) (And.intro (And.intro (And.intro (And.intro (And.intro (@putD.eq_2) (@bin1R.eq_1)) (And.intro (@bin1R.eq_2) (@bin1R.eq_3))) (And.intro (And.intro (@bin1R.eq_4) (@bin1R.eq_5)) (And.intro (@bin1R.eq_6) (And.intro (@bin1R.eq_7) (@bin1R.eq_8))))) (And.intro (And.intro (And.intro (@bin1R.eq_9) (@bin1R.eq_10)) (And.intro (@bin1R.eq_11) (And.intro (@bin1R.eq_12) (@bin1R.eq_13)))) (And.intro (And.intro (@bin1R.eq_14) (@bin1R.eq_15)) (And.intro (@bin1R.eq_16) (And.intro (@bin1R.eq_17) (@bin1R.eq_18)))))) (And.intro (And.intro (And.intro (And.intro (@un1R.eq_1) (@un1R.eq_2)) (And.intro (@un1R.eq_3) (And.intro (@un1R.eq_4) (@slcR.eq_1)))) (And.intro (And.intro (@bnd.eq_1) (@bnd.eq_2)) (And.intro (@capsOf.eq_1) (And.intro (@capsOf.eq_2) (@fillP.eq_1))))) (And.intro (And.intro (And.intro (@fillP.eq_2) (@V.cells.eq_1)) (And.intro (@V.cells.eq_2) (And.intro (@V.cells.eq_3) (@C.v.eq_1)))) (And.intro (And.intro (@C.v.eq_2) (@blk.eq_1)) (And.intro (@blk.eq_2) (And.intro (@setL.eq_1) (@setL.eq_2)))))))
def EV8 := And.intro (And.intro (And.intro (And.intro (And.intro (And.intro (@setH.eq_1) (@setH.eq_2)) (And.intro (@eqS.eq_1) (@eqS.eq_2))) (And.intro (And.intro (@eqS.eq_3) (@eq1.eq_1)) (And.intro (@eq1.eq_2) (And.intro (@eq1.eq_3) (@cmpS.eq_1))))) (And.intro (And.intro (And.intro (@cmpS.eq_2) (@cmpS.eq_3)) (And.intro (@cmp1.eq_1) (And.intro (@cmp1.eq_2) (@cmp1.eq_3)))) (And.intro (And.intro (@isNil.eq_1) (@isNil.eq_2)) (And.intro (@isNil.eq_3) (And.intro (@isNil.eq_4) (@isNil.eq_5)))))) (And.intro (And.intro (And.intro (And.intro (@popTo.eq_1) (@popTo.eq_2)) (And.intro (@popTo.eq_3) (@popTo.eq_4))) (And.intro (And.intro (@popTo.eq_5) (@popTo.eq_6)) (And.intro (@popTo.eq_7) (And.intro (@popTo.eq_8) (@killT.eq_1))))) (And.intro (And.intro (And.intro (@killT.eq_2) (@setT.eq_1)) (And.intro (@setT.eq_2) (And.intro (@leT.eq_1) (@leT.eq_2)))) (And.intro (And.intro (@leT.eq_3) (@V.below.eq_1)) (And.intro (@V.below.eq_2) (And.intro (@V.below.eq_3) (@C.below.eq_1))))))) (And.intro (And.intro (And.intro (And.intro (And.intro (@C.below.eq_2) (@R.below.eq_1)) (And.intro (@R.below.eq_2) (@V.val.eq_1))) (And.intro (And.intro (@V.val.eq_2) (@V.val.eq_3)) (And.intro (@C.val.eq_1) (And.intro (@C.val.eq_2) (@R.val.eq_1))))) (And.intro (And.intro (And.intro (@R.val.eq_2) (@R.takes.eq_1)) (And.intro (@R.takes.eq_2) (And.intro (@vals.eq_1) (@shows.eq_1)))) (And.intro (And.intro (@shows.eq_2) (@shows.eq_3)) (And.intro (@shows.eq_4) (And.intro (@unnamed.eq_1) (@V.kill.eq_1)))))) (And.intro (And.intro (And.intro (And.intro (@V.names.eq_1) (@V.names.eq_2)) (And.intro (@V.names.eq_3) (And.intro (@C.names.eq_1) (@C.names.eq_2)))) (And.intro (And.intro (@R.names.eq_1) (@R.names.eq_2)) (And.intro (@rvals.eq_1) (And.intro (@rvals.eq_2) (@rvC.eq_1))))) (And.intro (And.intro (And.intro (@rvC.eq_2) (@result.eq_1)) (And.intro (@result.eq_2) (And.intro (@V.noL.eq_1) (@V.noL.eq_2)))) (And.intro (And.intro (@V.noL.eq_3) (@C.noL.eq_1)) (And.intro (@C.noL.eq_2) (And.intro (@R.noL.eq_1) (@R.noL.eq_2)))))))
def EV9 := And.intro (And.intro (And.intro (And.intro (@run_drx) (And.intro (@run_xd) (@run_xq))) (And.intro (And.intro (@run_xg) (@run_xb)) (And.intro (@lenR_sl) (@lenR_ns)))) (And.intro (And.intro (And.intro (@lenR_es) (@S_plain)) (And.intro (@V_plain) (@S_known))) (And.intro (And.intro (@V_known) (@S_below)) (And.intro (@S_val) (@S_names))))) (And.intro (And.intro (And.intro (And.intro (@C_known) (@S_noL)) (And.intro (@q_ite_t.{1}) (@q_ite_f.{1}))) (And.intro (And.intro (@q_ne.{1}) (@List.any_cons.{0})) (And.intro (@List.any_nil.{0}) (@if_true.{1})))) (And.intro (And.intro (And.intro (@if_false.{1}) (@true_and)) (And.intro (@and_true) (@ge_iff_le.{0}))) (And.intro (And.intro (@gt_iff_lt.{0}) (And.intro (@implies_true.{1}) (@implies_true.{0}))) (And.intro (@beq_iff_eq.{0}) (@bne_iff_ne.{0})))))
def EV0 := And.intro (And.intro (And.intro (And.intro (EV1) (And.intro (@Gm_eq) (And.intro (@Gg_eq) (And.intro (@Ki_eq) (@Zi_eq))))) (EV2)) (And.intro (EV3) (EV4))) (And.intro (And.intro (EV5) (EV6)) (And.intro (EV7) (And.intro (EV8) (EV9))))
def EVt := And.intro (@List.take_succ_cons.{0}) (And.intro (@List.take_zero.{0}) (@List.drop_zero.{0}))
end Go.D

/- Fields of 64 bits, as numbers. -/
namespace Go.D
set_option linter.all false

theorem c_div (a k : Nat) : ((a / 2 ^ k : Nat) : Int) = (a : Int) / 2 ^ k := by
  rw [Int.natCast_ediv, Int.natCast_pow]; rfl
theorem c_mul (a k : Nat) : ((a * 2 ^ k : Nat) : Int) = (a : Int) * 2 ^ k := by
  rw [Int.natCast_mul, Int.natCast_pow]; rfl
theorem c_mod (a m : Nat) : ((a % m : Nat) : Int) = (a : Int) % (m : Int) := Int.natCast_emod a m

theorem nat_and_field (w k n : Nat) : w &&& ((2 ^ n - 1) * 2 ^ k) = w / 2 ^ k % 2 ^ n * 2 ^ k := by
  apply Nat.eq_of_testBit_eq
  intro i
  rw [Nat.testBit_and, Nat.testBit_mul_two_pow, Nat.testBit_mul_two_pow, Nat.testBit_two_pow_sub_one, Nat.testBit_mod_two_pow, Nat.testBit_div_two_pow]
  by_cases h : k ≤ i
  · have e : i - k + k = i := by omega
    simp only [h, decide_true, Bool.true_and, e]
    rw [Bool.and_comm]
  · simp [h]

def clr (w k n : Nat) : Nat := 2 ^ (k + n) * (w / 2 ^ (k + n)) + w % 2 ^ k

theorem clr_testBit (w k n i : Nat) : (clr w k n).testBit i = (w.testBit i && !(decide (k ≤ i) && decide (i < k + n))) := by
  unfold clr
  have hlt : w % 2 ^ k < 2 ^ (k + n) := Nat.lt_of_lt_of_le (Nat.mod_lt _ (Nat.two_pow_pos k)) (Nat.pow_le_pow_right (by decide) (by omega))
  rw [Nat.testBit_two_pow_mul_add _ hlt, Nat.testBit_mod_two_pow, Nat.testBit_div_two_pow]
  by_cases h1 : i < k + n
  · by_cases h2 : k ≤ i
    · simp [h1, h2]; intro h; omega
    · have : i < k := by omega
      simp [h1, h2, this]
  · have h2 : k ≤ i := by omega
    have e : i - (k + n) + (k + n) = i := by omega
    simp [h1, h2, e]

theorem bits_andNot_u64 (a b : Nat) (ha : a < 18446744073709551616) (hb : b < 18446744073709551616) (r : Nat) (h : ∀ i, i < 64 → r.testBit i = (a.testBit i && !b.testBit i)) (hr : r < 18446744073709551616) : bits .andNot .u64 a b = (r : Int) := by
  simp only [bits, BitVec.ofInt_natCast]
  have : (BitVec.ofNat IntKind.u64.bits a &&& ~~~BitVec.ofNat IntKind.u64.bits b).toNat = r := by
    apply Nat.eq_of_testBit_eq
    intro i
    by_cases hi : i < 64
    · rw [BitVec.toNat_and, Nat.testBit_and, BitVec.testBit_toNat, BitVec.testBit_toNat, BitVec.getLsbD_not, h i hi]
      have h1 : (BitVec.ofNat IntKind.u64.bits a).getLsbD i = a.testBit i := by
        rw [BitVec.getLsbD_ofNat]; simp [IntKind.bits, hi]
      have h2 : (BitVec.ofNat IntKind.u64.bits b).getLsbD i = b.testBit i := by
        rw [BitVec.getLsbD_ofNat]; simp [IntKind.bits, hi]
      rw [h1, h2]
      simp [IntKind.bits, hi]
    · have h1 : r.testBit i = false := Nat.testBit_lt_two_pow (Nat.lt_of_lt_of_le hr (by
        calc 18446744073709551616 = 2 ^ 64 := by decide
          _ ≤ 2 ^ i := Nat.pow_le_pow_right (by decide) (by omega)))
      rw [h1]
      refine Nat.testBit_lt_two_pow (Nat.lt_of_lt_of_le (BitVec.isLt _) ?_)
      exact Nat.pow_le_pow_right (by decide) (by show 64 ≤ i; omega)
  rw [this]
  exact wraps_u64 _ (by omega) (by omega)

theorem pow_le64 {k n : Nat} (h : k + n ≤ 64) : 2 ^ (k + n) ≤ 18446744073709551616 := by
  calc 2 ^ (k + n) ≤ 2 ^ 64 := Nat.pow_le_pow_right (by decide) h
    _ = 18446744073709551616 := by decide

theorem mask_lt {k n : Nat} (h : k + n ≤ 64) : (2 ^ n - 1) * 2 ^ k < 18446744073709551616 := by
  have h1 := pow_le64 h
  have h2 : (2 ^ n - 1) * 2 ^ k < 2 ^ n * 2 ^ k := Nat.mul_lt_mul_of_pos_right (by have := Nat.two_pow_pos n; omega) (Nat.two_pow_pos k)
  rw [← Nat.pow_add, Nat.add_comm n k] at h2
  omega

theorem mask_testBit (k n i : Nat) : ((2 ^ n - 1) * 2 ^ k).testBit i = (decide (k ≤ i) && decide (i < k + n)) := by
  rw [Nat.testBit_mul_two_pow, Nat.testBit_two_pow_sub_one]
  by_cases h : k ≤ i
  · simp only [h, decide_true, Bool.true_and]
    congr 1
    rw [eq_iff_iff]; omega
  · simp [h]

theorem u64_mask {k n : Nat} (h : k + n ≤ 64) : IntKind.u64.wrap (18446744073709551615 / 2 ^ (64 - n) * 2 ^ k) = (((2 ^ n - 1) * 2 ^ k : Nat) : Int) := by
  have e : (18446744073709551615 : Nat) / 2 ^ (64 - n) = 2 ^ n - 1 := by
    have h1 : 2 ^ n * 2 ^ (64 - n) = 18446744073709551616 := by
      rw [← Nat.pow_add]
      have : n + (64 - n) = 64 := by omega
      rw [this]
    have hp := Nat.two_pow_pos (64 - n)
    have hn := Nat.two_pow_pos n
    apply Nat.div_eq_of_lt_le
    · rw [Nat.sub_mul, Nat.one_mul, h1]; omega
    · rw [Nat.sub_add_cancel hn, h1]; omega
  have e2 : (18446744073709551615 / 2 ^ (64 - n) * 2 ^ k : Int) = (((18446744073709551615 : Nat) / 2 ^ (64 - n) * 2 ^ k : Nat) : Int) := by
    rw [c_mul, c_div]; rfl
  rw [e2, e]
  exact wraps_u64 _ (by omega) (by have := mask_lt h; omega)

theorem u64_get {k n w : Nat} (hw : w < 18446744073709551616) (h : k + n ≤ 64) : bits .and .u64 (w : Int) (((2 ^ n - 1) * 2 ^ k : Nat) : Int) / 2 ^ k = ((w / 2 ^ k % 2 ^ n : Nat) : Int) := by
  rw [bits_and_u64_nat w _ hw (mask_lt h), nat_and_field]
  have : ((w / 2 ^ k % 2 ^ n * 2 ^ k : Nat) : Int) / 2 ^ k = ((w / 2 ^ k % 2 ^ n * 2 ^ k / 2 ^ k : Nat) : Int) := (c_div _ _).symm
  rw [this, Nat.mul_div_cancel _ (Nat.two_pow_pos k)]

theorem u64_clr {k n w : Nat} (hw : w < 18446744073709551616) (h : k + n ≤ 64) : bits .andNot .u64 (w : Int) (((2 ^ n - 1) * 2 ^ k : Nat) : Int) = ((clr w k n : Nat) : Int) := by
  refine bits_andNot_u64 w _ hw (mask_lt h) _ (fun i _ => by rw [clr_testBit, mask_testBit]) ?_
  unfold clr
  have h1 := Nat.div_add_mod w (2 ^ (k + n))
  have h2 : w % 2 ^ k ≤ w % 2 ^ (k + n) := by
    rw [Nat.pow_add, Nat.mod_mul]
    omega
  omega

theorem u64_fits {k n v : Nat} (hv : v < 18446744073709551616) (h : k + n ≤ 64) :
    (IntKind.u64.wrap ((v : Int) * 2 ^ k) / 2 ^ k = (v : Int) ∧ bits .andNot .u64 (IntKind.u64.wrap ((v : Int) * 2 ^ k)) (((2 ^ n - 1) * 2 ^ k : Nat) : Int) = 0) ↔ v < 2 ^ n := by
  have ew : IntKind.u64.wrap ((v : Int) * 2 ^ k) = ((v * 2 ^ k % 18446744073709551616 : Nat) : Int) := by
    rw [IntKind.wrap_u64, c_mod, c_mul]; rfl
  have hlt : v * 2 ^ k % 18446744073709551616 < 18446744073709551616 := Nat.mod_lt _ (by decide)
  rw [ew, u64_clr hlt h]
  have ed : ((v * 2 ^ k % 18446744073709551616 : Nat) : Int) / 2 ^ k = ((v * 2 ^ k % 18446744073709551616 / 2 ^ k : Nat) : Int) := (c_div _ _).symm
  rw [ed]
  have hk := Nat.two_pow_pos k
  have h64 := pow_le64 h
  rw [Nat.pow_add] at h64
  constructor
  · rintro ⟨h1, h2⟩
    have h1 : v * 2 ^ k % 18446744073709551616 / 2 ^ k = v := by exact_mod_cast h1
    have h2 : clr (v * 2 ^ k % 18446744073709551616) k n = 0 := by exact_mod_cast h2
    have h3 : v * 2 ^ k < 18446744073709551616 := by
      rcases Nat.lt_or_ge (v * 2 ^ k) 18446744073709551616 with h | h
      · exact h
      · have h4 : v * 2 ^ k % 18446744073709551616 < v * 2 ^ k := Nat.lt_of_lt_of_le (Nat.mod_lt _ (by decide)) h
        have := (Nat.div_lt_iff_lt_mul hk).2 h4
        omega
    rw [Nat.mod_eq_of_lt h3] at h2
    unfold clr at h2
    have h5 : 2 ^ (k + n) * (v * 2 ^ k / 2 ^ (k + n)) = 0 := by omega
    have h6 : v * 2 ^ k / 2 ^ (k + n) = 0 := by
      rcases Nat.mul_eq_zero.1 h5 with h | h
      · exact absurd h (Nat.pos_iff_ne_zero.1 (Nat.two_pow_pos _))
      · exact h
    have h7 : v * 2 ^ k < 2 ^ (k + n) := by
      rcases Nat.div_eq_zero_iff.1 h6 with h | h
      · exact absurd h (Nat.pos_iff_ne_zero.1 (Nat.two_pow_pos _))
      · exact h
    rw [Nat.add_comm k n, Nat.pow_add] at h7
    exact Nat.lt_of_mul_lt_mul_right h7
  · intro hvn
    have h3 : v * 2 ^ k < 2 ^ k * 2 ^ n := by
      rw [Nat.mul_comm (2 ^ k)]; exact Nat.mul_lt_mul_of_pos_right hvn hk
    have h4 : v * 2 ^ k < 18446744073709551616 := by omega
    rw [Nat.mod_eq_of_lt h4, Nat.mul_div_cancel _ hk]
    refine ⟨rfl, ?_⟩
    unfold clr
    rw [← Nat.pow_add] at h3
    rw [Nat.div_eq_of_lt h3, Nat.mul_mod_left]; rfl

theorem u64_set {k n v w : Nat} (hw : w < 18446744073709551616) (hv : v < 2 ^ n) (h : k + n ≤ 64) :
    bits .or .u64 (bits .andNot .u64 (w : Int) (((2 ^ n - 1) * 2 ^ k : Nat) : Int)) (IntKind.u64.wrap ((v : Int) * 2 ^ k)) = ((2 ^ (k + n) * (w / 2 ^ (k + n)) + (2 ^ k * v + w % 2 ^ k) : Nat) : Int) := by
  have hk := Nat.two_pow_pos k
  have h64 := pow_le64 h
  have h3 : 2 ^ k * v < 2 ^ (k + n) := by
    rw [Nat.pow_add]; exact Nat.mul_lt_mul_of_pos_left hv hk
  have hr : w % 2 ^ k < 2 ^ k := Nat.mod_lt _ hk
  have ew : IntKind.u64.wrap ((v : Int) * 2 ^ k) = ((2 ^ k * v : Nat) : Int) := by
    rw [Nat.mul_comm, ← c_mul]
    exact wraps_u64 _ (by omega) (by have : v * 2 ^ k = 2 ^ k * v := Nat.mul_comm _ _; omega)
  have hc : clr w k n < 18446744073709551616 := by
    unfold clr
    have h1 := Nat.div_add_mod w (2 ^ (k + n))
    have h2 : w % 2 ^ k ≤ w % 2 ^ (k + n) := by
      rw [Nat.pow_add, Nat.mod_mul]
      omega
    omega
  have hin : 2 ^ k * v + w % 2 ^ k < 2 ^ (k + n) := by
    have : 2 ^ k * (v + 1) ≤ 2 ^ k * 2 ^ n := Nat.mul_le_mul_left _ hv
    rw [← Nat.pow_add, Nat.mul_add] at this
    omega
  rw [u64_clr hw h, ew, bits_or_u64_nat _ _ hc (by omega)]
  congr 1
  apply Nat.eq_of_testBit_eq
  intro i
  rw [Nat.testBit_or, clr_testBit, Nat.testBit_two_pow_mul_add _ hin, Nat.testBit_two_pow_mul_add _ hr, Nat.testBit_mod_two_pow, Nat.testBit_div_two_pow]
  have e : (2 ^ k * v).testBit i = (decide (k ≤ i) && v.testBit (i - k)) := by
    rw [Nat.mul_comm, Nat.testBit_mul_two_pow]
  rw [e]
  by_cases h1 : i < k + n
  · by_cases h2 : k ≤ i
    · have : ¬ i < k := by omega
      simp [h1, h2, this]
    · have : i < k := by omega
      simp [h1, h2, this]
  · have h2 : k ≤ i := by omega
    have e2 : i - (k + n) + (k + n) = i := by omega
    have e3 : v.testBit (i - k) = false := Nat.testBit_lt_two_pow (Nat.lt_of_lt_of_le hv (Nat.pow_le_pow_right (by decide) (by omega)))
    simp [h1, h2, e2, e3]

end Go.D

/- Words: plain facts. -/
namespace Go.Proofs.Ytpmobbehdpgnbaa
open Go.D
set_option linter.all false
set_option maxRecDepth 100000
set_option maxHeartbeats 4000000

theorem idx {i n : Nat} (h : i < n) (hn : n ≤ 9223372036854775807) : ((i : Int) < (n : Int)) ∧ ((0 : Int) ≤ i) ∧ ¬ ((i : Int) < 0) ∧ IntKind.i64.wrap ((i : Int) + 1) = ((i + 1 : Nat) : Int) := by
  refine ⟨by omega, by omega, by omega, ?_⟩
  rw [wrap64] <;> omega

def u64 (w : Int) : Prop := 0 ≤ w ∧ w < 18446744073709551616
theorem u64.nat {w : Int} (h : u64 w) : ∃ n : Nat, w = n ∧ n < 18446744073709551616 := ⟨w.toNat, by have := h.1; omega, by have := h.1; have := h.2; omega⟩
theorem u64_of {n : Nat} (h : n < 18446744073709551616) : u64 n := ⟨by omega, by omega⟩

theorem wrapu {n : Int} (h0 : 0 ≤ n) (h1 : n < 18446744073709551616) : IntKind.u64.wrap n = n := by
  show n % 18446744073709551616 = n
  omega


def uw (x : Int) : Int := x % 18446744073709551616
theorem uw_u (x : Int) : u64 (uw x) := by simp only [u64, uw]; omega
theorem uw_of {x : Int} (h : u64 x) : uw x = x := by simp only [u64, uw] at *; omega
theorem u64_0 : u64 0 := by simp only [u64]; omega

structure M where
  w : List Int
  n : Int
  u : ∀ x, x ∈ w → u64 x
  l : w.length ≤ 65536
theorem M.ext' {m k : M} (h1 : m.w = k.w) (h2 : m.n = k.n) : m = k := by
  cases m; cases k; simp only at h1 h2; subst h1; subst h2; rfl

def wc (w : List Int) : List S := w.map (S.i .u64)
theorem wc_len (w : List Int) : (wc w).length = w.length := by simp [wc]
theorem wc_get {w : List Int} {i : Nat} (h : i < w.length) : (wc w)[i]? = some (.i .u64 (nth 0 w i)) := by
  simp only [wc, List.getElem?_map, nth_get (d := 0) h, Option.map_some]
theorem wc_set (w : List Int) (i : Nat) (x : Int) : (wc w).set i (.i .u64 x) = wc (w.set i x) := by simp [wc, List.map_set]
theorem wc_all {p : S → Bool} (hp : ∀ x, p (.i .u64 x) = true) (w : List Int) : (wc w).all p = true := by simp [wc, hp]
theorem wc_known (w : List Int) : known (wc w) = true := by unfold known; exact wc_all (fun _ => rfl) w
theorem wc_vals (n k : Nat) (w : List Int) : vals n k (wc w) = true := by unfold vals; exact wc_all (fun _ => rfl) w
theorem wc_takes (r : R) (n k : Nat) (w : List Int) : (wc w).all (r.takes n k) = true := wc_all (fun _ => by cases r <;> rfl) w
theorem wc_kept (k : List Nat) (w : List Int) : (wc w).all (S.kept k) = true := wc_all (fun _ => rfl) w
theorem wc_sub (w : List Int) (a k : Nat) : sub (wc w) a k = wc ((w.drop a).take k) := by simp [wc, sub, List.map_take, List.map_drop]
theorem wc_cons (x : Int) (w : List Int) : wc (x :: w) = .i .u64 x :: wc w := rfl
theorem wc_inj {v w : List Int} (h : wc v = wc w) : v = w := by
  induction v generalizing w with
  | nil => cases w with
    | nil => rfl
    | cons y w => simp [wc] at h
  | cons x v ih => cases w with
    | nil => simp [wc] at h
    | cons y w =>
      simp only [wc, List.map_cons, List.cons.injEq, S.i.injEq, true_and] at h
      rw [h.1, ih h.2]
theorem wc_ren (ρ : R → R) (w : List Int) : (wc w).map (S.ren ρ) = wc w := by simp [wc, Function.comp_def, S.ren]
theorem wc_zeros (n : Nat) : zeros [.i .u64 0] n = wc (List.replicate n 0) := by
  induction n with
  | zero => rfl
  | succ n ih => simp only [zeros, ih, List.replicate_succ, wc_cons, List.cons_append, List.nil_append]
theorem wc_map (w : List Int) : w.map (S.i .u64) = wc w := rfl

def M.at (m : M) (i : Int) : Int := nth 0 m.w i.toNat
theorem nth_mem {α : Type} {d : α} {l : List α} {i : Nat} (h : i < l.length) : nth d l i ∈ l := by rw [nth_eq h]; exact List.getElem_mem h
theorem nth_out {α : Type} {d : α} : ∀ {l : List α} {i : Nat}, l.length ≤ i → nth d l i = d
  | [], _, _ => rfl
  | _ :: _, 0, h => by simp at h
  | _ :: l, i + 1, h => nth_out (l := l) (by simpa using h)
theorem M.at_u (m : M) (i : Int) : u64 (m.at i) := by
  unfold M.at
  rcases Nat.lt_or_ge i.toNat m.w.length with h | h
  · exact m.u _ (nth_mem h)
  · rw [nth_out h]; exact u64_0

def M.put (m : M) (i : Nat) (x : Int) : M := ⟨m.w.set i (uw x), m.n, fun y hy => by
  rcases List.mem_or_eq_of_mem_set hy with h | h
  · exact m.u y h
  · subst h; exact uw_u x, by simpa using m.l⟩
def M.tick (m : M) (k : Int) : M := ⟨m.w, IntKind.i64.wrap (m.n + k), m.u, m.l⟩
def M.fill (m : M) (a : Nat) (x : Int) : Nat → M
  | 0 => m
  | k + 1 => (M.fill m a x k).put (a + k) x
def M.lay (m : M) (o : Nat) : List Int → M
  | [] => m
  | v :: vs => M.lay (m.put o v) (o + 1) vs
def M.has (m : M) (a k : Int) : Bool := decide (0 ≤ a ∧ 0 ≤ k ∧ a ≤ m.w.length ∧ k ≤ m.w.length - a)
theorem M.has_iff {m : M} {a k : Int} : m.has a k = true ↔ 0 ≤ a ∧ 0 ≤ k ∧ a ≤ m.w.length ∧ k ≤ m.w.length - a := by simp [M.has]
theorem M.has_nat {m : M} {a k : Int} (h : m.has a k = true) : ∃ i j : Nat, a = i ∧ k = j ∧ i + j ≤ m.w.length := by
  rw [M.has_iff] at h
  exact ⟨a.toNat, k.toNat, by omega, by omega, by omega⟩
theorem M.has_not {m : M} {a k : Int} (h : m.has a k = false) : ¬ (0 ≤ a ∧ 0 ≤ k ∧ a ≤ m.w.length ∧ k ≤ m.w.length - a) := by simpa [M.has] using h

theorem M.put_len (m : M) (i : Nat) (x : Int) : (m.put i x).w.length = m.w.length := by simp [M.put]
theorem M.tick_len (m : M) (k : Int) : (m.tick k).w.length = m.w.length := rfl
theorem M.fill_len (m : M) (a : Nat) (x : Int) : ∀ k, (m.fill a x k).w.length = m.w.length
  | 0 => rfl
  | k + 1 => by rw [M.fill, M.put_len, M.fill_len m a x k]
theorem M.lay_len : ∀ (vs : List Int) (m : M) (o : Nat), (m.lay o vs).w.length = m.w.length
  | [], _, _ => rfl
  | v :: vs, m, o => by rw [M.lay, M.lay_len vs, M.put_len]
theorem M.put_has (m : M) (i : Nat) (x a k : Int) : (m.put i x).has a k = m.has a k := by simp only [M.has, M.put_len]
theorem M.tick_has (m : M) (j a k : Int) : (m.tick j).has a k = m.has a k := rfl
theorem M.put_n (m : M) (i : Nat) (x : Int) : (m.put i x).n = m.n := rfl
theorem M.fill_n (m : M) (a : Nat) (x : Int) : ∀ k, (m.fill a x k).n = m.n
  | 0 => rfl
  | k + 1 => by rw [M.fill, M.put_n, M.fill_n m a x k]
theorem M.lay_n : ∀ (vs : List Int) (m : M) (o : Nat), (m.lay o vs).n = m.n
  | [], _, _ => rfl
  | v :: vs, m, o => by rw [M.lay, M.lay_n vs, M.put_n]
theorem M.lay_w : ∀ (vs : List Int) (m : M) (o : Nat), (∀ x, x ∈ vs → u64 x) → D.put (wc m.w) o (wc vs) = wc (m.lay o vs).w
  | [], _, _, _ => rfl
  | v :: vs, m, o, hu => by
    simp only [wc_cons, M.lay]
    rw [show D.put (wc m.w) o (S.i .u64 v :: wc vs) = D.put ((wc m.w).set o (.i .u64 v)) (o + 1) (wc vs) from rfl]
    rw [wc_set, show v = uw v from (uw_of (hu v (by simp))).symm]
    rw [show m.w.set o (uw v) = (m.put o v).w from rfl, M.lay_w vs (m.put o v) (o + 1) (fun x hx => hu x (by simp [hx]))]
    rw [← show v = uw v from (uw_of (hu v (by simp))).symm]

/-! ### among the blocks -/
def MB (b : Nat) (m : M) : Blk := ⟨.rw, [.sl (.g b) 0 m.w.length m.w.length, .i .i64 m.n], 2⟩
def MW (m : M) : Blk := ⟨.rw, wc m.w, m.w.length⟩
structure IsMem (h : List Blk) (a b : Nat) (m : M) : Prop where
  ne : a ≠ b
  ha : h[a]? = some (MB b m)
  hb : h[b]? = some (MW m)
def setM (h : List Blk) (a b : Nat) (m : M) : List Blk := (h.set a (MB b m)).set b (MW m)

theorem IsMem.lta {h : List Blk} {a b : Nat} {m : M} (H : IsMem h a b m) : a < h.length := (List.getElem?_eq_some_iff.1 H.ha).1
theorem IsMem.ltb {h : List Blk} {a b : Nat} {m : M} (H : IsMem h a b m) : b < h.length := (List.getElem?_eq_some_iff.1 H.hb).1
theorem setM_len {h : List Blk} {a b : Nat} {m : M} : (setM h a b m).length = h.length := by simp [setM]
theorem IsMem.set {h : List Blk} {a b : Nat} {m : M} (H : IsMem h a b m) (m' : M) : IsMem (setM h a b m') a b m' := by
  refine ⟨H.ne, ?_, ?_⟩
  · simp only [setM]
    rw [List.getElem?_set_ne (Ne.symm H.ne), List.getElem?_set_self H.lta]
  · simp only [setM]
    rw [List.getElem?_set_self (by simpa using H.ltb)]
theorem setM_set {h : List Blk} {a b : Nat} {m m' : M} (ne : a ≠ b) : setM (setM h a b m) a b m' = setM h a b m' := by
  simp only [setM]
  rw [List.set_comm _ _ ne, List.set_set, List.set_comm _ _ ne, List.set_set, List.set_comm _ _ (Ne.symm ne)]
theorem setM_self {h : List Blk} {a b : Nat} {m : M} (H : IsMem h a b m) : setM h a b m = h := by
  simp only [setM]
  rw [set_self H.ha, set_self H.hb]
theorem setM_fun {h : List Blk} {a b : Nat} {m m0 : M} (H : IsMem h a b m0) : setM (setM h a b m) a b = setM h a b := funext fun m' => setM_set H.ne
theorem IsMem.app {h X : List Blk} {a b : Nat} {m : M} (H : IsMem h a b m) : IsMem (h ++ X) a b m :=
  ⟨H.ne, by rw [List.getElem?_append_left H.lta]; exact H.ha, by rw [List.getElem?_append_left H.ltb]; exact H.hb⟩
theorem setM_app {h X : List Blk} {a b : Nat} {m m' : M} (H : IsMem h a b m) : setM (h ++ X) a b m' = setM h a b m' ++ X := by
  simp only [setM]
  rw [app_setl H.lta, app_setl (by simpa using H.ltb)]
theorem setM_words {h : List Blk} {a b : Nat} {m m' : M} (H : IsMem h a b m) (hl : m'.w.length = m.w.length) (hn : m'.n = m.n) : h.set b (MW m') = setM h a b m' := by
  simp only [setM]
  rw [show MB b m' = MB b m by simp only [MB, hl, hn], set_self H.ha]
theorem setM_steps {h : List Blk} {a b : Nat} {m m' : M} (H : IsMem h a b m) (hw : m'.w = m.w) : h.set a (MB b m') = setM h a b m' := by
  simp only [setM]
  rw [List.set_comm _ _ H.ne, show MW m' = MW m by simp only [MW, hw], set_self H.hb]
theorem IsMem.uniq {h : List Blk} {a b b' : Nat} {m m' : M} (H : IsMem h a b m) (H' : IsMem h a b' m') : b = b' ∧ m = m' := by
  have h1 := H.ha.symm.trans H'.ha
  simp only [MB, Option.some.injEq, Blk.mk.injEq, List.cons.injEq, S.sl.injEq, R.g.injEq, S.i.injEq, true_and, and_true] at h1
  obtain ⟨⟨e, _, _⟩, e2⟩ := h1
  subst e
  have h2 := H.hb.symm.trans H'.hb
  simp only [MW, Option.some.injEq, Blk.mk.injEq, true_and] at h2
  exact ⟨rfl, M.ext' (wc_inj h2.1) e2⟩
theorem setM_clean {h : List Blk} {a b : Nat} {m m0 : M} {n : Nat} (H : IsMem h a b m0) (hc : clean n h = true) (hn : b < n) : clean n (setM h a b m) = true := by
  refine clean_set (clean_set hc ?_) (wc_vals _ _ _)
  simp [MB, vals, S.val, R.val, hn]

open Classical in
noncomputable def memOf (h : List Blk) (a : Nat) : Option (Nat × M) := if hx : ∃ x : Nat × M, IsMem h a x.1 x.2 then some (Classical.choose hx) else none
theorem memOf_eq {h : List Blk} {a b : Nat} {m : M} (H : IsMem h a b m) : memOf h a = some (b, m) := by
  have hx : ∃ x : Nat × M, IsMem h a x.1 x.2 := ⟨(b, m), H⟩
  unfold memOf
  rw [dif_pos hx]
  have := IsMem.uniq (Classical.choose_spec hx) H
  rw [show Classical.choose hx = (b, m) from Prod.ext this.1 this.2]
theorem memOf_some {h : List Blk} {a b : Nat} {m : M} (e : memOf h a = some (b, m)) : IsMem h a b m := by
  unfold memOf at e
  split at e
  · rename_i hx
    have := Classical.choose_spec hx
    rw [Option.some.injEq] at e
    rw [e] at this
    exact this
  · cases e

noncomputable def memF (f : Nat → M → (M → List Blk) → List V → Res) : List V → List Blk → Res
  | .s (.p (.g a) 0) :: rest, h => match memOf h a with
    | some (b, m) => f b m (setM h a b) rest
    | none => .bad
  | _, _ => .bad
theorem memF_spec {f : Nat → M → (M → List Blk) → List V → Res} {args : List V} {h : List Blk} {K : V → List Blk → Prop} (hS : (memF f args h).spec K) :
    ∃ a b m rest, args = .s (.p (.g a) 0) :: rest ∧ IsMem h a b m ∧ (f b m (setM h a b) rest).spec K := by
  unfold memF at hS
  split at hS
  · split at hS
    · rename_i e
      exact ⟨_, _, _, _, rfl, memOf_some e, hS⟩
    · exact hS.elim
  · exact hS.elim
theorem memF_eq {f : Nat → M → (M → List Blk) → List V → Res} {h : List Blk} {a b : Nat} {m : M} {rest : List V} (H : IsMem h a b m) : memF f (.s (.p (.g a) 0) :: rest) h = f b m (setM h a b) rest := by
  simp only [memF, memOf_eq H]
theorem memF_set {f : Nat → M → (M → List Blk) → List V → Res} {h : List Blk} {a b : Nat} {m m' : M} {rest : List V} (H : IsMem h a b m) : memF f (.s (.p (.g a) 0) :: rest) (setM h a b m') = f b m' (setM h a b) rest := by
  rw [memF_eq (H.set m'), setM_fun H]
theorem memF_app {f : Nat → M → (M → List Blk) → List V → Res} {h X : List Blk} {a b : Nat} {m m' : M} {rest : List V} (H : IsMem h a b m) : memF f (.s (.p (.g a) 0) :: rest) (setM h a b m' ++ X) = f b m' (fun m => setM h a b m ++ X) rest := by
  rw [memF_eq ((H.set m').app), show setM (setM h a b m' ++ X) a b = fun m => setM h a b m ++ X from funext fun k => by rw [setM_app (H.set m'), setM_set H.ne]]
theorem memF_app0 {f : Nat → M → (M → List Blk) → List V → Res} {h X : List Blk} {a b : Nat} {m : M} {rest : List V} (H : IsMem h a b m) : memF f (.s (.p (.g a) 0) :: rest) (h ++ X) = f b m (fun m => setM h a b m ++ X) rest := by
  rw [memF_eq H.app, show setM (h ++ X) a b = fun m => setM h a b m ++ X from funext fun k => by rw [setM_app H]]

/-! ### new memories -/
def memH (h : List Blk) (m : M) : List Blk := h ++ [MB (h.length + 1) m, MW m]
theorem memH_len {h : List Blk} {m : M} : (memH h m).length = h.length + 2 := by simp [memH]
theorem memH_is (h : List Blk) (m : M) : IsMem (memH h m) h.length (h.length + 1) m := by
  refine ⟨by omega, ?_, ?_⟩
  · simp only [memH]; rw [app_get0]; rfl
  · simp only [memH]; rw [app_getn]; rfl
theorem memH_set (h : List Blk) (m m' : M) : setM (memH h m) h.length (h.length + 1) m' = memH h m' := by
  simp only [memH, setM]
  rw [app_set0, app_setn]; rfl
theorem memH_fun (h : List Blk) (m : M) : setM (memH h m) h.length (h.length + 1) = memH h := funext (memH_set h m)
theorem memF_new {f : Nat → M → (M → List Blk) → List V → Res} {h : List Blk} {m : M} {rest : List V} : memF f (.s (.p (.g h.length) 0) :: rest) (memH h m) = f (h.length + 1) m (memH h) rest := by
  rw [memF_eq (memH_is h m), memH_fun]
theorem memH_is1 (h : List Blk) (m k : M) : IsMem (memH (memH h m) k) h.length (h.length + 1) m := (memH_is h m).app
theorem memH_is2 (h : List Blk) (m k : M) : IsMem (memH (memH h m) k) (h.length + 2) (h.length + 3) k := by
  have := memH_is (memH h m) k
  rw [memH_len] at this
  exact this
theorem memH_set2 (h : List Blk) (m k m' : M) : setM (memH (memH h m) k) (h.length + 2) (h.length + 3) m' = memH (memH h m) m' := by
  have := memH_set (memH h m) k m'
  rw [memH_len] at this
  exact this
end Go.Proofs.Ytpmobbehdpgnbaa

