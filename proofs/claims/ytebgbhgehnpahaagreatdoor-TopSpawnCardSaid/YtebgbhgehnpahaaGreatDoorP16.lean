/- A part of the proof of the claim that the last text of this folder states. -/
import Derived.Test.YtebgbhgehnpahaaGreatDoorProg
import Derived.WalkKit
import Derived.LoopN
import Derived.WalkSpells
import Derived.WalkLawsBesides
import Derived.Test.YtebgbhgehnpahaaGreatDoorP13
namespace Go.E
open Go.RowKit Go.Proofs
set_option linter.all false
theorem read_any (b o q p i : Nat) (n cap : Nat) (k x : Int) (w : World) (h0 : w.cell? ⟨b, o, none⟩ = some (.slice (some ⟨q, p, none⟩) n cap)) (h1 : w.cell? ⟨b, o + 1, none⟩ = some (.int .i64 k)) (hf : w.frozen? ⟨b, o + 1, none⟩ = false)
    (hx : w.cell? ⟨q, p + i, none⟩ = some (.int .u64 x)) (hne : b ≠ q) (hi : i < n) (hn : n < 9223372036854775808) (hc : n ≤ cap) :
    Calls Tryz.prog 33 #[.pointer (some ⟨b, o, none⟩), .int .i64 (i : Int)] w fun e w' => e = .returned (.tuple #[.int .u64 x, .int .i64 0]) ∧ w' = w.setCell ⟨b, o + 1, none⟩ (.int .i64 (wrap64 (k + 1))) := by
  go_enter Tryz.func33, Tryz.ntmps33
  go_wp2
  go_ret2
  exact ⟨rfl, rfl⟩
theorem write_any (b o q p i : Nat) (n cap : Nat) (k x y : Int) (w : World) (h0 : w.cell? ⟨b, o, none⟩ = some (.slice (some ⟨q, p, none⟩) n cap)) (h1 : w.cell? ⟨b, o + 1, none⟩ = some (.int .i64 k)) (hf : w.frozen? ⟨b, o + 1, none⟩ = false)
    (hx : w.cell? ⟨q, p + i, none⟩ = some (.int .u64 y)) (hxf : w.frozen? ⟨q, p + i, none⟩ = false) (hne : b ≠ q) (hi : i < n) (hn : n < 9223372036854775808) (hc : n ≤ cap) :
    Calls Tryz.prog 100 #[.pointer (some ⟨b, o, none⟩), .int .i64 (i : Int), .int .u64 x] w fun e w' => e = .returned (.int .i64 0) ∧ w' = (w.setCell ⟨q, p + i, none⟩ (.int .u64 x)).setCell ⟨b, o + 1, none⟩ (.int .i64 (wrap64 (k + 1))) := by
  go_enter Tryz.func100, Tryz.ntmps100
  go_wp2
  refine wp_loop_rounds 2 ?_
  rw [rounds_succ]
  go_wp2
  rw [rounds_succ]
  go_wp2
  go_ret
  exact ⟨rfl, rfl⟩
section
variable {κ : KP}
theorem fn33 : FnOk Tryz.prog 33 := ⟨Tryz.f33, Tryz.func33, rfl, by kernel_rfl⟩
theorem fn100 : FnOk Tryz.prog 100 := ⟨Tryz.f100, Tryz.func100, rfl, by kernel_rfl⟩
theorem nRead_ok {Y : Lay} : NfOk Y Tryz.prog κ 33 nRead := fun args h z hz e w xs hκ hR hG hf hx => by
  obtain ⟨x, a, r, q, i, m, D, d, p, n, k, ha, G, rfl⟩ := nRead_some hz
  subst ha
  simp only [List.all_cons, List.all_nil, Bool.and_eq_true] at hf
  obtain ⟨hr, hq⟩ := G.rq hR hf.1
  obtain ⟨g1, ⟨s, g2⟩, g3, g4, g5, g6, g7⟩ := G.out hR hr hq
  have han := G.an; have hnk := G.nk; have hkG := G.kG; have hi := G.hi
  obtain ⟨x', y', rfl, hx1, hx2⟩ := iss2 hx
  have ex := isu_eq hx1 (by rw [G.hx]; simp) (by rw [G.hx]; rfl)
  have ey := isu_eq hx2 (by simp) (kn_word (by omega))
  have ey : y' = .int .i64 (a : Int) := by rw [ey]; show Value.int .i64 (vl e (.ofNat a)) = _; rw [vl_nat (by omega)]
  rw [G.hx] at ex
  subst ex ey
  refine ⟨fn33, ?_⟩
  have R := read_any (e.σ r).1 ((e.σ r).2 + 0) (e.σ q).1 ((e.σ q).2 + p) a n k s (vl e (wg d i)) w g1 g2 g3 (by rw [Nat.add_assoc, ← hi]; exact g4) g6 han (by omega) hnk
  refine R.mono ?_
  rintro en w' ⟨rfl, rfl⟩
  refine ⟨_, rfl, e, cu_step hR hr G.hr _, rfl, .inr (.inl rfl), ?_⟩
  show (V.tup [.s (.i .u64 (wg d i)), .s (.i .i64 0)]).rf _ = true
  simp only [V.rf, List.all_cons, List.all_nil, C.rf, S.rf, g7, Bool.true_and, Bool.and_true]; rfl
theorem nWrite_ok {Y : Lay} : NfOk Y Tryz.prog κ 100 nWrite := fun args h z hz e w xs hκ hR hG hf hx => by
  obtain ⟨x, a, n0, r, q, i, m, D, d, p, n, k, ha, h7, G, rfl⟩ := nWrite_some hz
  subst ha
  simp only [List.all_cons, List.all_nil, Bool.and_eq_true] at hf
  obtain ⟨hr, hq⟩ := G.rq hR hf.1
  obtain ⟨g1, ⟨s, g2⟩, g3, g4, g5, g6, g7⟩ := G.out hR hr hq
  have han := G.an; have hnk := G.nk; have hkG := G.kG; have hi := G.hi
  obtain ⟨x', y', v', rfl, hx1, hx2, hx3⟩ := iss3 hx
  have ex := isu_eq hx1 (by rw [G.hx]; simp) (by rw [G.hx]; rfl)
  have ey := isu_eq hx2 (by simp) (kn_word (by omega))
  have ey : y' = .int .i64 (a : Int) := by rw [ey]; show Value.int .i64 (vl e (.ofNat a)) = _; rw [vl_nat (by omega)]
  have ev := isu_eq hx3 (by simp) h7
  rw [G.hx] at ex
  subst ex ey ev
  refine ⟨fn100, ?_⟩
  have R := write_any (e.σ r).1 ((e.σ r).2 + 0) (e.σ q).1 ((e.σ q).2 + p) a n k s (vl e n0) (vl e (wg d i)) w g1 g2 g3 (by rw [Nat.add_assoc, ← hi]; exact g4) (by rw [Nat.add_assoc, ← hi]; exact g5) g6 han (by omega) hnk
  refine R.mono ?_
  rintro en w' ⟨rfl, rfl⟩
  rw [Nat.add_assoc, ← hi]
  have hrq : r ≠ q := fun c => g6 (by rw [c])
  have S1 := w_step hR hq G.hq G.im h7
  have S2 := cu_step S1.rel (q := r) (s := .sl q p n k) hr (by rw [Hp.at_set, if_neg hrq]; exact G.hr) (wrap64 (s + 1))
  exact ⟨_, rfl, e, S1.trans S2, rfl, .inr (.inl rfl), rfl⟩
end
open Go.RowKit Go.Proofs
set_option linter.all false
noncomputable def wlkF (i : Nat) (o : List (Nat × Int)) : Option Int := List.rec none (fun x _ ih => Prod.rec (fun j y => Bool.rec ih (some y) (Nat.beq i j)) x) o
theorem wlkF_eq (i : Nat) : ∀ o, wlkF i o = wlk o i
  | [] => rfl
  | (j, y) :: o => by
    show (Bool.rec (wlkF i o) (some y) (Nat.beq i j) : Option Int) = _
    simp only [wlk]
    by_cases h : i = j
    · subst h; rw [if_pos rfl, Nat.beq_refl i]
    · rw [if_neg h, ← wlkF_eq i o]
      cases c : Nat.beq i j with
      | false => rfl
      | true => exact absurd (Nat.eq_of_beq_eq_true c) h
theorem wrm_none {i : Nat} : ∀ {o : List (Nat × Int)}, wlk o i = none → wrm o i = o
  | [], _ => rfl
  | (j, y) :: o, h => by
    simp only [wlk] at h
    simp only [wrm]
    by_cases c : i = j
    · rw [if_pos c] at h; cases h
    · rw [if_neg c] at h ⊢; rw [wrm_none h]
noncomputable def wgQ (t : Wt) (i : Nat) : Int := Wt.rec (fun m o => Option.rec (.ofNat (Nat.mod (Nat.shiftRight m (Nat.mul 64 i)) 18446744073709551616)) (fun x => x) (wlkF i o)) t
theorem wgQ_eq (t : Wt) (i : Nat) : wgQ t i = wg t i := by
  obtain ⟨m, o⟩ := t
  show (Option.rec _ (fun x => x) (wlkF i o) : Int) = _
  rw [wlkF_eq]
  simp only [wg]
  cases wlk o i <;> rfl
noncomputable def wsQ {β : Type} (t : Wt) (i : Nat) (x : Int) (k : Wt → Option β) : Option β := Wt.casesOn t fun m o => Int.casesOn x
  (fun n => Bool.casesOn (Nat.blt n 18446744073709551616) (k (.mk (wput m i 0) (wins o i (.ofNat n)))) (Option.rec (k (.mk (Nat.xor m (Nat.shiftLeft (Nat.xor n (Nat.mod (Nat.shiftRight m (Nat.mul 64 i)) 18446744073709551616)) (Nat.mul 64 i))) o)) (fun _ => k (.mk (wput m i n) (wrm o i))) (wlkF i o)))
  fun n => k (.mk (wput m i 0) (wins o i (.negSucc n)))
theorem wsQ_eq {β : Type} (t : Wt) (i : Nat) (x : Int) (k : Wt → Option β) : wsQ t i x k = k (wst t i x) := by
  obtain ⟨m, o⟩ := t
  cases x with
  | negSucc n => rfl
  | ofNat n =>
    simp only [wst]
    show (Bool.rec _ _ (Nat.blt n 18446744073709551616) : Option β) = _
    cases c : Nat.blt n 18446744073709551616 with
    | false => rw [if_neg (by intro h; rw [← Nat.blt_eq] at h; rw [c] at h; cases h)]
    | true =>
      rw [if_pos (by simpa [Nat.blt_eq] using c)]
      show (Option.rec _ _ (wlkF i o) : Option β) = _
      rw [wlkF_eq]
      cases h : wlk o i with
      | some _ => rfl
      | none => rw [wrm_none h]; rfl
noncomputable def nReadQ : NF := fun args h => List.casesOn args none fun x args => List.casesOn args none fun y args => List.casesOn args (asI y fun kd a => Int.casesOn a
    (fun a => onB (kEq kd .i64) (memG h x a fun _ _ i _ _ d => fI (wgQ d i) fun n => some (.tup [.s (.i .u64 n), .s (.i .i64 0)], h)) none) fun _ => none) fun _ _ => none
noncomputable def nWriteQ : NF := fun args h => List.casesOn args none fun x args => List.casesOn args none fun y args => List.casesOn args none fun z args => List.casesOn args (asI y fun kd a => Int.casesOn a
    (fun a => onB (kEq kd .i64) (asI z fun kz n => onB (kEq kz .u64) (onB (kn n) (memG h x a fun _ q i m D d => wsQ d i n fun d => h.setK q (.w .u64 m D d) fun h => some (.s (.i .i64 0), h)) none) none) none) fun _ => none) fun _ _ => none
theorem nReadQ_eq : nReadQ = nRead := by
  unfold nReadQ nRead
  simp only [wgQ_eq, wgF_eq]
theorem nWriteQ_eq : nWriteQ = nWrite := by
  unfold nWriteQ nWrite
  simp only [wsQ_eq, wsK_eq]
theorem nReadQ_ok {Y : Lay} {κ : KP} : NfOk Y Tryz.prog κ 33 nReadQ := by rw [nReadQ_eq]; exact nRead_ok
theorem nWriteQ_ok {Y : Lay} {κ : KP} : NfOk Y Tryz.prog κ 100 nWriteQ := by rw [nWriteQ_eq]; exact nWrite_ok
noncomputable def zr (n : Nat) (l : List S) : List S := Nat.rec l (fun _ ih => .i .u64 0 :: ih) n
noncomputable def rl (l : List (Nat × List S)) : List S := List.rec [] (fun x _ ih => Prod.rec (fun n c => zr n (c ++ ih)) x) l
noncomputable def bI (q : Bool) (x y : Int) : Int := Bool.rec y x q
noncomputable def fitI (n r : Nat) : Int := bI (Nat.blt r 18446744073709551616) (.ofNat r) (.ofNat n)
noncomputable def wJ (n : Nat) : Nat := Nat.mod (Nat.div n 5846006549323611672814739330865132078623730171904) 256
noncomputable def wI (n : Nat) : Nat := Nat.mod (Nat.div n 18446744073709551616) 4294967296
noncomputable def wKd (n : Nat) : Nat := Nat.mod (Nat.div n 79228162514264337593543950336) 4
noncomputable def wB2 (n : Nat) : Nat := sC (Nat.div n 316912650057057350374175801344)
noncomputable def subQ (j c n : Nat) : Int := bI (and (Nat.beq (wJ n) j) (Nat.blt n unkN))
  (bI (Nat.beq (wKd n) 0) (bI (Nat.beq c (wI n)) (.ofNat (sC n)) (.ofNat (wB2 n)))
    (bI (Nat.beq (wKd n) 1) (bI (Nat.beq c (wI n)) (.ofNat (Nat.add symN (sC n))) (.ofNat (wB2 n))) (fitI n (Nat.add (wB2 n) (Nat.pow 2 c))))) (.ofNat n)
noncomputable def subG (j c n : Nat) : Int := bI (Nat.blt n symN) (bI (Nat.beq (sJ n) j) (fitI n (Nat.sub (Nat.add (sC n) (Nat.mul c (Nat.pow 2 (sQ n)))) (sM n))) (.ofNat n)) (bI (Nat.ble q2N n) (subQ j c n) (.ofNat n))
noncomputable def subN (j c : Nat) (n : Int) : Int := Int.rec (fun n => bI (Nat.blt n 18446744073709551616) (.ofNat n) (subG j c n)) (fun n => .negSucc n) n
theorem selW_eq (ρ : Nat → Int) (n : Nat) : selW ρ n = if wKd n = 0 then (if fval ρ (wJ n) = wI n then ((sC n : Nat) : Int) else ((wB2 n : Nat) : Int)) else if wKd n = 1 then (if fval ρ (wJ n) = wI n then ρ (sC n) else ((wB2 n : Nat) : Int)) else ((wB2 n + 2 ^ fval ρ (wJ n) : Nat) : Int) := rfl
theorem vl_q2 {e : Env} {n : Nat} (h : q2N ≤ n) : vl e (.ofNat n) = selW e.ρ n := by
  unfold vl
  rw [if_pos (by show (18446744073709551616 : Int) ≤ (n : Int); unfold q2N at h; omega), if_pos (by show (symN : Int) ≤ (n : Int); unfold q2N at h; unfold symN; omega), if_pos (by show (gN : Int) ≤ (n : Int); unfold q2N at h; unfold gN; omega), if_pos (by show (qN : Int) ≤ (n : Int); unfold q2N at h; unfold qN; omega), if_pos (by show (q2N : Int) ≤ (n : Int); omega)]
  rfl
theorem vl_symN {e : Env} {a : Nat} (h : a < 18446744073709551616) : vl e (.ofNat (Nat.add symN a)) = e.ρ a := by
  show vl e (.ofNat (symN + a)) = _
  unfold vl
  rw [if_pos (by show (18446744073709551616 : Int) ≤ ((symN + a : Nat) : Int); unfold symN; omega), if_pos (by show (symN : Int) ≤ ((symN + a : Nat) : Int); omega), if_neg (by show ¬ (gN : Int) ≤ ((symN + a : Nat) : Int); unfold symN gN; omega)]
  show e.ρ (symN + a - symN) = _
  rw [Nat.add_sub_cancel_left]
theorem kn_ofNat {n : Nat} : kn (.ofNat n) = Nat.blt n unkN := rfl
theorem subN_big {j c : Nat} {n : Int} (h : kn n = false) : subN j c n = n := by
  cases n with
  | negSucc n => rfl
  | ofNat n =>
    have h : Nat.blt n unkN = false := h
    have hn : unkN ≤ n := by
      rcases Nat.lt_or_ge n unkN with h1 | h1
      · rw [← Nat.blt_eq] at h1; rw [h1] at h; cases h
      · exact h1
    have b : ∀ m, m ≤ unkN → Nat.blt n m = false := fun m hm => by
      cases hb : Nat.blt n m with
      | false => rfl
      | true => rw [Nat.blt_eq] at hb; omega
    show bI (Nat.blt n 18446744073709551616) (.ofNat n) (subG j c n) = _
    rw [b _ (by unfold unkN; omega)]
    show subG j c n = _
    unfold subG
    rw [b symN (by unfold unkN symN; omega)]
    show bI (Nat.ble q2N n) (subQ j c n) (.ofNat n) = _
    have : subQ j c n = .ofNat n := by
      unfold subQ
      rw [h]
      cases Nat.beq (wJ n) j <;> rfl
    rw [this]
    cases Nat.ble q2N n <;> rfl
theorem subN_kn {j c : Nat} {n : Int} (h : kn n = true) : kn (subN j c n) = true := by
  cases n with
  | negSucc n => rfl
  | ofNat n =>
    have fit : ∀ r, kn (fitI n r) = true := fun r => by
      unfold fitI
      cases hb : Nat.blt r 18446744073709551616 with
      | false => exact h
      | true => rw [Nat.blt_eq] at hb; exact kn_word hb
    show kn (bI (Nat.blt n 18446744073709551616) (.ofNat n) (subG j c n)) = true
    cases Nat.blt n 18446744073709551616 with
    | true => exact h
    | false =>
      show kn (subG j c n) = true
      unfold subG
      cases Nat.blt n symN with
      | true =>
        show kn (bI (Nat.beq (sJ n) j) _ _) = true
        cases Nat.beq (sJ n) j with
        | true => exact fit _
        | false => exact h
      | false =>
        show kn (bI (Nat.ble q2N n) (subQ j c n) (.ofNat n)) = true
        cases Nat.ble q2N n with
        | false => exact h
        | true =>
          show kn (subQ j c n) = true
          unfold subQ
          cases and (Nat.beq (wJ n) j) (Nat.blt n unkN) with
          | false => exact h
          | true =>
            show kn (bI (Nat.beq (wKd n) 0) _ _) = true
            cases Nat.beq (wKd n) 0 with
            | true =>
              show kn (bI (Nat.beq c (wI n)) _ _) = true
              cases Nat.beq c (wI n) with
              | true => exact kn_word (sC_lt _)
              | false => exact kn_word (sC_lt _)
            | false =>
              show kn (bI (Nat.beq (wKd n) 1) _ _) = true
              cases Nat.beq (wKd n) 1 with
              | false => exact fit _
              | true =>
                show kn (bI (Nat.beq c (wI n)) _ _) = true
                cases Nat.beq c (wI n) with
                | false => exact kn_word (sC_lt _)
                | true =>
                  show Nat.blt (symN + sC n) unkN = true
                  rw [Nat.blt_eq]
                  have := sC_lt n
                  unfold symN unkN; omega
theorem subN_unk {j c : Nat} {n : Int} (h : subN j c n = unkN) : n = unkN := by
  cases hk : kn n with
  | false => rw [subN_big hk] at h; exact h
  | true =>
    have := subN_kn (j := j) (c := c) hk
    rw [h] at this
    exact absurd this (by decide)
section
variable {e : Env} {j c : Nat} (hf : fval e.ρ j = c)
include hf
theorem subN_vl (n : Int) : vl e (subN j c n) = vl e n := by
  cases n with
  | negSucc n => rfl
  | ofNat n =>
    show vl e (bI (Nat.blt n 18446744073709551616) (.ofNat n) (subG j c n)) = _
    cases h1 : Nat.blt n 18446744073709551616 with
    | true => rfl
    | false =>
      have h1' : 18446744073709551616 ≤ n := by
        rcases Nat.lt_or_ge n 18446744073709551616 with h | h
        · rw [← Nat.blt_eq] at h; rw [h] at h1; cases h1
        · exact h
      show vl e (subG j c n) = _
      unfold subG
      cases h2 : Nat.blt n symN with
      | true =>
        rw [Nat.blt_eq] at h2
        show vl e (bI (Nat.beq (sJ n) j) _ _) = _
        cases h3 : Nat.beq (sJ n) j with
        | false => rfl
        | true =>
          have h3 := nat_eq h3
          show vl e (fitI n _) = _
          unfold fitI
          cases h4 : Nat.blt (Nat.sub (Nat.add (sC n) (Nat.mul c (Nat.pow 2 (sQ n)))) (sM n)) 18446744073709551616 with
          | false => rfl
          | true =>
            rw [Nat.blt_eq] at h4
            show vl e (.ofNat _) = _
            rw [vl_pl h4, vl_sy h1' h2]
            unfold fsy
            rw [h3, hf]; rfl
      | false =>
        show vl e (bI (Nat.ble q2N n) (subQ j c n) (.ofNat n)) = _
        cases h3 : Nat.ble q2N n with
        | false => rfl
        | true =>
          have h3 := Nat.le_of_ble_eq_true h3
          show vl e (subQ j c n) = _
          rw [vl_q2 h3, selW_eq]
          unfold subQ
          cases h4 : and (Nat.beq (wJ n) j) (Nat.blt n unkN) with
          | false =>
            show vl e (.ofNat n) = _
            rw [vl_q2 h3, selW_eq]
          | true =>
            obtain ⟨h5, _⟩ := and_t h4
            have h5 := nat_eq h5
            rw [h5, hf]
            show vl e (bI (Nat.beq (wKd n) 0) _ _) = _
            cases h6 : Nat.beq (wKd n) 0 with
            | true =>
              have h6 := nat_eq h6
              rw [if_pos h6]
              show vl e (bI (Nat.beq c (wI n)) _ _) = _
              cases h7 : Nat.beq c (wI n) with
              | true => rw [if_pos (nat_eq h7)]; exact vl_pl (sC_lt _)
              | false =>
                rw [if_neg (fun h => by rw [h, Nat.beq_refl] at h7; cases h7)]
                exact vl_pl (sC_lt _)
            | false =>
              rw [if_neg (fun h => by rw [h] at h6; cases h6)]
              show vl e (bI (Nat.beq (wKd n) 1) _ _) = _
              cases h8 : Nat.beq (wKd n) 1 with
              | true =>
                have h8 := nat_eq h8
                rw [if_pos h8]
                show vl e (bI (Nat.beq c (wI n)) _ _) = _
                cases h7 : Nat.beq c (wI n) with
                | true => rw [if_pos (nat_eq h7)]; exact vl_symN (sC_lt _)
                | false =>
                  rw [if_neg (fun h => by rw [h, Nat.beq_refl] at h7; cases h7)]
                  exact vl_pl (sC_lt _)
              | false =>
                rw [if_neg (fun h => by rw [h] at h8; cases h8)]
                show vl e (fitI n _) = _
                unfold fitI
                cases h9 : Nat.blt (Nat.add (wB2 n) (Nat.pow 2 c)) 18446744073709551616 with
                | false =>
                  show vl e (.ofNat n) = _
                  rw [vl_q2 h3, selW_eq, h5, hf, if_neg (fun h => by rw [h] at h6; cases h6), if_neg (fun h => by rw [h] at h8; cases h8)]
                | true =>
                  rw [Nat.blt_eq] at h9
                  exact vl_pl h9
end
noncomputable def subS (j c : Nat) (s : S) : S := S.rec (fun x => .b x) (fun k n => .i k (subN j c n)) (fun r o => .p r o) .np (fun r o n c => .sl r o n c) .ns (fun a c => .es a c) (fun f cs => .fn f cs) (fun f q r o => .fm f q r o) .nf (fun l => .st l) (fun r => .mp r) .nm (fun r => .yl r) .ub (fun r n => .sg r n) s
noncomputable def mapF {α β : Type} (f : α → β) (l : List α) : List β := List.rec [] (fun x _ ih => f x :: ih) l
theorem mapF_eq {α β : Type} (f : α → β) : ∀ l : List α, mapF f l = l.map f
  | [] => rfl
  | x :: l => by show f x :: mapF f l = _; rw [mapF_eq f l]; rfl
noncomputable def subC (j c : Nat) (x : C) : C := C.rec (fun s => .s (subS j c s)) (fun l => .agg (mapF (subS j c) l)) x
noncomputable def subV (j c : Nat) (v : V) : V := V.rec (fun s => .s (subS j c s)) (fun l => .agg (mapF (subS j c) l)) (fun l => .tup (mapF (subC j c) l)) .u v
theorem subS_i (j c : Nat) (k : IntKind) (n : Int) : subS j c (.i k n) = .i k (subN j c n) := rfl
theorem subS_rf {j c : Nat} {f : Pth → Bool} {s : S} (h : s.rf f = true) : (subS j c s).rf f = true := by
  cases s <;> first | exact h | exact subN_kn h
theorem subL_rf {j c : Nat} {f : Pth → Bool} {l : List S} (h : l.all (S.rf f) = true) : (mapF (subS j c) l).all (S.rf f) = true := by
  rw [mapF_eq]
  simp only [List.all_map, List.all_eq_true, Function.comp] at h ⊢
  exact fun x hx => subS_rf (h x hx)
theorem subC_rf {j c : Nat} {f : Pth → Bool} {x : C} (h : x.rf f = true) : (subC j c x).rf f = true := by
  cases x with
  | s s => exact subS_rf (s := s) h
  | agg l => exact subL_rf (l := l) h
theorem subV_rf {j c : Nat} {f : Pth → Bool} {v : V} (h : v.rf f = true) : (subV j c v).rf f = true := by
  cases v with
  | s s => cases s <;> first | exact h | rfl
  | agg l => exact subL_rf (l := l) h
  | tup l =>
    show (mapF (subC j c) l).all _ = true
    rw [mapF_eq]
    have h : l.all (C.rf f) = true := h
    simp only [List.all_map, List.all_eq_true, Function.comp] at h ⊢
    exact fun x hx => subC_rf (h x hx)
  | u => rfl
section
variable {e : Env} {j c : Nat} (hf : fval e.ρ j = c)
include hf
theorem subS_tr (s : S) : (subS j c s).tr e = s.tr e := by
  cases s <;> first | rfl | (rw [subS_i]; simp only [S.tr, subN_vl hf])
theorem subL_tr (l : List S) : (mapF (subS j c) l).map (S.tr e) = l.map (S.tr e) := by
  rw [mapF_eq, List.map_map]
  exact List.map_congr_left fun x _ => subS_tr hf x
theorem subC_tr (x : C) : (subC j c x).tr e = x.tr e := by
  cases x with
  | s s => exact subS_tr hf s
  | agg l => show Value.agg (trs e (mapF (subS j c) l)) = .agg (trs e l); unfold trs; rw [subL_tr hf]
theorem subV_tr (v : V) : (subV j c v).tr e = v.tr e := by
  cases v with
  | s s => exact subS_tr hf s
  | agg l => show Value.agg (trs e (mapF (subS j c) l)) = .agg (trs e l); unfold trs; rw [subL_tr hf]
  | tup l =>
    show Value.tuple ((mapF (subC j c) l).map (C.tr e)).toArray = .tuple (l.map (C.tr e)).toArray
    rw [mapF_eq, List.map_map]
    congr 2
    exact List.map_congr_left fun x _ => subC_tr hf x
  | u => rfl
omit hf in
theorem subV_unk {v : V} {x : Value} : Unk (subV j c v) x ↔ Unk v x := by
  unfold Unk
  cases v with
  | s s =>
    cases s with
    | i k n =>
      show (V.s (.i k (subN j c n)) = _ ∧ _) ∨ (V.s (.i k (subN j c n)) = _ ∧ _) ↔ _
      constructor
      · rintro (⟨h1, h2⟩ | ⟨h1, h2⟩)
        · injection h1 with h1; injection h1 with h1 h3
          exact .inl ⟨by rw [h1, subN_unk h3], h2⟩
        · injection h1 with h1; cases h1
      · rintro (⟨h1, h2⟩ | ⟨h1, h2⟩)
        · injection h1 with h1; injection h1 with h1 h3
          exact .inl ⟨by rw [h1, h3, subN_big (by decide)], h2⟩
        · injection h1 with h1; cases h1
    | _ => exact Iff.rfl
  | agg l => constructor <;> (rintro (⟨h1, _⟩ | ⟨h1, _⟩) <;> cases h1)
  | tup l => constructor <;> (rintro (⟨h1, _⟩ | ⟨h1, _⟩) <;> cases h1)
  | u => exact Iff.rfl
theorem subV_is {v : V} {x : Value} : Is e (subV j c v) x ↔ Is e v x := by
  unfold Is
  rw [subV_tr hf, subV_unk]
theorem subV_isu {v : V} {x : Value} : Isu e (subV j c v) x ↔ Isu e v x := by
  have hu : subV j c v = .u ↔ v = .u := by cases v <;> simp [subV]
  unfold Isu
  rw [subV_is hf, hu]
theorem subV_iss : ∀ {A : List V} {xs : List Value}, Iss e A xs → Iss e (mapF (subV j c) A) xs
  | _, _, .nil => .nil
  | _, _, .cons h1 h2 => .cons ((subV_isu hf).2 h1) (subV_iss h2)
end
noncomputable def subW (j c : Nat) (d : Wt) : Wt := Wt.rec (fun m o => List.rec (.mk m []) (fun x _ ih => Prod.rec (fun i n => wst ih i (subN j c n)) x) o) d
theorem subW_cons (j c m i : Nat) (n : Int) (o : List (Nat × Int)) : subW j c (.mk m ((i, n) :: o)) = wst (subW j c (.mk m o)) i (subN j c n) := rfl
theorem subW_wg {e : Env} {j c : Nat} (hf : fval e.ρ j = c) (m : Nat) : ∀ (o : List (Nat × Int)) (i : Nat), vl e (wg (subW j c (.mk m o)) i) = vl e (wg (.mk m o) i)
  | [], i => rfl
  | (k, n) :: o, i => by
    rw [subW_cons, wg_wst (n := i + k) _ trivial (by have := Nat.lt_two_pow_self (n := i + k); omega) (by have := Nat.lt_two_pow_self (n := i + k); omega)]
    show _ = vl e (match wlk ((k, n) :: o) i with | some x => x | none => .ofNat (wrd m i))
    simp only [wlk]
    by_cases h : i = k
    · rw [if_pos h, if_pos h]; exact subN_vl hf n
    · rw [if_neg h, if_neg h]; exact subW_wg hf m o i
theorem subW_kns {j c m : Nat} : ∀ {o : List (Nat × Int)}, (Wt.mk m o).kns = true → (subW j c (.mk m o)).kns = true
  | [], _ => rfl
  | (k, n) :: o, h => by
    have h : ((k, n) :: o).all (fun x => kn x.2) = true := h
    simp only [List.all_cons, Bool.and_eq_true] at h
    rw [subW_cons]
    exact kns_wst (subW_kns h.2) (subN_kn h.1)
noncomputable def subE (j c : Nat) (x : V × V × Nat) : V × V × Nat := Prod.rec (fun k q => Prod.rec (fun v n => (subV j c k, subV j c v, n)) q) x
theorem subV_rk {j c : Nat} {f : Pth → Bool} {v : V} (h : v.rk f = true) : (subV j c v).rk f = true := by
  cases v with
  | s s => exact subS_rf (s := s) h
  | agg l => exact subL_rf (l := l) h
  | tup l => exact subV_rf (v := .tup l) h
  | u => rfl
noncomputable def subB (j c : Nat) (b : B) : B := B.rec .dd (fun cs => .ro (mapF (subS j c) cs)) (fun cs => .c (mapF (subS j c) cs)) (fun cs m es => .gr (mapF (subS j c) cs) m es) (fun k m D d => .w k m D (subW j c d)) (fun es ck => .mp (mapF (subE j c) es) ck) (fun es => .ml es) (fun m a l q => .it m a l q) (fun t ps a b st pd => .lp t ps a b st pd) .dq (fun s => .cu (subS j c s)) (fun n => .rb n) b
theorem subB_rf {j c : Nat} {f : Pth → Bool} {b : B} (h : b.rf f = true) : (subB j c b).rf f = true := by
  cases b with
  | ro cs => exact subL_rf (l := cs) h
  | c cs => exact subL_rf (l := cs) h
  | gr cs m es => exact subL_rf (l := cs) h
  | w k m D d => obtain ⟨m', o⟩ := d; exact subW_kns (m := m') (o := o) h
  | cu s => exact subS_rf (s := s) h
  | mp es ck =>
    have h : (es.all fun x => x.1.rk f && x.2.1.rk f) = true := h
    show ((mapF (subE j c) es).all fun x => x.1.rk f && x.2.1.rk f) = true
    rw [mapF_eq]
    simp only [List.all_map, List.all_eq_true, Function.comp, Bool.and_eq_true] at h ⊢
    exact fun x hx => ⟨subV_rk (h x hx).1, subV_rk (h x hx).2⟩
  | _ => exact h
theorem subB_rw {j c : Nat} {b : B} : (subB j c b).rw = b.rw := by cases b <;> rfl
theorem subB_dd {j c : Nat} {b : B} : subB j c b = .dd ↔ b = .dd := by cases b <;> simp [subB]
theorem subB_ok {e : Env} {j c : Nat} (hf : fval e.ρ j = c) {w : World} {r : Pth} {b : B} : OkB e w r (subB j c b) ↔ OkB e w r b := by
  have hH : ∀ cs, Holds e w r (mapF (subS j c) cs) ↔ Holds e w r cs := fun cs => by
    unfold Holds
    rw [mapF_eq]
    constructor
    · intro h i s hs
      have := h i (subS j c s) (by rw [List.getElem?_map, hs]; rfl)
      rw [subS_tr hf] at this; exact this
    · intro h i s hs
      rw [List.getElem?_map] at hs
      cases hc : cs[i]? with
      | none => rw [hc] at hs; cases hs
      | some s' =>
        rw [hc] at hs
        cases hs
        rw [subS_tr hf]; exact h i s' hc
  have hl : ∀ cs : List S, (mapF (subS j c) cs).length = cs.length := fun cs => by rw [mapF_eq, List.length_map]
  cases b with
  | ro cs => show _ ∧ Holds e w r (mapF (subS j c) cs) ↔ _ ∧ Holds e w r cs; rw [hH]
  | c cs => show _ ∧ Holds e w r (mapF (subS j c) cs) ∧ Room e w r (mapF (subS j c) cs).length ↔ _ ∧ Holds e w r cs ∧ Room e w r cs.length; rw [hH, hl]
  | gr cs m es => show _ ∧ Holds e w r (mapF (subS j c) cs) ∧ (mapF (subS j c) cs).length ≤ _ ∧ _ ↔ _ ∧ Holds e w r cs ∧ cs.length ≤ _ ∧ _; rw [hH, hl]
  | w k m D d =>
    obtain ⟨m', o⟩ := d
    show _ ∧ (∀ i, i < m → w.cell? (adr e r i) = some (.int k (vl e (wg (subW j c (.mk m' o)) i)))) ∧ _ ∧ _ ∧ _ ↔ _ ∧ (∀ i, i < m → w.cell? (adr e r i) = some (.int k (vl e (wg (.mk m' o) i)))) ∧ _ ∧ _ ∧ _
    simp only [subW_wg hf]
    exact Iff.rfl
  | mp es ck =>
    show w.heap[(e.σ r).1]? = some (.map ((mapF (subE j c) es).map (entT e)).toArray ck) ↔ w.heap[(e.σ r).1]? = some (.map (es.map (entT e)).toArray ck)
    have : (mapF (subE j c) es).map (entT e) = es.map (entT e) := by
      rw [mapF_eq, List.map_map]
      exact List.map_congr_left fun x _ => by
        obtain ⟨k, v, n⟩ := x
        show MapEntry.mk ((subV j c k).tr e) ((subV j c v).tr e) n = MapEntry.mk (k.tr e) (v.tr e) n
        rw [subV_tr hf, subV_tr hf]
    rw [this]
  | cu s => show _ ∧ w.cell? (adr e r 0) = some ((subS j c s).tr e) ∧ _ ↔ _ ∧ w.cell? (adr e r 0) = some (s.tr e) ∧ _; rw [subS_tr hf]
  | _ => exact Iff.rfl
noncomputable def n8M {α : Type} (f : α → α) (x : N8 α) : N8 α := N8.casesOn x fun a b c d e g h i => ⟨f a, f b, f c, f d, f e, f g, f h, f i⟩
theorem n8M_g {α : Type} (f : α → α) (x : N8 α) (i : D8) : (n8M f x).g i = f (x.g i) := by cases i <;> rfl
noncomputable def trM {α : Type} (f : α → α) (t : Tr α) : Tr α := Tr.rec (fun s t o => ⟨n8M (n8M f) s, n8M (n8M (n8M f)) t, mapF (fun x => (x.1, f x.2)) o⟩) t
theorem lkF_map {α : Type} {d : α} {f : α → α} (hd : f d = d) (n : Nat) : ∀ o : List (Nat × α), lkF d n (mapF (fun x => (x.1, f x.2)) o) = f (lkF d n o)
  | [] => hd.symm
  | (m, x) :: o => by
    show lkF d n ((m, f x) :: mapF (fun x => (x.1, f x.2)) o) = _
    rw [lkF_cons, lkF_cons, lkF_map hd n o]
    split <;> rfl
theorem gt_trM {α : Type} {d : α} {f : α → α} (hd : f d = d) (p : Pth) (t : Tr α) : gt d p (trM f t) = f (gt d p t) := by
  obtain ⟨s, t, o⟩ := t
  cases p with
  | s i j => show ((n8M (n8M f) s).g i).g j = _; rw [n8M_g, n8M_g]; rfl
  | t i j k => show (((n8M (n8M (n8M f)) t).g i).g j).g k = _; rw [n8M_g, n8M_g, n8M_g]; rfl
  | o n => exact lkF_map hd n o
noncomputable def subH (j c : Nat) (h : Hp) : Hp := Hp.rec (fun b n er eq fz df ch => ⟨trM (subB j c) b, n, er, eq, fz, df, ch⟩) h
theorem subH_at (j c : Nat) (h : Hp) (r : Pth) : (subH j c h).at r = subB j c (h.at r) := gt_trM rfl r h.b
theorem Rel.sub {e : Env} {h : Hp} {w : World} {j c : Nat} (hf : fval e.ρ j = c) (H : Rel e h w) : Rel e (subH j c h) w := by
  refine ⟨fun r hr => ?_, fun r r' hr hr' hne h1 h2 => ?_, fun r hr => ?_, fun r hr => ?_⟩
  · rw [subH_at]; exact (subB_ok hf).2 (H.ok r hr)
  · rw [subH_at, subB_rw] at h1
    rw [subH_at, ne_eq, subB_dd] at h2
    exact H.sep r r' hr hr' hne h1 h2
  · rw [subH_at]; exact subB_rf (H.val r hr)
  · rw [subH_at]; exact subB_rf (H.esc r hr)
noncomputable def okR (v : V) (R : Hp) : Bool := and (v.ok R.n.n) (blB R.n.n (fun r b => bRf (escM R.n.n R.er R.eq r) b) R.b)
theorem Step.unsub {e e' : Env} {h R : Hp} {w w' : World} {j c : Nat} (hf : fval e.ρ j = c) (T : Step e (subH j c h) w e' (subH j c R) w') (hb : ∀ r : Pth, r.n < R.n.n → (R.at r).rf (escM R.n.n R.er R.eq r.n) = true) : Step e h w e' R w' := by
  have hf' : fval e'.ρ j = c := by rw [T.agr.ρ]; exact hf
  refine ⟨⟨fun r hr => ?_, fun r r' hr hr' hne h1 h2 => ?_, fun r hr => ?_, fun r hr => ?_⟩, T.fz, T.ch, T.agr, T.le, T.os, T.tape, T.output, T.size, fun b hb hn => ?_, fun r hr hw => ?_, fun r hr hw => ?_⟩
  · have := T.rel.ok r hr
    rw [subH_at] at this
    exact (subB_ok hf').1 this
  · exact T.rel.sep r r' hr hr' hne (by rw [subH_at, subB_rw]; exact h1) (by rw [subH_at, ne_eq, subB_dd]; exact h2)
  · exact B.rf_mono (fun p hp => (and_t hp).1) (hb r hr)
  · exact B.rf_mono (fun p hp => (and_t hp).2) (hb r hr)
  · exact T.keep b hb fun r hr hw => hn r hr (by rw [subH_at, subB_rw] at hw; exact hw)
  · rcases T.mine r hr (by rw [subH_at, subB_rw]; exact hw) with ⟨q, q1, q2, q3⟩ | k
    · exact .inl ⟨q, q1, by rw [subH_at, subB_rw] at q2; exact q2, q3⟩
    · exact .inr k
  · rcases T.nd r hr (by rw [subH_at, ne_eq, subB_dd]; exact hw) with ⟨q, q1, q2, q3⟩ | k
    · exact .inl ⟨q, q1, by rw [subH_at, ne_eq, subB_dd] at q2; exact q2, q3⟩
    · exact .inr k
noncomputable def splL (cal : Cal) (j c : Nat) (s0 : S) (A : List V) (H : Hp) (v : V) (R : Hp) : Bool := runB (cal s0 (mapF (subV j c) A) (subH j c H)) (subV j c v) (subH j c R)
theorem splL_ok {Y : Lay} {P : Program} {κ : KP} {cal : Cal} (HC : CalOk Y P κ cal) {j N : Nat} (hN : fval κ.ρ j < N) {s0 : S} {A : List V} {H : Hp} {v : V} {R : Hp} (k1 : okR v R = true) (k2 : ∀ c, c < N → splL cal j c s0 A H v R = true) : CalOk Y P κ (memS s0 A H v R) := fun s args h r h1 e w xs hκ hR hG hs hfa hx => by
  obtain ⟨h2, hr2, S2⟩ := runB_out (k2 _ hN)
  obtain ⟨k3, k4⟩ := and_t k1
  obtain ⟨c, hc⟩ : ∃ c, c = fval κ.ρ j := ⟨_, rfl⟩
  rw [← hc] at hr2 S2
  have hf : fval e.ρ j = c := by rw [hκ.2.1, hc]
  obtain ⟨c1, h3⟩ := onB_t (show onB (sEq s0 s) _ none = some r from h1)
  obtain ⟨c2, h4⟩ := onB_t h3
  obtain ⟨c3, h5⟩ := onB_t h4
  clear h1 h3 h4
  have c1 := sEq_eq c1
  have c2 := vsEq_eq c2
  have S := simB_sim c3
  subst c1
  subst c2
  obtain ⟨b, n, er, eq, fz, df, ch⟩ := h
  have hn : (Hp.mk b n er eq fz df ch).n = H.n := S.n
  have hHn : (subH j c H).n = H.n := rfl
  have hC := HC _ _ _ _ hr2 e w xs hκ ((hR.sim S.symm).sub hf) (by rw [hHn, ← hn]; exact hG) (by rw [hHn, ← hn]; exact hs) (by
    rw [hHn, ← hn]
    rw [mapF_eq]
    simp only [List.all_map, List.all_eq_true, Function.comp] at hfa ⊢
    exact fun x hx => subV_rf (hfa x hx)) (subV_iss hf hx)
  obtain ⟨b', n', er', eq', fz', df', ch'⟩ := R
  cases h5
  refine hC.mono fun x w' ⟨e', i1, i2, i3, i4⟩ => ⟨e', ?_, rfl, ?_, k3⟩
  · have T1 : Step e (subH j c H) w e' (subH j c (Hp.mk b' n' er' eq' h2.fz h2.df h2.ch)) w' := i1.sim ⟨rfl, rfl, rfl, fun _ _ => rfl⟩ ⟨S2.symm.n, S2.symm.er, S2.symm.eq, fun p hp => S2.symm.at_ p hp⟩ i1.fz i1.ch
    have T2 := T1.unsub hf (fun r hr => bRf_rf (blB_at k4 r hr))
    exact T2.sim S ⟨rfl, rfl, rfl, fun _ _ => rfl⟩ rfl rfl
  · have hf' : fval e'.ρ j = c := by rw [i1.agr.ρ]; exact hf
    exact (subV_isu hf').1 i3
end Go.E
