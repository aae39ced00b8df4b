/- DeriveCaps: for every input the law's Go function answers true, and its arguments read behind the call as before. No conditions. -/
import Derived.Test.YtpmobbehdpgnbaaZ13
import Derived.Test.YtpmobbehdpgnbaaZ27
import Derived.Test.YtpmobbehdpgnbaaRows
import Derived.Test.YtpmobbehdpgnbaaZ14
import Derived.Test.YtpmobbehdpgnbaaZ15
/- Law 12: awake. -/
namespace Go.Proofs.Ytpmobbehdpgnbaa
open Go.D
open Nat (reduceAdd reducePow reduceMul reduceSub reduceLeDiff reduceLT reduceEqDiff)
open Int (reduceNeg reduceLE reduceEq reduceNe reduceToNat)
open Go.D renaming istep → zy, pickR → zx, bin1R → zw, un1R → zv, eqS → zu, eq1 → zq, cmpS → zp, cmp1 → zj, isNil → zk, shows → zg, result → zZ, q_cond_t → zV, q_cond_f → zU
open List renaming set → zY, replicate → zX
open Option renaming map → zW
open Nat renaming reduceAdd → zQ, reducePow → yz, reduceMul → yy, reduceSub → yx, reduceLeDiff → yw, reduceLT → yv, reduceEqDiff → yu
open Int renaming reduceNeg → yq, reduceLE → yp, reduceEq → yj, reduceNe → yk, reduceToNat → yg, reducePow → yZ, reduceLT → yY, reduceAdd → yX, reduceSub → yW, reduceMul → yV, reduceBEq → yU, reduceBNe → yQ
set_option linter.all false
set_option maxRecDepth 100000
set_option maxHeartbeats 8000000

theorem Rep.of_w {m m' : M} {T : List (Int × Cap × Int)} (R : Rep m T) (e : m'.w = m.w) : Rep m' T := by
  obtain ⟨L, D, hL⟩ := R.di
  exact ⟨⟨L, D.of_w e, hL⟩, fun x hx => by rw [gV_w e]; exact R.cap x hx⟩
theorem Rep.layC {m : M} {T : List (Int × Cap × Int)} (R : Rep m T) (p a : Int) (c : Cap) (d : Int) (hp : p = 0 ∨ p ∈ T.map (·.1)) (haP : a ∈ PB) (hpP : p = 0 ∨ p ∈ PB) (haT : a ∉ T.map (·.1)) (hc : c.ty ≠ 0) (hr : slotRB ⟨c, 0, 0, 0⟩ = true) (hd : d = if p = 0 then 0 else (capT T p).2 + 1) : Rep (m.layX p a c) ((a, c, d) :: T) := by
  obtain ⟨L, D, hL⟩ := R.di
  obtain ⟨e1, _⟩ := D.lay (r := m) rfl (p := p) (a := a) (by rw [hL]; exact hp) haP (by rw [hL]; exact haT) hc hr
  exact (R.lay p a c d hp haP hpP haT hc hr hd).of_w e1.symm
theorem Rep.gC {m : M} {T : List (Int × Cap × Int)} (R : Rep m T) {x : Int} (hx : x ∈ PB) : (m.gV x).cap = (capT T x).1 := congrArg Prod.fst (R.cap x hx)
theorem Rep.gD {m : M} {T : List (Int × Cap × Int)} (R : Rep m T) {x : Int} (hx : x ∈ PB) : (m.gV x).depth = (capT T x).2 := congrArg Prod.snd (R.cap x hx)
theorem repC : Rep baseC baseT := rep_base.of_w baseC_w

def aw1 : M := baseC.miX M.enX M.layX 2060 2128 3 7 0 0
def aw2 : M := aw1.miX M.enX M.layX 2128 2132 3 8 0 0
def aw3 : M := aw2.cpX M.enX M.layX 2108 2128 7
def aw4 : M := aw3.mvX M.enX M.mov 2052 3072
def cA : Cap := ⟨4, 3120, 0, 0, 0, 0, 7, 3, 0, 0, 0⟩
theorem awf_1 : baseC.miE 2060 2128 3 7 0 0 = 0 ∧ Rep aw1 ((2128, cA, 1) :: baseT) := by
  have c1 : (baseC.gV 2060).cap = ⟨4, 3120, 0, 0, 0, 0, 0, 7, 0, 0, 0⟩ := (repC.gC (by decide)).trans rfl
  have c2 : (baseC.gV 2128).cap = capZ := (repC.gC (by decide)).trans rfl
  have en : baseC.enE 2060 2128 = 0 := by simp only [M.enE, M.emB, c1, c2]; rfl
  have co : baseC.coE 2060 2128 = 0 := by unfold M.coE; rw [if_pos en, c1]; rfl
  have cc : baseC.coC 2060 2128 3 = ⟨4, 3120, 0, 0, 0, 0, 0, 3, 0, 0, 0⟩ := by unfold M.coC; rw [if_pos co, c1]; rfl
  have mi : baseC.miE 2060 2128 3 7 0 0 = 0 := by unfold M.miE; rw [if_pos co, cc]; rfl
  refine ⟨mi, ?_⟩
  unfold aw1 M.miX
  rw [if_pos mi, cc]
  exact (repC.of_w (coXe_w baseC 2060 2128)).layC 2060 2128 cA 1 (by decide) (by decide) (by decide) (by decide) (by decide) (by decide) (by decide)
theorem awf_2 : aw1.miE 2128 2132 3 8 0 0 = 122 ∧ aw2.w = aw1.w := by
  have R := awf_1.2
  have c1 : (aw1.gV 2128).cap = cA := (R.gC (by decide)).trans rfl
  have c2 : (aw1.gV 2132).cap = capZ := (R.gC (by decide)).trans rfl
  have en : aw1.enE 2128 2132 = 0 := by simp only [M.enE, M.emB, c1, c2]; rfl
  have co : aw1.coE 2128 2132 = 0 := by unfold M.coE; rw [if_pos en, c1]; rfl
  have cc : aw1.coC 2128 2132 3 = cA := by unfold M.coC; rw [if_pos co, c1]; rfl
  have mi : aw1.miE 2128 2132 3 8 0 0 = 122 := by unfold M.miE; rw [if_pos co, cc]; rfl
  refine ⟨mi, ?_⟩
  unfold aw2 M.miX
  rw [if_neg (by rw [mi]; decide)]
  exact coXe_w _ _ _
theorem awf_3 : aw2.coE 2108 2128 = 120 ∧ aw3.w = aw1.w := by
  have R := awf_1.2.of_w awf_2.2
  have c1 : (aw2.gV 2108).cap = ⟨1, 3584, 9, 0, 0, 0, 0, 0, 0, 0, 0⟩ := (R.gC (by decide)).trans rfl
  have c2 : (aw2.gV 2128).cap = cA := (R.gC (by decide)).trans rfl
  have en : aw2.enE 2108 2128 = 120 := by simp only [M.enE, M.emB, c1, c2]; rfl
  have co : aw2.coE 2108 2128 = 120 := by unfold M.coE; rw [if_neg (by rw [en]; decide)]; exact en
  refine ⟨co, ?_⟩
  unfold aw3 M.cpX
  rw [if_neg (by rw [co]; decide)]
  exact (coXe_w _ _ _).trans awf_2.2
theorem awf_4 : aw3.moE 2052 3072 = 122 ∧ aw4.w = aw1.w := by
  have R := awf_1.2.of_w awf_3.2
  have c1 : (aw3.gV 2052).cap = ⟨2, 3072, 3, 0, 0, 0, 0, 0, 0, 0, 0⟩ := (R.gC (by decide)).trans rfl
  have c2 : (aw3.gV 3072).cap = capZ := (R.gC (by decide)).trans rfl
  have en : aw3.enE 2052 3072 = 0 := by simp only [M.enE, M.emB, c1, c2]; rfl
  have mo : aw3.moE 2052 3072 = 122 := by unfold M.moE; rw [if_pos en, c1]; rfl
  refine ⟨mo, ?_⟩
  unfold aw4 M.mvX
  rw [if_neg (by rw [mo]; decide)]
  exact (coXe_w _ _ _).trans awf_3.2
theorem awf_5 : aw4.gE 2128 = 0 ∧ (aw4.gV 2128).cap = cA ∧ (aw4.gV 2128).depth = 1 := by
  have R := awf_1.2.of_w awf_4.2
  obtain ⟨L, D, _⟩ := R.di
  exact ⟨D.gE (by decide), (R.gC (by decide)).trans rfl, (R.gD (by decide)).trans rfl⟩
theorem wH_tail (h : List Blk) (m r : M) (X : List Blk) : ∃ Y, wH h m r X = h ++ Y := by
  rw [wH, memH, memH, List.append_assoc, List.append_assoc]
  exact ⟨_, rfl⟩
theorem cut_wH {h : List Blk} {m r : M} {X : List Blk} {v : V} {K : V → List Blk → Prop} (hc : clean h.length h = true) (hv : v.val h.length 0 = true) (hK : K v h) : Cut h.length K v (wH h m r X) := by
  obtain ⟨Y, e⟩ := wH_tail h m r X
  rw [e]
  exact ⟨h, Y, rfl, Nat.le_refl _, hc, hv, hK⟩
def awake12G : List V → List Blk → Res
  | [], h => .ok (.s (.b true)) [] h
  | _, _ => .bad
noncomputable def TAw : Tab := addT 64 basedG (addT 65 mi9G (addT 66 cp9G (addT 67 mv9G (addT 30 get2G (noT)))))
theorem TAw_snd : TAw.Snd Try.prog := addT_snd ok64 based_snd (addT_snd ok65 mi9_snd (addT_snd ok66 cp9_snd (addT_snd ok67 mv9_snd (addT_snd ok30 get2_snd ((noT_snd _))))))
theorem awake12_snd : Snd Try.prog 32 (FSpec.of awake12G) := snd_cut TAw_snd mixed Try.func32 dc32 300 fun args h K hc hS => by
  unfold awake12G at hS
  split at hS
  · simp only [spec_ok] at hS
    have hB : ∀ m' Y, (wH h m' baseM Y)[h.length + 4]? = some ⟨.rw, [.p (.g (h.length + 2)) 0, .p (.g h.length) 0], 2⟩ := fun m' Y => wH_at h m' baseM Y
    obtain ⟨⟨cc, p0, q0, r0⟩, hs⟩ : ∃ s, aw4.gV 2128 = s := ⟨_, rfl⟩
    have f5 := awf_5
    rw [hs] at f5
    obtain ⟨f5, e1, e2⟩ := f5
    simp only at e1 e2
    subst e1
    subst e2
    have f1 := awf_1.1
    have f2 := awf_2.1
    have f3 := awf_3.1
    have f4 := awf_4.1
    have g1 : baseC.miX M.enX M.layX 2060 2128 3 7 0 0 = aw1 := rfl
    have g2 : aw1.miX M.enX M.layX 2128 2132 3 8 0 0 = aw2 := rfl
    have g3 : aw2.cpX M.enX M.layX 2108 2128 7 = aw3 := rfl
    have g4 : aw3.mvX M.enX M.mov 2052 3072 = aw4 := rfl
    have i1 : IntKind.i64.wrap 2060 = 2060 := rfl
    have i2 : IntKind.i64.wrap 2128 = 2128 := rfl
    have i3 : IntKind.i64.wrap 2132 = 2132 := rfl
    have i4 : IntKind.i64.wrap 2108 = 2108 := rfl
    have i5 : IntKind.i64.wrap 2052 = 2052 := rfl
    simp (config := {maxSteps := 9999999}) only [EV0, zy, zx, zw, zv, zu, zq, zp, zj, zk, leT, zg, rvC, zZ, zY, zX, zW, ↓zV, ↓zU, reduceCtorEq, zQ, yz, yZ, yy, yx, yw, yv, yu, yq, yY, yp, yj, yk, yX, yW, yV, yg, yU, yQ, df32, TAw, basedG, mi9G, mi9M, cp9G, cp9M, mv9G, mv9M, get2G, get2M, hB, wH_m, i1, i2, i3, i4, i5, Int.reduceAdd, f1, f2, f3, f4, f5, g1, g2, g3, g4, hs, cA, Slot.cl, Cap.cl, put, fillP, sub, EVt]
    exact cut_wH hc rfl hS
  · exact hS.elim

def deriveCapsS : FSpec := fun args h K => ∃ c : Cap, args = [.agg c.cl] ∧ ∀ h', K (.s (.b true)) h'
noncomputable def TPc : Tab := addT 32 awake12G (addT 33 derG (addT 34 derG (noT)))
theorem TPc_snd : TPc.Snd Try.prog := addT_snd ok32 awake12_snd (addT_snd ok33 der_snd (addT_snd ok34 rder_snd ((noT_snd _))))
theorem deriveCaps_snd : Snd Try.prog 8 deriveCapsS := (fwp_sound (Tab.snd_Γ TPc_snd) mixed Try.func8 dc8).weaken fun args h K hc hS => by
  obtain ⟨c, rfl, hK⟩ := hS
  refine fwp_run (Tab.ok_Γ _) 400 ?_
  obtain ⟨d, hd⟩ : ∃ d, derC c = d := ⟨_, rfl⟩
  obtain ⟨e, he⟩ : ∃ e, derE c = e := ⟨_, rfl⟩
  obtain ⟨d0, d1, d2, d3, d4, d5, d6, d7, d8, d9, d10⟩ := d
  have hcf : ∀ (f : Cap → Res), capF f [.agg c.cl] = f c := fun f => by
    obtain ⟨c0, c1, c2, c3, c4, c5, c6, c7, c8, c9, c10⟩ := c
    rfl
  obtain ⟨c0, c1, c2, c3, c4, c5, c6, c7, c8, c9, c10⟩ := c
  simp only [Cap.cl] at hcf ⊢
  simp (config := {maxSteps := 9999999}) only [EV0, zy, zx, zw, zv, zu, zq, zp, zj, zk, leT, zg, rvC, zZ, zY, zX, zW, ↓zV, ↓zU, reduceCtorEq, zQ, yz, yZ, yy, yx, yw, yv, yu, yq, yY, yp, yj, yk, yX, yW, yV, yg, yU, yQ, df8, TPc, awake12G, derG, hcf, hd, he, Cap.cl, beq_self_eq_true, put, fillP, sub, EVt]
  exact hK _
end Go.Proofs.Ytpmobbehdpgnbaa

/- DeriveCaps: for every input the law's Go function answers true, and its arguments read behind the call as before. No conditions. -/
namespace Go.Proofs.Ytpmobbehdpgnbaa
open Go.D
set_option linter.all false
set_option maxRecDepth 100000

theorem deriveCaps_law : Law deriveCapsS [(true, CapT)] := by
  intro h us H hc
  obtain ⟨v, rfl, H1⟩ := law1 H
  obtain ⟨c, rfl⟩ := hasV_cap H1
  exact ⟨c, rfl, fun _ => rfl⟩
theorem deriveCaps_row : RowOk Try.prog 8 Try.f8 Rows.deriveCapsSpec [(true, CapT)] where
  own := own
  noTabs := rfl
  noInit := by kernel_rfl
  isf := Try.func8
  laid := laid
  rowed := rowed
  full := full
  params := by kernel_rfl
  vars := rfl
  ret := ⟨_, rfl, by kernel_rfl⟩
  spec := fun H ds e => by
    match ds, e with
    | [_], _ => rfl
  tys := ⟨20, by kernel_rfl⟩
theorem deriveCaps_holds : Rows.DeriveCapsSaid :=
  OpenClaim.holds_of_wide 8 Try.f8 rfl rfl rfl rfl rfl rfl rfl ⟨rfl, rfl, rfl, rfl, rfl⟩ rfl rfl rfl rfl rfl (by kernel_rfl) Try.func8 (by kernel_rfl)
    (of_decide_eq_true (by kernel_rfl)) (by unfold Func.isWrapper; first | (rw [if_pos (by decide +kernel)]; kernel_rfl) | (rw [if_neg (by decide +kernel)]; exact ⟨rfl, rfl⟩))
    (fun os started H enc _ => deriveCaps_row.lifted (C := Try.checked) deriveCaps_snd deriveCaps_law started (ChangeSpec.witness6 (enc := enc) (C := Try.checked) false ⟨#[], #[.agg #[.int .i64 0, .int .i64 0, .int .i64 0, .int .i64 0, .int .i64 0, .int .i64 0, .int .i64 0, .int .i64 0, .int .i64 0, .int .i64 0, .int .i64 0]], []⟩ 8 (by kernel_rfl) (by kernel_rfl) (by kernel_rfl) (by kernel_rfl)))
end Go.Proofs.Ytpmobbehdpgnbaa

