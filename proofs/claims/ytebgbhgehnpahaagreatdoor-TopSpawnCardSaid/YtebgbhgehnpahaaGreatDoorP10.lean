/- A part of the proof of the claim that the last text of this folder states. -/
import Derived.Deep.Slices
import Derived.ChangeSame
import Derived.ReadAgain
import Derived.RowKit3
import Derived.OpenShut
import Derived.SizedLaws
import Derived.JoinedCond
import Derived.KernelRfl
import Derived.LaidMore
import Derived.Lib.LaidTab
import Derived.Stop.Joined
import Derived.Test.YtebgbhgehnpahaaGreatDoorP09
namespace Go.E
set_option linter.all false
section
variable {Y : Lay} {P : Program} {N M : Nat} {κ : KP} {cal : Cal} {ro : Option Nat} {n : Nat}
theorem up_mem {o : Oper} {ks : List Bool} {m k v : O} (hi : isIn o = true) (h : compI Y P o = some (.up ks m k v)) : ∃ ko vo, ko ∈ o.op.operands ∧ vo ∈ o.op.operands ∧ compX Y ko = some k ∧ compX Y vo = some v := by
  unfold isIn at hi
  split at hi
  rotate_left
  · cases hi
  rename_i T mo ko vo hop
  unfold compI at h
  rw [hop] at h
  simp only at h
  split at h
  · rename_i h1 h2 h3 h4
    obtain ⟨ks', h5, h6⟩ := Option.map_eq_some_iff.1 h
    cases h6
    exact ⟨ko, vo, by simp [hop, Op.operands], by simp [hop, Op.operands], h3, h4⟩
  · cases h
structure LitR (R : Reg Y P N M κ cal) (jm dm : Nat) (il : List Nat) : Prop where
  hjm : R.ord[jm]? = some R.im
  hk : kindOf R.gl R.im = 2
  hv : R.val jm = .s (.mp (R.hp jm).n)
  hh : R.hp (jm + 1) = (R.hp jm).push (.mp [] 0)
  ii : ∀ i, i < R.ops.size → (R.ins i = true ↔ i ∈ il)
  nd : il.Nodup
  gl : ∀ i ∈ il, ∃ g o, R.gl[i]? = some g ∧ R.ops[i]? = some o ∧ isIn o = true ∧ EntOk (R.tm R.ord.length) (R.hp jm).n g (entOf (R.tm R.ord.length) g) ∧ o.guard = none ∧ R.im ∈ predsOf R.ops i ∧ (∀ p, Operand.tmp p ∈ o.op.operands → ∃ k ∈ predsOf R.ops i, ∃ ok, R.ops[k]? = some ok ∧ ok.dst = some p)
  pr : ∀ i, R.ins i = true → ∀ p ∈ predsOf R.ops i, p < R.ops.size ∧ R.ins p = false
  dst : il.Pairwise fun i j => ∀ g g', R.gl[i]? = some g → R.gl[j]? = some g' → eqK (entOf (R.tm R.ord.length) g).1 (entOf (R.tm R.ord.length) g).2.1 (entOf (R.tm R.ord.length) g').2.1 = some false ∧ eqK (entOf (R.tm R.ord.length) g').1 (entOf (R.tm R.ord.length) g').2.1 (entOf (R.tm R.ord.length) g).2.1 = some false
  imn : R.ins R.im = false
noncomputable def Reg.ent (R : Reg Y P N M κ cal) (i : Nat) : V × V := match R.gl[i]? with
  | some g => (entOf (R.tm R.ord.length) g).2
  | none => (vu, vu)
open Classical in
noncomputable def Reg.ents (R : Reg Y P N M κ cal) (il : List Nat) (D : Nat → Prop) : List (V × V) := (il.filter fun i => decide (D i)).map R.ent
def Reg.MI (R : Reg Y P N M κ cal) (jm : Nat) (il : List Nat) (D : Nat → Prop) (w : World) (s : Nat) (e : Env) : Prop :=
  D R.im → ∃ (es : List ME) (ck : Nat), w.heap[(e.σ (R.hp jm).n).1]? = some (.map (es.map (entT e)).toArray ck) ∧ (es.map fun x => (x.1, x.2.1)).Perm (R.ents il D) ∧
    ∀ x ∈ es, x.1.rf (R.G D s (R.hp R.ord.length).n.n) = true ∧ x.2.1.rf (R.G D s (R.hp R.ord.length).n.n) = true
variable {R : Reg Y P N M κ cal} {jm dm : Nat} {il : List Nat} {D : Nat → Prop} {a : Act} {w : World} {s : Nat} {e : Env}
theorem LitR.sj (L : LitR R jm dm il) (W : WI R D a w s e) : s ≤ jm := by
  rcases W.hvp with h | ⟨i, h1, h2⟩
  · omega
  · have := R.imz jm (s - 1) i L.hjm h1 h2
    omega
theorem LitR.jl (L : LitR R jm dm il) : jm < R.ord.length := (List.getElem?_eq_some_iff.1 L.hjm).1
theorem WI.ins (W : WI R D a w s e) (L : LitR R jm dm il) {i : Nat} (hi : R.ins i = true) (hD : D R.im) (hpr : ∀ p ∈ predsOf R.ops i, D p) {w' : World} (hkeep : ∀ b, b < w.heap.size → b ≠ (e.σ (R.hp jm).n).1 → w'.heap[b]? = w.heap[b]?) (hsz : w.heap.size ≤ w'.heap.size) (hos : w'.os = w.os) (htp : w'.tape = w.tape) (hou : w'.output = w.output) : WI R (addD D i) a w' s e := by
  have hsj := L.sj W
  obtain ⟨x0, _, _, _, _, hl0, hf0, hs0⟩ := W.pend jm R.im hsj L.hjm L.hk hD
  have hne : ∀ {j k : Nat}, R.ord[j]? = some k → k ≠ i := fun h c => by
    have := R.insn _ _ h
    rw [c, hi] at this; cases this
  have hcs : ∀ {j k : Nat}, R.ord[j]? = some k → addD D i k → D k := fun h hk => hk.resolve_left (hne h)
  have hG : ∀ b q, R.G D s b q = true → R.G (addD D i) s b q = true := fun b q => R.G_mono (fun _ h => .inr h) (Nat.le_refl _)
  refine ⟨addD_dc W.dc hpr, W.sle, fun j k h1 h2 h3 => .inr (W.pre j k h1 h2 h3), fun j k h1 h2 h3 h4 => W.nohv j k h1 h2 h3 (hcs h2 h4), W.hvp, ?_, fun j k o d h1 h2 h3 h4 => ?_, fun p h => W.oth p fun k o h1 h2 h3 => h k o h1 (.inr h2) h3, W.tsz, W.df, fun j k h1 h2 h3 h4 => ?_, fun j k j' k' h1 h2 h3 h4 h5 h6 h7 h8 h9 => W.pdis j k j' k' h1 h2 h3 h4 h5 h6 (hcs h3 h7) (hcs h4 h8) h9⟩
  · have C := W.cum
    refine ⟨⟨fun q hq => (C.rel.ok q hq).move (Agr.refl _ e) hq (C.rel.val q hq) hsz fun hd => hkeep _ ((C.rel.ok q hq).lt hd) (hs0 q hq hd), C.rel.sep, C.rel.val, C.rel.esc⟩, C.fz, C.ch, C.agr, C.le, hos.trans C.os, htp.trans C.tape, hou.trans C.output, Nat.le_trans C.size hsz, fun b hb hn => ?_, C.mine, C.nd⟩
    rw [hkeep b (by have := C.size; omega) (by omega)]
    exact C.keep b hb hn
  · obtain ⟨k1, k2⟩ := W.vals j k o d h1 (hcs h1 h2) h3 h4
    exact ⟨V.rf_mono (hG _) k1, k2⟩
  · obtain ⟨x, k1, k2, k3, k4, kl, k5, k6⟩ := W.pend j k h1 h2 h3 (hcs h2 h4)
    refine ⟨x, k1, k2, B.rf_mono (hG _) k3, fun him => ?_, by omega, k5, k6⟩
    have hjj : j ≠ jm := fun c => him (by rw [c] at h2; rw [L.hjm] at h2; cases h2; rfl)
    exact (k4 him).moveF (f := R.G D s (R.hp j).n.n) ⟨fun _ _ => rfl, fun _ _ => rfl, rfl, rfl⟩ rfl rfl rfl k3 hsz fun _ => hkeep _ kl (W.pdis j k jm R.im h1 hsj h2 L.hjm h3 L.hk (hcs h2 h4) hD hjj)
theorem MI_step (L : LitR R jm dm il) (W : WI R D a w s e) (H : R.MI jm il D w s e) {i s' : Nat} {e' : Env} {w' : World} {a' : Act} (hn : R.ins i = false) (hi : ¬ D i) (W' : WI R (addD D i) a' w' s' e') (K : KP' R D i s s' e e' w w') : R.MI jm il (addD D i) w' s' e' := by
  classical
  intro hD
  have hsj' := L.sj W'
  have hil : ∀ k ∈ il, k ≠ i ∧ k < R.ops.size := fun k hk => by
    obtain ⟨g, o, h1, h2, _⟩ := L.gl k hk
    have hlt := (Array.getElem?_eq_some_iff.1 h2).1
    refine ⟨fun c => ?_, hlt⟩
    have := (L.ii k hlt).2 hk
    rw [c, hn] at this; cases this
  have hfil : R.ents il (addD D i) = R.ents il D := by
    unfold Reg.ents
    congr 1
    refine List.filter_congr fun k hk => ?_
    have hki := (hil k hk).1
    simp only [decide_eq_decide]
    exact ⟨fun h => h.resolve_left hki, fun h => .inr h⟩
  rw [hfil]
  by_cases him : i = R.im
  · subst him
    have ho := K.new jm L.hjm L.hk _ L.hh
    have ho : w'.heap[(e'.σ (R.hp jm).n).1]? = some (.map (([] : List ME).map (entT e')).toArray 0) := ho
    refine ⟨[], 0, ho, ?_, fun x hx => by cases hx⟩
    have : R.ents il D = [] := by
      unfold Reg.ents
      rw [List.filter_eq_nil_iff.2 fun k hk => ?_]
      · rfl
      · obtain ⟨g, o, h1, h2, _, _, _, h5, _⟩ := L.gl k hk
        simp only [decide_eq_true_eq]
        exact fun hDk => hi (W.dc k hDk _ h5)
    rw [this]; exact .refl _
  · have hD0 : D R.im := hD.resolve_left (Ne.symm him)
    obtain ⟨es, ck, h1, h2, h3⟩ := H hD0
    obtain ⟨p1, p2⟩ := K.pend jm R.im hsj' L.hjm L.hk hD0
    refine ⟨es, ck, ?_, h2, fun x hx => ?_⟩
    · rw [p1, p2, h1]
      congr 3
      refine List.map_congr_left fun x hx => ?_
      have A := K.agr (R.hp R.ord.length).n.n
      simp only [entT, A.v (h3 x hx).1, A.v (h3 x hx).2]
    · have hm : ∀ q, R.G D s (R.hp R.ord.length).n.n q = true → R.G (addD D i) s' (R.hp R.ord.length).n.n q = true := fun q hq => R.G_mono (fun _ h => .inr h) (Nat.le_refl _) (R.G_stage K.le W'.sle hq)
      exact ⟨V.rf_mono hm (h3 x hx).1, V.rf_mono hm (h3 x hx).2⟩
theorem LitR.ot (L : LitR R jm dm il) (W : WI R D a w s e) {i : Nat} (hi : i ∈ il) (hpr : ∀ p ∈ predsOf R.ops i, D p) {o : Oper} (ho : R.ops[i]? = some o) {f : Pth → Bool} (hf : ∀ q, R.G D s (R.hp R.ord.length).n.n q = true → f q = true) : OT Y e (R.tm R.ord.length) f a (· ∈ o.op.operands) := by
  obtain ⟨g, o', h1, h2, _, _, _, _, h6⟩ := L.gl i hi
  rw [ho] at h2; cases h2
  refine ⟨fun p hp => ?_, fun g p hg => ?_⟩
  · obtain ⟨k, hk, ok, h7, h8⟩ := h6 p hp
    obtain ⟨jk, hjk⟩ := R.all k (Array.getElem?_eq_some_iff.1 h7).1 (R.noins h7 h8)
    have hjl : jk < R.ord.length := (List.getElem?_eq_some_iff.1 hjk).1
    obtain ⟨v1, v2⟩ := W.vals jk k ok p hjk (hpr k hk) h7 h8
    rw [R.tm_dst hjk h7 h8 hjl (Nat.le_refl _)]
    exact ⟨V.rf_mono (fun q hq => hf q (R.G_mono (fun _ h => h) (R.mono (by omega) (Nat.le_refl _)) hq)) v1, v2⟩
  · obtain ⟨h1, h2⟩ := R.gly g p hg
    have h3 := Pth.ok_iff.1 h1
    refine ⟨hf p ?_, by rw [W.cum.agr.σ p h3]; exact h2⟩
    rw [Reg.G_iff]
    have := R.mono (Nat.zero_le s) W.sle
    exact .inl (by omega)
theorem MI_ins (L : LitR R jm dm il) (W : WI R D a w s e) (H : R.MI jm il D w s e) {i : Nat} (hi : R.ins i = true) (hlt : i < R.ops.size) (hnd : ¬ D i) (hpr : ∀ p ∈ predsOf R.ops i, D p) {Q : Exit → Act → World → Prop} {K : Act → World → Prop}
    (hK : ∀ a' w' s' e', WI R (addD D i) a' w' s' e' → R.MI jm il (addD D i) w' s' e' → K a' w') : wpOpIn (wd ro) n P R.ops Q i K a w := by
  classical
  have hil := (L.ii i hlt).1 hi
  obtain ⟨g, o, h1, h2, hin, E, h4, h5, h6⟩ := L.gl i hil
  have hD := hpr _ h5
  have hsj := L.sj W
  have hjl := L.jl
  obtain ⟨es, ck, m1, m2, m3⟩ := H hD
  obtain ⟨m, k, v, hg, q1, q2, q3⟩ := E.up
  have hcg := R.hgl i o g h2 h1
  obtain ⟨hc, hdst, _, _⟩ := compG_op hcg
  obtain ⟨x, hx⟩ : ∃ x, x = entOf (R.tm R.ord.length) g := ⟨_, rfl⟩
  rw [← hx] at E hg q2 q3
  subst hg
  have hent : R.ent i = x.2 := by
    unfold Reg.ent
    rw [h1]
    exact (congrArg Prod.snd hx).symm
  have hmem : ∀ y ∈ es, ∃ i', i' ∈ il ∧ D i' ∧ (y.1, y.2.1) = R.ent i' := fun y hy => by
    have := m2.mem_iff.1 (List.mem_map.2 ⟨y, hy, rfl⟩)
    obtain ⟨i', h7, h8⟩ := List.mem_map.1 this
    simp only [List.mem_filter, decide_eq_true_eq] at h7
    exact ⟨i', h7.1, h7.2, h8.symm⟩
  have hnew : ∀ y ∈ es, eqK x.1 x.2.1 y.1 = some false := fun y hy => by
    obtain ⟨i', k1, k2, k3⟩ := hmem y hy
    obtain ⟨g', o', g1, g2, _⟩ := L.gl i' k1
    have hne : i ≠ i' := fun c => hnd (by rw [c]; exact k2)
    have hy1 : y.1 = (entOf (R.tm R.ord.length) g').2.1 := by
      have := congrArg Prod.fst k3
      unfold Reg.ent at this
      rw [g1] at this
      exact this
    rw [hy1, hx]
    obtain ⟨a1, b1⟩ := List.mem_iff_getElem?.1 hil
    obtain ⟨a2, b2⟩ := List.mem_iff_getElem?.1 k1
    have hP := List.pairwise_iff_getElem.1 L.dst
    obtain ⟨c1, d1⟩ := List.getElem?_eq_some_iff.1 b1
    obtain ⟨c2, d2⟩ := List.getElem?_eq_some_iff.1 b2
    rcases Nat.lt_trichotomy a1 a2 with c | c | c
    · exact (hP a1 a2 c1 c2 c _ _ (by rw [d1]; exact h1) (by rw [d2]; exact g1)).1
    · exact absurd (by rw [← d1, ← d2]; simp only [c]) hne
    · exact (hP a2 a1 c2 c1 c _ _ (by rw [d2]; exact g1) (by rw [d1]; exact h1)).2
  have hes : ∀ y ∈ es, y.1.rk (pL (R.hp jm).n) = true ∧ y.2.1.rk (pL (R.hp jm).n) = true := fun y hy => by
    obtain ⟨i', k1, k2, k3⟩ := hmem y hy
    obtain ⟨g', o', g1, g2, _, E', _⟩ := L.gl i' k1
    have h8 : R.ent i' = (entOf (R.tm R.ord.length) g').2 := by unfold Reg.ent; rw [g1]
    rw [h8] at k3
    have e1 := congrArg Prod.fst k3
    have e2 := congrArg Prod.snd k3
    simp only at e1 e2
    rw [e1, e2]; exact ⟨E'.rk1, E'.rk2⟩
  have hrn : (R.hp jm).n.n < (R.hp R.ord.length).n.n := by
    have := R.mono (j := jm + 1) (j' := R.ord.length) (by omega) (Nat.le_refl _)
    rw [L.hh, Hp.n_push] at this
    omega
  have hGok : ∀ q, R.G D s (R.hp R.ord.length).n.n q = true → Pth.ok (R.hp R.ord.length).n.n q = true := fun q hq => by
    rw [Pth.ok_iff]
    rcases (R.G_iff).1 hq with h | ⟨h, _⟩
    · have := R.mono W.sle (Nat.le_refl _); omega
    · exact h
  obtain ⟨nx, z, w', r1, r2, r3, r4, r5, r6, r7, r8⟩ := ins_run (n := (R.hp R.ord.length).n) (r := (R.hp jm).n) hc E hnew (L.ot W hil hpr h2 hGok) hrn hes m1
  have W' := W.ins L hi hD hpr r4 r5 r6 r7 r8
  have hdn : o.dst = none := R.insd i o h2 hi
  have hOT := L.ot W hil hpr h2 (f := R.G D s (R.hp R.ord.length).n.n) (fun q hq => hq)
  have hno : ∀ c, o.op ≠ .defer c := comp_nodefer hc (by rfl)
  unfold wpOpIn
  simp only [h2]
  rw [if_pos (by simp [Region.wanted, h4])]
  refine wpIn_run hno r1 r2 ?_
  rw [hdn]
  refine hK a w' s e W' fun _ => ⟨es ++ [(x.2.1, x.2.2, ck)], ck + 1, r3, ?_, fun y hy => ?_⟩
  · have hp : (R.ents il (addD D i)).Perm (R.ents il D ++ [x.2]) := by
      unfold Reg.ents
      have hsp : ∀ (l : List Nat), l.Nodup → i ∈ l → ((l.filter fun k => decide (addD D i k)).map R.ent).Perm ((l.filter fun k => decide (D k)).map R.ent ++ [x.2]) := by
        intro l
        induction l with
        | nil => intro _ h; cases h
        | cons c l ih =>
          intro hnd2 hm
          obtain ⟨n1, n2⟩ := List.nodup_cons.1 hnd2
          by_cases hc : c = i
          · subst hc
            rw [List.filter_cons, if_pos (by simp [addD]), List.filter_cons, if_neg (by simpa using hnd)]
            have : l.filter (fun k => decide (addD D c k)) = l.filter fun k => decide (D k) := List.filter_congr fun k hk => by
              have : k ≠ c := fun h => n1 (h ▸ hk)
              simp [addD, this]
            rw [this, List.map_cons, hent]
            exact (List.perm_append_singleton _ _).symm
          · have hm2 : i ∈ l := (List.mem_cons.1 hm).resolve_left (Ne.symm hc)
            have := ih n2 hm2
            by_cases hDc : D c
            · rw [List.filter_cons, if_pos (by simp [addD, hDc]), List.filter_cons, if_pos (by simpa using hDc), List.map_cons, List.map_cons, List.cons_append]
              exact this.cons _
            · rw [List.filter_cons, if_neg (by simp [addD, hDc, hc]), List.filter_cons, if_neg (by simpa using hDc)]
              exact this
      exact hsp il L.nd hil
    rw [List.map_append]
    exact (m2.append_right _).trans hp.symm
  · have hm : ∀ q, R.G D s (R.hp R.ord.length).n.n q = true → R.G (addD D i) s (R.hp R.ord.length).n.n q = true := fun q hq => R.G_mono (fun _ h => .inr h) (Nat.le_refl _) hq
    rcases List.mem_append.1 hy with hy | hy
    · exact ⟨V.rf_mono hm (m3 y hy).1, V.rf_mono hm (m3 y hy).2⟩
    · rw [List.mem_singleton.1 hy]
      obtain ⟨ko, vo, u1, u2, u3, u4⟩ := up_mem hin hc
      have hu : ∀ {z : V}, z.rk (pL (R.hp jm).n) = true → z ≠ .u → z.rf (R.G D s (R.hp R.ord.length).n.n) = true → z.rf (R.G (addD D i) s (R.hp R.ord.length).n.n) = true := fun _ _ h => V.rf_mono hm h
      have k1 := E.rk1
      have k2 := E.rk2
      have k3 := (keyB_nU E.key).2
      have k4 : x.2.2 ≠ .u := pl_u E.pl
      exact ⟨hu k1 k3 (ev_eq hOT u1 u3 q2.symm k3 (V.nU_rk k1)).2, hu k2 k4 (ev_eq hOT u2 u4 q3.symm k4 (V.nU_rk k2)).2⟩
end
theorem after_mem {x y : Nat} : ∀ {l : List Nat} {j j' : Nat}, l[j]? = some x → x ∉ l.take j → l[j']? = some y → j < j' → y ∈ (l.dropWhile (· != x)).drop 1
  | [], j, _, h, _, _, _ => by simp at h
  | c :: l, 0, j', h, _, h2, h3 => by
    simp only [List.getElem?_cons_zero, Option.some.injEq] at h
    subst h
    rw [List.dropWhile_cons, if_neg (by simp)]
    obtain ⟨k, rfl⟩ : ∃ k, j' = k + 1 := ⟨j' - 1, by omega⟩
    simp only [List.getElem?_cons_succ] at h2
    simpa using List.mem_of_getElem? h2
  | c :: l, j + 1, j', h, hn, h2, h3 => by
    simp only [List.take_succ_cons, List.mem_cons, not_or] at hn
    obtain ⟨k, rfl⟩ : ∃ k, j' = k + 1 := ⟨j' - 1, by omega⟩
    simp only [List.getElem?_cons_succ] at h h2
    rw [List.dropWhile_cons, if_pos (by simp; exact fun c => hn.1 c.symm)]
    exact after_mem h hn.2 h2 (by omega)
section
variable {Y : Lay} {P : Program} {ζ : (Nat → Int) × Nat} {N M : Nat} {κ : KP} {cal : Cal} {ro : Option Nat} {n : Nat}
theorem ents_all {R : Reg Y P N M κ cal} : ∀ {il : List Nat}, (∀ i ∈ il, ∃ g, R.gl[i]? = some g) → ((il.filterMap fun i => R.gl[i]?).map (entOf (R.tm R.ord.length))).map (·.2) = il.map R.ent
  | [], _ => rfl
  | i :: il, h => by
    obtain ⟨g, hg⟩ := h i List.mem_cons_self
    have ih := ents_all (R := R) (il := il) fun k hk => h k (List.mem_cons_of_mem _ hk)
    rw [List.filterMap_cons, hg]
    simp only [List.map_cons]
    rw [ih]
    congr 1
    unfold Reg.ent
    rw [hg]
theorem WI.finT {R : Reg Y P N M κ cal} {D : Nat → Prop} {a : Act} {w : World} {s : Nat} {e : Env} (W : WI R D a w s e) (hD : ∀ i, i < R.ops.size → D i) : TR e (R.tm R.ord.length) a.tmps ∧ (R.tm R.ord.length).rf (Pth.ok (R.hp R.ord.length).n.n) = true := by
  have hall : ∀ (j i : Nat), R.ord[j]? = some i → D i := fun j i h => by
    obtain ⟨o, g, x, st, _, H⟩ := R.pos j i h
    exact hD i (Array.getElem?_eq_some_iff.1 H.ho).1
  refine ⟨fun p => ?_, ?_⟩
  · by_cases hex : ∃ (k : Nat) (o : Oper), R.ops[k]? = some o ∧ o.dst = some p.n
    · obtain ⟨k, o, k1, k2⟩ := hex
      obtain ⟨j, hj⟩ := R.all k (Array.getElem?_eq_some_iff.1 k1).1 (R.noins k1 k2)
      have := (W.vals j k o p.n hj (hall j k hj) k1 k2).2
      have h2 := R.tm_dst hj k1 k2 (j := R.ord.length) (List.getElem?_eq_some_iff.1 hj).1 (Nat.le_refl _)
      rw [Pth.of_of] at h2
      rw [h2]; exact this
    · rw [R.tm_oth (Nat.le_refl _) fun j' i o _ _ h3 h4 => hex ⟨i, o, h3, h4⟩, W.oth p.n fun i o h1 _ h3 => hex ⟨i, o, h1, h3⟩]
      exact (R.ts.tr p).imp id (W.cum.agr.is (Tr.rf_gt R.ts.rf))
  · have key : ∀ j, j ≤ R.ord.length → (R.tm j).rf (Pth.ok (R.hp R.ord.length).n.n) = true := by
      intro j
      induction j with
      | zero => intro _; exact Tr.ok_mono (R.mono (Nat.zero_le _) (Nat.le_refl _)) R.ts.rf
      | succ m ih =>
        intro hm
        have hom : R.ord[m]? = some R.ord[m] := List.getElem?_eq_getElem (by omega)
        obtain ⟨o, g, x, st, k1, k2, k3, k4, k5⟩ := R.at_ hom
        obtain ⟨_, hd, _, _⟩ := compG_op k5
        rw [k4, hd]
        cases hdst : o.dst with
        | none => exact ih (by omega)
        | some d =>
          refine Tr.rf_st (ih (by omega)) (V.rf_mono (fun q hq => ?_) (W.vals m _ o d hom (hall m _ hom) k2.ho hdst).1)
          rw [Pth.ok_iff]
          rcases (R.G_iff).1 hq with h | ⟨h, _⟩
          · have := R.mono W.sle (Nat.le_refl _); omega
          · have := R.mono (j := m + 1) (j' := R.ord.length) hm (Nat.le_refl _); omega
    exact key _ (Nat.le_refl _)
theorem okX2_ok {ops : Array Oper} {gl : List GJ} {done : List Nat} {i : Nat} {o : Oper} {g : GJ} {s : List Nat} (h : okX2 ops gl (dlOf ops) done (done.map (infOf ops gl)) i o g s (o.looksAt ops) = true) : okX ops gl done i o g s = true := by
  unfold okX2 at h
  simp only [Bool.and_eq_true] at h
  obtain ⟨⟨⟨⟨⟨⟨h1, h2⟩, h3⟩, h4⟩, h5⟩, h6⟩, h7⟩ := h
  unfold okX
  simp only [Bool.and_eq_true]
  refine ⟨⟨⟨⟨⟨⟨h1, h2⟩, h3⟩, ?_⟩, ?_⟩, ?_⟩, h7⟩
  · rw [List.all_eq_true]
    intro k hk
    cases hd : (ops[k]?).bind (·.dst) with
    | none => rfl
    | some d =>
      have : (k, d) ∈ dlOf ops := List.mem_filterMap.2 ⟨k, hk, by rw [hd]; rfl⟩
      exact List.all_eq_true.1 h4 _ this
  · cases hd : o.dst with
    | none => rfl
    | some d =>
      rw [hd] at h5
      rw [List.all_eq_true]
      intro k hk
      have := List.all_eq_true.1 h5 _ (List.mem_map.2 ⟨k, hk, rfl⟩)
      simp only [infOf] at this
      rw [Bool.or_comm]
      cases ho : ops[k]? with
      | none => rfl
      | some o' => rw [ho] at this; exact this
  · rw [List.all_eq_true]
    intro k hk
    have := List.all_eq_true.1 h6 _ (List.mem_map.2 ⟨k, hk, rfl⟩)
    simp only [infOf] at this
    rw [Bool.or_comm]
    exact this
theorem mkX2_ok {ops : Array Oper} {gl : List GJ} : ∀ (rest : List Nat) (tbl : List (Nat × List Nat)) (l : List XJ), mkX2 ops gl (dlOf ops) tbl ((tbl.map (·.1)).map (infOf ops gl)) rest = some l → mkX ops gl tbl rest = some l
  | [], _, _, h => h
  | i :: rest, tbl, l, h => by
    simp only [mkX2] at h
    simp only [mkX]
    split at h
    · rename_i o g ho hg
      split at h
      · rename_i hok
        rw [if_pos (okX2_ok hok)]
        split at h
        · rename_i l' hl'
          have e : ((tbl ++ [(i, ancOf ops tbl i)]).map (·.1)).map (infOf ops gl) = (tbl.map (·.1)).map (infOf ops gl) ++ [infOf ops gl i] := by simp
          rw [mkX2_ok rest (tbl ++ [(i, ancOf ops tbl i)]) l' (by rw [e]; exact hl')]
          exact h
        · cases h
      · cases h
    · cases h
theorem drm_snd (hm : P.follows .mixedOrders = true) (HC : CalOk Y P κ cal) (hNM : N ≤ M) :
  ∀ id ops gl im dm d, compGs Y P N ops ops.toList = some gl → compDm ops gl im dm = some d → ∀ (t : T) (h : Hp) (kn kr : KT) (kx : Nat → KT) (r : RES), exD d cal t h kn kr kx = some r →
    ∀ (e : Env) (a : Act) (w : World), EK e κ → Rel e h w → Gl Y e (Pth.ok h.n.n) → TS P M e h t a → (Code.region id ops true).wpIn (wd ro) n P (QE P M kn kr kx r e h w) a w := by
  intro id ops gl im dm d hgl hd t h kn kr kx r hr e a w hκ hR hG hS
  unfold compDm at hd
  simp only at hd
  generalize ordM ops gl im = ord at hd
  split at hd
  rotate_left
  · cases hd
  rename_i hall
  simp only [Bool.and_eq_true] at hall
  obtain ⟨⟨⟨⟨c1, c2⟩, c3⟩, c4⟩, c5⟩ := hall
  obtain ⟨xs, hx, rfl⟩ := Option.map_eq_some_iff.1 hd
  have hx := mkX2_ok ord [] xs hx
  obtain ⟨hlen, hpos⟩ := mkX_pos ord [] xs (fun k D _ _ x hx => by cases hx) hx
  obtain ⟨g1, g2⟩ := compGs_get hgl
  have hgg : ∀ (i : Nat) (o : Oper) (g : GJ), ops[i]? = some o → gl[i]? = some g → compG Y P N ops o = some g := fun i o g ho hg => g2 i o g (by simpa using ho) hg
  have hpos2 : ∀ (j i : Nat), ord[j]? = some i → ∃ o g x s, xs[j]? = some x ∧ PosOk ops gl (ord.take j) i o g x s := fun j i hj => by simpa using hpos j i hj
  have hxg : ∀ {x : XJ} {g : GJ} {s done : List Nat}, x = (if g.kind = 3 then .hv g (chkOf gl s done) else .lt g) → x.g = g ∧ ∀ c ∈ x.chk, c ∈ chkOf gl s done := fun {x g s done} h => by
    rw [h]
    split
    · exact ⟨rfl, fun c hc => hc⟩
    · exact ⟨rfl, fun c hc => by cases hc⟩
  have nice : ∀ x ∈ xs, (∀ (t : T) (h : Hp) (k : KT) (r : RES), exG x.g cal t h k = some r → ∃ v h', Does x.g cal t h v h') ∧ ∀ c ∈ x.chk, ∀ (t : T) (h : Hp) (f : V → Ans) (r : RES), lk1 c t h f = some r → ∃ u, Does c cal t h u h ∧ f u = some r := fun x hx => by
    obtain ⟨j, hj⟩ := List.mem_iff_getElem?.1 hx
    have hjl : j < ord.length := by rw [← hlen]; exact (List.getElem?_eq_some_iff.1 hj).1
    obtain ⟨o, g, x', s, h1, H⟩ := hpos2 j ord[j] (List.getElem?_eq_getElem hjl)
    rw [hj] at h1; cases h1
    obtain ⟨e1, e2⟩ := hxg H.x
    refine ⟨fun t h k r hr => ?_, fun c hc t h f r hr => ?_⟩
    · rw [e1] at hr ⊢
      obtain ⟨v, h', i1, _⟩ := does_all HC (hgg _ o g H.ho H.hg) H.plain hr
      exact ⟨v, h', i1⟩
    · obtain ⟨k, k1, k2, k3⟩ := chkOf_mem (e2 c hc)
      obtain ⟨j', q1, q2⟩ := mem_take_iff.1 k1
      obtain ⟨o', g', x', s', _, H'⟩ := hpos2 j' k q2
      have := H'.hg
      rw [k2] at this; cases this
      exact lk1_out (hgg k o' c H'.ho k2) k3 hr
  obtain ⟨val, hp, tm, q1, q2, q3, q4⟩ := exXs_trace xs nice t h _ r (show exXs xs cal t h (fun t h => mlK (.t (Pth.of dm)) (((List.range ops.size).filter (insB ops)).filterMap fun i => gl[i]?) t h fun h => kn t h) = some r from hr)
  have S0 := Step.drew hR (w.drawn + 1)
  obtain ⟨om, dp, hom, hgm, hmk, hdm⟩ : ∃ om dp, ops[im]? = some om ∧ gl[im]? = some (.g (some dp) .mkmap) ∧ isMk om = true ∧ om.dst = some dm := by
    unfold mkAt at c1
    split at c1
    · rename_i o d h1 h2
      simp only [Bool.and_eq_true, beq_iff_eq] at c1
      exact ⟨o, d, h1, h2, c1.1.1, c1.1.2⟩
    · cases c1
  have himl : im < ops.size := (Array.getElem?_eq_some_iff.1 hom).1
  have himn : insB ops im = false := by
    unfold insB
    rw [hom]
    show isIn om = false
    unfold isMk at hmk
    split at hmk
    · rename_i h1; unfold isIn; rw [h1]
    · cases hmk
  have hall : ∀ i, i < ops.size → insB ops i = false → ∃ j : Nat, ord[j]? = some i := fun i hi hn => by
    have := List.all_eq_true.1 c2 i (List.mem_range.2 hi)
    rw [hn, Bool.false_or] at this
    exact List.mem_iff_getElem?.1 (by simpa using this)
  obtain ⟨jm, hjm⟩ := hall im himl himn
  have hkm : kindOf gl im = 2 := by unfold kindOf; rw [hgm]; rfl
  have hins : ∀ i, insB ops i = true → i < ops.size ∧ okIn ops gl im dm i = true := fun i hi => by
    have hlt : i < ops.size := by
      unfold insB at hi
      split at hi
      · rename_i o ho; exact (Array.getElem?_eq_some_iff.1 ho).1
      · cases hi
    exact ⟨hlt, List.all_eq_true.1 c4 i (List.mem_filter.2 ⟨List.mem_range.2 hlt, hi⟩)⟩
  have hok : ∀ i, insB ops i = true → ∃ o ks pm k v, ops[i]? = some o ∧ gl[i]? = some (.g none (.up ks (.t pm) k v)) ∧ o.dst = none ∧ o.guard = none ∧ im ∈ predsOf ops i ∧ (∀ p, Operand.tmp p ∈ o.op.operands → ∃ k ∈ predsOf ops i, ∃ ok, ops[k]? = some ok ∧ ok.dst = some p) ∧ ∀ p ∈ predsOf ops i, p < ops.size ∧ insB ops p = false := fun i hi => by
    have := (hins i hi).2
    unfold okIn at this
    split at this
    · rename_i _ _ o ks pm kk vv h1 h2
      simp only [Bool.and_eq_true, beq_iff_eq, List.all_eq_true, decide_eq_true_eq, Bool.not_eq_true'] at this
      obtain ⟨⟨⟨⟨⟨d1, d2⟩, d3⟩, d4⟩, d5⟩, d6⟩ := this
      refine ⟨o, ks, pm, kk, vv, h1, h2, d1, d2, by simpa using d4, fun p hp => ?_, fun p hp => d6 p hp⟩
      have := d5 (.tmp p) (by simpa using hp)
      simp only [List.any_eq_true, beq_iff_eq] at this
      obtain ⟨k, k1, k2⟩ := this
      obtain ⟨ok, k3, k4⟩ := Option.bind_eq_some_iff.1 k2
      exact ⟨k, k1, ok, k3, k4⟩
    · cases this
  have hlater : ∀ j' i' : Nat, jm < j' → ord[j']? = some i' → kindOf gl i' = 0 := fun j' i' h1 h2 => by
    obtain ⟨_, _, _, _, _, H⟩ := hpos2 jm im hjm
    have := List.all_eq_true.1 c5 i' (after_mem hjm H.nodup h2 h1)
    simpa using this
  have huniq : ∀ j : Nat, ord[j]? = some im → j = jm := fun j h => by
    obtain ⟨_, _, _, _, _, H⟩ := hpos2 jm im hjm
    obtain ⟨_, _, _, _, _, H'⟩ := hpos2 j im h
    rcases Nat.lt_trichotomy j jm with c | c | c
    · exact absurd (mem_take_iff.2 ⟨j, c, h⟩) H.nodup
    · exact c
    · exact absurd (mem_take_iff.2 ⟨jm, c, hjm⟩) H'.nodup
  let R : Reg Y P N M κ cal := {
    ops := ops, gl := gl, ord := ord, xs := xs, val := val, hp := hp, tm := tm, e0 := e, a0 := a, w0 := { w with drawn := w.drawn + 1 }
    HC := HC, hNM := hNM, hgl := hgg, pos := hpos2
    ins := insB ops, im := im
    insd := fun i o ho hi => by
      obtain ⟨o', _, _, _, _, h1, _, h2, _⟩ := hok i hi
      rw [ho] at h1; cases h1; exact h2
    insn := fun j i hj => by simpa using List.all_eq_true.1 c3 i (List.mem_of_getElem? hj)
    imz := fun j j' i' h1 h2 h3 => by
      have := huniq j h1
      subst this
      rcases Nat.lt_trichotomy j' j with c | c | c
      · exact c
      · subst c; rw [h1] at h2; cases h2; omega
      · have := hlater j' i' c h2; omega
    all := hall
    len := hlen, trc := q4, hκ := hκ, rel := by rw [q2]; exact S0.rel, gly := by rw [q2]; exact hG, ts := by rw [q1, q2]; exact hS }
  have hjl : jm < ord.length := (List.getElem?_eq_some_iff.1 hjm).1
  obtain ⟨hh, hv⟩ : hp (jm + 1) = (hp jm).push (.mp [] 0) ∧ val jm = .s (.mp (hp jm).n) := by
    obtain ⟨o, g, x, st, k1, k2, k3, k4, k5⟩ := R.at_ (show R.ord[jm]? = some im from hjm)
    have hg' := k2.hg
    have hg' : gl[im]? = some g := hg'
    rw [hgm] at hg'; cases hg'
    obtain ⟨d1, d2⟩ := k3.eq (v2 := .s (.mp (hp jm).n)) (h2 := (hp jm).push (.mp [] 0)) fun k => by
      show (hp jm).pushK (.mp [] 0) (fun h' => putK (some dp) (tm jm) (.s (.mp (hp jm).n)) fun t => k t h') = _
      rw [Hp.pushK_eq, putK_eq]; rfl
    exact ⟨d1, d2 dp rfl⟩
  have hsame : ∀ m, jm + 1 ≤ m → m ≤ ord.length → hp m = hp (jm + 1) := by
    intro m
    induction m with
    | zero => intro c1 _; omega
    | succ m ih =>
      intro c1 c2
      by_cases hsm : jm = m
      · rw [hsm]
      · have homm : R.ord[m]? = some R.ord[m] := List.getElem?_eq_getElem (show m < ord.length by omega)
        obtain ⟨o3, g3, x3, s3, k1, k2, k3, k4, k5⟩ := R.at_ homm
        have hk0 := hlater m _ (by omega) homm
        rw [R.kd k2.hg] at hk0
        have := (R.does (i := R.ord[m]) k5 k2.plain k3).1 (by omega)
        have this : hp (m + 1) = hp m := this
        rw [this]
        exact ih (by omega) (by omega)
  have hend : hp ord.length = (hp jm).push (.mp [] 0) := by rw [hsame ord.length (by omega) (Nat.le_refl _), hh]
  rw [hlen] at q3
  obtain ⟨sv, f1, f2⟩ := asS_some (show asS (ev (tm ord.length) (.t (Pth.of dm))) _ = some r from q3)
  have hevm : ev (tm ord.length) (.t (Pth.of dm)) = .s (.mp (hp jm).n) := by
    have := R.tm_dst (show R.ord[jm]? = some im from hjm) (show R.ops[im]? = some om from hom) hdm (j := ord.length) hjl (Nat.le_refl _)
    have this : gt vu (Pth.of dm) (tm ord.length) = val jm := this
    rw [← hv, ← this]; rfl
  rw [hevm] at f1
  cases f1
  obtain ⟨q, f3, f4⟩ := mpS_some f2
  cases f3
  obtain ⟨e0, ck0, f5, f6⟩ := mpK_some f4
  have f6' : ∃ z, onB (Nat.blt (hp jm).n.n (hp ord.length).n.n) z none = some r ∧ z = mlL (tm ord.length) (hp jm).n (((List.range ops.size).filter (insB ops)).filterMap fun i => gl[i]?) fun l => onB (dstB l) ((hp ord.length).setK (hp jm).n (.ml (entL l)) fun h => kn (tm ord.length) h) none := by
    cases e0 with
    | nil => exact ⟨_, f6, rfl⟩
    | cons _ _ => cases f6
  obtain ⟨z, f7, f8⟩ := f6'
  obtain ⟨_, f9⟩ := onB_t f7
  rw [f8] at f9
  obtain ⟨f10, f11⟩ := mlL_some f9
  obtain ⟨f12, f13⟩ := onB_t f11
  rw [Hp.setK_eq] at f13
  have L : LitR R jm dm ((List.range ops.size).filter (insB ops)) := {
    hjm := hjm, hk := hkm, hv := hv, hh := hh
    ii := fun i hi => by
      rw [List.mem_filter, List.mem_range]
      exact ⟨fun h => ⟨hi, h⟩, fun h => h.2⟩
    nd := List.nodup_range.filter _
    gl := fun i hi => by
      have hi2 := (List.mem_filter.1 hi).2
      obtain ⟨o, ks, pm, k, v, h1, h2, h3, h4, h5, h6, h7⟩ := hok i hi2
      refine ⟨_, o, h2, h1, ?_, f10 _ (List.mem_filterMap.2 ⟨i, hi, h2⟩), h4, h5, h6⟩
      unfold insB at hi2
      rw [h1] at hi2; exact hi2
    pr := fun i hi p hp => by
      obtain ⟨o, ks, pm, k, v, h1, h2, h3, h4, h5, h6, h7⟩ := hok i hi
      exact h7 p hp
    dst := by
      have := dstB_out f12
      rw [List.pairwise_map, List.pairwise_filterMap] at this
      exact this.imp fun h g g' h1 h2 => h g h1 g' h2
    imn := himn }
  refine wpIn_region_any hm (any_wp R (Γ := fun D _ w s e => R.MI jm ((List.range ops.size).filter (insB ops)) D w s e) (fun W H hn hi _ W' K' => MI_step L W H hn hi W' K') (fun W H hi hlt hnd hpr hK => MI_ins L W H hi hlt hnd hpr hK) L.pr (fun D a' w' s' e' W H hD => ?_) ops.size _ (List.range ops.size) a _ 0 e (by simp; rfl) (by simp) (fun i hi _ => List.mem_range.2 hi) ?_ ?_)
  · obtain ⟨es, ck, m1, m2, m3⟩ := H (hD im himl)
    have hlt : ∀ {j i : Nat}, ord[j]? = some i → i < ops.size := fun h => by
      obtain ⟨o, g, x, s, _, H⟩ := hpos2 _ _ h
      exact (Array.getElem?_eq_some_iff.1 H.ho).1
    obtain ⟨C1, C2, C3⟩ := W.catch (L.sj W) (Nat.le_of_lt hjl) (fun j' i c1 _ c3 c4 => W.nohv j' i c1 c3 c4 (hD i (hlt c3))) (fun j' i _ _ c3 _ => hD i (hlt c3)) (fun j' i _ c2 c3 c4 => by
      have c4 : i = im := c4
      have := huniq j' (by rw [← c4]; exact c3)
      omega)
    obtain ⟨x0, _, _, _, _, hl0, hf0, _⟩ := W.pend jm im (L.sj W) hjm hkm (hD im himl)
    have hents : R.ents ((List.range ops.size).filter (insB ops)) D = entL ((((List.range ops.size).filter (insB ops)).filterMap fun i => gl[i]?).map (entOf (tm ord.length))) := by
      rw [entL_eq]
      have := ents_all (R := R) (il := (List.range ops.size).filter (insB ops)) fun i hi => by
        obtain ⟨g, _, h1, _⟩ := L.gl i hi
        exact ⟨g, h1⟩
      refine Eq.trans ?_ this.symm
      unfold Reg.ents
      congr 1
      rw [List.filter_eq_self]
      intro i hi
      simp only [decide_eq_true_eq]
      exact hD i (List.mem_range.1 (List.mem_filter.1 hi).1)
    rw [hents] at m2
    have hB : (B.ml (entL ((((List.range ops.size).filter (insB ops)).filterMap fun i => gl[i]?).map (entOf (tm ord.length))))).ok (hp jm).n.n = true := by
      show List.all _ _ = true
      rw [List.all_eq_true, entL_eq]
      intro y hy
      obtain ⟨x, h1, rfl⟩ := List.mem_map.1 hy
      obtain ⟨g, h2, rfl⟩ := List.mem_map.1 h1
      have E := f10 g h2
      simp only [Bool.and_eq_true]
      exact ⟨E.rk1, E.rk2⟩
    have S := C1.join (x := .ml (entL ((((List.range ops.size).filter (insB ops)).filterMap fun i => gl[i]?).map (entOf (tm ord.length))))) ⟨es, ck, m1, m2⟩ hB (C3 jm im (Nat.le_refl _) hjm hkm (hD im himl)) hf0
    have hH2 : Hp.Sim ((hp jm).push (.ml (entL ((((List.range ops.size).filter (insB ops)).filterMap fun i => gl[i]?).map (entOf (tm ord.length)))))) ((hp ord.length).set (hp jm).n (.ml (entL ((((List.range ops.size).filter (insB ops)).filterMap fun i => gl[i]?).map (entOf (tm ord.length)))))) := by
      rw [hend]
      refine ⟨rfl, rfl, rfl, fun p _ => ?_⟩
      rw [Hp.at_set, Hp.at_push, Hp.at_push]
      split <;> rfl
    have S2 : Step e (hp 0) { w with drawn := w.drawn + 1 } e' _ w' := S.sim (.refl _) hH2 (by rw [hend]; exact C1.fz) (by rw [hend]; exact C1.ch)
    rw [q2] at S2
    obtain ⟨T1, T2⟩ := W.finT hD
    refine QE.of (kn := kn) (kr := kr) (kx := kx) (ex := .normal) rfl (S0.trans S2) ⟨W.tsz, T1, T2, ?_⟩ f13 (.refl _ _)
    have hdf : (hp ord.length).df = (hp jm).df := by rw [hend]; rfl
    show DfR P e' (hp ord.length).n.n (hp ord.length).df a'.defers
    rw [hdf]
    exact C2.agr (Agr.refl _ _) (by rw [hend, Hp.n_push]; exact Nat.le_succ _)
  · have hD0 : ∀ i, ¬ Ds (Array.replicate ops.size false) i := fun i h => by
      unfold Ds at h
      simp [Array.getD] at h
    have hrel : Rel e (hp 0) { w with drawn := w.drawn + 1 } := by rw [q2]; exact S0.rel
    exact ⟨fun i hi => absurd hi (hD0 i), Nat.zero_le _, fun j i hj => by omega, fun j i _ _ _ => hD0 i, .inl rfl, .refl hrel, fun j i o d _ hi => absurd hi (hD0 i), fun p _ => rfl, hS.size, by show DfR P e (hp 0).n.n (hp 0).df a.defers; rw [q2]; exact hS.df, fun j i _ _ _ hi => absurd hi (hD0 i), fun j i j' i' _ _ _ _ _ _ hi => absurd hi (hD0 i)⟩
  · intro h
    have h : (Array.replicate ops.size false).getD im false = true := h
    simp [Array.getD] at h
theorem drw_snd (hm : P.follows .mixedOrders = true) (HC : CalOk Y P κ cal) (hNM : N ≤ M) : DrwOk Y P N M κ cal ro n := by
  intro id ops gl d hgl hd hs
  unfold compDr at hd
  split at hd
  · exact drw_snd0 hm HC hNM id ops gl d hgl hd hs
  · split at hd
    · split at hd
      · exact drm_snd hm HC hNM id ops gl _ _ d hgl hd
      · cases hd
    · cases hd
theorem cal_ok {prog : Tr FJ} (hm : P.follows .mixedOrders = true) (HP : ProgOk Y P prog) (k : Nat) : CalOk Y P (kp Y P ζ) (calN prog k) :=
  calN_ok HP (fun cal HC N M ro n hNM => drw_snd hm HC hNM) k
end
noncomputable def calM (prog : Tr FJ) (nat : Cal) (n : Nat) : Cal := Nat.rec (motive := fun _ => Cal) nat (fun _ ih s args h => Option.rec (calS prog ih s args h) (fun r => some r) (nat s args h)) n
section
variable {Y : Lay} {P : Program} {ζ : (Nat → Int) × Nat} {prog : Tr FJ} {nat : Cal}
theorem calM_ok (hm : P.follows .mixedOrders = true) (HP : ProgOk Y P prog) (HN : CalOk Y P (kp Y P ζ) nat) : ∀ n, CalOk Y P (kp Y P ζ) (calM prog nat n)
  | 0 => HN
  | n + 1 => fun s args h r hr => by
    have ih := calM_ok hm HP HN n
    have hr : (Option.casesOn (nat s args h) (calS prog (calM prog nat n) s args h) fun r => some r : Ans) = some r := hr
    cases hn : nat s args h with
    | none =>
      rw [hn] at hr
      exact calS_ok HP ih (fun N M ro n hNM => drw_snd hm ih hNM) s args h r hr
    | some r' =>
      rw [hn] at hr
      cases hr
      exact HN s args h _ hn
theorem noCal_ok {κ : KP} : CalOk Y P κ noCal := fun s args h r hr => by cases hr
noncomputable def orC (a b : Cal) : Cal := fun s args h => Option.rec (b s args h) (fun r => some r) (a s args h)
theorem orC_ok {κ : KP} {a b : Cal} (ha : CalOk Y P κ a) (hb : CalOk Y P κ b) : CalOk Y P κ (orC a b) := fun s args h r hr => by
  have hr : (Option.casesOn (a s args h) (b s args h) fun r => some r : Ans) = some r := hr
  cases hn : a s args h with
  | none => rw [hn] at hr; exact hb s args h r hr
  | some r' => rw [hn] at hr; cases hr; exact ha s args h _ hn
noncomputable def vsEq (a : List V) : List V → Bool :=
  List.rec (motive := fun _ => List V → Bool) (fun b => List.rec true (fun _ _ _ => false) b) (fun x _ ih b => List.rec false (fun y b _ => and (vEq x y) (ih b)) b) a
theorem vsEq_eq : ∀ {a b : List V}, vsEq a b = true → a = b
  | [], [], _ => rfl
  | [], _ :: _, h => by cases h
  | _ :: _, [], h => by cases h
  | x :: a, y :: b, h => by
    obtain ⟨h1, h2⟩ := and_t (show and (vEq x y) (vsEq a b) = true from h)
    rw [vEq_eq h1, vsEq_eq h2]
noncomputable def simB (a b : Hp) : Bool := and (Nat.beq a.n.n b.n.n) (hpEq a.n.n a b)
theorem simB_sim {a b : Hp} (h : simB a b = true) : Hp.Sim a b := by
  obtain ⟨h1, h2⟩ := and_t h
  obtain ⟨i1, i2, i3⟩ := hpEq_eq h2
  exact ⟨Pth.inj (nat_eq h1).symm, i1, i2, i3⟩
noncomputable def memC (f : Pth) (A : List V) (H : Hp) (v : V) (H' : Hp) : Cal := fun s args h =>
  S.rec (fun _ => none) (fun _ _ => none) (fun _ _ => none) none (fun _ _ _ _ => none) none (fun _ _ => none) (fun f' cs => List.rec (onB (Nat.beq f.n f'.n) (onB (vsEq A args) (onB (simB H h) (Hp.rec (fun _ _ _ _ fz df ch => Hp.rec (fun b n er eq _ _ _ => some (v, Hp.mk b n er eq fz df ch)) H') h) none) none) none) (fun _ _ _ => none) cs) (fun _ _ _ _ => none) none (fun _ => none) (fun _ => none) none (fun _ => none) none (fun _ _ => none) s
theorem memC_ok {κ : KP} {cal : Cal} (HC : CalOk Y P κ cal) {f : Pth} {A : List V} {H : Hp} {v : V} {H' : Hp} (hr : cal (.fn f []) A H = some (v, H')) : CalOk Y P κ (memC f A H v H') := fun s args h r h1 e w xs hκ hR hG hs hf hx => by
  cases s <;> first | (cases h1; done) | skip
  rename_i f' cs
  cases cs with
  | cons _ _ => cases h1
  | nil =>
    obtain ⟨c1, h2⟩ := onB_t (show onB (Nat.beq f.n f'.n) _ none = some r from h1)
    obtain ⟨c2, h3⟩ := onB_t h2
    obtain ⟨c3, h4⟩ := onB_t h3
    clear h1 h2 h3
    have c1 := Pth.inj (nat_eq c1)
    have c2 := vsEq_eq c2
    have S := simB_sim c3
    subst c1
    subst c2
    obtain ⟨b, n, er, eq, fz, df, ch⟩ := h
    obtain ⟨b', n', er', eq', fz', df', ch'⟩ := H'
    cases h4
    have hn : (Hp.mk b n er eq fz df ch).n = H.n := S.n
    have hC := HC _ _ _ _ hr e w xs hκ (hR.sim S.symm) (by rw [← hn]; exact hG) hs (by rw [← hn]; exact hf) hx
    refine hC.mono fun x w' ⟨e', i1, i2, i3, i4⟩ => ⟨e', i1.sim S ⟨rfl, rfl, rfl, fun _ _ => rfl⟩ rfl rfl, rfl, i3, i4⟩
noncomputable def runB (r : Ans) (v : V) (H : Hp) : Bool := Option.rec false (fun q => Prod.rec (fun v' h' => and (vEq v v') (simB H h')) q) r
theorem runB_out {r : Ans} {v : V} {H : Hp} (h : runB r v H = true) : ∃ h', r = some (v, h') ∧ Hp.Sim H h' := by
  cases r with
  | none => cases h
  | some q =>
    obtain ⟨v', h'⟩ := q
    obtain ⟨h1, h2⟩ := and_t (show and (vEq v v') (simB H h') = true from h)
    rw [vEq_eq h1]
    exact ⟨h', rfl, simB_sim h2⟩
theorem memR_ok {κ : KP} {cal : Cal} (HC : CalOk Y P κ cal) {f : Pth} {A : List V} {H : Hp} {v : V} {H' : Hp} (hr : runB (cal (.fn f []) A H) v H' = true) : CalOk Y P κ (memC f A H v H') := fun s args h r h1 e w xs hκ hR hG hs hf hx => by
  obtain ⟨h2, hr2, S2⟩ := runB_out hr
  cases s <;> first | (cases h1; done) | skip
  rename_i f' cs
  cases cs with
  | cons _ _ => cases h1
  | nil =>
    obtain ⟨c1, h3⟩ := onB_t (show onB (Nat.beq f.n f'.n) _ none = some r from h1)
    obtain ⟨c2, h4⟩ := onB_t h3
    obtain ⟨c3, h5⟩ := onB_t h4
    clear h1 h3 h4
    have c1 := Pth.inj (nat_eq c1)
    have c2 := vsEq_eq c2
    have S := simB_sim c3
    subst c1
    subst c2
    obtain ⟨b, n, er, eq, fz, df, ch⟩ := h
    obtain ⟨b', n', er', eq', fz', df', ch'⟩ := H'
    cases h5
    have hn : (Hp.mk b n er eq fz df ch).n = H.n := S.n
    have hC := HC _ _ _ _ hr2 e w xs hκ (hR.sim S.symm) (by rw [← hn]; exact hG) hs (by rw [← hn]; exact hf) hx
    refine hC.mono fun x w' ⟨e', i1, i2, i3, i4⟩ => ⟨e', i1.sim S ⟨S2.symm.n, S2.symm.er, S2.symm.eq, fun p hp => S2.symm.at_ p hp⟩ rfl rfl, rfl, i3, ?_⟩
    have : h2.n = n' := S2.n
    rw [← this]; exact i4
end
open Go.ChangeShapes Go.WideShapes
section
variable {H : Type} {enc : TypeId × Value → H} {P : Program} {W W' : World}
structure Still (W W' : World) : Prop where
  os : W'.os = W.os
  output : W'.output = W.output
  heap : ∀ b, b < W.heap.size → W'.heap[b]? = W.heap[b]?
theorem Still.keptBut (h : Still W W') (may : MemPlace → Prop) : W.keptBut W' may := by
  refine ⟨h.os, h.output, fun i hi => ?_⟩
  rw [h.heap i hi]
  split
  · rename_i e1 e2
    cases e1.symm.trans e2
    exact ⟨rfl, rfl, rfl, fun _ _ => rfl⟩
  · rename_i e1 e2
    cases e1.symm.trans e2
    exact .inr ⟨rfl, rfl⟩
  · rfl
theorem Still.cell (h : Still W W') {a : Addr} (ha : a.block < W.heap.size) : W'.cell? a = W.cell? a := by
  simp only [World.cell?, h.heap a.block ha]
theorem Still.frozen (h : Still W W') {a : Addr} (ha : a.block < W.heap.size) : W'.frozen? a = W.frozen? a := by
  simp only [World.frozen?, h.heap a.block ha]
theorem Still.same (h : Still W W') {p : MemPlace} (hp : p.block < W.heap.size) : W.sameAt W' p := by
  cases p with
  | cell b off => exact h.cell hp
  | map b => exact h.heap b hp
theorem law_post {T : TypeId → Prop} {f : Func} {s : ChangeSpec} {args : Array Value} {ds gs : List (DataW H)} {before : List MemPlace} {bt : TypeId} (K : Kids P T) (hz : ∀ t e, T t → P.underlying t = some (.slice e) → 0 < P.cellsOf e)
    (hT : ∀ t, t ∈ f.params.toList → T t) (hv : s.vars = []) (hbt : P.underlying bt = some .bool) (hrt : f.resultTypes = #[bt]) (hfn : s.fn H (ds ++ gs) = { results := [.lit (.bool true)], args := ds }) {apart : Bool}
    (hW : DataW.Whole enc P f.params.toList s.vars apart W args.toList ds gs before) (hS : Still W W') {fresh handsOn : Bool} :
    s.post enc P f apart fresh handsOn false W args (.bool true) W' := by
  obtain ⟨p, q, hA, hV, hb, hfz, hnd⟩ := id hW
  have hlt : ∀ x, x ∈ before → x.block < W.heap.size := fun x hx => hW.lt x hx
  rw [hv] at hV
  obtain ⟨rfl, rfl⟩ := trodVars_none hV
  simp only [List.append_nil] at hb hfn
  subst hb
  have hcarry : ∀ {ts : List TypeId} {vs : List Value} {ds : List (DataW H)} {p : List MemPlace} {sp : Nat → Bool}, DataW.TrodAll enc P W 0 sp true ts vs ds p → (∀ x, x ∈ p → x.block < W.heap.size) → DataW.TrodAll enc P W' 0 sp true ts vs ds p := by
    intro ts
    induction ts with
    | nil =>
      intro vs ds p sp h _
      cases vs <;> cases ds <;> first | exact h | exact h.elim
    | cons t ts ih =>
      intro vs ds p sp h hp
      match vs, ds, h with
      | v :: vs, d :: ds, ⟨p1, p2, ⟨n, h1⟩, h2, e⟩ =>
        exact ⟨p1, p2, ⟨n, DataW.trod_carry n _ _ _ h1 (fun x hx => hS.same (hp x (by rw [e]; exact List.mem_append_left _ hx)))⟩, ih h2 (fun x hx => hp x (by rw [e]; exact List.mem_append_right _ hx)), e⟩
  have hres : ∀ (b : Nat) (sp : Nat → Bool) (hd : Bool), DataW.TrodAll enc P W' b sp hd f.resultTypes.toList ((Value.bool true).resultList f.resultTypes.size) (s.fn H (ds ++ [])).results [] := fun b sp hd => by
    simp only [List.append_nil, hfn, hrt]
    exact ⟨[], [], ⟨1, by simp [DataW.trod, Value.cells, hbt]⟩, rfl, rfl⟩
  have hsp : ∀ sp : Nat → Bool, (∀ x, x ∈ before → sp x.block = true) → DataW.TrodAll enc P W' 0 sp true f.params.toList args.toList (s.fn H (ds ++ [])).args before := fun sp hx => by
    simp only [List.append_nil, hfn]
    exact hcarry (DataW.TrodAll.respare K hz hT hA hx) hlt
  have hvars : ∀ sp : Nat → Bool, DataW.TrodVars enc P W' sp s.vars (s.fn H (ds ++ [])).vars [] := fun sp => by
    simp only [List.append_nil, hfn, hv]; rfl
  refine ⟨ds, [], before, [], before, [], hW, hres _ _ _, hsp _ (fun x hx => decide_eq_true (hlt x hx)), hvars _, hS.keptBut _, fun h => Bool.noConfusion h⟩
end
def slicesFull (P : Program) : Bool := (List.range P.types.size).all fun t => match P.underlying t with
  | some (.slice e) => decide (0 < P.cellsOf e)
  | _ => true
theorem trodAll_length {H : Type} {enc : TypeId × Value → H} {P : Program} {w : World} {b0 : Nat} {sp : Nat → Bool} {held : Bool} : ∀ {ts : List TypeId} {vs : List Value} {ds : List (DataW H)} {p : List MemPlace}, DataW.TrodAll enc P w b0 sp held ts vs ds p → ds.length = ts.length
  | [], vs, ds, p, h => by obtain ⟨_, rfl, _⟩ := trodAll_nil h; rfl
  | t :: ts, vs, ds, p, h => by
    obtain ⟨v, vs', d, ds', p', q, rfl, rfl, rfl, _, h1⟩ := trodAll_cons h
    simp [trodAll_length h1]
def areI : List IntKind → List Value → Prop
  | [], [] => True
  | k :: ks, v :: vs => (∃ n, v = .int k n ∧ (Lit.int k n).wf = true) ∧ areI ks vs
  | _, _ => False
def intTys (P : Program) : List TypeId → Option (List IntKind)
  | [] => some []
  | t :: ts => match P.underlying t, intTys P ts with
    | some (.int k), some l => some (k :: l)
    | _, _ => none
theorem areI_of {H : Type} {enc : TypeId × Value → H} {P : Program} {w : World} {r : Reach} {base b0 : Nat} {sp : Nat → Bool} {held : Bool} : ∀ {ts : List TypeId} {vs : List Value} {ds : List (DataW H)} {p : List MemPlace} {ks : List IntKind},
    (∀ (j : Nat) t v, ts[j]? = some t → vs[j]? = some v → Value.okWide P w r base t v) → DataW.TrodAll enc P w b0 sp held ts vs ds p → intTys P ts = some ks → areI ks vs
  | [], vs, ds, p, ks, _, ht, hk => by
    obtain ⟨rfl, rfl, rfl⟩ := trodAll_nil ht
    simp only [intTys, Option.some.injEq] at hk
    subst hk
    trivial
  | t :: ts, vs, ds, p, ks, hok, ht, hk => by
    obtain ⟨v, vs', d, ds', p', q, rfl, rfl, rfl, h0, h1⟩ := trodAll_cons ht
    simp only [intTys] at hk
    split at hk
    · rename_i k l hu hl
      cases hk
      refine ⟨?_, areI_of (fun j t v ht hv => hok (j + 1) t v (by simpa using ht) (by simpa using hv)) h1 hl⟩
      have hc : v.cells = #[v] := by
        have := hok 0 t v rfl rfl
        unfold Value.okWide at this
        rw [hu] at this
        unfold Cell.okWide at this
        rw [hu] at this
        cases v <;> first | rfl | (simp [Cell.ok, hu] at this)
      obtain ⟨n, h0⟩ := h0
      rw [hc] at h0
      cases n with
      | zero => simp [DataW.trod] at h0
      | succ n =>
        obtain ⟨m, h2, _, h3⟩ := DataW.trod_int hu h0
        simp only [List.cons.injEq, and_true] at h2
        exact ⟨m, h2, h3⟩
    · cases hk
def LawI (P : Program) (f : FuncId) (ks : List IntKind) (L : World → Prop) : Prop := ∀ (W : World) (args : Array Value), L W → areI ks args.toList → Calls P f args W fun e W' => e = .returned (.bool true) ∧ Still W W'
structure RowOkI (P : Program) (f : FuncId) (fn : Func) (s : ChangeSpec) (ks : List IntKind) (L : List (String × DataW Unit)) : Prop where
  own : ownKnob P.godebug = none
  noInit : P.inits.idxOf? f = none
  isf : P.funcs[f]? = some fn
  laid : laidOutB P = true
  rowed : mapsRowed P = true
  full : slicesFull P = true
  params : fn.params.toList.all (fun t => decide (t < P.types.size)) = true
  vars : s.vars = []
  ret : ∃ bt, fn.resultTypes = #[bt] ∧ P.underlying bt = some .bool
  spec : ∀ (H : Type) (ds : List (DataW H)), ds.length = fn.params.toList.length → s.fn H ds = { results := [.lit (.bool true)], args := ds }
  tys : intTys P fn.params.toList = some ks
theorem RowOkI.calls {P : Program} {f : FuncId} {fn : Func} {s : ChangeSpec} {ks : List IntKind} {L : List (String × DataW Unit)} (R : RowOkI P f fn s ks L) (hL : LawI P f ks fun W => laidMetH P L W)
    {H : Type} {enc : TypeId × Value → H} {W : World} {base : Nat} {r : Reach} {args : Array Value} {ds gs : List (DataW H)} {before : List MemPlace} {apart fresh handsOn : Bool}
    (hW0 : laidMetH P L W) (hval : ∀ (j : Nat) t v, fn.params[j]? = some t → args[j]? = some v → Value.okWide P W r base t v) (hW : DataW.Whole enc P fn.params.toList s.vars apart W args.toList ds gs before) :
    Calls P f args W fun e W' => ∃ v, e = .returned v ∧ s.post enc P fn apart fresh handsOn false W args v W' := by
  obtain ⟨bt, hrt, hbt⟩ := R.ret
  obtain ⟨p, q, hA, hV, hb, hfz, hnd⟩ := id hW
  have hc := hL W args hW0 (areI_of (fun j t v h1 h2 => hval j t v (by simpa using h1) (by simpa using h2)) hA R.tys)
  refine hc.mono fun e W' ⟨he, hst⟩ => ⟨_, he, ?_⟩
  have hgs : gs = [] := by
    rw [R.vars] at hV; exact (trodVars_none hV).1
  subst hgs
  refine law_post (kids_rows R.laid R.rowed) (fun t e ht hu => ?_) (fun t ht => ?_) R.vars hbt hrt ?_ hW hst
  · have := R.full
    simp only [slicesFull, List.all_eq_true, List.mem_range] at this
    have := this t ht
    rw [hu] at this
    simpa using this
  · have := R.params
    simp only [List.all_eq_true, decide_eq_true_eq] at this
    exact this t ht
  · simp only [List.append_nil]
    exact R.spec H ds (trodAll_length hA)
theorem RowOkI.lifted {C : Checked} {f : FuncId} {fn : Func} {s : ChangeSpec} {ks : List IntKind} {L : List (String × DataW Unit)} (R : RowOkI C.prog f fn s ks L) (hL : LawI C.prog f ks fun W => laidMetH C.prog L W) {os : Os} (started : os.Started) {H : Type} {enc : TypeId × Value → H} {conds : List PathCond} {apart fresh handsOn : Bool}
    (witness : ∃ (w : World) (tape : Tape) (i : Input), w.os = os ∧ (w.forCall tape i).Shaped C.prog ∧ i.vars = [] ∧ Input.okWide C.prog (w.forCall tape i) .any w.heap.size f i ∧
      ((s.pre enc C.prog fn conds apart (w.forCall tape i).memory i.args ∧ laidMetH C.prog L (w.forCall tape i).memory) ∧ sizedMet enc C.prog fn (OpenSpec.ofChange s) apart (w.forCall tape i).memory i.args) ∧ ({} : Assume).holds C.prog (lone (Frame.enter C.prog f i.args .normal) [] (w.forCall tape i))) :
    ReturnsInHanded {} C os f .any (fun w args => (s.pre enc C.prog fn conds apart w args ∧ laidMetH C.prog L w) ∧ sizedMet enc C.prog fn (OpenSpec.ofChange s) apart w args) (s.post enc C.prog fn apart fresh handsOn false) :=
  returnsInHanded_of_change_and (X := fun w _ => laidMetH C.prog L w) (fun _ _ _ hh h => h.of_heap hh) R.own started R.noInit R.isf witness fun _ _ _ _ _ _ hval hW _ _ hL0 _ => R.calls hL hL0 hval hW
structure allN {α : Type} (Q : D8 → α → Prop) (x : N8 α) : Prop where
  h0 : Q .a x.x0
  h1 : Q .b x.x1
  h2 : Q .c x.x2
  h3 : Q .d x.x3
  h4 : Q .e x.x4
  h5 : Q .f x.x5
  h6 : Q .g x.x6
  h7 : Q .h x.x7
theorem allN.at {α : Type} {Q : D8 → α → Prop} {x : N8 α} (h : allN Q x) (i : D8) : Q i (x.g i) := by
  cases i with
  | a => exact h.h0
  | b => exact h.h1
  | c => exact h.h2
  | d => exact h.h3
  | e => exact h.h4
  | f => exact h.h5
  | g => exact h.h6
  | h => exact h.h7
theorem allN.e8 {α : Type} {Q : D8 → α → Prop} {x : α} (h : ∀ i, Q i x) : allN Q (e8 x) := ⟨h _, h _, h _, h _, h _, h _, h _, h _⟩
structure allT {α : Type} (Q : Pth → α → Prop) (x : Tr α) : Prop where
  s : allN (fun i => allN fun j => Q (.s i j)) x.s
  t : allN (fun i => allN fun j => allN fun k => Q (.t i j k)) x.t
  o : x.o = []
theorem allT_gt {α : Type} {d : α} {t : Tr α} {Q : Pth → α → Prop} (h : allT Q t) (hd : ∀ p, Q p d) (p : Pth) : Q p (gt d p t) := by
  cases p with
  | s i j => exact (h.s.at i).at j
  | t i j k => exact ((h.t.at i).at j).at k
  | o n => show Q _ (lkF d n t.o); rw [h.o]; exact hd _
theorem gtF_eq (p : Pth) (t : Tr FJ) : gtF p t = gt fdef p t := rfl
def FOk (Y : Lay) (P : Program) (n : Nat) (F : FJ) : Prop := ∃ (fn : Func) (c : Code), P.funcs[n]? = some fn ∧ (fn.name == "runtime.NumGoroutine") = false ∧ fn.body = some c ∧ compC Y P fn.ntmps c = some F.body ∧ compR P fn.results.toList = some F.res
def bodyC (Y : Lay) (P : Program) (fn : Func) : Option DJ := match fn.body with
  | some c => compC Y P fn.ntmps c
  | none => none
theorem fok {Y : Lay} {P : Program} {n : Nat} {F : FJ} (fn : Func) (h1 : P.funcs[n]? = some fn) (h2 : (fn.name == "runtime.NumGoroutine") = false) (h3 : bodyC Y P fn = some F.body) (h4 : compR P fn.results.toList = some F.res) : FOk Y P n F := by
  unfold bodyC at h3
  cases hb : fn.body with
  | none => rw [hb] at h3; cases h3
  | some c => rw [hb] at h3; exact ⟨fn, c, h1, h2, hb, h3, h4⟩
theorem prog_ok {Y : Lay} {P : Program} {t : Tr FJ} (h : allT (fun p F => F = fdef ∨ FOk Y P p.n F) t) : ProgOk Y P t := fun f => by
  rw [gtF_eq]
  exact allT_gt h (fun p => .inl rfl) f
abbrev ML := List (List V × V)
noncomputable def gtM (p : Pth) : Tr ML → ML := Pth.rec (motive := fun _ => Tr ML → ML) (fun i j t => N8.g j (N8.g i t.s)) (fun i j k t => N8.g k (N8.g j (N8.g i t.t))) (fun n t => lkF [] n t.o) p
theorem gtM_eq (p : Pth) (t : Tr ML) : gtM p t = gt [] p t := rfl
noncomputable def pmL (args : List V) (h : Hp) (l : ML) : Ans := List.rec none (fun x _ ih => Prod.rec (fun A v => Bool.rec ih (some (v, h)) (vsEq A args)) x) l
noncomputable def pmC (tbl : Tr ML) : Cal := fun s args h =>
  S.rec (fun _ => none) (fun _ _ => none) (fun _ _ => none) none (fun _ _ _ _ => none) none (fun _ _ => none) (fun f cs => List.rec (pmL args h (gtM f tbl)) (fun _ _ _ => none) cs) (fun _ _ _ _ => none) none (fun _ => none) (fun _ => none) none (fun _ => none) none (fun _ _ => none) s
def hD : Hp := ⟨.e .dd, .s .a .b, 1000000000, 0, 0, [], false⟩
def noR : Pth → Bool := fun _ => false
noncomputable def valB (r : Ans) (v : V) : Bool := Option.rec false (fun q => Prod.rec (fun v' _ => vEq v v') q) r
theorem valB_out {r : Ans} {v : V} (h : valB r v = true) : ∃ h', r = some (v, h') := by
  cases r with
  | none => cases h
  | some q =>
    obtain ⟨v', h'⟩ := q
    rw [vEq_eq (show vEq v v' = true from h)]
    exact ⟨h', rfl⟩
noncomputable def pmB (cal : Cal) (f : Pth) (x : List V × V) : Bool := Prod.rec (fun A v => and (A.all (V.rf noR)) (and (v.rf noR) (valB (cal (.fn f []) A hD) v))) x
theorem pmL_some {args : List V} {h : Hp} : ∀ {l : ML} {r : RES}, pmL args h l = some r → ∃ v, (args, v) ∈ l ∧ r = (v, h)
  | [], r, hr => by cases hr
  | (A, v) :: l, r, hr => by
    have hr : (Bool.rec (pmL args h l) (some (v, h)) (vsEq A args) : Ans) = some r := hr
    cases hb : vsEq A args with
    | true =>
      rw [hb] at hr
      rw [vsEq_eq hb]
      cases hr
      exact ⟨v, List.mem_cons_self, rfl⟩
    | false =>
      rw [hb] at hr
      obtain ⟨v', h1, h2⟩ := pmL_some (l := l) hr
      exact ⟨v', List.mem_cons_of_mem _ h1, h2⟩
section
variable {Y : Lay} {P : Program} {κ : KP} {cal : Cal}
theorem hD_at (p : Pth) : hD.at p = .dd := gt_e _ p
theorem pmC_ok (hY : ∀ g p, Y.g = some (g, p) → p = .z) (HC : CalOk Y P κ cal) {tbl : Tr ML} (h : allT (fun f l => l.all (pmB cal f) = true) tbl) : CalOk Y P κ (pmC tbl) := fun s args h0 r h1 e w xs hκ hR hG hs hf hx => by
  cases s <;> first | (cases h1; done) | skip
  rename_i f cs
  cases cs with
  | cons _ _ => cases h1
  | nil =>
    have h1 : pmL args h0 (gtM f tbl) = some r := h1
    rw [gtM_eq] at h1
    obtain ⟨v, h2, rfl⟩ := pmL_some h1
    have hall := allT_gt (d := []) h (fun _ => rfl) f
    have h3 : pmB cal f (args, v) = true := List.all_eq_true.1 hall _ h2
    obtain ⟨c1, c2⟩ := and_t (show and (args.all (V.rf noR)) (and (v.rf noR) (valB (cal (.fn f []) args hD) v)) = true from h3)
    obtain ⟨c2, c3⟩ := and_t c2
    obtain ⟨h4, hr⟩ := valB_out c3
    have hR0 : Rel e hD w := by
      exact ⟨fun r _ => (by rw [hD_at]; trivial), fun r r' _ _ _ hw => (by rw [hD_at] at hw; cases hw), fun r _ => (by rw [hD_at]; rfl), fun r _ => (by rw [hD_at]; rfl)⟩
    have hG0 : Gl Y e (Pth.ok hD.n.n) := fun g p hg => by
      refine ⟨?_, (hG g p hg).2⟩
      rw [hY g p hg]; rfl
    have hC := HC _ _ _ _ hr e w xs hκ hR0 hG0 hs (by
      simp only [List.all_eq_true] at c1 ⊢
      exact fun x hx => V.rf_mono (fun p hp => by cases hp) (c1 x hx)) hx
    refine hC.mono fun x w' ⟨e', i1, i2, i3, i4⟩ => ?_
    have hk : ∀ b, b < w.heap.size → w'.heap[b]? = w.heap[b]? := fun b hb => i1.keep b hb fun r _ hw => (by rw [hD_at] at hw; cases hw)
    have S : Step e h0 w e h0 w' := ⟨⟨fun r hr => (hR.ok r hr).move (Agr.refl h0.n.n e) hr (hR.val r hr) i1.size fun hd => hk _ ((hR.ok r hr).lt hd), hR.sep, hR.val, hR.esc⟩, rfl, rfl, Agr.refl _ _, Nat.le_refl _, i1.os, i1.tape, i1.output, i1.size, fun b hb _ => hk b hb, fun r hr hw => .inl ⟨r, hr, hw, rfl⟩, fun r hr hw => .inl ⟨r, hr, hw, rfl⟩⟩
    have AF : AgrF noR e' e := ⟨fun r hr => (by cases hr), fun r hr => (by cases hr), i1.agr.ρ.symm, i1.agr.β.symm⟩
    exact ⟨e, S, rfl, AF.isu c2 i3, V.rf_mono (fun p hp => by cases hp) c2⟩
end
def heap0 (tab : List S) : Hp := ⟨st .dd .z (.ro tab) (.e .dd), .s .a .b, 1000000000, 0, 0, [], false⟩
def env0 (Y : Lay) (P : Program) (g : Nat) (ζ : (Nat → Int) × Nat) : Env := { σ := fun _ => (g, 0), δ := fun _ => 0, ρ := ζ.1, β := ζ.2, κ := kapE Y P }
section
variable {Y : Lay} {P : Program} {ζ : (Nat → Int) × Nat} {prog : Tr FJ} {nat : Cal}
theorem heap0_at {tab : List S} (r : Pth) (hr : r.n < (heap0 tab).n.n) : r = .z ∧ (heap0 tab).at r = .ro tab := by
  have : r.n < 1 := hr
  have h0 : r.n = Pth.z.n := by show r.n = 0; omega
  have := Pth.inj h0
  subst this
  exact ⟨rfl, rfl⟩
theorem rel0 {tab : List S} {g : Nat} {W : World} (hlt : g < W.heap.size) (hc : ∀ (i : Nat) s, tab[i]? = some s → W.cell? ⟨g, i, none⟩ = some (s.tr (env0 Y P g ζ))) (hf : tab.all (S.rf noR) = true) : Rel (env0 Y P g ζ) (heap0 tab) W := by
  refine ⟨fun r hr => ?_, fun r r' hr hr' hne hw hd => ?_, fun r hr => ?_, fun r hr => ?_⟩
  · obtain ⟨rfl, h⟩ := heap0_at r hr
    rw [h]
    exact ⟨hlt, fun i s hs => by rw [← hc i s hs]; simp [adr, env0]⟩
  · rw [(heap0_at r hr).2] at hw; cases hw
  · rw [(heap0_at r hr).2]; exact ss_mono (fun p hp => by cases hp) hf
  · rw [(heap0_at r hr).2]; exact ss_mono (fun p hp => by cases hp) hf
theorem law_run (hm : P.follows .mixedOrders = true) (HP : ProgOk Y P prog) (HN : CalOk Y P (kp Y P ζ) nat) {g : Nat} (hY : Y.g = some (g, .z)) {tab : List S} {W : World} (hlt : g < W.heap.size) (hc : ∀ (i : Nat) s, tab[i]? = some s → W.cell? ⟨g, i, none⟩ = some (s.tr (env0 Y P g ζ))) (hf : tab.all (S.rf noR) = true)
    {f : Pth} {A : List V} {n : Nat} {v : V} (hr : valB (calM prog nat n (.fn f []) A (heap0 tab)) v = true) {args : Array Value} (hA : Iss (env0 Y P g ζ) A args.toList) (hAf : A.all (V.rf noR) = true) (hv : v.rf noR = true) (hu : v ≠ .u) (hnu : v.nU = true) :
    Calls P f.n args W fun e W' => e = .returned (v.tr (env0 Y P g ζ)) ∧ Still W W' := by
  obtain ⟨h', hr⟩ := valB_out hr
  have hR := rel0 (Y := Y) (P := P) (ζ := ζ) hlt hc hf
  have hC := calM_ok hm HP HN n (.fn f []) A (heap0 tab) _ hr (env0 Y P g ζ) W args.toList ⟨rfl, rfl, rfl⟩ hR (fun g' p hg => by
    rw [hY] at hg; cases hg; exact ⟨rfl, rfl⟩) rfl (by
      simp only [List.all_eq_true] at hAf ⊢
      exact fun x hx => V.rf_mono (fun p hp => by cases hp) (hAf x hx)) hA
  have hC := hC.2
  simp only [List.map_nil, Array.toArray_toList] at hC
  have e1 : args ++ [].toArray = args := by simp
  rw [e1] at hC
  refine hC.mono ?_
  rintro en W' ⟨x, rfl, e', i1, _, i3, _⟩
  have AF : AgrF noR e' (env0 Y P g ζ) := ⟨fun r hr => (by cases hr), fun r hr => (by cases hr), i1.agr.ρ.symm, i1.agr.β.symm⟩
  have hx : x = v.tr (env0 Y P g ζ) := by
    rcases AF.isu hv i3 with h | h
    · exact absurd h hu
    · exact h.eq hnu
  exact ⟨by rw [hx], i1.os, i1.output, fun b hb => i1.keep b hb fun r hr hw => by rw [(heap0_at r hr).2] at hw; cases hw⟩
def symA : List IntKind → Nat → List V
  | [], _ => []
  | k :: ks, j => .s (.i k ((symN + j : Nat) : Int)) :: symA ks (j + 1)
def intsOf : List Value → List Int
  | [] => []
  | .int _ n :: vs => n :: intsOf vs
  | _ :: vs => 0 :: intsOf vs
theorem symA_is {g : Nat} {ρ : Nat → Int} {β : Nat} : ∀ {ks : List IntKind} {vs : List Value} {j : Nat}, areI ks vs → (∀ i n, (intsOf vs)[i]? = some n → ρ (j + i) = n) → (hj : j + ks.length < 1000 := by decide) → Iss (env0 Y P g (ρ, β)) (symA ks j) vs ∧ (symA ks j).all (V.rf noR) = true
  | [], [], _, _, _, _ => ⟨.nil, rfl⟩
  | [], _ :: _, _, h, _, _ => h.elim
  | _ :: _, [], _, h, _, _ => h.elim
  | k :: ks, v :: vs, j, h, hρ, hj => by
    have hj : j + (ks.length + 1) < 1000 := hj
    obtain ⟨⟨n, rfl, hw⟩, h2⟩ := h
    obtain ⟨i1, i2⟩ := symA_is (g := g) (ρ := ρ) (β := β) (j := j + 1) h2 (fun i m hm => by
      have := hρ (i + 1) m (by simpa [intsOf] using hm)
      rw [← this]; congr 1; omega) (by omega)
    refine ⟨.cons (.inr (.inl ?_)) i1, ?_⟩
    · have h0 := hρ 0 n (by simp [intsOf])
      simp only [V.tr, S.tr, vl, env0]
      rw [if_pos (by unfold symN; omega), if_pos (by omega), if_neg (by unfold symN gN; omega)]
      have : ((symN + j : Nat) : Int).toNat - symN = j + 0 := by omega
      rw [this, h0]
    · simp only [symA, List.all_cons, Bool.and_eq_true]; exact ⟨rfl, i2⟩
noncomputable def memS (s0 : S) (A : List V) (H : Hp) (v : V) (H' : Hp) : Cal := fun s args h =>
  onB (sEq s0 s) (onB (vsEq A args) (onB (simB H h) (Hp.rec (fun _ _ _ _ fz df ch => Hp.rec (fun b n er eq _ _ _ => some (v, Hp.mk b n er eq fz df ch)) H') h) none) none) none
theorem memS_ok {κ : KP} {cal : Cal} (HC : CalOk Y P κ cal) {s0 : S} {A : List V} {H : Hp} {v : V} {H' : Hp} (hr : runB (cal s0 A H) v H' = true) : CalOk Y P κ (memS s0 A H v H') := fun s args h r h1 e w xs hκ hR hG hs hf hx => by
  obtain ⟨h2, hr2, S2⟩ := runB_out hr
  obtain ⟨c1, h3⟩ := onB_t (show onB (sEq s0 s) _ none = some r from h1)
  obtain ⟨c2, h4⟩ := onB_t h3
  obtain ⟨c3, h5⟩ := onB_t h4
  clear h1 h3 h4
  have c1 := sEq_eq c1
  have c2 := vsEq_eq c2
  have S := simB_sim c3
  subst c1
  subst c2
  obtain ⟨b, n, er, eq, fz, df, ch⟩ := h
  obtain ⟨b', n', er', eq', fz', df', ch'⟩ := H'
  cases h5
  have hn : (Hp.mk b n er eq fz df ch).n = H.n := S.n
  have hC := HC _ _ _ _ hr2 e w xs hκ (hR.sim S.symm) (by rw [← hn]; exact hG) (by rw [← hn]; exact hs) (by rw [← hn]; exact hf) hx
  refine hC.mono fun x w' ⟨e', i1, i2, i3, i4⟩ => ⟨e', i1.sim S ⟨S2.symm.n, S2.symm.er, S2.symm.eq, fun p hp => S2.symm.at_ p hp⟩ rfl rfl, rfl, i3, ?_⟩
  have : h2.n = n' := S2.n
  rw [← this]; exact i4
def hset (h : Hp) (l : List (Pth × B)) (n : Pth) (er eq : Nat) : Hp := ⟨l.foldl (fun b x => st .dd x.1 x.2 b) h.b, n, er, eq, 0, [], false⟩
noncomputable def oraC (f : Pth) (A : List V) (v : V) : Cal := fun s args h => onB (sEq (.fn f []) s) (onB (vsEq A args) (some (v, h)) none) none
theorem Iss.eq {e : Env} : ∀ {A : List V} {xs : List Value}, Iss e A xs → (A.all fun v => match v with | .u => false | v => v.nU) = true → xs = A.map (V.tr e)
  | _, _, .nil, _ => rfl
  | _, _, @All2.cons _ _ _ v x l m h1 h2, h => by
    simp only [List.all_cons, Bool.and_eq_true] at h
    rw [Iss.eq h2 h.2, List.map_cons]
    congr 1
    rcases h1 with h1 | h1
    · subst h1; cases h.1
    · refine h1.eq ?_
      cases v <;> first | exact h.1 | (cases h.1; done)
theorem oraC_ok {κ : KP} {f : Pth} {A : List V} {v : V} (hA : (A.all fun v => match v with | .u => false | v => v.nU) = true) (hv : v.rf noR = true) (hf : FnOk P f.n)
    (H : ∀ (e : Env) (w : World), EK e κ → Calls P f.n (A.map (V.tr e)).toArray w fun en w' => en = .returned (v.tr e) ∧ w' = w) : CalOk Y P κ (oraC f A v) := fun s args h r h1 e w xs hκ hR hG hs hfa hx => by
  obtain ⟨c1, h2⟩ := onB_t (show onB (sEq (.fn f []) s) _ none = some r from h1)
  obtain ⟨c2, h3⟩ := onB_t h2
  clear h1 h2
  have c1 := sEq_eq c1
  have c2 := vsEq_eq c2
  subst c1
  subst c2
  cases h3
  rw [hx.eq hA]
  refine ⟨hf, ?_⟩
  have e1 : (A.map (V.tr e)).toArray ++ (([] : List (Pth × Nat)).map fun x => Value.pointer (some (adr e x.1 x.2))).toArray = (A.map (V.tr e)).toArray := by simp
  rw [e1]
  refine (H e w hκ).mono ?_
  rintro en w' ⟨rfl, rfl⟩
  exact ⟨_, rfl, e, .refl hR, rfl, .inr (.inl rfl), V.rf_mono (fun p hp => by cases hp) hv⟩
end
end Go.E
