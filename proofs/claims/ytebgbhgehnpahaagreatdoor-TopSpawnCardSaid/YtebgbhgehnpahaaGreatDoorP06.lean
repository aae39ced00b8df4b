/- A part of the proof of the claim that the last text of this folder states. -/
import Derived.RangeFuncRecord
import Derived.OrdersIn
import Derived.Test.YtebgbhgehnpahaaGreatDoorP05
namespace Go.E
set_option linter.all false
section
variable {P : Program}
theorem append_in {T U e f : TypeId} {i : TypeInfo} (hT : P.underlying T = some (.slice e)) (hU : P.underlying U = some (.slice f)) (hi : P.info? e = some i) (ty : TypeId) (a : Addr) (sLen sCap n : Nat) (x : Value) (new : Array Value) (w w' : World)
    (hl : (Builtin.lenOf x).run P w = .ok n w) (hf : (Builtin.firstCells i.size n x).run P w = .ok new w) (hfit : sLen + n ≤ sCap) (hs : (storeCells (a.add (sLen * i.size)) new.toList).run P w = .ok () w') :
    (Builtin.append_ #[T, U] ty #[.slice (some a) sLen sCap, x]).run P w = .ok (.slice (some a) (sLen + n) sCap) w' := by
  simp [Builtin.append_, run_underlying hT, run_underlying hU, sizeOf, typeInfo, hi, hl, hf, hfit, hs]
theorem append_grow {T U e f : TypeId} {i : TypeInfo} {z : Value} (hT : P.underlying T = some (.slice e)) (hU : P.underlying U = some (.slice f)) (hi : P.info? e = some i) (hz : i.zero = some z) (hb : i.bytes ≠ 0) (ty : TypeId) (a : Option Addr) (sLen sCap n : Nat) (x : Value) (old new : Array Value) (w : World)
    (hl : (Builtin.lenOf x).run P w = .ok n w) (hf : ∀ w', w'.heap = w.heap → (Builtin.firstCells i.size n x).run P w' = .ok new w') (ho : ∀ w', w'.heap = w.heap → (Builtin.firstCells i.size sLen (.slice a sLen sCap)).run P w' = .ok old w')
    (hfit : ¬ sLen + n ≤ sCap) (hsz : (sLen + n) * i.bytes ≤ 2 ^ 47) :
    ∃ c, sLen + n ≤ c ∧ (Builtin.append_ #[T, U] ty #[.slice a sLen sCap, x]).run P w =
      .ok (.slice (some ⟨w.heap.size, 0, none⟩) (sLen + n) c) ({ w with drawn := w.drawn + 1 }.alloc (.cells (old ++ new ++ Builtin.zeroCells z.cells (c - (sLen + n))) e)) := by
  have hg := growslice_fits (need := sLen + n) (old := sCap) (bytes := i.bytes) (by omega) (by simpa using hsz)
  have hg' : ¬ (2 ^ 48 < Builtin.nextslicecap (sLen + n) sCap * i.bytes) := by simpa using hg
  refine ⟨(sLen + n) + w.tape w.drawn (.appendCap (sLen + n) sCap e) % (2 ^ 63 - (sLen + n)), by omega, ?_⟩
  have h1 := ho w.drew rfl
  have h2 := hf w.drew rfl
  simp only [Builtin.append_, List.getElem?_toArray, List.getElem?_cons_zero, List.getElem?_cons_succ, Sem.run_bind, run_underlying hT, run_underlying hU, Result.andThen_ok, sizeOf, typeInfo, run_program, hi, Sem.run_pure, Bool.false_eq_true, if_false, hl, if_neg hfit,
    Bool.not_false, if_true]
  simp [hb, hg', Question.forced, Question.cut, h1, h2, zeroValue, typeInfo, hi, hz, newRow]
theorem zeroCells_size (z : Array Value) (n : Nat) : (Builtin.zeroCells z n).size = n * z.size := by simp [Builtin.zeroCells]
end
theorem okB_gr {e : Env} {w : World} {p : Pth} {cs : List S} {m es c : Nat} {extra : Array Value} {T : TypeId} (ht : trs (e.lay p (w.heap.size, 0) (c - m)) cs = trs e cs) (hm : m ≤ c) (hlen : cs.length = m * es) (hx : extra.size = (c - m) * es) :
    OkB (e.lay p (w.heap.size, 0) (c - m)) (w.alloc (.cells (trs e cs ++ extra) T)) p (.gr cs m es) := by
  have hadr : ∀ i, adr (e.lay p (w.heap.size, 0) (c - m)) p i = ⟨w.heap.size, i, none⟩ := fun i => by simp [adr, lay_σ]
  have hsz : (trs e cs ++ extra).size = c * es := by
    rw [Array.size_append, trs_size, hlen, hx, ← Nat.add_mul]; congr 1; omega
  refine ⟨by rw [lay_σ]; simp, fun i s hi => ?_, by rw [hlen]; exact Nat.le_refl _, fun i hi => ?_⟩
  · rw [hadr, World.cell?_alloc_new]
    have hil : i < cs.length := (List.getElem?_eq_some_iff.1 hi).1
    rw [Array.getElem?_append_left (by rw [trs_size]; exact hil), ← ht, trs_get, hi]; rfl
  · rw [lay_δ, show m + (c - m) = c by omega] at hi
    rw [hadr, World.cell?_alloc_new, World.frozen?_alloc_new]
    refine ⟨?_, rfl⟩
    rw [Array.getElem?_eq_getElem (by rw [hsz]; exact hi)]; rfl
theorem trs_append (e : Env) (a b : List S) : trs e (a ++ b) = trs e a ++ trs e b := by simp [trs]
theorem grK_some {b : B} {c : List S → Nat → Nat → Ans} {r : RES} (h : grK b c = some r) : ∃ cs m es, b = .gr cs m es ∧ c cs m es = some r := by
  cases b <;> first | exact ⟨_, _, _, rfl, h⟩ | cases h
theorem e_grK (cs : List S) (m es : Nat) (c : List S → Nat → Nat → Ans) : grK (.gr cs m es) c = c cs m es := rfl
theorem not_okn (h : Hp) : Pth.ok h.n.n h.n = false := by
  cases hq : Pth.ok h.n.n h.n with
  | false => rfl
  | true => have := Pth.ok_iff.1 hq; omega
section
variable {Y : Lay} {P : Program} {o : Oper}
theorem appN_out {es bytes n : Nat} {cs : List S} {h : Hp} {k : KV} {r : RES} (hr : appN es bytes n cs h k = some r) : n * bytes ≤ 2 ^ 47 ∧ ∀ h k, appN es bytes n cs h k = k (.s (.sl h.n 0 n (G + n))) (h.push (.gr cs n es)) := by
  obtain ⟨hb, hr⟩ := onB_t hr
  have h47 : n * bytes ≤ 140737488355328 := nat_le hb
  refine ⟨by simpa using h47, fun h k => ?_⟩
  show onB (Nat.ble (Nat.mul n bytes) 140737488355328) _ none = _
  rw [hb, e_t, Hp.pushK_eq, fN_eq]; rfl
theorem acts_app {T U el f : TypeId} {x y : Operand} {x' y' : O} {i : TypeInfo} {z : List S} {c : Call} (ho : o.op = .call c) (hc : c.callee = .builtin .append) (ha : c.args.toList = [x, y]) (hat : c.argTypes.toList = [T, U])
    (hTt : P.underlying T = some (.slice el)) (hU : P.underlying U = some (.slice f)) (hi : P.info? el = some i) (hz : zeroOf P el = some z) (hb : i.bytes ≠ 0) (hx : compX Y x = some x') (hy : compX Y y = some y') : Acts Y P o (.app i.size i.bytes x' y') := by
  have ha' : c.args = #[x, y] := by rw [← ha]
  have hat' : c.argTypes = #[T, U] := by rw [← hat]
  intro cal t h k r hr
  obtain ⟨sy, hsy, hr1⟩ := asS_some (show asS (ev t y') _ = some r from hr)
  obtain ⟨n, new, hr2, s2, s3, s4⟩ := shK_out hr1
  obtain ⟨sx, hsx, hr3⟩ := asS_some hr2
  obtain ⟨hes, hr4⟩ := onB_t hr3
  have hSx : x ∈ o.op.operands := by simp [ho, Op.operands, Call.operands, hc, ha']
  have hSy : y ∈ o.op.operands := by simp [ho, Op.operands, Call.operands, hc, ha']
  have hsyn : nU sy = true := by
    obtain ⟨q, hq⟩ : ∃ q, shK (β := Unit) h i.size sy (fun _ _ => some ()) = some q := ⟨(), by rw [s2]⟩
    cases sy <;> first | rfl | (cases hq; done)
  have hev : ∀ cal k, exJ (.app i.size i.bytes x' y') cal t h k = onB (Nat.blt 0 i.size)
    (S.casesOn sx (fun _ => none) (fun _ _ => none) (fun _ _ => none) none
      (fun r o len cap => fN (Nat.add len n) fun m => Bool.casesOn (Nat.ble G cap)
        (Bool.casesOn (Nat.ble m cap)
          (ldN (h.gb r) o (Nat.mul len i.size) fun old => appN i.size i.bytes m (apF old new) h k)
          (storeK h r (Nat.add o (Nat.mul len i.size)) (Nat.mul n i.size) new fun h => k (.s (.sl r o m cap)) h))
        (grK (h.gb r) fun cs rm es' => lenF cs fun l =>
          Bool.casesOn (Nat.beq l (Nat.add o (Nat.mul len i.size)))
            (onB (Nat.ble m (Nat.sub cap G)) (storeK h r (Nat.add o (Nat.mul len i.size)) (Nat.mul n i.size) new fun h => k (.s (.sl r o m cap)) h) none)
            (appG i.size i.bytes r o len n m cap new cs rm es' h k)))
      (Nat.casesOn n none fun m => appN i.size i.bytes (Nat.succ m) new h k)
      (fun _ _ => none) (fun _ _ => none) (fun _ _ _ _ => none) none (fun _ => none) (fun _ => none) none (fun _ => none) none (fun _ _ => none)) none := fun cal k => by
    show asS (ev t y') _ = _
    rw [hsy, e_asS]
    show shK h i.size sy _ = _
    rw [s2]
    show asS (ev t x') _ = _
    rw [hsx, e_asS]
  have hexec : ∀ {a : Act} {w w' : World} {vx vy res : Value}, a.eval x = vx → a.eval y = vy → (Builtin.append_ #[T, U] o.type #[vx, vy]).run P w = .ok res w' → (execOp a.eval o).run P w = .ok (.value res) w' := fun {a w w' vx vy res} h1 h2 h3 => by
    simp [execOp, ho, resolve, hc, ha', hat', invoke, builtin, h1, h2, h3]
  have grow : ∀ (sl : Option Addr) (e : Env) (a : Act) (w : World) (len cap : Nat) (old : List S), OT Y e t (Pth.ok h.n.n) a (· ∈ o.op.operands) → Rel e h w → a.eval x = .slice sl len cap → old.length = len * i.size → old.all (S.rf (Pth.ok h.n.n)) = true →
      (∀ w', w'.heap = w.heap → (Builtin.firstCells i.size len (.slice sl len cap)).run P w' = .ok (trs e old) w') → ¬ len + n ≤ cap → (len + n) * i.bytes ≤ 2 ^ 47 →
      ∃ c w', len + n ≤ c ∧ (execOp a.eval o).run P w = .ok (.value (.slice (some ⟨w.heap.size, 0, none⟩) (len + n) c)) w' ∧ More w w' ∧ OkB (e.lay h.n (w.heap.size, 0) (c - (len + n))) w' h.n (.gr (old ++ new) (len + n) i.size) ∧ (B.gr (old ++ new) (len + n) i.size).ok h.n.n = true := fun sl e a w len cap old hT H hxv hol horf hold hfit hsz => by
    obtain ⟨f1, f2⟩ := ev_eq hT hSy hy hsy (by simp) hsyn
    obtain ⟨g1, g2⟩ := s4 (P := P) H (V.rf_s' f2 hsyn)
    obtain ⟨kk, v, hk, hiz, hcells, hvz, hzl⟩ := zeroOf_run hz e
    have hki : kk = i := by rw [hk] at hi; cases hi; rfl
    rw [hki] at hk hiz hzl
    clear hki
    have hnew : new.take (n * i.size) = new := by rw [← s3]; exact List.take_length
    obtain ⟨cc, hcc, hrun⟩ := append_grow (P := P) hTt hU hi hiz hb o.type sl len cap n (sy.tr e) (trs e old) (trs e new) w (g2 w rfl).1 (fun w' hw' => by have := (g2 w' hw').2 n (Nat.le_refl _); rwa [hnew] at this) hold hfit hsz
    have hall : (old ++ new).all (S.rf (Pth.ok h.n.n)) = true := by rw [List.all_append, horf, g1]; rfl
    refine ⟨cc, _, hcc, hexec hxv f1 hrun, ⟨by simp, fun b hb => Go.RowKit.Below.heap_alloc _ _ _ hb, rfl, rfl, rfl⟩, ?_, hall⟩
    rw [← trs_append]
    refine okB_gr (w := { w with drawn := w.drawn + 1 }) ((lay_agrF (not_okn h) _ _).trs hall) hcc (by rw [List.length_append, hol, s3, ← Nat.add_mul]) ?_
    rw [zeroCells_size, hcells, trs_size, hzl]
  have inn : ∀ (e : Env) (a : Act) (w w' : World) (q : Pth) (off len cap : Nat), OT Y e t (Pth.ok h.n.n) a (· ∈ o.op.operands) → Rel e h w → ev t x' = .s (.sl q off len cap) → len + n ≤ cpT e q cap → (storeCells (adr e q (off + len * i.size)) (new.map (S.tr e))).run P w = .ok () w' →
      (execOp a.eval o).run P w = .ok (.value (.slice (some (adr e q off)) (len + n) (cpT e q cap))) w' := fun e a w w' q off len cap hT H hq hfit hst => by
    obtain ⟨e1, e2⟩ := ev_eq hT hSx hx hq (by simp) rfl
    obtain ⟨f1, f2⟩ := ev_eq hT hSy hy hsy (by simp) hsyn
    obtain ⟨g1, g2⟩ := s4 (P := P) H (V.rf_s' f2 hsyn)
    have hnew : new.take (n * i.size) = new := by rw [← s3]; exact List.take_length
    have l2 := (g2 w rfl).2 n (Nat.le_refl _)
    rw [hnew] at l2
    exact hexec e1 f1 (append_in hTt hU hi o.type (adr e q off) len (cpT e q cap) n (sy.tr e) (trs e new) w w' (g2 w rfl).1 l2 hfit (by rw [adr_add]; simpa [trs] using hst))
  have hnrf : ∀ (e : Env) (a : Act) (w : World), OT Y e t (Pth.ok h.n.n) a (· ∈ o.op.operands) → Rel e h w → new.all (S.rf (Pth.ok h.n.n)) = true := fun e a w hT H => by
    obtain ⟨f1, f2⟩ := ev_eq hT hSy hy hsy (by simp) hsyn
    exact (s4 (P := P) H (V.rf_s' f2 hsyn)).1
  have hb0 : 0 < i.size := nat_lt hes
  cases sx <;> first | (cases hr4; done) | skip
  · rename_i q off len cap
    have hev2 : ∀ cal k, exJ (.app i.size i.bytes x' y') cal t h k = Bool.casesOn (Nat.ble G cap)
        (Bool.casesOn (Nat.ble (len + n) cap)
          (ldN (h.gb q) off (Nat.mul len i.size) fun old => appN i.size i.bytes (len + n) (apF old new) h k)
          (storeK h q (Nat.add off (Nat.mul len i.size)) (Nat.mul n i.size) new fun h => k (.s (.sl q off (len + n) cap)) h))
        (grK (h.gb q) fun cs rm es' => lenF cs fun l =>
          Bool.casesOn (Nat.beq l (Nat.add off (Nat.mul len i.size)))
            (onB (Nat.ble (len + n) (Nat.sub cap G)) (storeK h q (Nat.add off (Nat.mul len i.size)) (Nat.mul n i.size) new fun h => k (.s (.sl q off (len + n) cap)) h) none)
            (appG i.size i.bytes q off len n (len + n) cap new cs rm es' h k)) := fun cal k => by
      rw [hev, hes, e_t]
      show fN (Nat.add len n) _ = _
      rw [fN_eq]; rfl
    have hr5 := (hev2 cal k).symm.trans hr
    cases hG : Nat.ble G cap with
    | false =>
      have hltG : cap < G := by
        rcases Nat.lt_or_ge cap G with h | h
        · exact h
        · rw [Nat.ble_eq_true_of_le h] at hG; cases hG
      rw [hG] at hr5
      have hev3 : ∀ cal k, exJ (.app i.size i.bytes x' y') cal t h k = Bool.casesOn (Nat.ble (len + n) cap)
          (ldN (h.gb q) off (Nat.mul len i.size) fun old => appN i.size i.bytes (len + n) (apF old new) h k)
          (storeK h q (Nat.add off (Nat.mul len i.size)) (Nat.mul n i.size) new fun h => k (.s (.sl q off (len + n) cap)) h) := fun cal k => by rw [hev2, hG]
      cases hm : Nat.ble (len + n) cap with
      | false =>
        have hltm : cap < len + n := by
          rcases Nat.lt_or_ge cap (len + n) with h | h
          · exact h
          · rw [Nat.ble_eq_true_of_le h] at hm; cases hm
        have hr6 : ldN (h.gb q) off (Nat.mul len i.size) (fun old => appN i.size i.bytes (len + n) (apF old new) h k) = some r := by
          have := (hev3 cal k).symm.trans hr
          rw [hm] at this; exact this
        obtain ⟨old, o1, o2, o3, o4⟩ := ldN_out hr6
        obtain ⟨a1, a2⟩ := appN_out o1
        rw [apF_eq] at a2
        refine ⟨.s (.sl h.n 0 (len + n) (G + (len + n))), h.push (.gr (old ++ new) (len + n) i.size), fun cal k => ?_, rfl, fun e a w hT H => ?_⟩
        · rw [hev3, hm]
          show ldN (h.gb q) off (Nat.mul len i.size) _ = _
          rw [o2, apF_eq, a2]
        obtain ⟨e1, e2⟩ := ev_eq hT hSx hx hsx (by simp) rfl
        obtain ⟨p1, p2⟩ := H.gb (r := q) e2
        obtain ⟨p3, p4⟩ := o4 p1 p2
        have hcp : cpT e q cap = cap := by unfold cpT; rw [if_pos hltG]
        obtain ⟨cc, w', c1, c2, c3, c4, c5⟩ := grow (some (adr e q off)) e a w len cap old hT H (by rw [← hcp]; exact e1) o3 p3 (fun w' hw' => by
          have hcell : ∀ a, w'.cell? a = w.cell? a := fun a => by simp [World.cell?, hw']
          have := run_loadCells_of (P := P) (e := e) (w := w') (p := q) (o := off) (n := len * i.size) (l := old) o3 (fun j s hs => by rw [hcell]; exact p4 j s hs)
          simpa [Builtin.firstCells] using this) (by omega) a1
        refine ⟨_, _, w', e.lay h.n (w.heap.size, 0) (cc - (len + n)), c2, .inl rfl, Step.new H _ _ c4 c5 c3.old (Nat.le_refl _) (by have := c3.size; omega) c3.os c3.tape c3.output, .inr (.inl ?_), ?_⟩
        · have : cpT (e.lay h.n (w.heap.size, 0) (cc - (len + n))) h.n (G + (len + n)) = cc := by
            unfold cpT; rw [if_neg (by omega), lay_δ]; omega
          simp only [V.tr, S.tr, lay_adr, this]
        · show Pth.ok _ _ = true
          rw [Pth.ok_iff, Hp.n_push]; omega
      | true =>
        have hle := nat_le hm
        have hr6 : storeK h q (Nat.add off (Nat.mul len i.size)) (Nat.mul n i.size) new (fun h => k (.s (.sl q off (len + n) cap)) h) = some r := by
          have := (hev3 cal k).symm.trans hr
          rw [hm] at this; exact this
        obtain ⟨h1, t1, t2, t3, t4, t5, t6⟩ := storeK_out hr6
        refine ⟨.s (.sl q off (len + n) cap), h1, fun cal k => ?_, t4, fun e a w hT H => ?_⟩
        · rw [hev3, hm]
          exact t2 _
        obtain ⟨e1, e2⟩ := ev_eq hT hSx hx hsx (by simp) rfl
        obtain ⟨w', u1, u2⟩ := t6 (P := P) H e2 (hnrf e a w hT H)
        have hcp : cpT e q cap = cap := by unfold cpT; rw [if_pos hltG]
        exact ⟨_, _, w', e, inn e a w w' q off len cap hT H hsx (by rw [hcp]; exact hle) u1, .inl rfl, u2, .mk _, by rw [t5]; exact e2⟩
    | true =>
      have hgeG : G ≤ cap := nat_le hG
      rw [hG] at hr5
      obtain ⟨cs, rm, es', hg, hr6⟩ := grK_some (show grK (h.gb q) _ = some r from hr5)
      rw [lenF_eq] at hr6
      have hev3 : ∀ cal k, exJ (.app i.size i.bytes x' y') cal t h k = Bool.casesOn (Nat.beq cs.length (Nat.add off (Nat.mul len i.size)))
            (onB (Nat.ble (len + n) (Nat.sub cap G)) (storeK h q (Nat.add off (Nat.mul len i.size)) (Nat.mul n i.size) new fun h => k (.s (.sl q off (len + n) cap)) h) none)
            (appG i.size i.bytes q off len n (len + n) cap new cs rm es' h k) := fun cal k => by
        rw [hev2, hG]
        show grK (h.gb q) _ = _
        rw [hg, e_grK, lenF_eq]
      have hcp : ∀ e, cpT e q cap = cap - G + e.δ q := fun e => by unfold cpT; rw [if_neg (by omega)]
      cases hl : Nat.beq cs.length (Nat.add off (Nat.mul len i.size)) with
      | false =>
        rw [hl] at hr6
        obtain ⟨hm, hr7⟩ := onB_t (show onB (Nat.ble (len + n) (Nat.sub cap G)) _ none = some r from hr6)
        have hle : len + n ≤ cap - G := nat_le hm
        obtain ⟨h1, t1, t2, t3, t4, t5, t6⟩ := storeK_out hr7
        refine ⟨.s (.sl q off (len + n) cap), h1, fun cal k => ?_, t4, fun e a w hT H => ?_⟩
        · rw [hev3, hl]
          show onB (Nat.ble (len + n) (Nat.sub cap G)) _ none = _
          rw [hm, e_t]; exact t2 _
        obtain ⟨e1, e2⟩ := ev_eq hT hSx hx hsx (by simp) rfl
        obtain ⟨w', u1, u2⟩ := t6 (P := P) H e2 (hnrf e a w hT H)
        exact ⟨_, _, w', e, inn e a w w' q off len cap hT H hsx (by rw [hcp]; omega) u1, .inl rfl, u2, .mk _, by rw [t5]; exact e2⟩
      | true =>
        rw [hl] at hr6
        have hlen : cs.length = off + len * i.size := nat_eq hl
        obtain ⟨hb1, hr7⟩ := onB_t (show appG i.size i.bytes q off len n (len + n) cap new cs rm es' h k = some r from hr6)
        obtain ⟨b1, b2⟩ := and_t hb1
        have hes' := nat_eq b1
        have hrm : cap - G ≤ rm := nat_le b2
        have hev4 : ∀ cal k, exJ (.app i.size i.bytes x' y') cal t h k = Bool.casesOn (Nat.ble (len + n) (Nat.sub cap G))
            (onB (and (Nat.beq off 0) (Nat.ble (Nat.mul (len + n) i.bytes) 140737488355328)) (h.setK q .dd fun h => h.pushK (.gr (apF cs new) (len + n) i.size) fun h' => fN (Nat.add G (len + n)) fun c => k (.s (.sl h.n 0 (len + n) c)) h') none)
            (onB (Nat.ble (Nat.add off (Nat.mul (len + n) i.size)) (Nat.mul rm i.size)) (widK h q new fun h => h.setK q (.gr (apF cs new) rm i.size) fun h => k (.s (.sl q off (len + n) cap)) h) none) := fun cal k => by
          rw [hev3, hl]
          show onB (and (Nat.beq i.size es') (Nat.ble (Nat.sub cap G) rm)) _ none = _
          rw [hb1, e_t]
        have hat : h.at q = .gr cs rm i.size := by rw [← Hp.gb_eq, hg, hes']
        cases hm : Nat.ble (len + n) (Nat.sub cap G) with
        | false =>
          have hltm : cap - G < len + n := by
            rcases Nat.lt_or_ge (cap - G) (len + n) with h | h
            · exact h
            · have : Nat.ble (len + n) (Nat.sub cap G) = true := Nat.ble_eq_true_of_le h
              rw [hm] at this; cases this
          have hr8 := (hev4 cal k).symm.trans hr
          rw [hm] at hr8
          obtain ⟨hb2, _⟩ := onB_t (show onB (and (Nat.beq off 0) (Nat.ble (Nat.mul (len + n) i.bytes) 140737488355328)) _ none = some r from hr8)
          obtain ⟨b3, b4⟩ := and_t hb2
          have hoff := nat_eq b3
          have h47 : (len + n) * i.bytes ≤ 140737488355328 := nat_le b4
          refine ⟨.s (.sl h.n 0 (len + n) (G + (len + n))), (h.set q .dd).push (.gr (cs ++ new) (len + n) i.size), fun cal k => ?_, rfl, fun e a w hT H => ?_⟩
          · rw [hev4, hm]
            show onB (and (Nat.beq off 0) (Nat.ble (Nat.mul (len + n) i.bytes) 140737488355328)) _ none = _
            rw [hb2, e_t, Hp.setK_eq, Hp.pushK_eq, fN_eq, apF_eq]; rfl
          obtain ⟨e1, e2⟩ := ev_eq hT hSx hx hsx (by simp) rfl
          obtain ⟨p1, p2⟩ := H.gb (r := q) e2
          rw [Hp.gb_eq, hat] at p1 p2
          have hnr := hnrf e a w hT H
          have hlen' : cs.length = len * i.size := by rw [hlen, hoff, Nat.zero_add]
          have hall : (cs ++ new).all (S.rf (Pth.ok h.n.n)) = true := by rw [List.all_append]; rw [hnr, Bool.and_true]; exact p2
          by_cases hfit : len + n ≤ cap - G + e.δ q
          ·
            obtain ⟨q1, q2, q3, q4⟩ := p1
            have hroom : (cap - G + e.δ q) * i.size ≤ (rm + e.δ q) * i.size := Nat.mul_le_mul_right _ (by omega)
            have hfm : (len + n) * i.size ≤ (cap - G + e.δ q) * i.size := Nat.mul_le_mul_right _ hfit
            have hsum : len * i.size + n * i.size = (len + n) * i.size := (Nat.add_mul _ _ _).symm
            obtain ⟨w', u1, u2, u3⟩ := storeCells_run (P := P) (e := e) (r := q) (off + len * i.size) new 0 w (fun j hj => q4 _ (by rw [s3] at hj; omega))
            simp only [Nat.add_zero] at u3
            have A := lay_agr e h.n (e.σ q) (cap - G + e.δ q - (len + n))
            have hlaya : ∀ j, adr (e.lay h.n (e.σ q) (cap - G + e.δ q - (len + n))) h.n j = adr e q j := fun j => by simp only [adr, lay_σ]
            refine ⟨_, _, w', e.lay h.n (e.σ q) (cap - G + e.δ q - (len + n)), inn e a w w' q off len cap hT H hsx (by rw [hcp]; exact hfit) u1, .inl rfl,
              Step.mv H (Pth.ok_iff.1 e2) (by rw [hat]; rfl) _ ?_ hall u2.old (by rw [u2.size]; exact Nat.le_refl _) u2.os u2.tape u2.output, .inr (.inl ?_), ?_⟩
            · refine ⟨by rw [lay_σ, u2.size]; exact q1, fun j s hj => ?_, by rw [List.length_append, hlen', s3, hsum]; exact Nat.le_refl _, fun j hj => ?_⟩
              · have hs : s.ok h.n.n = true := all_get hall hj
                rw [hlaya, u3, A.s hs]
                by_cases hjl : j < cs.length
                · rw [List.getElem?_append_left hjl] at hj
                  rw [if_neg (by omega)]
                  exact q2 j s hj
                · rw [List.getElem?_append_right (by omega)] at hj
                  have hjn : j - cs.length < new.length := (List.getElem?_eq_some_iff.1 hj).1
                  rw [if_pos (by omega), show j - (off + len * i.size) = j - cs.length by omega, hj]; rfl
              · rw [lay_δ] at hj
                rw [show len + n + (cap - G + e.δ q - (len + n)) = cap - G + e.δ q by omega] at hj
                rw [hlaya, u2.frozen, u3]
                refine ⟨?_, (q4 j (by omega)).2⟩
                split
                · rename_i hjj
                  rw [List.getElem?_eq_getElem (by omega)]; rfl
                · exact (q4 j (by omega)).1
            · have : cpT (e.lay h.n (e.σ q) (cap - G + e.δ q - (len + n))) h.n (G + (len + n)) = cap - G + e.δ q := by
                unfold cpT; rw [if_neg (by omega), lay_δ]; omega
              simp only [V.tr, S.tr, hlaya, this, hcp, hoff]
            · show Pth.ok _ _ = true
              rw [Pth.ok_iff, Hp.n_push]
              show h.n.n < h.n.n + 1
              omega
          ·
            obtain ⟨q1, q2, q3, q4⟩ := p1
            obtain ⟨cc, w', c1, c2, c3, c4, c5⟩ := grow (some (adr e q off)) e a w len (cap - G + e.δ q) cs hT H (by rw [← hcp]; exact e1) hlen' p2 (fun w' hw' => by
              have hcell : ∀ a, w'.cell? a = w.cell? a := fun a => by simp [World.cell?, hw']
              have := run_loadCells_of (P := P) (e := e) (w := w') (p := q) (o := off) (n := len * i.size) (l := cs) hlen' (fun j s hs => by rw [hcell, hoff, Nat.zero_add]; exact q2 j s hs)
              simpa [Builtin.firstCells] using this) hfit (by simpa using h47)
            have K := Step.kill H (Pth.ok_iff.1 e2) (by rw [hat]; rfl)
            refine ⟨_, _, w', e.lay h.n (w.heap.size, 0) (cc - (len + n)), c2, .inl rfl, K.trans (Step.new K.rel _ _ c4 c5 c3.old (Nat.le_refl _) (by have := c3.size; omega) c3.os c3.tape c3.output), .inr (.inl ?_), ?_⟩
            · have : cpT (e.lay h.n (w.heap.size, 0) (cc - (len + n))) h.n (G + (len + n)) = cc := by
                unfold cpT; rw [if_neg (by omega), lay_δ]; omega
              simp only [V.tr, S.tr, lay_adr, this]
            · show Pth.ok _ _ = true
              rw [Pth.ok_iff, Hp.n_push]
              show h.n.n < h.n.n + 1
              omega
        | true =>
          have hle : len + n ≤ cap - G := nat_le hm
          have hr8 := (hev4 cal k).symm.trans hr
          rw [hm] at hr8
          obtain ⟨hb2, hr9⟩ := onB_t (show onB (Nat.ble (Nat.add off (Nat.mul (len + n) i.size)) (Nat.mul rm i.size)) _ none = some r from hr8)
          have hroomle : off + (len + n) * i.size ≤ rm * i.size := nat_le hb2
          obtain ⟨h', w1, w2, w3, w4, w5, w6, w7⟩ := widK_out hr9
          refine ⟨.s (.sl q off (len + n) cap), h'.set q (.gr (cs ++ new) rm i.size), fun cal k => ?_, w6, fun e a w hT H => ?_⟩
          · rw [hev4, hm]
            show onB (Nat.ble (Nat.add off (Nat.mul (len + n) i.size)) (Nat.mul rm i.size)) _ none = _
            rw [hb2, e_t, w2, Hp.setK_eq, apF_eq]
          obtain ⟨e1, e2⟩ := ev_eq hT hSx hx hsx (by simp) rfl
          obtain ⟨p1, p2⟩ := H.gb (r := q) e2
          rw [Hp.gb_eq, hat] at p1 p2
          have hnr := hnrf e a w hT H
          obtain ⟨q1, q2, q3, q4⟩ := p1
          have hsum : len * i.size + n * i.size = (len + n) * i.size := (Nat.add_mul _ _ _).symm
          have hrl : rm * i.size ≤ (rm + e.δ q) * i.size := Nat.mul_le_mul_right _ (by omega)
          obtain ⟨w', u1, u2, u3⟩ := storeCells_run (P := P) (e := e) (r := q) (off + len * i.size) new 0 w (fun j hj => q4 _ (by rw [s3] at hj; omega))
          simp only [Nat.add_zero] at u3
          have W := w3 H
          have hat' : h'.at q = .gr cs rm i.size := by rw [← hat]; unfold Hp.at; rw [w4]
          have hr' : q.n < h'.n.n := by rw [w5]; exact Pth.ok_iff.1 e2
          refine ⟨_, _, w', e, inn e a w w' q off len cap hT H hsx (by rw [hcp]; omega) u1, .inl rfl, W.trans (Step.upd W.rel hr' (by rw [hat']; rfl) ?_ ?_ ?_ u2.old (by rw [u2.size]; exact Nat.le_refl _) u2.os u2.tape u2.output), .mk _, ?_⟩
          · refine ⟨by rw [u2.size]; exact q1, fun j s hj => ?_, by rw [List.length_append, hlen, s3]; omega, fun j hj => ?_⟩
            · rw [u3]
              by_cases hjl : j < cs.length
              · rw [List.getElem?_append_left hjl] at hj
                rw [if_neg (by omega)]
                exact q2 j s hj
              · rw [List.getElem?_append_right (by omega)] at hj
                have hjn : j - cs.length < new.length := (List.getElem?_eq_some_iff.1 hj).1
                rw [if_pos (by omega), show j - (off + len * i.size) = j - cs.length by omega, hj]; rfl
            · rw [u2.frozen, u3]
              refine ⟨?_, (q4 j hj).2⟩
              split
              · rename_i hjj
                rw [List.getElem?_eq_getElem (by omega)]; rfl
              · exact (q4 j hj).1
          · rw [w5]
            show (cs ++ new).all (S.rf (Pth.ok h.n.n)) = true
            rw [List.all_append, hnr, Bool.and_true]; exact p2
          · have := W.rel.esc q hr'
            rw [hat'] at this
            show (cs ++ new).all _ = true
            rw [List.all_append, w7 hnr, Bool.and_true]; exact this
          · show Pth.ok h'.n.n q = true
            exact Pth.ok_iff.2 hr'
  · have hev2 : ∀ cal k, exJ (.app i.size i.bytes x' y') cal t h k = Nat.casesOn n none fun m => appN i.size i.bytes (Nat.succ m) new h k := fun cal k => by rw [hev, hes, e_t]
    have hr5 := (hev2 cal k).symm.trans hr
    cases n with
    | zero => cases hr5
    | succ n =>
    obtain ⟨a1, a2⟩ := appN_out (show appN i.size i.bytes (n + 1) new h k = some r from hr5)
    refine ⟨.s (.sl h.n 0 (n + 1) (G + (n + 1))), h.push (.gr new (n + 1) i.size), fun cal k => ?_, rfl, fun e a w hT H => ?_⟩
    · rw [hev2]
      exact a2 h k
    obtain ⟨e1, e2⟩ := ev_eq hT hSx hx hsx (by simp) rfl
    obtain ⟨cc, w', c1, c2, c3, c4, c5⟩ := grow none e a w 0 0 [] hT H e1 (by simp) rfl (fun w' _ => by simp [Builtin.firstCells, trs]) (by omega) (by simpa using a1)
    rw [List.nil_append, Nat.zero_add] at c4
    rw [Nat.zero_add] at c1 c2
    refine ⟨_, _, w', e.lay h.n (w.heap.size, 0) (cc - (n + 1)), c2, .inl rfl, Step.new H _ _ c4 (by rw [List.nil_append, Nat.zero_add] at c5; exact c5) c3.old (Nat.le_refl _) (by have := c3.size; omega) c3.os c3.tape c3.output, .inr (.inl ?_), ?_⟩
    · have : cpT (e.lay h.n (w.heap.size, 0) (cc - (n + 1))) h.n (G + (n + 1)) = cc := by
        unfold cpT; rw [if_neg (by omega), lay_δ]; omega
      simp only [V.tr, S.tr, lay_adr, this]
    · show Pth.ok _ _ = true
      rw [Pth.ok_iff, Hp.n_push]; omega
end
section
variable {Y : Lay} {P : Program} {o : Oper}
theorem updM_scan (ks : List Bool) (kv val : V) : ∀ (es : List ME) (i : Nat) (fd : List ME → Ans) (nf : Unit → Ans), updM ks kv val es fd nf = match scan ks kv es i with
    | some (some (j, _)) => fd (es.modify (j - i) fun x => (x.1, val, x.2.2))
    | some none => nf ()
    | none => none
  | [], i, fd, nf => rfl
  | (a, v, b) :: es, i, fd, nf => by
    show onO (eqK ks kv a) (fun q => Bool.casesOn q (updM ks kv val es (fun l => fd ((a, v, b) :: l)) nf) (fd ((a, val, b) :: es))) = _
    rw [scan]
    cases h : eqK ks kv a with
    | none => rfl
    | some q => cases q with
      | true => simp [e_o]
      | false =>
        show updM ks kv val es (fun l => fd ((a, v, b) :: l)) nf = _
        rw [updM_scan ks kv val es (i + 1)]
        cases hs : scan ks kv es (i + 1) with
        | none => rfl
        | some r =>
          cases r with
          | none => rfl
          | some jv =>
            obtain ⟨j, v'⟩ := jv
            obtain ⟨_, _, hle, _, _⟩ := scan_mem hs
            simp only
            rw [show j - i = (j - (i + 1)) + 1 by omega]
            rfl
theorem sameBits_key {ks : List Bool} {kv : V} (h : keyB ks kv = true) (e : Env) : Instr.sameBits 10000 (kv.tr e) (kv.tr e) = true := by
  rcases keyB_some h with ⟨_, k, n, rfl, _⟩ | ⟨_, l, rfl⟩ | ⟨_, x, rfl, hc⟩
  · simp [V.tr, S.tr, Instr.sameBits]
  · simp [V.tr, S.tr, Instr.sameBits, ba_eq]
  · have hk := cmpSs_kinds hc
    show Instr.sameBits (9999 + 1) (.agg (trs e x)) (.agg (trs e x)) = true
    simp only [Instr.sameBits, trs, beq_self_eq_true, Bool.true_and]
    clear hc h
    induction x with
    | nil => rfl
    | cons s x ih =>
      simp only [List.map_cons, List.zip_cons_cons, List.all_cons, Bool.and_eq_true]
      refine ⟨?_, ih fun y hy => hk y (List.mem_cons_of_mem _ hy)⟩
      rcases hk s List.mem_cons_self with ⟨k, n, rfl⟩ | ⟨b, rfl⟩ <;> simp [S.tr, Instr.sameBits]
theorem keyB_rk {ks : List Bool} {kv : V} {f g : Pth → Bool} (h : keyB ks kv = true) (hf : kv.rf f = true) : kv.rk g = true := by
  rcases keyB_some h with ⟨_, k, n, rfl, hn⟩ | ⟨_, l, rfl⟩ | ⟨_, x, rfl, hc⟩
  · exact reB_kn hn
  · rfl
  · have hk := cmpSs_kinds hc
    show x.all (S.rf g) = true
    have hf : x.all (S.rf f) = true := hf
    rw [List.all_eq_true] at hf ⊢
    intro s hs
    rcases hk s hs with ⟨k, n, rfl⟩ | ⟨b, rfl⟩
    · exact hf _ hs
    · rfl
theorem cs_rk {v : V} {f : Pth → Bool} (h : v.pl = true) (hc : v.cs.all (S.rf f) = true) : v.rk f = true := by
  cases v with
  | s x =>
    have hc : [x].all (S.rf f) = true := hc
    have hc : x.rf f = true := by simpa using hc
    exact hc
  | agg xs => exact hc
  | tup _ => cases h
  | u => cases h
theorem acts_up {T kt et : TypeId} {m key v : Operand} {m' k' v' : O} {ks : List Bool} (ho : o.op = .mapUpdate T m key v ∨ o.op = .insert T m key v) (hu : P.underlying T = some (.map kt et)) (hk : keyKs P kt = some ks)
    (hm : compX Y m = some m') (hkey : compX Y key = some k') (hv : compX Y v = some v') : Acts Y P o (.up ks m' k' v') := by
  intro cal t h k r hr
  obtain ⟨hkb, hr1⟩ := onB_t (show onB (keyB ks (ev t k')) _ none = some r from hr)
  obtain ⟨s, hs, hr2⟩ := asS_some (show asS (ev t m') _ = some r from hr1)
  obtain ⟨knU, kne⟩ := keyB_nU hkb
  have hS1 : m ∈ o.op.operands := by rcases ho with ho | ho <;> simp [ho, Op.operands]
  have hS2 : key ∈ o.op.operands := by rcases ho with ho | ho <;> simp [ho, Op.operands]
  have hS3 : v ∈ o.op.operands := by rcases ho with ho | ho <;> simp [ho, Op.operands]
  cases s <;> first | (cases hr2; done) | skip
  rename_i q
  obtain ⟨es, ck, hg, hr3⟩ := mpK_some (show mpK (h.gb q) _ = some r from hr2)
  obtain ⟨c1, c2, hr4, c4⟩ := asC_out hr3
  obtain ⟨h', hr5, w2, w3, w4, w5, w6, w7⟩ := widK_out hr4
  rw [updM_scan _ _ _ es 0] at hr5
  have hat : h.at q = .mp es ck := by rw [← Hp.gb_eq, hg]
  have hat' : h'.at q = .mp es ck := by rw [← hat]; unfold Hp.at; rw [w4]
  have main : ∀ (es' : List ME) (ck' : Nat), (∀ cal k, exJ (.up ks m' k' v') cal t h k = k vu (h'.set q (.mp es' ck'))) →
      (∀ f, (B.mp es ck).rf f = true → (ev t k').rk f = true → (ev t v').rk f = true → (B.mp es' ck').rf f = true) →
      (∀ (e : Env) (a : Act) (w : World), OT Y e t (Pth.ok h.n.n) a (· ∈ o.op.operands) → (execOp a.eval o).run P w = ((Instr.mapUpdate T (.map (some (e.σ q).1)) ((ev t k').tr e) ((ev t v').tr e)).run P w).andThen (fun _ w' => .ok .skip w')  →
        w.heap[(e.σ q).1]? = some (.map (es.map (entT e)).toArray ck) → (execOp a.eval o).run P w = .ok .skip (w.putObj (e.σ q).1 (.map (es'.map (entT e)).toArray ck'))) →
      ∃ v h1, (∀ cal k, exJ (.up ks m' k' v') cal t h k = k v h1) ∧ h1.df = h.df ∧
        ∀ e a w, OT Y e t (Pth.ok h.n.n) a (· ∈ o.op.operands) → Rel e h w → ∃ nx x w' e', (execOp a.eval o).run P w = .ok nx w' ∧ ((nx = .value x) ∨ (nx = .skip ∧ x = undef)) ∧ Step e h w e' h1 w' ∧ Isu e' v x ∧ v.ok h1.n.n = true := fun es' ck' hev hrf hrun => by
    refine ⟨vu, _, hev, w6, fun e a w hT H => ?_⟩
    obtain ⟨e1, e2⟩ := ev_eq hT hS1 hm hs (by simp) rfl
    obtain ⟨k1, k2⟩ := ev_eq hT hS2 hkey rfl kne knU
    obtain ⟨v1, v2⟩ := ev_eq hT hS3 hv rfl (pl_u c1) (pl_nU c1 c2)
    have hgb := H.gb (r := q) e2
    obtain ⟨g1, g2⟩ := hgb
    rw [hg] at g1 g2
    have g1 : w.heap[(e.σ q).1]? = some (.map (es.map (entT e)).toArray ck) := g1
    have e1 : a.eval m = .map (some (e.σ q).1) := e1
    have W := w3 H
    have hr' : q.n < h'.n.n := by rw [w5]; exact Pth.ok_iff.1 e2
    have hx := hrun e a w hT (by rcases ho with ho | ho <;> simp [execOp, ho, e1, k1, v1] <;> rfl) g1
    have hlt : (e.σ q).1 < w.heap.size := (Array.getElem?_eq_some_iff.1 g1).1
    refine ⟨.skip, undef, _, e, hx, .inr ⟨rfl, rfl⟩, W.trans (Step.upd W.rel hr' (by rw [hat']; rfl) ?_ ?_ ?_ (fun b hb => World.putObj_heap_other hb) (by rw [World.putObj_size]; exact Nat.le_refl _) rfl rfl rfl), undef_is, rfl⟩
    · show (w.putObj (e.σ q).1 _).heap[(e.σ q).1]? = _
      exact World.putObj_heap_same hlt
    · rw [w5]
      exact hrf _ g2 (keyB_rk hkb k2) (cs_rk c1 (cs_rf c1 c2 v2))
    · have := W.rel.esc q hr'
      rw [hat'] at this
      exact hrf _ this (keyB_rk hkb k2) (cs_rk c1 (w7 (cs_rf c1 c2 v2)))
  have hev0 : ∀ cal k, exJ (.up ks m' k' v') cal t h k = updM ks (ev t k') (ev t v') es (fun es => h'.setK q (.mp es ck) fun h => k vu h) (fun _ => fN (Nat.succ ck) fun ck' => h'.setK q (.mp (apM es [(ev t k', ev t v', ck)]) ck') fun h => k vu h) := fun cal k => by
    show onB (keyB ks (ev t k')) _ none = _
    rw [hkb, e_t, hs, e_asS]
    show mpK (h.gb q) _ = _
    rw [hg, e_mpK, c4, w2]
  have hap : ∀ a b : List ME, apM a b = a ++ b := fun a => by
    induction a with
    | nil => intro b; rfl
    | cons x a ih => intro b; show x :: apM a b = _; rw [ih]; rfl
  have hset : ∀ (w : World) (e : Env) (ob : Obj), w.heap[(e.σ q).1]? = some (.map (es.map (entT e)).toArray ck) → (setObj (e.σ q).1 ob).run P w = .ok () (w.putObj (e.σ q).1 ob) := fun w e ob hw => MapKept.run_setObj_map ob hw
  cases hsc : scan ks (ev t k') es 0 with
  | none => rw [hsc] at hr5; cases hr5
  | some sr =>
    cases sr with
    | none =>
      refine main (es ++ [(ev t k', ev t v', ck)]) (ck + 1) (fun cal k => ?_) (fun f h1 h2 h3 => ?_) (fun e a w hT hx hw => ?_)
      · rw [hev0, updM_scan _ _ _ es 0, hsc]
        show fN (Nat.succ ck) _ = _
        rw [fN_eq, Hp.setK_eq, hap]
      · simp only [B.rf, List.all_append, Bool.and_eq_true] at h1 ⊢
        exact ⟨h1, by simp [h2, h3]⟩
      · have c2 := scan_find hk hsc e w
        simp only [Option.map_none] at c2
        have hck := ck_run hk hkb false e w
        rw [hx]
        simp only [Instr.mapUpdate, Sem.run_bind, run_underlying hu, Result.andThen_ok, MapKept.run_getObj_map hw, hck, c2, hset w e _ hw]
        congr 2
        simp [entT]
    | some jv =>
      obtain ⟨j, v0⟩ := jv
      obtain ⟨a0, b0, _, hj, hq⟩ := scan_mem hsc
      rw [Nat.sub_zero] at hj
      refine main (es.modify j fun x => (x.1, ev t v', x.2.2)) ck (fun cal k => ?_) (fun f h1 h2 h3 => ?_) (fun e a w hT hx hw => ?_)
      · rw [hev0, updM_scan _ _ _ es 0, hsc]
        show Hp.setK h' q _ _ = _
        rw [Hp.setK_eq, Nat.sub_zero]
      · simp only [B.rf, List.all_eq_true, Bool.and_eq_true] at h1 ⊢
        intro x hx
        obtain ⟨i, hi⟩ := List.mem_iff_getElem?.1 hx
        rw [List.getElem?_modify] at hi
        cases hei : es[i]? with
        | none => rw [hei] at hi; simp at hi
        | some y =>
          rw [hei] at hi
          simp only [Option.map_eq_map, Option.map_some, Option.some.injEq] at hi
          have := h1 y (List.mem_of_getElem? hei)
          subst hi
          split
          · exact ⟨this.1, h3⟩
          · exact this
      · have c2 := scan_find hk hsc e w
        simp only [Option.map_some] at c2
        have hck := ck_run hk hkb false e w
        have hkey0 : (((es.map (entT e)).toArray[j]?).map (·.key)).getD ((ev t k').tr e) = (ev t k').tr e := by
          simp only [List.getElem?_toArray, List.getElem?_map, hj, Option.map_some, Option.getD_some, entT]
          exact (eqK_tr hq e).symm
        have hst : (Instr.keyThatStays ((ev t k').tr e) ((ev t k').tr e)).run P w = .ok ((ev t k').tr e) w := by
          simp [Instr.keyThatStays, sameBits_key hkb e]
        rw [hx]
        simp only [Instr.mapUpdate, Sem.run_bind, run_underlying hu, Result.andThen_ok, MapKept.run_getObj_map hw, hck, c2, hkey0, hst, hset w e _ hw]
        congr 3
        apply Array.ext_getElem?
        intro i
        simp only [Array.getElem?_modify, List.getElem?_toArray, List.getElem?_map, List.getElem?_modify]
        by_cases hij : j = i
        · subst hij
          rw [hj]
          simp only [if_true, Option.map_eq_map, Option.map_some, entT]
          rw [eqK_tr hq e]
        · rw [if_neg hij]
          cases es[i]? <;> simp [hij]
theorem makes_rng {T kt et : TypeId} {x : Operand} {y : O} (ho : o.op = .range T x) (hu : P.underlying T = some (.map kt et)) (hx : compX Y x = some y) : Acts Y P o (.rng y) := by
  intro cal t h k r hr
  obtain ⟨s, hs, hr1⟩ := asS_some (show asS (ev t y) _ = some r from hr)
  have fin : ∀ (m : Option Pth) (since : Nat), (∀ cal k, exJ (.rng y) cal t h k = k (.s (.p h.n 0)) (h.push (.it m since [] since))) →
      (∀ e a w, OT Y e t (Pth.ok h.n.n) a (· ∈ o.op.operands) → Rel e h w → (match m with | some q => q.ok h.n.n = true | none => True) ∧ (execOp a.eval o).run P w = .ok (.value (.pointer (some ⟨w.heap.size, 0, none⟩))) (w.alloc (.mapIter (m.map fun q => (e.σ q).1) since #[] since))) →
      ∃ v h1, (∀ cal k, exJ (.rng y) cal t h k = k v h1) ∧ h1.df = h.df ∧
        ∀ e a w, OT Y e t (Pth.ok h.n.n) a (· ∈ o.op.operands) → Rel e h w → ∃ nx x w' e', (execOp a.eval o).run P w = .ok nx w' ∧ ((nx = .value x) ∨ (nx = .skip ∧ x = undef)) ∧ Step e h w e' h1 w' ∧ Isu e' v x ∧ v.ok h1.n.n = true := fun m since hev hrun => by
    refine ⟨_, _, hev, rfl, fun e a w hT H => ?_⟩
    obtain ⟨hm, hx⟩ := hrun e a w hT H
    have M := More.alloc w (.mapIter (m.map fun q => (e.σ q).1) since #[] since)
    refine ⟨_, _, _, e.lay h.n (w.heap.size, 0) 0, hx, .inl rfl, Step.new H _ 0 ?_ ?_ M.old (Nat.le_refl _) (by have := M.size; omega) M.os M.tape M.output, .inr (.inl ?_), ?_⟩
    · refine ⟨by rw [lay_σ], ?_⟩
      rw [lay_σ]
      have h1 : (w.alloc (.mapIter (m.map fun q => (e.σ q).1) since #[] since)).heap[w.heap.size]? = some (.mapIter (m.map fun q => (e.σ q).1) since #[] since) := (MapKept.heap_alloc w _).1
      show (w.alloc (.mapIter (m.map fun q => (e.σ q).1) since #[] since)).heap[w.heap.size]? = _
      rw [h1]
      cases m with
      | none => rfl
      | some q =>
        have hne : q ≠ h.n := fun c => by rw [c] at hm; have := Pth.ok_iff.1 hm; omega
        simp only [Option.map_some]
        show _ = some (Obj.mapIter (some ((e.lay h.n (w.heap.size, 0) 0).σ q).1) since [].toArray since)
        rw [show (e.lay h.n (w.heap.size, 0) 0).σ q = e.σ q from if_neg hne]
    · cases m with
      | none => rfl
      | some q => exact hm
    · simp only [V.tr, S.tr, lay_adr]
    · show Pth.ok _ _ = true
      rw [Pth.ok_iff, Hp.n_push]; omega
  have hSx : x ∈ o.op.operands := by simp [ho, Op.operands]
  cases s <;> first | (cases hr1; done) | skip
  · rename_i q
    obtain ⟨es, ck, hg, hr2⟩ := mpK_some (show mpK (h.gb q) _ = some r from hr1)
    refine fin (some q) ck (fun cal k => ?_) (fun e a w hT H => ?_)
    · show asS (ev t y) _ = _
      rw [hs, e_asS]
      show mpK (h.gb q) _ = _
      rw [hg, e_mpK]; exact Hp.pushK_eq h _ _
    · obtain ⟨e1, e2⟩ := ev_eq hT hSx hx hs (by simp) rfl
      obtain ⟨g1, g2⟩ := H.gb (r := q) e2
      rw [hg] at g1
      have g1 : w.heap[(e.σ q).1]? = some (.map (es.map (entT e)).toArray ck) := g1
      have e1 : a.eval x = .map (some (e.σ q).1) := e1
      exact ⟨e2, by simp [execOp, ho, e1, Instr.range, run_underlying hu, MapKept.run_getObj_map g1]⟩
  · refine fin none 0 (fun cal k => ?_) (fun e a w hT H => ?_)
    · show asS (ev t y) _ = _
      rw [hs, e_asS]; exact Hp.pushK_eq h _ _
    · obtain ⟨e1, e2⟩ := ev_eq hT hSx hx hs (by simp) rfl
      have e1 : a.eval x = .map none := e1
      exact ⟨trivial, by simp [execOp, ho, e1, Instr.range, run_underlying hu]⟩
end
def J.calls : J → Bool
  | .call .. | .callv .. | .nxt _ | .dfr .. => true
  | _ => false
inductive Cls (Y : Lay) (P : Program) (o : Oper) (op : J) : Prop where
  | p (h : Pure Y P o op) (k : op.kind = 0)
  | l (h : Looks Y P o op) (k : op.kind = 1)
  | m (h : Makes Y P o op) (k : op.kind = 2)
  | a (h : Acts Y P o op) (k : op.kind = 3) (c : op.calls = false)
  | c (k : op.kind = 3) (c : op.calls = true)
section
variable {Y : Lay} {P : Program} {o : Oper}
theorem Cls.acts {op : J} (H : Cls Y P o op) (hc : op.calls = false) : Acts Y P o op := by
  cases H with
  | p h k => exact h.looks.acts
  | l h k => exact h.acts
  | m h k => exact h.acts
  | a h k c => exact h
  | c k c => rw [hc] at c; cases c
theorem eqn_cls {b : BinOp} {T U : TypeId} {x y : Operand} {x' y' : O} {op : J} (q : Bool) (ho : o.op = .binOp (if q then .neq else .eql) T x y U) (hx : compX Y x = some x') (hy : compX Y y = some y')
    (h : compE P q T y x' y' = some op) : Cls Y P o op := by
  unfold compE at h
  split at h
  · rename_i fs hu
    split at h
    · rename_i l hl
      split at h
      · cases h
      · rename_i hg; cases h; exact .p (pure_eqa ho (.inl ⟨_, hu⟩) hl (by simpa using hg) hx hy) rfl
    · cases h
  · rename_i n e hu
    split at h
    · rename_i l hl
      split at h
      · cases h
      · rename_i hg; cases h; exact .p (pure_eqa ho (.inr ⟨_, _, hu⟩) hl (by simpa using hg) hx hy) rfl
    · cases h
  · rename_i e hu
    split at h
    · rename_i hn; cases h; exact .p (pure_eqn_ptr ho hu hn hx) rfl
    · cases h
  · rename_i e hu
    split at h
    · rename_i hn; cases h; exact .p (pure_eqn_sl ho hu hn hx) rfl
    · cases h
  · rename_i k e hu
    split at h
    · rename_i hn; cases h; exact .p (pure_eqn_mp ho hu hn hx) rfl
    · cases h
  · rename_i a1 a2 a3 hu
    split at h
    · rename_i hn; cases h; exact .p (pure_eqn_fn ho hu hn hx) rfl
    · cases h
  · rename_i hu; cases h; exact .p (pure_eqb ho hu hx hy) rfl
  · cases h; exact .p (pure_bin ho hx hy) rfl
  · cases h
theorem comp_cls {op : J} (hc : compI Y P o = some op) : Cls Y P o op := by
  unfold compI at hc
  split at hc
  · rename_i x ho
    obtain ⟨y, hx, rfl⟩ := Option.map_eq_some_iff.1 hc
    exact .p (pure_mv (.inl ho) hx) rfl
  · rename_i x ho
    obtain ⟨y, hx, rfl⟩ := Option.map_eq_some_iff.1 hc
    exact .p (pure_mv (.inr ho) hx) rfl
  · rename_i c x y ho
    split at hc
    · rename_i c' x' y' h1 h2 h3; cases hc; exact .p (pure_pick ho h1 h2 h3) rfl
    · cases hc
  · rename_i T ho
    obtain ⟨z, hz, rfl⟩ := Option.map_eq_some_iff.1 hc
    exact .m (makes_new ho hz) rfl
  · rename_i T x ho
    obtain ⟨y, hx, rfl⟩ := Option.map_eq_some_iff.1 hc
    exact .m (makes_box ho hx) rfl
  · rename_i T parts ho
    split at hc
    · rename_i z fs hz hu
      split at hc
      · rename_i hall
        obtain ⟨qs, hq, rfl⟩ := Option.map_eq_some_iff.1 hc
        exact .p (pure_build_struct ho hz hu hall hq) rfl
      · cases hc
    · rename_i z n e hz hu
      split at hc
      · rename_i i hi
        obtain ⟨qs, hq, rfl⟩ := Option.map_eq_some_iff.1 hc
        exact .p (pure_build_array ho hz hu hi hq) rfl
      · cases hc
    · cases hc
  · rename_i T n parts ho
    split at hc
    · rename_i e hu
      split at hc
      · rename_i i z hi hz
        split at hc
        · rename_i hcond
          obtain ⟨qs, hq, rfl⟩ := Option.map_eq_some_iff.1 hc
          exact .m (makes_bsl ho hu hi hz hcond.1 hcond.2 hq) rfl
        · cases hc
      · cases hc
    · cases hc
  · rename_i T x ho
    split at hc
    · rename_i y hx hn; cases hc; exact .l (looks_ld ho hn hx) rfl
    · rename_i y n hx hn; cases hc; exact .l (looks_ldn ho hn hx) rfl
    · cases hc
  · rename_i T x y ho
    split at hc
    · rename_i x' y' i hx hy hi; cases hc; exact .a (acts_st ho hi hx hy) rfl rfl
    · cases hc
  · rename_i x ho
    obtain ⟨y, hx, rfl⟩ := Option.map_eq_some_iff.1 hc
    exact .p (pure_nil ho hx) rfl
  · rename_i b T x y U ho
    split at hc
    · rename_i x' y' hx hy
      split at hc
      · exact eqn_cls (b := .eql) false ho hx hy hc
      · exact eqn_cls (b := .eql) true ho hx hy hc
      · cases hc; exact .p (pure_bin ho hx hy) rfl
    · cases hc
  · rename_i u T x ho
    obtain ⟨y, hx, rfl⟩ := Option.map_eq_some_iff.1 hc
    exact .p (pure_un ho hx) rfl
  · rename_i src dst x ho
    split at hc
    · rename_i d k y h1 h2 h3; cases hc; exact .p (pure_conv ho h1 h2 h3) rfl
    · cases hc
  · rename_i f first caps ho
    split at hc
    · rename_i h2
      obtain ⟨ys, hx, rfl⟩ := Option.map_eq_some_iff.1 hc
      exact .p (pure_mkf ho h2 hx) rfl
    · rename_i x h1 h2
      obtain ⟨y, hx, rfl⟩ := Option.map_eq_some_iff.1 hc
      exact .p (pure_mkm ho h1 h2 hx) rfl
    · cases hc
  · rename_i T n c ho
    split at hc
    · rename_i e n' c' hu hn hc'
      split at hc
      · rename_i i z hi hz
        split at hc
        · cases hc
        · rename_i hsz; cases hc; exact .m (makes_mks ho hu hi hz hsz hn hc') rfl
      · cases hc
    · cases hc
  · rename_i T x lo hi mx ho
    split at hc
    · cases hc
    · rename_i hmh
      split at hc
      · rename_i x' lo' hi' mx' h1 h2 h3 h4
        have hmh' : mx.isSome = true → hi.isSome = true := fun h => by
          rw [not_and] at hmh
          have := hmh h
          cases hi <;> simp at this ⊢
        split at hc
        · rename_i e hu
          obtain ⟨k, hk, rfl⟩ := Option.map_eq_some_iff.1 hc
          exact .p (pure_slc (arr := none) ho hu hk h1 h2 h3 h4 hmh') rfl
        · rename_i n e hu
          split at hc
          · rename_i hG
            obtain ⟨k, hk, rfl⟩ := Option.map_eq_some_iff.1 hc
            exact .p (pure_slc (arr := some n) ho ⟨hu, hG⟩ hk h1 h2 h3 h4 hmh') rfl
          · cases hc
        · cases hc
      · cases hc
  · rename_i T x f ho
    split at hc
    · rename_i fs y hu hx
      split at hc
      · rename_i fl hf
        split at hc
        · rename_i i hi
          split at hc
          · cases hc
          · rename_i hsz; cases hc; exact .p (pure_fa ho hu hf hi hsz hx) rfl
        · cases hc
      · cases hc
    · cases hc
  · rename_i T x f ho
    split at hc
    · rename_i fs y hu hx
      split at hc
      · rename_i fl hf
        obtain ⟨n, hn, rfl⟩ := Option.map_eq_some_iff.1 hc
        exact .p (pure_fld ho hu hf hn hx) rfl
      · cases hc
    · cases hc
  · rename_i T x i ho
    split at hc
    · rename_i n e x' i' hu hx hi
      obtain ⟨k, hk, rfl⟩ := Option.map_eq_some_iff.1 hc
      exact .p (pure_ia (arr := some n) ho hu hk hx hi) rfl
    · rename_i e x' i' hu hx hi
      obtain ⟨k, hk, rfl⟩ := Option.map_eq_some_iff.1 hc
      exact .p (pure_ia (arr := none) ho hu hk hx hi) rfl
    · cases hc
  · rename_i T x i ho
    split at hc
    · rename_i n e x' i' hu hx hi
      split at hc
      · rename_i k m hk hm; cases hc; exact .p (pure_ix ho hu hk hm hx hi) rfl
      · cases hc
    · rename_i x' i' hu hx hi; cases hc; exact .p (pure_ixs ho hu hx hi) rfl
    · cases hc
  · rename_i x j ho
    obtain ⟨y, hx, rfl⟩ := Option.map_eq_some_iff.1 hc
    exact .p (pure_ext ho hx) rfl
  · rename_i c ho
    split at hc
    · split at hc
      · split at hc
        · obtain ⟨ys, hx, rfl⟩ := Option.map_eq_some_iff.1 hc
          exact .c rfl rfl
        · cases hc
      · cases hc
    · obtain ⟨ys, hx, rfl⟩ := Option.map_eq_some_iff.1 hc
      exact .c rfl rfl
    · rename_i hcal
      split at hc
      · rename_i x T ha hat
        split at hc
        · rename_i e hu
          obtain ⟨y, hx, rfl⟩ := Option.map_eq_some_iff.1 hc
          exact .p (pure_len ho hcal ha hat hu hx) rfl
        · rename_i kt et hu
          obtain ⟨y, hx, rfl⟩ := Option.map_eq_some_iff.1 hc
          exact .l (looks_lenm ho hcal ha hat hu hx) rfl
        · cases hc
      · cases hc
    · rename_i hcal
      split at hc
      · rename_i x y T U ha hat
        split at hc
        · rename_i e f hT hU
          split at hc
          · rename_i i z x' y' hi hz hx hy
            split at hc
            · cases hc
            · rename_i hb; cases hc; exact .a (acts_app ho hcal ha hat hT hU hi hz hb hx hy) rfl rfl
          · cases hc
        · cases hc
      · cases hc
    · rename_i hcal
      split at hc
      · rename_i x y T U ha hat
        split at hc
        · rename_i e hu
          split at hc
          · rename_i i x' y' hi hx hy; cases hc; exact .a (acts_cpy ho hcal ha hat hu hi hx hy) rfl rfl
          · cases hc
        · cases hc
      · cases hc
    · rename_i hcal
      split at hc
      · rename_i x y ha
        split at hc
        · rename_i x' y' hx hy; cases hc; exact .p (pure_mx (q := false) ho hcal ha hx hy) rfl
        · cases hc
      · cases hc
    · rename_i hcal
      split at hc
      · rename_i x y ha
        split at hc
        · rename_i x' y' hx hy; cases hc; exact .p (pure_mx (q := true) ho hcal ha hx hy) rfl
        · cases hc
      · cases hc
    · cases hc
  · rename_i T x ho
    split at hc
    · rename_i n e hu
      obtain ⟨y, hx, rfl⟩ := Option.map_eq_some_iff.1 hc
      exact .p (pure_arr ho hu hx) rfl
    · cases hc
  · rename_i T rs ho
    split at hc
    · cases hc; exact .m (makes_mkmap ho) rfl
    · cases hc
  · rename_i T m key ok ho
    split at hc
    · rename_i kt et m' k' hu hm hkey
      split at hc
      · rename_i z hz
        obtain ⟨ks, hk, rfl⟩ := Option.map_eq_some_iff.1 hc
        exact .l (looks_lk ho hu hz hk hm hkey) rfl
      · cases hc
    · cases hc
  · rename_i T m key v ho
    split at hc
    · rename_i kt et m' k' v' hu hm hkey hv
      obtain ⟨ks, hk, rfl⟩ := Option.map_eq_some_iff.1 hc
      exact .a (acts_up (.inr ho) hu hk hm hkey hv) rfl rfl
    · cases hc
  · rename_i T m key v ho
    split at hc
    · rename_i kt et m' k' v' hu hm hkey hv
      obtain ⟨ks, hk, rfl⟩ := Option.map_eq_some_iff.1 hc
      exact .a (acts_up (.inl ho) hu hk hm hkey hv) rfl rfl
    · cases hc
  · rename_i T x ho
    split at hc
    · rename_i kt et y hu hx
      cases hc; exact .a (makes_rng ho hu hx) rfl rfl
    · cases hc
  · rename_i x ho
    obtain ⟨y, hx, rfl⟩ := Option.map_eq_some_iff.1 hc
    exact .c rfl rfl
  · rename_i x ho
    obtain ⟨y, hx, rfl⟩ := Option.map_eq_some_iff.1 hc
    exact .l (looks_ent ho hx) rfl
  · rename_i c ho
    split at hc
    · obtain ⟨ys, hx, rfl⟩ := Option.map_eq_some_iff.1 hc
      exact .c rfl rfl
    · cases hc
  · cases hc
end
def wd (ro : Option Nat) : Fence := { Fence.wide with round := ro }
theorem wd_none : wd none = Fence.wide := rfl
theorem wd_fn (ro : Option Nat) (f : FuncId) : (wd ro).fn f := trivial
theorem wd_room (ro : Option Nat) (n : Nat) : (wd ro).room n := fun _ h => by simp [wd, Fence.wide] at h
theorem fenced_wd (P : Program) (ro : Option Nat) : Machine.fenced P (wd ro) = Machine.fenced P Fence.wide := rfl
inductive All2 {α β : Type} (R : α → β → Prop) : List α → List β → Prop where
  | nil : All2 R [] []
  | cons {x : α} {y : β} {l : List α} {m : List β} (h : R x y) (t : All2 R l m) : All2 R (x :: l) (y :: m)
def ret (R : Value → World → Prop) : Ending → World → Prop := fun e w => ∃ v, e = .returned v ∧ R v w
def FnOk (P : Program) (f : FuncId) : Prop := ∃ fn, P.funcs[f]? = some fn ∧ fn.body.isSome = true ∧ (fn.name == "runtime.NumGoroutine") = false
def RoundW (P : Program) (l : Nat) (f : FuncId) (tm : Array Value) (asg body : Code) (w : World) (R : Value → World → Prop) : Prop := ∀ n, RoundIn Fence.wide n P l f tm asg body w (ret R)
def CallS (P : Program) (e : Env) (s : S) (args : Array Value) (w : World) (R : Value → World → Prop) : Prop :=
  match s with
  | .fn f cs => FnOk P f.n ∧ Calls P f.n (args ++ (cs.map fun x => Value.pointer (some (adr e x.1 x.2))).toArray) w (ret R)
  | .fm f q r o => FnOk P f.n ∧ Calls P f.n (#[if q then Value.agg #[.pointer (some (adr e r o))] else .pointer (some (adr e r o))] ++ args) w (ret R)
  | .yl r => ∃ f tm asg body, (Instr.yield (e.σ r).1 args).run P w = .ok (.round (e.σ r).1 f tm asg body) w ∧ RoundW P (e.σ r).1 f tm asg body w R
  | _ => False
theorem ret_mono {R R' : Value → World → Prop} (h : ∀ v w, R v w → R' v w) : ∀ e w, ret R e w → ret R' e w := fun _ _ ⟨v, h1, h2⟩ => ⟨v, h1, h _ _ h2⟩
theorem CallS.mono {P : Program} {e : Env} {s : S} {args : Array Value} {w : World} {R R' : Value → World → Prop} (h : CallS P e s args w R) (hr : ∀ v w, R v w → R' v w) : CallS P e s args w R' := by
  cases s <;> first | exact h.elim | skip
  · exact ⟨h.1, h.2.mono (ret_mono hr)⟩
  · exact ⟨h.1, h.2.mono (ret_mono hr)⟩
  · obtain ⟨f, tm, asg, body, h1, h2⟩ := h
    exact ⟨f, tm, asg, body, h1, fun n => (h2 n).mono (ret_mono hr)⟩
def Iss (e : Env) (vs : List V) (xs : List Value) : Prop := All2 (Isu e) vs xs
def Post (e : Env) (h : Hp) (w : World) (r : RES) (x : Value) (w' : World) : Prop := ∃ e', Step e h w e' r.2 w' ∧ r.2.df = h.df ∧ Isu e' r.1 x ∧ r.1.ok r.2.n.n = true
structure KP where
  k : Nat → Code → DJ → Prop
  ρ : Nat → Int
  β : Nat
def EK (e : Env) (κ : KP) : Prop := e.κ = κ.k ∧ e.ρ = κ.ρ ∧ e.β = κ.β
theorem EK.agr {n : Nat} {e e' : Env} {κ : KP} (H : EK e κ) (A : Agr n e e') : EK e' κ := ⟨A.κ.trans H.1, A.ρ.trans H.2.1, A.β.trans H.2.2⟩
def CalOk (Y : Lay) (P : Program) (κ : KP) (cal : Cal) : Prop :=
  ∀ s args h r, cal s args h = some r → ∀ e w xs, EK e κ → Rel e h w → Gl Y e (Pth.ok h.n.n) → (V.s s).rf (Pth.ok h.n.n) = true → args.all (V.rf (Pth.ok h.n.n)) = true → Iss e args xs → CallS P e s xs.toArray w (Post e h w r)
def Lk (h : Hp) (r r' : RES) : Prop := r' = r ∨ (h.ch = true ∧ r'.1 = r.1 ∧ r'.2.er = r.2.er ∧ r'.2.eq = r.2.eq ∧ ∀ p : Pth, p.n < h.fz → r'.2.at p = r.2.at p)
theorem Lk.refl (h : Hp) (r : RES) : Lk h r r := .inl rfl
theorem Lk.trans {h : Hp} {a b c : RES} (h1 : Lk h a b) (h2 : Lk h b c) : Lk h a c := by
  rcases h1 with rfl | ⟨c1, v1, e1, q1, p1⟩
  · exact h2
  · rcases h2 with rfl | ⟨c2, v2, e2, q2, p2⟩
    · exact .inr ⟨c1, v1, e1, q1, p1⟩
    · exact .inr ⟨c1, v2.trans v1, e2.trans e1, q2.trans q1, fun p hp => (p2 p hp).trans (p1 p hp)⟩
theorem Lk.of {h h' : Hp} {a b : RES} (hf : h'.fz = h.fz) (hc : h'.ch = h.ch) (H : Lk h' a b) : Lk h a b := by
  rcases H with h1 | ⟨c1, v1, e1, q1, p1⟩
  · exact .inl h1
  · exact .inr ⟨hc ▸ c1, v1, e1, q1, fun p hp => p1 p (hf ▸ hp)⟩
theorem Gl.step {Y : Lay} {e e' : Env} {h h' : Hp} {w w' : World} (G : Gl Y e (Pth.ok h.n.n)) (T : Step e h w e' h' w') : Gl Y e' (Pth.ok h'.n.n) := fun g p hg => by
  obtain ⟨h1, h2⟩ := G g p hg
  refine ⟨Pth.ok_mono T.le h1, ?_⟩
  rw [T.agr.σ p (Pth.ok_iff.1 h1)]; exact h2
def markOf (b : Nat) : Deferred := { target := .collected b, args := #[] }
def DfR (P : Program) (e : Env) (n : Nat) (df : List DF) (ds : List Deferred) : Prop := All2 (fun d x => match d with
  | .mk r => r.n < n ∧ x = markOf (e.σ r).1
  | .fn f args => args.all (V.rf (Pth.ok n)) = true ∧ ∃ xs, Iss e args xs ∧ x = { target := .fn (.func f.n) #[], args := xs.toArray }) df ds
theorem Iss.agr {n : Nat} {e e' : Env} (A : Agr n e e') : ∀ {vs : List V} {xs : List Value}, vs.all (V.rf (Pth.ok n)) = true → Iss e vs xs → Iss e' vs xs
  | _, _, _, .nil => All2.nil
  | _, _, h, .cons h1 h2 => by
    simp only [List.all_cons, Bool.and_eq_true] at h
    refine All2.cons ?_ (Iss.agr A h.2 h2)
    rcases h1 with h1 | h1
    · exact .inl h1
    · exact .inr (A.is h.1 h1)
theorem vall_mono {n n' : Nat} (hn : n ≤ n') {vs : List V} (h : vs.all (V.rf (Pth.ok n)) = true) : vs.all (V.rf (Pth.ok n')) = true := by
  simp only [List.all_eq_true] at *
  exact fun x hx => V.ok_mono hn (h x hx)
theorem DfR.agr {P : Program} {n n' : Nat} {e e' : Env} (A : Agr n e e') (hn : n ≤ n') {df : List DF} {ds : List Deferred} (H : DfR P e n df ds) : DfR P e' n' df ds := by
  unfold DfR at *
  induction H with
  | nil => exact All2.nil
  | @cons d x _ _ h1 _ ih =>
    refine All2.cons ?_ ih
    cases d with
    | mk r => exact ⟨by have := h1.1; omega, by rw [A.σ r h1.1]; exact h1.2⟩
    | fn f args =>
      obtain ⟨i1, xs, i2, i3⟩ := h1
      exact ⟨vall_mono hn i1, xs, i2.agr A i1, i3⟩
section
variable {Y : Lay} {P : Program} {κ : KP} {cal : Cal}
def WpJ (Y : Lay) (P : Program) (κ : KP) (cal : Cal) (o : Oper) (op : J) (ro : Option Nat) : Prop :=
  ∀ t h k r, exJ op cal t h k = some r → ∀ n e a w, EK e κ → OT Y e t (Pth.ok h.n.n) a (· ∈ o.op.operands) → Rel e h w → DfR P e h.n.n h.df a.defers → ∀ next Q,
    (∀ v h1 e' w' x ds r', k v h1 = some r' → Lk h r r' → Step e h w e' h1 w' → Isu e' v x → v.ok h1.n.n = true → DfR P e' h1.n.n h1.df ds → next ({ a with defers := ds }.put o.dst x) w') → o.wpIn (wd ro) n P a w next Q
theorem wpIn_run {o : Oper} {ro : Option Nat} {n : Nat} {a : Act} {w w' : World} {nx : Next} {x : Value} {next : Act → World → Prop} {Q : Exit → Act → World → Prop} (hno : ∀ c, o.op ≠ .defer c) (hr : (execOp a.eval o).run P w = .ok nx w') (hx : nx = .value x ∨ (nx = .skip ∧ x = undef))
    (h : next (a.put o.dst x) w') : o.wpIn (wd ro) n P a w next Q := by
  refine ⟨fun f _ => wd_fn ro f, ?_⟩
  rw [Oper.semAt_eq _ _ _ hno, hr]
  rcases hx with rfl | ⟨rfl, rfl⟩
  · rw [Oper.uponIn_value]; exact h
  · rw [Oper.uponIn_skip]; exact h
theorem Acts.wp {o : Oper} {op : J} {ro : Option Nat} (H : Acts Y P o op) (hno : ∀ c, o.op ≠ .defer c) : WpJ Y P κ cal o op ro := by
  intro t h k r hr n e a w _ hT hR hD next Q hn
  obtain ⟨v, h1, i1, i2, i3⟩ := H cal t h k r hr
  obtain ⟨nx, x, w', e', j1, j2, j3, j4, j5⟩ := i3 e a w hT hR
  rw [i1] at hr
  refine wpIn_run hno j1 j2 ?_
  have := hn v h1 e' w' x a.defers r hr (.refl _ _) j3 j4 j5 (by rw [i2]; exact hD.agr j3.agr j3.le)
  exact this
theorem callFunc_run {f : FuncId} (hf : FnOk P f) (args : Array Value) (w : World) : (callFunc f args).run P w = .ok (.enter f args) w := by
  obtain ⟨fn, h1, h2, h3⟩ := hf
  simp only [callFunc, Sem.run_bind, run_program, Result.andThen_ok, h1, h3, Bool.false_eq_true, if_false]
  have : fn.body.isNone = false := by cases hb : fn.body <;> simp [hb] at h2 ⊢
  simp [this]
theorem retK_some {k : KV} {r : Ans} {q : RES} (h : retK k r = some q) : ∃ v h1, r = some (v, h1) ∧ k v h1 = some q := by
  cases r with
  | none => cases h
  | some r => obtain ⟨v, h1⟩ := r; exact ⟨v, h1, rfl, h⟩
theorem args_is {e : Env} {t : T} {f : Pth → Bool} {a : Act} {Z : Operand → Prop} (hT : OT Y e t f a Z) : ∀ {xs : List Operand} {ys : List O}, (∀ x ∈ xs, Z x) → compXs Y xs = some ys → (evs t ys).all (V.rf f) = true ∧ Iss e (evs t ys) (xs.map a.eval)
  | [], ys, _, hx => by simp only [compXs, Option.some.injEq] at hx; subst hx; exact ⟨rfl, All2.nil⟩
  | x :: xs, ys, hZ, hx => by
    simp only [compXs] at hx
    cases h1 : compX Y x with
    | none => simp [h1] at hx
    | some y =>
      cases h2 : compXs Y xs with
      | none => simp [h1, h2] at hx
      | some l =>
        simp only [h1, h2, Option.some.injEq] at hx
        subst hx
        obtain ⟨i1, i2⟩ := args_is hT (fun x hx => hZ x (List.mem_cons_of_mem _ hx)) h2
        obtain ⟨v1, v2⟩ := ev_is hT (hZ x List.mem_cons_self) h1
        refine ⟨?_, All2.cons v2 i2⟩
        show ((ev t y).rf f && (evs t l).all (V.rf f)) = true
        rw [v1, i1]; rfl
theorem call_wp {o : Oper} {c : Call} {x : Operand} {e : Env} {s : S} {a : Act} {w : World} {R : Value → World → Prop} {ro : Option Nat} {n : Nat} {next : Act → World → Prop} {Q : Exit → Act → World → Prop} (ho : o.op = .call c) (hc : c.callee = .value x) (hx : a.eval x = s.tr e)
    (H : CallS P e s (c.args.map a.eval) w R) (hn : ∀ v w', R v w' → next (a.put o.dst v) w') : o.wpIn (wd ro) n P a w next Q := by
  have hno : ∀ c, o.op ≠ .defer c := fun c h => by rw [ho] at h; cases h
  refine ⟨fun f _ => wd_fn ro f, ?_⟩
  rw [Oper.semAt_eq _ _ _ hno]
  have hfn : ∀ f vs, (execOp a.eval o).run P w = .ok (.enter f vs) w → Calls P f vs w (ret R) → o.uponIn (wd ro) n P a next Q ((execOp a.eval o).run P w) := fun f vs h1 h2 => by
    rw [h1, Oper.uponIn_enter]
    refine ⟨fun hd => by simp [wd, Fence.wide] at hd, ?_⟩
    have := (callsIn_wide (n := n - 1)).2 h2
    refine CallsIn.mono (F := wd ro) this ?_
    rintro e w' ⟨v, rfl, hv⟩
    exact hn v w' hv
  cases s <;> first | exact H.elim | skip
  · rename_i f cs
    obtain ⟨hok, hC⟩ := H
    refine hfn f.n _ ?_ hC
    simp only [S.tr] at hx
    simp [execOp, ho, resolve, hc, hx, Deferred.ofValue, invoke, callFunc_run hok]
  · rename_i f q r of
    obtain ⟨hok, hC⟩ := H
    refine hfn f.n _ ?_ hC
    simp only [S.tr] at hx
    simp [execOp, ho, resolve, hc, hx, Deferred.ofValue, invoke, callFunc_run hok]
  · rename_i r
    obtain ⟨f, tm, asg, body, h1, h2⟩ := H
    have hrun : (execOp a.eval o).run P w = .ok (.round (e.σ r).1 f tm asg body) w := by
      simp only [S.tr] at hx
      simp [execOp, ho, resolve, hc, hx, Deferred.ofValue, invoke, h1]
    rw [hrun, Oper.uponIn_round]
    refine ⟨fun hd => by simp [wd, Fence.wide] at hd, ?_⟩
    have := h2 (n - 1)
    refine RoundIn.mono (F := wd ro) this ?_
    rintro e w' ⟨v, rfl, hv⟩
    exact hn v w' hv
theorem call_inv {o : Oper} {f : Pth} {args : List O} (h : compI Y P o = some (.call f args)) : ∃ (c : Call) (g : FuncId), o.op = .call c ∧ c.callee = .value (.func g) ∧ f = Pth.of g ∧ compXs Y c.args.toList = some args := by
  unfold compI at h
  (repeat' split at h) <;> (try (simp only [Option.map_eq_some_iff] at h; obtain ⟨_, hx, h⟩ := h)) <;> (try (cases h; done)) <;> (try cases h)
  all_goals first
    | exact ⟨_, _, by assumption, by assumption, rfl, by assumption⟩
    | (exfalso; unfold compE at h; (repeat' split at h) <;> cases h)
theorem callv_inv {o : Oper} {f : O} {args : List O} (h : compI Y P o = some (.callv f args)) : ∃ (c : Call) (i : Tmp), o.op = .call c ∧ c.callee = .value (.tmp i) ∧ f = .t (Pth.of i) ∧ compXs Y c.args.toList = some args := by
  unfold compI at h
  (repeat' split at h) <;> (try (simp only [Option.map_eq_some_iff] at h; obtain ⟨_, hx, h⟩ := h)) <;> (try (cases h; done)) <;> (try cases h)
  all_goals first
    | exact ⟨_, _, by assumption, by assumption, rfl, by assumption⟩
    | (exfalso; unfold compE at h; (repeat' split at h) <;> cases h)
end
end Go.E
