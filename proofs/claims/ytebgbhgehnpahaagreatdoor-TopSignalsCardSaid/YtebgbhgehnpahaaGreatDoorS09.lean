/- A part of the proof of the claim that the last text of this folder states. -/
import Derived.RangeFuncRecord
import Derived.Test.YtebgbhgehnpahaaGreatDoorS08
namespace Go.E
set_option linter.all false
theorem mksB_out (z : List S) (c : Nat) : mksB z c = .c (zerosS z c) ∨ ∃ k, z = [.i k 0] ∧ mksB z c = .w k c (Nat.succ (Nat.log2 c)) (wmk 0 (Nat.succ (Nat.log2 c))) := by
  cases z with
  | nil => exact .inl rfl
  | cons s l =>
    cases l with
    | cons _ _ => exact .inl rfl
    | nil =>
      cases s <;> first | exact .inl rfl | skip
      rename_i k n
      have h : mksB [.i k n] c = Bool.casesOn (and (Nat.ble 64 c) (eqF n 0)) (.c (zerosS [.i k n] c)) (.w k c (Nat.succ (Nat.log2 c)) (wmk 0 (Nat.succ (Nat.log2 c)))) := rfl
      cases hb : and (Nat.ble 64 c) (eqF n 0) with
      | false => left; rw [h, hb]
      | true =>
        obtain ⟨_, b2⟩ := and_t hb
        have : n = 0 := by rw [eqF_eq] at b2; simpa using b2
        subst this
        right; exact ⟨k, rfl, by rw [h, hb]⟩
theorem okB_mks {e : Env} {w : World} {p : Pth} {z : List S} {c : Nat} {T : TypeId} (ht : trs (e.lay p (w.heap.size, 0) 0) (zerosS z c) = trs e (zerosS z c)) : OkB (e.lay p (w.heap.size, 0) 0) (w.alloc (.cells (trs e (zerosS z c)) T)) p (mksB z c) := by
  have h0 := okB_c (e := e) (w := w) (p := p) (cs := zerosS z c) (T := T) 0 (lay_σ _ _ _ _) ht
  rcases mksB_out z c with h | ⟨k, rfl, h⟩
  · rw [h]; exact h0
  · rw [h]
    have hlen : (zerosS [S.i k 0] c).length = c := by rw [zerosS_length]; simp
    refine ⟨h0.1, fun i hi => ?_, by have := h0.2.2; rw [hlen] at this; exact this, wmk_deep _ _, ?_⟩
    · have hg := zerosS_get [S.i k 0] (by simp) c i (by simpa using hi)
      simp only [List.length_cons, List.length_nil, Nat.zero_add, Nat.mod_one, List.getElem?_cons_zero] at hg
      rw [h0.2.1 i _ hg, wg_wmk]; rfl
    · exact Nat.le_of_lt Nat.lt_log2_self
theorem rf_mks {z : List S} {c : Nat} {f : Pth → Bool} (hz : z.all (S.rf f) = true) : (mksB z c).rf f = true := by
  rcases mksB_out z c with h | ⟨k, rfl, h⟩
  · rw [h]; exact zerosS_rf hz c
  · rw [h]; exact kns_wmk (x := 0) rfl 0
section
variable {Y : Lay} {P : Program} {o : Oper}
theorem makes_mks {T el : TypeId} {x y : Operand} {x' y' : O} {i : TypeInfo} {z : List S} (ho : o.op = .makeSlice T x y)
    (hu : P.underlying T = some (.slice el)) (hi : P.info? el = some i) (hz : zeroOf P el = some z) (hsz : i.size ≠ 0) (hx : compX Y x = some x') (hy : compX Y y = some y') : Makes Y P o (.mks i.size i.bytes z x' y') := by
  intro cal t h k r hr
  obtain ⟨k1, n, hn, hr⟩ := asI_some (show asI (ev t x') _ = some r from hr)
  obtain ⟨k2, c, hc, hr⟩ := asI_some (show asI (ev t y') _ = some r from hr)
  cases n with
  | negSucc n => cases hr
  | ofNat n =>
  cases c with
  | negSucc c => cases hr
  | ofNat c =>
  obtain ⟨hb, hr⟩ := onB_t (show onB (and (Nat.ble n c) (and (Nat.ble c 1099511627776) (Nat.ble (Nat.mul i.bytes c) 281474976710656))) _ none = some r from hr)
  obtain ⟨b1, b2⟩ := and_t hb
  obtain ⟨b2, b3⟩ := and_t b2
  have g1 := nat_le b1
  have g2 := nat_le b2
  have g3 : i.bytes * c ≤ 281474976710656 := nat_le b3
  refine ⟨fun p => .s (.sl p 0 n c), mksB z c, fun cal h k => ?_, ?_, fun p f hf => hf, fun e f a hT => ?_⟩
  · show asI (ev t x') _ = _
    rw [hn, e_asI]
    show asI (ev t y') _ = _
    rw [hc, e_asI]
    show onB (and (Nat.ble n c) (and (Nat.ble c 1099511627776) (Nat.ble (Nat.mul i.bytes c) 281474976710656))) _ none = _
    rw [hb, e_t]
    exact Hp.pushK_eq h _ _
  · rcases mksB_out z c with h | ⟨k, _, h⟩ <;> rw [h] <;> simp
  obtain ⟨kk, v, hk, hiz, hcells, hvz, hzl⟩ := zeroOf_run hz e
  have hki : kk = i := by rw [hk] at hi; cases hi; rfl
  rw [hki] at hk hiz hzl
  clear hki
  have hzne : z ≠ [] := by intro e; rw [e] at hzl; simp at hzl; omega
  have hn1 := ev_i hT (x := x) (by simp [ho, Op.operands]) hx hn (reB_nat (by omega))
  have hc1 := ev_i hT (x := y) (by simp [ho, Op.operands]) hy hc (reB_nat (by omega))
  refine ⟨rf_mks (hvz f), fun w p hp => ⟨.slice (some ⟨w.heap.size, 0, none⟩) n c, w.alloc (.cells (trs e (zerosS z c)) el), 0, ?_, .alloc _ _, .inl ?_, okB_mks ((lay_agrF hp _ _).trs (zerosS_rf (hvz f) c))⟩⟩
  · have w1 : IntKind.i64.wrap (n : Int) = n := IntWalk.i64_in n (by omega)
    have w2 : IntKind.i64.wrap (c : Int) = c := IntWalk.i64_in c (by omega)
    have hn1 : a.eval x = .int k1 (n : Int) := hn1
    have hc1 : a.eval y = .int k2 (c : Int) := hc1
    by_cases h0 : c * i.size = 0
    · have hn0 : c = 0 := by rcases Nat.mul_eq_zero.1 h0 with h | h; exact h; exact absurd h hsz
      subst hn0
      have : n = 0 := by omega
      subst this
      have w0 : IntKind.i64.wrap 0 = 0 := by decide
      simp [execOp, ho, Instr.makeSlice, run_underlying hu, hn1, hc1, asInt, asIntOf, sizeOf, typeInfo, hi, w0, newRow, zerosS_zero, trs, Array.range_zero']
    · have f1 := zerosS_trs e z hzne c
      rw [hzl] at f1
      have q1 : ¬ ((c : Int) < 0) := by omega
      have q2 : ¬ (2 ^ 48 < (i.bytes : Int) * c) := by omega
      have q3 : ¬ ((n : Int) < 0) := by omega
      have q4 : ¬ ((c : Int) < n) := by omega
      have q5 : ¬ (281474976710656 < (i.bytes : Int) * c) := by omega
      simp [execOp, ho, Instr.makeSlice, run_underlying hu, hn1, hc1, asInt, asIntOf, sizeOf, typeInfo, hi, w1, w2, q1, q2, q3, q4, q5, zeroValue, hiz, hcells, h0, f1, newRow]
  · have : c < G := by unfold G; omega
    simp only [V.tr, S.tr, lay_adr, cpT, if_pos this]
theorem shK_out {β : Type} {h : Hp} {es : Nat} {s : S} {c : Nat → List S → Option β} {q : β} (hq : shK h es s c = some q) : ∃ n l, c n l = some q ∧ (∀ {γ : Type} (c : Nat → List S → Option γ), shK h es s c = c n l) ∧ l.length = n * es ∧
    ∀ {P : Program} {e : Env} {w : World}, Rel e h w → s.rf (Pth.ok h.n.n) = true → l.all (S.rf (Pth.ok h.n.n)) = true ∧ ∀ w', w'.heap = w.heap → (Builtin.lenOf (s.tr e)).run P w' = .ok n w' ∧ ∀ m, m ≤ n → (Builtin.firstCells es m (s.tr e)).run P w' = .ok (trs e (l.take (m * es))) w' := by
  cases s <;> first | (cases hq; done) | skip
  · rename_i r o n cp
    cases n with
    | zero =>
      refine ⟨0, [], hq, fun _ => rfl, by simp, fun {P e w} H hr => ⟨rfl, fun w' _ => ⟨by simp [Builtin.lenOf, S.tr], fun m hm => ?_⟩⟩⟩
      obtain rfl : m = 0 := by omega
      simp [Builtin.firstCells, S.tr, trs, loadCells, loadCellsFrom]
    | succ m =>
      obtain ⟨l, h1, h2, h3, h4⟩ := ldN_out (show ldN (h.gb r) o (Nat.mul (Nat.succ m) es) _ = some q from hq)
      refine ⟨m + 1, l, h1, fun c => h2 _, h3, fun {P e w} H hr => ?_⟩
      obtain ⟨g1, g2⟩ := H.gb (r := r) hr
      obtain ⟨i1, i2⟩ := h4 g1 g2
      refine ⟨i1, fun w' hw => ⟨by simp [Builtin.lenOf, S.tr], fun j hj => ?_⟩⟩
      have hle : j * es ≤ (m + 1) * es := Nat.mul_le_mul_right _ hj
      have h3 : l.length = (m + 1) * es := h3
      have hcell : ∀ a, w'.cell? a = w.cell? a := fun a => by simp [World.cell?, hw]
      have := run_loadCells_of (P := P) (e := e) (w := w') (p := r) (o := o) (n := j * es) (l := l.take (j * es)) (by rw [List.length_take]; omega) (fun i s hi => by
        rw [hcell]
        refine i2 i s ?_
        rw [List.getElem?_take] at hi
        split at hi
        · exact hi
        · cases hi)
      simpa [Builtin.firstCells, S.tr] using this
  · refine ⟨0, [], hq, fun _ => rfl, by simp, fun {P e w} H hr => ⟨rfl, fun w' _ => ⟨by simp [Builtin.lenOf, S.tr], fun m hm => ?_⟩⟩⟩
    obtain rfl : m = 0 := by omega
    simp [Builtin.firstCells, S.tr, trs]
  · refine ⟨0, [], hq, fun _ => rfl, by simp, fun {P e w} H hr => ⟨rfl, fun w' _ => ⟨by simp [Builtin.lenOf, S.tr], fun m hm => ?_⟩⟩⟩
    obtain rfl : m = 0 := by omega
    simp [Builtin.firstCells, S.tr, trs, loadCells, loadCellsFrom]
theorem acts_cpy {T el U : TypeId} {x y : Operand} {x' y' : O} {i : TypeInfo} {c : Call} (ho : o.op = .call c) (hc : c.callee = .builtin .copy) (ha : c.args.toList = [x, y]) (hat : c.argTypes.toList = [T, U])
    (hu : P.underlying T = some (.slice el)) (hi : P.info? el = some i) (hx : compX Y x = some x') (hy : compX Y y = some y') : Acts Y P o (.cpy i.size x' y') := by
  have ha' : c.args = #[x, y] := by rw [← ha]
  have hat' : c.argTypes = #[T, U] := by rw [← hat]
  intro cal t h k r hr
  obtain ⟨sy, hsy, hr⟩ := asS_some (show asS (ev t y') _ = some r from hr)
  obtain ⟨n, src, hr, s2, s3, s4⟩ := shK_out hr
  obtain ⟨sx, hsx, hr⟩ := asS_some hr
  have hSx : x ∈ o.op.operands := by simp [ho, Op.operands, Call.operands, hc, ha']
  have hSy : y ∈ o.op.operands := by simp [ho, Op.operands, Call.operands, hc, ha']
  have hysl : ∀ {cl : Nat → List S → Ans} {q}, shK h i.size sy cl = some q → nU sy = true := fun {cl q} hq => by
    cases sy <;> first | rfl | (cases hq; done)
  have hev : ∀ cal k, exJ (.cpy i.size x' y') cal t h k = S.casesOn sx (fun _ => none) (fun _ _ => none) (fun _ _ => none) none
      (fun r o len _ => fN (Nat.min n len) fun m => onO (tkF src (Nat.mul m i.size)) fun src => onB (Nat.blt m 18446744073709551616) (storeK h r o (Nat.mul m i.size) src fun h => k (.s (.i .i64 (.ofNat m))) h) none)
      (k (.s (.i .i64 (.ofNat 0))) h) (fun _ _ => none) (fun _ _ => none) (fun _ _ _ _ => none) none (fun _ => none) (fun _ => none) none (fun _ => none) none (fun _ _ => none) := fun cal k => by
    show asS (ev t y') _ = _
    rw [hsy, e_asS]
    show shK h i.size sy _ = _
    rw [s2]
    show asS (ev t x') _ = _
    rw [hsx, e_asS]
  have hsyn : nU sy = true := by
    have : ∃ q, shK (β := Unit) h i.size sy (fun _ _ => some ()) = some q := ⟨(), by rw [s2]⟩
    obtain ⟨q, hq⟩ := this
    cases sy <;> first | rfl | (cases hq; done)
  cases sx <;> first | (cases hr; done) | skip
  · rename_i q off len cp
    have hr : fN (Nat.min n len) (fun m => onO (tkF src (Nat.mul m i.size)) fun src => onB (Nat.blt m 18446744073709551616) (storeK h q off (Nat.mul m i.size) src fun h => k (.s (.i .i64 (.ofNat m))) h) none) = some r := hr
    rw [fN_eq] at hr
    obtain ⟨src', hsrc, hr⟩ := onO_some hr
    obtain ⟨hb, hr⟩ := onB_t hr
    obtain ⟨h1, t1, t2, t3, t4, t5, t6⟩ := storeK_out hr
    obtain ⟨hs1, hs2⟩ := tkF_some hsrc
    refine ⟨.s (.i .i64 (.ofNat (Nat.min n len))), h1, fun cal k => ?_, t4, fun e a w hT H => ?_⟩
    · rw [hev]
      show fN (Nat.min n len) (fun m => onO (tkF src (Nat.mul m i.size)) fun src => onB (Nat.blt m 18446744073709551616) (storeK h q off (Nat.mul m i.size) src fun h => k (.s (.i .i64 (.ofNat m))) h) none) = _
      rw [fN_eq, hsrc, e_o, hb, e_t, t2]
    obtain ⟨e1, e2⟩ := ev_eq hT hSx hx hsx (by simp) rfl
    obtain ⟨f1, f2⟩ := ev_eq hT hSy hy hsy (by simp) hsyn
    have f2 := V.rf_s' f2 hsyn
    obtain ⟨g1, g2⟩ := s4 (P := P) H f2
    obtain ⟨l1, l2⟩ := g2 w rfl
    have l2 := l2 (Nat.min n len) (Nat.min_le_left _ _)
    have hsrcE : src' = src.take (Nat.min n len * i.size) := hs1
    obtain ⟨w', u1, u2⟩ := t6 (P := P) H e2 (by rw [hs1]; simp only [List.all_eq_true] at g1 ⊢; exact fun x hx => g1 x (List.mem_of_mem_take hx))
    have hv : vl e ((Nat.min n len : Nat) : Int) = ((Nat.min n len : Nat) : Int) := vl_lt (by have := nat_lt hb; omega)
    refine ⟨.value (.int .i64 (Nat.min n len : Nat)), .int .i64 (Nat.min n len : Nat), w', e, ?_, .inl rfl, u2, .inr (.inl ?_), rfl⟩
    · have e1 : a.eval x = .slice (some (adr e q off)) len (cpT e q cp) := e1
      have f1 : a.eval y = sy.tr e := f1
      have hr' : (storeCells (adr e q off) (trs e (src.take (Nat.min n len * i.size))).toList 0).run P w = .ok () w' := by
        rw [← hsrcE]; simpa [trs] using u1
      have e3 : Nat.min n len = min n len := rfl
      rw [e3] at hr' l2
      simp [execOp, ho, resolve, hc, ha', hat', invoke, builtin, Builtin.copy_, e1, f1, run_underlying hu, l1, sizeOf, typeInfo, hi, l2, hr', goInt]
    · simp only [V.tr, S.tr]
      rw [show (Int.ofNat (Nat.min n len)) = ((Nat.min n len : Nat) : Int) from rfl, hv]
  · refine ⟨.s (.i .i64 (.ofNat 0)), h, fun cal k => by rw [hev], rfl, fun e a w hT H => ?_⟩
    obtain ⟨e1, e2⟩ := ev_eq hT hSx hx hsx (by simp) rfl
    obtain ⟨f1, f2⟩ := ev_eq hT hSy hy hsy (by simp) hsyn
    obtain ⟨g1, g2⟩ := s4 (P := P) H (V.rf_s' f2 hsyn)
    obtain ⟨l1, l2⟩ := g2 w rfl
    have l2 := l2 0 (Nat.zero_le _)
    refine ⟨.value (.int .i64 0), .int .i64 0, w, e, ?_, .inl rfl, .refl H, .inr (.inl ?_), rfl⟩
    · have e1 : a.eval x = .slice none 0 0 := e1
      have f1 : a.eval y = sy.tr e := f1
      have e3 : Nat.min n 0 = 0 := Nat.min_zero n
      simp [execOp, ho, resolve, hc, ha', hat', invoke, builtin, Builtin.copy_, e1, f1, run_underlying hu, l1, e3, sizeOf, typeInfo, hi, l2, goInt]
    · simp [V.tr, S.tr, vl]
end
section
variable {P : Program}
theorem append_in {T U e f : TypeId} {i : TypeInfo} (hT : P.underlying T = some (.slice e)) (hU : P.underlying U = some (.slice f)) (hi : P.info? e = some i) (ty : TypeId) (a : Addr) (sLen sCap n : Nat) (x : Value) (new : Array Value) (w w' : World)
    (hl : (Builtin.lenOf x).run P w = .ok n w) (hf : (Builtin.firstCells i.size n x).run P w = .ok new w) (hfit : sLen + n ≤ sCap) (hs : (storeCells (a.add (sLen * i.size)) new.toList).run P w = .ok () w') :
    (Builtin.append_ #[T, U] ty #[.slice (some a) sLen sCap, x]).run P w = .ok (.slice (some a) (sLen + n) sCap) w' := by
  simp [Builtin.append_, run_underlying hT, run_underlying hU, sizeOf, typeInfo, hi, hl, hf, hfit, hs]
theorem append_grow {T U e f : TypeId} {i : TypeInfo} {z : Value} (hT : P.underlying T = some (.slice e)) (hU : P.underlying U = some (.slice f)) (hi : P.info? e = some i) (hz : i.zero = some z) (hb : i.bytes ≠ 0) (ty : TypeId) (a : Option Addr) (sLen sCap n : Nat) (x : Value) (old new : Array Value) (w : World)
    (hl : (Builtin.lenOf x).run P w = .ok n w) (hf : ∀ w', w'.heap = w.heap → (Builtin.firstCells i.size n x).run P w' = .ok new w') (ho : ∀ w', w'.heap = w.heap → (Builtin.firstCells i.size sLen (.slice a sLen sCap)).run P w' = .ok old w')
    (hfit : ¬ sLen + n ≤ sCap) (hsz : (sLen + n) * i.bytes ≤ 2 ^ 47) :
    ∃ c, sLen + n ≤ c ∧ (Builtin.append_ #[T, U] ty #[.slice a sLen sCap, x]).run P w =
      .ok (.slice (some ⟨w.heap.size, 0, none⟩) (sLen + n) c) ({ w with drawn := w.drawn + 1 }.alloc (.cells (old ++ new ++ Builtin.zeroCells z.cells (c - (sLen + n))) e)) := by
  have hg := growslice_fits (need := sLen + n) (old := sCap) (bytes := i.bytes) (by omega) (by simpa using hsz)
  have hg' : ¬ (2 ^ 48 < Builtin.nextslicecap (sLen + n) sCap * i.bytes) := by simpa using hg
  refine ⟨(sLen + n) + w.tape w.drawn (.appendCap (sLen + n) sCap e) % (2 ^ 63 - (sLen + n)), by omega, ?_⟩
  have h1 := ho w.drew rfl
  have h2 := hf w.drew rfl
  simp only [Builtin.append_, List.getElem?_toArray, List.getElem?_cons_zero, List.getElem?_cons_succ, Sem.run_bind, run_underlying hT, run_underlying hU, Result.andThen_ok, sizeOf, typeInfo, run_program, hi, Sem.run_pure, Bool.false_eq_true, if_false, hl, if_neg hfit,
    Bool.not_false, if_true]
  simp [hb, hg', Question.forced, Question.cut, h1, h2, zeroValue, typeInfo, hi, hz, newRow]
theorem zeroCells_size (z : Array Value) (n : Nat) : (Builtin.zeroCells z n).size = n * z.size := by simp [Builtin.zeroCells]
end
theorem okB_gr {e : Env} {w : World} {p : Pth} {cs : List S} {m es c : Nat} {extra : Array Value} {T : TypeId} (ht : trs (e.lay p (w.heap.size, 0) (c - m)) cs = trs e cs) (hm : m ≤ c) (hlen : cs.length = m * es) (hx : extra.size = (c - m) * es) :
    OkB (e.lay p (w.heap.size, 0) (c - m)) (w.alloc (.cells (trs e cs ++ extra) T)) p (.gr cs m es) := by
  have hadr : ∀ i, adr (e.lay p (w.heap.size, 0) (c - m)) p i = ⟨w.heap.size, i, none⟩ := fun i => by simp [adr, lay_σ]
  have hsz : (trs e cs ++ extra).size = c * es := by
    rw [Array.size_append, trs_size, hlen, hx, ← Nat.add_mul]; congr 1; omega
  refine ⟨by rw [lay_σ]; simp, fun i s hi => ?_, by rw [hlen]; exact Nat.le_refl _, fun i hi => ?_⟩
  · rw [hadr, World.cell?_alloc_new]
    have hil : i < cs.length := (List.getElem?_eq_some_iff.1 hi).1
    rw [Array.getElem?_append_left (by rw [trs_size]; exact hil), ← ht, trs_get, hi]; rfl
  · rw [lay_δ, show m + (c - m) = c by omega] at hi
    rw [hadr, World.cell?_alloc_new, World.frozen?_alloc_new]
    refine ⟨?_, rfl⟩
    rw [Array.getElem?_eq_getElem (by rw [hsz]; exact hi)]; rfl
theorem trs_append (e : Env) (a b : List S) : trs e (a ++ b) = trs e a ++ trs e b := by simp [trs]
theorem grK_some {b : B} {c : List S → Nat → Nat → Ans} {r : RES} (h : grK b c = some r) : ∃ cs m es, b = .gr cs m es ∧ c cs m es = some r := by
  cases b <;> first | exact ⟨_, _, _, rfl, h⟩ | cases h
theorem e_grK (cs : List S) (m es : Nat) (c : List S → Nat → Nat → Ans) : grK (.gr cs m es) c = c cs m es := rfl
theorem not_okn (h : Hp) : Pth.ok h.n.n h.n = false := by
  cases hq : Pth.ok h.n.n h.n with
  | false => rfl
  | true => have := Pth.ok_iff.1 hq; omega
section
variable {Y : Lay} {P : Program} {o : Oper}
theorem appN_out {es bytes n : Nat} {cs : List S} {h : Hp} {k : KV} {r : RES} (hr : appN es bytes n cs h k = some r) : n * bytes ≤ 2 ^ 47 ∧ ∀ h k, appN es bytes n cs h k = k (.s (.sl h.n 0 n (G + n))) (h.push (.gr cs n es)) := by
  obtain ⟨hb, hr⟩ := onB_t hr
  have h47 : n * bytes ≤ 140737488355328 := nat_le hb
  refine ⟨by simpa using h47, fun h k => ?_⟩
  show onB (Nat.ble (Nat.mul n bytes) 140737488355328) _ none = _
  rw [hb, e_t, Hp.pushK_eq, fN_eq]; rfl
theorem acts_app {T U el f : TypeId} {x y : Operand} {x' y' : O} {i : TypeInfo} {z : List S} {c : Call} (ho : o.op = .call c) (hc : c.callee = .builtin .append) (ha : c.args.toList = [x, y]) (hat : c.argTypes.toList = [T, U])
    (hTt : P.underlying T = some (.slice el)) (hU : P.underlying U = some (.slice f)) (hi : P.info? el = some i) (hz : zeroOf P el = some z) (hb : i.bytes ≠ 0) (hx : compX Y x = some x') (hy : compX Y y = some y') : Acts Y P o (.app i.size i.bytes x' y') := by
  have ha' : c.args = #[x, y] := by rw [← ha]
  have hat' : c.argTypes = #[T, U] := by rw [← hat]
  intro cal t h k r hr
  obtain ⟨sy, hsy, hr1⟩ := asS_some (show asS (ev t y') _ = some r from hr)
  obtain ⟨n, new, hr2, s2, s3, s4⟩ := shK_out hr1
  obtain ⟨sx, hsx, hr3⟩ := asS_some hr2
  obtain ⟨hes, hr4⟩ := onB_t hr3
  have hSx : x ∈ o.op.operands := by simp [ho, Op.operands, Call.operands, hc, ha']
  have hSy : y ∈ o.op.operands := by simp [ho, Op.operands, Call.operands, hc, ha']
  have hsyn : nU sy = true := by
    obtain ⟨q, hq⟩ : ∃ q, shK (β := Unit) h i.size sy (fun _ _ => some ()) = some q := ⟨(), by rw [s2]⟩
    cases sy <;> first | rfl | (cases hq; done)
  have hev : ∀ cal k, exJ (.app i.size i.bytes x' y') cal t h k = onB (Nat.blt 0 i.size)
    (S.casesOn sx (fun _ => none) (fun _ _ => none) (fun _ _ => none) none
      (fun r o len cap => fN (Nat.add len n) fun m => Bool.casesOn (Nat.ble G cap)
        (Bool.casesOn (Nat.ble m cap)
          (ldN (h.gb r) o (Nat.mul len i.size) fun old => appN i.size i.bytes m (apF old new) h k)
          (storeK h r (Nat.add o (Nat.mul len i.size)) (Nat.mul n i.size) new fun h => k (.s (.sl r o m cap)) h))
        (grK (h.gb r) fun cs rm es' => lenF cs fun l =>
          Bool.casesOn (Nat.beq l (Nat.add o (Nat.mul len i.size)))
            (onB (Nat.ble m (Nat.sub cap G)) (storeK h r (Nat.add o (Nat.mul len i.size)) (Nat.mul n i.size) new fun h => k (.s (.sl r o m cap)) h) none)
            (appG i.size i.bytes r o len n m cap new cs rm es' h k)))
      (Nat.casesOn n none fun m => appN i.size i.bytes (Nat.succ m) new h k)
      (fun _ _ => none) (fun _ _ => none) (fun _ _ _ _ => none) none (fun _ => none) (fun _ => none) none (fun _ => none) none (fun _ _ => none)) none := fun cal k => by
    show asS (ev t y') _ = _
    rw [hsy, e_asS]
    show shK h i.size sy _ = _
    rw [s2]
    show asS (ev t x') _ = _
    rw [hsx, e_asS]
  have hexec : ∀ {a : Act} {w w' : World} {vx vy res : Value}, a.eval x = vx → a.eval y = vy → (Builtin.append_ #[T, U] o.type #[vx, vy]).run P w = .ok res w' → (execOp a.eval o).run P w = .ok (.value res) w' := fun {a w w' vx vy res} h1 h2 h3 => by
    simp [execOp, ho, resolve, hc, ha', hat', invoke, builtin, h1, h2, h3]
  have grow : ∀ (sl : Option Addr) (e : Env) (a : Act) (w : World) (len cap : Nat) (old : List S), OT Y e t (Pth.ok h.n.n) a (· ∈ o.op.operands) → Rel e h w → a.eval x = .slice sl len cap → old.length = len * i.size → old.all (S.rf (Pth.ok h.n.n)) = true →
      (∀ w', w'.heap = w.heap → (Builtin.firstCells i.size len (.slice sl len cap)).run P w' = .ok (trs e old) w') → ¬ len + n ≤ cap → (len + n) * i.bytes ≤ 2 ^ 47 →
      ∃ c w', len + n ≤ c ∧ (execOp a.eval o).run P w = .ok (.value (.slice (some ⟨w.heap.size, 0, none⟩) (len + n) c)) w' ∧ More w w' ∧ OkB (e.lay h.n (w.heap.size, 0) (c - (len + n))) w' h.n (.gr (old ++ new) (len + n) i.size) ∧ (B.gr (old ++ new) (len + n) i.size).ok h.n.n = true := fun sl e a w len cap old hT H hxv hol horf hold hfit hsz => by
    obtain ⟨f1, f2⟩ := ev_eq hT hSy hy hsy (by simp) hsyn
    obtain ⟨g1, g2⟩ := s4 (P := P) H (V.rf_s' f2 hsyn)
    obtain ⟨kk, v, hk, hiz, hcells, hvz, hzl⟩ := zeroOf_run hz e
    have hki : kk = i := by rw [hk] at hi; cases hi; rfl
    rw [hki] at hk hiz hzl
    clear hki
    have hnew : new.take (n * i.size) = new := by rw [← s3]; exact List.take_length
    obtain ⟨cc, hcc, hrun⟩ := append_grow (P := P) hTt hU hi hiz hb o.type sl len cap n (sy.tr e) (trs e old) (trs e new) w (g2 w rfl).1 (fun w' hw' => by have := (g2 w' hw').2 n (Nat.le_refl _); rwa [hnew] at this) hold hfit hsz
    have hall : (old ++ new).all (S.rf (Pth.ok h.n.n)) = true := by rw [List.all_append, horf, g1]; rfl
    refine ⟨cc, _, hcc, hexec hxv f1 hrun, ⟨by simp, fun b hb => Go.RowKit.Below.heap_alloc _ _ _ hb, rfl, rfl, rfl⟩, ?_, hall⟩
    rw [← trs_append]
    refine okB_gr (w := { w with drawn := w.drawn + 1 }) ((lay_agrF (not_okn h) _ _).trs hall) hcc (by rw [List.length_append, hol, s3, ← Nat.add_mul]) ?_
    rw [zeroCells_size, hcells, trs_size, hzl]
  have inn : ∀ (e : Env) (a : Act) (w w' : World) (q : Pth) (off len cap : Nat), OT Y e t (Pth.ok h.n.n) a (· ∈ o.op.operands) → Rel e h w → ev t x' = .s (.sl q off len cap) → len + n ≤ cpT e q cap → (storeCells (adr e q (off + len * i.size)) (new.map (S.tr e))).run P w = .ok () w' →
      (execOp a.eval o).run P w = .ok (.value (.slice (some (adr e q off)) (len + n) (cpT e q cap))) w' := fun e a w w' q off len cap hT H hq hfit hst => by
    obtain ⟨e1, e2⟩ := ev_eq hT hSx hx hq (by simp) rfl
    obtain ⟨f1, f2⟩ := ev_eq hT hSy hy hsy (by simp) hsyn
    obtain ⟨g1, g2⟩ := s4 (P := P) H (V.rf_s' f2 hsyn)
    have hnew : new.take (n * i.size) = new := by rw [← s3]; exact List.take_length
    have l2 := (g2 w rfl).2 n (Nat.le_refl _)
    rw [hnew] at l2
    exact hexec e1 f1 (append_in hTt hU hi o.type (adr e q off) len (cpT e q cap) n (sy.tr e) (trs e new) w w' (g2 w rfl).1 l2 hfit (by rw [adr_add]; simpa [trs] using hst))
  have hnrf : ∀ (e : Env) (a : Act) (w : World), OT Y e t (Pth.ok h.n.n) a (· ∈ o.op.operands) → Rel e h w → new.all (S.rf (Pth.ok h.n.n)) = true := fun e a w hT H => by
    obtain ⟨f1, f2⟩ := ev_eq hT hSy hy hsy (by simp) hsyn
    exact (s4 (P := P) H (V.rf_s' f2 hsyn)).1
  have hb0 : 0 < i.size := nat_lt hes
  cases sx <;> first | (cases hr4; done) | skip
  · rename_i q off len cap
    have hev2 : ∀ cal k, exJ (.app i.size i.bytes x' y') cal t h k = Bool.casesOn (Nat.ble G cap)
        (Bool.casesOn (Nat.ble (len + n) cap)
          (ldN (h.gb q) off (Nat.mul len i.size) fun old => appN i.size i.bytes (len + n) (apF old new) h k)
          (storeK h q (Nat.add off (Nat.mul len i.size)) (Nat.mul n i.size) new fun h => k (.s (.sl q off (len + n) cap)) h))
        (grK (h.gb q) fun cs rm es' => lenF cs fun l =>
          Bool.casesOn (Nat.beq l (Nat.add off (Nat.mul len i.size)))
            (onB (Nat.ble (len + n) (Nat.sub cap G)) (storeK h q (Nat.add off (Nat.mul len i.size)) (Nat.mul n i.size) new fun h => k (.s (.sl q off (len + n) cap)) h) none)
            (appG i.size i.bytes q off len n (len + n) cap new cs rm es' h k)) := fun cal k => by
      rw [hev, hes, e_t]
      show fN (Nat.add len n) _ = _
      rw [fN_eq]; rfl
    have hr5 := (hev2 cal k).symm.trans hr
    cases hG : Nat.ble G cap with
    | false =>
      have hltG : cap < G := by
        rcases Nat.lt_or_ge cap G with h | h
        · exact h
        · rw [Nat.ble_eq_true_of_le h] at hG; cases hG
      rw [hG] at hr5
      have hev3 : ∀ cal k, exJ (.app i.size i.bytes x' y') cal t h k = Bool.casesOn (Nat.ble (len + n) cap)
          (ldN (h.gb q) off (Nat.mul len i.size) fun old => appN i.size i.bytes (len + n) (apF old new) h k)
          (storeK h q (Nat.add off (Nat.mul len i.size)) (Nat.mul n i.size) new fun h => k (.s (.sl q off (len + n) cap)) h) := fun cal k => by rw [hev2, hG]
      cases hm : Nat.ble (len + n) cap with
      | false =>
        have hltm : cap < len + n := by
          rcases Nat.lt_or_ge cap (len + n) with h | h
          · exact h
          · rw [Nat.ble_eq_true_of_le h] at hm; cases hm
        have hr6 : ldN (h.gb q) off (Nat.mul len i.size) (fun old => appN i.size i.bytes (len + n) (apF old new) h k) = some r := by
          have := (hev3 cal k).symm.trans hr
          rw [hm] at this; exact this
        obtain ⟨old, o1, o2, o3, o4⟩ := ldN_out hr6
        obtain ⟨a1, a2⟩ := appN_out o1
        rw [apF_eq] at a2
        refine ⟨.s (.sl h.n 0 (len + n) (G + (len + n))), h.push (.gr (old ++ new) (len + n) i.size), fun cal k => ?_, rfl, fun e a w hT H => ?_⟩
        · rw [hev3, hm]
          show ldN (h.gb q) off (Nat.mul len i.size) _ = _
          rw [o2, apF_eq, a2]
        obtain ⟨e1, e2⟩ := ev_eq hT hSx hx hsx (by simp) rfl
        obtain ⟨p1, p2⟩ := H.gb (r := q) e2
        obtain ⟨p3, p4⟩ := o4 p1 p2
        have hcp : cpT e q cap = cap := by unfold cpT; rw [if_pos hltG]
        obtain ⟨cc, w', c1, c2, c3, c4, c5⟩ := grow (some (adr e q off)) e a w len cap old hT H (by rw [← hcp]; exact e1) o3 p3 (fun w' hw' => by
          have hcell : ∀ a, w'.cell? a = w.cell? a := fun a => by simp [World.cell?, hw']
          have := run_loadCells_of (P := P) (e := e) (w := w') (p := q) (o := off) (n := len * i.size) (l := old) o3 (fun j s hs => by rw [hcell]; exact p4 j s hs)
          simpa [Builtin.firstCells] using this) (by omega) a1
        refine ⟨_, _, w', e.lay h.n (w.heap.size, 0) (cc - (len + n)), c2, .inl rfl, Step.new H _ _ c4 c5 c3.old (Nat.le_refl _) (by have := c3.size; omega) c3.os c3.tape c3.output, .inr (.inl ?_), ?_⟩
        · have : cpT (e.lay h.n (w.heap.size, 0) (cc - (len + n))) h.n (G + (len + n)) = cc := by
            unfold cpT; rw [if_neg (by omega), lay_δ]; omega
          simp only [V.tr, S.tr, lay_adr, this]
        · show Pth.ok _ _ = true
          rw [Pth.ok_iff, Hp.n_push]; omega
      | true =>
        have hle := nat_le hm
        have hr6 : storeK h q (Nat.add off (Nat.mul len i.size)) (Nat.mul n i.size) new (fun h => k (.s (.sl q off (len + n) cap)) h) = some r := by
          have := (hev3 cal k).symm.trans hr
          rw [hm] at this; exact this
        obtain ⟨h1, t1, t2, t3, t4, t5, t6⟩ := storeK_out hr6
        refine ⟨.s (.sl q off (len + n) cap), h1, fun cal k => ?_, t4, fun e a w hT H => ?_⟩
        · rw [hev3, hm]
          exact t2 _
        obtain ⟨e1, e2⟩ := ev_eq hT hSx hx hsx (by simp) rfl
        obtain ⟨w', u1, u2⟩ := t6 (P := P) H e2 (hnrf e a w hT H)
        have hcp : cpT e q cap = cap := by unfold cpT; rw [if_pos hltG]
        exact ⟨_, _, w', e, inn e a w w' q off len cap hT H hsx (by rw [hcp]; exact hle) u1, .inl rfl, u2, .mk _, by rw [t5]; exact e2⟩
    | true =>
      have hgeG : G ≤ cap := nat_le hG
      rw [hG] at hr5
      obtain ⟨cs, rm, es', hg, hr6⟩ := grK_some (show grK (h.gb q) _ = some r from hr5)
      rw [lenF_eq] at hr6
      have hev3 : ∀ cal k, exJ (.app i.size i.bytes x' y') cal t h k = Bool.casesOn (Nat.beq cs.length (Nat.add off (Nat.mul len i.size)))
            (onB (Nat.ble (len + n) (Nat.sub cap G)) (storeK h q (Nat.add off (Nat.mul len i.size)) (Nat.mul n i.size) new fun h => k (.s (.sl q off (len + n) cap)) h) none)
            (appG i.size i.bytes q off len n (len + n) cap new cs rm es' h k) := fun cal k => by
        rw [hev2, hG]
        show grK (h.gb q) _ = _
        rw [hg, e_grK, lenF_eq]
      have hcp : ∀ e, cpT e q cap = cap - G + e.δ q := fun e => by unfold cpT; rw [if_neg (by omega)]
      cases hl : Nat.beq cs.length (Nat.add off (Nat.mul len i.size)) with
      | false =>
        rw [hl] at hr6
        obtain ⟨hm, hr7⟩ := onB_t (show onB (Nat.ble (len + n) (Nat.sub cap G)) _ none = some r from hr6)
        have hle : len + n ≤ cap - G := nat_le hm
        obtain ⟨h1, t1, t2, t3, t4, t5, t6⟩ := storeK_out hr7
        refine ⟨.s (.sl q off (len + n) cap), h1, fun cal k => ?_, t4, fun e a w hT H => ?_⟩
        · rw [hev3, hl]
          show onB (Nat.ble (len + n) (Nat.sub cap G)) _ none = _
          rw [hm, e_t]; exact t2 _
        obtain ⟨e1, e2⟩ := ev_eq hT hSx hx hsx (by simp) rfl
        obtain ⟨w', u1, u2⟩ := t6 (P := P) H e2 (hnrf e a w hT H)
        exact ⟨_, _, w', e, inn e a w w' q off len cap hT H hsx (by rw [hcp]; omega) u1, .inl rfl, u2, .mk _, by rw [t5]; exact e2⟩
      | true =>
        rw [hl] at hr6
        have hlen : cs.length = off + len * i.size := nat_eq hl
        obtain ⟨hb1, hr7⟩ := onB_t (show appG i.size i.bytes q off len n (len + n) cap new cs rm es' h k = some r from hr6)
        obtain ⟨b1, b2⟩ := and_t hb1
        have hes' := nat_eq b1
        have hrm : cap - G ≤ rm := nat_le b2
        have hev4 : ∀ cal k, exJ (.app i.size i.bytes x' y') cal t h k = Bool.casesOn (Nat.ble (len + n) (Nat.sub cap G))
            (onB (and (Nat.beq off 0) (Nat.ble (Nat.mul (len + n) i.bytes) 140737488355328)) (h.setK q .dd fun h => h.pushK (.gr (apF cs new) (len + n) i.size) fun h' => fN (Nat.add G (len + n)) fun c => k (.s (.sl h.n 0 (len + n) c)) h') none)
            (onB (Nat.ble (Nat.add off (Nat.mul (len + n) i.size)) (Nat.mul rm i.size)) (widK h q new fun h => h.setK q (.gr (apF cs new) rm i.size) fun h => k (.s (.sl q off (len + n) cap)) h) none) := fun cal k => by
          rw [hev3, hl]
          show onB (and (Nat.beq i.size es') (Nat.ble (Nat.sub cap G) rm)) _ none = _
          rw [hb1, e_t]
        have hat : h.at q = .gr cs rm i.size := by rw [← Hp.gb_eq, hg, hes']
        cases hm : Nat.ble (len + n) (Nat.sub cap G) with
        | false =>
          have hltm : cap - G < len + n := by
            rcases Nat.lt_or_ge (cap - G) (len + n) with h | h
            · exact h
            · have : Nat.ble (len + n) (Nat.sub cap G) = true := Nat.ble_eq_true_of_le h
              rw [hm] at this; cases this
          have hr8 := (hev4 cal k).symm.trans hr
          rw [hm] at hr8
          obtain ⟨hb2, _⟩ := onB_t (show onB (and (Nat.beq off 0) (Nat.ble (Nat.mul (len + n) i.bytes) 140737488355328)) _ none = some r from hr8)
          obtain ⟨b3, b4⟩ := and_t hb2
          have hoff := nat_eq b3
          have h47 : (len + n) * i.bytes ≤ 140737488355328 := nat_le b4
          refine ⟨.s (.sl h.n 0 (len + n) (G + (len + n))), (h.set q .dd).push (.gr (cs ++ new) (len + n) i.size), fun cal k => ?_, rfl, fun e a w hT H => ?_⟩
          · rw [hev4, hm]
            show onB (and (Nat.beq off 0) (Nat.ble (Nat.mul (len + n) i.bytes) 140737488355328)) _ none = _
            rw [hb2, e_t, Hp.setK_eq, Hp.pushK_eq, fN_eq, apF_eq]; rfl
          obtain ⟨e1, e2⟩ := ev_eq hT hSx hx hsx (by simp) rfl
          obtain ⟨p1, p2⟩ := H.gb (r := q) e2
          rw [Hp.gb_eq, hat] at p1 p2
          have hnr := hnrf e a w hT H
          have hlen' : cs.length = len * i.size := by rw [hlen, hoff, Nat.zero_add]
          have hall : (cs ++ new).all (S.rf (Pth.ok h.n.n)) = true := by rw [List.all_append]; rw [hnr, Bool.and_true]; exact p2
          by_cases hfit : len + n ≤ cap - G + e.δ q
          ·
            obtain ⟨q1, q2, q3, q4⟩ := p1
            have hroom : (cap - G + e.δ q) * i.size ≤ (rm + e.δ q) * i.size := Nat.mul_le_mul_right _ (by omega)
            have hfm : (len + n) * i.size ≤ (cap - G + e.δ q) * i.size := Nat.mul_le_mul_right _ hfit
            have hsum : len * i.size + n * i.size = (len + n) * i.size := (Nat.add_mul _ _ _).symm
            obtain ⟨w', u1, u2, u3⟩ := storeCells_run (P := P) (e := e) (r := q) (off + len * i.size) new 0 w (fun j hj => q4 _ (by rw [s3] at hj; omega))
            simp only [Nat.add_zero] at u3
            have A := lay_agr e h.n (e.σ q) (cap - G + e.δ q - (len + n))
            have hlaya : ∀ j, adr (e.lay h.n (e.σ q) (cap - G + e.δ q - (len + n))) h.n j = adr e q j := fun j => by simp only [adr, lay_σ]
            refine ⟨_, _, w', e.lay h.n (e.σ q) (cap - G + e.δ q - (len + n)), inn e a w w' q off len cap hT H hsx (by rw [hcp]; exact hfit) u1, .inl rfl,
              Step.mv H (Pth.ok_iff.1 e2) (by rw [hat]; rfl) _ ?_ hall u2.old (by rw [u2.size]; exact Nat.le_refl _) u2.os u2.tape u2.output, .inr (.inl ?_), ?_⟩
            · refine ⟨by rw [lay_σ, u2.size]; exact q1, fun j s hj => ?_, by rw [List.length_append, hlen', s3, hsum]; exact Nat.le_refl _, fun j hj => ?_⟩
              · have hs : s.ok h.n.n = true := all_get hall hj
                rw [hlaya, u3, A.s hs]
                by_cases hjl : j < cs.length
                · rw [List.getElem?_append_left hjl] at hj
                  rw [if_neg (by omega)]
                  exact q2 j s hj
                · rw [List.getElem?_append_right (by omega)] at hj
                  have hjn : j - cs.length < new.length := (List.getElem?_eq_some_iff.1 hj).1
                  rw [if_pos (by omega), show j - (off + len * i.size) = j - cs.length by omega, hj]; rfl
              · rw [lay_δ] at hj
                rw [show len + n + (cap - G + e.δ q - (len + n)) = cap - G + e.δ q by omega] at hj
                rw [hlaya, u2.frozen, u3]
                refine ⟨?_, (q4 j (by omega)).2⟩
                split
                · rename_i hjj
                  rw [List.getElem?_eq_getElem (by omega)]; rfl
                · exact (q4 j (by omega)).1
            · have : cpT (e.lay h.n (e.σ q) (cap - G + e.δ q - (len + n))) h.n (G + (len + n)) = cap - G + e.δ q := by
                unfold cpT; rw [if_neg (by omega), lay_δ]; omega
              simp only [V.tr, S.tr, hlaya, this, hcp, hoff]
            · show Pth.ok _ _ = true
              rw [Pth.ok_iff, Hp.n_push]
              show h.n.n < h.n.n + 1
              omega
          ·
            obtain ⟨q1, q2, q3, q4⟩ := p1
            obtain ⟨cc, w', c1, c2, c3, c4, c5⟩ := grow (some (adr e q off)) e a w len (cap - G + e.δ q) cs hT H (by rw [← hcp]; exact e1) hlen' p2 (fun w' hw' => by
              have hcell : ∀ a, w'.cell? a = w.cell? a := fun a => by simp [World.cell?, hw']
              have := run_loadCells_of (P := P) (e := e) (w := w') (p := q) (o := off) (n := len * i.size) (l := cs) hlen' (fun j s hs => by rw [hcell, hoff, Nat.zero_add]; exact q2 j s hs)
              simpa [Builtin.firstCells] using this) hfit (by simpa using h47)
            have K := Step.kill H (Pth.ok_iff.1 e2) (by rw [hat]; rfl)
            refine ⟨_, _, w', e.lay h.n (w.heap.size, 0) (cc - (len + n)), c2, .inl rfl, K.trans (Step.new K.rel _ _ c4 c5 c3.old (Nat.le_refl _) (by have := c3.size; omega) c3.os c3.tape c3.output), .inr (.inl ?_), ?_⟩
            · have : cpT (e.lay h.n (w.heap.size, 0) (cc - (len + n))) h.n (G + (len + n)) = cc := by
                unfold cpT; rw [if_neg (by omega), lay_δ]; omega
              simp only [V.tr, S.tr, lay_adr, this]
            · show Pth.ok _ _ = true
              rw [Pth.ok_iff, Hp.n_push]
              show h.n.n < h.n.n + 1
              omega
        | true =>
          have hle : len + n ≤ cap - G := nat_le hm
          have hr8 := (hev4 cal k).symm.trans hr
          rw [hm] at hr8
          obtain ⟨hb2, hr9⟩ := onB_t (show onB (Nat.ble (Nat.add off (Nat.mul (len + n) i.size)) (Nat.mul rm i.size)) _ none = some r from hr8)
          have hroomle : off + (len + n) * i.size ≤ rm * i.size := nat_le hb2
          obtain ⟨h', w1, w2, w3, w4, w5, w6, w7⟩ := widK_out hr9
          refine ⟨.s (.sl q off (len + n) cap), h'.set q (.gr (cs ++ new) rm i.size), fun cal k => ?_, w6, fun e a w hT H => ?_⟩
          · rw [hev4, hm]
            show onB (Nat.ble (Nat.add off (Nat.mul (len + n) i.size)) (Nat.mul rm i.size)) _ none = _
            rw [hb2, e_t, w2, Hp.setK_eq, apF_eq]
          obtain ⟨e1, e2⟩ := ev_eq hT hSx hx hsx (by simp) rfl
          obtain ⟨p1, p2⟩ := H.gb (r := q) e2
          rw [Hp.gb_eq, hat] at p1 p2
          have hnr := hnrf e a w hT H
          obtain ⟨q1, q2, q3, q4⟩ := p1
          have hsum : len * i.size + n * i.size = (len + n) * i.size := (Nat.add_mul _ _ _).symm
          have hrl : rm * i.size ≤ (rm + e.δ q) * i.size := Nat.mul_le_mul_right _ (by omega)
          obtain ⟨w', u1, u2, u3⟩ := storeCells_run (P := P) (e := e) (r := q) (off + len * i.size) new 0 w (fun j hj => q4 _ (by rw [s3] at hj; omega))
          simp only [Nat.add_zero] at u3
          have W := w3 H
          have hat' : h'.at q = .gr cs rm i.size := by rw [← hat]; unfold Hp.at; rw [w4]
          have hr' : q.n < h'.n.n := by rw [w5]; exact Pth.ok_iff.1 e2
          refine ⟨_, _, w', e, inn e a w w' q off len cap hT H hsx (by rw [hcp]; omega) u1, .inl rfl, W.trans (Step.upd W.rel hr' (by rw [hat']; rfl) ?_ ?_ ?_ u2.old (by rw [u2.size]; exact Nat.le_refl _) u2.os u2.tape u2.output), .mk _, ?_⟩
          · refine ⟨by rw [u2.size]; exact q1, fun j s hj => ?_, by rw [List.length_append, hlen, s3]; omega, fun j hj => ?_⟩
            · rw [u3]
              by_cases hjl : j < cs.length
              · rw [List.getElem?_append_left hjl] at hj
                rw [if_neg (by omega)]
                exact q2 j s hj
              · rw [List.getElem?_append_right (by omega)] at hj
                have hjn : j - cs.length < new.length := (List.getElem?_eq_some_iff.1 hj).1
                rw [if_pos (by omega), show j - (off + len * i.size) = j - cs.length by omega, hj]; rfl
            · rw [u2.frozen, u3]
              refine ⟨?_, (q4 j hj).2⟩
              split
              · rename_i hjj
                rw [List.getElem?_eq_getElem (by omega)]; rfl
              · exact (q4 j hj).1
          · rw [w5]
            show (cs ++ new).all (S.rf (Pth.ok h.n.n)) = true
            rw [List.all_append, hnr, Bool.and_true]; exact p2
          · have := W.rel.esc q hr'
            rw [hat'] at this
            show (cs ++ new).all _ = true
            rw [List.all_append, w7 hnr, Bool.and_true]; exact this
          · show Pth.ok h'.n.n q = true
            exact Pth.ok_iff.2 hr'
  · have hev2 : ∀ cal k, exJ (.app i.size i.bytes x' y') cal t h k = Nat.casesOn n none fun m => appN i.size i.bytes (Nat.succ m) new h k := fun cal k => by rw [hev, hes, e_t]
    have hr5 := (hev2 cal k).symm.trans hr
    cases n with
    | zero => cases hr5
    | succ n =>
    obtain ⟨a1, a2⟩ := appN_out (show appN i.size i.bytes (n + 1) new h k = some r from hr5)
    refine ⟨.s (.sl h.n 0 (n + 1) (G + (n + 1))), h.push (.gr new (n + 1) i.size), fun cal k => ?_, rfl, fun e a w hT H => ?_⟩
    · rw [hev2]
      exact a2 h k
    obtain ⟨e1, e2⟩ := ev_eq hT hSx hx hsx (by simp) rfl
    obtain ⟨cc, w', c1, c2, c3, c4, c5⟩ := grow none e a w 0 0 [] hT H e1 (by simp) rfl (fun w' _ => by simp [Builtin.firstCells, trs]) (by omega) (by simpa using a1)
    rw [List.nil_append, Nat.zero_add] at c4
    rw [Nat.zero_add] at c1 c2
    refine ⟨_, _, w', e.lay h.n (w.heap.size, 0) (cc - (n + 1)), c2, .inl rfl, Step.new H _ _ c4 (by rw [List.nil_append, Nat.zero_add] at c5; exact c5) c3.old (Nat.le_refl _) (by have := c3.size; omega) c3.os c3.tape c3.output, .inr (.inl ?_), ?_⟩
    · have : cpT (e.lay h.n (w.heap.size, 0) (cc - (n + 1))) h.n (G + (n + 1)) = cc := by
        unfold cpT; rw [if_neg (by omega), lay_δ]; omega
      simp only [V.tr, S.tr, lay_adr, this]
    · show Pth.ok _ _ = true
      rw [Pth.ok_iff, Hp.n_push]; omega
end
section
variable {Y : Lay} {P : Program} {o : Oper}
theorem updM_scan (ks : List Bool) (kv val : V) : ∀ (es : List ME) (i : Nat) (fd : List ME → Ans) (nf : Unit → Ans), updM ks kv val es fd nf = match scan ks kv es i with
    | some (some (j, _)) => fd (es.modify (j - i) fun x => (x.1, val, x.2.2))
    | some none => nf ()
    | none => none
  | [], i, fd, nf => rfl
  | (a, v, b) :: es, i, fd, nf => by
    show onO (eqK ks kv a) (fun q => Bool.casesOn q (updM ks kv val es (fun l => fd ((a, v, b) :: l)) nf) (fd ((a, val, b) :: es))) = _
    rw [scan]
    cases h : eqK ks kv a with
    | none => rfl
    | some q => cases q with
      | true => simp [e_o]
      | false =>
        show updM ks kv val es (fun l => fd ((a, v, b) :: l)) nf = _
        rw [updM_scan ks kv val es (i + 1)]
        cases hs : scan ks kv es (i + 1) with
        | none => rfl
        | some r =>
          cases r with
          | none => rfl
          | some jv =>
            obtain ⟨j, v'⟩ := jv
            obtain ⟨_, _, hle, _, _⟩ := scan_mem hs
            simp only
            rw [show j - i = (j - (i + 1)) + 1 by omega]
            rfl
theorem sameBits_key {ks : List Bool} {kv : V} (h : keyB ks kv = true) (e : Env) : Instr.sameBits 10000 (kv.tr e) (kv.tr e) = true := by
  rcases keyB_some h with ⟨_, k, n, rfl, _⟩ | ⟨_, l, rfl⟩ | ⟨_, x, rfl, hc⟩
  · simp [V.tr, S.tr, Instr.sameBits]
  · simp [V.tr, S.tr, Instr.sameBits, ba_eq]
  · have hk := cmpSs_kinds hc
    show Instr.sameBits (9999 + 1) (.agg (trs e x)) (.agg (trs e x)) = true
    simp only [Instr.sameBits, trs, beq_self_eq_true, Bool.true_and]
    clear hc h
    induction x with
    | nil => rfl
    | cons s x ih =>
      simp only [List.map_cons, List.zip_cons_cons, List.all_cons, Bool.and_eq_true]
      refine ⟨?_, ih fun y hy => hk y (List.mem_cons_of_mem _ hy)⟩
      rcases hk s List.mem_cons_self with ⟨k, n, rfl⟩ | ⟨b, rfl⟩ <;> simp [S.tr, Instr.sameBits]
theorem keyB_rk {ks : List Bool} {kv : V} {f g : Pth → Bool} (h : keyB ks kv = true) (hf : kv.rf f = true) : kv.rk g = true := by
  rcases keyB_some h with ⟨_, k, n, rfl, hn⟩ | ⟨_, l, rfl⟩ | ⟨_, x, rfl, hc⟩
  · exact reB_kn hn
  · rfl
  · have hk := cmpSs_kinds hc
    show x.all (S.rf g) = true
    have hf : x.all (S.rf f) = true := hf
    rw [List.all_eq_true] at hf ⊢
    intro s hs
    rcases hk s hs with ⟨k, n, rfl⟩ | ⟨b, rfl⟩
    · exact hf _ hs
    · rfl
theorem cs_rk {v : V} {f : Pth → Bool} (h : v.pl = true) (hc : v.cs.all (S.rf f) = true) : v.rk f = true := by
  cases v with
  | s x =>
    have hc : [x].all (S.rf f) = true := hc
    have hc : x.rf f = true := by simpa using hc
    exact hc
  | agg xs => exact hc
  | tup _ => cases h
  | u => cases h
theorem acts_up {T kt et : TypeId} {m key v : Operand} {m' k' v' : O} {ks : List Bool} (ho : o.op = .mapUpdate T m key v ∨ o.op = .insert T m key v) (hu : P.underlying T = some (.map kt et)) (hk : keyKs P kt = some ks)
    (hm : compX Y m = some m') (hkey : compX Y key = some k') (hv : compX Y v = some v') : Acts Y P o (.up ks m' k' v') := by
  intro cal t h k r hr
  obtain ⟨hkb, hr1⟩ := onB_t (show onB (keyB ks (ev t k')) _ none = some r from hr)
  obtain ⟨s, hs, hr2⟩ := asS_some (show asS (ev t m') _ = some r from hr1)
  obtain ⟨knU, kne⟩ := keyB_nU hkb
  have hS1 : m ∈ o.op.operands := by rcases ho with ho | ho <;> simp [ho, Op.operands]
  have hS2 : key ∈ o.op.operands := by rcases ho with ho | ho <;> simp [ho, Op.operands]
  have hS3 : v ∈ o.op.operands := by rcases ho with ho | ho <;> simp [ho, Op.operands]
  cases s <;> first | (cases hr2; done) | skip
  rename_i q
  obtain ⟨es, ck, hg, hr3⟩ := mpK_some (show mpK (h.gb q) _ = some r from hr2)
  obtain ⟨c1, c2, hr4, c4⟩ := asC_out hr3
  obtain ⟨h', hr5, w2, w3, w4, w5, w6, w7⟩ := widK_out hr4
  rw [updM_scan _ _ _ es 0] at hr5
  have hat : h.at q = .mp es ck := by rw [← Hp.gb_eq, hg]
  have hat' : h'.at q = .mp es ck := by rw [← hat]; unfold Hp.at; rw [w4]
  have main : ∀ (es' : List ME) (ck' : Nat), (∀ cal k, exJ (.up ks m' k' v') cal t h k = k vu (h'.set q (.mp es' ck'))) →
      (∀ f, (B.mp es ck).rf f = true → (ev t k').rk f = true → (ev t v').rk f = true → (B.mp es' ck').rf f = true) →
      (∀ (e : Env) (a : Act) (w : World), OT Y e t (Pth.ok h.n.n) a (· ∈ o.op.operands) → (execOp a.eval o).run P w = ((Instr.mapUpdate T (.map (some (e.σ q).1)) ((ev t k').tr e) ((ev t v').tr e)).run P w).andThen (fun _ w' => .ok .skip w')  →
        w.heap[(e.σ q).1]? = some (.map (es.map (entT e)).toArray ck) → (execOp a.eval o).run P w = .ok .skip (w.putObj (e.σ q).1 (.map (es'.map (entT e)).toArray ck'))) →
      ∃ v h1, (∀ cal k, exJ (.up ks m' k' v') cal t h k = k v h1) ∧ h1.df = h.df ∧
        ∀ e a w, OT Y e t (Pth.ok h.n.n) a (· ∈ o.op.operands) → Rel e h w → ∃ nx x w' e', (execOp a.eval o).run P w = .ok nx w' ∧ ((nx = .value x) ∨ (nx = .skip ∧ x = undef)) ∧ Step e h w e' h1 w' ∧ Isu e' v x ∧ v.ok h1.n.n = true := fun es' ck' hev hrf hrun => by
    refine ⟨vu, _, hev, w6, fun e a w hT H => ?_⟩
    obtain ⟨e1, e2⟩ := ev_eq hT hS1 hm hs (by simp) rfl
    obtain ⟨k1, k2⟩ := ev_eq hT hS2 hkey rfl kne knU
    obtain ⟨v1, v2⟩ := ev_eq hT hS3 hv rfl (pl_u c1) (pl_nU c1 c2)
    have hgb := H.gb (r := q) e2
    obtain ⟨g1, g2⟩ := hgb
    rw [hg] at g1 g2
    have g1 : w.heap[(e.σ q).1]? = some (.map (es.map (entT e)).toArray ck) := g1
    have e1 : a.eval m = .map (some (e.σ q).1) := e1
    have W := w3 H
    have hr' : q.n < h'.n.n := by rw [w5]; exact Pth.ok_iff.1 e2
    have hx := hrun e a w hT (by rcases ho with ho | ho <;> simp [execOp, ho, e1, k1, v1] <;> rfl) g1
    have hlt : (e.σ q).1 < w.heap.size := (Array.getElem?_eq_some_iff.1 g1).1
    refine ⟨.skip, undef, _, e, hx, .inr ⟨rfl, rfl⟩, W.trans (Step.upd W.rel hr' (by rw [hat']; rfl) ?_ ?_ ?_ (fun b hb => World.putObj_heap_other hb) (by rw [World.putObj_size]; exact Nat.le_refl _) rfl rfl rfl), undef_is, rfl⟩
    · show (w.putObj (e.σ q).1 _).heap[(e.σ q).1]? = _
      exact World.putObj_heap_same hlt
    · rw [w5]
      exact hrf _ g2 (keyB_rk hkb k2) (cs_rk c1 (cs_rf c1 c2 v2))
    · have := W.rel.esc q hr'
      rw [hat'] at this
      exact hrf _ this (keyB_rk hkb k2) (cs_rk c1 (w7 (cs_rf c1 c2 v2)))
  have hev0 : ∀ cal k, exJ (.up ks m' k' v') cal t h k = updM ks (ev t k') (ev t v') es (fun es => h'.setK q (.mp es ck) fun h => k vu h) (fun _ => fN (Nat.succ ck) fun ck' => h'.setK q (.mp (apM es [(ev t k', ev t v', ck)]) ck') fun h => k vu h) := fun cal k => by
    show onB (keyB ks (ev t k')) _ none = _
    rw [hkb, e_t, hs, e_asS]
    show mpK (h.gb q) _ = _
    rw [hg, e_mpK, c4, w2]
  have hap : ∀ a b : List ME, apM a b = a ++ b := fun a => by
    induction a with
    | nil => intro b; rfl
    | cons x a ih => intro b; show x :: apM a b = _; rw [ih]; rfl
  have hset : ∀ (w : World) (e : Env) (ob : Obj), w.heap[(e.σ q).1]? = some (.map (es.map (entT e)).toArray ck) → (setObj (e.σ q).1 ob).run P w = .ok () (w.putObj (e.σ q).1 ob) := fun w e ob hw => MapKept.run_setObj_map ob hw
  cases hsc : scan ks (ev t k') es 0 with
  | none => rw [hsc] at hr5; cases hr5
  | some sr =>
    cases sr with
    | none =>
      refine main (es ++ [(ev t k', ev t v', ck)]) (ck + 1) (fun cal k => ?_) (fun f h1 h2 h3 => ?_) (fun e a w hT hx hw => ?_)
      · rw [hev0, updM_scan _ _ _ es 0, hsc]
        show fN (Nat.succ ck) _ = _
        rw [fN_eq, Hp.setK_eq, hap]
      · simp only [B.rf, List.all_append, Bool.and_eq_true] at h1 ⊢
        exact ⟨h1, by simp [h2, h3]⟩
      · have c2 := scan_find hk hsc e w
        simp only [Option.map_none] at c2
        have hck := ck_run hk hkb false e w
        rw [hx]
        simp only [Instr.mapUpdate, Sem.run_bind, run_underlying hu, Result.andThen_ok, MapKept.run_getObj_map hw, hck, c2, hset w e _ hw]
        congr 2
        simp [entT]
    | some jv =>
      obtain ⟨j, v0⟩ := jv
      obtain ⟨a0, b0, _, hj, hq⟩ := scan_mem hsc
      rw [Nat.sub_zero] at hj
      refine main (es.modify j fun x => (x.1, ev t v', x.2.2)) ck (fun cal k => ?_) (fun f h1 h2 h3 => ?_) (fun e a w hT hx hw => ?_)
      · rw [hev0, updM_scan _ _ _ es 0, hsc]
        show Hp.setK h' q _ _ = _
        rw [Hp.setK_eq, Nat.sub_zero]
      · simp only [B.rf, List.all_eq_true, Bool.and_eq_true] at h1 ⊢
        intro x hx
        obtain ⟨i, hi⟩ := List.mem_iff_getElem?.1 hx
        rw [List.getElem?_modify] at hi
        cases hei : es[i]? with
        | none => rw [hei] at hi; simp at hi
        | some y =>
          rw [hei] at hi
          simp only [Option.map_eq_map, Option.map_some, Option.some.injEq] at hi
          have := h1 y (List.mem_of_getElem? hei)
          subst hi
          split
          · exact ⟨this.1, h3⟩
          · exact this
      · have c2 := scan_find hk hsc e w
        simp only [Option.map_some] at c2
        have hck := ck_run hk hkb false e w
        have hkey0 : (((es.map (entT e)).toArray[j]?).map (·.key)).getD ((ev t k').tr e) = (ev t k').tr e := by
          simp only [List.getElem?_toArray, List.getElem?_map, hj, Option.map_some, Option.getD_some, entT]
          exact (eqK_tr hq e).symm
        have hst : (Instr.keyThatStays ((ev t k').tr e) ((ev t k').tr e)).run P w = .ok ((ev t k').tr e) w := by
          simp [Instr.keyThatStays, sameBits_key hkb e]
        rw [hx]
        simp only [Instr.mapUpdate, Sem.run_bind, run_underlying hu, Result.andThen_ok, MapKept.run_getObj_map hw, hck, c2, hkey0, hst, hset w e _ hw]
        congr 3
        apply Array.ext_getElem?
        intro i
        simp only [Array.getElem?_modify, List.getElem?_toArray, List.getElem?_map, List.getElem?_modify]
        by_cases hij : j = i
        · subst hij
          rw [hj]
          simp only [if_true, Option.map_eq_map, Option.map_some, entT]
          rw [eqK_tr hq e]
        · rw [if_neg hij]
          cases es[i]? <;> simp [hij]
theorem makes_rng {T kt et : TypeId} {x : Operand} {y : O} (ho : o.op = .range T x) (hu : P.underlying T = some (.map kt et)) (hx : compX Y x = some y) : Acts Y P o (.rng y) := by
  intro cal t h k r hr
  obtain ⟨s, hs, hr1⟩ := asS_some (show asS (ev t y) _ = some r from hr)
  have fin : ∀ (m : Option Pth) (since : Nat), (∀ cal k, exJ (.rng y) cal t h k = k (.s (.p h.n 0)) (h.push (.it m since [] since))) →
      (∀ e a w, OT Y e t (Pth.ok h.n.n) a (· ∈ o.op.operands) → Rel e h w → (match m with | some q => q.ok h.n.n = true | none => True) ∧ (execOp a.eval o).run P w = .ok (.value (.pointer (some ⟨w.heap.size, 0, none⟩))) (w.alloc (.mapIter (m.map fun q => (e.σ q).1) since #[] since))) →
      ∃ v h1, (∀ cal k, exJ (.rng y) cal t h k = k v h1) ∧ h1.df = h.df ∧
        ∀ e a w, OT Y e t (Pth.ok h.n.n) a (· ∈ o.op.operands) → Rel e h w → ∃ nx x w' e', (execOp a.eval o).run P w = .ok nx w' ∧ ((nx = .value x) ∨ (nx = .skip ∧ x = undef)) ∧ Step e h w e' h1 w' ∧ Isu e' v x ∧ v.ok h1.n.n = true := fun m since hev hrun => by
    refine ⟨_, _, hev, rfl, fun e a w hT H => ?_⟩
    obtain ⟨hm, hx⟩ := hrun e a w hT H
    have M := More.alloc w (.mapIter (m.map fun q => (e.σ q).1) since #[] since)
    refine ⟨_, _, _, e.lay h.n (w.heap.size, 0) 0, hx, .inl rfl, Step.new H _ 0 ?_ ?_ M.old (Nat.le_refl _) (by have := M.size; omega) M.os M.tape M.output, .inr (.inl ?_), ?_⟩
    · refine ⟨by rw [lay_σ], ?_⟩
      rw [lay_σ]
      have h1 : (w.alloc (.mapIter (m.map fun q => (e.σ q).1) since #[] since)).heap[w.heap.size]? = some (.mapIter (m.map fun q => (e.σ q).1) since #[] since) := (MapKept.heap_alloc w _).1
      show (w.alloc (.mapIter (m.map fun q => (e.σ q).1) since #[] since)).heap[w.heap.size]? = _
      rw [h1]
      cases m with
      | none => rfl
      | some q =>
        have hne : q ≠ h.n := fun c => by rw [c] at hm; have := Pth.ok_iff.1 hm; omega
        simp only [Option.map_some]
        show _ = some (Obj.mapIter (some ((e.lay h.n (w.heap.size, 0) 0).σ q).1) since [].toArray since)
        rw [show (e.lay h.n (w.heap.size, 0) 0).σ q = e.σ q from if_neg hne]
    · cases m with
      | none => rfl
      | some q => exact hm
    · simp only [V.tr, S.tr, lay_adr]
    · show Pth.ok _ _ = true
      rw [Pth.ok_iff, Hp.n_push]; omega
  have hSx : x ∈ o.op.operands := by simp [ho, Op.operands]
  cases s <;> first | (cases hr1; done) | skip
  · rename_i q
    obtain ⟨es, ck, hg, hr2⟩ := mpK_some (show mpK (h.gb q) _ = some r from hr1)
    refine fin (some q) ck (fun cal k => ?_) (fun e a w hT H => ?_)
    · show asS (ev t y) _ = _
      rw [hs, e_asS]
      show mpK (h.gb q) _ = _
      rw [hg, e_mpK]; exact Hp.pushK_eq h _ _
    · obtain ⟨e1, e2⟩ := ev_eq hT hSx hx hs (by simp) rfl
      obtain ⟨g1, g2⟩ := H.gb (r := q) e2
      rw [hg] at g1
      have g1 : w.heap[(e.σ q).1]? = some (.map (es.map (entT e)).toArray ck) := g1
      have e1 : a.eval x = .map (some (e.σ q).1) := e1
      exact ⟨e2, by simp [execOp, ho, e1, Instr.range, run_underlying hu, MapKept.run_getObj_map g1]⟩
  · refine fin none 0 (fun cal k => ?_) (fun e a w hT H => ?_)
    · show asS (ev t y) _ = _
      rw [hs, e_asS]; exact Hp.pushK_eq h _ _
    · obtain ⟨e1, e2⟩ := ev_eq hT hSx hx hs (by simp) rfl
      have e1 : a.eval x = .map none := e1
      exact ⟨trivial, by simp [execOp, ho, e1, Instr.range, run_underlying hu]⟩
end
end Go.E
