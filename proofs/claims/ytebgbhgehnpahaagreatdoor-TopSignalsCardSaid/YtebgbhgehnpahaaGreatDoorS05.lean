/- A part of the proof of the claim that the last text of this folder states. -/
import Derived.Test.YtebgbhgehnpahaaGreatDoorS04
namespace Go.E
set_option linter.all false
theorem trs_size (e : Env) (xs : List S) : (trs e xs).size = xs.length := by simp [trs]
theorem trs_get (e : Env) (xs : List S) (o : Nat) : (trs e xs)[o]? = (xs[o]?).map (S.tr e) := by simp [trs]
theorem trs_sub (e : Env) (xs : List S) (o n : Nat) : (trs e xs).extract o (o + n) = trs e ((xs.drop o).take n) := by
  simp [trs, List.map_take, List.map_drop]
theorem all_get {f : S → Bool} {xs : List S} {o : Nat} {s : S} (h : xs.all f = true) (hs : xs[o]? = some s) : f s = true := by
  simp only [List.all_eq_true] at h; exact h s (List.mem_of_getElem? hs)
theorem all_sub {f : S → Bool} {xs : List S} (o n : Nat) (h : xs.all f = true) : ((xs.drop o).take n).all f = true := by
  simp only [List.all_eq_true] at *; exact fun x hx => h x (List.mem_of_mem_drop (List.mem_of_mem_take hx))
section
variable {P : Program} (w : World)
theorem run_isAgg_some {T : TypeId} {n : Nat} (h : shapeOf P T = some (some n)) : (isAgg T).run P w = .ok true w ∧ (sizeOf T).run P w = .ok n w := by
  unfold shapeOf at h
  split at h
  · rename_i i fs hi hu; cases h; exact ⟨by simp [isAgg, run_underlying hu], by simp [sizeOf, typeInfo, hi]⟩
  · rename_i i n e hi hu; cases h; exact ⟨by simp [isAgg, run_underlying hu], by simp [sizeOf, typeInfo, hi]⟩
  · cases h
  · cases h
theorem run_isAgg_none {T : TypeId} (h : shapeOf P T = some none) : (isAgg T).run P w = .ok false w := by
  unfold shapeOf at h
  split at h
  · cases h
  · cases h
  · rename_i i d h1 h2 hi hu
    simp only [isAgg, Sem.run_bind, run_underlying hu, Result.andThen_ok]
    rfl
  · cases h
theorem run_part_some {T : TypeId} {n : Nat} (h : shapeOf P T = some (some n)) (e : Env) (xs : List S) (off : Nat) :
    (part T (trs e xs) off).run P w = .ok (.agg (trs e ((xs.drop off).take n))) w := by
  have := run_isAgg_some w h
  simp [part, this.1, this.2, trs_sub]
theorem run_part_none {T : TypeId} (h : shapeOf P T = some none) (e : Env) (xs : List S) (off : Nat) {s : S} (hs : xs[off]? = some s) :
    (part T (trs e xs) off).run P w = .ok (s.tr e) w := by
  have := run_isAgg_none w h
  simp [part, this, trs_get, hs]
end
section
variable {Y : Lay} {P : Program} {o : Oper}
theorem idxK_some {i : V} {n : Nat} {c : Nat → Ans} {r : RES} (h : idxK i n c = some r) : ∃ k m, i = .s (.i k (Int.ofNat m)) ∧ m < n ∧ m < 18446744073709551616 ∧ c m = some r ∧ ∀ c, idxK i n c = c m := by
  obtain ⟨k, z, hz, h⟩ := asI_some (show asI i _ = some r from h)
  cases z with
  | ofNat m =>
    obtain ⟨hb, h⟩ := onB_t (show onB (and (Nat.blt m n) (Nat.blt m 18446744073709551616)) (c m) none = some r from h)
    obtain ⟨b1, b2⟩ := and_t hb
    refine ⟨k, m, hz, nat_lt b1, nat_lt b2, h, fun c => ?_⟩
    show asI i _ = _
    rw [hz]
    show onB (and (Nat.blt m n) (Nat.blt m 18446744073709551616)) (c m) none = _
    rw [hb]; rfl
  | negSucc m => cases h
theorem reB_nat {m : Nat} (h : m < 18446744073709551616) : reB (Int.ofNat m) = true := by
  show Nat.blt m _ = true
  rw [Nat.blt_eq]; exact h
theorem pure_fld {T : TypeId} {x : Operand} {y : O} {j : Nat} {fs : Array Field} {f : Field} {n : Option Nat} (ho : o.op = .field T x j) (hu : P.underlying T = some (.struct fs)) (hf : fs[j]? = some f)
    (hn : shapeOf P f.type = some n) (hx : compX Y x = some y) : Pure Y P o (.fld y f.offset n) := by
  intro cal t h k r hr
  obtain ⟨l, hl, hr⟩ := asA_some (show asA (ev t y) _ = some r from hr)
  cases n with
  | none =>
    obtain ⟨s, hs, hr⟩ := onO_some (show onO (nthF l f.offset) _ = some r from hr)
    refine ⟨.s s, fun cal h k => ?_, fun e g a hT => ?_⟩
    · show asA (ev t y) _ = _
      rw [hl]; show onO (nthF l f.offset) _ = _
      rw [hs]; rfl
    obtain ⟨h1, h2⟩ := ev_eq hT (x := x) (by simp [ho, Op.operands]) hx hl (by simp) rfl
    rw [nthF_eq] at hs
    exact ⟨_, .mk _, V.rf_s (all_get h2 hs), fun w => by simp [execOp, ho, h1, V.tr, Instr.field, run_underlying hu, hf, asAgg, run_part_none w hn e l _ hs]⟩
  | some n =>
    obtain ⟨s, hs, hr⟩ := onO_some (show onO (tkF (drF l f.offset) n) _ = some r from hr)
    refine ⟨.agg s, fun cal h k => ?_, fun e g a hT => ?_⟩
    · show asA (ev t y) _ = _
      rw [hl]; show onO (tkF (drF l f.offset) n) _ = _
      rw [hs]; rfl
    obtain ⟨h1, h2⟩ := ev_eq hT (x := x) (by simp [ho, Op.operands]) hx hl (by simp) rfl
    obtain ⟨rfl, hlen⟩ := tkF_some hs
    rw [drF_eq] at hlen ⊢
    exact ⟨_, .mk _, all_sub _ _ h2, fun w => by simp [execOp, ho, h1, V.tr, Instr.field, run_underlying hu, hf, asAgg, run_part_some w hn e l]⟩
theorem pure_ia {T e : TypeId} {x i : Operand} {y i' : O} {arr : Option Nat} {kd : TypeInfo} (ho : o.op = .indexAddr T x i)
    (hu : match arr with | some n => P.underlying T = some (.array n e) | none => P.underlying T = some (.slice e)) (hk : P.info? e = some kd)
    (hx : compX Y x = some y) (hi : compX Y i = some i') : Pure Y P o (.ia arr kd.size y i') := by
  intro cal t h k r hr
  cases arr with
  | some n =>
    obtain ⟨q, off, hq, hr⟩ := asP_some (show asP (ev t y) _ = some r from hr)
    obtain ⟨k1, m, hm, m1, m2, hr, hc⟩ := idxK_some hr
    refine ⟨.s (.p q (off + m * kd.size)), fun cal h k => ?_, fun en g a hT => ?_⟩
    · show asP (ev t y) _ = _
      simp only [hq, e_asP, hc, fN_eq]; rfl
    obtain ⟨h1, h2⟩ := ev_eq hT (x := x) (by simp [ho, Op.operands]) hx hq (by simp) rfl
    have h3 := ev_i hT (x := i) (by simp [ho, Op.operands]) hi hm (reB_nat m2)
    simp only at hu
    exact ⟨_, .mk _, h2, fun w => by simp [execOp, ho, h1, h3, V.tr, S.tr, Instr.indexAt, asIntOf, run_underlying hu, Instr.sureAddr, m1, sizeOf, typeInfo, hk, adr_add]⟩
  | none =>
    obtain ⟨s, hs, hr⟩ := asS_some (show asS (ev t y) _ = some r from hr)
    cases s <;> first | (cases hr; done) | skip
    rotate_left
    · rename_i q n
      obtain ⟨k1, m, hm, m1, m2, hr, hc⟩ := idxK_some (show idxK (ev t i') (Bool.rec (Nat.mod n 4294967296) n (Nat.blt n 4294967296)) _ = some r from hr)
      refine ⟨.s (.p q (0 + m * kd.size)), fun cal h k => ?_, fun en g a hT => ?_⟩
      · show asS (ev t y) _ = _
        simp only [hs, e_asS, hc, fN_eq]; rfl
      obtain ⟨h1, h2⟩ := ev_eq hT (x := x) (by simp [ho, Op.operands]) hx hs (by simp) rfl
      have h3 := ev_i hT (x := i) (by simp [ho, Op.operands]) hi hm (reB_nat m2)
      simp only at hu
      have m3 : m < sgN en.ρ n := by
        show m < (Bool.rec _ _ (Nat.blt n 4294967296) : Nat)
        cases hb : Nat.blt n 4294967296 with
        | true => rw [hb] at m1; exact Nat.lt_of_lt_of_le m1 (Nat.le_max_left _ _)
        | false => rw [hb] at m1; exact m1
      simp only [V.tr, S.tr] at h1
      exact ⟨_, .mk _, h2, fun w => by simp [execOp, ho, h1, h3, V.tr, S.tr, Instr.indexAt, asIntOf, run_underlying hu, m3, sizeOf, typeInfo, hk, adr_add]⟩
    rename_i q off n c
    obtain ⟨k1, m, hm, m1, m2, hr, hc⟩ := idxK_some (show idxK (ev t i') n _ = some r from hr)
    refine ⟨.s (.p q (off + m * kd.size)), fun cal h k => ?_, fun en g a hT => ?_⟩
    · show asS (ev t y) _ = _
      simp only [hs, e_asS, hc, fN_eq]; rfl
    obtain ⟨h1, h2⟩ := ev_eq hT (x := x) (by simp [ho, Op.operands]) hx hs (by simp) rfl
    have h3 := ev_i hT (x := i) (by simp [ho, Op.operands]) hi hm (reB_nat m2)
    simp only at hu
    exact ⟨_, .mk _, h2, fun w => by simp [execOp, ho, h1, h3, V.tr, S.tr, Instr.indexAt, asIntOf, run_underlying hu, m1, sizeOf, typeInfo, hk, adr_add]⟩
theorem pure_ix {T e : TypeId} {x i : Operand} {y i' : O} {len : Nat} {n : Option Nat} {kd : TypeInfo} (ho : o.op = .index T x i)
    (hu : P.underlying T = some (.array len e)) (hk : P.info? e = some kd) (hn : shapeOf P e = some n)
    (hx : compX Y x = some y) (hi : compX Y i = some i') : Pure Y P o (.ix len kd.size n y i') := by
  intro cal t h k r hr
  obtain ⟨l, hl, hr⟩ := asA_some (show asA (ev t y) _ = some r from hr)
  obtain ⟨k1, m, hm, m1, m2, hr, hc⟩ := idxK_some (show idxK (ev t i') len _ = some r from hr)
  cases n with
  | none =>
    obtain ⟨s, hs, hr⟩ := onO_some (show onO (nthF l (m * kd.size)) _ = some r from hr)
    refine ⟨.s s, fun cal h k => ?_, fun en g a hT => ?_⟩
    · show asA (ev t y) _ = _
      rw [hl]; show idxK (ev t i') len _ = _
      rw [hc]; show onO (nthF l (m * kd.size)) _ = _
      rw [hs]; rfl
    obtain ⟨h1, h2⟩ := ev_eq hT (x := x) (by simp [ho, Op.operands]) hx hl (by simp) rfl
    have h3 := ev_i hT (x := i) (by simp [ho, Op.operands]) hi hm (reB_nat m2)
    rw [nthF_eq] at hs
    exact ⟨_, .mk _, V.rf_s (all_get h2 hs), fun w => by simp [execOp, ho, h1, h3, V.tr, S.tr, Instr.index, asIntOf, run_underlying hu, m1, sizeOf, typeInfo, hk, run_part_none w hn en l _ hs]⟩
  | some n =>
    obtain ⟨s, hs, hr⟩ := onO_some (show onO (tkF (drF l (m * kd.size)) n) _ = some r from hr)
    refine ⟨.agg s, fun cal h k => ?_, fun en g a hT => ?_⟩
    · show asA (ev t y) _ = _
      rw [hl]; show idxK (ev t i') len _ = _
      rw [hc]; show onO (tkF (drF l (m * kd.size)) n) _ = _
      rw [hs]; rfl
    obtain ⟨h1, h2⟩ := ev_eq hT (x := x) (by simp [ho, Op.operands]) hx hl (by simp) rfl
    have h3 := ev_i hT (x := i) (by simp [ho, Op.operands]) hi hm (reB_nat m2)
    obtain ⟨rfl, hlen⟩ := tkF_some hs
    rw [drF_eq] at hlen ⊢
    exact ⟨_, .mk _, all_sub _ _ h2, fun w => by simp [execOp, ho, h1, h3, V.tr, S.tr, Instr.index, asIntOf, run_underlying hu, m1, sizeOf, typeInfo, hk, run_part_some w hn en l]⟩
theorem nthN_eq : ∀ (l : List Nat) (n : Nat), nthN l n = l[n]?
  | [], _ => rfl
  | x :: _, 0 => rfl
  | _ :: l, n + 1 => by show nthN l n = _; rw [nthN_eq l n]; rfl
theorem pure_ixs {T : TypeId} {x i : Operand} {y i' : O} (ho : o.op = .index T x i) (hu : P.underlying T = some .string) (hx : compX Y x = some y) (hi : compX Y i = some i') : Pure Y P o (.ixs y i') := by
  intro cal t h k r hr
  obtain ⟨s, hs, hr⟩ := asS_some (show asS (ev t y) _ = some r from hr)
  cases s <;> first | (cases hr; done) | skip
  rename_i l
  obtain ⟨k1, z, hz, hr⟩ := asI_some (show asI (ev t i') _ = some r from hr)
  cases z with
  | negSucc m => cases hr
  | ofNat m =>
    obtain ⟨hb, hr⟩ := onB_t (show onB (Nat.blt m 18446744073709551616) _ none = some r from hr)
    obtain ⟨b, hb2, hr⟩ := onO_some (show onO (nthN l m) _ = some r from hr)
    obtain ⟨hb3, hr⟩ := onB_t (show onB (Nat.blt b 256) _ none = some r from hr)
    refine ⟨.s (.i .u8 (Int.ofNat b)), fun cal h k => ?_, fun en g a hT => ?_⟩
    · show asS (ev t y) _ = _
      rw [hs]; show asI (ev t i') _ = _
      rw [hz]; show onB (Nat.blt m 18446744073709551616) _ none = _
      rw [hb]; show onO (nthN l m) _ = _
      rw [hb2]; show onB (Nat.blt b 256) _ none = _
      rw [hb3]; rfl
    obtain ⟨h1, h2⟩ := ev_eq hT (x := x) (by simp [ho, Op.operands]) hx hs (by simp) rfl
    have h3 := ev_i hT (x := i) (by simp [ho, Op.operands]) hi hz (reB_nat (nat_lt hb))
    rw [nthN_eq] at hb2
    have hb3 := nat_lt hb3
    refine ⟨_, .mk _, rfl, fun w => ?_⟩
    have hg : (⟨(l.map UInt8.ofNat).toArray⟩ : ByteArray)[m]? = some (UInt8.ofNat b) := by
      have hm : m < l.length := (List.getElem?_eq_some_iff.1 hb2).1
      rw [getElem?_pos _ _ (by show m < (l.map UInt8.ofNat).toArray.size; simpa using hm)]
      congr 1
      show (l.map UInt8.ofNat).toArray[m]'_ = _
      have := (List.getElem?_eq_some_iff.1 hb2).2
      simp [this]
    have hv : vl en (b : Int) = (b : Int) := vl_lt (by omega)
    simp [execOp, ho, h1, h3, V.tr, S.tr, Instr.index, asIntOf, run_underlying hu, hg, hv]
    omega
theorem pure_len {T e : TypeId} {x : Operand} {y : O} {c : Call} (ho : o.op = .call c) (hc : c.callee = .builtin .len) (ha : c.args.toList = [x]) (hat : c.argTypes.toList = [T])
    (hu : P.underlying T = some (.slice e)) (hx : compX Y x = some y) : Pure Y P o (.len y) := by
  have ha' : c.args = #[x] := by rw [← ha]
  have hat' : c.argTypes = #[T] := by rw [← hat]
  intro cal t h k r hr
  obtain ⟨s, hs, hr⟩ := asS_some (show asS (ev t y) _ = some r from hr)
  cases s <;> first | (cases hr; done) | skip
  · rename_i q off n cp
    obtain ⟨hb, hr⟩ := onB_t (show onB (Nat.blt n 18446744073709551616) _ none = some r from hr)
    refine ⟨.s (.i .i64 (Int.ofNat n)), fun cal h k => ?_, fun en g a hT => ?_⟩
    · show asS (ev t y) _ = _
      rw [hs]; show onB (Nat.blt n 18446744073709551616) _ none = _
      rw [hb]; rfl
    obtain ⟨h1, h2⟩ := ev_eq hT (x := x) (by simp [ho, Op.operands, Call.operands, hc, ha']) hx hs (by simp) rfl
    have hv : vl en (n : Int) = (n : Int) := vl_lt (by have := nat_lt hb; omega)
    exact ⟨_, .mk _, rfl, fun w => by simp [execOp, ho, h1, V.tr, S.tr, resolve, hc, ha', hat', invoke, builtin, Builtin.len_, run_underlying hu, goInt, hv]⟩
  · refine ⟨.s (.i .i64 (Int.ofNat 0)), fun cal h k => ?_, fun en g a hT => ?_⟩
    · show asS (ev t y) _ = _
      rw [hs]; rfl
    obtain ⟨h1, h2⟩ := ev_eq hT (x := x) (by simp [ho, Op.operands, Call.operands, hc, ha']) hx hs (by simp) rfl
    exact ⟨_, .mk _, rfl, fun w => by simp [execOp, ho, h1, V.tr, S.tr, resolve, hc, ha', hat', invoke, builtin, Builtin.len_, run_underlying hu, goInt, vl]⟩
  · refine ⟨.s (.i .i64 (Int.ofNat 0)), fun cal h k => ?_, fun en g a hT => ?_⟩
    · show asS (ev t y) _ = _
      rw [hs]; rfl
    obtain ⟨h1, h2⟩ := ev_eq hT (x := x) (by simp [ho, Op.operands, Call.operands, hc, ha']) hx hs (by simp) rfl
    exact ⟨_, .mk _, rfl, fun w => by simp [execOp, ho, h1, V.tr, S.tr, resolve, hc, ha', hat', invoke, builtin, Builtin.len_, run_underlying hu, goInt, vl]⟩
  · rename_i q n
    cases hb : Nat.blt n 4294967296 with
    | true =>
      refine ⟨.s (.i .i64 (Int.ofNat (gN + n))), fun cal h k => ?_, fun en g a hT => ?_⟩
      · show asS (ev t y) _ = _
        rw [hs]; show (Bool.rec _ _ (Nat.blt n 4294967296) : Ans) = _
        rw [hb]; show fN (Nat.add gN n) _ = _
        rw [fN_eq]; rfl
      obtain ⟨h1, h2⟩ := ev_eq hT (x := x) (by simp [ho, Op.operands, Call.operands, hc, ha']) hx hs (by simp) rfl
      have hv : vl en (Int.ofNat (gN + n)) = ((Nat.max n (en.ρ 100).toNat : Nat) : Int) := by
        unfold vl
        rw [if_pos (by show (18446744073709551616 : Int) ≤ ((gN + n : Nat) : Int); unfold gN; omega), if_pos (by show (symN : Int) ≤ ((gN + n : Nat) : Int); unfold gN symN; omega), if_pos (by show (gN : Int) ≤ ((gN + n : Nat) : Int); omega)]
        show ((Nat.max (sC (gN + n)) (en.ρ 100).toNat : Nat) : Int) = _
        have : sC (gN + n) = n := by
          show (gN + n) % 18446744073709551616 = n
          have := nat_lt hb
          unfold gN; omega
        rw [this]
      have hl : sgN en.ρ n = Nat.max n (en.ρ 100).toNat := by
        show (Bool.rec _ _ (Nat.blt n 4294967296) : Nat) = _
        rw [hb]
      refine ⟨_, .mk _, rfl, fun w => ?_⟩
      simp only [V.tr, S.tr, hv]
      simp only [V.tr, S.tr, hl] at h1
      simp [execOp, ho, h1, resolve, hc, ha', hat', invoke, builtin, Builtin.len_, run_underlying hu, goInt]
    | false =>
      refine ⟨.s (.i .i64 (Int.ofNat (n % 4294967296))), fun cal h k => ?_, fun en g a hT => ?_⟩
      · show asS (ev t y) _ = _
        rw [hs]; show (Bool.rec _ _ (Nat.blt n 4294967296) : Ans) = _
        rw [hb]; show fN (Nat.mod n 4294967296) _ = _
        rw [fN_eq]; rfl
      obtain ⟨h1, h2⟩ := ev_eq hT (x := x) (by simp [ho, Op.operands, Call.operands, hc, ha']) hx hs (by simp) rfl
      have hv : vl en (Int.ofNat (n % 4294967296)) = ((n % 4294967296 : Nat) : Int) := vl_lt (by show ((n % 4294967296 : Nat) : Int) < _; omega)
      have hl : sgN en.ρ n = n % 4294967296 := by
        show (Bool.rec _ _ (Nat.blt n 4294967296) : Nat) = _
        rw [hb]; rfl
      refine ⟨_, .mk _, rfl, fun w => ?_⟩
      simp only [V.tr, S.tr, hv]
      simp only [V.tr, S.tr, hl] at h1
      simp [execOp, ho, h1, resolve, hc, ha', hat', invoke, builtin, Builtin.len_, run_underlying hu, goInt]
theorem mxY_ok {n m : Int} {p : Bool} (h : mxY n m = some p) (e : Env) : kn n = true ∧ kn m = true ∧ if p then vl e n ≤ vl e m else vl e m ≤ vl e n := by
  cases n with
  | negSucc x => cases h
  | ofNat x => cases m with
    | negSucc y => cases h
    | ofNat y =>
      obtain ⟨la, ha, v, h, e1, a1, a2, k1⟩ := rgK_out (e := e) (show rgK x (fun la ha => rgK y fun lb hb => onB (Nat.ble ha lb) (some true) (onB (Nat.ble hb la) (some false) none)) = some p from h)
      obtain ⟨lb, hb, u, h, e2, b1, b2, k2⟩ := rgK_out (e := e) h
      refine ⟨k1, k2, ?_⟩
      rw [e1, e2]
      rcases onB_or h with ⟨hc, h⟩ | ⟨_, h⟩
      · have hc := Nat.le_of_ble_eq_true hc; cases h
        simp only [if_true]; omega
      · obtain ⟨hc, h⟩ := onB_t' h
        have hc := Nat.le_of_ble_eq_true hc; cases h
        simp only [Bool.false_eq_true, if_false]; omega
theorem pure_mx {q : Bool} {x y : Operand} {x' y' : O} {c : Call} (ho : o.op = .call c) (hc : c.callee = .builtin (if q then .max else .min)) (ha : c.args.toList = [x, y])
    (hx : compX Y x = some x') (hy : compX Y y = some y') : Pure Y P o (.mx q x' y') := by
  have ha' : c.args = #[x, y] := by rw [← ha]
  intro cal t h k r hr
  obtain ⟨k1, n, hn, hr⟩ := asI_some (show asI (ev t x') _ = some r from hr)
  obtain ⟨k2, m, hm, hr⟩ := asI_some (show asI (ev t y') _ = some r from hr)
  rcases onB_or hr with ⟨hb, hr⟩ | ⟨hb0, hr⟩
  rotate_left
  · obtain ⟨hk, hr⟩ := onB_t' hr
    obtain ⟨p, hp, hr⟩ := onO_some hr
    obtain rfl := kEq_t hk
    have hev : ∀ cal h k, exJ (.mx q x' y') cal t h k = k (.s (.i k1 (if q = p then m else n))) h := fun cal h k => by
      show asI (ev t x') _ = _
      rw [hn]; show asI (ev t y') _ = _
      rw [hm]; show onB (and (kEq k1 k1) (and (reB n) (reB m))) _ _ = _
      rw [hb0]; show onB (kEq k1 k1) _ _ = _
      rw [hk]; show onO (mxY n m) _ = _
      rw [hp]
      cases q <;> cases p <;> rfl
    refine ⟨_, hev, fun en g a hT => ?_⟩
    obtain ⟨c1, c2, c3⟩ := mxY_ok hp en
    have h1 := (ev_eq hT (x := x) (by simp [ho, Op.operands, Call.operands, ha']) hx hn (by simp) (by exact c1)).1
    have h2 := (ev_eq hT (x := y) (by simp [ho, Op.operands, Call.operands, ha']) hy hm (by simp) (by exact c2)).1
    simp only [V.tr, S.tr] at h1 h2
    refine ⟨_, .mk _, ?_, fun w => ?_⟩
    · cases q <;> cases p <;> rfl
    cases q
    · have : (if vl en m < vl en n then vl en m else vl en n) = vl en (if false = p then m else n) := by
        cases p with
        | true => simp only [if_true] at c3; rw [if_neg (by omega)]; simp
        | false => simp only [Bool.false_eq_true, if_false] at c3; simp only [if_true]; split <;> omega
      simp [execOp, ho, h1, h2, V.tr, S.tr, resolve, hc, ha', invoke, builtin, run_min_int2, this]
    · have : (if vl en n < vl en m then vl en m else vl en n) = vl en (if true = p then m else n) := by
        cases p with
        | true => simp only [if_true] at c3; simp only [if_true]; split <;> omega
        | false => simp only [Bool.false_eq_true, if_false] at c3; rw [if_neg (by omega)]; simp
      simp [execOp, ho, h1, h2, V.tr, S.tr, resolve, hc, ha', invoke, builtin, run_max_int2, this]
  obtain ⟨b1, b2⟩ := and_t hb
  obtain ⟨b2, b3⟩ := and_t b2
  obtain rfl := kEq_t b1
  have hev : ∀ cal h k, exJ (.mx q x' y') cal t h k = k (.s (.i k1 (if q then (if m > n then m else n) else (if m < n then m else n)))) h := fun cal h k => by
    show asI (ev t x') _ = _
    rw [hn]; show asI (ev t y') _ = _
    rw [hm]; show onB (and (kEq k1 k1) (and (reB n) (reB m))) _ _ = _
    rw [hb]
    show (Bool.rec (Bool.rec (k (.s (.i k1 m)) h) (k (.s (.i k1 n)) h) (leF n m) : Ans) (Bool.rec (k (.s (.i k1 n)) h) (k (.s (.i k1 m)) h) (leF n m)) q : Ans) = _
    rw [leF_eq]
    cases q
    · by_cases c : n ≤ m
      · rw [if_neg (by simp), if_neg (by omega)]; simp [c]
      · rw [if_neg (by simp), if_pos (by omega)]; simp [c]
    · by_cases c : n ≤ m
      · by_cases c2 : m > n
        · rw [if_pos rfl, if_pos c2]; simp [c]
        · have : m = n := by omega
          subst this; simp
      · rw [if_pos rfl, if_neg (by omega)]; simp [c]
  refine ⟨_, hev, fun en g a hT => ?_⟩
  have h1 := ev_i hT (x := x) (by simp [ho, Op.operands, Call.operands, ha']) hx hn b2
  have h2 := ev_i hT (x := y) (by simp [ho, Op.operands, Call.operands, ha']) hy hm b3
  have l1 := reB_lt b2
  have l2 := reB_lt b3
  refine ⟨_, .mk _, rfl, fun w => ?_⟩
  cases q
  · have : vl en (if m < n then m else n) = (if m < n then m else n) := vl_lt (by split <;> omega)
    simp [execOp, ho, h1, h2, V.tr, S.tr, resolve, hc, ha', invoke, builtin, run_min_int2, this]
  · have : vl en (if m > n then m else n) = (if m > n then m else n) := vl_lt (by split <;> omega)
    simp only [gt_iff_lt] at this
    simp [execOp, ho, h1, h2, V.tr, S.tr, resolve, hc, ha', invoke, builtin, run_max_int2, this]
theorem capsK_some {Y : Lay} {e : Env} {t : T} {f : Pth → Bool} {a : Act} {Z : Operand → Prop} (hT : OT Y e t f a Z) : ∀ {xs : List Operand} {ys : List O} {cs : List (Pth × Nat)}, (∀ x ∈ xs, Z x) → compXs Y xs = some ys → capsK (evs t ys) = some cs →
    xs.map a.eval = cs.map (fun x => Value.pointer (some (adr e x.1 x.2))) ∧ cs.all (fun x => f x.1) = true
  | [], ys, cs, _, hx, hc => by
    simp only [compXs, Option.some.injEq] at hx; subst hx
    cases hc
    exact ⟨rfl, rfl⟩
  | x :: xs, ys, cs, hS, hx, hc => by
    simp only [compXs] at hx
    cases h1 : compX Y x with
    | none => simp [h1] at hx
    | some y =>
      cases h2 : compXs Y xs with
      | none => simp [h1, h2] at hx
      | some l =>
        simp only [h1, h2, Option.some.injEq] at hx
        subst hx
        obtain ⟨q, n, hq, hc⟩ := asP_some (show asP (ev t y) _ = some cs from hc)
        cases hl : capsK (evs t l) with
        | none =>
          have hc : (Option.casesOn (capsK (evs t l)) none fun l => some ((q, n) :: l) : Option (List (Pth × Nat))) = some cs := hc
          rw [hl] at hc; cases hc
        | some l' =>
          have hc : (Option.casesOn (capsK (evs t l)) none fun l => some ((q, n) :: l) : Option (List (Pth × Nat))) = some cs := hc
          rw [hl] at hc
          cases hc
          obtain ⟨i1, i2⟩ := capsK_some hT (fun x hx => hS x (List.mem_cons_of_mem _ hx)) h2 hl
          obtain ⟨v1, v2⟩ := ev_eq hT (hS x List.mem_cons_self) h1 hq (by simp) rfl
          refine ⟨by simp [v1, i1, V.tr, S.tr], ?_⟩
          simp only [List.all_cons, Bool.and_eq_true]
          exact ⟨v2, i2⟩
theorem pure_mkf {f : FuncId} {first caps : Array Operand} {ys : List O} (ho : o.op = .makeFunc (.func f) first caps) (hfirst : first.toList = []) (hx : compXs Y caps.toList = some ys) : Pure Y P o (.mkf (Pth.of f) ys) := by
  intro cal t h k r hr
  obtain ⟨cs, hcs, hr⟩ := onO_some (show onO (capsK (evs t ys)) _ = some r from hr)
  refine ⟨.s (.fn (Pth.of f) cs), fun cal h k => ?_, fun en g a hT => ?_⟩
  · show onO (capsK (evs t ys)) _ = _
    rw [hcs]; rfl
  have hf : first = #[] := by simpa using hfirst
  obtain ⟨h1, h2⟩ := capsK_some hT (xs := caps.toList) (fun x hx => by simp only [ho, Op.operands, hf]; simpa using hx) hx hcs
  have hcaps : caps.map a.eval = (cs.map fun x => Value.pointer (some (adr en x.1 x.2))).toArray := by
    rw [← h1, ← Array.toList_map, Array.toArray_toList]
  exact ⟨_, .mk _, h2, fun w => by simp [execOp, ho, V.tr, S.tr, Instr.makeFunc, hf, hcaps, Pth.of_n]⟩
theorem pure_mkm {f : FuncId} {first caps : Array Operand} {x : Operand} {y : O} (ho : o.op = .makeFunc (.func f) first caps) (hfirst : first.toList = [x]) (hcaps : caps.toList = []) (hx : compX Y x = some y) : Pure Y P o (.mkm (Pth.of f) y) := by
  have hf : first = #[x] := by rw [← hfirst]
  have hc : caps = #[] := by simpa using hcaps
  intro cal t h k r hr
  cases hv : ev t y with
  | s s =>
    have hr : x_mkm (Pth.of f) y cal t h k = some r := hr
    unfold x_mkm at hr
    rw [hv] at hr
    obtain ⟨q, n, hq, hr⟩ := asP_some (show asP (.s s) _ = some r from hr)
    cases hq
    refine ⟨.s (.fm (Pth.of f) false q n), fun cal h k => ?_, fun en g a hT => ?_⟩
    · show x_mkm (Pth.of f) y cal t h k = _
      unfold x_mkm
      rw [hv]; rfl
    obtain ⟨h1, h2⟩ := ev_eq hT (x := x) (by simp [ho, Op.operands, hf, hc]) hx hv (by simp) rfl
    exact ⟨_, .mk _, h2, fun w => by simp [execOp, ho, V.tr, S.tr, Instr.makeFunc, hf, hc, h1, Pth.of_n]⟩
  | agg l =>
    have hr : x_mkm (Pth.of f) y cal t h k = some r := hr
    unfold x_mkm at hr
    rw [hv] at hr
    cases l with
    | nil => cases hr
    | cons s l =>
      cases l with
      | cons _ _ => cases hr
      | nil =>
        obtain ⟨q, n, hq, hr⟩ := asP_some (show asP (.s s) _ = some r from hr)
        cases hq
        refine ⟨.s (.fm (Pth.of f) true q n), fun cal h k => ?_, fun en g a hT => ?_⟩
        · show x_mkm (Pth.of f) y cal t h k = _
          unfold x_mkm
          rw [hv]; rfl
        obtain ⟨h1, h2⟩ := ev_eq hT (x := x) (by simp [ho, Op.operands, hf, hc]) hx hv (by simp) rfl
        exact ⟨_, .mk _, (by
          have h2 : [S.p q n].all (S.rf g) = true := h2
          have h2 : S.rf g (.p q n) = true := by simpa using h2
          exact h2), fun w => by simp [execOp, ho, V.tr, S.tr, trs, Instr.makeFunc, hf, hc, h1, Pth.of_n]⟩
  | tup _ =>
    have hr : x_mkm (Pth.of f) y cal t h k = some r := hr
    unfold x_mkm at hr
    rw [hv] at hr; cases hr
  | u =>
    have hr : x_mkm (Pth.of f) y cal t h k = some r := hr
    unfold x_mkm at hr
    rw [hv] at hr; cases hr
end
end Go.E
