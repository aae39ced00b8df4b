/- A part of the proof of the claim that the last text of this folder states. -/
import Derived.MapKept
import Derived.WideKeyRuns
import Derived.Test.YtebgbhgehnpahaaGreatDoorL06
namespace Go.E
set_option linter.all false
section
variable {Y : Lay} {P : Program} {o : Oper}
theorem eqI_some {a b : S} {q : Bool} (h : eqI a b = some q) : ∃ k x y, a = .i k x ∧ b = .i k y ∧ reB x = true ∧ reB y = true ∧ q = (x == y) := by
  cases a <;> first | (cases h; done) | skip
  rename_i k x
  cases b <;> first | (cases h; done) | skip
  rename_i k' y
  obtain ⟨hb, h⟩ := onB_t (show onB (and (kEq k k') (and (reB x) (reB y))) (some (eqF x y)) none = some q from h)
  obtain ⟨b1, b2⟩ := and_t hb
  obtain ⟨b2, b3⟩ := and_t b2
  have b1 := kEq_t b1
  subst b1
  have h2 : some (eqF x y) = some q := by assumption
  exact ⟨k, x, y, rfl, rfl, by assumption, by assumption, by rw [← Option.some.inj h2, eqF_eq]; rfl⟩
theorem eqS1_tr {a b : S} (h : eqS1 a b = some true) (e : Env) : a.tr e = b.tr e := by
  cases a <;> first | (cases h; done) | skip
  · cases b <;> first | (cases h; done) | skip
    rename_i x y
    cases x <;> cases y <;> first | rfl | (cases h; done)
  · cases b <;> first | (cases h; done) | skip
    obtain ⟨rfl, hq⟩ := eqS1_i h e
    have := eq_of_beq hq.symm
    simp only [S.tr, this]
theorem eqSs_tr : ∀ {a b : List S}, eqSs a b = some true → ∀ e : Env, a.map (S.tr e) = b.map (S.tr e)
  | [], [], _, _ => rfl
  | x :: a, y :: b, h, e => by
    obtain ⟨p, r, h1, h2, h3⟩ := eqSs_cons h
    have h3 := h3.symm
    simp only [Bool.and_eq_true] at h3
    rw [h3.1] at h1
    rw [h3.2] at h2
    simp [eqS1_tr h1 e, eqSs_tr h2 e]
  | [], _ :: _, h, _ => by cases h
  | _ :: _, [], h, _ => by cases h
theorem stG_out {s : S} {c : List Nat → Option Bool} {q : Bool} (h : stG s none c = some q) : ∃ l, s = .st l ∧ c l = some q := by
  cases s <;> first | exact ⟨_, rfl, h⟩ | cases h
theorem eqK_some {ks : List Bool} {a b : V} {q : Bool} (h : eqK ks a b = some q) : (ks = [] ∧ ∃ x y, a = .s x ∧ b = .s y ∧ eqI x y = some q) ∨ ((∃ k, ks = [k]) ∧ ∃ x y, a = .s (.st x) ∧ b = .s (.st y) ∧ allF bytB x = true ∧ allF bytB y = true ∧ q = natsB x y) ∨ (2 ≤ ks.length ∧ ∃ x y, a = .agg x ∧ b = .agg y ∧ cmpSs ks x y = true ∧ eqSs x y = some q) := by
  cases ks with
  | nil =>
    cases a <;> first | (cases h; done) | skip
    cases b <;> first | (cases h; done) | skip
    exact .inl ⟨rfl, _, _, rfl, rfl, h⟩
  | cons k ks => cases ks with
    | nil =>
      cases a <;> first | (cases h; done) | skip
      cases b <;> first | (cases h; done) | skip
      obtain ⟨x, rfl, h⟩ := stG_out (show stG _ none _ = some q from h)
      obtain ⟨y, rfl, h⟩ := stG_out h
      obtain ⟨h1, h2⟩ := onB_t h
      obtain ⟨h1, h3⟩ := and_t h1
      exact .inr (.inl ⟨⟨k, rfl⟩, x, y, rfl, rfl, h1, h3, (Option.some.inj h2).symm⟩)
    | cons k2 ks =>
      cases a <;> first | (cases h; done) | skip
      cases b <;> first | (cases h; done) | skip
      obtain ⟨h1, h2⟩ := onB_t (show onB (cmpSs (k :: k2 :: ks) _ _) (eqSs _ _) none = some q from h)
      exact .inr (.inr ⟨by simp, _, _, rfl, rfl, h1, h2⟩)
theorem natsB_dec : ∀ a b : List Nat, natsB a b = decide (a = b)
  | [], [] => rfl
  | [], _ :: _ => rfl
  | _ :: _, [] => rfl
  | x :: a, y :: b => by
    show and (Nat.beq x y) (natsB a b) = _
    rw [natsB_dec a b]
    by_cases h : x = y
    · subst h; simp
    · rw [beq_ne h]; simp [h]
theorem ba_eq (a b : ByteArray) : (a == b) = (a.data == b.data) := by cases a; cases b; rfl
theorem st_tr {e : Env} {x y : List Nat} (hx : allF bytB x = true) (hy : allF bytB y = true) (d : TypeDesc) (hd : d = .string) : Instr.sameNow d ((V.s (.st x)).tr e) ((V.s (.st y)).tr e) = some (natsB x y) := by
  subst hd
  rw [natsB_dec]
  show some (_ == _) = some _
  congr 1
  rw [ba_eq]
  by_cases h : x = y
  · subst h; simp
  · have : (⟨(x.map UInt8.ofNat).toArray⟩ : ByteArray) ≠ ⟨(y.map UInt8.ofNat).toArray⟩ := by
      intro c
      apply h
      have c := congrArg (fun b : ByteArray => b.data.toList.map UInt8.toNat) c
      simp only [List.map_map] at c
      have key : ∀ l : List Nat, allF bytB l = true → l.map (UInt8.toNat ∘ UInt8.ofNat) = l := fun l hl => by
        rw [allF_eq, List.all_eq_true] at hl
        conv => rhs; rw [← List.map_id l]
        refine List.map_congr_left fun n hn => ?_
        have : n < 256 := by have := hl n hn; unfold bytB at this; rwa [Nat.blt_eq] at this
        show (UInt8.ofNat n).toNat = n
        simp [UInt8.toNat_ofNat', Nat.mod_eq_of_lt this]
      rw [key x hx, key y hy] at c
      exact c
    simp only [h, decide_false]
    simpa [V.tr, S.tr] using this
theorem eqK_tr {ks : List Bool} {a b : V} (h : eqK ks a b = some true) (e : Env) : a.tr e = b.tr e := by
  rcases eqK_some h with ⟨_, x, y, rfl, rfl, h⟩ | ⟨_, x, y, rfl, rfl, _, _, h⟩ | ⟨_, x, y, rfl, rfl, _, h⟩
  · rename_i hI
    obtain ⟨k, n, m, rfl, rfl, _, _, hq⟩ := eqI_some (by assumption : eqI x y = some true)
    have := eq_of_beq hq.symm
    rw [this]
  · have h : true = natsB x y := by assumption
    rw [natsB_dec] at h
    have : x = y := by simpa using h.symm
    rw [this]
  · simp only [V.tr, trs, eqSs_tr (by assumption : eqSs x y = some true) e]
noncomputable def scan (ks : List Bool) (kv : V) : List ME → Nat → Option (Option (Nat × V))
  | [], _ => some none
  | (a, v, _) :: es, i => match eqK ks kv a with
    | some true => some (some (i, v))
    | some false => scan ks kv es (i + 1)
    | none => none
theorem fndK_scan (ks : List Bool) (kv : V) (fd : V → Ans) (nf : Unit → Ans) : ∀ (es : List ME) (i : Nat), fndK ks kv fd nf es = match scan ks kv es i with
    | some (some (_, v)) => fd v
    | some none => nf ()
    | none => none
  | [], _ => rfl
  | (a, v, b) :: es, i => by
    show onO (eqK ks kv a) (fun q => Bool.casesOn q (fndK ks kv fd nf es) (fd v)) = _
    rw [scan]
    cases h : eqK ks kv a with
    | none => rfl
    | some q => cases q with
      | true => rfl
      | false => exact fndK_scan ks kv fd nf es (i + 1)
theorem keyKs_some {kt : TypeId} {ks : List Bool} (h : keyKs P kt = some ks) : (ks = [] ∧ ∃ k, P.underlying kt = some (.int k)) ∨ (ks = [true] ∧ P.underlying kt = some .string) ∨ (2 ≤ ks.length ∧ ((∃ fs, P.underlying kt = some (.struct fs)) ∨ ∃ n e, P.underlying kt = some (.array n e)) ∧ flat P 20 kt = some ks) := by
  unfold keyKs at h
  split at h
  · rename_i k hu; cases h; exact .inl ⟨rfl, k, hu⟩
  · rename_i hu; cases h; exact .inr (.inl ⟨rfl, hu⟩)
  · rename_i fs hu
    split at h
    · rename_i l hl
      split at h
      · cases h
      · rename_i hg
        cases h
        simp only [Bool.or_eq_true, not_or] at hg
        exact .inr (.inr ⟨by have := hg.2; rw [Nat.ble_eq] at this; omega, .inl ⟨fs, hu⟩, hl⟩)
    · cases h
  · rename_i n e hu
    split at h
    · rename_i l hl
      split at h
      · cases h
      · rename_i hg
        cases h
        simp only [Bool.or_eq_true, not_or] at hg
        exact .inr (.inr ⟨by have := hg.2; rw [Nat.ble_eq] at this; omega, .inr ⟨n, e, hu⟩, hl⟩)
    · cases h
  · cases h
theorem flat_agg {kt : TypeId} {l : List Bool} (hs : (∃ fs, P.underlying kt = some (.struct fs)) ∨ ∃ n e, P.underlying kt = some (.array n e)) (hf : flat P 20 kt = some l) : ∃ k, shapeOf P kt = some (some k) := by
  obtain ⟨m, hm, _, _⟩ := flat_shape hf
  cases hi : P.info? kt with
  | none => simp [shapeOf, hi] at hm
  | some i => rcases hs with ⟨fs, hs⟩ | ⟨n, e, hs⟩ <;> exact ⟨i.size, by simp [shapeOf, hi, hs]⟩
theorem scan_find {kt : TypeId} {ks : List Bool} (hk : keyKs P kt = some ks) {kv : V} {es : List ME} {r : Option (Nat × V)} (h : scan ks kv es 0 = some r) (e : Env) (w : World) :
    (Instr.findKey kt (kv.tr e) (es.map (entT e))).run P w = .ok (r.map fun x => (x.1, x.2.tr e)) w := by
  have keyN : ∀ (d : TypeDesc), (∀ a q, eqK ks kv a = some q → Instr.sameNow d (kv.tr e) (a.tr e) = some q) → ∀ (es : List ME) (i : Nat) (r : Option (Nat × V)), scan ks kv es i = some r → Instr.findNow d (kv.tr e) (es.map (entT e)) i = some (r.map fun x => (x.1, x.2.tr e)) := fun d hd es => by
    induction es with
    | nil => intro i r h; cases h; rfl
    | cons x es ih =>
      obtain ⟨a, v, b⟩ := x
      intro i r h
      rw [scan] at h
      cases hq : eqK ks kv a with
      | none => rw [hq] at h; cases h
      | some q =>
        rw [hq] at h
        have hint := hd a q hq
        cases q with
        | true => cases h; simp [Instr.findNow, entT, hint]
        | false => simp only [List.map_cons, Instr.findNow, entT, hint]; exact ih (i + 1) r h
  rcases keyKs_some hk with ⟨hn, k, hu⟩ | ⟨hn, hu⟩ | ⟨hn, hs, hf⟩
  · refine MapKept.run_findKey hu (keyN (.int k) (fun a q hq => ?_) es 0 r h)
    rcases eqK_some hq with ⟨_, x, y, rfl, rfl, hi⟩ | ⟨⟨_, hne⟩, _⟩ | ⟨hne, _⟩
    · obtain ⟨k', n, m, rfl, rfl, h1, h2, h3⟩ := eqI_some hi
      have : k' = k' := rfl
      simp only [V.tr, S.tr, reB_vl e h1, reB_vl e h2, Instr.sameNow, if_true, h3]
    · rw [hn] at hne; cases hne
    · rw [hn] at hne; exact absurd hne (by simp)
  · refine MapKept.run_findKey hu (keyN .string (fun a q hq => ?_) es 0 r h)
    rcases eqK_some hq with ⟨hne, _⟩ | ⟨_, x, y, rfl, rfl, h1, h2, rfl⟩ | ⟨hne, _⟩
    · rw [hn] at hne; cases hne
    · exact st_tr h1 h2 _ rfl
    · rw [hn] at hne; exact absurd hne (by simp)
  · obtain ⟨sz, hsz⟩ := flat_agg hs hf
    have hwide : (match P.underlying kt with | some (.array _ _) | some (.struct _) => true | _ => false) = true := by rcases hs with ⟨fs, hs⟩ | ⟨n, el, hs⟩ <;> rw [hs]
    rw [run_findKey_eq w hwide]
    have key : ∀ (es : List ME) (i : Nat) (r : Option (Nat × V)), scan ks kv es i = some r → (Instr.findAsking kt (kv.tr e) (es.map (entT e)) i).run P w = .ok (r.map fun x => (x.1, x.2.tr e)) w := fun es => by
      induction es with
      | nil => intro i r h; cases h; simp [Instr.findAsking]
      | cons x es ih =>
        obtain ⟨a, v, b⟩ := x
        intro i r h
        rw [scan] at h
        cases hq : eqK ks kv a with
        | none => rw [hq] at h; cases h
        | some q =>
          rw [hq] at h
          have heq : (Op.equal kt (kv.tr e) (a.tr e)).run P w = .ok q w := by
            rcases eqK_some hq with ⟨h0, _⟩ | ⟨⟨_, h0⟩, _⟩ | ⟨_, x, y, rfl, rfl, hc, hs⟩
            · rw [h0] at hn; exact absurd hn (by simp)
            · rw [h0] at hn; exact absurd hn (by simp)
            · have := eqFlat 20 kt ks (some sz) 10000 w e x y q hf hsz (by omega) hc hs
              exact this
          cases q with
          | true => cases h; simp [Instr.findAsking, entT, heq]
          | false =>
            simp only [List.map_cons, Instr.findAsking, entT, Sem.run_bind, heq, Result.andThen_ok, Bool.false_eq_true, if_false]
            exact ih (i + 1) r h
    exact key es 0 r h
theorem run_ck_flat (em : Bool) (w : World) (e : Env) : ∀ (d : Nat) (T : TypeId) (l : List Bool) (m : Option Nat) (D : Nat) (xs : List S), flat P d T = some l → shapeOf P T = some m → d ≤ D → xs.length = l.length → (∀ x ∈ xs, (∃ k n, x = .i k n) ∨ ∃ b, x = .b b) →
    (Instr.checkKey em D T (repr e m xs)).run P w = .ok () w
  | 0, T, l, m, D, xs, h, _, _, _, _ => by simp [flat] at h
  | d + 1, T, l, m, D, xs, h, hm, hD, hx, hk => by
    obtain ⟨D, rfl⟩ : ∃ D', D = D' + 1 := ⟨D - 1, by omega⟩
    have IH := run_ck_flat em w e d
    have hsub : ∀ {o n : Nat}, (∀ x ∈ sub xs o n, (∃ k n, x = .i k n) ∨ ∃ b, x = .b b) := fun {o n} x hx => hk x (List.mem_of_mem_drop (List.mem_of_mem_take hx))
    unfold flat at h
    split at h
    · rename_i i k hi hu
      split at h
      · cases h
        obtain rfl : m = none := by simp only [shapeOf, hi, hu, Option.some.injEq] at hm; exact hm.symm
        simp [Instr.checkKey, run_underlying hu]
      · cases h
    · rename_i i hi hu
      split at h
      · cases h
        obtain rfl : m = none := by simp only [shapeOf, hi, hu, Option.some.injEq] at hm; exact hm.symm
        simp [Instr.checkKey, run_underlying hu]
      · cases h
    · rename_i i fs hi hu
      split at h
      · cases h
      · split at h
        · rename_i m' hm'
          split at h
          · rename_i he
            cases h
            obtain rfl : m = some i.size := by simp only [shapeOf, hi, hu, Option.some.injEq] at hm; exact hm.symm
            simp only [repr]
            rw [Instr.checkKey]
            simp only [Sem.run_bind, run_underlying hu, Result.andThen_ok]
            rw [← Array.forIn_toList]
            obtain ⟨L, hL⟩ : ∃ L, fs.toList = L := ⟨_, rfl⟩
            rw [hL] at hm' ⊢
            refine (?_ : ∀ (o : Nat) (l : List Bool), flatFs (flat P d) L o = some l → o + l.length ≤ xs.length → _) 0 _ hm' (by omega)
            clear hL hm'
            induction L with
            | nil => intro o l _ _; simp
            | cons f L ih =>
              intro o l hf ho
              simp only [flatFs] at hf
              split at hf
              · rename_i hno
                obtain ⟨hname, hoff⟩ := hno
                cases hmm : flat P d f.type with
                | none => simp [hmm] at hf
                | some k =>
                  cases hr : flatFs (flat P d) L (o + k.length) with
                  | none => simp [hmm, hr] at hf
                  | some l' =>
                    simp only [hmm, hr, Option.some.injEq] at hf
                    subst hf
                    simp only [List.length_append] at ho
                    obtain ⟨mm, hsm, p1⟩ := run_part_flat hmm w e xs o (by omega)
                    have p2 := IH f.type k mm D (sub xs o k.length) hmm hsm (by omega) (sub_length (by omega)) hsub
                    subst hoff
                    simp only [List.forIn_cons, Sem.run_bind, hname, ne_eq, not_false_eq_true, if_true, Result.andThen_ok, p1, p2, Sem.run_pure]
                    exact ih (f.offset + k.length) l' hr (by omega)
              · cases hf
          · cases h
        · cases h
    · rename_i i a el hi hu
      split at h
      · rename_i k hk'
        split at h
        · rename_i he
          cases h
          obtain rfl : m = some i.size := by simp only [shapeOf, hi, hu, Option.some.injEq] at hm; exact hm.symm
          simp only [repr]
          rw [Instr.checkKey]
          obtain ⟨me, hme, _, _, hcell⟩ := flat_shape hk'
          have hie : ∃ ie, P.info? el = some ie := by
            unfold shapeOf at hme; split at hme <;> first | exact ⟨_, by assumption⟩ | cases hme
          obtain ⟨ie, hie⟩ := hie
          have hsz : (sizeOf el).run P w = .ok k.length w := by
            have : ie.size = k.length := by simpa [Program.cellsOf, hie] using hcell
            simp [sizeOf, typeInfo, hie, this]
          simp only [Sem.run_bind, run_underlying hu, Result.andThen_ok]
          simp only [Std.Legacy.Range.forIn_eq_forIn_range', Std.Legacy.Range.size, Nat.sub_zero, Nat.add_one_sub_one, Nat.div_one]
          have hrep : ∀ n, (rep k n).length = n * k.length := fun n => by
            induction n with
            | zero => simp [rep]
            | succ n ih => simp only [rep, List.length_append, ih, Nat.add_mul, Nat.one_mul]; omega
          rw [hrep] at hx
          refine (?_ : ∀ (i : Nat), i * k.length + a * k.length ≤ xs.length → ((forIn (List.range' i a) _ _ : Sem _).run P w).andThen _ = _) 0 (by omega)
          clear he hi hu hx hm
          induction a with
          | zero => intro i _; simp
          | succ len ih =>
            intro i hle
            rw [Nat.add_mul, Nat.one_mul] at hle
            obtain ⟨mm, hsm, p1⟩ := run_part_flat hk' w e xs (i * k.length) (by omega)
            have p2 := IH el k mm D (sub xs (i * k.length) k.length) hk' hsm (by omega) (sub_length (by omega)) hsub
            simp only [List.range'_succ, List.forIn_cons, Sem.run_bind, hsz, Result.andThen_ok, p1, p2, Sem.run_pure]
            exact ih (i + 1) (by rw [Nat.add_mul, Nat.one_mul]; omega)
        · cases h
      · cases h
    · cases h
end
section
variable {Y : Lay} {P : Program} {o : Oper}
theorem stG_true {s : S} {c : List Nat → Bool} (h : stG s false c = true) : ∃ l, s = .st l ∧ c l = true := by
  cases s <;> first | exact ⟨_, rfl, h⟩ | cases h
theorem keyB_some {ks : List Bool} {v : V} (h : keyB ks v = true) : (ks = [] ∧ ∃ k n, v = .s (.i k n) ∧ reB n = true) ∨ ((∃ k, ks = [k]) ∧ ∃ l, v = .s (.st l)) ∨ (2 ≤ ks.length ∧ ∃ x, v = .agg x ∧ cmpSs ks x x = true) := by
  cases ks with
  | nil =>
    cases v <;> first | (cases h; done) | skip
    rename_i s
    cases s <;> first | (cases h; done) | skip
    exact .inl ⟨rfl, _, _, rfl, h⟩
  | cons k ks => cases ks with
    | nil =>
      cases v <;> first | (cases h; done) | skip
      obtain ⟨l, rfl, _⟩ := stG_true (show stG _ false _ = true from h)
      exact .inr (.inl ⟨⟨k, rfl⟩, l, rfl⟩)
    | cons k2 ks =>
      cases v <;> first | (cases h; done) | skip
      exact .inr (.inr ⟨by simp, _, rfl, h⟩)
theorem keyB_nU {ks : List Bool} {v : V} (h : keyB ks v = true) : v.nU = true ∧ v ≠ .u := by
  rcases keyB_some h with ⟨_, k, n, rfl, hn⟩ | ⟨_, l, rfl⟩ | ⟨_, x, rfl, _⟩
  · exact ⟨reB_kn hn, by simp⟩
  · exact ⟨rfl, by simp⟩
  · exact ⟨rfl, by simp⟩
theorem cmpSs_kinds : ∀ {ks : List Bool} {x : List S}, cmpSs ks x x = true → ∀ s ∈ x, (∃ k n, s = .i k n) ∨ ∃ b, s = .b b
  | [], [], _, s, hs => by cases hs
  | k :: ks, y :: x, h, s, hs => by
    obtain ⟨h1, h2⟩ := cmpSs_cons h
    rcases List.mem_cons.1 hs with rfl | hs
    · rcases h1 with ⟨_, j, m, n, rfl, _⟩ | ⟨_, p, q, rfl, _⟩
      · exact .inl ⟨_, _, rfl⟩
      · exact .inr ⟨_, rfl⟩
    · exact cmpSs_kinds h2 s hs
  | [], _ :: _, h, _, _ => by cases h
  | _ :: _, [], h, _, _ => by cases h
theorem ck_int {kt : TypeId} {k : IntKind} (hu : P.underlying kt = some (.int k)) (em : Bool) (d : Nat) (v : Value) (w : World) : (Instr.checkKey em (d + 1) kt v).run P w = .ok () w := by
  simp [Instr.checkKey, run_underlying hu]
theorem ck_str {kt : TypeId} (hu : P.underlying kt = some .string) (em : Bool) (d : Nat) (v : Value) (w : World) : (Instr.checkKey em (d + 1) kt v).run P w = .ok () w := by
  simp [Instr.checkKey, run_underlying hu]
theorem ck_run {kt : TypeId} {ks : List Bool} (hk : keyKs P kt = some ks) {kv : V} (h : keyB ks kv = true) (em : Bool) (e : Env) (w : World) : (Instr.checkKey em 10000 kt (kv.tr e)).run P w = .ok () w := by
  rcases keyKs_some hk with ⟨_, k, hu⟩ | ⟨_, hu⟩ | ⟨hn, hs, hf⟩
  · exact ck_int hu em 9999 _ w
  · exact ck_str hu em 9999 _ w
  · rcases keyB_some h with ⟨h0, _⟩ | ⟨⟨_, h0⟩, _⟩ | ⟨hne, x, rfl, hc⟩
    · rw [h0] at hn; exact absurd hn (by simp)
    · rw [h0] at hn; exact absurd hn (by simp)
    · obtain ⟨sz, hsz⟩ := flat_agg hs hf
      exact run_ck_flat em w e 20 kt ks (some sz) 10000 x hf hsz (by omega) (cmpSs_length hc).1 (cmpSs_kinds hc)
theorem ofV_nU {v : Value} {x : V} (h : ofV v = some x) : x.nU = true := by
  have hs : (ofS v).map V.s = some x → x.nU = true := fun h => by
    cases h1 : ofS v with
    | none => simp [h1] at h
    | some s =>
      simp only [h1, Option.map_some, Option.some.injEq] at h
      subst h
      exact (ofS_tr h1 ⟨fun _ => (0, 0), fun _ => 0, fun _ => 0, 0, fun _ _ _ => True⟩).2.2
  unfold ofV at h
  split at h
  · rename_i cs
    cases h1 : ofSs cs.toList with
    | none => simp [h1] at h
    | some l => simp only [h1, Option.map_some, Option.some.injEq] at h; subst h; rfl
  · exact hs h
theorem zeroV_run {T : TypeId} {z : V} (h : zeroV P T = some z) (e : Env) (w : World) : (zeroValue T).run P w = .ok (z.tr e) w ∧ ∀ f, z.rf f = true := by
  unfold zeroV at h
  split at h
  · rename_i i hi
    split at h
    · rename_i v hz
      have := ofV_tr h e
      exact ⟨by simp [zeroValue, typeInfo, hi, hz, this.1], this.2⟩
    · cases h
  · cases h
theorem toC_out {v : V} {c : C → Ans} {r : RES} (h : v.toC c = some r) : ∃ x : C, c x = some r ∧ (∀ c, v.toC c = c x) ∧ v.nU = true ∧ v ≠ .u ∧ (∀ e : Env, x.tr e = v.tr e) ∧ ∀ f, v.rf f = true → x.rf f = true := by
  cases v with
  | s x =>
    obtain ⟨hn, h⟩ := onB_t (show onB (nU x) (c (.s x)) none = some r from h)
    refine ⟨.s x, h, fun c => ?_, hn, by simp, fun _ => rfl, fun f hf => V.rf_s' hf hn⟩
    show onB (nU x) (c (.s x)) none = _
    rw [hn]; rfl
  | agg xs => exact ⟨.agg xs, h, fun _ => rfl, rfl, by simp, fun _ => rfl, fun f hf => hf⟩
  | tup cs => cases h
  | u => cases h
theorem lkR_out {ok : Bool} {v : V} {q : Bool} {h : Hp} {k : KV} {r : RES} (hr : lkR ok v q h k = some r) : ∃ u, (∀ h k, lkR ok v q h k = k u h) ∧ ∀ e f, v.rf f = true → v.nU = true → u.rf f = true ∧ Isu e u (if ok then .tuple #[v.tr e, .bool q] else v.tr e) := by
  cases ok with
  | false => exact ⟨v, fun _ _ => rfl, fun e f hf hn => ⟨hf, .mk _⟩⟩
  | true =>
    obtain ⟨x, h1, h2, h3, h4, h5, h6⟩ := toC_out (show v.toC (fun c => k (.tup [c, .s (.b q)]) h) = some r from hr)
    refine ⟨.tup [x, .s (.b q)], fun h k => h2 (fun c => k (.tup [c, .s (.b q)]) h), fun e f hf hn => ⟨?_, .inr (.inl ?_)⟩⟩
    · show (C.rf f x && (C.rf f (.s (.b q)) && true)) = true
      rw [h6 f hf]; rfl
    · simp only [V.tr, if_true, List.map_cons, List.map_nil, h5 e]; rfl
theorem scan_mem {ks : List Bool} {kv : V} : ∀ {es : List ME} {i j : Nat} {v : V}, scan ks kv es i = some (some (j, v)) → ∃ a b, i ≤ j ∧ es[j - i]? = some (a, v, b) ∧ eqK ks kv a = some true
  | [], i, j, v, h => by cases h
  | (a, v', b) :: es, i, j, v, h => by
    rw [scan] at h
    cases hq : eqK ks kv a with
    | none => rw [hq] at h; cases h
    | some q =>
      rw [hq] at h
      cases q with
      | true => cases h; exact ⟨a, b, Nat.le_refl _, by simp, hq⟩
      | false =>
        obtain ⟨a', b', h1, h2, h3⟩ := scan_mem (i := i + 1) h
        refine ⟨a', b', by omega, ?_, h3⟩
        rw [show j - i = (j - (i + 1)) + 1 by omega]
        exact h2
theorem V.nU_rk {v : V} {f : Pth → Bool} (h : v.rk f = true) : v.nU = true := by
  cases v with
  | s x => cases x <;> first | rfl | exact h
  | _ => rfl
def gotV (z : V) : Option (Nat × V) → V × Bool
  | some (_, v) => (v, true)
  | none => (z, false)
theorem fnd_out {ks : List Bool} {kv z : V} {ok : Bool} {h : Hp} {k : KV} {es : List ME} {r : RES} (hr : fndK ks kv (fun v => lkR ok v true h k) (fun _ => lkR ok z false h k) es = some r) :
    ∃ sr, scan ks kv es 0 = some sr ∧ lkR ok (gotV z sr).1 (gotV z sr).2 h k = some r ∧ ∀ h k, fndK ks kv (fun v => lkR ok v true h k) (fun _ => lkR ok z false h k) es = lkR ok (gotV z sr).1 (gotV z sr).2 h k := by
  rw [fndK_scan _ _ _ _ es 0] at hr
  cases hsc : scan ks kv es 0 with
  | none => rw [hsc] at hr; cases hr
  | some sr =>
    rw [hsc] at hr
    refine ⟨sr, rfl, ?_, fun h k => ?_⟩
    · rcases sr with _ | ⟨j, v⟩ <;> exact hr
    · rw [fndK_scan _ _ _ _ es 0, hsc]
      rcases sr with _ | ⟨j, v⟩ <;> rfl
theorem lkB_some {b : B} {c : List ME → Ans} {d : List (V × V) → Ans} {r : RES} (h : lkB b c d = some r) : (∃ es ck, b = .mp es ck ∧ c es = some r) ∨ ∃ es, b = .ml es ∧ d es = some r := by
  cases b <;> first | exact .inl ⟨_, _, rfl, h⟩ | exact .inr ⟨_, rfl, h⟩ | cases h
theorem e_lkB (es : List ME) (ck : Nat) (c : List ME → Ans) (d : List (V × V) → Ans) : lkB (.mp es ck) c d = c es := rfl
theorem uniK_all {ks : List Bool} {kv : V} : ∀ {es : List (V × V)} {r : Option V}, uniK ks kv es = some r → (∀ x ∈ es, eqK ks kv x.1 = some false ∨ (eqK ks kv x.1 = some true ∧ r = some x.2)) ∧ (r ≠ none → ∃ x ∈ es, eqK ks kv x.1 = some true)
  | [], r, h => by
    cases h
    exact ⟨fun x hx => (by cases hx), fun h => absurd rfl h⟩
  | (a, v) :: es, r, h => by
    obtain ⟨b, hb, h1⟩ := onO_some (show onO (eqK ks kv a) (fun b => onO (uniK ks kv es) fun r => Bool.rec (some r) (Option.rec (some (some v)) (fun _ => none) r) b) = some r from h)
    obtain ⟨r0, hr0, h2⟩ := onO_some h1
    obtain ⟨i1, i2⟩ := uniK_all hr0
    cases b with
    | false =>
      cases h2
      refine ⟨fun x hx => ?_, fun hn => ?_⟩
      · rcases List.mem_cons.1 hx with rfl | hx
        · exact .inl hb
        · exact i1 x hx
      · obtain ⟨x, k1, k2⟩ := i2 hn
        exact ⟨x, List.mem_cons_of_mem _ k1, k2⟩
    | true =>
      cases r0 with
      | some _ => cases h2
      | none =>
        cases h2
        refine ⟨fun x hx => ?_, fun _ => ⟨_, List.mem_cons_self, hb⟩⟩
        rcases List.mem_cons.1 hx with rfl | hx
        · exact .inr ⟨hb, rfl⟩
        · rcases i1 x hx with k | ⟨_, k⟩
          · exact .inl k
          · cases k
theorem scan_all {ks : List Bool} {kv : V} {r : Option V} : ∀ {l : List ME} (i : Nat), (∀ x ∈ l, eqK ks kv x.1 = some false ∨ (eqK ks kv x.1 = some true ∧ r = some x.2.1)) → ((∃ x ∈ l, eqK ks kv x.1 = some true) ∨ r = none) → ∃ sr, scan ks kv l i = some sr ∧ sr.map (·.2) = r
  | [], i, h1, h2 => by
    rcases h2 with ⟨x, hx, _⟩ | h2
    · cases hx
    · exact ⟨none, rfl, by rw [h2]; rfl⟩
  | (a, v, b) :: l, i, h1, h2 => by
    rw [scan]
    rcases h1 _ List.mem_cons_self with h | ⟨h, hr⟩
    · rw [h]
      refine scan_all (i + 1) (fun x hx => h1 x (List.mem_cons_of_mem _ hx)) ?_
      rcases h2 with ⟨x, hx, k⟩ | h2
      · rcases List.mem_cons.1 hx with rfl | hx
        · rw [h] at k; cases k
        · exact .inl ⟨x, hx, k⟩
      · exact .inr h2
    · rw [h]
      exact ⟨some (i, v), rfl, hr.symm⟩
theorem uniK_scan {ks : List Bool} {kv : V} {es : List (V × V)} {r : Option V} (h : uniK ks kv es = some r) {l : List ME} (hp : (l.map fun x => (x.1, x.2.1)).Perm es) : ∃ sr, scan ks kv l 0 = some sr ∧ sr.map (·.2) = r := by
  obtain ⟨h1, h2⟩ := uniK_all h
  refine scan_all 0 (fun x hx => h1 _ (hp.mem_iff.1 (List.mem_map.2 ⟨x, hx, rfl⟩))) ?_
  cases r with
  | none => exact .inr rfl
  | some v =>
    obtain ⟨x, k1, k2⟩ := h2 (by simp)
    obtain ⟨y, k3, rfl⟩ := List.mem_map.1 (hp.mem_iff.2 k1)
    exact .inl ⟨y, k3, k2⟩
theorem looks_lk {T kt et : TypeId} {m key : Operand} {m' k' : O} {ok : Bool} {ks : List Bool} {z : V} (ho : o.op = .lookup T m key ok) (hu : P.underlying T = some (.map kt et)) (hz : zeroV P et = some z) (hk : keyKs P kt = some ks)
    (hm : compX Y m = some m') (hkey : compX Y key = some k') : Looks Y P o (.lk ok ks z m' k') := by
  intro cal t h k r hr
  obtain ⟨hkb, hr⟩ := onB_t (show onB (keyB ks (ev t k')) _ none = some r from hr)
  obtain ⟨s, hs, hr⟩ := asS_some (show asS (ev t m') _ = some r from hr)
  obtain ⟨knU, kne⟩ := keyB_nU hkb
  have hzn : ∀ e : Env, ∀ w : World, z.nU = true := fun e w => by
    unfold zeroV at hz
    split at hz
    · split at hz
      · exact ofV_nU hz
      · cases hz
    · cases hz
  cases s <;> first | (cases hr; done) | skip
  · rename_i q
    rcases lkB_some (show lkB (h.gb q) _ _ = some r from hr) with ⟨es, ck, hg, hr⟩ | ⟨es, hg, hr⟩
    rotate_left
    · obtain ⟨ur, hur, hr⟩ := onO_some hr
      obtain ⟨u, u1, u2⟩ := lkR_out (v := ur.getD z) (q := ur.isSome) (ok := ok) (h := h) (k := k) (r := r) (by cases ur <;> exact hr)
      refine ⟨u, fun cal k => ?_, fun e a w hT H => ?_⟩
      · show onB (keyB ks (ev t k')) _ none = _
        rw [hkb, e_t, hs, e_asS]
        show lkB (h.gb q) _ _ = _
        rw [hg]
        show onO (uniK ks (ev t k') es) _ = _
        rw [hur]
        have := u1 h k
        cases ur <;> exact this
      obtain ⟨e1, e2⟩ := ev_eq hT (x := m) (by simp [ho, Op.operands]) hm hs (by simp) rfl
      obtain ⟨k1, k2⟩ := ev_eq hT (x := key) (by simp [ho, Op.operands]) hkey rfl kne knU
      obtain ⟨g1, g2⟩ := H.gb (r := q) e2
      rw [hg] at g1 g2
      obtain ⟨l, ck, g1, gp⟩ := g1
      obtain ⟨sr, hsc, hsu⟩ := uniK_scan hur gp
      have hrf : (ur.getD z).rf (Pth.ok h.n.n) = true ∧ (ur.getD z).nU = true := by
        rcases sr with _ | ⟨j, v⟩
        · rw [← hsu]; exact ⟨(zeroV_run hz e w).2 _, hzn e w⟩
        · obtain ⟨a, b, _, hm, _⟩ := scan_mem hsc
          rw [← hsu]
          simp only [B.ok, B.rf, List.all_eq_true, Bool.and_eq_true] at g2
          have := (g2 _ (gp.mem_iff.1 (List.mem_map.2 ⟨_, List.mem_of_getElem? hm, rfl⟩))).2
          exact ⟨V.rk_rf this, V.nU_rk this⟩
      obtain ⟨i1, i2⟩ := u2 e (Pth.ok h.n.n) hrf.1 hrf.2
      have c1 := fun em => ck_run hk hkb em e w
      have c2 := scan_find hk hsc e w
      refine ⟨_, i2, i1, ?_⟩
      have hz1 := (zeroV_run hz e w).1
      have e1 : a.eval m = .map (some (e.σ q).1) := e1
      rcases sr with _ | ⟨j, v⟩
      · simp only [Option.map_none] at c2
        rw [← hsu]
        cases ok <;> simp [execOp, ho, e1, k1, Instr.lookup, run_underlying hu, MapKept.run_getObj_map g1, c1, c2, hz1]
      · simp only [Option.map_some] at c2
        rw [← hsu]
        cases ok <;> simp [execOp, ho, e1, k1, Instr.lookup, run_underlying hu, MapKept.run_getObj_map g1, c1, c2]
    obtain ⟨sr, hsc, hr, hf⟩ := fnd_out hr
    obtain ⟨u, u1, u2⟩ := lkR_out hr
    refine ⟨u, fun cal k => ?_, fun e a w hT H => ?_⟩
    · show onB (keyB ks (ev t k')) _ none = _
      rw [hkb, e_t, hs, e_asS]
      show lkB (h.gb q) _ _ = _
      rw [hg, e_lkB, hf, u1]
    obtain ⟨e1, e2⟩ := ev_eq hT (x := m) (by simp [ho, Op.operands]) hm hs (by simp) rfl
    obtain ⟨k1, k2⟩ := ev_eq hT (x := key) (by simp [ho, Op.operands]) hkey rfl kne knU
    obtain ⟨g1, g2⟩ := H.gb (r := q) e2
    rw [hg] at g1 g2
    have g1 : w.heap[(e.σ q).1]? = some (.map (es.map (entT e)).toArray ck) := g1
    have hrf : (gotV z sr).1.rf (Pth.ok h.n.n) = true ∧ (gotV z sr).1.nU = true := by
      rcases sr with _ | ⟨j, v⟩
      · exact ⟨(zeroV_run hz e w).2 _, hzn e w⟩
      · obtain ⟨a, b, _, hm, _⟩ := scan_mem hsc
        simp only [B.ok, B.rf, List.all_eq_true, Bool.and_eq_true] at g2
        have := (g2 _ (List.mem_of_getElem? hm)).2
        exact ⟨V.rk_rf this, V.nU_rk this⟩
    obtain ⟨i1, i2⟩ := u2 e (Pth.ok h.n.n) hrf.1 hrf.2
    have c1 := fun em => ck_run hk hkb em e w
    have c2 := scan_find hk hsc e w
    refine ⟨_, i2, i1, ?_⟩
    have hz1 := (zeroV_run hz e w).1
    have e1 : a.eval m = .map (some (e.σ q).1) := e1
    rcases sr with _ | ⟨j, v⟩
    · simp only [Option.map_none] at c2
      cases ok <;> simp [execOp, ho, e1, k1, Instr.lookup, run_underlying hu, MapKept.run_getObj_map g1, c1, c2, gotV, hz1]
    · simp only [Option.map_some] at c2
      cases ok <;> simp [execOp, ho, e1, k1, Instr.lookup, run_underlying hu, MapKept.run_getObj_map g1, c1, c2, gotV]
  · obtain ⟨u, u1, u2⟩ := lkR_out (show lkR ok z false h k = some r from hr)
    refine ⟨u, fun cal k => ?_, fun e a w hT H => ?_⟩
    · show onB (keyB ks (ev t k')) _ none = _
      rw [hkb, e_t, hs, e_asS]
      exact u1 h k
    obtain ⟨e1, e2⟩ := ev_eq hT (x := m) (by simp [ho, Op.operands]) hm hs (by simp) rfl
    obtain ⟨k1, k2⟩ := ev_eq hT (x := key) (by simp [ho, Op.operands]) hkey rfl kne knU
    have hz1 := zeroV_run hz e w
    obtain ⟨i1, i2⟩ := u2 e (Pth.ok h.n.n) (hz1.2 _) (hzn e w)
    have c1 := ck_run hk hkb true e w
    have c2 := scan_find hk (show scan ks (ev t k') [] 0 = some none from rfl) e w
    refine ⟨_, i2, i1, ?_⟩
    have e1 : a.eval m = .map none := e1
    simp only [List.map_nil, Option.map_none] at c2
    have c1' : (Instr.checkKey (#[] : Array MapEntry).isEmpty 10000 kt ((ev t k').tr e)).run P w = .ok () w := c1
    simp only [execOp, ho, e1, k1, Instr.lookup, Sem.run_bind, run_underlying hu, Result.andThen_ok, Sem.run_pure, c1', c2, hz1.1]
end
section
variable {Y : Lay} {P : Program} {o : Oper}
theorem itK_some {b : B} {c : Option Pth → Nat → List Nat → Nat → Ans} {r : RES} (h : itK b c = some r) : ∃ m s l n, b = .it m s l n ∧ c m s l n = some r := by
  cases b <;> first | exact ⟨_, _, _, _, rfl, h⟩ | cases h
theorem e_itK (m : Option Pth) (s : Nat) (l : List Nat) (n : Nat) (c : Option Pth → Nat → List Nat → Nat → Ans) : itK (.it m s l n) c = c m s l n := rfl
theorem lastN_eq : ∀ l : List Nat, lastN l = l.getLast?
  | [] => rfl
  | [x] => rfl
  | x :: y :: l => by
    show lastN (y :: l) = _
    rw [lastN_eq (y :: l)]; simp
theorem bornK_out {b : Nat} {c : V → V → Ans} : ∀ {es : List ME} {r : RES}, bornK b c es = some r → ∃ a v, (a, v, b) ∈ es ∧ c a v = some r ∧ (∀ c, bornK b c es = c a v) ∧ ∀ e : Env, (es.map (entT e)).find? (fun x => x.born == b) = some (entT e (a, v, b))
  | [], r, h => by cases h
  | (a, v, b') :: es, r, h => by
    have h : (Bool.rec (bornK b c es) (c a v) (Nat.beq b' b) : Ans) = some r := h
    cases hb : Nat.beq b' b with
    | true =>
      rw [hb] at h
      obtain rfl := nat_eq hb
      refine ⟨a, v, List.mem_cons_self, h, fun c => ?_, fun e => by simp [entT]⟩
      show (Bool.rec (bornK b' c es) (c a v) (Nat.beq b' b') : Ans) = _
      rw [hb]
    | false =>
      rw [hb] at h
      obtain ⟨a', v', h1, h2, h3, h4⟩ := bornK_out (es := es) h
      refine ⟨a', v', List.mem_cons_of_mem _ h1, h2, fun c => ?_, fun e => ?_⟩
      · show (Bool.rec (bornK b c es) (c a v) (Nat.beq b' b) : Ans) = _
        rw [hb]; exact h3 c
      · have : (b' == b) = false := by
          cases hq : (b' == b) with
          | false => rfl
          | true => have := eq_of_beq hq; subst this; simp at hb
        have hne : ¬ b' = b := by intro e; rw [e] at this; simp at this
        simp only [List.map_cons, List.find?_cons, entT, this]
        exact h4 e
theorem adr0 {e : Env} {r : Pth} (h : (e.σ r).2 = 0) : adr e r 0 = ⟨(e.σ r).1, 0, none⟩ := by simp [adr, h]
theorem looks_ent {x : Operand} {y : O} (ho : o.op = .entry x) (hx : compX Y x = some y) : Looks Y P o (.ent y) := by
  intro cal t h k r hr
  obtain ⟨q, off, hq, r1⟩ := asP_some (show asP (ev t y) _ = some r from hr)
  obtain ⟨h0, r2⟩ := onB_t r1
  obtain ⟨m, since, seen, last, hg, r3⟩ := itK_some r2
  obtain ⟨m, rfl, r4⟩ := onO_some r3
  obtain ⟨es, ck, hm, r5⟩ := mpK_some r4
  obtain ⟨hck, r6⟩ := onB_t r5
  obtain ⟨b, hb, r7⟩ := onO_some r6
  obtain ⟨a, v, hin, r8, hbk, hfind⟩ := bornK_out r7
  obtain ⟨ca, r9, ha2, ha3, ha4, ha5, ha6⟩ := toC_out r8
  obtain ⟨cv, r10, hv2, hv3, hv4, hv5, hv6⟩ := toC_out r9
  have hoff := nat_eq h0
  have hlast := nat_eq hck
  clear hr r1 r2 r3 r4 r5 r6 r7 r8 r9 r10
  subst hoff
  subst hlast
  refine ⟨.tup [ca, cv], fun cal k => ?_, fun e a' w hT H => ?_⟩
  · show asP (ev t y) _ = _
    rw [hq, e_asP]
    show onB (Nat.beq 0 0) _ none = _
    rw [h0, e_t, hg, e_itK, e_o, hm, e_mpK, hck, e_t, hb, e_o, hbk, ha2, hv2]
  obtain ⟨e1, e2⟩ := ev_eq hT (x := x) (by simp [ho, Op.operands]) hx hq (by simp) rfl
  obtain ⟨g1, g2⟩ := H.gb (r := q) e2
  rw [hg] at g1 g2
  obtain ⟨g0, g1⟩ := g1
  have g2 : m.ok h.n.n = true := g2
  obtain ⟨m1, m2⟩ := H.gb (r := m) g2
  rw [hm] at m1 m2
  have m1 : w.heap[(e.σ m).1]? = some (.map (es.map (entT e)).toArray ck) := m1
  simp only [B.ok, B.rf, List.all_eq_true, Bool.and_eq_true] at m2
  have m3 := m2 _ hin
  refine ⟨.tuple #[a.tr e, v.tr e], .inr (.inl ?_), ?_, ?_⟩
  · simp only [V.tr, List.map_cons, List.map_nil, ha5, hv5]
  · show (C.rf _ ca && (C.rf _ cv && true)) = true
    rw [ha6 _ (V.rk_rf m3.1), hv6 _ (V.rk_rf m3.2)]; rfl
  · have e1 : a'.eval x = .pointer (some ⟨(e.σ q).1, 0, none⟩) := by rw [← adr0 g0]; exact e1
    have hbk2 : seen.toArray.back? = some b := by rw [lastN_eq] at hb; simpa using hb
    have hf2 : (es.map (entT e)).toArray.find? (fun x => x.born == b) = some (entT e (a, v, b)) := by simpa using hfind e
    have hgo : (getObj (e.σ q).1).run P w = .ok (.mapIter (some (e.σ m).1) since seen.toArray ck) w := by
      have g1 : w.heap[(e.σ q).1]? = some (.mapIter (some (e.σ m).1) since seen.toArray ck) := g1
      simp [getObj, Sem.run, g1]
    simp only [execOp, ho, e1, Instr.entry, Sem.run_bind, hgo, Result.andThen_ok, hbk2, MapKept.run_getObj_map m1, bne_self_eq_false, Bool.false_eq_true, if_false, hf2]
    simp [entT]
end
structure AgrF (f : Pth → Bool) (e e' : Env) : Prop where
  σ : ∀ r, f r = true → e'.σ r = e.σ r
  δ : ∀ r, f r = true → e'.δ r = e.δ r
  ρ : e'.ρ = e.ρ
  β : e'.β = e.β
section
variable {f : Pth → Bool} {e e' : Env} (A : AgrF f e e')
include A
theorem AgrF.s {s : S} (h : s.rf f = true) : s.tr e' = s.tr e := by
  cases s with
  | i k x => simp only [S.tr, vl, A.ρ, A.β]
  | p r o => simp only [S.tr, adr, A.σ r h]
  | sl r o a c => simp only [S.tr, adr, cpT, A.σ r h, A.δ r h]
  | fn g cs =>
    simp only [S.rf, List.all_eq_true] at h
    simp only [S.tr]
    congr 2
    exact List.map_congr_left fun x hx => by simp only [adr, A.σ x.1 (h x hx)]
  | fm g q r o => simp only [S.tr, adr, A.σ r h]
  | mp r => simp only [S.tr, A.σ r h]
  | yl r => simp only [S.tr, A.σ r h]
  | _ => rfl
theorem AgrF.trs {xs : List S} (h : xs.all (S.rf f) = true) : E.trs e' xs = E.trs e xs := by
  simp only [List.all_eq_true] at h
  simp only [E.trs]
  rw [List.map_congr_left fun x hx => A.s (h x hx)]
theorem AgrF.c {c : C} (h : c.rf f = true) : c.tr e' = c.tr e := by
  cases c with
  | s x => exact A.s h
  | agg xs => simp only [C.tr, A.trs h]
theorem AgrF.v {v : V} (h : v.rf f = true) : v.tr e' = v.tr e := by
  cases v with
  | s x =>
    rcases V.rf_iff.1 h with (⟨k, n, rfl⟩ | rfl) | h
    · simp only [V.tr, S.tr, vl, A.ρ, A.β]
    · rfl
    · exact A.s h
  | agg xs => simp only [V.tr, A.trs h]
  | tup cs =>
    simp only [V.rf, List.all_eq_true] at h
    simp only [V.tr]
    congr 2
    exact List.map_congr_left fun x hx => A.c (h x hx)
  | u => rfl
end
theorem lay_agrF {e : Env} {f : Pth → Bool} {p : Pth} (hp : f p = false) (x : Nat × Nat) (d : Nat) : AgrF f e (e.lay p x d) := by
  have : ∀ r, f r = true → r ≠ p := fun r hr c => by rw [c, hp] at hr; cases hr
  exact ⟨fun r hr => if_neg (this r hr), fun r hr => if_neg (this r hr), rfl, rfl⟩
structure More (w w' : World) : Prop where
  size : w'.heap.size = w.heap.size + 1
  old : ∀ b, b < w.heap.size → w'.heap[b]? = w.heap[b]?
  os : w'.os = w.os
  tape : w'.tape = w.tape
  output : w'.output = w.output
theorem More.alloc (w : World) (o : Obj) : More w (w.alloc o) :=
  ⟨by simp, fun b hb => Go.RowKit.Below.heap_alloc _ _ _ hb, rfl, rfl, rfl⟩
theorem okB_c {e : Env} {w : World} {p : Pth} {cs : List S} {T : TypeId} (d : Nat) (h : (e.lay p (w.heap.size, 0) d).σ p = (w.heap.size, 0)) (ht : trs (e.lay p (w.heap.size, 0) d) cs = trs e cs) :
    OkB (e.lay p (w.heap.size, 0) d) (w.alloc (.cells (trs e cs) T)) p (.c cs) := by
  have hadr : ∀ i, adr (e.lay p (w.heap.size, 0) d) p i = ⟨w.heap.size, i, none⟩ := fun i => by simp [adr, h]
  refine ⟨by rw [h]; simp, fun i s hi => ?_, fun i hi => ?_⟩
  · rw [hadr, World.cell?_alloc_new, ← ht, trs_get, hi]; rfl
  · rw [hadr, World.cell?_alloc_new, World.frozen?_alloc_new]
    refine ⟨?_, rfl⟩
    rw [Array.getElem?_eq_getElem (by rw [trs_size]; exact hi)]; rfl
def Makes (Y : Lay) (P : Program) (o : Oper) (op : J) : Prop :=
  ∀ cal t h k r, exJ op cal t h k = some r → ∃ (v : Pth → V) (x : B), (∀ cal h k, exJ op cal t h k = k (v h.n) (h.push x)) ∧ x ≠ .dd ∧ (∀ p f, f p = true → (v p).rf f = true) ∧
    ∀ e f a, OT Y e t f a (· ∈ o.op.operands) → x.rf f = true ∧ ∀ w p, f p = false → ∃ y w' d, (execOp a.eval o).run P w = .ok (.value y) w' ∧ More w w' ∧ Is (e.lay p (w.heap.size, 0) d) (v p) y ∧ OkB (e.lay p (w.heap.size, 0) d) w' p x
section
variable {Y : Lay} {P : Program} {o : Oper}
theorem lay_adr (e : Env) (p : Pth) (n d i : Nat) : adr (e.lay p (n, 0) d) p i = ⟨n, i, none⟩ := by simp [adr, lay_σ]
theorem makes_new {T : TypeId} {z : List S} (ho : o.op = .alloc T) (hz : zeroOf P T = some z) : Makes Y P o (.new z) := by
  intro cal t h k r hr
  refine ⟨fun p => .s (.p p 0), .c z, fun cal h k => Hp.pushK_eq h _ _, by simp, fun p f hf => hf, fun e f a hT => ?_⟩
  obtain ⟨i, v, hi, hiz, hcells, hvz, _⟩ := zeroOf_run hz e
  refine ⟨hvz f, fun w p hp => ⟨.pointer (some ⟨w.heap.size, 0, none⟩), w.alloc (.cells (trs e z) T), 0, ?_, .alloc _ _, .inl ?_, ?_⟩⟩
  · simp [execOp, ho, Instr.alloc, zeroValue, typeInfo, hi, hiz, newVar, newRow, hcells]
  · simp only [V.tr, S.tr, lay_adr]
  · exact okB_c 0 (lay_σ _ _ _ _) ((lay_agrF hp _ _).trs (hvz f))
theorem makes_box {T : TypeId} {x : Operand} {y : O} (ho : o.op = .box T x) (hx : compX Y x = some y) : Makes Y P o (.box y) := by
  intro cal t h k r hr
  obtain ⟨k1, k2, k3, k4⟩ := asC_out (show asC (ev t y) (fun vs => h.pushK (.c vs) fun h' => k (.s (.p h.n 0)) h') = some r from hr)
  refine ⟨fun p => .s (.p p 0), .c (ev t y).cs, fun cal h k => (k4 (fun vs => h.pushK (.c vs) fun h' => k (.s (.p h.n 0)) h')).trans (Hp.pushK_eq h _ _), by simp, fun p f hf => hf, fun e f a hT => ?_⟩
  obtain ⟨e1, e2⟩ := ev_eq hT (x := x) (by simp [ho, Op.operands]) hx rfl (pl_u k1) (pl_nU k1 k2)
  have hcs := cs_rf k1 k2 e2
  refine ⟨hcs, fun w p hp => ⟨.pointer (some ⟨w.heap.size, 0, none⟩), w.alloc (.cells (trs e (ev t y).cs) T), 0, ?_, .alloc _ _, .inl ?_, ?_⟩⟩
  · simp [execOp, ho, Instr.box, newVar, newRow, e1, cells_tr k1 e]
  · simp only [V.tr, S.tr, lay_adr]
  · exact okB_c 0 (lay_σ _ _ _ _) ((lay_agrF hp _ _).trs hcs)
theorem makes_mkmap {T : TypeId} (ho : o.op = .makeMap T none) : Makes Y P o .mkmap := by
  intro cal t h k r hr
  refine ⟨fun p => .s (.mp p), .mp [] 0, fun cal h k => Hp.pushK_eq h _ _, by simp, fun p f hf => hf, fun e f a hT => ⟨rfl, fun w p hp => ⟨.map (some w.heap.size), w.alloc (.map #[] 0), 0, ?_, .alloc _ _, .inl ?_, ?_⟩⟩⟩
  · simp [execOp, ho, Instr.makeMap]
  · simp only [V.tr, S.tr, lay_σ]
  · show (w.alloc (.map #[] 0)).heap[((e.lay p (w.heap.size, 0) 0).σ p).1]? = _
    rw [lay_σ]
    exact (MapKept.heap_alloc w _).1
theorem zerosS_length (z : List S) : ∀ n, (zerosS z n).length = n * z.length
  | 0 => by simp [zerosS_zero]
  | n + 1 => by rw [zerosS_succ, List.length_append, zerosS_length z n, Nat.add_mul]; omega
theorem zerosL_eq (z : List S) : ∀ n, compI.zerosL z n = zerosS z n
  | 0 => rfl
  | n + 1 => by rw [compI.zerosL, zerosL_eq z n, zerosS_succ]
theorem zerosS_get (z : List S) (hz : z ≠ []) : ∀ (n j : Nat), j < n * z.length → (zerosS z n)[j]? = z[j % z.length]?
  | 0, j, h => by simp at h
  | n + 1, j, h => by
    rw [zerosS_succ]
    have hl : 0 < z.length := List.length_pos_iff.2 hz
    by_cases hj : j < z.length
    · rw [List.getElem?_append_left hj, Nat.mod_eq_of_lt hj]
    · rw [List.getElem?_append_right (by omega), zerosS_get z hz n (j - z.length) (by rw [Nat.add_mul] at h; omega)]
      congr 1
      rw [Nat.mod_eq_sub_mod (by omega : j ≥ z.length)]
theorem zerosS_trs (e : Env) (z : List S) (hz : z ≠ []) (n : Nat) : (Array.range (n * z.length)).map (fun j => (trs e z)[j % (trs e z).size]!) = trs e (zerosS z n) := by
  have hl : 0 < z.length := List.length_pos_iff.2 hz
  apply Array.ext
  · simp [trs, zerosS_length]
  · intro j h1 h2
    simp only [Array.size_map, Array.size_range] at h1
    have hg := zerosS_get z hz n j h1
    have hm : j % z.length < z.length := Nat.mod_lt _ hl
    have h3 : j < (zerosS z n).length := by rw [zerosS_length]; exact h1
    rw [List.getElem?_eq_getElem h3, List.getElem?_eq_getElem hm] at hg
    simp only [Option.some.injEq] at hg
    simp only [Array.getElem_map, Array.getElem_range, trs_size]
    rw [getElem!_pos _ _ (by rw [trs_size]; exact hm)]
    simp [trs, hg]
theorem zerosS_rf {z : List S} {f : Pth → Bool} (hz : z.all (S.rf f) = true) : ∀ n, (zerosS z n).all (S.rf f) = true
  | 0 => by rw [zerosS_zero]; rfl
  | n + 1 => by rw [zerosS_succ, List.all_append, hz, zerosS_rf hz n]; rfl
theorem makes_bsl {T el : TypeId} {n : Nat} {parts : Array (Nat × Operand)} {i : TypeInfo} {z : List S} {qs : List (Nat × Nat × O)} (ho : o.op = .buildSlice T n parts)
    (hu : P.underlying T = some (.slice el)) (hi : P.info? el = some i) (hz : zeroOf P el = some z) (hn24 : n * i.size ≤ 2 ^ 24) (hsz : i.size ≠ 0)
    (hq : partsOf Y (fun j => some (j * i.size, i.size)) parts.toList = some qs) : Makes Y P o (.bsl n (compI.zerosL z n) qs) := by
  rw [zerosL_eq]
  intro cal t h k r hr
  obtain ⟨z', h1, h2, _, h3⟩ := fill_out (place' := fun j => some (j * i.size, i.size)) (fun _ _ h => h) hq (show fillK t qs (zerosS z n) _ = some r from hr)
  have hnG : n < G := by
    have : n * 1 ≤ n * i.size := Nat.mul_le_mul_left _ (by omega)
    unfold G; omega
  refine ⟨fun p => .s (.sl p 0 n n), .c z', fun cal h k => (h2 _).trans (Hp.pushK_eq h _ _), by simp, fun p f hf => hf, fun e f a hT => ?_⟩
  obtain ⟨k, v, hk, hiz, hcells, hvz, hzl⟩ := zeroOf_run hz e
  have hki : k = i := by rw [hk] at hi; cases hi; rfl
  rw [hki] at hk hiz hzl
  clear hki
  have hzne : z ≠ [] := by intro e; rw [e] at hzl; simp at hzl; omega
  obtain ⟨f1, f2⟩ := h3 hT (fun x hx => by simp only [ho, Op.operands]; simp; exact ⟨x.1, by simpa using hx⟩) (zerosS_rf (hvz f) n)
  refine ⟨f2, fun w p hp => ⟨.slice (some ⟨w.heap.size, 0, none⟩) n n, w.alloc (.cells (trs e z') el), 0, ?_, .alloc _ _, .inl ?_, ?_⟩⟩
  · have h24 : ¬ (2 ^ 24 < n * i.size) := by omega
    by_cases h0 : n * i.size = 0
    · have hn0 : n = 0 := by rcases Nat.mul_eq_zero.1 h0 with h | h; exact h; exact absurd h hsz
      subst hn0
      have f1' : Instr.fill (fun j => some (j * i.size, i.size)) #[] (parts.toList.map fun x => (x.1, a.eval x.2)) = some (trs e z') := f1
      simp [execOp, ho, Instr.buildSlice, run_underlying hu, sizeOf, typeInfo, hi, f1', newRow, Array.range_zero']
    · have f1' := f1
      rw [← zerosS_trs e z hzne n, hzl] at f1'
      simp [execOp, ho, Instr.buildSlice, run_underlying hu, sizeOf, typeInfo, hi, h24, h0, zeroValue, hiz, hcells, f1', newRow]
  · simp only [V.tr, S.tr, lay_adr, cpT, if_pos hnG]
  · exact okB_c 0 (lay_σ _ _ _ _) ((lay_agrF hp _ _).trs f2)
end
end Go.E
