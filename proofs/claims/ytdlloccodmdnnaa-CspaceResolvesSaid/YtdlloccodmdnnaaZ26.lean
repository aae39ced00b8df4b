/- The arguments of a statement: what is read of them becomes values over read-only blocks; behind the call they read as before. -/
import Derived.Test.YtdlloccodmdnnaaZ25
import Derived.Test.YtdlloccodmdnnaaZ22
import Derived.Test.YtdlloccodmdnnaaZ10
import Derived.Deep.Slices
import Derived.ChangeSame
import Derived.ReadAgain
import Derived.RowKit3
import Derived.OpenShut
import Derived.SizedLaws
/- The machine's memory: plain facts of what is laid, filled, copied. -/
namespace Go.Proofs.Ytdlloccodmdnnaa
open Go.D
set_option linter.all false
set_option maxRecDepth 100000
set_option maxHeartbeats 4000000

theorem M.at_lay : ∀ (vs : List Int) (m : M) (o : Nat) (j : Int), (∀ v, v ∈ vs → u64 v) → (m.lay o vs).at j = if o ≤ j.toNat ∧ j.toNat < o + vs.length ∧ j.toNat < m.w.length then nth 0 vs (j.toNat - o) else m.at j
  | [], m, o, j, _ => by rw [M.lay, if_neg (by simp only [List.length_nil]; omega)]
  | v :: vs, m, o, j, hu => by
    rw [M.lay, M.at_lay vs (m.put o v) (o + 1) j (fun x hx => hu x (List.mem_cons_of_mem _ hx)), M.at_put, M.put_len, List.length_cons]
    by_cases h1 : o + 1 ≤ j.toNat ∧ j.toNat < o + 1 + vs.length ∧ j.toNat < m.w.length
    · rw [if_pos h1, if_pos (by omega), show j.toNat - o = (j.toNat - (o + 1)) + 1 by omega]; rfl
    · rw [if_neg h1]
      by_cases h2 : o = j.toNat ∧ o < m.w.length
      · rw [if_pos h2, if_pos (by omega), show j.toNat - o = 0 by omega]
        exact uw_of (hu v (by simp))
      · rw [if_neg h2, if_neg (by omega)]
theorem M.at_part {m : M} {x k i : Nat} (h : i < k) : nth 0 (m.part x k) i = m.at ((x + i : Nat) : Int) := by
  rw [nth_part h]; simp only [M.at, Int.toNat_natCast]
theorem M.at_copy (m : M) (x y k : Nat) (j : Int) (hx : x + k ≤ m.w.length) (hy : y + k ≤ m.w.length) : (m.copy x y k).at j = if y ≤ j.toNat ∧ j.toNat < y + k then m.at ((x + (j.toNat - y) : Nat) : Int) else m.at j := by
  rw [M.copy, M.at_tick, M.at_lay _ _ _ _ M.part_u, M.part_len hx]
  by_cases h : y ≤ j.toNat ∧ j.toNat < y + k
  · rw [if_pos (by omega), if_pos h, M.at_part (by omega)]
  · rw [if_neg (by omega), if_neg h]
theorem M.copy_len (m : M) (x y k : Nat) : (m.copy x y k).w.length = m.w.length := by rw [M.copy, M.tick_len, M.lay_len]
theorem M.copy_n (m : M) (x y k : Nat) : (m.copy x y k).n = IntKind.i64.wrap (m.n + 2 * (k : Int)) := by rw [M.copy]; simp only [M.tick, M.lay_n]
theorem M.fill_at (m : M) (a : Nat) (x : Int) (j : Int) (k : Nat) (h : a + k ≤ m.w.length) : (m.fill a x k).at j = if a ≤ j.toNat ∧ j.toNat < a + k then uw x else m.at j := by
  rw [M.at_fill]
  by_cases h1 : a ≤ j.toNat ∧ j.toNat < a + k
  · rw [if_pos (by omega), if_pos h1]
  · rw [if_neg (by omega), if_neg h1]
theorem M.tick_wrap (m : M) (j k : Int) : (m.tick j).n = IntKind.i64.wrap (m.n + j) := rfl
theorem wrap_add (a b c : Int) : IntKind.i64.wrap (IntKind.i64.wrap (a + b) + c) = IntKind.i64.wrap (a + (b + c)) := by
  rw [IntKind.wrap_i64, IntKind.wrap_i64, IntKind.wrap_i64]; omega
/-- Words alone. -/
theorem M.w_ext {m k : M} (hl : m.w.length = k.w.length) (h : ∀ i : Nat, i < m.w.length → m.at i = k.at i) : m.w = k.w := by
  refine List.ext_getElem hl fun i h1 h2 => ?_
  have := h i h1
  simp only [M.at, Int.toNat_natCast, nth_eq h1, nth_eq h2] at this
  exact this
/-- Halves. -/
theorem M.fill_halves {m : M} {a c k : Nat} {x : Int} (hk : c ≤ k) (h : a + k ≤ m.w.length) : ((((m.fill a x c).tick c).fill (a + c) x (k - c)).tick ((k - c : Nat) : Int)).w = ((m.fill a x k).tick k).w ∧ ((((m.fill a x c).tick c).fill (a + c) x (k - c)).tick ((k - c : Nat) : Int)).n = ((m.fill a x k).tick k).n := by
  refine ⟨M.w_ext (by simp only [M.tick_len, M.fill_len]) fun i hi => ?_, ?_⟩
  · simp only [M.tick_len, M.fill_len] at hi
    rw [M.at_tick, M.at_tick, M.fill_at _ _ _ _ _ (by rw [M.tick_len, M.fill_len]; omega), M.at_tick, M.fill_at _ _ _ _ _ (by omega), M.fill_at _ _ _ _ _ h]
    simp only [Int.toNat_natCast]
    by_cases h1 : a + c ≤ i ∧ i < a + c + (k - c)
    · rw [if_pos h1, if_pos (by omega)]
    · rw [if_neg h1]
      by_cases h2 : a ≤ i ∧ i < a + c
      · rw [if_pos h2, if_pos (by omega)]
      · rw [if_neg h2, if_neg (by omega)]
  · simp only [M.tick, M.fill_n]
    rw [wrap_add]
    congr 1; omega
theorem M.copy_halves {m : M} {x y c k : Nat} (hk : c ≤ k) (hx : x + k ≤ m.w.length) (hy : y + k ≤ m.w.length) (ha : y + k ≤ x ∨ x + k ≤ y) :
    ((m.copy x y c).copy (x + c) (y + c) (k - c)).w = (m.copy x y k).w ∧ ((m.copy x y c).copy (x + c) (y + c) (k - c)).n = (m.copy x y k).n := by
  refine ⟨M.w_ext (by simp only [M.copy_len]) fun i hi => ?_, ?_⟩
  · rw [M.at_copy _ _ _ _ _ (by rw [M.copy_len]; omega) (by rw [M.copy_len]; omega), M.at_copy _ _ _ _ _ (by omega) (by omega), M.at_copy _ _ _ _ _ (by omega) (by omega), M.at_copy _ _ _ _ _ hx hy]
    simp only [Int.toNat_natCast]
    by_cases h1 : y + c ≤ i ∧ i < y + c + (k - c)
    · rw [if_pos h1, if_neg (by omega), if_pos (by omega)]
      congr 2; omega
    · rw [if_neg h1]
      by_cases h2 : y ≤ i ∧ i < y + c
      · rw [if_pos h2, if_pos (by omega)]
      · rw [if_neg h2, if_neg (by omega)]
  · rw [M.copy_n, M.copy_n, M.copy_n, wrap_add]
    congr 1; omega

/-! ### the specs without choices -/
def M.copyE (m : M) (x y k : Int) : Int := if m.has x k && m.has y k then 0 else 20
def M.copyX (m : M) (x y k : Int) : M := if m.has x k && m.has y k then m.copy x.toNat y.toNat k.toNat else m
def M.fillE (m : M) (x k : Int) : Int := if m.has x k then 0 else 20
def M.fillX (m : M) (x k v : Int) : M := if m.has x k then (m.fill x.toNat v k.toNat).tick k else m
def M.readE (m : M) (x : Int) : Int := if m.has x 1 then 0 else 20
def M.readV (m : M) (x : Int) : Int := if m.has x 1 then m.at x else 0
def M.readX (m : M) (x : Int) : M := if m.has x 1 then m.tick 1 else m
def M.writeX (m : M) (x v : Int) : M := if m.has x 1 then (m.put x.toNat v).tick 1 else m
def copy2M (b : Nat) (m : M) (st : M → List Blk) : List V → Res
  | [.s (.i .i64 x), .s (.i .i64 y), .s (.i .i64 k)] => .ok (.s (.i .i64 (m.copyE x y k))) [] (st (m.copyX x y k))
  | _ => .bad
noncomputable def copy2G := memF copy2M
def fill2M (b : Nat) (m : M) (st : M → List Blk) : List V → Res
  | [.s (.i .i64 x), .s (.i .i64 k), .s (.i .u64 v)] => .ob (u64 v) (.ok (.s (.i .i64 (m.fillE x k))) [] (st (m.fillX x k v)))
  | _ => .bad
noncomputable def fill2G := memF fill2M
def read2M (b : Nat) (m : M) (st : M → List Blk) : List V → Res
  | [.s (.i .i64 x)] => .ok (.tup [.s (.i .u64 (m.readV x)), .s (.i .i64 (m.readE x))]) [] (st (m.readX x))
  | _ => .bad
noncomputable def read2G := memF read2M
def write2M (b : Nat) (m : M) (st : M → List Blk) : List V → Res
  | [.s (.i .i64 x), .s (.i .u64 v)] => .ob (u64 v) (.ok (.s (.i .i64 (m.readE x))) [] (st (m.writeX x v)))
  | _ => .bad
noncomputable def write2G := memF write2M
theorem fill2_snd : Snd Try.prog 38 (FSpec.of fill2G) := mfill_snd.weaken fun args h K hc hS => by
  obtain ⟨a, b, m, rest, rfl, H, hS1⟩ := memF_spec hS
  unfold fill2M at hS1
  split at hS1
  · obtain ⟨hv, hS1⟩ := hS1
    simp only [spec_ok, M.fillE, M.fillX] at hS1
    show Res.spec K (fillG _ h)
    rw [fillG, memF_eq H]
    simp only [fillM, spec_ob, spec_br, spec_ok]
    exact ⟨hv, fun e => by simpa only [e, if_true] using hS1, fun e => by simpa only [e, Bool.false_eq_true, if_false] using hS1⟩
  · exact hS1.elim
theorem read2_snd : Snd Try.prog 70 (FSpec.of read2G) := mread_snd.weaken fun args h K hc hS => by
  obtain ⟨a, b, m, rest, rfl, H, hS1⟩ := memF_spec hS
  unfold read2M at hS1
  split at hS1
  · simp only [spec_ok, M.readE, M.readX, M.readV] at hS1
    show Res.spec K (readG _ h)
    rw [readG, memF_eq H]
    simp only [readM, spec_br, spec_ok]
    exact ⟨fun e => by simpa only [e, if_true] using hS1, fun e => by simpa only [e, Bool.false_eq_true, if_false] using hS1⟩
  · exact hS1.elim
theorem rread2_snd : Snd Try.prog 100 (FSpec.of read2G) := rread_snd.weaken fun args h K hc hS => by
  obtain ⟨a, b, m, rest, rfl, H, hS1⟩ := memF_spec hS
  unfold read2M at hS1
  split at hS1
  · simp only [spec_ok, M.readE, M.readX, M.readV] at hS1
    show Res.spec K (readG _ h)
    rw [readG, memF_eq H]
    simp only [readM, spec_br, spec_ok]
    exact ⟨fun e => by simpa only [e, if_true] using hS1, fun e => by simpa only [e, Bool.false_eq_true, if_false] using hS1⟩
  · exact hS1.elim
theorem write2_snd : Snd Try.prog 78 (FSpec.of write2G) := mwrite_snd.weaken fun args h K hc hS => by
  obtain ⟨a, b, m, rest, rfl, H, hS1⟩ := memF_spec hS
  unfold write2M at hS1
  split at hS1
  · obtain ⟨hv, hS1⟩ := hS1
    simp only [spec_ok, M.readE, M.writeX] at hS1
    show Res.spec K (writeG _ h)
    rw [writeG, memF_eq H]
    simp only [writeM, spec_ob, spec_br, spec_ok]
    exact ⟨hv, fun e => by simpa only [e, if_true] using hS1, fun e => by simpa only [e, Bool.false_eq_true, if_false] using hS1⟩
  · exact hS1.elim
theorem rwrite2_snd : Snd Try.prog 91 (FSpec.of write2G) := rwrite_snd.weaken fun args h K hc hS => by
  obtain ⟨a, b, m, rest, rfl, H, hS1⟩ := memF_spec hS
  unfold write2M at hS1
  split at hS1
  · obtain ⟨hv, hS1⟩ := hS1
    simp only [spec_ok, M.readE, M.writeX] at hS1
    show Res.spec K (writeG _ h)
    rw [writeG, memF_eq H]
    simp only [writeM, spec_ob, spec_br, spec_ok]
    exact ⟨hv, fun e => by simpa only [e, if_true] using hS1, fun e => by simpa only [e, Bool.false_eq_true, if_false] using hS1⟩
  · exact hS1.elim
end Go.Proofs.Ytdlloccodmdnnaa

/- The machine's memory: the document's Copy and Dump. -/
namespace Go.Proofs.Ytdlloccodmdnnaa
open Go.D
set_option linter.all false
set_option maxRecDepth 100000
set_option maxHeartbeats 4000000

/-- So many words of a part, then noughts. -/
def M.pz (m : M) (x q k : Nat) : List Int := m.part x q ++ List.replicate (k - q) 0
theorem M.pz_len {m : M} {x q k : Nat} (h : x + k ≤ m.w.length) (hq : q ≤ k) : (m.pz x q k).length = k := by
  rw [M.pz, List.length_append, M.part_len (by omega), List.length_replicate]; omega
theorem M.pz_0 (m : M) (x k : Nat) : m.pz x 0 k = List.replicate k 0 := by simp [M.pz, M.part]
theorem M.pz_all (m : M) (x k : Nat) : m.pz x k k = m.part x k := by simp [M.pz]
theorem M.part_snoc {m : M} {x q : Nat} (h : x + q < m.w.length) : m.part x (q + 1) = m.part x q ++ [m.at ((x + q : Nat) : Int)] := by
  unfold M.part
  rw [List.take_succ_eq_append_getElem (by simp; omega)]
  simp only [List.getElem_drop, M.at, Int.toNat_natCast, nth_eq h]
theorem M.pz_set {m : M} {x q k : Nat} (h : x + k ≤ m.w.length) (hq : q < k) : (wc (m.pz x q k)).set q (.i .u64 (m.at ((x + q : Nat) : Int))) = wc (m.pz x (q + 1) k) := by
  rw [wc_set]
  congr 1
  unfold M.pz
  have hl := M.part_len (m := m) (x := x) (k := q) (by omega)
  rw [List.set_append_right _ _ (by omega), hl, Nat.sub_self, M.part_snoc (by omega), show k - q = (k - (q + 1)) + 1 by omega, List.replicate_succ, List.set_cons_zero]
  simp

end Go.Proofs.Ytdlloccodmdnnaa

/- Memories and lists among a law's own blocks: the heap is what was there, and blocks behind it, one by one. -/
namespace Go.Proofs.Ytdlloccodmdnnaa
open Go.D
set_option linter.all false
set_option maxRecDepth 100000
set_option maxHeartbeats 4000000

theorem n21 {a : Nat} : a + 2 + 1 = a + 3 := rfl
theorem n22 {a : Nat} : a + 2 + 2 = a + 4 := rfl
theorem n41 {a : Nat} : a + 4 + 1 = a + 5 := rfl
theorem nnn {a : Nat} (n k : Nat) : a + n + k = a + (n + k) := Nat.add_assoc _ _ _
theorem nlt0 {a k : Nat} : (a < a + k) = (0 < k) := by simp
theorem nltn {a j k : Nat} : (a + j < a + k) = (j < k) := by simp
section
variable {h X : List Blk} {A B : Blk} {m : M}
theorem at0_is : IsMem (h ++ (MB (h.length + 1) m :: MW m :: X)) h.length (h.length + 1) m := by
  refine ⟨by omega, ?_, ?_⟩
  · rw [app_get0]; rfl
  · rw [app_getn]; rfl
theorem at0_set (m' : M) : setM (h ++ (MB (h.length + 1) m :: MW m :: X)) h.length (h.length + 1) m' = h ++ (MB (h.length + 1) m' :: MW m' :: X) := by
  simp only [setM]
  rw [app_set0, app_setn]; rfl
theorem at2_is : IsMem (h ++ (A :: B :: MB (h.length + 3) m :: MW m :: X)) (h.length + 2) (h.length + 3) m := by
  refine ⟨by omega, ?_, ?_⟩
  · rw [app_getn]; rfl
  · rw [app_getn]; rfl
theorem at2_set (m' : M) : setM (h ++ (A :: B :: MB (h.length + 3) m :: MW m :: X)) (h.length + 2) (h.length + 3) m' = h ++ (A :: B :: MB (h.length + 3) m' :: MW m' :: X) := by
  simp only [setM]
  rw [app_setn, app_setn]; rfl
theorem memF_0 {f : Nat → M → (M → List Blk) → List V → Res} {rest : List V} : memF f (.s (.p (.g h.length) 0) :: rest) (h ++ (MB (h.length + 1) m :: MW m :: X)) = f (h.length + 1) m (fun m => h ++ (MB (h.length + 1) m :: MW m :: X)) rest := by
  rw [memF_eq at0_is, funext at0_set]
theorem memF_2 {f : Nat → M → (M → List Blk) → List V → Res} {rest : List V} : memF f (.s (.p (.g (h.length + 2)) 0) :: rest) (h ++ (A :: B :: MB (h.length + 3) m :: MW m :: X)) = f (h.length + 3) m (fun m => h ++ (A :: B :: MB (h.length + 3) m :: MW m :: X)) rest := by
  rw [memF_eq at2_is, funext at2_set]
theorem memAt_0 : memOf (h ++ (MB (h.length + 1) m :: MW m :: X)) h.length = some (h.length + 1, m) := memOf_eq at0_is
theorem memAt_2 : memOf (h ++ (A :: B :: MB (h.length + 3) m :: MW m :: X)) (h.length + 2) = some (h.length + 3, m) := memOf_eq at2_is
theorem MB_vals {b n k : Nat} (hb : b < n) : vals n k (MB b m).cells = true := by simp [MB, vals, S.val, R.val, hb]
theorem clean_nil {n : Nat} : clean n [] = true := by rfl
theorem clean_cons {n : Nat} {B : Blk} {X : List Blk} : clean n (B :: X) = (vals n 0 B.cells && clean n X) := by rfl
theorem clean_h {n : Nat} {X : List Blk} (hc : clean h.length h = true) (hn : h.length ≤ n) : clean n (h ++ X) = clean n X := by
  have : clean n h = true := by
    simp only [clean, List.all_eq_true] at hc ⊢
    exact fun x hx => vals_mono hn (Nat.le_refl _) (hc x hx)
  simp only [clean] at this ⊢
  rw [List.all_append, this, Bool.true_and]
theorem vals_MB {n k j : Nat} : vals (h.length + n) k (MB (h.length + j) m).cells = decide (j < n) := by
  simp [MB, vals, S.val, R.val]
theorem vals_wc {n k : Nat} {w : List Int} : vals n k (wc w) = true := wc_vals _ _ _
theorem vals_nil {n k : Nat} : vals n k [] = true := by rfl
theorem vals_cons {n k : Nat} {s : S} {l : List S} : vals n k (s :: l) = (s.val n k && vals n k l) := by rfl
theorem MW_vals {n k : Nat} : vals n k (MW m).cells = true := wc_vals _ _ _
theorem app_len {X : List Blk} : (h ++ X).length = h.length + X.length := List.length_append
end

/-- A spec by the form of the arguments and the heap. -/
noncomputable def shape {α : Type} (pat : α → List V × List Blk) (ok : α → Prop) (res : α → Res) (args : List V) (h : List Blk) : Res :=
  open Classical in if hx : ∃ a, pat a = (args, h) ∧ ok a then res (Classical.choose hx) else .bad
theorem shape_eq {α : Type} {pat : α → List V × List Blk} {ok : α → Prop} {res : α → Res} (inj : ∀ a b, pat a = pat b → ok a → ok b → res a = res b) {args : List V} {h : List Blk} (a : α) (e : pat a = (args, h)) (ha : ok a) : shape pat ok res args h = res a := by
  have hx : ∃ a, pat a = (args, h) ∧ ok a := ⟨a, e, ha⟩
  unfold shape
  rw [dif_pos hx]
  have := Classical.choose_spec hx
  exact inj _ _ (this.1.trans e.symm) this.2 ha
theorem shape_spec {α : Type} {pat : α → List V × List Blk} {ok : α → Prop} {res : α → Res} {args : List V} {h : List Blk} {K : V → List Blk → Prop} (hS : (shape pat ok res args h).spec K) : ∃ a, pat a = (args, h) ∧ ok a ∧ (res a).spec K := by
  unfold shape at hS
  split at hS
  · rename_i hx
    have := Classical.choose_spec hx
    exact ⟨_, this.1, this.2, hS⟩
  · exact hS.elim
theorem app_inj {α : Type} {h h' X X' : List α} (e : h ++ X = h' ++ X') (hl : h.length = h'.length) : h = h' ∧ X = X' := List.append_inj e hl
theorem MB_inj {b b' : Nat} {m m' : M} (e : MB b m = MB b' m') : m.n = m'.n := by
  simp only [MB, Blk.mk.injEq, List.cons.injEq, S.i.injEq, true_and, and_true] at e
  exact e.2
theorem MW_inj {m m' : M} (e : MW m = MW m') : m.w = m'.w := by
  simp only [MW, Blk.mk.injEq, true_and] at e
  exact wc_inj e.1

/-- The words of a block's cells. -/
def unwc : List S → Option (List Int)
  | [] => some []
  | .i .u64 x :: l => match unwc l with
    | some v => some (x :: v)
    | none => none
  | _ => none
theorem unwc_wc : ∀ v : List Int, unwc (wc v) = some v
  | [] => rfl
  | x :: v => by simp only [wc_cons, unwc, unwc_wc v]
theorem unwc_nil : unwc [] = some [] := by rfl
theorem unwc_cons {x : Int} {l : List S} : unwc (.i .u64 x :: l) = match unwc l with | some v => some (x :: v) | none => none := by rfl
theorem wc_unwc : ∀ {l : List S} {v : List Int}, unwc l = some v → l = wc v
  | [], v, e => by simp only [unwc, Option.some.injEq] at e; subst e; rfl
  | .i k x :: l, v, e => by
    cases k <;> simp only [unwc, reduceCtorEq] at e
    split at e
    · rename_i v' e'
      rw [Option.some.injEq] at e
      subst e
      rw [wc_unwc e', wc_cons]
    · cases e
  | .u :: _, _, e => by simp [unwc] at e
  | .b _ :: _, _, e => by simp [unwc] at e
  | .p _ _ :: _, _, e => by simp [unwc] at e
  | .np :: _, _, e => by simp [unwc] at e
  | .sl _ _ _ _ :: _, _, e => by simp [unwc] at e
  | .ns :: _, _, e => by simp [unwc] at e
  | .es _ _ :: _, _, e => by simp [unwc] at e
  | .fn _ _ :: _, _, e => by simp [unwc] at e
  | .nf :: _, _, e => by simp [unwc] at e
def lenIs (n : Nat) (v : List Int) : Option (List Int) := if v.length = n then some v else none
theorem lenIs_t {n : Nat} {v : List Int} (h : v.length = n) : lenIs n v = some v := if_pos h
def lstB (n : Nat) : Option Blk → Option (List Int)
  | some ⟨.rw, cells, _⟩ => (unwc cells).bind (lenIs n)
  | some ⟨.ro, cells, _⟩ => (unwc cells).bind (lenIs n)
  | _ => none
theorem lstB_rw {n room : Nat} {cells : List S} : lstB n (some ⟨.rw, cells, room⟩) = (unwc cells).bind (lenIs n) := by rfl
theorem o_bind {α β : Type} {x : α} {f : α → Option β} : (some x).bind f = f x := by rfl
theorem lstB_list {H : List Blk} {j n c : Nat} {vs : List Int} (h : lstB n H[j]? = some vs) : listOf H (.sl (.g j) 0 n c) = some vs := by
  have key : ∀ st cells room, H[j]? = some ⟨st, cells, room⟩ → st ≠ .dead → (unwc cells).bind (lenIs n) = some vs → listOf H (.sl (.g j) 0 n c) = some vs := by
    intro st cells room e hs e2
    obtain ⟨v, e3, e4⟩ := Option.bind_eq_some_iff.1 e2
    unfold lenIs at e4
    split at e4
    · rename_i hl
      rw [Option.some.injEq] at e4
      subst e4
      rw [wc_unwc e3] at e
      exact listOf_at e hs hl
    · cases e4
  unfold lstB at h
  split at h
  · rename_i e; exact key _ _ _ e (by simp) h
  · rename_i e; exact key _ _ _ e (by simp) h
  · cases h
theorem listOf_g {h X : List Blk} {n c k : Nat} (hs : (lstB n (h ++ X)[h.length + k]?).isSome = true) : listOf (h ++ X) (.sl (.g (h.length + k)) 0 n c) = lstB n (h ++ X)[h.length + k]? := by
  obtain ⟨vs, e⟩ := Option.isSome_iff_exists.1 hs
  rw [e, lstB_list e]
theorem some_is {α : Type} {x : α} : (some x).isSome = true := by rfl
/-- What lay there is a list still. -/
theorem IsList.of {h : List Blk} {s : S} {vs : List Int} (H : IsList h s vs) (X : List Blk) : listOf (h ++ X) s = some vs := listOf_eq H.app

theorem M.part_ext {m : M} {x k : Nat} {vs : List Int} (h : x + k ≤ m.w.length) (hl : vs.length = k) (he : ∀ i, i < k → m.at ((x + i : Nat) : Int) = nth 0 vs i) : (m.w.drop x).take k = vs := by
  have hp := M.part_len h
  refine eq_of_nth (hp.trans hl.symm) fun i hi => ?_
  have hi' : i < k := by rw [show ((m.w.drop x).take k).length = k from hp] at hi; exact hi
  have := M.at_part (m := m) (x := x) hi'
  rw [← he i hi', ← this]; rfl

/-- A list of words that the function itself makes, in its b-th block. -/
def slW (b : Nat) : List Int → Nat → S
  | [], _ => .ns
  | _ :: v, c => .sl (.l b) 0 (v.length + 1) c
def lsW : List Int → Nat → List Blk
  | [], _ => []
  | x :: v, c => [⟨.rw, wc (x :: v), c⟩]
theorem M.readV_t {m : M} {i : Nat} (h : i + 1 ≤ m.w.length) : m.readV i = m.at i := by rw [M.readV, M.has_of (by omega), if_pos rfl]
theorem M.readE_t {m : M} {i : Nat} (h : i + 1 ≤ m.w.length) : m.readE i = 0 := by rw [M.readE, M.has_of (by omega), if_pos rfl]
theorem M.readX_t {m : M} {i : Nat} (h : i + 1 ≤ m.w.length) : m.readX i = m.tick 1 := by rw [M.readX, M.has_of (by omega), if_pos rfl]
theorem M.writeX_t {m : M} {i : Nat} {v : Int} (h : i + 1 ≤ m.w.length) : m.writeX i v = (m.put i v).tick 1 := by rw [M.writeX, M.has_of (by omega), if_pos rfl, Int.toNat_natCast]
theorem M.tick_put (m : M) (a : Int) (i : Nat) (v : Int) : (m.tick a).put i v = (m.put i v).tick a := M.ext' rfl rfl
theorem M.tick_lay (a : Int) : ∀ (vs : List Int) (m : M) (o : Nat), (m.tick a).lay o vs = (m.lay o vs).tick a
  | [], _, _ => rfl
  | v :: vs, m, o => by simp only [M.lay, M.tick_put, M.tick_lay a vs]
theorem M.tick_at' (m : M) (a : Int) (j : Int) : (m.tick a).at j = m.at j := rfl

theorem M.copyE_or (m : M) (x y k : Int) : m.copyE x y k = 0 ∨ (m.copyE x y k = 20 ∧ m.copyX x y k = m) := by
  unfold M.copyE M.copyX
  split
  · exact .inl rfl
  · exact .inr ⟨rfl, rfl⟩
theorem M.fillE_or (m : M) (x k v : Int) : m.fillE x k = 0 ∨ (m.fillE x k = 20 ∧ m.fillX x k v = m) := by
  unfold M.fillE M.fillX
  split
  · exact .inl rfl
  · exact .inr ⟨rfl, rfl⟩
theorem M.loadX_n (m : M) (x : Int) (vs : List Int) : (m.loadX x vs).n = m.n := by
  unfold M.loadX; split
  · exact M.lay_n _ _ _
  · rfl
theorem MB_0 {b : Nat} {m : M} : (MB b m).cells[0]? = some (.sl (.g b) 0 m.w.length m.w.length) := by rfl
theorem MB_1 {b : Nat} {m : M} : (MB b m).cells[1]? = some (.i .i64 m.n) := by rfl
theorem MB_st {b : Nat} {m : M} : (MB b m).st = .rw := by rfl
theorem lstB_MW {n : Nat} {m : M} : lstB n (some (MW m)) = lenIs n m.w := by
  show (unwc (wc m.w)).bind (lenIs n) = _
  rw [unwc_wc]; rfl
theorem blk_ren (ρ : R → R) (st : BK) (c : List S) (n : Nat) : Blk.ren ρ ⟨st, c, n⟩ = ⟨st, c.map (S.ren ρ), n⟩ := rfl
end Go.Proofs.Ytdlloccodmdnnaa

/- The arguments of a statement: what is read of them becomes values over read-only blocks; behind the call they read as before. -/
namespace Go.D
set_option linter.all false

inductive TY where
  | int (k : IntKind)
  | bool
  | slice (e : List TY)

mutual
/-- A cell of a type, over a heap of blocks. -/
def hasT (h : List Blk) : TY → S → Prop
  | .int k, s => ∃ n, s = .i k n ∧ (Lit.int k n).wf = true
  | .bool, s => ∃ b, s = .b b
  | .slice e, s => s = .ns ∨ (∃ a c, s = .es a c) ∨ ∃ (j n c : Nat) (E : List (List S)) (st : BK) (room : Nat), s = .sl (.g j) 0 n c ∧ n ≤ c ∧ n ≤ 140737488355328 ∧ h[j]? = some ⟨st, E.flatten, room⟩ ∧ E.length = n ∧ (n ≠ 0 → st = .ro) ∧ st ≠ .rw ∧ ∀ x, x ∈ E → hasTs h e x
def hasTs (h : List Blk) : List TY → List S → Prop
  | [], [] => True
  | t :: ts, s :: ss => hasT h t s ∧ hasTs h ts ss
  | _, _ => False
end

/-- A heap of blocks that are only read. -/
structure RO (σ : Sg) (h : List Blk) (w : World) : Prop where
  ok : ∀ k B, h[k]? = some B → B.st ≠ .rw ∧ OkBlk σ w (.g k) B
  val : ∀ B, B ∈ h → vals h.length 0 B.cells = true

theorem RO.sim {σ : Sg} {h : List Blk} {w : World} (H : RO σ h w) : Sim σ h [] w := by
  refine ⟨fun r B hb => ?_, fun r r' B B' hb hb' hne hst hd => ?_, H.val, fun B hB => by cases hB⟩
  · cases r with
    | g k => exact (H.ok k B hb).2
    | l k => simp [blk] at hb
  · cases r with
    | g k => exact absurd hst (H.ok k B hb).1
    | l k => simp [blk] at hb

mutual
theorem hasT_mono {h h' : List Blk} : ∀ {t : TY} {s : S}, hasT h t s → hasT (h ++ h') t s
  | .int k, s, hs => hs
  | .bool, s, hs => hs
  | .slice e, s, hs => by
    rcases hs with hs | hs | ⟨j, n, c, E, st, room, h1, h2, h3, h4, h5, h6, h7, h8⟩
    · exact .inl hs
    · exact .inr (.inl hs)
    · exact .inr (.inr ⟨j, n, c, E, st, room, h1, h2, h3, by rw [List.getElem?_append_left (List.getElem?_eq_some_iff.1 h4).1]; exact h4, h5, h6, h7, fun x hx => hasTs_mono (h8 x hx)⟩)
theorem hasTs_mono {h h' : List Blk} : ∀ {ts : List TY} {ss : List S}, hasTs h ts ss → hasTs (h ++ h') ts ss
  | [], [], _ => trivial
  | t :: ts, s :: ss, hs => ⟨hasT_mono hs.1, hasTs_mono hs.2⟩
  | [], _ :: _, hs => hs.elim
  | _ :: _, [], hs => hs.elim
end

/-! ### types, flattened -/
def tyFields (P : Program) (r : TypeId → Option (List TY)) : List Field → Nat → Option (List TY)
  | [], _ => some []
  | f :: fs, off => match r f.type, tyFields P r fs (off + P.cellsOf f.type) with
    | some l, some q => if f.offset = off ∧ l.length = P.cellsOf f.type then some (l ++ q) else none
    | _, _ => none

/-- The cells of a type. -/
def tyOf (P : Program) : Nat → TypeId → Option (List TY)
  | 0, _ => none
  | d + 1, t => match P.underlying t with
    | some (.int k) => some [.int k]
    | some .bool => some [.bool]
    | some (.slice e) => match tyOf P d e with
      | some l => if l.length = P.cellsOf e ∧ 0 < l.length ∧ 0 < P.bytesOf e then some [.slice l] else none
      | none => none
    | some (.struct fs) => match tyFields P (tyOf P d) fs.toList 0 with
      | some l => if l.length = P.cellsOf t then some l else none
      | none => none
    | some (.array n e) => match tyOf P d e with
      | some l => if l.length = P.cellsOf e ∧ P.cellsOf t = n * P.cellsOf e then some (List.replicate n l).flatten else none
      | none => none
    | _ => none

section
variable {H : Type} {enc : TypeId × Value → H} {P : Program} {w : World}

/-- Cells of such types become values over read-only blocks. -/
def Opens (w : World) (cs : List Value) (tys : List TY) : Prop :=
  ∀ (σ : Sg) (h : List Blk), RO σ h w → ∃ (h' : List Blk) (σ' : Sg) (ss : List S), (∀ k, k < h.length → σ' (.g k) = σ (.g k)) ∧ RO σ' (h ++ h') w ∧ hasTs (h ++ h') tys ss ∧ ss.map (S.tr σ') = cs ∧ vals (h ++ h').length 0 ss = true ∧ known ss = true

theorem hasTs_append {h : List Blk} : ∀ {t1 t2 : List TY} {s1 s2 : List S}, hasTs h t1 s1 → hasTs h t2 s2 → hasTs h (t1 ++ t2) (s1 ++ s2)
  | [], _, [], _, _, h2 => h2
  | _ :: _, _, _ :: _, _, h1, h2 => ⟨h1.1, hasTs_append h1.2 h2⟩
  | [], _, _ :: _, _, h1, _ => h1.elim
  | _ :: _, _, [], _, h1, _ => h1.elim

theorem hasTs_length {h : List Blk} : ∀ {ts : List TY} {ss : List S}, hasTs h ts ss → ss.length = ts.length
  | [], [], _ => rfl
  | _ :: _, _ :: _, h1 => by simp [hasTs_length h1.2]
  | [], _ :: _, h1 => h1.elim
  | _ :: _, [], h1 => h1.elim

/-- What is valid among the first blocks is translated alike. -/
theorem trs_old {σ σ' : Sg} {n : Nat} (hA : ∀ k, k < n → σ' (.g k) = σ (.g k)) {ss : List S} (hv : vals n 0 ss = true) : ss.map (S.tr σ') = ss.map (S.tr σ) := by
  simp only [vals, List.all_eq_true] at hv
  refine List.map_congr_left fun s hs => S.tr_congr (n := n) (m := 0) (fun r hr => ?_) s (hv s hs)
  cases r with
  | g k => exact hA k (by simpa [R.val] using hr)
  | l k => simp [R.val] at hr

theorem Opens.nil : Opens w [] [] := fun σ h H => ⟨[], σ, [], fun _ _ => rfl, by simpa using H, trivial, rfl, rfl, rfl⟩

theorem Opens.append {c1 c2 : List Value} {t1 t2 : List TY} (h1 : Opens w c1 t1) (h2 : Opens w c2 t2) : Opens w (c1 ++ c2) (t1 ++ t2) := fun σ h H => by
  obtain ⟨ha, σa, sa, a1, a2, a3, a4, a5, a6⟩ := h1 σ h H
  obtain ⟨hb, σb, sb, b1, b2, b3, b4, b5, b6⟩ := h2 σa (h ++ ha) a2
  refine ⟨ha ++ hb, σb, sa ++ sb, fun k hk => ?_, by rw [← List.append_assoc]; exact b2, ?_, ?_, ?_, ?_⟩
  · rw [b1 k (by simp; omega), a1 k hk]
  · rw [← List.append_assoc]; exact hasTs_append (hasTs_mono a3) b3
  · rw [List.map_append, b4, trs_old b1 a5, a4]
  · rw [← List.append_assoc]
    simp only [vals, List.all_append, Bool.and_eq_true]
    exact ⟨vals_mono (by simp) (Nat.le_refl _) a5, b5⟩
  · simp only [known, List.all_append, Bool.and_eq_true]
    exact ⟨a6, b6⟩

theorem Opens.one {v : Value} {t : TY} (h : ∀ σ : Sg, ∀ h : List Blk, ∃ s : S, hasT h t s ∧ s.tr σ = v ∧ s.val 0 0 = true ∧ V.known (.s s) = true) : Opens w [v] [t] := fun σ h0 H => by
  obtain ⟨s, e1, e2, e3, e4⟩ := h σ h0
  refine ⟨[], σ, [s], fun _ _ => rfl, by simpa using H, ⟨by simpa using e1, trivial⟩, by simp [e2], ?_, ?_⟩
  · simp only [vals, List.all_cons, List.all_nil, Bool.and_true]
    exact S.val_mono (Nat.zero_le _) (Nat.zero_le _) e3
  · rw [known_cons, e4]; rfl

/-- Many elements, one after the other. -/
theorem Opens.list {l : List TY} (C : Nat → List Value) : ∀ m : Nat, (∀ i, i < m → Opens w (C i) l) → ∀ (σ : Sg) (h : List Blk), RO σ h w → ∃ (h' : List Blk) (σ' : Sg) (E : List (List S)), (∀ k, k < h.length → σ' (.g k) = σ (.g k)) ∧ RO σ' (h ++ h') w ∧ E.length = m ∧
      (∀ x, x ∈ E → hasTs (h ++ h') l x) ∧ E.flatten.map (S.tr σ') = ((List.range m).map C).flatten ∧ vals (h ++ h').length 0 E.flatten = true ∧ known E.flatten = true
  | 0, _, σ, h, H => ⟨[], σ, [], fun _ _ => rfl, by simpa using H, rfl, fun x hx => absurd hx List.not_mem_nil, rfl, rfl, rfl⟩
  | m + 1, hC, σ, h, H => by
    obtain ⟨ha, σa, E, a1, a2, a3, a4, a5, a6, a7⟩ := Opens.list C m (fun i hi => hC i (by omega)) σ h H
    obtain ⟨hb, σb, sb, b1, b2, b3, b4, b5, b6⟩ := hC m (by omega) σa (h ++ ha) a2
    refine ⟨ha ++ hb, σb, E ++ [sb], fun k hk => ?_, by rw [← List.append_assoc]; exact b2, by simp [a3], fun x hx => ?_, ?_, ?_, ?_⟩
    · rw [b1 k (by simp; omega), a1 k hk]
    · rw [← List.append_assoc]
      rcases List.mem_append.1 hx with h1 | h1
      · exact hasTs_mono (a4 x h1)
      · simp only [List.mem_singleton] at h1; subst h1; exact b3
    · rw [List.flatten_append, List.map_append, trs_old b1 a6, a5, List.range_succ, List.map_append, List.flatten_append]
      simp [b4]
    · rw [← List.append_assoc, List.flatten_append, show [sb].flatten = sb by simp]
      simp only [vals, List.all_append, Bool.and_eq_true]
      exact ⟨vals_mono (by simp) (Nat.le_refl _) a6, b5⟩
    · rw [List.flatten_append, show [sb].flatten = sb by simp]
      simp only [known, List.all_append, Bool.and_eq_true]
      exact ⟨a7, b6⟩

/-- A slice of such elements. -/
theorem Opens.slice {l : List TY} {a : Addr} {len cap k : Nat} (ha : a.spot = none) (hk : l.length = k) (hlc : len ≤ cap) (hcm : len ≤ 140737488355328) (C : Nat → List Value) (hC : ∀ i, i < len → Opens w (C i) l)
    (hcell : ∀ i j, i < len → j < k → ∃ v, (C i)[j]? = some v ∧ w.cell? (a.add (i * k + j)) = some v) (hlen : ∀ i, i < len → (C i).length = k) (hsz : len ≠ 0 → a.block < w.heap.size) : Opens w [.slice (some a) len cap] [.slice l] := fun σ h H => by
  obtain ⟨ha', σa, E, a1, a2, a3, a4, a5, a6, a7⟩ := Opens.list C len hC σ h H
  let n := (h ++ ha').length
  let σ' : Sg := fun r => if r = .g n then (a.block, a.off) else σa r
  have hσ : ∀ k, k < n → σ' (.g k) = σa (.g k) := fun k hk => by
    show (if R.g k = .g n then _ else _) = _
    rw [if_neg (by intro e; cases e; omega)]
  have hσn : σ' (.g n) = (a.block, a.off) := by
    show (if R.g n = .g n then _ else _) = _
    rw [if_pos rfl]
  have hEl : ∀ x, x ∈ E → x.length = k := fun x hx => by rw [hasTs_length (a4 x hx), hk]
  have hEt : E.flatten.map (S.tr σ') = ((List.range len).map C).flatten := by rw [trs_old hσ a6, a5]
  have hflat : ∀ (m : Nat) (q : Nat) (v : Value), m ≤ len → (((List.range m).map C).flatten)[q]? = some v → w.cell? (a.add q) = some v ∧ q < m * k := by
    intro m
    induction m with
    | zero => intro q v _ h; simp at h
    | succ m ih =>
      intro q v hm hq
      have hl : (((List.range m).map C).flatten).length = m * k := by
        have : ∀ m', m' ≤ len → (((List.range m').map C).flatten).length = m' * k := by
          intro m'
          induction m' with
          | zero => intro _; simp
          | succ m' ih' => intro hm'; rw [List.range_succ, List.map_append, List.flatten_append, List.length_append, ih' (by omega)]; simp [hlen m' (by omega), Nat.succ_mul]
        exact this m (by omega)
      rw [List.range_succ, List.map_append, List.flatten_append] at hq
      by_cases hlt : q < m * k
      · rw [List.getElem?_append_left (by omega)] at hq
        obtain ⟨h1, h2⟩ := ih q v (by omega) hq
        exact ⟨h1, by rw [Nat.succ_mul]; omega⟩
      · rw [List.getElem?_append_right (by omega), hl] at hq
        simp only [List.map_cons, List.map_nil, List.flatten_cons, List.flatten_nil, List.append_nil] at hq
        have hj : q - m * k < k := by
          have := (List.getElem?_eq_some_iff.1 hq).1
          rw [hlen m (by omega)] at this; exact this
        obtain ⟨v', h1, h2⟩ := hcell m (q - m * k) (by omega) hj
        rw [hq] at h1
        cases h1
        have e : m * k + (q - m * k) = q := by omega
        rw [e] at h2
        exact ⟨h2, by rw [Nat.succ_mul]; omega⟩
  let B : Blk := ⟨if len = 0 then .dead else .ro, E.flatten, 0⟩
  have hBst : B.st ≠ .rw := by
    show (if len = 0 then BK.dead else .ro) ≠ .rw
    split <;> simp
  have hn1 : (h ++ (ha' ++ [B])).length = n + 1 := by simp only [n, List.length_append, List.length_cons, List.length_nil]; omega
  refine ⟨ha' ++ [B], σ', [.sl (.g n) 0 len cap], fun k hk => ?_, ⟨fun k B' hB => ?_, fun B' hB => ?_⟩, ⟨.inr (.inr ⟨n, len, cap, E, _, 0, rfl, hlc, hcm, ?_, a3, fun h0 => if_neg h0, hBst, fun x hx => ?_⟩), trivial⟩, ?_, ?_, rfl⟩
  · rw [hσ k (by show k < (h ++ ha').length; simp; omega), a1 k hk]
  · rw [← List.append_assoc] at hB
    by_cases hk : k < n
    · rw [List.getElem?_append_left hk] at hB
      obtain ⟨c1, c2⟩ := a2.ok k B' hB
      refine ⟨c1, c2.move (n := n) (m := 0) (hσ k hk) (fun r hr => ?_) (a2.val B' (List.mem_of_getElem? hB)) (Nat.le_refl _) (fun _ => rfl)⟩
      cases r with
      | g i => exact hσ i (by simpa [R.val] using hr)
      | l i => simp [R.val] at hr
    · have hkn : k = n := by
        have := (List.getElem?_eq_some_iff.1 hB).1
        simp only [List.length_append, List.length_cons, List.length_nil] at this
        simp only [n, List.length_append] at hk ⊢
        omega
      subst hkn
      rw [List.getElem?_append_right (Nat.le_refl _), Nat.sub_self] at hB
      simp only [List.getElem?_cons_zero, Option.some.injEq] at hB
      subst hB
      refine ⟨hBst, ?_⟩
      unfold OkBlk
      show match (if len = 0 then BK.dead else .ro) with
        | .dead => True
        | .ro => _
        | .rw => _
      by_cases h0 : len = 0
      · rw [if_pos h0]; trivial
      · rw [if_neg h0]
        refine ⟨by rw [hσn]; exact hsz h0, fun i s hs _ => ?_⟩
        have h1 : (E.flatten.map (S.tr σ'))[i]? = some (s.tr σ') := by
          rw [List.getElem?_map, show E.flatten[i]? = some s from hs]; rfl
        rw [hEt] at h1
        have h2 := (hflat len i _ (Nat.le_refl _) h1).1
        have e : a.add i = adr σ' (.g n) i := by
          simp only [adr, hσn, Addr.add]
          cases a; simp only at ha; subst ha
          by_cases hi : i = 0
          · subst hi; simp
          · simp [hi]
        rw [← e]; exact h2
  · rw [hn1]
    rw [← List.append_assoc] at hB
    rcases List.mem_append.1 hB with hB | hB
    · exact vals_mono (Nat.le_succ n) (Nat.le_refl _) (a2.val B' hB)
    · simp only [List.mem_singleton] at hB
      subst hB
      exact vals_mono (Nat.le_succ n) (Nat.le_refl _) a6
  · rw [← List.append_assoc, List.getElem?_append_right (Nat.le_refl _), Nat.sub_self]; rfl
  · rw [← List.append_assoc]; exact hasTs_mono (a4 x hx)
  · simp only [List.map_cons, List.map_nil, S.tr, adr, hσn, Nat.add_zero]
    cases a; simp only at ha; subst ha; rfl
  · rw [hn1]; simp [vals, S.val, R.val]


theorem Opens.fields {d : TypeId → Option (List TY)} {cs : List Value} : ∀ (fs : List Field) (off : Nat) (tys : List TY), tyFields P d fs off = some tys → off + tys.length = cs.length →
      (∀ f, f ∈ fs → ∀ l, d f.type = some l → l.length = P.cellsOf f.type → f.offset + P.cellsOf f.type ≤ cs.length → Opens w ((cs.drop f.offset).take (P.cellsOf f.type)) l) → Opens w (cs.drop off) tys
  | [], off, tys, ht, hl, _ => by
    simp only [tyFields, Option.some.injEq] at ht
    subst ht
    rw [List.drop_eq_nil_of_le (by simp at hl; omega)]
    exact Opens.nil
  | f :: fs, off, tys, ht, hl, hf => by
    simp only [tyFields] at ht
    split at ht
    · rename_i l q h1 h2
      split at ht
      · rename_i hc
        cases ht
        obtain ⟨h3, h4⟩ := hc
        simp only [List.length_append] at hl
        have ih := Opens.fields fs (off + P.cellsOf f.type) q h2 (by omega) (fun g hg => hf g (List.mem_cons_of_mem _ hg))
        have h0 := hf f List.mem_cons_self l h1 h4 (by rw [h3]; omega)
        rw [h3] at h0
        have e : cs.drop off = (cs.drop off).take (P.cellsOf f.type) ++ cs.drop (off + P.cellsOf f.type) := by
          rw [← List.drop_drop, List.take_append_drop]
        rw [e]
        exact h0.append ih
      · cases ht
    · cases ht

theorem Opens.array {k : Nat} {l : List TY} (hk : l.length = k) : ∀ (n : Nat) (cs : List Value), cs.length = n * k → (∀ i, i < n → Opens w ((cs.drop (i * k)).take k) l) → Opens w cs (List.replicate n l).flatten
  | 0, cs, hl, _ => by
    have : cs = [] := by cases cs <;> simp_all
    subst this
    exact Opens.nil
  | n + 1, cs, hl, h => by
    have h0 := h 0 (by omega)
    simp only [Nat.zero_mul, List.drop_zero] at h0
    have ih := Opens.array hk n (cs.drop k) (by simp [hl, Nat.succ_mul]) (fun i hi => by
      have := h (i + 1) (by omega)
      rw [List.drop_drop]
      have e : k + i * k = (i + 1) * k := by rw [Nat.succ_mul]; omega
      rw [e]; exact this)
    have e : cs = cs.take k ++ cs.drop k := (List.take_append_drop _ _).symm
    rw [e, List.replicate_succ, List.flatten_cons]
    exact h0.append ih


theorem weightsAll_mem {e : TypeId} : ∀ {l : List (DataW H)} {d : DataW H}, d ∈ l → ∀ n, n ∈ d.weights P e → n ∈ DataW.weightsAll P e l
  | x :: l, d, h, n, hn => by
    simp only [DataW.weightsAll, List.mem_append]
    rcases List.mem_cons.1 h with rfl | h
    · exact .inl hn
    · exact .inr (weightsAll_mem h n hn)

theorem open_trod {base : Nat} {spare : Nat → Bool} {held : Bool} : ∀ (d : Nat) (n : Nat) (t : TypeId) (cs : List Value) (x : DataW H × List MemPlace) (tys : List TY),
    DataW.trod enc P w base spare held n t cs = some x → tyOf P d t = some tys → (∀ k, k ∈ x.1.weights P t → k ≤ reachBytes) → Opens w cs tys
  | 0, _, _, _, _, _, _, ht, _ => by simp [tyOf] at ht
  | d + 1, n, t, cs, x, tys, hx, ht, hw => by
    simp only [tyOf] at ht
    split at ht
    · rename_i k hu
      cases ht
      obtain ⟨m, rfl, _, hwf⟩ := DataW.trod_int hu hx
      exact Opens.one fun σ h => ⟨.i k m, ⟨m, rfl, hwf⟩, rfl, rfl, rfl⟩
    · rename_i hu
      cases ht
      obtain ⟨b, rfl, _⟩ := DataW.trod_bool hu hx
      exact Opens.one fun σ h => ⟨.b b, ⟨b, rfl⟩, rfl, rfl, rfl⟩
    · rename_i e hu
      split at ht
      · rename_i l hl
        split at ht
        · rename_i hc
          cases ht
          rcases DataW.trod_slice hu hx with ⟨rfl, _⟩ | ⟨a, len, cap, elems, rest, m, _, rfl, rfl, hb, hlc, hcm, hel, hE, _, _⟩
          · exact Opens.one fun σ h => ⟨.ns, .inl rfl, rfl, rfl, rfl⟩
          · by_cases hl0 : len = 0
            · subst hl0
              exact Opens.one fun σ h => ⟨.es a cap, .inr (.inl ⟨a, cap, rfl⟩), rfl, rfl, rfl⟩
            have hget : ∀ i, i < len → ∃ cs', w.cells? base (a.add (i * P.cellsOf e)) (P.cellsOf e) = some cs' ∧ ∃ y, DataW.trod enc P w base spare held m e cs' = some y := fun i hi => by
              have := hE i hi
              rw [List.getElem?_eq_getElem (by omega)] at this
              obtain ⟨cs', h1, h2⟩ := Option.bind_eq_some_iff.1 this
              exact ⟨cs', h1, _, h2⟩
            let C : Nat → List Value := fun i => (w.cells? base (a.add (i * P.cellsOf e)) (P.cellsOf e)).getD []
            have hC : ∀ i, i < len → w.cells? base (a.add (i * P.cellsOf e)) (P.cellsOf e) = some (C i) := fun i hi => by
              obtain ⟨cs', h1, _⟩ := hget i hi
              simp only [C, h1, Option.getD_some]
            have hadd : ∀ i j, (a.add i).add j = a.add (i + j) := fun i j => by
              simp only [Addr.add]
              by_cases hi : i = 0
              · subst hi; simp
              · by_cases hj : j = 0
                · subst hj; simp [hi]
                · simp [hi, hj, Nat.add_assoc]
            have hsp : a.spot = none := by
              obtain ⟨_, h3, h4⟩ := World.cells?_some (hC 0 (by omega))
              have h5 := h4 0 (by have := hc.1; omega)
              rw [List.getElem?_eq_getElem (by have := hc.1; omega)] at h5
              have h6 := World.cell?_spot h5
              simpa [Addr.add] using h6
            have hbound : len ≤ 140737488355328 := by
              have h1 := hw ((elems.length + rest.length) * P.bytesOf e) (by simp [DataW.weights, hu])
              have h2 := reachBytes_lt
              have h3 := hc.2.2
              have h4 : len ≤ (elems.length + rest.length) * P.bytesOf e := by
                calc len ≤ elems.length + rest.length := by omega
                  _ ≤ (elems.length + rest.length) * P.bytesOf e := Nat.le_mul_of_pos_right _ h3
              omega
            refine Opens.slice (k := P.cellsOf e) hsp hc.1 hlc hbound C (fun i hi => ?_) (fun i j hi hj => ?_) (fun i hi => (World.cells?_some (hC i hi)).2.1) (fun h0 => ?_)
            · obtain ⟨cs', h1, y, h2⟩ := hget i hi
              rw [hC i hi] at h1
              cases h1
              have hy : elems[i]? = some y := by
                rw [← hE i hi, hC i hi]; exact h2
              exact open_trod d m e (C i) y l h2 hl fun k hk => hw k (by
                simp only [DataW.weights, hu, List.mem_cons, List.mem_append]
                exact .inr (.inl (weightsAll_mem (List.mem_map.2 ⟨y, List.mem_of_getElem? hy, rfl⟩) k hk)))
            · obtain ⟨_, h3, h4⟩ := World.cells?_some (hC i hi)
              have h5 := h4 j hj
              rw [List.getElem?_eq_getElem (by omega), hadd] at h5
              exact ⟨_, List.getElem?_eq_getElem (by omega), h5⟩
            · have h3 := hC 0 (by omega)
              obtain ⟨_, h4, h5⟩ := World.cells?_some h3
              have h6 := h5 0 (by have := hc.1; omega)
              rw [List.getElem?_eq_getElem (by have := hc.1; omega), hadd] at h6
              simp only [Nat.zero_mul, Nat.add_zero, Addr.add, if_true] at h6
              unfold World.cell? at h6
              cases hb : w.heap[a.block]? with
              | none => rw [hb] at h6; cases h6
              | some o => exact (Array.getElem?_eq_some_iff.1 hb).1
        · cases ht
      · cases ht
    · rename_i fs hu
      split at ht
      · rename_i l hl
        split at ht
        · rename_i hlen
          have ht' : l = tys := by simpa using ht
          rw [← ht']
          obtain ⟨xs, m, _, rfl, hcs, hxs, hf⟩ := DataW.trod_struct hu hx
          have := Opens.fields (w := w) (cs := cs) fs.toList 0 l hl (by omega) (fun f hf' q hq hql hle => by
            obtain ⟨i, hi, rfl⟩ := List.mem_iff_getElem.1 hf'
            have hi' : i < fs.size := by simpa using hi
            have h1 := hf i fs[i] (Array.getElem?_eq_getElem hi')
            rw [List.getElem?_eq_getElem (by omega)] at h1
            exact open_trod d m _ _ _ q h1 hq fun k hk => hw k (by
              simp only [DataW.weights, hu]
              exact DataW.weights_mem_each (j := i) (t := fs[i].type) (d := (xs[i]'(by omega)).1) (by simp [hi']) (by rw [List.getElem?_map, List.getElem?_eq_getElem (by omega)]; rfl) k hk))
          simpa using this
        · cases ht
      · cases ht
    · rename_i m e hu
      split at ht
      · rename_i l hl
        split at ht
        · rename_i hc
          cases ht
          obtain ⟨xs, f, _, rfl, hcs, hxs, hf⟩ := DataW.trod_array hu hx
          refine Opens.array (k := P.cellsOf e) hc.1 m cs (by rw [hcs, hc.2]) (fun i hi => ?_)
          have h1 := hf i hi
          rw [List.getElem?_eq_getElem (by omega)] at h1
          exact open_trod d f _ _ _ l h1 hl fun k hk => hw k (by
            simp only [DataW.weights, hu]
            exact weightsAll_mem (List.mem_map.2 ⟨_, List.getElem_mem _, rfl⟩) k hk)
        · cases ht
      · cases ht
    · cases ht

end

end Go.D

