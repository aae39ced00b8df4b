/- Package objs: threads, the code's: plain. -/
import Derived.Test.YtdlloccodmdnnaaZ10
import Derived.Test.YtdlloccodmdnnaaZ23
import Derived.Test.YtdlloccodmdnnaaZ16
/- Package objs: a thread's words. -/
namespace Go.Proofs.Ytdlloccodmdnnaa
open Go.D
set_option linter.all false
set_option maxRecDepth 100000
set_option maxHeartbeats 8000000

structure Th where
  st : Int
  pr : Int
  sl : Int
  qd : Bool
  pv : Int
  nx : Int
  bl : Int
  bg : Int
  cg : Bool
  ic : Bool
  bo : Int
  ha : Int
  fk : Int
  fa : Int
  rg : List Int
def Th.c (t : Th) : List S := .i .i64 t.st :: .i .i64 t.pr :: .i .i64 t.sl :: .b t.qd :: .i .i64 t.pv :: .i .i64 t.nx :: .i .i64 t.bl :: .i .i64 t.bg :: .b t.cg :: .b t.ic :: .i .i64 t.bo :: .i .i64 t.ha :: .i .i64 t.fk :: .i .i64 t.fa :: wc t.rg
def thZ : Th := ⟨0, 0, 0, false, 0, 0, 0, 0, false, false, 0, 0, 0, 0, List.replicate 16 0⟩
theorem thZ_c : thZ.c = [.i .i64 0, .i .i64 0, .i .i64 0, .b false, .i .i64 0, .i .i64 0, .i .i64 0, .i .i64 0, .b false, .b false, .i .i64 0, .i .i64 0, .i .i64 0, .i .i64 0, .i .u64 0, .i .u64 0, .i .u64 0, .i .u64 0, .i .u64 0, .i .u64 0, .i .u64 0, .i .u64 0, .i .u64 0, .i .u64 0, .i .u64 0, .i .u64 0, .i .u64 0, .i .u64 0, .i .u64 0, .i .u64 0] := rfl
def thF (f : Th → Res) : List V → Res
  | [.agg (.i .i64 a :: .i .i64 b :: .i .i64 c :: .b d :: .i .i64 e :: .i .i64 g :: .i .i64 i :: .i .i64 j :: .b k :: .b l :: .i .i64 n :: .i .i64 o :: .i .i64 p :: .i .i64 q :: r)] =>
    match unwc r with
    | some v => .ob (v.length = 16) (f ⟨a, b, c, d, e, g, i, j, k, l, n, o, p, q, v⟩)
    | none => .bad
  | _ => .bad
theorem thF_spec {f : Th → Res} {args : List V} {K : V → List Blk → Prop} (h : (thF f args).spec K) : ∃ t : Th, args = [.agg t.c] ∧ t.rg.length = 16 ∧ (f t).spec K := by
  unfold thF at h
  split at h
  · split at h
    · rename_i v e
      obtain ⟨h1, h2⟩ := h
      exact ⟨⟨_, _, _, _, _, _, _, _, _, _, _, _, _, _, v⟩, by rw [wc_unwc e]; rfl, h1, h2⟩
    · exact h.elim
  · exact h.elim
theorem th_eta (t : Th) : (⟨t.st, t.pr, t.sl, t.qd, t.pv, t.nx, t.bl, t.bg, t.cg, t.ic, t.bo, t.ha, t.fk, t.fa, t.rg⟩ : Th) = t := rfl
def Th.B (t : Th) : Bool := in3 t.pv 0 65535 && (in3 t.nx 0 65535 && (in3 t.bl 0 65535 && (in3 t.bo 0 65535 && (in3 t.st 0 5 && (in3 t.pr 0 255 && (in3 t.sl 0 5 && (in3 t.fk 0 3 && (in3 t.bg 0 268435455 && (in3 t.ha 0 4294967295 && in3 t.fa 0 4294967295)))))))))
theorem Th.B_iff {t : Th} : t.B = true ↔ (0 ≤ t.pv ∧ t.pv ≤ 65535) ∧ (0 ≤ t.nx ∧ t.nx ≤ 65535) ∧ (0 ≤ t.bl ∧ t.bl ≤ 65535) ∧ (0 ≤ t.bo ∧ t.bo ≤ 65535) ∧ (0 ≤ t.st ∧ t.st ≤ 5) ∧ (0 ≤ t.pr ∧ t.pr ≤ 255) ∧ (0 ≤ t.sl ∧ t.sl ≤ 5) ∧ (0 ≤ t.fk ∧ t.fk ≤ 3) ∧ (0 ≤ t.bg ∧ t.bg ≤ 268435455) ∧ (0 ≤ t.ha ∧ t.ha ≤ 4294967295) ∧ (0 ≤ t.fa ∧ t.fa ≤ 4294967295) := by
  simp only [Th.B, Bool.and_eq_true, in3_iff]
def Th.h0 (t : Th) : Int := t.st + 8 * t.pr + 2048 * t.sl + 16384 * bI t.qd + 32768 * bI t.cg + 65536 * bI t.ic + 131072 * t.fk
def Th.h1 (t : Th) : Int := t.pv + 65536 * t.nx + 4294967296 * t.bl + 281474976710656 * t.bo
def Th.h3 (t : Th) : Int := t.ha + 4294967296 * t.fa
theorem bI_u (b : Bool) : 0 ≤ bI b ∧ bI b ≤ 1 := by cases b <;> decide
theorem Th.h_u {t : Th} (h : t.B = true) : u64 t.h0 ∧ u64 t.h1 ∧ u64 t.bg ∧ u64 t.h3 := by
  have := Th.B_iff.1 h
  have b1 := bI_u t.qd
  have b2 := bI_u t.cg
  have b3 := bI_u t.ic
  simp only [u64, Th.h0, Th.h1, Th.h3]; omega
theorem wc_take {L : List Int} (h : L.length = 16) : List.take 16 (wc L) = wc L := by rw [List.take_of_length_le]; rw [wc_len]; omega
end Go.Proofs.Ytdlloccodmdnnaa

/- Package objs: threads, the document's. -/
namespace Go.Proofs.Ytdlloccodmdnnaa
open Go.D
set_option linter.all false
set_option maxRecDepth 100000
set_option maxHeartbeats 8000000

def M.tks (m : M) : Nat → M
  | 0 => m
  | k + 1 => (m.tks k).tick 1
theorem M.tks_w (m : M) : ∀ k, (m.tks k).w = m.w
  | 0 => rfl
  | k + 1 => M.tks_w m k
theorem M.tks_at (m : M) (k : Nat) (j : Int) : (m.tks k).at j = m.at j := by rw [M.at, M.tks_w]; rfl
theorem M.tks_has (m : M) (k : Nat) (j n : Int) : (m.tks k).has j n = m.has j n := by simp only [M.has, M.tks_w]
/-- Words, written one behind the other. -/
def M.wrs (m : M) (o : Nat) (ws : List Int) : Nat → M
  | 0 => m
  | k + 1 => ((m.wrs o ws k).put (o + k) (nth 0 ws k)).tick 1
theorem M.wrs_len (m : M) (o : Nat) (ws : List Int) : ∀ k, (m.wrs o ws k).w.length = m.w.length
  | 0 => rfl
  | k + 1 => by rw [M.wrs, M.tick_len, M.put_len, M.wrs_len m o ws k]
theorem M.wrs_has (m : M) (o : Nat) (ws : List Int) (k : Nat) (j n : Int) : (m.wrs o ws k).has j n = m.has j n := by simp only [M.has, M.wrs_len]
theorem M.wrs_at (m : M) (o : Nat) (ws : List Int) (hu : ∀ v, v ∈ ws → u64 v) (j : Int) : ∀ k, k ≤ ws.length → o + k ≤ m.w.length → (m.wrs o ws k).at j = if o ≤ j.toNat ∧ j.toNat < o + k then nth 0 ws (j.toNat - o) else m.at j
  | 0, _, _ => by rw [if_neg (by omega)]; rfl
  | k + 1, h, h2 => by
    have hx : u64 (nth 0 ws k) := by rw [nth_eq h]; exact hu _ (List.getElem_mem _)
    rw [M.wrs, M.at_tick, M.at_put, M.wrs_len, M.wrs_at m o ws hu j k (by omega) (by omega)]
    by_cases c : o + k = j.toNat
    · rw [if_pos ⟨c, by omega⟩, if_pos (by omega), uw_of hx, ← c, Nat.add_sub_cancel_left]
    · rw [if_neg (by omega)]
      by_cases c2 : o ≤ j.toNat ∧ j.toNat < o + k
      · rw [if_pos c2, if_pos (by omega)]
      · rw [if_neg c2, if_neg (by omega)]
theorem M.part4 {m : M} {o : Nat} (h : o + 4 ≤ m.w.length) : m.part o 4 = [m.at o, m.at ((o + 1 : Nat) : Int), m.at ((o + 2 : Nat) : Int), m.at ((o + 3 : Nat) : Int)] := by
  rw [M.part_snoc (by omega), M.part_snoc (by omega), M.part_snoc (by omega), M.part_snoc (by omega)]
  simp [M.part]
/-- A thread, from its words. -/
def thOf (w0 w1 w2 w3 : Int) (L : List Int) : Th := ⟨w0 % 8, w0 / 8 % 256, w0 / 2048 % 8, w0 / 16384 % 2 == 1, w1 % 65536, w1 / 65536 % 65536, w1 / 4294967296 % 65536, w2 % 268435456, w0 / 32768 % 2 == 1, w0 / 65536 % 2 == 1, w1 / 281474976710656, w3 % 4294967296, w0 / 131072 % 4, w3 / 4294967296, L⟩
def thOk (w0 w2 : Int) : Bool := decide (w0 < 524288) && (decide (w2 < 268435456) && (decide (w0 % 8 ≤ 5) && decide (w0 / 2048 % 8 ≤ 5)))
theorem thOf_of {t : Th} (h : t.B = true) : thOf t.h0 t.h1 t.bg t.h3 t.rg = t := by
  have := Th.B_iff.1 h
  obtain ⟨a, b, c, d, e, f, g, i, j, k, l, n, o, p, r⟩ := t
  simp only [thOf, Th.h0, Th.h1, Th.h3, Th.mk.injEq] at *
  cases d <;> cases j <;> cases k <;> simp only [bI, if_true, Bool.false_eq_true, if_false, beq_iff_eq, beq_eq_false_iff_ne] <;> refine ⟨?_, ?_, ?_, ?_, ?_, ?_, ?_, ?_, ?_, ?_, ?_, ?_, ?_, ?_, trivial⟩ <;> omega
theorem Th.ok {t : Th} (h : t.B = true) : thOk t.h0 t.bg = true := by
  have := Th.B_iff.1 h
  have b1 := bI_u t.qd
  have b2 := bI_u t.cg
  have b3 := bI_u t.ic
  simp only [thOk, Bool.and_eq_true, decide_eq_true_eq]
  simp only [Th.h0]
  refine ⟨?_, ?_, ?_, ?_⟩ <;> omega
def M.tok (m : M) (x : Int) : Bool := thOk (m.at (x + 16)) (m.at (x + 18))
def M.tgE (m : M) (x : Int) : Int := if otB m x 64 then (if m.tok x then 0 else 90) else 20
def M.tgV (m : M) (x : Int) : Th := if otB m x 64 && m.tok x then thOf (m.at (x + 16)) (m.at (x + 17)) (m.at (x + 18)) (m.at (x + 19)) (m.part (x + 32).toNat 16) else thZ
def M.tgXC (m : M) (x : Int) : M := if otB m x 64 then (if m.tok x then (m.tks 4).tks 16 else m.tks 4) else m
def M.thE (m : M) (x : Int) (t : Th) : Int := if otB m x 64 then (if t.B then 0 else 90) else 20
def M.thX (m : M) (x : Int) (t : Th) : M := if otB m x 64 && t.B then (m.wrs (x + 16).toNat [t.h0, t.h1, t.bg, t.h3] 4).wrs (x + 32).toNat t.rg 16 else m
def tcM (b : Nat) (m : M) (st : M → List Blk) : List V → Res
  | [.s (.i .i64 a)] => .ok (.tup [.agg (m.tgV a).c, .s (.i .i64 (m.tgE a))]) [] (st (m.tgXC a))
  | _ => .bad
noncomputable def tcG := memF tcM
def Th.up (t : Th) : Prop := sml t.st ∧ sml t.pr ∧ sml t.sl ∧ sml t.pv ∧ sml t.nx ∧ sml t.bl ∧ sml t.bg ∧ sml t.bo ∧ sml t.ha ∧ sml t.fk ∧ sml t.fa
def tsetM (b : Nat) (m : M) (st : M → List Blk) : List V → Res
  | [.s (.i .i64 a), x] => thF (fun t => .ob (t.up ∧ ∀ v, v ∈ t.rg → u64 v) (.ok (.s (.i .i64 (m.thE a t))) [] (st (m.thX a t)))) [x]
  | _ => .bad
noncomputable def tsetG := memF tsetM
theorem set14 {c0 c1 c2 c3 c4 c5 c6 c7 c8 c9 c10 c11 c12 c13 v : S} {X : List S} {i : Nat} : (c0 :: c1 :: c2 :: c3 :: c4 :: c5 :: c6 :: c7 :: c8 :: c9 :: c10 :: c11 :: c12 :: c13 :: X).set (14 + i) v = c0 :: c1 :: c2 :: c3 :: c4 :: c5 :: c6 :: c7 :: c8 :: c9 :: c10 :: c11 :: c12 :: c13 :: X.set i v := by rw [Nat.add_comm]; rfl
theorem put_all' : ∀ (v X P : List S), X.length = v.length → put (P ++ X) P.length v = P ++ v
  | [], X, P, h => by
    have : X = [] := List.length_eq_zero_iff.1 h
    subst this; rfl
  | x :: v, [], P, h => by cases h
  | x :: v, y :: X, P, h => by
    have h2 := put_all' v X (P ++ [x]) (by simpa using h)
    simp only [List.append_assoc, List.cons_append, List.nil_append, List.length_append, List.length_cons, List.length_nil] at h2
    rw [put, ← h2]
    congr 1
    simp
theorem put_all {v X : List S} (h : X.length = v.length) : put X 0 v = v := put_all' v X [] h
end Go.Proofs.Ytdlloccodmdnnaa

/- Package objs: threads, the code's: plain. -/
namespace Go.Proofs.Ytdlloccodmdnnaa
open Go.D
set_option linter.all false
set_option maxRecDepth 100000
set_option maxHeartbeats 8000000

theorem posB_iff {L : List Fi} : posB L = true ↔ ∀ f, f ∈ L → 0 ≤ f.n := by simp [posB]
theorem opB_iff {L : List Fi} : opB L = true ↔ (∀ f, f ∈ L → 0 ≤ f.n) ∧ packB (L.map Fi.fd) 0 = true := by
  simp only [opB, Bool.and_eq_true, posB_iff]
theorem fm_cons {p : Fi → Prop} {x : Fi} {L : List Fi} : (∀ f, f ∈ x :: L → p f) ↔ p x ∧ ∀ f, f ∈ L → p f := by simp
theorem fm_nil {p : Fi → Prop} : (∀ f, f ∈ ([] : List Fi) → p f) ↔ True := by simp
def Th.l0 (t : Th) : List Fi := [⟨3, t.st⟩, ⟨8, t.pr⟩, ⟨3, t.sl⟩, ⟨1, bI t.qd⟩, ⟨1, bI t.cg⟩, ⟨1, bI t.ic⟩, ⟨2, t.fk⟩]
def Th.l1 (t : Th) : List Fi := [⟨16, t.pv⟩, ⟨16, t.nx⟩, ⟨16, t.bl⟩, ⟨16, t.bo⟩]
def Th.l2 (t : Th) : List Fi := [⟨28, t.bg⟩]
def Th.l3 (t : Th) : List Fi := [⟨32, t.ha⟩, ⟨32, t.fa⟩]
theorem bI_s (b : Bool) : sml (bI b) := by have := bI_u b; unfold sml; omega
section
variable {t : Th} (u : t.up)
include u
theorem l0_B : opB t.l0 = true ↔ (0 ≤ t.st ∧ t.st < 8) ∧ (0 ≤ t.pr ∧ t.pr < 256) ∧ (0 ≤ t.sl ∧ t.sl < 8) ∧ (0 ≤ t.fk ∧ t.fk < 4) := by
  have b1 := bI_u t.qd
  have b2 := bI_u t.cg
  have b3 := bI_u t.ic
  have s1 := bI_s t.qd
  have s2 := bI_s t.cg
  have s3 := bI_s t.ic
  obtain ⟨q, hq⟩ : ∃ q, bI t.qd = q := ⟨_, rfl⟩
  obtain ⟨g, hg⟩ : ∃ q, bI t.cg = q := ⟨_, rfl⟩
  obtain ⟨i, hi⟩ : ∃ q, bI t.ic = q := ⟨_, rfl⟩
  simp only [Th.l0, hq, hg, hi] at *
  obtain ⟨v1, v2, v3, _, _, _, _, _, _, v4, _⟩ := u
  rw [opB_iff]
  simp only [fm_cons, fm_nil, and_true]
  constructor
  · rintro ⟨⟨h1, h2, h3, h4, h5, h6, h7⟩, h⟩
    simp only [List.map_cons, List.map_nil, fd_eq ⟨h1, v1⟩, fd_eq ⟨h2, v2⟩, fd_eq ⟨h3, v3⟩, fd_eq ⟨h4, s1⟩, fd_eq ⟨h5, s2⟩, fd_eq ⟨h6, s3⟩, fd_eq ⟨h7, v4⟩, packB_cons, packB_nil, Int.reduceAdd, Int.reduceSub, Int.reduceLE, Int.reduceToNat, Nat.reducePow, and_true, true_and] at h
    omega
  · rintro ⟨h1, h2, h3, h7⟩
    refine ⟨⟨h1.1, h2.1, h3.1, b1.1, b2.1, b3.1, h7.1⟩, ?_⟩
    simp only [List.map_cons, List.map_nil, fd_eq ⟨h1.1, v1⟩, fd_eq ⟨h2.1, v2⟩, fd_eq ⟨h3.1, v3⟩, fd_eq ⟨b1.1, s1⟩, fd_eq ⟨b2.1, s2⟩, fd_eq ⟨b3.1, s3⟩, fd_eq ⟨h7.1, v4⟩, packB_cons, packB_nil, Int.reduceAdd, Int.reduceSub, Int.reduceLE, Int.reduceToNat, Nat.reducePow, and_true, true_and]
    omega
theorem l0_V (h : opB t.l0 = true) : opV t.l0 = t.h0 := by
  rw [opV, if_pos h]
  have h := (l0_B u).1 h
  have b1 := bI_u t.qd
  have b2 := bI_u t.cg
  have b3 := bI_u t.ic
  have s1 := bI_s t.qd
  have s2 := bI_s t.cg
  have s3 := bI_s t.ic
  simp only [Th.l0, Th.h0]
  obtain ⟨v1, v2, v3, _, _, _, _, _, _, v4, _⟩ := u
  obtain ⟨h1, h2, h3, h7⟩ := h
  simp only [List.map_cons, List.map_nil, fd_eq ⟨h1.1, v1⟩, fd_eq ⟨h2.1, v2⟩, fd_eq ⟨h3.1, v3⟩, fd_eq ⟨b1.1, s1⟩, fd_eq ⟨b2.1, s2⟩, fd_eq ⟨b3.1, s3⟩, fd_eq ⟨h7.1, v4⟩, packV, Int.reduceAdd, Int.reduceToNat, Nat.reducePow]
  omega
theorem l1_B : opB t.l1 = true ↔ (0 ≤ t.pv ∧ t.pv < 65536) ∧ (0 ≤ t.nx ∧ t.nx < 65536) ∧ (0 ≤ t.bl ∧ t.bl < 65536) ∧ (0 ≤ t.bo ∧ t.bo < 65536) := by
  obtain ⟨_, _, _, v1, v2, v3, _, v4, _⟩ := u
  rw [opB_iff]
  simp only [Th.l1, fm_cons, fm_nil, and_true]
  constructor
  · rintro ⟨⟨h1, h2, h3, h4⟩, h⟩
    simp only [List.map_cons, List.map_nil, fd_eq ⟨h1, v1⟩, fd_eq ⟨h2, v2⟩, fd_eq ⟨h3, v3⟩, fd_eq ⟨h4, v4⟩, packB_cons, packB_nil, Int.reduceAdd, Int.reduceSub, Int.reduceLE, Int.reduceToNat, Nat.reducePow, and_true, true_and] at h
    omega
  · rintro ⟨h1, h2, h3, h4⟩
    refine ⟨⟨h1.1, h2.1, h3.1, h4.1⟩, ?_⟩
    simp only [List.map_cons, List.map_nil, fd_eq ⟨h1.1, v1⟩, fd_eq ⟨h2.1, v2⟩, fd_eq ⟨h3.1, v3⟩, fd_eq ⟨h4.1, v4⟩, packB_cons, packB_nil, Int.reduceAdd, Int.reduceSub, Int.reduceLE, Int.reduceToNat, Nat.reducePow, and_true, true_and]
    omega
theorem l1_V (h : opB t.l1 = true) : opV t.l1 = t.h1 := by
  rw [opV, if_pos h]
  have h := (l1_B u).1 h
  simp only [Th.l1, Th.h1]
  obtain ⟨_, _, _, v1, v2, v3, _, v4, _⟩ := u
  obtain ⟨h1, h2, h3, h4⟩ := h
  simp only [List.map_cons, List.map_nil, fd_eq ⟨h1.1, v1⟩, fd_eq ⟨h2.1, v2⟩, fd_eq ⟨h3.1, v3⟩, fd_eq ⟨h4.1, v4⟩, packV, Int.reduceAdd, Int.reduceToNat, Nat.reducePow]
  omega
theorem l2_B : opB t.l2 = true ↔ (0 ≤ t.bg ∧ t.bg < 268435456) := by
  obtain ⟨_, _, _, _, _, _, v1, _⟩ := u
  rw [opB_iff]
  simp only [Th.l2, fm_cons, fm_nil, and_true]
  constructor
  · rintro ⟨h1, h⟩
    simp only [List.map_cons, List.map_nil, fd_eq ⟨h1, v1⟩, packB_cons, packB_nil, Int.reduceAdd, Int.reduceSub, Int.reduceLE, Int.reduceToNat, Nat.reducePow, and_true, true_and] at h
    omega
  · rintro h1
    refine ⟨h1.1, ?_⟩
    simp only [List.map_cons, List.map_nil, fd_eq ⟨h1.1, v1⟩, packB_cons, packB_nil, Int.reduceAdd, Int.reduceSub, Int.reduceLE, Int.reduceToNat, Nat.reducePow, and_true, true_and]
    omega
theorem l2_V (h : opB t.l2 = true) : opV t.l2 = t.bg := by
  rw [opV, if_pos h]
  have h1 := (l2_B u).1 h
  simp only [Th.l2]
  obtain ⟨_, _, _, _, _, _, v1, _⟩ := u
  simp only [List.map_cons, List.map_nil, fd_eq ⟨h1.1, v1⟩, packV, Int.reduceAdd, Int.reduceToNat, Nat.reducePow]
  omega
theorem l3_B : opB t.l3 = true ↔ (0 ≤ t.ha ∧ t.ha < 4294967296) ∧ (0 ≤ t.fa ∧ t.fa < 4294967296) := by
  obtain ⟨_, _, _, _, _, _, _, _, v1, _, v2⟩ := u
  rw [opB_iff]
  simp only [Th.l3, fm_cons, fm_nil, and_true]
  constructor
  · rintro ⟨⟨h1, h2⟩, h⟩
    simp only [List.map_cons, List.map_nil, fd_eq ⟨h1, v1⟩, fd_eq ⟨h2, v2⟩, packB_cons, packB_nil, Int.reduceAdd, Int.reduceSub, Int.reduceLE, Int.reduceToNat, Nat.reducePow, and_true, true_and] at h
    omega
  · rintro ⟨h1, h2⟩
    refine ⟨⟨h1.1, h2.1⟩, ?_⟩
    simp only [List.map_cons, List.map_nil, fd_eq ⟨h1.1, v1⟩, fd_eq ⟨h2.1, v2⟩, packB_cons, packB_nil, Int.reduceAdd, Int.reduceSub, Int.reduceLE, Int.reduceToNat, Nat.reducePow, and_true, true_and]
    omega
theorem l3_V (h : opB t.l3 = true) : opV t.l3 = t.h3 := by
  rw [opV, if_pos h]
  have h := (l3_B u).1 h
  simp only [Th.l3, Th.h3]
  obtain ⟨_, _, _, _, _, _, _, _, v1, _, v2⟩ := u
  obtain ⟨h1, h2⟩ := h
  simp only [List.map_cons, List.map_nil, fd_eq ⟨h1.1, v1⟩, fd_eq ⟨h2.1, v2⟩, packV, Int.reduceAdd, Int.reduceToNat, Nat.reducePow]
  omega
theorem th_pk : (opB t.l0 && (opB t.l1 && (opB t.l2 && (opB t.l3 && (decide (t.st ≤ 5) && decide (t.sl ≤ 5)))))) = t.B := by
  rw [Bool.eq_iff_iff, Th.B_iff]
  simp only [Bool.and_eq_true, decide_eq_true_eq, l0_B u, l1_B u, l2_B u, l3_B u]
  constructor
  · rintro ⟨⟨h1, h2, h3, h4⟩, ⟨g1, g2, g3, g4⟩, k1, ⟨j1, j2⟩, i1, i2⟩
    refine ⟨⟨?_, ?_⟩, ⟨?_, ?_⟩, ⟨?_, ?_⟩, ⟨?_, ?_⟩, ⟨?_, ?_⟩, ⟨?_, ?_⟩, ⟨?_, ?_⟩, ⟨?_, ?_⟩, ⟨?_, ?_⟩, ⟨?_, ?_⟩, ⟨?_, ?_⟩⟩ <;> omega
  · rintro ⟨g1, g2, g3, g4, h1, h2, h3, h4, k1, j1, j2⟩
    refine ⟨⟨⟨?_, ?_⟩, ⟨?_, ?_⟩, ⟨?_, ?_⟩, ?_, ?_⟩, ⟨⟨?_, ?_⟩, ⟨?_, ?_⟩, ⟨?_, ?_⟩, ?_, ?_⟩, ⟨?_, ?_⟩, ⟨⟨?_, ?_⟩, ?_, ?_⟩, ?_, ?_⟩ <;> omega
theorem th_hd (hB : t.B = true) : opV t.l0 = t.h0 ∧ opV t.l1 = t.h1 ∧ opV t.l2 = t.bg ∧ opV t.l3 = t.h3 := by
  have := th_pk u
  rw [hB] at this
  simp only [Bool.and_eq_true] at this
  exact ⟨l0_V u this.1, l1_V u this.2.1, l2_V u this.2.2.1, l3_V u this.2.2.2.1⟩
end
/-! ### fields of a thread's words -/
theorem un7_B {w : Int} (hw : u64 w) : unpackB w [3, 8, 3, 1, 1, 1, 2] 0 = decide (w < 524288) := by
  obtain ⟨n, rfl, _⟩ := hw.nat
  simp only [unpackB, fieldB, Int.reduceAdd, Int.reduceSub, Int.reduceLE, Int.reduceToNat, Int.toNat_natCast, Nat.reducePow, and_true, decide_true, Bool.true_and]
  rw [Bool.eq_iff_iff]; simp only [decide_eq_true_eq]; omega
theorem un7_V {w : Int} (hw : u64 w) (h : w < 524288) : ounV w [3, 8, 3, 1, 1, 1, 2] = [w % 8, w / 8 % 256, w / 2048 % 8, w / 16384 % 2, w / 32768 % 2, w / 65536 % 2, w / 131072 % 4] := by
  rw [ounV, un7_B hw, if_pos (by simpa using h)]
  obtain ⟨n, rfl, _⟩ := hw.nat
  simp only [unpackV, getV, Int.reduceAdd, Int.reduceToNat, Int.toNat_natCast, Nat.reducePow, Nat.div_one, List.map_cons, List.map_nil]
  rw [wrap64 (by omega) (by omega), wrap64 (by omega) (by omega), wrap64 (by omega) (by omega), wrap64 (by omega) (by omega), wrap64 (by omega) (by omega), wrap64 (by omega) (by omega), wrap64 (by omega) (by omega)]
  simp only [List.cons.injEq, and_true]
  refine ⟨?_, ?_, ?_, ?_, ?_, ?_, ?_⟩ <;> omega
theorem un7_f {w : Int} (hw : u64 w) (h : ¬ w < 524288) : ounV w [3, 8, 3, 1, 1, 1, 2] = [0, 0, 0, 0, 0, 0, 0] := by
  rw [ounV, un7_B hw, if_neg (by simpa using h)]; rfl
theorem un4_B {w : Int} (hw : u64 w) : unpackB w [16, 16, 16, 16] 0 = true := by
  obtain ⟨n, rfl, hn⟩ := hw.nat
  simp only [unpackB, fieldB, Int.reduceAdd, Int.reduceSub, Int.reduceLE, Int.reduceToNat, Int.toNat_natCast, Nat.reducePow, and_true, decide_true, Bool.true_and]
  simp only [decide_eq_true_eq]
  simp only [u64] at hw
  omega
theorem un4_V {w : Int} (hw : u64 w) : ounV w [16, 16, 16, 16] = [w % 65536, w / 65536 % 65536, w / 4294967296 % 65536, w / 281474976710656] := by
  rw [ounV, un4_B hw, if_pos rfl]
  have hw2 := hw
  obtain ⟨n, rfl, _⟩ := hw.nat
  simp only [u64] at hw2
  simp only [unpackV, getV, Int.reduceAdd, Int.reduceToNat, Int.toNat_natCast, Nat.reducePow, Nat.div_one, List.map_cons, List.map_nil]
  rw [wrap64 (by omega) (by omega), wrap64 (by omega) (by omega), wrap64 (by omega) (by omega), wrap64 (by omega) (by omega)]
  simp only [List.cons.injEq, and_true]
  refine ⟨?_, ?_, ?_, ?_⟩ <;> omega
theorem un1_B {w : Int} (hw : u64 w) : unpackB w [28] 0 = decide (w < 268435456) := by
  obtain ⟨n, rfl, _⟩ := hw.nat
  simp only [unpackB, fieldB, Int.reduceAdd, Int.reduceSub, Int.reduceLE, Int.reduceToNat, Int.toNat_natCast, Nat.reducePow, and_true, decide_true, Bool.true_and]
  rw [Bool.eq_iff_iff]; simp only [decide_eq_true_eq]; omega
theorem un1_V {w : Int} (hw : u64 w) (h : w < 268435456) : ounV w [28] = [w % 268435456] := by
  rw [ounV, un1_B hw, if_pos (by simpa using h)]
  obtain ⟨n, rfl, _⟩ := hw.nat
  simp only [unpackV, getV, Int.reduceAdd, Int.reduceToNat, Int.toNat_natCast, Nat.reducePow, Nat.div_one, List.map_cons, List.map_nil]
  rw [wrap64 (by omega) (by omega)]
  simp only [List.cons.injEq, and_true]
  omega
theorem un1_f {w : Int} (hw : u64 w) (h : ¬ w < 268435456) : ounV w [28] = [0] := by
  rw [ounV, un1_B hw, if_neg (by simpa using h)]; rfl
theorem un22_B {w : Int} (hw : u64 w) : unpackB w [32, 32] 0 = true := by
  obtain ⟨n, rfl, hn⟩ := hw.nat
  simp only [unpackB, fieldB, Int.reduceAdd, Int.reduceSub, Int.reduceLE, Int.reduceToNat, Int.toNat_natCast, Nat.reducePow, and_true, decide_true, Bool.true_and]
  simp only [decide_eq_true_eq]
  simp only [u64] at hw
  omega
theorem un22_V {w : Int} (hw : u64 w) : ounV w [32, 32] = [w % 4294967296, w / 4294967296] := by
  rw [ounV, un22_B hw, if_pos rfl]
  have hw2 := hw
  obtain ⟨n, rfl, _⟩ := hw.nat
  simp only [u64] at hw2
  simp only [unpackV, getV, Int.reduceAdd, Int.reduceToNat, Int.toNat_natCast, Nat.reducePow, Nat.div_one, List.map_cons, List.map_nil]
  rw [wrap64 (by omega) (by omega), wrap64 (by omega) (by omega)]
  simp only [List.cons.injEq, and_true]
  refine ⟨?_, ?_⟩ <;> omega
theorem ic7 {a b c d e f g : Int} : ic [a, b, c, d, e, f, g] = [.i .i64 a, .i .i64 b, .i .i64 c, .i .i64 d, .i .i64 e, .i .i64 f, .i .i64 g] := rfl
theorem ic4 {a b c d : Int} : ic [a, b, c, d] = [.i .i64 a, .i .i64 b, .i .i64 c, .i .i64 d] := rfl
theorem ic1 {a : Int} : ic [a] = [.i .i64 a] := rfl
end Go.Proofs.Ytdlloccodmdnnaa

