/- Package objs: threads, the code's: plain. -/
import Derived.Test.YtdlloccodmdnnaaZ23
/- Package objs: threads, the code's: plain. -/
namespace Go.Proofs.Ytdlloccodmdnnaa
open Go.D
set_option linter.all false
set_option maxRecDepth 100000
set_option maxHeartbeats 8000000

theorem posB_iff {L : List Fi} : posB L = true ↔ ∀ f, f ∈ L → 0 ≤ f.n := by simp [posB]
theorem opB_iff {L : List Fi} : opB L = true ↔ (∀ f, f ∈ L → 0 ≤ f.n) ∧ packB (L.map Fi.fd) 0 = true := by
  simp only [opB, Bool.and_eq_true, posB_iff]
theorem fm_cons {p : Fi → Prop} {x : Fi} {L : List Fi} : (∀ f, f ∈ x :: L → p f) ↔ p x ∧ ∀ f, f ∈ L → p f := by simp
theorem fm_nil {p : Fi → Prop} : (∀ f, f ∈ ([] : List Fi) → p f) ↔ True := by simp
def Th.l0 (t : Th) : List Fi := [⟨3, t.st⟩, ⟨8, t.pr⟩, ⟨3, t.sl⟩, ⟨1, bI t.qd⟩, ⟨1, bI t.cg⟩, ⟨1, bI t.ic⟩, ⟨2, t.fk⟩]
def Th.l1 (t : Th) : List Fi := [⟨16, t.pv⟩, ⟨16, t.nx⟩, ⟨16, t.bl⟩, ⟨16, t.bo⟩]
def Th.l2 (t : Th) : List Fi := [⟨28, t.bg⟩]
def Th.l3 (t : Th) : List Fi := [⟨32, t.ha⟩, ⟨32, t.fa⟩]
theorem bI_s (b : Bool) : sml (bI b) := by have := bI_u b; unfold sml; omega
section
variable {t : Th} (u : t.up)
include u
theorem l0_B : opB t.l0 = true ↔ (0 ≤ t.st ∧ t.st < 8) ∧ (0 ≤ t.pr ∧ t.pr < 256) ∧ (0 ≤ t.sl ∧ t.sl < 8) ∧ (0 ≤ t.fk ∧ t.fk < 4) := by
  have b1 := bI_u t.qd
  have b2 := bI_u t.cg
  have b3 := bI_u t.ic
  have s1 := bI_s t.qd
  have s2 := bI_s t.cg
  have s3 := bI_s t.ic
  obtain ⟨q, hq⟩ : ∃ q, bI t.qd = q := ⟨_, rfl⟩
  obtain ⟨g, hg⟩ : ∃ q, bI t.cg = q := ⟨_, rfl⟩
  obtain ⟨i, hi⟩ : ∃ q, bI t.ic = q := ⟨_, rfl⟩
  simp only [Th.l0, hq, hg, hi] at *
  obtain ⟨v1, v2, v3, _, _, _, _, _, _, v4, _⟩ := u
  rw [opB_iff]
  simp only [fm_cons, fm_nil, and_true]
  constructor
  · rintro ⟨⟨h1, h2, h3, h4, h5, h6, h7⟩, h⟩
    simp only [List.map_cons, List.map_nil, fd_eq ⟨h1, v1⟩, fd_eq ⟨h2, v2⟩, fd_eq ⟨h3, v3⟩, fd_eq ⟨h4, s1⟩, fd_eq ⟨h5, s2⟩, fd_eq ⟨h6, s3⟩, fd_eq ⟨h7, v4⟩, packB_cons, packB_nil, Int.reduceAdd, Int.reduceSub, Int.reduceLE, Int.reduceToNat, Nat.reducePow, and_true, true_and] at h
    omega
  · rintro ⟨h1, h2, h3, h7⟩
    refine ⟨⟨h1.1, h2.1, h3.1, b1.1, b2.1, b3.1, h7.1⟩, ?_⟩
    simp only [List.map_cons, List.map_nil, fd_eq ⟨h1.1, v1⟩, fd_eq ⟨h2.1, v2⟩, fd_eq ⟨h3.1, v3⟩, fd_eq ⟨b1.1, s1⟩, fd_eq ⟨b2.1, s2⟩, fd_eq ⟨b3.1, s3⟩, fd_eq ⟨h7.1, v4⟩, packB_cons, packB_nil, Int.reduceAdd, Int.reduceSub, Int.reduceLE, Int.reduceToNat, Nat.reducePow, and_true, true_and]
    omega
theorem l0_V (h : opB t.l0 = true) : opV t.l0 = t.h0 := by
  rw [opV, if_pos h]
  have h := (l0_B u).1 h
  have b1 := bI_u t.qd
  have b2 := bI_u t.cg
  have b3 := bI_u t.ic
  have s1 := bI_s t.qd
  have s2 := bI_s t.cg
  have s3 := bI_s t.ic
  simp only [Th.l0, Th.h0]
  obtain ⟨v1, v2, v3, _, _, _, _, _, _, v4, _⟩ := u
  obtain ⟨h1, h2, h3, h7⟩ := h
  simp only [List.map_cons, List.map_nil, fd_eq ⟨h1.1, v1⟩, fd_eq ⟨h2.1, v2⟩, fd_eq ⟨h3.1, v3⟩, fd_eq ⟨b1.1, s1⟩, fd_eq ⟨b2.1, s2⟩, fd_eq ⟨b3.1, s3⟩, fd_eq ⟨h7.1, v4⟩, packV, Int.reduceAdd, Int.reduceToNat, Nat.reducePow]
  omega
theorem l1_B : opB t.l1 = true ↔ (0 ≤ t.pv ∧ t.pv < 65536) ∧ (0 ≤ t.nx ∧ t.nx < 65536) ∧ (0 ≤ t.bl ∧ t.bl < 65536) ∧ (0 ≤ t.bo ∧ t.bo < 65536) := by
  obtain ⟨_, _, _, v1, v2, v3, _, v4, _⟩ := u
  rw [opB_iff]
  simp only [Th.l1, fm_cons, fm_nil, and_true]
  constructor
  · rintro ⟨⟨h1, h2, h3, h4⟩, h⟩
    simp only [List.map_cons, List.map_nil, fd_eq ⟨h1, v1⟩, fd_eq ⟨h2, v2⟩, fd_eq ⟨h3, v3⟩, fd_eq ⟨h4, v4⟩, packB_cons, packB_nil, Int.reduceAdd, Int.reduceSub, Int.reduceLE, Int.reduceToNat, Nat.reducePow, and_true, true_and] at h
    omega
  · rintro ⟨h1, h2, h3, h4⟩
    refine ⟨⟨h1.1, h2.1, h3.1, h4.1⟩, ?_⟩
    simp only [List.map_cons, List.map_nil, fd_eq ⟨h1.1, v1⟩, fd_eq ⟨h2.1, v2⟩, fd_eq ⟨h3.1, v3⟩, fd_eq ⟨h4.1, v4⟩, packB_cons, packB_nil, Int.reduceAdd, Int.reduceSub, Int.reduceLE, Int.reduceToNat, Nat.reducePow, and_true, true_and]
    omega
theorem l1_V (h : opB t.l1 = true) : opV t.l1 = t.h1 := by
  rw [opV, if_pos h]
  have h := (l1_B u).1 h
  simp only [Th.l1, Th.h1]
  obtain ⟨_, _, _, v1, v2, v3, _, v4, _⟩ := u
  obtain ⟨h1, h2, h3, h4⟩ := h
  simp only [List.map_cons, List.map_nil, fd_eq ⟨h1.1, v1⟩, fd_eq ⟨h2.1, v2⟩, fd_eq ⟨h3.1, v3⟩, fd_eq ⟨h4.1, v4⟩, packV, Int.reduceAdd, Int.reduceToNat, Nat.reducePow]
  omega
theorem l2_B : opB t.l2 = true ↔ (0 ≤ t.bg ∧ t.bg < 268435456) := by
  obtain ⟨_, _, _, _, _, _, v1, _⟩ := u
  rw [opB_iff]
  simp only [Th.l2, fm_cons, fm_nil, and_true]
  constructor
  · rintro ⟨h1, h⟩
    simp only [List.map_cons, List.map_nil, fd_eq ⟨h1, v1⟩, packB_cons, packB_nil, Int.reduceAdd, Int.reduceSub, Int.reduceLE, Int.reduceToNat, Nat.reducePow, and_true, true_and] at h
    omega
  · rintro h1
    refine ⟨h1.1, ?_⟩
    simp only [List.map_cons, List.map_nil, fd_eq ⟨h1.1, v1⟩, packB_cons, packB_nil, Int.reduceAdd, Int.reduceSub, Int.reduceLE, Int.reduceToNat, Nat.reducePow, and_true, true_and]
    omega
theorem l2_V (h : opB t.l2 = true) : opV t.l2 = t.bg := by
  rw [opV, if_pos h]
  have h1 := (l2_B u).1 h
  simp only [Th.l2]
  obtain ⟨_, _, _, _, _, _, v1, _⟩ := u
  simp only [List.map_cons, List.map_nil, fd_eq ⟨h1.1, v1⟩, packV, Int.reduceAdd, Int.reduceToNat, Nat.reducePow]
  omega
theorem l3_B : opB t.l3 = true ↔ (0 ≤ t.ha ∧ t.ha < 4294967296) ∧ (0 ≤ t.fa ∧ t.fa < 4294967296) := by
  obtain ⟨_, _, _, _, _, _, _, _, v1, _, v2⟩ := u
  rw [opB_iff]
  simp only [Th.l3, fm_cons, fm_nil, and_true]
  constructor
  · rintro ⟨⟨h1, h2⟩, h⟩
    simp only [List.map_cons, List.map_nil, fd_eq ⟨h1, v1⟩, fd_eq ⟨h2, v2⟩, packB_cons, packB_nil, Int.reduceAdd, Int.reduceSub, Int.reduceLE, Int.reduceToNat, Nat.reducePow, and_true, true_and] at h
    omega
  · rintro ⟨h1, h2⟩
    refine ⟨⟨h1.1, h2.1⟩, ?_⟩
    simp only [List.map_cons, List.map_nil, fd_eq ⟨h1.1, v1⟩, fd_eq ⟨h2.1, v2⟩, packB_cons, packB_nil, Int.reduceAdd, Int.reduceSub, Int.reduceLE, Int.reduceToNat, Nat.reducePow, and_true, true_and]
    omega
theorem l3_V (h : opB t.l3 = true) : opV t.l3 = t.h3 := by
  rw [opV, if_pos h]
  have h := (l3_B u).1 h
  simp only [Th.l3, Th.h3]
  obtain ⟨_, _, _, _, _, _, _, _, v1, _, v2⟩ := u
  obtain ⟨h1, h2⟩ := h
  simp only [List.map_cons, List.map_nil, fd_eq ⟨h1.1, v1⟩, fd_eq ⟨h2.1, v2⟩, packV, Int.reduceAdd, Int.reduceToNat, Nat.reducePow]
  omega
theorem th_pk : (opB t.l0 && (opB t.l1 && (opB t.l2 && (opB t.l3 && (decide (t.st ≤ 5) && decide (t.sl ≤ 5)))))) = t.B := by
  rw [Bool.eq_iff_iff, Th.B_iff]
  simp only [Bool.and_eq_true, decide_eq_true_eq, l0_B u, l1_B u, l2_B u, l3_B u]
  constructor
  · rintro ⟨⟨h1, h2, h3, h4⟩, ⟨g1, g2, g3, g4⟩, k1, ⟨j1, j2⟩, i1, i2⟩
    refine ⟨⟨?_, ?_⟩, ⟨?_, ?_⟩, ⟨?_, ?_⟩, ⟨?_, ?_⟩, ⟨?_, ?_⟩, ⟨?_, ?_⟩, ⟨?_, ?_⟩, ⟨?_, ?_⟩, ⟨?_, ?_⟩, ⟨?_, ?_⟩, ⟨?_, ?_⟩⟩ <;> omega
  · rintro ⟨g1, g2, g3, g4, h1, h2, h3, h4, k1, j1, j2⟩
    refine ⟨⟨⟨?_, ?_⟩, ⟨?_, ?_⟩, ⟨?_, ?_⟩, ?_, ?_⟩, ⟨⟨?_, ?_⟩, ⟨?_, ?_⟩, ⟨?_, ?_⟩, ?_, ?_⟩, ⟨?_, ?_⟩, ⟨⟨?_, ?_⟩, ?_, ?_⟩, ?_, ?_⟩ <;> omega
theorem th_hd (hB : t.B = true) : opV t.l0 = t.h0 ∧ opV t.l1 = t.h1 ∧ opV t.l2 = t.bg ∧ opV t.l3 = t.h3 := by
  have := th_pk u
  rw [hB] at this
  simp only [Bool.and_eq_true] at this
  exact ⟨l0_V u this.1, l1_V u this.2.1, l2_V u this.2.2.1, l3_V u this.2.2.2.1⟩
end
/-! ### fields of a thread's words -/
theorem un7_B {w : Int} (hw : u64 w) : unpackB w [3, 8, 3, 1, 1, 1, 2] 0 = decide (w < 524288) := by
  obtain ⟨n, rfl, _⟩ := hw.nat
  simp only [unpackB, fieldB, Int.reduceAdd, Int.reduceSub, Int.reduceLE, Int.reduceToNat, Int.toNat_natCast, Nat.reducePow, and_true, decide_true, Bool.true_and]
  rw [Bool.eq_iff_iff]; simp only [decide_eq_true_eq]; omega
theorem un7_V {w : Int} (hw : u64 w) (h : w < 524288) : ounV w [3, 8, 3, 1, 1, 1, 2] = [w % 8, w / 8 % 256, w / 2048 % 8, w / 16384 % 2, w / 32768 % 2, w / 65536 % 2, w / 131072 % 4] := by
  rw [ounV, un7_B hw, if_pos (by simpa using h)]
  obtain ⟨n, rfl, _⟩ := hw.nat
  simp only [unpackV, getV, Int.reduceAdd, Int.reduceToNat, Int.toNat_natCast, Nat.reducePow, Nat.div_one, List.map_cons, List.map_nil]
  rw [wrap64 (by omega) (by omega), wrap64 (by omega) (by omega), wrap64 (by omega) (by omega), wrap64 (by omega) (by omega), wrap64 (by omega) (by omega), wrap64 (by omega) (by omega), wrap64 (by omega) (by omega)]
  simp only [List.cons.injEq, and_true]
  refine ⟨?_, ?_, ?_, ?_, ?_, ?_, ?_⟩ <;> omega
theorem un7_f {w : Int} (hw : u64 w) (h : ¬ w < 524288) : ounV w [3, 8, 3, 1, 1, 1, 2] = [0, 0, 0, 0, 0, 0, 0] := by
  rw [ounV, un7_B hw, if_neg (by simpa using h)]; rfl
theorem un4_B {w : Int} (hw : u64 w) : unpackB w [16, 16, 16, 16] 0 = true := by
  obtain ⟨n, rfl, hn⟩ := hw.nat
  simp only [unpackB, fieldB, Int.reduceAdd, Int.reduceSub, Int.reduceLE, Int.reduceToNat, Int.toNat_natCast, Nat.reducePow, and_true, decide_true, Bool.true_and]
  simp only [decide_eq_true_eq]
  simp only [u64] at hw
  omega
theorem un4_V {w : Int} (hw : u64 w) : ounV w [16, 16, 16, 16] = [w % 65536, w / 65536 % 65536, w / 4294967296 % 65536, w / 281474976710656] := by
  rw [ounV, un4_B hw, if_pos rfl]
  have hw2 := hw
  obtain ⟨n, rfl, _⟩ := hw.nat
  simp only [u64] at hw2
  simp only [unpackV, getV, Int.reduceAdd, Int.reduceToNat, Int.toNat_natCast, Nat.reducePow, Nat.div_one, List.map_cons, List.map_nil]
  rw [wrap64 (by omega) (by omega), wrap64 (by omega) (by omega), wrap64 (by omega) (by omega), wrap64 (by omega) (by omega)]
  simp only [List.cons.injEq, and_true]
  refine ⟨?_, ?_, ?_, ?_⟩ <;> omega
theorem un1_B {w : Int} (hw : u64 w) : unpackB w [28] 0 = decide (w < 268435456) := by
  obtain ⟨n, rfl, _⟩ := hw.nat
  simp only [unpackB, fieldB, Int.reduceAdd, Int.reduceSub, Int.reduceLE, Int.reduceToNat, Int.toNat_natCast, Nat.reducePow, and_true, decide_true, Bool.true_and]
  rw [Bool.eq_iff_iff]; simp only [decide_eq_true_eq]; omega
theorem un1_V {w : Int} (hw : u64 w) (h : w < 268435456) : ounV w [28] = [w % 268435456] := by
  rw [ounV, un1_B hw, if_pos (by simpa using h)]
  obtain ⟨n, rfl, _⟩ := hw.nat
  simp only [unpackV, getV, Int.reduceAdd, Int.reduceToNat, Int.toNat_natCast, Nat.reducePow, Nat.div_one, List.map_cons, List.map_nil]
  rw [wrap64 (by omega) (by omega)]
  simp only [List.cons.injEq, and_true]
  omega
theorem un1_f {w : Int} (hw : u64 w) (h : ¬ w < 268435456) : ounV w [28] = [0] := by
  rw [ounV, un1_B hw, if_neg (by simpa using h)]; rfl
theorem un22_B {w : Int} (hw : u64 w) : unpackB w [32, 32] 0 = true := by
  obtain ⟨n, rfl, hn⟩ := hw.nat
  simp only [unpackB, fieldB, Int.reduceAdd, Int.reduceSub, Int.reduceLE, Int.reduceToNat, Int.toNat_natCast, Nat.reducePow, and_true, decide_true, Bool.true_and]
  simp only [decide_eq_true_eq]
  simp only [u64] at hw
  omega
theorem un22_V {w : Int} (hw : u64 w) : ounV w [32, 32] = [w % 4294967296, w / 4294967296] := by
  rw [ounV, un22_B hw, if_pos rfl]
  have hw2 := hw
  obtain ⟨n, rfl, _⟩ := hw.nat
  simp only [u64] at hw2
  simp only [unpackV, getV, Int.reduceAdd, Int.reduceToNat, Int.toNat_natCast, Nat.reducePow, Nat.div_one, List.map_cons, List.map_nil]
  rw [wrap64 (by omega) (by omega), wrap64 (by omega) (by omega)]
  simp only [List.cons.injEq, and_true]
  refine ⟨?_, ?_⟩ <;> omega
theorem ic7 {a b c d e f g : Int} : ic [a, b, c, d, e, f, g] = [.i .i64 a, .i .i64 b, .i .i64 c, .i .i64 d, .i .i64 e, .i .i64 f, .i .i64 g] := rfl
theorem ic4 {a b c d : Int} : ic [a, b, c, d] = [.i .i64 a, .i .i64 b, .i .i64 c, .i .i64 d] := rfl
theorem ic1 {a : Int} : ic [a] = [.i .i64 a] := rfl
end Go.Proofs.Ytdlloccodmdnnaa

