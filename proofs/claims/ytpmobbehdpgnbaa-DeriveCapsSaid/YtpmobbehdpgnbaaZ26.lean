/- Package objs: threads, the document's. -/
import Derived.Test.YtpmobbehdpgnbaaZ25
import Derived.Test.YtpmobbehdpgnbaaZ19
import Derived.Test.YtpmobbehdpgnbaaZ13
/- Package objs: notes, in code and document. -/
namespace Go.Proofs.Ytpmobbehdpgnbaa
open Go.D
set_option linter.all false
set_option maxRecDepth 100000
set_option maxHeartbeats 8000000

structure Si where
  s : Int
  h : Int
  t : Int
  g : Int
  b : Int
def Si.cl (q : Si) : List S := [.i .i64 q.s, .i .i64 q.h, .i .i64 q.t, .i .i64 q.g, .i .i64 q.b]
def Si.R (q : Si) : Bool := cond (q.s == 0) (q.h == 0 && (q.t == 0 && q.g == 0)) (cond (q.s == 1) (in3 q.h 1 65535 && (in3 q.t 1 65535 && q.g == 0)) (cond (q.s == 2) (q.h == 0 && q.t == 0) false))
def Si.B (q : Si) : Bool := cond (in3 q.b 0 65535) (cond (in3 q.g 0 268435455) q.R false) false
def Si.C (q : Si) : Bool := cond (q.s == 0) (q.h == 0 && (q.t == 0 && !decide (0 < q.g))) (cond (q.s == 1) (decide (0 < q.h) && (decide (0 < q.t) && !decide (0 < q.g))) (cond (q.s == 2) (q.h == 0 && q.t == 0) false))
def Si.v (q : Si) : Int := Qu.w ⟨q.s, q.h, q.t⟩
def Si.w (q : Si) : Int := q.g + 268435456 * q.b
/-! ### Signal, SetSignal -/
def Si.up (q : Si) : Prop := sml q.s ∧ sml q.h ∧ sml q.t ∧ sml q.g ∧ sml q.b

/-! ### SetSignal -/
end Go.Proofs.Ytpmobbehdpgnbaa

/- Package walk: entries, indices. -/
namespace Go.Proofs.Ytpmobbehdpgnbaa
open Go.D
set_option linter.all false
set_option maxRecDepth 100000
set_option maxHeartbeats 4000000

structure En where
  v : Bool
  l : Bool
  a : Int
  r : Int
def En.c (e : En) : List S := [.b e.v, .b e.l, .i .i64 e.a, .i .i64 e.r]
theorem En.c_len (e : En) : e.c.length = 4 := rfl
theorem En.ext' {e f : En} (h1 : e.v = f.v) (h2 : e.l = f.l) (h3 : e.a = f.a) (h4 : e.r = f.r) : e = f := by
  cases e; cases f; simp only at h1 h2 h3 h4; subst h1; subst h2; subst h3; subst h4; rfl
def En.may (e : En) : Bool :=
  match e.v, e.l with
  | false, l => !l && (e.a == 0 && e.r == 0)
  | true, true => decide (16 ≤ e.a ∧ e.a ≤ 65520 ∧ e.a % 16 = 0 ∧ 0 ≤ e.r ∧ e.r ≤ 3)
  | true, false => decide (8 ≤ e.a ∧ e.a ≤ 65528 ∧ e.a % 8 = 0 ∧ e.r = 0)
def bI (b : Bool) : Int := if b then 1 else 0
def En.w (e : En) : Int := e.a * 65536 + e.r * 4 + (bI e.v + 2 * bI e.l)
/-! ### bits -/
/-! ### package walk -/

/-! ### the document's -/
/-! ### indices -/

/-! ### a walk -/
structure WR where
  a : Int
  r : Int
  l : Int
  e : Int
  m : M
def WR.v (x : WR) : V := .tup [.s (.i .i64 x.a), .s (.i .i64 x.r), .s (.i .i64 x.l), .s (.i .i64 x.e)]
end Go.Proofs.Ytpmobbehdpgnbaa

/- Package objs: registers, entries, roots, in code and document. -/
namespace Go.Proofs.Ytpmobbehdpgnbaa
open Go.D
set_option linter.all false
set_option maxRecDepth 100000
set_option maxHeartbeats 8000000

end Go.Proofs.Ytpmobbehdpgnbaa

/- Package objs: a thread's words. -/
namespace Go.Proofs.Ytpmobbehdpgnbaa
open Go.D
open Nat (reduceAdd reducePow reduceMul reduceSub reduceLeDiff reduceLT reduceEqDiff)
open Int (reduceNeg reduceLE reduceEq reduceNe reduceToNat)
open Go.D renaming istep → zy, pickR → zx, bin1R → zw, un1R → zv, eqS → zu, eq1 → zq, cmpS → zp, cmp1 → zj, isNil → zk, shows → zg, result → zZ, q_cond_t → zV, q_cond_f → zU
open List renaming set → zY, replicate → zX
open Option renaming map → zW
open Nat renaming reduceAdd → zQ, reducePow → yz, reduceMul → yy, reduceSub → yx, reduceLeDiff → yw, reduceLT → yv, reduceEqDiff → yu
open Int renaming reduceNeg → yq, reduceLE → yp, reduceEq → yj, reduceNe → yk, reduceToNat → yg, reducePow → yZ, reduceLT → yY, reduceAdd → yX, reduceSub → yW, reduceMul → yV, reduceBEq → yU, reduceBNe → yQ
set_option linter.all false
set_option maxRecDepth 100000
set_option maxHeartbeats 8000000

structure Th where
  st : Int
  pr : Int
  sl : Int
  qd : Bool
  pv : Int
  nx : Int
  bl : Int
  bg : Int
  cg : Bool
  ic : Bool
  bo : Int
  ha : Int
  fk : Int
  fa : Int
  rg : List Int
def Th.c (t : Th) : List S := .i .i64 t.st :: .i .i64 t.pr :: .i .i64 t.sl :: .b t.qd :: .i .i64 t.pv :: .i .i64 t.nx :: .i .i64 t.bl :: .i .i64 t.bg :: .b t.cg :: .b t.ic :: .i .i64 t.bo :: .i .i64 t.ha :: .i .i64 t.fk :: .i .i64 t.fa :: wc t.rg
def thF (f : Th → Res) : List V → Res
  | [.agg (.i .i64 a :: .i .i64 b :: .i .i64 c :: .b d :: .i .i64 e :: .i .i64 g :: .i .i64 i :: .i .i64 j :: .b k :: .b l :: .i .i64 n :: .i .i64 o :: .i .i64 p :: .i .i64 q :: r)] =>
    match unwc r with
    | some v => .ob (v.length = 16) (f ⟨a, b, c, d, e, g, i, j, k, l, n, o, p, q, v⟩)
    | none => .bad
  | _ => .bad
theorem thF_spec {f : Th → Res} {args : List V} {K : V → List Blk → Prop} (h : (thF f args).spec K) : ∃ t : Th, args = [.agg t.c] ∧ t.rg.length = 16 ∧ (f t).spec K := by
  unfold thF at h
  split at h
  · split at h
    · rename_i v e
      obtain ⟨h1, h2⟩ := h
      exact ⟨⟨_, _, _, _, _, _, _, _, _, _, _, _, _, _, v⟩, by rw [wc_unwc e]; rfl, h1, h2⟩
    · exact h.elim
  · exact h.elim
theorem th_eta (t : Th) : (⟨t.st, t.pr, t.sl, t.qd, t.pv, t.nx, t.bl, t.bg, t.cg, t.ic, t.bo, t.ha, t.fk, t.fa, t.rg⟩ : Th) = t := rfl
def Th.B (t : Th) : Bool := in3 t.pv 0 65535 && (in3 t.nx 0 65535 && (in3 t.bl 0 65535 && (in3 t.bo 0 65535 && (in3 t.st 0 5 && (in3 t.pr 0 255 && (in3 t.sl 0 5 && (in3 t.fk 0 3 && (in3 t.bg 0 268435455 && (in3 t.ha 0 4294967295 && in3 t.fa 0 4294967295)))))))))
theorem Th.B_iff {t : Th} : t.B = true ↔ (0 ≤ t.pv ∧ t.pv ≤ 65535) ∧ (0 ≤ t.nx ∧ t.nx ≤ 65535) ∧ (0 ≤ t.bl ∧ t.bl ≤ 65535) ∧ (0 ≤ t.bo ∧ t.bo ≤ 65535) ∧ (0 ≤ t.st ∧ t.st ≤ 5) ∧ (0 ≤ t.pr ∧ t.pr ≤ 255) ∧ (0 ≤ t.sl ∧ t.sl ≤ 5) ∧ (0 ≤ t.fk ∧ t.fk ≤ 3) ∧ (0 ≤ t.bg ∧ t.bg ≤ 268435455) ∧ (0 ≤ t.ha ∧ t.ha ≤ 4294967295) ∧ (0 ≤ t.fa ∧ t.fa ≤ 4294967295) := by
  simp only [Th.B, Bool.and_eq_true, in3_iff]
def Th.h0 (t : Th) : Int := t.st + 8 * t.pr + 2048 * t.sl + 16384 * bI t.qd + 32768 * bI t.cg + 65536 * bI t.ic + 131072 * t.fk
def Th.h1 (t : Th) : Int := t.pv + 65536 * t.nx + 4294967296 * t.bl + 281474976710656 * t.bo
def Th.h3 (t : Th) : Int := t.ha + 4294967296 * t.fa
theorem bI_u (b : Bool) : 0 ≤ bI b ∧ bI b ≤ 1 := by cases b <;> decide
theorem Th.h_u {t : Th} (h : t.B = true) : u64 t.h0 ∧ u64 t.h1 ∧ u64 t.bg ∧ u64 t.h3 := by
  have := Th.B_iff.1 h
  have b1 := bI_u t.qd
  have b2 := bI_u t.cg
  have b3 := bI_u t.ic
  simp only [u64, Th.h0, Th.h1, Th.h3]; omega
def thBG (args : List V) (h : List Blk) : Res := thF (fun t => .ok (.s (.b t.B)) [] h) args
def thHG (args : List V) (h : List Blk) : Res := thF (fun t => .ob (t.B = true) (.ok (.agg [.i .u64 t.h0, .i .u64 t.h1, .i .u64 t.bg, .i .u64 t.h3]) [] h)) args
theorem wc_take {L : List Int} (h : L.length = 16) : List.take 16 (wc L) = wc L := by rw [List.take_of_length_le]; rw [wc_len]; omega
theorem thB_snd : Snd Try.prog 129 (FSpec.of thBG) := snd_run To3_snd mixed Try.func129 dc129 200 fun args h K hc hS => by
  obtain ⟨t, rfl, hl, hR⟩ := thF_spec hS
  clear hS
  simp only [spec_ok, Th.B] at hR
  simp only [Th.c]
  have w1 := wc_known t.rg
  simp (config := {maxSteps := 9999999}) only [EV0, zy, zx, zw, zv, zu, zq, zp, zj, zk, leT, zg, rvC, zZ, zY, zX, zW, ↓zV, ↓zU, reduceCtorEq, zQ, yz, yZ, yy, yx, yw, yv, yu, yq, yY, yp, yj, yk, yX, yW, yV, yg, yU, yQ, df129, To3, orinG, w1, Bool.and_assoc, sub, put, fillP, EVt]
  exact hR
def bitG : List V → List Blk → Res
  | [.s (.b q)], h => .ok (.s (.i .u64 (bI q))) [] h
  | _, _ => .bad
theorem bit_snd : Snd Try.prog 134 (FSpec.of bitG) := snd_run (noT_snd _) mixed Try.func134 dc134 100 fun args h K hc hS => by
  unfold bitG at hS
  split at hS
  · rename_i q
    simp only [spec_ok, bI] at hS
    cases q
    · simp (config := {maxSteps := 9999999}) only [EV0, zy, zx, zw, zv, zu, zq, zp, zj, zk, leT, zg, rvC, zZ, zY, zX, zW, ↓zV, ↓zU, reduceCtorEq, zQ, yz, yZ, yy, yx, yw, yv, yu, yq, yY, yp, yj, yk, yX, yW, yV, yg, yU, yQ, df134]
      exact hS
    · simp (config := {maxSteps := 9999999}) only [EV0, zy, zx, zw, zv, zu, zq, zp, zj, zk, leT, zg, rvC, zZ, zY, zX, zW, ↓zV, ↓zU, reduceCtorEq, zQ, yz, yZ, yy, yx, yw, yv, yu, yq, yY, yp, yj, yk, yX, yW, yV, yg, yU, yQ, df134]
      exact hS
  · exact hS.elim
noncomputable def To8 : Tab := addT 134 bitG (noT)
theorem To8_snd : To8.Snd Try.prog := addT_snd ok134 bit_snd ((noT_snd _))
theorem thH_snd : Snd Try.prog 130 (FSpec.of thHG) := snd_run To8_snd mixed Try.func130 dc130 200 fun args h K hc hS => by
  obtain ⟨t, rfl, hl, hB, hR⟩ := thF_spec hS
  clear hS
  have hb := Th.B_iff.1 hB
  have b1 := bI_u t.qd
  have b2 := bI_u t.cg
  have b3 := bI_u t.ic
  simp only [spec_ok, Th.h0, Th.h1, Th.h3] at hR
  simp only [Th.c]
  have w1 := wc_known t.rg
  obtain ⟨q, hq⟩ : ∃ q, bI t.qd = q := ⟨_, rfl⟩
  obtain ⟨g, hg⟩ : ∃ q, bI t.cg = q := ⟨_, rfl⟩
  obtain ⟨i, hi⟩ : ∃ q, bI t.ic = q := ⟨_, rfl⟩
  rw [hq] at b1
  rw [hg] at b2
  rw [hi] at b3
  rw [hq, hg, hi] at hR
  have m3 : min 3 IntKind.u64.bits = 3 := rfl
  have m11 : min 11 IntKind.u64.bits = 11 := rfl
  have m14 : min 14 IntKind.u64.bits = 14 := rfl
  have m15 : min 15 IntKind.u64.bits = 15 := rfl
  have m16 : min 16 IntKind.u64.bits = 16 := rfl
  have m17 : min 17 IntKind.u64.bits = 17 := rfl
  have m32 : min 32 IntKind.u64.bits = 32 := rfl
  have m48 : min 48 IntKind.u64.bits = 48 := rfl
  have y1 : IntKind.u64.wrap t.st = t.st := wrapu (by omega) (by omega)
  have y2 : IntKind.u64.wrap t.pr = t.pr := wrapu (by omega) (by omega)
  have y3 : IntKind.u64.wrap (t.pr * 8) = t.pr * 8 := wrapu (by omega) (by omega)
  have y4 : IntKind.u64.wrap (t.st + t.pr * 8) = t.st + t.pr * 8 := wrapu (by omega) (by omega)
  have y5 : IntKind.u64.wrap t.sl = t.sl := wrapu (by omega) (by omega)
  have y6 : IntKind.u64.wrap (t.sl * 2048) = t.sl * 2048 := wrapu (by omega) (by omega)
  have y7 : IntKind.u64.wrap (t.st + t.pr * 8 + t.sl * 2048) = t.st + t.pr * 8 + t.sl * 2048 := wrapu (by omega) (by omega)
  have y8 : IntKind.u64.wrap (q * 16384) = q * 16384 := wrapu (by omega) (by omega)
  have y9 : IntKind.u64.wrap (t.st + t.pr * 8 + t.sl * 2048 + q * 16384) = t.st + t.pr * 8 + t.sl * 2048 + q * 16384 := wrapu (by omega) (by omega)
  have y10 : IntKind.u64.wrap (g * 32768) = g * 32768 := wrapu (by omega) (by omega)
  have y11 : IntKind.u64.wrap (t.st + t.pr * 8 + t.sl * 2048 + q * 16384 + g * 32768) = t.st + t.pr * 8 + t.sl * 2048 + q * 16384 + g * 32768 := wrapu (by omega) (by omega)
  have y12 : IntKind.u64.wrap (i * 65536) = i * 65536 := wrapu (by omega) (by omega)
  have y13 : IntKind.u64.wrap (t.st + t.pr * 8 + t.sl * 2048 + q * 16384 + g * 32768 + i * 65536) = t.st + t.pr * 8 + t.sl * 2048 + q * 16384 + g * 32768 + i * 65536 := wrapu (by omega) (by omega)
  have y14 : IntKind.u64.wrap t.fk = t.fk := wrapu (by omega) (by omega)
  have y15 : IntKind.u64.wrap (t.fk * 131072) = t.fk * 131072 := wrapu (by omega) (by omega)
  have y16 : IntKind.u64.wrap (t.st + t.pr * 8 + t.sl * 2048 + q * 16384 + g * 32768 + i * 65536 + t.fk * 131072) = t.st + 8 * t.pr + 2048 * t.sl + 16384 * q + 32768 * g + 65536 * i + 131072 * t.fk := by rw [wrapu (by omega) (by omega)]; omega
  have z1 : IntKind.u64.wrap t.pv = t.pv := wrapu (by omega) (by omega)
  have z2 : IntKind.u64.wrap t.nx = t.nx := wrapu (by omega) (by omega)
  have z3 : IntKind.u64.wrap (t.nx * 65536) = t.nx * 65536 := wrapu (by omega) (by omega)
  have z4 : IntKind.u64.wrap (t.pv + t.nx * 65536) = t.pv + t.nx * 65536 := wrapu (by omega) (by omega)
  have z5 : IntKind.u64.wrap t.bl = t.bl := wrapu (by omega) (by omega)
  have z6 : IntKind.u64.wrap (t.bl * 4294967296) = t.bl * 4294967296 := wrapu (by omega) (by omega)
  have z7 : IntKind.u64.wrap (t.pv + t.nx * 65536 + t.bl * 4294967296) = t.pv + t.nx * 65536 + t.bl * 4294967296 := wrapu (by omega) (by omega)
  have z8 : IntKind.u64.wrap t.bo = t.bo := wrapu (by omega) (by omega)
  have z9 : IntKind.u64.wrap (t.bo * 281474976710656) = t.bo * 281474976710656 := wrapu (by omega) (by omega)
  have z10 : IntKind.u64.wrap (t.pv + t.nx * 65536 + t.bl * 4294967296 + t.bo * 281474976710656) = t.pv + 65536 * t.nx + 4294967296 * t.bl + 281474976710656 * t.bo := by rw [wrapu (by omega) (by omega)]; omega
  have v1 : IntKind.u64.wrap t.bg = t.bg := wrapu (by omega) (by omega)
  have v2 : IntKind.u64.wrap t.ha = t.ha := wrapu (by omega) (by omega)
  have v3 : IntKind.u64.wrap t.fa = t.fa := wrapu (by omega) (by omega)
  have v4 : IntKind.u64.wrap (t.fa * 4294967296) = t.fa * 4294967296 := wrapu (by omega) (by omega)
  have v5 : IntKind.u64.wrap (t.ha + t.fa * 4294967296) = t.ha + 4294967296 * t.fa := by rw [wrapu (by omega) (by omega)]; omega
  simp (config := {maxSteps := 9999999}) only [EV0, zy, zx, zw, zv, zu, zq, zp, zj, zk, leT, zg, rvC, zZ, zY, zX, zW, ↓zV, ↓zU, reduceCtorEq, zQ, yz, yZ, yy, yx, yw, yv, yu, yq, yY, yp, yj, yk, yX, yW, yV, yg, yU, yQ, df130, To8, bitG, w1, hq, hg, hi, m3, m11, m14, m15, m16, m17, m32, m48, y1, y2, y3, y4, y5, y6, y7, y8, y9, y10, y11, y12, y13, y14, y15, y16, z1, z2, z3, z4, z5, z6, z7, z8, z9, z10, v1, v2, v3, v4, v5, sub, put, fillP, EVt]
  exact hR

def M.tks (m : M) : Nat → M
  | 0 => m
  | k + 1 => (m.tks k).tick 1
def M.wrs (m : M) (o : Nat) (ws : List Int) : Nat → M
  | 0 => m
  | k + 1 => ((m.wrs o ws k).put (o + k) (nth 0 ws k)).tick 1
theorem M.wrs_len (m : M) (o : Nat) (ws : List Int) : ∀ k, (m.wrs o ws k).w.length = m.w.length
  | 0 => rfl
  | k + 1 => by rw [M.wrs, M.tick_len, M.put_len, M.wrs_len m o ws k]
theorem M.wrs_has (m : M) (o : Nat) (ws : List Int) (k : Nat) (j n : Int) : (m.wrs o ws k).has j n = m.has j n := by simp only [M.has, M.wrs_len]
def thOk (w0 w2 : Int) : Bool := decide (w0 < 524288) && (decide (w2 < 268435456) && (decide (w0 % 8 ≤ 5) && decide (w0 / 2048 % 8 ≤ 5)))
theorem Th.ok {t : Th} (h : t.B = true) : thOk t.h0 t.bg = true := by
  have := Th.B_iff.1 h
  have b1 := bI_u t.qd
  have b2 := bI_u t.cg
  have b3 := bI_u t.ic
  simp only [thOk, Bool.and_eq_true, decide_eq_true_eq]
  simp only [Th.h0]
  refine ⟨?_, ?_, ?_, ?_⟩ <;> omega
def M.thE (m : M) (x : Int) (t : Th) : Int := if otB m x 64 then (if t.B then 0 else 90) else 20
def M.thX (m : M) (x : Int) (t : Th) : M := if otB m x 64 && t.B then (m.wrs (x + 16).toNat [t.h0, t.h1, t.bg, t.h3] 4).wrs (x + 32).toNat t.rg 16 else m
def Th.up (t : Th) : Prop := sml t.st ∧ sml t.pr ∧ sml t.sl ∧ sml t.pv ∧ sml t.nx ∧ sml t.bl ∧ sml t.bg ∧ sml t.bo ∧ sml t.ha ∧ sml t.fk ∧ sml t.fa
def tsetM (b : Nat) (m : M) (st : M → List Blk) : List V → Res
  | [.s (.i .i64 a), x] => thF (fun t => .ob (t.up ∧ ∀ v, v ∈ t.rg → u64 v) (.ok (.s (.i .i64 (m.thE a t))) [] (st (m.thX a t)))) [x]
  | _ => .bad
noncomputable def tsetG := memF tsetM
theorem put_all' : ∀ (v X P : List S), X.length = v.length → put (P ++ X) P.length v = P ++ v
  | [], X, P, h => by
    have : X = [] := List.length_eq_zero_iff.1 h
    subst this; rfl
  | x :: v, [], P, h => by cases h
  | x :: v, y :: X, P, h => by
    have h2 := put_all' v X (P ++ [x]) (by simpa using h)
    simp only [List.append_assoc, List.cons_append, List.nil_append, List.length_append, List.length_cons, List.length_nil] at h2
    rw [put, ← h2]
    congr 1
    simp
theorem get14 {c0 c1 c2 c3 c4 c5 c6 c7 c8 c9 c10 c11 c12 c13 : S} {X : List S} {i : Nat} : (c0 :: c1 :: c2 :: c3 :: c4 :: c5 :: c6 :: c7 :: c8 :: c9 :: c10 :: c11 :: c12 :: c13 :: X)[14 + i]? = X[i]? := by rw [Nat.add_comm]; rfl
noncomputable def To9 : Tab := addT 128 otG (addT 84 readG (addT 88 writeG (addT 129 thBG (addT 130 thHG (noT)))))
theorem To9_snd : To9.Snd Try.prog := addT_snd ok128 rot_snd (addT_snd ok84 rread_snd (addT_snd ok88 rwrite_snd (addT_snd ok129 thB_snd (addT_snd ok130 thH_snd ((noT_snd _))))))
theorem rtset_snd' : Snd Try.prog 124 (FSpec.of tsetG) := snd_run To9_snd mixed Try.func124 dc124 300 fun args h K hc hS => by
  obtain ⟨a, b, m, rest, rfl, H, hS1⟩ := memF_spec hS
  clear hS
  have hS := hS1
  clear hS1
  unfold tsetM at hS
  split at hS
  · rename_i x y
    obtain ⟨t, e, hrl, ⟨hup, hru⟩, hR⟩ := thF_spec hS
    clear hS
    simp only [List.cons.injEq, and_true] at e
    subst e
    simp only [spec_ok, M.thE, M.thX] at hR
    have n4 : (0 : Int) < 64 ∧ (64 : Int) ≤ 64 := by decide
    have k1 := wc_known t.rg
    have k2 : (wc t.rg).all S.noL = true := wc_all (fun _ => rfl) _
    have k3 : (wc t.rg).length = 16 := by rw [wc_len, hrl]
    simp only [Th.c]
    cases ht : otB m x 64 with
    | false =>
      simp only [ht, Bool.false_and, Bool.false_eq_true, if_false, setM_self H] at hR
      simp (config := {maxSteps := 9999999}) only [EV0, zy, zx, zw, zv, zu, zq, zp, zj, zk, leT, zg, rvC, zZ, zY, zX, zW, ↓zV, ↓zU, reduceCtorEq, zQ, yz, yZ, yy, yx, yw, yv, yu, yq, yY, yp, yj, yk, yX, yW, yV, yg, yU, yQ, df124, To9, otG, memF_eq H, otM, n4, setM_self H, ht, k1, k2]
      exact hR
    | true =>
      have hb := otB_iff.1 ht
      have hl := m.l
      cases hB : t.B with
      | false =>
        simp only [ht, hB, Bool.true_and, Bool.false_eq_true, if_true, if_false, setM_self H] at hR
        simp (config := {maxSteps := 9999999}) only [EV0, zy, zx, zw, zv, zu, zq, zp, zj, zk, leT, zg, rvC, zZ, zY, zX, zW, ↓zV, ↓zU, reduceCtorEq, zQ, yz, yZ, yy, yx, yw, yv, yu, yq, yY, yp, yj, yk, yX, yW, yV, yg, yU, yQ, df124, To9, otG, memF_eq H, otM, n4, setM_self H, ht, k1, k2, k3, thBG, thF, unwc_wc, hrl, th_eta, hB, wc_take hrl, sub, EVt]
        exact hR
      | true =>
        simp only [ht, hB, Bool.true_and, if_true] at hR
        obtain ⟨i, rfl⟩ : ∃ i : Nat, x = i := ⟨x.toNat, by omega⟩
        obtain ⟨o, ho⟩ : ∃ o, i + 16 = o := ⟨_, rfl⟩
        obtain ⟨o2, ho2⟩ : ∃ o, i + 32 = o := ⟨_, rfl⟩
        have e1 : IntKind.i64.wrap ((i : Int) + 16) = (o : Int) := by rw [wrap64 (by omega) (by omega)]; omega
        have e2 : IntKind.i64.wrap ((i : Int) + 32) = (o2 : Int) := by rw [wrap64 (by omega) (by omega)]; omega
        rw [show ((i : Int) + 16).toNat = o by omega, show ((i : Int) + 32).toNat = o2 by omega] at hR
        obtain ⟨u0, u1, u2, u3⟩ := Th.h_u hB
        obtain ⟨ws, hws⟩ : ∃ ws, [t.h0, t.h1, t.bg, t.h3] = ws := ⟨_, rfl⟩
        have hwl : ws.length = 4 := by rw [← hws]; rfl
        have hwu : ∀ v, v ∈ ws → u64 v := by
          rw [← hws]
          intro v hv
          simp only [List.mem_cons, List.not_mem_nil, or_false] at hv
          rcases hv with rfl | rfl | rfl | rfl <;> assumption
        have hwc : [S.i .u64 t.h0, S.i .u64 t.h1, S.i .u64 t.bg, S.i .u64 t.h3] = wc ws := by rw [← hws]; rfl
        rw [hws] at hR
        simp (config := {maxSteps := 9999999}) only [EV0, zy, zx, zw, zv, zu, zq, zp, zj, zk, leT, zg, rvC, zZ, zY, zX, zW, ↓zV, ↓zU, reduceCtorEq, zQ, yz, yZ, yy, yx, yw, yv, yu, yq, yY, yp, yj, yk, yX, yW, yV, yg, yU, yQ, df124, To9, otG, memF_eq H, otM, n4, setM_self H, ht, k1, k2, k3, thBG, thHG, thF, unwc_wc, hrl, th_eta, hB, wc_take hrl, put, fillP, sub, EVt]
        refine loop_rule (α := Nat) [10, 23, 24, 25, 26, 27, 28, 29, 30, 31, 32, 33, 34, 35] (fun q => [(10, .s (.i .i64 q))]) (fun q => [⟨.rw, t.c, 30⟩, ⟨.rw, wc ws, 4⟩]) (fun q => setM h a b (m.wrs o ws q)) (fun q => q ≤ 4) (fun q => 4 - q) 0 (by omega) ?_ ?_
        · rw [M.wrs, setM_self H, ← hwc]
          refine Wk.same rfl rfl ?_
          simp (config := {maxSteps := 9999999}) only [EV0, zy, zx, zw, zv, zu, zq, zp, zj, zk, leT, zg, rvC, zZ, zY, zX, zW, ↓zV, ↓zU, reduceCtorEq, zQ, yz, yZ, yy, yx, yw, yv, yu, yq, yY, yp, yj, yk, yX, yW, yV, yg, yU, yQ, Int.natCast_zero]
        · rintro X q hq IH
          rcases Nat.lt_or_ge q 4 with h1 | h1
          · have d1 : ((q : Int) < 4) := by omega
            have d3 : (0 : Int) ≤ q := by omega
            have d4 : IntKind.i64.wrap ((q : Int) + 1) = ((q + 1 : Nat) : Int) := by rw [wrap64 (by omega) (by omega)]; omega
            have w1 : IntKind.i64.wrap ((o : Int) + q) = ((o + q : Nat) : Int) := by rw [wrap64 (by omega) (by omega)]; omega
            have h0 : m.has ((o + q : Nat) : Int) 1 = true := M.has_of (by omega)
            have g := wc_get (w := ws) (i := q) (by omega)
            have hu : u64 (nth 0 ws q) := by rw [nth_eq (by omega)]; exact hwu _ (List.getElem_mem _)
            refine run_sound (Tab.ok_Γ _) 100 _ _ _ _ ?_
            simp (config := {maxSteps := 9999999}) only [EV0, zy, zx, zw, zv, zu, zq, zp, zj, zk, leT, zg, rvC, zZ, zY, zX, zW, ↓zV, ↓zU, reduceCtorEq, zQ, yz, yZ, yy, yx, yw, yv, yu, yq, yY, yp, yj, yk, yX, yW, yV, yg, yU, yQ, To9, e1, d1, d3, d4, w1, writeG, memF_set H, writeM, M.wrs_has, h0, h1, g, hu, Int.toNat_natCast]
            exact IH (q + 1) _ (by omega) (by omega) (Wk.same rfl rfl (by simp (config := {maxSteps := 9999999}) only [EV0, zy, zx, zw, zv, zu, zq, zp, zj, zk, leT, zg, rvC, zZ, zY, zX, zW, ↓zV, ↓zU, reduceCtorEq, zQ, yz, yZ, yy, yx, yw, yv, yu, yq, yY, yp, yj, yk, yX, yW, yV, yg, yU, yQ]))
          · have : q = 4 := by omega
            subst this
            clear IH
            refine run_sound (Tab.ok_Γ _) 100 _ _ _ _ ?_
            simp (config := {maxSteps := 9999999}) only [EV0, zy, zx, zw, zv, zu, zq, zp, zj, zk, leT, zg, rvC, zZ, zY, zX, zW, ↓zV, ↓zU, reduceCtorEq, zQ, yz, yZ, yy, yx, yw, yv, yu, yq, yY, yp, yj, yk, yX, yW, yV, yg, yU, yQ, Int.lt_irrefl]
            refine loop_rule (α := Nat) [11, 36, 37, 38, 39, 40, 41, 42, 43, 44, 45, 46, 47, 48, 49] (fun q => [(11, .s (.i .i64 q))]) (fun q => [⟨.rw, t.c, 30⟩, ⟨.rw, wc ws, 4⟩]) (fun q => setM h a b ((m.wrs o ws 4).wrs o2 t.rg q)) (fun q => q ≤ 16) (fun q => 16 - q) 0 (by omega) ?_ ?_
            · refine Wk.same rfl rfl ?_
              simp (config := {maxSteps := 9999999}) only [EV0, zy, zx, zw, zv, zu, zq, zp, zj, zk, leT, zg, rvC, zZ, zY, zX, zW, ↓zV, ↓zU, reduceCtorEq, zQ, yz, yZ, yy, yx, yw, yv, yu, yq, yY, yp, yj, yk, yX, yW, yV, yg, yU, yQ, Int.natCast_zero]
            · rintro X q hq IH
              simp only [Th.c]
              rcases Nat.lt_or_ge q 16 with h1 | h1
              · have d1 : ((q : Int) < 16) := by omega
                have d3 : (0 : Int) ≤ q := by omega
                have d4 : IntKind.i64.wrap ((q : Int) + 1) = ((q + 1 : Nat) : Int) := by rw [wrap64 (by omega) (by omega)]; omega
                have w1 : IntKind.i64.wrap ((o2 : Int) + q) = ((o2 + q : Nat) : Int) := by rw [wrap64 (by omega) (by omega)]; omega
                have h0 : m.has ((o2 + q : Nat) : Int) 1 = true := M.has_of (by omega)
                have g := wc_get (w := t.rg) (i := q) (by omega)
                have hu : u64 (nth 0 t.rg q) := by rw [nth_eq (by omega)]; exact hru _ (List.getElem_mem _)
                refine run_sound (Tab.ok_Γ _) 100 _ _ _ _ ?_
                simp (config := {maxSteps := 9999999}) only [EV0, zy, zx, zw, zv, zu, zq, zp, zj, zk, leT, zg, rvC, zZ, zY, zX, zW, ↓zV, ↓zU, reduceCtorEq, zQ, yz, yZ, yy, yx, yw, yv, yu, yq, yY, yp, yj, yk, yX, yW, yV, yg, yU, yQ, To9, e2, d1, d3, d4, w1, writeG, memF_set H, writeM, M.wrs_has, h0, h1, g, get14, hu, k3, Int.toNat_natCast]
                exact IH (q + 1) _ (by omega) (by omega) (Wk.same rfl rfl (by simp (config := {maxSteps := 9999999}) only [EV0, zy, zx, zw, zv, zu, zq, zp, zj, zk, leT, zg, rvC, zZ, zY, zX, zW, ↓zV, ↓zU, reduceCtorEq, zQ, yz, yZ, yy, yx, yw, yv, yu, yq, yY, yp, yj, yk, yX, yW, yV, yg, yU, yQ]))
              · have : q = 16 := by omega
                subst this
                clear IH
                refine run_sound (Tab.ok_Γ _) 100 _ _ _ _ ?_
                simp (config := {maxSteps := 9999999}) only [EV0, zy, zx, zw, zv, zu, zq, zp, zj, zk, leT, zg, rvC, zZ, zY, zX, zW, ↓zV, ↓zU, reduceCtorEq, zQ, yz, yZ, yy, yx, yw, yv, yu, yq, yY, yp, yj, yk, yX, yW, yV, yg, yU, yQ, Int.lt_irrefl]
                exact hR
  · exact hS.elim
end Go.Proofs.Ytpmobbehdpgnbaa

