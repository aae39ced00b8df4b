/- Law 12: DerivePlays: the walk. -/
import Derived.Test.YtcdfofeolgbnbaaGreatZ30
import Derived.Test.YtcdfofeolgbnbaaGreatZ31
import Derived.Test.YtcdfofeolgbnbaaGreatZ18
import Derived.Test.YtcdfofeolgbnbaaGreatZ13
/- Law 12: the plan's caps. -/
namespace Go.Proofs.YtcdfofeolgbnbaaGreat
open Go.D
set_option linter.all false
set_option maxRecDepth 100000
set_option maxHeartbeats 8000000

theorem DI.touch {m m' : M} {L : List Int} (D : DI m L) (hl : m'.w.length = m.w.length) (h2 : m'.at 2 = m.at 2) (ha : ∀ x,x ∈ PB → ∀ k : Int,0 ≤ k → k ≤ 3 → m'.at (x + k) = m.at (x + k)) : DI m' L ∧ ∀ x,x ∈ PB → m'.gE x = m.gE x ∧ m'.gV x = m.gV x:=by
 have ht : ∀ x,thereB m' x = thereB m x:=fun x => by simp only [thereB,hl]
 have key : ∀ x,x ∈ PB → m'.gE x = m.gE x ∧ m'.gV x = m.gV x:=fun x hx => by
  have a0:=ha x hx 0 (by omega) (by omega)
  rw [Int.add_zero] at a0
  have a1:=ha x hx 1 (by omega) (by omega)
  have a2:=ha x hx 2 (by omega) (by omega)
  have a3:=ha x hx 3 (by omega) (by omega)
  exact ⟨by simp only [M.gE,M.slotB,ht,a0,a1,a2,a3]; rfl,by simp only [M.gV,M.slotB,M.slotC,ht,a0,a1,a2,a3]; rfl⟩
 have hf : m'.fst = m.fst:=by simp only [M.fst,keptV,keptB,M.has,h2,hl]; rfl
 have hfE : ∀ x,x ∈ PB → m'.fE x = m.fE x:=fun x hx => by simp only [M.fE,(key x hx).1,(key x hx).2]
 refine ⟨⟨⟨by rw [hl]; exact D.inv.len,by rw [h2,hf]; exact D.inv.two,D.inv.nd,fun x hx => by rw [hfE x (D.sub x hx)]; exact D.inv.full x hx,chain_congr (fun x hx => by rw [(key x (D.sub x hx)).2]; exact ⟨rfl,rfl⟩) D.inv.ch,by rw [hf]; exact D.inv.fst,fun x hx => by rw [(key x hx).1,(key x hx).2]; exact D.inv.out x hx⟩,D.sub,fun x hx hn => by rw [(key x hx).2]; exact D.z x hx hn,fun i x hx => by rw [(key x (D.sub x (List.mem_of_getElem? hx))).2]; exact D.dep i x hx,by rw [hl]; exact D.len⟩,key⟩

theorem wrs_out (m : M) (o : Nat) (ws : List Int) (j : Nat) : ∀ k,(j < o ∨ o + k ≤ j) → (m.wrs o ws k).at j = m.at j
 | 0,_ => rfl
 | k + 1,h => by
  rw [M.wrs,M.at_tick,M.at_put,if_neg (by omega),wrs_out m o ws j k (by omega)]
def capT : List (Int × Cap × Int) → Int → Cap × Int
 | [],_ => (capZ,0)
 | (a,c,d) :: T,x => if x = a then (c,d) else capT T x
structure Rep (m : M) (T : List (Int × Cap × Int)) : Prop where
 di : ∃ L,DI m L ∧ ∀ x,x ∈ L ↔ x ∈ T.map (·.1)
 cap : ∀ x,x ∈ PB → ((m.gV x).cap,(m.gV x).depth) = capT T x
theorem Rep.lay {m : M} {T : List (Int × Cap × Int)} (R : Rep m T) (p a : Int) (c : Cap) (d : Int) (hp : p = 0 ∨ p ∈ T.map (·.1)) (haP : a ∈ PB) (hpP : p = 0 ∨ p ∈ PB) (haT : a ∉ T.map (·.1)) (hc : c.ty ≠ 0) (hr : slotRB ⟨c,0,0,0⟩ = true) (hd : d = if p = 0 then 0 else (capT T p).2 + 1) : Rep (m.rlayX p a c) ((a,c,d) :: T):=by
 obtain ⟨L,D,hL⟩:=R.di
 obtain ⟨e1,e2,e3,e4,e5⟩:=D.lay (r:=m) rfl (p:=p) (a:=a) (by rw [hL]; exact hp) haP (by rw [hL]; exact haT) hc hr
 refine ⟨⟨_,e2.of_w e1,fun x => ?_⟩,fun x hx => ?_⟩
 ·simp only [List.map_cons,List.mem_cons,← hL]
  unfold insLL
  split
  ·rw [List.mem_cons]
  ·rename_i h0
   constructor
   ·exact insL_mem
   ·rintro (h | h)
    ·rw [h]; exact a_insL ((hL p).2 (hp.resolve_left h0))
    ·exact mem_insL h
 ·have hx0:=D.n0 hx
  rw [gV_w e1,e5 x hx0,jnV_cap,jnV_depth]
  unfold capT
  by_cases e : x = a
  ·simp only [if_pos e]
   rw [hd]
   rcases hpP with h | h
   ·simp only [h,if_true]
   ·have:=R.cap p h
    rw [← this]
  ·simp only [if_neg e]
   exact R.cap x hx
theorem PB_off : ∀ x,x ∈ PB → 32 ≤ x ∧ x.tmod 4 = 0 ∧ x ≤ 8188 ∧ (x < 1024 → x + 3 < 48) ∧ (¬ x < 1024 → ¬ x < 2048 → True) ∧ (¬ x < 1024 → x < 2048 → x % 64 = 0):=by decide
theorem Rep.th {m : M} {T : List (Int × Cap × Int)} (R : Rep m T) (i : Nat) (hi : i < 4) (t : Th) (ht : t.rg.length = 16) : Rep (m.thX (1024 + 64 * (i : Int)) t) T:=by
 obtain ⟨L,D,hL⟩:=R.di
 have hlen:=D.len
 have hat : ∀ j : Nat,j < 1024 ∨ 2048 ≤ j ∨ j % 64 < 4 → (m.thX (1024 + 64 * (i : Int)) t).at j = m.at j:=fun j hj => by
  unfold M.thX
  split
  ·rw [wrs_out _ _ _ _ _ (by omega),wrs_out _ _ _ _ _ (by omega)]
  ·rfl
 have hl : (m.thX (1024 + 64 * (i : Int)) t).w.length = m.w.length:=by
  unfold M.thX; split
  ·rw [M.wrs_len,M.wrs_len]
  ·rfl
 obtain ⟨D2,k⟩:=D.touch hl (hat 2 (by omega)) (fun x hx k h0 h3 => by
  obtain ⟨o1,o2,o3,o4,_,o6⟩:=PB_off x hx
  have e : x + k = ((x + k).toNat : Int):=by omega
  rw [e]
  refine hat _ ?_
  by_cases c1 : x < 1024
  ·have:=o4 c1; omega
  ·by_cases c2 : x < 2048
   ·have:=o6 c1 c2; omega
   ·omega)
 exact ⟨⟨L,D2,hL⟩,fun x hx => by rw [(k x hx).2]; exact R.cap x hx⟩
theorem rep_0 : Rep (M.zero 13) []:=by
 have hl : (M.zero 13).w.length = 8192:=by rw [M.zero_len]; rfl
 have z : ∀ j,(M.zero 13).at j = 0:=M.at_zero 13
 have key : ∀ x,x ∈ PB → (M.zero 13).gE x = 0 ∧ (M.zero 13).gV x = slotZ:=fun x hx => by
  obtain ⟨o1,o2,o3,_⟩:=PB_off x hx
  have ht : thereB (M.zero 13) x = true:=there_iff.2 ⟨by omega,o2,by rw [hl]; omega⟩
  have hb : (M.zero 13).slotB x = true:=by simp only [M.slotB,z]; decide
  refine ⟨gE_zero ht hb, ?_⟩
  unfold M.gV
  rw [if_pos ⟨ht,hb⟩]
  simp only [M.slotC,z]; rfl
 have hf : (M.zero 13).fst = 0:=by
  have hh : (M.zero 13).has 2 1 = true:=M.has_iff.2 (by rw [hl]; omega)
  have hw0 : IntKind.i64.wrap 0 = 0:=rfl
  simp only [M.fst,z,hh,if_true,keptV,keptB,hw0]
  simp
 have I : (M.zero 13).Inv (· ∈ PB) []:=⟨⟨by rw [hl]; decide,by rw [hl]⟩,by rw [z,hf],List.nodup_nil,fun x hx => (nomatch hx),trivial,hf,fun x hx => ⟨(key x hx).1,fun _ => by rw [(key x hx).2]; exact ⟨rfl,rfl,rfl⟩⟩⟩
 have D : DI (M.zero 13) []:=⟨I,fun x hx => (nomatch hx),fun x hx _ => (key x hx).2,fun i x hx => by simp at hx,hl⟩
 exact ⟨⟨[],D,fun x => by simp⟩,fun x hx => by rw [(key x hx).2]; rfl⟩

def repT0 : List (Int × Cap × Int):=[]
theorem rep_1 : Rep (bA 1) ((32,⟨3,1024,0,0,0,0,0,0,0,0,0⟩,0) :: repT0):=(Rep.th (T:=repT0) rep_0 0 (by decide) (thBs 0) rfl).lay 0 32 ⟨3,1024,0,0,0,0,0,0,0,0,0⟩ 0 (by decide) (by decide) (by decide) (by decide) (by decide) (by decide) (by decide)
def repT1 : List (Int × Cap × Int):=(32,⟨3,1024,0,0,0,0,0,0,0,0,0⟩,0) :: repT0
theorem rep_2 : Rep (bA 2) ((36,⟨3,1088,0,0,0,0,0,0,0,0,0⟩,0) :: repT1):=(Rep.th (T:=repT1) rep_1 1 (by decide) (thBs 1) rfl).lay 0 36 ⟨3,1088,0,0,0,0,0,0,0,0,0⟩ 0 (by decide) (by decide) (by decide) (by decide) (by decide) (by decide) (by decide)
def repT2 : List (Int × Cap × Int):=(36,⟨3,1088,0,0,0,0,0,0,0,0,0⟩,0) :: repT1
theorem rep_3 : Rep (bA 3) ((40,⟨3,1152,0,0,0,0,0,0,0,0,0⟩,0) :: repT2):=(Rep.th (T:=repT2) rep_2 2 (by decide) (thBs 2) rfl).lay 0 40 ⟨3,1152,0,0,0,0,0,0,0,0,0⟩ 0 (by decide) (by decide) (by decide) (by decide) (by decide) (by decide) (by decide)
def repT3 : List (Int × Cap × Int):=(40,⟨3,1152,0,0,0,0,0,0,0,0,0⟩,0) :: repT2
theorem rep_4 : Rep (bA 4) ((44,⟨3,1216,0,0,0,0,0,0,0,0,0⟩,0) :: repT3):=(Rep.th (T:=repT3) rep_3 3 (by decide) (thBs 3) rfl).lay 0 44 ⟨3,1216,0,0,0,0,0,0,0,0,0⟩ 0 (by decide) (by decide) (by decide) (by decide) (by decide) (by decide) (by decide)
def repT4 : List (Int × Cap × Int):=(44,⟨3,1216,0,0,0,0,0,0,0,0,0⟩,0) :: repT3
theorem rep_5 : Rep (bB 0) ((1024,⟨2,2048,8,0,0,24,0,0,0,0,0⟩,0) :: repT4):=(show Rep _ repT4 from rep_4).lay 0 1024 ⟨2,2048,8,0,0,24,0,0,0,0,0⟩ 0 (by decide) (by decide) (by decide) (by decide) (by decide) (by decide) (by decide)
def repT5 : List (Int × Cap × Int):=(1024,⟨2,2048,8,0,0,24,0,0,0,0,0⟩,0) :: repT4
theorem rep_6 : Rep (bB 1) ((1088,⟨2,2048,8,0,0,24,0,0,0,0,0⟩,1) :: repT5):=(show Rep _ repT5 from rep_5).lay 1024 1088 ⟨2,2048,8,0,0,24,0,0,0,0,0⟩ 1 (by decide) (by decide) (by decide) (by decide) (by decide) (by decide) (by decide)
def repT6 : List (Int × Cap × Int):=(1088,⟨2,2048,8,0,0,24,0,0,0,0,0⟩,1) :: repT5
theorem rep_7 : Rep (bB 2) ((1152,⟨2,2048,8,0,0,24,0,0,0,0,0⟩,1) :: repT6):=(show Rep _ repT6 from rep_6).lay 1024 1152 ⟨2,2048,8,0,0,24,0,0,0,0,0⟩ 1 (by decide) (by decide) (by decide) (by decide) (by decide) (by decide) (by decide)
def repT7 : List (Int × Cap × Int):=(1152,⟨2,2048,8,0,0,24,0,0,0,0,0⟩,1) :: repT6
theorem rep_8 : Rep (bB 3) ((1216,⟨2,2048,8,0,0,24,0,0,0,0,0⟩,1) :: repT7):=(show Rep _ repT7 from rep_7).lay 1024 1216 ⟨2,2048,8,0,0,24,0,0,0,0,0⟩ 1 (by decide) (by decide) (by decide) (by decide) (by decide) (by decide) (by decide)
def repT8 : List (Int × Cap × Int):=(1216,⟨2,2048,8,0,0,24,0,0,0,0,0⟩,1) :: repT7
theorem rep_9 : Rep ((bB 3).l9 1 (capB 2 3072 3)) ((2052,⟨2,3072,3,0,0,0,0,0,0,0,0⟩,0) :: repT8):=(show Rep _ repT8 from rep_8).lay 0 2052 ⟨2,3072,3,0,0,0,0,0,0,0,0⟩ 0 (by decide) (by decide) (by decide) (by decide) (by decide) (by decide) (by decide)
def repT9 : List (Int × Cap × Int):=(2052,⟨2,3072,3,0,0,0,0,0,0,0,0⟩,0) :: repT8
theorem rep_10 : Rep (bC 0) ((2056,⟨2,3104,2,0,1,1,0,0,0,0,0⟩,0) :: repT9):=(show Rep _ repT9 from rep_9).lay 0 2056 ⟨2,3104,2,0,1,1,0,0,0,0,0⟩ 0 (by decide) (by decide) (by decide) (by decide) (by decide) (by decide) (by decide)
def repT10 : List (Int × Cap × Int):=(2056,⟨2,3104,2,0,1,1,0,0,0,0,0⟩,0) :: repT9
theorem rep_11 : Rep (bC 1) ((2060,⟨4,3120,0,0,0,0,0,7,0,0,0⟩,0) :: repT10):=(show Rep _ repT10 from rep_10).lay 0 2060 ⟨4,3120,0,0,0,0,0,7,0,0,0⟩ 0 (by decide) (by decide) (by decide) (by decide) (by decide) (by decide) (by decide)
def repT11 : List (Int × Cap × Int):=(2060,⟨4,3120,0,0,0,0,0,7,0,0,0⟩,0) :: repT10
theorem rep_12 : Rep (bC 2) ((2064,⟨4,3124,0,0,0,0,0,7,0,0,0⟩,0) :: repT11):=(show Rep _ repT11 from rep_11).lay 0 2064 ⟨4,3124,0,0,0,0,0,7,0,0,0⟩ 0 (by decide) (by decide) (by decide) (by decide) (by decide) (by decide) (by decide)
def repT12 : List (Int × Cap × Int):=(2064,⟨4,3124,0,0,0,0,0,7,0,0,0⟩,0) :: repT11
theorem rep_13 : Rep (bC 3) ((2068,⟨4,3128,0,0,0,0,0,7,0,0,0⟩,0) :: repT12):=(show Rep _ repT12 from rep_12).lay 0 2068 ⟨4,3128,0,0,0,0,0,7,0,0,0⟩ 0 (by decide) (by decide) (by decide) (by decide) (by decide) (by decide) (by decide)
def repT13 : List (Int × Cap × Int):=(2068,⟨4,3128,0,0,0,0,0,7,0,0,0⟩,0) :: repT12
theorem rep_14 : Rep ((bD 0).l9 (6 + ((0 : Nat) : Int)) (capR 5 (3136 + 8 * ((0 : Nat) : Int)))) ((2072,⟨5,3136,0,0,0,0,0,7,0,0,0⟩,0) :: repT13):=(show Rep _ repT13 from rep_13).lay 0 2072 ⟨5,3136,0,0,0,0,0,7,0,0,0⟩ 0 (by decide) (by decide) (by decide) (by decide) (by decide) (by decide) (by decide)
def repT14 : List (Int × Cap × Int):=(2072,⟨5,3136,0,0,0,0,0,7,0,0,0⟩,0) :: repT13
theorem rep_15 : Rep (bD 1) ((2080,⟨8,3152,0,0,0,0,0,7,0,0,0⟩,0) :: repT14):=(show Rep _ repT14 from rep_14).lay 0 2080 ⟨8,3152,0,0,0,0,0,7,0,0,0⟩ 0 (by decide) (by decide) (by decide) (by decide) (by decide) (by decide) (by decide)
def repT15 : List (Int × Cap × Int):=(2080,⟨8,3152,0,0,0,0,0,7,0,0,0⟩,0) :: repT14
theorem rep_16 : Rep ((bD 1).l9 (6 + ((1 : Nat) : Int)) (capR 5 (3136 + 8 * ((1 : Nat) : Int)))) ((2076,⟨5,3144,0,0,0,0,0,7,0,0,0⟩,0) :: repT15):=(show Rep _ repT15 from rep_15).lay 0 2076 ⟨5,3144,0,0,0,0,0,7,0,0,0⟩ 0 (by decide) (by decide) (by decide) (by decide) (by decide) (by decide) (by decide)
def repT16 : List (Int × Cap × Int):=(2076,⟨5,3144,0,0,0,0,0,7,0,0,0⟩,0) :: repT15
theorem rep_17 : Rep (bD 2) ((2084,⟨8,3168,0,0,0,0,0,7,0,0,0⟩,0) :: repT16):=(show Rep _ repT16 from rep_16).lay 0 2084 ⟨8,3168,0,0,0,0,0,7,0,0,0⟩ 0 (by decide) (by decide) (by decide) (by decide) (by decide) (by decide) (by decide)
def repT17 : List (Int × Cap × Int):=(2084,⟨8,3168,0,0,0,0,0,7,0,0,0⟩,0) :: repT16
theorem rep_18 : Rep (bE 1) ((2088,⟨6,3184,0,0,0,0,0,0,0,0,0⟩,0) :: repT17):=(show Rep _ repT17 from rep_17).lay 0 2088 ⟨6,3184,0,0,0,0,0,0,0,0,0⟩ 0 (by decide) (by decide) (by decide) (by decide) (by decide) (by decide) (by decide)
def repT18 : List (Int × Cap × Int):=(2088,⟨6,3184,0,0,0,0,0,0,0,0,0⟩,0) :: repT17
theorem rep_19 : Rep (bE 2) ((2092,⟨6,3192,0,0,0,0,0,0,0,0,0⟩,0) :: repT18):=(show Rep _ repT18 from rep_18).lay 0 2092 ⟨6,3192,0,0,0,0,0,0,0,0,0⟩ 0 (by decide) (by decide) (by decide) (by decide) (by decide) (by decide) (by decide)
def repT19 : List (Int × Cap × Int):=(2092,⟨6,3192,0,0,0,0,0,0,0,0,0⟩,0) :: repT18
theorem rep_20 : Rep (bE 3) ((2096,⟨6,3200,0,0,0,0,0,0,0,0,0⟩,0) :: repT19):=(show Rep _ repT19 from rep_19).lay 0 2096 ⟨6,3200,0,0,0,0,0,0,0,0,0⟩ 0 (by decide) (by decide) (by decide) (by decide) (by decide) (by decide) (by decide)
def repT20 : List (Int × Cap × Int):=(2096,⟨6,3200,0,0,0,0,0,0,0,0,0⟩,0) :: repT19
theorem rep_21 : Rep (bE 4) ((2100,⟨6,3208,0,0,0,0,0,0,0,0,0⟩,0) :: repT20):=(show Rep _ repT20 from rep_20).lay 0 2100 ⟨6,3208,0,0,0,0,0,0,0,0,0⟩ 0 (by decide) (by decide) (by decide) (by decide) (by decide) (by decide) (by decide)
def repT21 : List (Int × Cap × Int):=(2100,⟨6,3208,0,0,0,0,0,0,0,0,0⟩,0) :: repT20
theorem rep_22 : Rep ((bE 4).l9 14 (capO 7 3216)) ((2104,⟨7,3216,0,0,0,0,0,0,0,0,0⟩,0) :: repT21):=(show Rep _ repT21 from rep_21).lay 0 2104 ⟨7,3216,0,0,0,0,0,0,0,0,0⟩ 0 (by decide) (by decide) (by decide) (by decide) (by decide) (by decide) (by decide)
def repT22 : List (Int × Cap × Int):=(2104,⟨7,3216,0,0,0,0,0,0,0,0,0⟩,0) :: repT21
theorem rep_23 : Rep (((bE 4).l9 14 (capO 7 3216)).l9 15 (capB 1 3584 9)) ((2108,⟨1,3584,9,0,0,0,0,0,0,0,0⟩,0) :: repT22):=(show Rep _ repT22 from rep_22).lay 0 2108 ⟨1,3584,9,0,0,0,0,0,0,0,0⟩ 0 (by decide) (by decide) (by decide) (by decide) (by decide) (by decide) (by decide)
def repT23 : List (Int × Cap × Int):=(2108,⟨1,3584,9,0,0,0,0,0,0,0,0⟩,0) :: repT22
theorem rep_24 : Rep ((((bE 4).l9 14 (capO 7 3216)).l9 15 (capB 1 3584 9)).l9 16 (capB 1 4096 10)) ((2112,⟨1,4096,10,0,0,0,0,0,0,0,0⟩,0) :: repT23):=(show Rep _ repT23 from rep_23).lay 0 2112 ⟨1,4096,10,0,0,0,0,0,0,0,0⟩ 0 (by decide) (by decide) (by decide) (by decide) (by decide) (by decide) (by decide)
def repT24 : List (Int × Cap × Int):=(2112,⟨1,4096,10,0,0,0,0,0,0,0,0⟩,0) :: repT23
theorem rep_25 : Rep (((((bE 4).l9 14 (capO 7 3216)).l9 15 (capB 1 3584 9)).l9 16 (capB 1 4096 10)).l9 17 (capO 11 0)) ((2116,⟨11,0,0,0,0,0,0,0,0,0,0⟩,0) :: repT24):=(show Rep _ repT24 from rep_24).lay 0 2116 ⟨11,0,0,0,0,0,0,0,0,0,0⟩ 0 (by decide) (by decide) (by decide) (by decide) (by decide) (by decide) (by decide)
def repT25 : List (Int × Cap × Int):=(2116,⟨11,0,0,0,0,0,0,0,0,0,0⟩,0) :: repT24
theorem rep_26 : Rep (baseM) ((2120,⟨13,0,0,0,0,0,0,0,0,0,0⟩,0) :: repT25):=(show Rep _ repT25 from rep_25).lay 0 2120 ⟨13,0,0,0,0,0,0,0,0,0,0⟩ 0 (by decide) (by decide) (by decide) (by decide) (by decide) (by decide) (by decide)
def baseT : List (Int × Cap × Int):=[(2120,⟨13,0,0,0,0,0,0,0,0,0,0⟩,0),(2116,⟨11,0,0,0,0,0,0,0,0,0,0⟩,0),(2112,⟨1,4096,10,0,0,0,0,0,0,0,0⟩,0),(2108,⟨1,3584,9,0,0,0,0,0,0,0,0⟩,0),(2104,⟨7,3216,0,0,0,0,0,0,0,0,0⟩,0),(2100,⟨6,3208,0,0,0,0,0,0,0,0,0⟩,0),(2096,⟨6,3200,0,0,0,0,0,0,0,0,0⟩,0),(2092,⟨6,3192,0,0,0,0,0,0,0,0,0⟩,0),(2088,⟨6,3184,0,0,0,0,0,0,0,0,0⟩,0),(2084,⟨8,3168,0,0,0,0,0,7,0,0,0⟩,0),(2076,⟨5,3144,0,0,0,0,0,7,0,0,0⟩,0),(2080,⟨8,3152,0,0,0,0,0,7,0,0,0⟩,0),(2072,⟨5,3136,0,0,0,0,0,7,0,0,0⟩,0),(2068,⟨4,3128,0,0,0,0,0,7,0,0,0⟩,0),(2064,⟨4,3124,0,0,0,0,0,7,0,0,0⟩,0),(2060,⟨4,3120,0,0,0,0,0,7,0,0,0⟩,0),(2056,⟨2,3104,2,0,1,1,0,0,0,0,0⟩,0),(2052,⟨2,3072,3,0,0,0,0,0,0,0,0⟩,0),(1216,⟨2,2048,8,0,0,24,0,0,0,0,0⟩,1),(1152,⟨2,2048,8,0,0,24,0,0,0,0,0⟩,1),(1088,⟨2,2048,8,0,0,24,0,0,0,0,0⟩,1),(1024,⟨2,2048,8,0,0,24,0,0,0,0,0⟩,0),(44,⟨3,1216,0,0,0,0,0,0,0,0,0⟩,0),(40,⟨3,1152,0,0,0,0,0,0,0,0,0⟩,0),(36,⟨3,1088,0,0,0,0,0,0,0,0,0⟩,0),(32,⟨3,1024,0,0,0,0,0,0,0,0,0⟩,0)]
theorem rep_base : Rep baseM baseT:=rep_26
end Go.Proofs.YtcdfofeolgbnbaaGreat

/- Law 12: both as the plan has it; are they alike? -/
namespace Go.Proofs.YtcdfofeolgbnbaaGreat
open Go.D
open Nat (reduceAdd reducePow reduceMul reduceSub reduceLeDiff reduceLT reduceEqDiff)
open Int (reduceNeg reduceLE reduceEq reduceNe reduceToNat)
open Go.D renaming istep → zy,pickR → zx,bin1R → zw,un1R → zv,eqS → zu,eq1 → zq,cmpS → zp,cmp1 → zj,isNil → zk,shows → zg,result → zZ,q_cond_t → zV,q_cond_f → zU
open List renaming set → zY,replicate → zX
open Option renaming map → zW
open Nat renaming reduceAdd → zQ,reducePow → yz,reduceMul → yy,reduceSub → yx,reduceLeDiff → yw,reduceLT → yv,reduceEqDiff → yu
open Int renaming reduceNeg → yq,reduceLE → yj,reduceEq → yk,reduceNe → yg,reduceToNat → yZ,reducePow → yY,reduceLT → yX,reduceAdd → yW,reduceSub → yV,reduceMul → yU,reduceBEq → yQ,reduceBNe → xz
set_option linter.all false
set_option maxRecDepth 100000
set_option maxHeartbeats 8000000

def baseC : M:=(M.zero 13).lay 0 baseM.w
theorem base_len : baseM.w.length = 8192:=by
 obtain ⟨L,D,_⟩:=rep_base.di
 exact D.len
theorem lay_all {m : M} {vs : List Int} (hl : vs.length = m.w.length) (hu : ∀ v,v ∈ vs → u64 v) : (m.lay 0 vs).w = vs:=by
 have h1:=M.lay_w vs m 0 hu
 have h2:=put_all' (wc vs) (wc m.w) [] (by rw [wc_len,wc_len,hl])
 simp only [List.nil_append,List.length_nil] at h2
 rw [h2] at h1
 have h3:=congrArg unwc h1
 rw [unwc_wc,unwc_wc] at h3
 exact (Option.some.inj h3).symm
theorem base_len2 : baseM.w.length = (M.zero 13).w.length:=by
 rw [base_len,M.zero_len]
 decide
theorem baseC_w : baseC.w = baseM.w:=by
 unfold baseC
 exact lay_all base_len2 baseM.u
def basedG : List V → List Blk → Res
 | [],h => .ok (.s (.p (.g (h.length + 4)) 0)) [] (wH h baseC baseM [])
 | _,_ => .bad
noncomputable def TBd : Tab:=addT 63 baseG (addT 49 newM (addT 64 load2G (noT)))
theorem TBd_snd : TBd.Snd Tryz.prog:=addT_snd ok63 base_snd (addT_snd ok49 new_snd (addT_snd ok64 load2_snd ((noT_snd _))))
theorem based_snd : Snd Tryz.prog 37 (FSpec.of basedG):=snd_run TBd_snd mixed Tryz.func37 dc37 300 fun args h K hc hS => by
 unfold basedG at hS
 split at hS
 ·simp only [spec_ok] at hS
  have hd : decide ((11 : Int) ≤ 13) && decide ((13 : Int) ≤ 16) = true:=by decide
  have ht : Int.toNat 13 = 13:=rfl
  have hbl:=base_len
  have ha1 : ∀ X,(memH (memH h baseM) (M.zero 13) ++ X)[h.length]? = some (MB (h.length + 1) baseM):=fun X => (memH_is1 h baseM (M.zero 13)).app.ha
  have ha1' : (memH (memH h baseM) (M.zero 13))[h.length]? = some (MB (h.length + 1) baseM):=(memH_is1 h baseM (M.zero 13)).ha
  have hb1' : (memH (memH h baseM) (M.zero 13))[h.length + 1]? = some (MW baseM):=(memH_is1 h baseM (M.zero 13)).hb
  have hL1 : listOf (memH (memH h baseM) (M.zero 13)) (.sl (.g (h.length + 1)) 0 baseM.w.length baseM.w.length) = some baseM.w:=listOf_at (st:=.rw) (room:=baseM.w.length) hb1' (fun x => BK.noConfusion x) rfl
  have hmo : memOf (memH (memH h baseM) (M.zero 13)) (h.length + 2) = some (h.length + 3,M.zero 13):=memOf_eq (memH_is2 h baseM (M.zero 13))
  have hh : (M.zero 13).has 0 baseM.w.length = true:=M.has_iff.2 (by rw [M.zero_len,base_len]; decide)
  simp (maxSteps:=9999999) only [EV0,zy,zx,zw,zv,zu,zq,zp,zj,zk,leT,zg,rvC,zZ,zY,zX,zW,↓zV,↓zU,reduceCtorEq,zQ,yz,yY,yy,yx,yw,yv,yu,yq,yX,yj,yk,yg,yW,yV,yU,yZ,yQ,xz,df37,TBd,baseG,newM,ht,ha1',MB,load2G,hL1,hmo,M.loadE,M.loadX,hh,memH_len,put,fillP]
  refine ⟨⟨fun e => ?_,baseM.u⟩, ?_⟩
  ·exact absurd e (by omega)
  refine ⟨[0],by simp,rfl, ?_⟩
  simp only [getAll,List.getElem?_cons_zero]
  refine ⟨?_, ?_⟩
  ·simp [S.kept,R.kept]
  ·rw [memH_set2]
   refine cast ?_ hS
   simp [wH,wB,baseC,V.ren,S.ren,R.prom,Blk.ren,memH_len,List.idxOf,List.findIdx,List.findIdx.go]
 ·exact hS.elim
end Go.Proofs.YtcdfofeolgbnbaaGreat

/- Law 12: are they alike? -/
namespace Go.Proofs.YtcdfofeolgbnbaaGreat
open Go.D
set_option linter.all false
set_option maxRecDepth 100000
set_option maxHeartbeats 8000000


end Go.Proofs.YtcdfofeolgbnbaaGreat

/- Law 12: awake. -/
namespace Go.Proofs.YtcdfofeolgbnbaaGreat
open Go.D
open Nat (reduceAdd reducePow reduceMul reduceSub reduceLeDiff reduceLT reduceEqDiff)
open Int (reduceNeg reduceLE reduceEq reduceNe reduceToNat)
open Go.D renaming istep → zy,pickR → zx,bin1R → zw,un1R → zv,eqS → zu,eq1 → zq,cmpS → zp,cmp1 → zj,isNil → zk,shows → zg,result → zZ,q_cond_t → zV,q_cond_f → zU
open List renaming set → zY,replicate → zX
open Option renaming map → zW
open Nat renaming reduceAdd → zQ,reducePow → yz,reduceMul → yy,reduceSub → yx,reduceLeDiff → yw,reduceLT → yv,reduceEqDiff → yu
open Int renaming reduceNeg → yq,reduceLE → yj,reduceEq → yk,reduceNe → yg,reduceToNat → yZ,reducePow → yY,reduceLT → yX,reduceAdd → yW,reduceSub → yV,reduceMul → yU,reduceBEq → yQ,reduceBNe → xz
set_option linter.all false
set_option maxRecDepth 100000
set_option maxHeartbeats 8000000

theorem Rep.of_w {m m' : M} {T : List (Int × Cap × Int)} (R : Rep m T) (e : m'.w = m.w) : Rep m' T:=by
 obtain ⟨L,D,hL⟩:=R.di
 exact ⟨⟨L,D.of_w e,hL⟩,fun x hx => by rw [gV_w e]; exact R.cap x hx⟩
theorem Rep.layC {m : M} {T : List (Int × Cap × Int)} (R : Rep m T) (p a : Int) (c : Cap) (d : Int) (hp : p = 0 ∨ p ∈ T.map (·.1)) (haP : a ∈ PB) (hpP : p = 0 ∨ p ∈ PB) (haT : a ∉ T.map (·.1)) (hc : c.ty ≠ 0) (hr : slotRB ⟨c,0,0,0⟩ = true) (hd : d = if p = 0 then 0 else (capT T p).2 + 1) : Rep (m.layX p a c) ((a,c,d) :: T):=by
 obtain ⟨L,D,hL⟩:=R.di
 obtain ⟨e1,_⟩:=D.lay (r:=m) rfl (p:=p) (a:=a) (by rw [hL]; exact hp) haP (by rw [hL]; exact haT) hc hr
 exact (R.lay p a c d hp haP hpP haT hc hr hd).of_w e1.symm
theorem Rep.gC {m : M} {T : List (Int × Cap × Int)} (R : Rep m T) {x : Int} (hx : x ∈ PB) : (m.gV x).cap = (capT T x).1:=congrArg Prod.fst (R.cap x hx)
theorem Rep.gD {m : M} {T : List (Int × Cap × Int)} (R : Rep m T) {x : Int} (hx : x ∈ PB) : (m.gV x).depth = (capT T x).2:=congrArg Prod.snd (R.cap x hx)
theorem repC : Rep baseC baseT:=rep_base.of_w baseC_w

def aw1 : M:=baseC.miX M.enX M.layX 2060 2128 3 7 0 0
def aw2 : M:=aw1.miX M.enX M.layX 2128 2132 3 8 0 0
def aw3 : M:=aw2.cpX M.enX M.layX 2108 2128 7
def aw4 : M:=aw3.mvX M.enX M.mov 2052 3072
def cA : Cap:=⟨4,3120,0,0,0,0,7,3,0,0,0⟩
theorem awf_1 : baseC.miE 2060 2128 3 7 0 0 = 0 ∧ Rep aw1 ((2128,cA,1) :: baseT):=by
 have c1 : (baseC.gV 2060).cap = ⟨4,3120,0,0,0,0,0,7,0,0,0⟩:=(repC.gC (by decide)).trans rfl
 have c2 : (baseC.gV 2128).cap = capZ:=(repC.gC (by decide)).trans rfl
 have en : baseC.enE 2060 2128 = 0:=by simp only [M.enE,M.emB,c1,c2]; rfl
 have co : baseC.coE 2060 2128 = 0:=by unfold M.coE; rw [if_pos en,c1]; rfl
 have cc : baseC.coC 2060 2128 3 = ⟨4,3120,0,0,0,0,0,3,0,0,0⟩:=by unfold M.coC; rw [if_pos co,c1]; rfl
 have mi : baseC.miE 2060 2128 3 7 0 0 = 0:=by unfold M.miE; rw [if_pos co,cc]; rfl
 refine ⟨mi, ?_⟩
 unfold aw1 M.miX
 rw [if_pos mi,cc]
 exact (repC.of_w (coXe_w baseC 2060 2128)).layC 2060 2128 cA 1 (by decide) (by decide) (by decide) (by decide) (by decide) (by decide) (by decide)
theorem awf_2 : aw1.miE 2128 2132 3 8 0 0 = 122 ∧ aw2.w = aw1.w:=by
 have R:=awf_1.2
 have c1 : (aw1.gV 2128).cap = cA:=(R.gC (by decide)).trans rfl
 have c2 : (aw1.gV 2132).cap = capZ:=(R.gC (by decide)).trans rfl
 have en : aw1.enE 2128 2132 = 0:=by simp only [M.enE,M.emB,c1,c2]; rfl
 have co : aw1.coE 2128 2132 = 0:=by unfold M.coE; rw [if_pos en,c1]; rfl
 have cc : aw1.coC 2128 2132 3 = cA:=by unfold M.coC; rw [if_pos co,c1]; rfl
 have mi : aw1.miE 2128 2132 3 8 0 0 = 122:=by unfold M.miE; rw [if_pos co,cc]; rfl
 refine ⟨mi, ?_⟩
 unfold aw2 M.miX
 rw [if_neg (by rw [mi]; decide)]
 exact coXe_w _ _ _
theorem awf_3 : aw2.coE 2108 2128 = 120 ∧ aw3.w = aw1.w:=by
 have R:=awf_1.2.of_w awf_2.2
 have c1 : (aw2.gV 2108).cap = ⟨1,3584,9,0,0,0,0,0,0,0,0⟩:=(R.gC (by decide)).trans rfl
 have c2 : (aw2.gV 2128).cap = cA:=(R.gC (by decide)).trans rfl
 have en : aw2.enE 2108 2128 = 120:=by simp only [M.enE,M.emB,c1,c2]; rfl
 have co : aw2.coE 2108 2128 = 120:=by unfold M.coE; rw [if_neg (by rw [en]; decide)]; exact en
 refine ⟨co, ?_⟩
 unfold aw3 M.cpX
 rw [if_neg (by rw [co]; decide)]
 exact (coXe_w _ _ _).trans awf_2.2
theorem awf_4 : aw3.moE 2052 3072 = 122 ∧ aw4.w = aw1.w:=by
 have R:=awf_1.2.of_w awf_3.2
 have c1 : (aw3.gV 2052).cap = ⟨2,3072,3,0,0,0,0,0,0,0,0⟩:=(R.gC (by decide)).trans rfl
 have c2 : (aw3.gV 3072).cap = capZ:=(R.gC (by decide)).trans rfl
 have en : aw3.enE 2052 3072 = 0:=by simp only [M.enE,M.emB,c1,c2]; rfl
 have mo : aw3.moE 2052 3072 = 122:=by unfold M.moE; rw [if_pos en,c1]; rfl
 refine ⟨mo, ?_⟩
 unfold aw4 M.mvX
 rw [if_neg (by rw [mo]; decide)]
 exact (coXe_w _ _ _).trans awf_3.2
theorem awf_5 : aw4.gE 2128 = 0 ∧ (aw4.gV 2128).cap = cA ∧ (aw4.gV 2128).depth = 1:=by
 have R:=awf_1.2.of_w awf_4.2
 obtain ⟨L,D,_⟩:=R.di
 exact ⟨D.gE (by decide),(R.gC (by decide)).trans rfl,(R.gD (by decide)).trans rfl⟩
theorem wH_tail (h : List Blk) (m r : M) (X : List Blk) : ∃ Y,wH h m r X = h ++ Y:=by
 rw [wH,memH,memH,List.append_assoc,List.append_assoc]
 exact ⟨_,rfl⟩
theorem cut_wH {h : List Blk} {m r : M} {X : List Blk} {v : V} {K : V → List Blk → Prop} (hc : clean h.length h = true) (hv : v.val h.length 0 = true) (hK : K v h) : Cut h.length K v (wH h m r X):=by
 obtain ⟨Y,e⟩:=wH_tail h m r X
 rw [e]
 exact ⟨h,Y,rfl,Nat.le_refl _,hc,hv,hK⟩
def awake12G : List V → List Blk → Res
 | [],h => .ok (.s (.b true)) [] h
 | _,_ => .bad
noncomputable def TAw : Tab:=addT 37 basedG (addT 102 mi9G (addT 40 cp9G (addT 103 mv9G (addT 26 get2G (noT)))))
theorem TAw_snd : TAw.Snd Tryz.prog:=addT_snd ok37 based_snd (addT_snd ok102 mi9_snd (addT_snd ok40 cp9_snd (addT_snd ok103 mv9_snd (addT_snd ok26 get2_snd ((noT_snd _))))))
theorem awake12_snd : Snd Tryz.prog 36 (FSpec.of awake12G):=snd_cut TAw_snd mixed Tryz.func36 dc36 300 fun args h K hc hS => by
 unfold awake12G at hS
 split at hS
 ·simp only [spec_ok] at hS
  have hB : ∀ m' Y,(wH h m' baseM Y)[h.length + 4]? = some ⟨.rw,[.p (.g (h.length + 2)) 0, .p (.g h.length) 0],2⟩:=fun m' Y => wH_at h m' baseM Y
  obtain ⟨⟨cc,p0,q0,r0⟩,hs⟩ : ∃ s,aw4.gV 2128 = s:=⟨_,rfl⟩
  have f5:=awf_5
  rw [hs] at f5
  obtain ⟨f5,e1,e2⟩:=f5
  simp only at e1 e2
  subst e1
  subst e2
  have f1:=awf_1.1
  have f2:=awf_2.1
  have f3:=awf_3.1
  have f4:=awf_4.1
  have g1 : baseC.miX M.enX M.layX 2060 2128 3 7 0 0 = aw1:=rfl
  have g2 : aw1.miX M.enX M.layX 2128 2132 3 8 0 0 = aw2:=rfl
  have g3 : aw2.cpX M.enX M.layX 2108 2128 7 = aw3:=rfl
  have g4 : aw3.mvX M.enX M.mov 2052 3072 = aw4:=rfl
  have i1 : IntKind.i64.wrap 2060 = 2060:=rfl
  have i2 : IntKind.i64.wrap 2128 = 2128:=rfl
  have i3 : IntKind.i64.wrap 2132 = 2132:=rfl
  have i4 : IntKind.i64.wrap 2108 = 2108:=rfl
  have i5 : IntKind.i64.wrap 2052 = 2052:=rfl
  simp (maxSteps:=9999999) only [EV0,zy,zx,zw,zv,zu,zq,zp,zj,zk,leT,zg,rvC,zZ,zY,zX,zW,↓zV,↓zU,reduceCtorEq,zQ,yz,yY,yy,yx,yw,yv,yu,yq,yX,yj,yk,yg,yW,yV,yU,yZ,yQ,xz,df36,TAw,basedG,mi9G,mi9M,cp9G,cp9M,mv9G,mv9M,get2G,get2M,hB,wH_m,i1,i2,i3,i4,i5,Int.reduceAdd,f1,f2,f3,f4,f5,g1,g2,g3,g4,hs,cA,Slot.cl,Cap.cl,put,fillP,sub,EVt]
  exact cut_wH hc rfl hS
 ·exact hS.elim
end Go.Proofs.YtcdfofeolgbnbaaGreat

/- Law 12: DerivePlays: the walk. -/
namespace Go.Proofs.YtcdfofeolgbnbaaGreat
open Go.D
set_option linter.all false
set_option maxRecDepth 100000
set_option maxHeartbeats 8000000

theorem Act.cl_len (x : Act) : x.cl.length = 8:=rfl
theorem act_eta (x : Act) : (⟨x.wh,x.a,x.b,x.c,x.rg,x.bd,x.g,x.n⟩ : Act) = x:=rfl
def actZ : Act:=⟨0,0,0,0,0,0,0,0⟩
theorem wH_old {h : List Blk} {j : Nat} {B : Blk} (hj : h[j]? = some B) (m r : M) (X : List Blk) : (wH h m r X)[j]? = some B:=by
 obtain ⟨Y,e⟩:=wH_tail h m r X
 rw [e,List.getElem?_append_left (List.getElem?_eq_some_iff.1 hj).1]; exact hj
theorem DI_base : ∃ L,DI baseC L:=by
 obtain ⟨L,D,_⟩:=repC.di
 exact ⟨L,D⟩
noncomputable def TPl : Tab:=addT 36 awake12G (addT 37 basedG (addT 38 doesG (noT)))
theorem TPl_snd : TPl.Snd Tryz.prog:=addT_snd ok36 awake12_snd (addT_snd ok37 based_snd (addT_snd ok38 does_snd ((noT_snd _))))
end Go.Proofs.YtcdfofeolgbnbaaGreat

