/- Law 15: both as the plan has it; are they alike; a piece,a CNode. -/
import Derived.Test.YtcdfofeolgbnbaaGreatZ32
import Derived.Test.YtcdfofeolgbnbaaGreatZ23
import Derived.Test.YtcdfofeolgbnbaaGreatZ11
/- Law 15: the plan's memory in order,where its objects lie. -/
namespace Go.Proofs.YtcdfofeolgbnbaaGreat
open Go.D
set_option linter.all false
set_option maxRecDepth 100000
set_option maxHeartbeats 8000000

def insT (p:Int) (t:Int×Cap×Int):List (Int×Cap×Int)->List (Int×Cap×Int)
 | []=>[]
 | y::T=>if y.1=p then y::t::T else y::insT p t T
def insTT (p:Int) (t:Int×Cap×Int) (T:List (Int×Cap×Int)):List (Int×Cap×Int):=if p=0 then t::T else insT p t T
theorem insT_map (p:Int) (t:Int×Cap×Int):∀ T,(insT p t T).map (·.1)=insL p t.1 (T.map (·.1))
 | []=>rfl
 | y::T=>by
  simp only [insT,List.map_cons,insL]
  split
  ·rfl
  ·rw [List.map_cons,insT_map p t T]
theorem insTT_map (p:Int) (t:Int×Cap×Int) (T):(insTT p t T).map (·.1)=insLL p t.1 (T.map (·.1)):=by
 unfold insTT insLL
 split
 ·rfl
 ·exact insT_map p t T
theorem insT_cap {p a:Int} {c:Cap} {d:Int} (x:Int):∀ T,p∈T.map (·.1)->a∉T.map (·.1)->capT (insT p (a,c,d) T) x=if x=a then (c,d) else capT T x
 | [],h,_=>by cases h
 | y::T,h,h2=>by
  simp only [List.map_cons,List.mem_cons,not_or] at h h2
  simp only [insT]
  split
  ·rename_i e
   simp only [capT]
   by_cases c1:x=a
   ·rw [if_neg (by rw [c1]; exact h2.1)]
    simp only [c1,if_true]
   ·simp only [if_neg c1]
  ·rename_i e
   simp only [capT]
   rw [insT_cap x T (h.resolve_left fun h=>e h.symm) h2.2]
   by_cases c1:x=a
   ·rw [if_neg (by rw [c1]; exact h2.1)]
    simp only [c1,if_true]
   ·simp only [if_neg c1]
theorem insTT_cap {p a:Int} {c:Cap} {d:Int} (x:Int) {T} (hp:p=0\/p∈T.map (·.1)) (ha:a∉T.map (·.1)):capT (insTT p (a,c,d) T) x=if x=a then (c,d) else capT T x:=by
 unfold insTT
 split
 ·rfl
 ·rename_i h; exact insT_cap x T (hp.resolve_left h) ha
structure RepU (m:M) (T:List (Int×Cap×Int)):Prop where
 ui:UI m (T.map (·.1))
 cap:∀ x,x∈T.map (·.1)->((m.gV x).cap,m.D x)=capT T x
 zr:∀ j,3584<=j->m.at j=0
theorem RepU.of_w {m m':M} {T} (R:RepU m T) (e:m'.w=m.w):RepU m' T :=
 ⟨R.ui.of_w e,fun x hx=>by rw [gV_w e,D_w e]; exact R.cap x hx,fun j hj=>by rw [at_w e]; exact R.zr j hj⟩
theorem RepU.lay {m:M} {T:List (Int×Cap×Int)} (R:RepU m T) (p a:Int) (c:Cap) (d:Int) (hp:p=0\/p∈T.map (·.1)) (haP:P15 a) (haT:a∉T.map (·.1)) (hc:c.ty≠0) (hr:slotRB ⟨c,0,0,0⟩=true) (hd:d=if p=0 then 0 else (capT T p).2+1):RepU (m.rlayX p a c) (insTT p (a,c,d) T):=by
 obtain ⟨e1,D,_,_,hV,_⟩:=R.ui.lay (r:=m) rfl hp haP haT hc hr
 have hat:=fun j (hj:3120<=j)=>R.ui.lay_at hp haP haT hc hr hj
 refine RepU.of_w (m:=m.layX p a c) ⟨?_,fun x hx=>?_,fun j hj=>by rw [hat j (by omega)]; exact R.zr j hj⟩ e1
 ·rw [insTT_map]; exact D
 ·rw [insTT_cap x hp haT]
  rw [insTT_map] at hx
  have hx0:=D.l0 hx
  unfold M.D
  rw [hV x hx0,jnV_cap,jnV_depth]
  by_cases e:x=a
  ·simp only [if_pos e]
   rw [hd]
   by_cases h0:p=0
   ·simp only [if_pos h0]
   ·simp only [if_neg h0]
    have:=R.cap p (hp.resolve_left h0)
    rw [<-this]
    rfl
  ·simp only [if_neg e]
   have hxT:x∈T.map (·.1):=by
    unfold insLL at hx
    split at hx
    ·exact (List.mem_cons.1 hx).resolve_left e
    ·exact (insL_mem hx).resolve_left e
   exact R.cap x hxT
theorem P15_off {x:Int} (h:P15 x):32<=x/\x.tmod 4=0/\x<=8188/\(x<1024->x+3<48)/\(¬ x<1024->x<2048->x%64=0):=by
 unfold P15 at h
 rw [Int.tmod_eq_emod_of_nonneg (by omega)]
 omega
theorem RepU.th {m:M} {T:List (Int×Cap×Int)} (R:RepU m T) (i:Nat) (hi:i<4) (t:Th) (ht:t.rg.length=16):RepU (m.thX (1024+64*(i:Int)) t) T:=by
 have hlen:=R.ui.len
 have hat:∀ j:Nat,j<1024\/2048<=j\/j%64<4->(m.thX (1024+64*(i:Int)) t).at j=m.at j:=fun j hj=>by
  unfold M.thX
  split
  ·rw [wrs_out _ _ _ _ _ (by omega),wrs_out _ _ _ _ _ (by omega)]
  ·rfl
 have hl:(m.thX (1024+64*(i:Int)) t).w.length=m.w.length:=thX_len _ _ _
 obtain ⟨D2,k⟩:=R.ui.touch hl (hat 2 (by omega)) (fun x hx k h0 h3=>by
  obtain ⟨o1,o2,o3,o4,o6⟩:=P15_off hx
  have e:x+k=((x+k).toNat:Int):=by omega
  rw [e]
  refine hat _ ?_
  by_cases c1:x<1024
  ·have:=o4 c1; omega
  ·by_cases c2:x<2048
   ·have:=o6 c1 c2; omega
   ·omega)
 refine ⟨D2,fun x hx=>?_,fun j hj=>?_⟩
 ·unfold M.D
  rw [(k x (R.ui.sub x hx)).2]
  exact R.cap x hx
 ·have e:j=((j.toNat:Nat):Int):=by omega
  rw [e,hat _ (by omega),<-e]
  exact R.zr j hj
theorem repu_0:RepU (M.zero 13) []:=by
 have hl:(M.zero 13).w.length=8192:=by rw [M.zero_len]; rfl
 have z:∀ j,(M.zero 13).at j=0:=M.at_zero 13
 have key:∀ x,P15 x->(M.zero 13).gE x=0/\(M.zero 13).gV x=slotZ:=fun x hx=>by
  obtain ⟨o1,o2,o3,_⟩:=P15_off hx
  have ht:thereB (M.zero 13) x=true:=there_iff.2 ⟨by omega,o2,by rw [hl]; omega⟩
  have hb:(M.zero 13).slotB x=true:=by simp only [M.slotB,z]; decide
  refine ⟨gE_zero ht hb, ?_⟩
  unfold M.gV
  rw [if_pos ⟨ht,hb⟩]
  simp only [M.slotC,z]; rfl
 have hf:(M.zero 13).fst=0:=by
  have hh:(M.zero 13).has 2 1=true:=M.has_iff.2 (by rw [hl]; omega)
  have hw0:IntKind.i64.wrap 0=0:=rfl
  simp only [M.fst,z,hh,if_true,keptV,keptB,hw0]
  simp
 have I:(M.zero 13).Inv P15 []:=⟨⟨by rw [hl]; decide,by rw [hl]⟩,by rw [z,hf],List.nodup_nil,fun x hx=>(nomatch hx),trivial,hf,fun x hx=>⟨(key x hx).1,fun _=>by rw [(key x hx).2]; exact ⟨rfl,rfl,rfl⟩⟩⟩
 exact ⟨⟨I,fun x hx=>(nomatch hx),fun x hx _=>(key x hx).2,trivial,hl⟩,fun x hx=>(nomatch hx),fun j _=>z j⟩
def repuT0:List (Int×Cap×Int):=[]
def repuT1:List (Int×Cap×Int):=insTT 0 (32,⟨3,1024,0,0,0,0,0,0,0,0,0⟩,0) repuT0
theorem repu_1:RepU (bA 1) repuT1:=(RepU.th (T:=repuT0) repu_0 0 (by decide) (thBs 0) rfl).lay 0 32 ⟨3,1024,0,0,0,0,0,0,0,0,0⟩ 0 (by decide) (by decide) (by decide) (by decide) (by decide) (by decide)
def repuT2:List (Int×Cap×Int):=insTT 0 (36,⟨3,1088,0,0,0,0,0,0,0,0,0⟩,0) repuT1
theorem repu_2:RepU (bA 2) repuT2:=(RepU.th (T:=repuT1) repu_1 1 (by decide) (thBs 1) rfl).lay 0 36 ⟨3,1088,0,0,0,0,0,0,0,0,0⟩ 0 (by decide) (by decide) (by decide) (by decide) (by decide) (by decide)
def repuT3:List (Int×Cap×Int):=insTT 0 (40,⟨3,1152,0,0,0,0,0,0,0,0,0⟩,0) repuT2
theorem repu_3:RepU (bA 3) repuT3:=(RepU.th (T:=repuT2) repu_2 2 (by decide) (thBs 2) rfl).lay 0 40 ⟨3,1152,0,0,0,0,0,0,0,0,0⟩ 0 (by decide) (by decide) (by decide) (by decide) (by decide) (by decide)
def repuT4:List (Int×Cap×Int):=insTT 0 (44,⟨3,1216,0,0,0,0,0,0,0,0,0⟩,0) repuT3
theorem repu_4:RepU (bA 4) repuT4:=(RepU.th (T:=repuT3) repu_3 3 (by decide) (thBs 3) rfl).lay 0 44 ⟨3,1216,0,0,0,0,0,0,0,0,0⟩ 0 (by decide) (by decide) (by decide) (by decide) (by decide) (by decide)
def repuT5:List (Int×Cap×Int):=insTT 0 (1024,⟨2,2048,8,0,0,24,0,0,0,0,0⟩,0) repuT4
theorem repu_5:RepU (bB 0) repuT5:=(show RepU _ repuT4 from repu_4).lay 0 1024 ⟨2,2048,8,0,0,24,0,0,0,0,0⟩ 0 (by decide) (by decide) (by decide) (by decide) (by decide) (by decide)
def repuT6:List (Int×Cap×Int):=insTT 1024 (1088,⟨2,2048,8,0,0,24,0,0,0,0,0⟩,1) repuT5
theorem repu_6:RepU (bB 1) repuT6:=(show RepU _ repuT5 from repu_5).lay 1024 1088 ⟨2,2048,8,0,0,24,0,0,0,0,0⟩ 1 (by decide) (by decide) (by decide) (by decide) (by decide) (by decide)
def repuT7:List (Int×Cap×Int):=insTT 1024 (1152,⟨2,2048,8,0,0,24,0,0,0,0,0⟩,1) repuT6
theorem repu_7:RepU (bB 2) repuT7:=(show RepU _ repuT6 from repu_6).lay 1024 1152 ⟨2,2048,8,0,0,24,0,0,0,0,0⟩ 1 (by decide) (by decide) (by decide) (by decide) (by decide) (by decide)
def repuT8:List (Int×Cap×Int):=insTT 1024 (1216,⟨2,2048,8,0,0,24,0,0,0,0,0⟩,1) repuT7
theorem repu_8:RepU (bB 3) repuT8:=(show RepU _ repuT7 from repu_7).lay 1024 1216 ⟨2,2048,8,0,0,24,0,0,0,0,0⟩ 1 (by decide) (by decide) (by decide) (by decide) (by decide) (by decide)
def repuT9:List (Int×Cap×Int):=insTT 0 (2052,⟨2,3072,3,0,0,0,0,0,0,0,0⟩,0) repuT8
theorem repu_9:RepU ((bB 3).l9 1 (capB 2 3072 3)) repuT9:=(show RepU _ repuT8 from repu_8).lay 0 2052 ⟨2,3072,3,0,0,0,0,0,0,0,0⟩ 0 (by decide) (by decide) (by decide) (by decide) (by decide) (by decide)
def repuT10:List (Int×Cap×Int):=insTT 0 (2056,⟨2,3104,2,0,1,1,0,0,0,0,0⟩,0) repuT9
theorem repu_10:RepU (bC 0) repuT10:=(show RepU _ repuT9 from repu_9).lay 0 2056 ⟨2,3104,2,0,1,1,0,0,0,0,0⟩ 0 (by decide) (by decide) (by decide) (by decide) (by decide) (by decide)
def repuT11:List (Int×Cap×Int):=insTT 0 (2060,⟨4,3120,0,0,0,0,0,7,0,0,0⟩,0) repuT10
theorem repu_11:RepU (bC 1) repuT11:=(show RepU _ repuT10 from repu_10).lay 0 2060 ⟨4,3120,0,0,0,0,0,7,0,0,0⟩ 0 (by decide) (by decide) (by decide) (by decide) (by decide) (by decide)
def repuT12:List (Int×Cap×Int):=insTT 0 (2064,⟨4,3124,0,0,0,0,0,7,0,0,0⟩,0) repuT11
theorem repu_12:RepU (bC 2) repuT12:=(show RepU _ repuT11 from repu_11).lay 0 2064 ⟨4,3124,0,0,0,0,0,7,0,0,0⟩ 0 (by decide) (by decide) (by decide) (by decide) (by decide) (by decide)
def repuT13:List (Int×Cap×Int):=insTT 0 (2068,⟨4,3128,0,0,0,0,0,7,0,0,0⟩,0) repuT12
theorem repu_13:RepU (bC 3) repuT13:=(show RepU _ repuT12 from repu_12).lay 0 2068 ⟨4,3128,0,0,0,0,0,7,0,0,0⟩ 0 (by decide) (by decide) (by decide) (by decide) (by decide) (by decide)
def repuT14:List (Int×Cap×Int):=insTT 0 (2072,⟨5,3136,0,0,0,0,0,7,0,0,0⟩,0) repuT13
theorem repu_14:RepU ((bD 0).l9 (6+((0:Nat):Int)) (capR 5 (3136+8*((0:Nat):Int)))) repuT14:=(show RepU _ repuT13 from repu_13).lay 0 2072 ⟨5,3136,0,0,0,0,0,7,0,0,0⟩ 0 (by decide) (by decide) (by decide) (by decide) (by decide) (by decide)
def repuT15:List (Int×Cap×Int):=insTT 0 (2080,⟨8,3152,0,0,0,0,0,7,0,0,0⟩,0) repuT14
theorem repu_15:RepU (bD 1) repuT15:=(show RepU _ repuT14 from repu_14).lay 0 2080 ⟨8,3152,0,0,0,0,0,7,0,0,0⟩ 0 (by decide) (by decide) (by decide) (by decide) (by decide) (by decide)
def repuT16:List (Int×Cap×Int):=insTT 0 (2076,⟨5,3144,0,0,0,0,0,7,0,0,0⟩,0) repuT15
theorem repu_16:RepU ((bD 1).l9 (6+((1:Nat):Int)) (capR 5 (3136+8*((1:Nat):Int)))) repuT16:=(show RepU _ repuT15 from repu_15).lay 0 2076 ⟨5,3144,0,0,0,0,0,7,0,0,0⟩ 0 (by decide) (by decide) (by decide) (by decide) (by decide) (by decide)
def repuT17:List (Int×Cap×Int):=insTT 0 (2084,⟨8,3168,0,0,0,0,0,7,0,0,0⟩,0) repuT16
theorem repu_17:RepU (bD 2) repuT17:=(show RepU _ repuT16 from repu_16).lay 0 2084 ⟨8,3168,0,0,0,0,0,7,0,0,0⟩ 0 (by decide) (by decide) (by decide) (by decide) (by decide) (by decide)
def repuT18:List (Int×Cap×Int):=insTT 0 (2088,⟨6,3184,0,0,0,0,0,0,0,0,0⟩,0) repuT17
theorem repu_18:RepU (bE 1) repuT18:=(show RepU _ repuT17 from repu_17).lay 0 2088 ⟨6,3184,0,0,0,0,0,0,0,0,0⟩ 0 (by decide) (by decide) (by decide) (by decide) (by decide) (by decide)
def repuT19:List (Int×Cap×Int):=insTT 0 (2092,⟨6,3192,0,0,0,0,0,0,0,0,0⟩,0) repuT18
theorem repu_19:RepU (bE 2) repuT19:=(show RepU _ repuT18 from repu_18).lay 0 2092 ⟨6,3192,0,0,0,0,0,0,0,0,0⟩ 0 (by decide) (by decide) (by decide) (by decide) (by decide) (by decide)
def repuT20:List (Int×Cap×Int):=insTT 0 (2096,⟨6,3200,0,0,0,0,0,0,0,0,0⟩,0) repuT19
theorem repu_20:RepU (bE 3) repuT20:=(show RepU _ repuT19 from repu_19).lay 0 2096 ⟨6,3200,0,0,0,0,0,0,0,0,0⟩ 0 (by decide) (by decide) (by decide) (by decide) (by decide) (by decide)
def repuT21:List (Int×Cap×Int):=insTT 0 (2100,⟨6,3208,0,0,0,0,0,0,0,0,0⟩,0) repuT20
theorem repu_21:RepU (bE 4) repuT21:=(show RepU _ repuT20 from repu_20).lay 0 2100 ⟨6,3208,0,0,0,0,0,0,0,0,0⟩ 0 (by decide) (by decide) (by decide) (by decide) (by decide) (by decide)
def repuT22:List (Int×Cap×Int):=insTT 0 (2104,⟨7,3216,0,0,0,0,0,0,0,0,0⟩,0) repuT21
theorem repu_22:RepU ((bE 4).l9 14 (capO 7 3216)) repuT22:=(show RepU _ repuT21 from repu_21).lay 0 2104 ⟨7,3216,0,0,0,0,0,0,0,0,0⟩ 0 (by decide) (by decide) (by decide) (by decide) (by decide) (by decide)
def repuT23:List (Int×Cap×Int):=insTT 0 (2108,⟨1,3584,9,0,0,0,0,0,0,0,0⟩,0) repuT22
theorem repu_23:RepU (((bE 4).l9 14 (capO 7 3216)).l9 15 (capB 1 3584 9)) repuT23:=(show RepU _ repuT22 from repu_22).lay 0 2108 ⟨1,3584,9,0,0,0,0,0,0,0,0⟩ 0 (by decide) (by decide) (by decide) (by decide) (by decide) (by decide)
def repuT24:List (Int×Cap×Int):=insTT 0 (2112,⟨1,4096,10,0,0,0,0,0,0,0,0⟩,0) repuT23
theorem repu_24:RepU ((((bE 4).l9 14 (capO 7 3216)).l9 15 (capB 1 3584 9)).l9 16 (capB 1 4096 10)) repuT24:=(show RepU _ repuT23 from repu_23).lay 0 2112 ⟨1,4096,10,0,0,0,0,0,0,0,0⟩ 0 (by decide) (by decide) (by decide) (by decide) (by decide) (by decide)
def repuT25:List (Int×Cap×Int):=insTT 0 (2116,⟨11,0,0,0,0,0,0,0,0,0,0⟩,0) repuT24
theorem repu_25:RepU (((((bE 4).l9 14 (capO 7 3216)).l9 15 (capB 1 3584 9)).l9 16 (capB 1 4096 10)).l9 17 (capO 11 0)) repuT25:=(show RepU _ repuT24 from repu_24).lay 0 2116 ⟨11,0,0,0,0,0,0,0,0,0,0⟩ 0 (by decide) (by decide) (by decide) (by decide) (by decide) (by decide)
def repuT26:List (Int×Cap×Int):=insTT 0 (2120,⟨13,0,0,0,0,0,0,0,0,0,0⟩,0) repuT25
theorem repu_26:RepU (baseM) repuT26:=(show RepU _ repuT25 from repu_25).lay 0 2120 ⟨13,0,0,0,0,0,0,0,0,0,0⟩ 0 (by decide) (by decide) (by decide) (by decide) (by decide) (by decide)
def buT:List (Int×Cap×Int):=[(2120,⟨13,0,0,0,0,0,0,0,0,0,0⟩,0),(2116,⟨11,0,0,0,0,0,0,0,0,0,0⟩,0),(2112,⟨1,4096,10,0,0,0,0,0,0,0,0⟩,0),(2108,⟨1,3584,9,0,0,0,0,0,0,0,0⟩,0),(2104,⟨7,3216,0,0,0,0,0,0,0,0,0⟩,0),(2100,⟨6,3208,0,0,0,0,0,0,0,0,0⟩,0),(2096,⟨6,3200,0,0,0,0,0,0,0,0,0⟩,0),(2092,⟨6,3192,0,0,0,0,0,0,0,0,0⟩,0),(2088,⟨6,3184,0,0,0,0,0,0,0,0,0⟩,0),(2084,⟨8,3168,0,0,0,0,0,7,0,0,0⟩,0),(2076,⟨5,3144,0,0,0,0,0,7,0,0,0⟩,0),(2080,⟨8,3152,0,0,0,0,0,7,0,0,0⟩,0),(2072,⟨5,3136,0,0,0,0,0,7,0,0,0⟩,0),(2068,⟨4,3128,0,0,0,0,0,7,0,0,0⟩,0),(2064,⟨4,3124,0,0,0,0,0,7,0,0,0⟩,0),(2060,⟨4,3120,0,0,0,0,0,7,0,0,0⟩,0),(2056,⟨2,3104,2,0,1,1,0,0,0,0,0⟩,0),(2052,⟨2,3072,3,0,0,0,0,0,0,0,0⟩,0),(1024,⟨2,2048,8,0,0,24,0,0,0,0,0⟩,0),(1216,⟨2,2048,8,0,0,24,0,0,0,0,0⟩,1),(1152,⟨2,2048,8,0,0,24,0,0,0,0,0⟩,1),(1088,⟨2,2048,8,0,0,24,0,0,0,0,0⟩,1),(44,⟨3,1216,0,0,0,0,0,0,0,0,0⟩,0),(40,⟨3,1152,0,0,0,0,0,0,0,0,0⟩,0),(36,⟨3,1088,0,0,0,0,0,0,0,0,0⟩,0),(32,⟨3,1024,0,0,0,0,0,0,0,0,0⟩,0)]
def buL:List Int:=[2120,2116,2112,2108,2104,2100,2096,2092,2088,2084,2076,2080,2072,2068,2064,2060,2056,2052,1024,1216,1152,1088,44,40,36,32]
theorem bu_is:repuT26=buT:=by rfl
theorem buL_is:buT.map (·.1)=buL:=rfl
theorem repu_base:RepU baseM buT:=by rw [<-bu_is]; exact repu_26
instance (c d:Cap):Decidable (aptP c d):=by unfold aptP; infer_instance
def buD (x:Int):Int:=(capT buT x).2
theorem bu_pc:∀ x,x∈buL->(capT buT x).1.ty=1->3584<=(capT buT x).1.obj/\(capT buT x).1.obj+szN (capT buT x).1<=5120/\(capT buT x).1.mark=0/\under buD buL x=[]:=by decide
theorem bu_apt:∀ x,x∈buL->∀ y,y∈buL->x≠y->y∉under buD buL x->x∉under buD buL y->aptP (capT buT x).1 (capT buT y).1:=by decide
theorem RepU.ut {m:M} (R:RepU m buT):UT m buL:=by
 have hL:=R.ui
 rw [buL_is] at hL
 have hc:∀ x,x∈buL->(m.gV x).cap=(capT buT x).1:=fun x hx=>by rw [<-R.cap x (by rw [buL_is]; exact hx)]
 have hD:∀ x,x∈buL->m.D x=buD x:=fun x hx=>by unfold buD; rw [<-R.cap x (by rw [buL_is]; exact hx)]
 have hu:∀ x,under m.D buL x=under buD buL x:=fun x=>under_congr hD
 refine ⟨hL,fun x hx h1=>?_,fun x hx h1 j j1 j2=>?_,fun x y hx h1 hy=>?_,fun x y hx hy hne n1 n2=>?_⟩
 ·rw [hc x hx] at h1 ⊢
  obtain ⟨q1,q2,_⟩:=bu_pc x hx h1
  exact ⟨q1,q2⟩
 ·rw [hc x hx] at h1 j1
  obtain ⟨q1,_,q3,_⟩:=bu_pc x hx h1
  exact R.zr j (by omega)
 ·rw [hc x hx] at h1
  rw [hu,(bu_pc x hx h1).2.2.2] at hy
  cases hy
 ·rw [hu] at n1 n2
  rw [hc x hx,hc y hy]
  exact bu_apt x hx y hy hne n1 n2

def baseC5:M:=(M.zero 13).lay 0 baseM.w
theorem base_len5:baseM.w.length=8192:=by
 exact repu_base.ui.len
theorem lay_all5 {m:M} {vs:List Int} (hl:vs.length=m.w.length) (hu:∀ v,v∈vs->u64 v):(m.lay 0 vs).w=vs:=by
 have h1:=M.lay_w vs m 0 hu
 have h2:=put_all' (wc vs) (wc m.w) [] (by rw [wc_len,wc_len,hl])
 simp only [List.nil_append,List.length_nil] at h2
 rw [h2] at h1
 have h3:=congrArg unwc h1
 rw [unwc_wc,unwc_wc] at h3
 exact (Option.some.inj h3).symm
theorem base_len25:baseM.w.length=(M.zero 13).w.length:=by
 rw [base_len5,M.zero_len]
 decide
theorem baseC_w5:baseC5.w=baseM.w:=by
 unfold baseC5
 exact lay_all5 base_len25 baseM.u
def basedG5:List V->List Blk->Res
 | [],h=>.ok (.s (.p (.g (h.length+4)) 0)) [] (wH h baseC5 baseM [])
 | _,_=>.bad
theorem wH_tail5 (h:List Blk) (m r:M) (X:List Blk):∃ Y,wH h m r X=h++Y:=by
 rw [wH,memH,memH,List.append_assoc,List.append_assoc]
 exact ⟨_,rfl⟩
theorem cut_wH5 {h:List Blk} {m r:M} {X:List Blk} {v:V} {K:V->List Blk->Prop} (hc:clean h.length h=true) (hv:v.val h.length 0=true) (hK:K v h):Cut h.length K v (wH h m r X):=by
 obtain ⟨Y,e⟩:=wH_tail5 h m r X
 rw [e]
 exact ⟨h,Y,rfl,Nat.le_refl _,hc,hv,hK⟩
def awake12G5:List V->List Blk->Res
 | [],h=>.ok (.s (.b true)) [] h
 | _,_=>.bad
theorem Act.cl_len5 (x:Act):x.cl.length=8:=rfl
theorem act_eta5 (x:Act):(⟨x.wh,x.a,x.b,x.c,x.rg,x.bd,x.g,x.n⟩:Act)=x:=rfl
def actZ5:Act:=⟨0,0,0,0,0,0,0,0⟩
theorem wH_old5 {h:List Blk} {j:Nat} {B:Blk} (hj:h[j]?=some B) (m r:M) (X:List Blk):(wH h m r X)[j]?=some B:=by
 obtain ⟨Y,e⟩:=wH_tail5 h m r X
 rw [e,List.getElem?_append_left (List.getElem?_eq_some_iff.1 hj).1]; exact hj
theorem repuC:RepU baseC5 buT:=repu_base.of_w baseC_w5

noncomputable def TVb:Tab:=addT 63 baseG (addT 49 newM (addT 64 load2G (noT)))
theorem TVb_snd:TVb.Snd Tryz.prog:=addT_snd ok63 base_snd (addT_snd ok49 new_snd (addT_snd ok64 load2_snd ((noT_snd _))))
theorem based15_snd:Snd Tryz.prog 17 (FSpec.of basedG5):=snd_run TVb_snd mixed Tryz.func17 dc17 300 fun args h K hc hS=>by
 unfold basedG5 at hS
 split at hS
 ·simp only [spec_ok] at hS
  have hd:decide ((11:Int)<=13)&&decide ((13:Int)<=16)=true:=by decide
  have ht:Int.toNat 13=13:=rfl
  have hbl:=base_len5
  have ha1:∀ X,(memH (memH h baseM) (M.zero 13)++X)[h.length]?=some (MB (h.length+1) baseM):=fun X=>(memH_is1 h baseM (M.zero 13)).app.ha
  have ha1':(memH (memH h baseM) (M.zero 13))[h.length]?=some (MB (h.length+1) baseM):=(memH_is1 h baseM (M.zero 13)).ha
  have hb1':(memH (memH h baseM) (M.zero 13))[h.length+1]?=some (MW baseM):=(memH_is1 h baseM (M.zero 13)).hb
  have hL1:listOf (memH (memH h baseM) (M.zero 13)) (.sl (.g (h.length+1)) 0 baseM.w.length baseM.w.length)=some baseM.w:=listOf_at (st:=.rw) (room:=baseM.w.length) hb1' (fun x=>BK.noConfusion x) rfl
  have hmo:memOf (memH (memH h baseM) (M.zero 13)) (h.length+2)=some (h.length+3,M.zero 13):=memOf_eq (memH_is2 h baseM (M.zero 13))
  have hh:(M.zero 13).has 0 baseM.w.length=true:=M.has_iff.2 (by rw [M.zero_len,base_len5]; decide)
  simp (maxSteps:=999999) only [go_sem,simprocAttr,↓qT,↓qF,df17,TVb,baseG,newM,ht,ha1',MB,load2G,hL1,hmo,M.loadE,M.loadX,hh,memH_len,put,fillP]
  refine ⟨⟨fun e=>?_,baseM.u⟩, ?_⟩
  ·exact absurd e (by omega)
  refine ⟨[0],by simp,rfl, ?_⟩
  simp only [getAll,List.getElem?_cons_zero]
  refine ⟨?_, ?_⟩
  ·simp [S.kept,R.kept]
  ·rw [memH_set2]
   refine cast ?_ hS
   simp [wH,wB,baseC5,V.ren,S.ren,R.prom,Blk.ren,memH_len,List.idxOf,List.findIdx,List.findIdx.go]
 ·exact hS.elim
def pieceV (n:Int):Int:=if n=0\/n=1 then 2048+4*(15+n) else plcV n
def pieceG:List V->List Blk->Res
 | [.s (.i .i64 n)],h=>.ok (.s (.i .i64 (pieceV n))) [] h
 | _,_=>.bad
noncomputable def TVp:Tab:=addT 39 plcG (noT)
theorem TVp_snd:TVp.Snd Tryz.prog:=addT_snd ok39 plc_snd ((noT_snd _))
theorem piece_snd:Snd Tryz.prog 22 (FSpec.of pieceG):=snd_run TVp_snd mixed Tryz.func22 dc22 200 fun args h K hc hS=>by
 unfold pieceG at hS
 split at hS
 ·rename_i n
  simp only [spec_ok,pieceV] at hS
  by_cases h0:n=0
  ·subst h0
   have e:IntKind.i64.wrap (2048+IntKind.i64.wrap (4*IntKind.i64.wrap (15+0)))=2048+4*(15+0):=by decide
   simp only [true_or,if_true] at hS
   simp (maxSteps:=999999) only [go_sem,simprocAttr,↓qT,↓qF,df22,TVp,plcG]
   exact hS
  by_cases h1:n=1
  ·subst h1
   simp only [or_true,if_true] at hS
   simp (maxSteps:=999999) only [go_sem,simprocAttr,↓qT,↓qF,df22,TVp,plcG]
   exact hS
  ·have k0:(n==0)=false:=by simpa using h0
   have k1:(n==1)=false:=by simpa using h1
   rw [if_neg (by omega)] at hS
   simp (maxSteps:=999999) only [go_sem,simprocAttr,↓qT,↓qF,df22,TVp,plcG,k0,k1]
   exact hS
 ·exact hS.elim
theorem piece_P {n:Int} (h:i64b n):P15 (pieceV n):=by
 unfold pieceV
 split
 ·rename_i hn
  unfold P15
  omega
 ·obtain ⟨k,hk,e⟩:=plc_is h
  rw [e]
  unfold placeN P15
  split
  ·omega
  ·split<;>omega

def ndA (n:Int):Int:=if pickV n 3=0 then 1024 else 2048+4*pickV n 3
theorem pick3 {n:Int} (h:i64b n):pickV n 3=0\/pickV n 3=1\/pickV n 3=2:=by
 unfold pickV
 unfold i64b at h
 have:0<=(if n<0 then IntKind.i64.wrap (0-IntKind.i64.wrap (n+1)) else n):=by
  split
  ·rw [wrap64 (n:=n+1) (by omega) (by omega),wrap64 (by omega) (by omega)]; omega
  ·omega
 rw [Int.tmod_eq_emod_of_nonneg this]
 omega
theorem nd_is {n:Int} (h:i64b n):ndA n=1024\/ndA n=2052\/ndA n=2056:=by
 unfold ndA
 rcases pick3 h with e|e|e<;>rw [e]<;>decide
noncomputable def nodeM (m r:M) (st:M->M->List Blk):List V->Res
 | [.s (.i .i64 n)]=>.ob (i64b n) (.ok (.agg (r.gV (ndA n)).cap.cl) [] (st m (r.gX (ndA n))))
 | _=>.bad
noncomputable def node15G:=wldF nodeM
def root9M (b:Nat) (m:M) (st:M->List Blk):List V->Res
 | [.s (.i .i64 x)]=>.ob (0<=x/\x<=65536) (.ok (.agg (m.gV x).cap.cl) [] (st (m.gX x)))
 | _=>.bad
noncomputable def root9G:=memF root9M
noncomputable def TVr:Tab:=addT 66 cap9G (noT)
theorem TVr_snd:TVr.Snd Tryz.prog:=addT_snd ok66 rcap9_snd ((noT_snd _))
theorem rroot_snd:Snd Tryz.prog 20 (FSpec.of root9G):=snd_run TVr_snd mixed Tryz.func20 dc20 200 fun args h K hc hS=>by
 obtain ⟨a,b,m,rest,rfl,H,hS1⟩:=memF_spec (f:=root9M) hS
 clear hS
 have hS:=hS1
 clear hS1
 unfold root9M at hS
 split at hS
 ·rename_i x
  simp only [spec_ob,spec_ok] at hS
  obtain ⟨hx,hS⟩:=hS
  have e:IntKind.i64.wrap x=x:=by rw [wrap64]<;>omega
  simp (maxSteps:=999999) only [go_sem,simprocAttr,↓qT,↓qF,df20,TVr,cap9G,cap9M,memF_eq H,e,Int.add_zero,Cap.cl,put,fillP,sub,EVt]
  exact hS
 ·exact hS.elim
noncomputable def TVn:Tab:=addT 18 pickG (addT 20 root9G (addT 66 cap9G (noT)))
theorem TVn_snd:TVn.Snd Tryz.prog:=addT_snd ok18 pick_snd (addT_snd ok20 rroot_snd (addT_snd ok66 rcap9_snd ((noT_snd _))))
theorem node15_snd:Snd Tryz.prog 29 (FSpec.of node15G):=snd_run TVn_snd mixed Tryz.func29 dc29 200 fun args H K hc hS=>by
 obtain ⟨h,m,r,X,rest,rfl,rfl,hS1⟩:=wldF_spec hS
 clear hS
 unfold nodeM at hS1
 split at hS1
 ·rename_i n
  simp only [spec_ob,spec_ok,ndA] at hS1
  obtain ⟨hn,hS⟩:=hS1
  have hB:(wH h m r X)[h.length+4]?=some ⟨.rw,[.p (.g (h.length+2)) 0, .p (.g h.length) 0],2⟩:=wH_at h m r X
  have h3:=pick3 hn
  obtain ⟨q,hq⟩:∃ q,pickV n 3=q:=⟨_,rfl⟩
  rw [hq] at hS h3
  by_cases c:q=0
  ·subst c
   simp only [if_true] at hS
   simp (maxSteps:=999999) only [go_sem,simprocAttr,↓qT,↓qF,df29,TVn,pickG,hq,hB,root9G,root9M,wH_r,Cap.cl,put,fillP,sub,EVt]
   exact hS
  ·have c':(q==0)=false:=by simpa using c
   have e1:IntKind.i64.wrap (4*q)=4*q:=by rw [wrap64]<;>omega
   have e2:IntKind.i64.wrap (2048+4*q)=2048+4*q:=by rw [wrap64]<;>omega
   rw [if_neg c] at hS
   simp (maxSteps:=999999) only [go_sem,simprocAttr,↓qT,↓qF,df29,TVn,pickG,hq,c',e1,e2,hB,cap9G,cap9M,wH_r,Cap.cl,put,fillP,sub,EVt]
   exact hS
 ·exact hS1.elim
end Go.Proofs.YtcdfofeolgbnbaaGreat

