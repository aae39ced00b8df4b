/- Package cdt: Descendants. -/
import Derived.Test.YtcdfofeolgbnbaaGreatZ11
import Derived.Test.YtcdfofeolgbnbaaGreatZ21
import Derived.Test.YtcdfofeolgbnbaaGreatZ22
import Derived.Test.YtcdfofeolgbnbaaGreatZ15
import Derived.Test.YtcdfofeolgbnbaaGreatZ19
/- Law 12: the document's plan. -/
namespace Go.Proofs.YtcdfofeolgbnbaaGreat
open Go.D
set_option linter.all false
set_option maxRecDepth 100000
set_option maxHeartbeats 8000000

def st9M (b:Nat) (m:M) (st:M->List Blk):List V->Res
 | [.s (.i .i64 a),x]=>thF (fun t=>.ob (t.up/\∀ v,v∈t.rg->u64 v) (.ok (.tup []) [] (st (m.thX a t)))) [x]
 | _=>.bad
noncomputable def st9G:=memF st9M
noncomputable def TSt:Tab:=addT 182 tsetG (noT)
theorem TSt_snd:TSt.Snd Tryz.prog:=addT_snd ok182 rtset_snd' ((noT_snd _))
theorem st9_snd:Snd Tryz.prog 132 (FSpec.of st9G):=snd_run TSt_snd mixed Tryz.func132 dc132 200 fun args h K hc hS=>by
 obtain ⟨a,b,m,rest,rfl,H,hS1⟩:=memF_spec hS
 clear hS
 have hS:=hS1
 clear hS1
 unfold st9M at hS
 split at hS
 ·rename_i a' x
  obtain ⟨t,e,hl,hS2⟩:=thF_spec hS
  simp only [List.cons.injEq,and_true] at e
  subst e
  clear hS
  obtain ⟨hu,hS⟩:=hS2
  simp only [spec_ok] at hS
  have hcl:t.c.length=30:=by simp [Th.c,wc_len,hl]
  have hk:known t.c=true:=by simp only [Th.c,known_cons,known_nil,wc_known,Bool.and_true,S_known,V.known]
  have hnl:t.c.all S.noL=true:=by simp [Th.c,S.noL]; exact fun x hx=>by obtain ⟨y,_,rfl⟩:=List.mem_map.1 hx; rfl
  have hsub:sub t.c 0 30=t.c:=by rw [<-hcl]; simp [sub]
  have hF:∀ f:Th->Res,thF f [.agg t.c]=.ob (t.rg.length=16) (f t):=fun f=>by simp only [thF,Th.c,unwc_wc,th_eta]
  simp (maxSteps:=999999) only [go_sem,simprocAttr,↓qT,↓qF,df132,TSt,tsetG,memF_eq H,tsetM,hF,hl,hcl,hk,hnl,hsub,hu,put,fillP,EVt]
  exact ⟨hu.2,hS⟩
 ·exact hS.elim

def M.l9 (m:M) (i:Int) (c:Cap):M:=m.rlayX 0 (IntKind.i64.wrap (2048+IntKind.i64.wrap (4*i))) c
def lays9M (b:Nat) (m:M) (st:M->List Blk):List V->Res
 | [.s (.i .i64 i),x]=>capF (fun c=>.ok (.tup []) [] (st (m.l9 i c))) [x]
 | _=>.bad
noncomputable def lays9G:=memF lays9M
noncomputable def TLy:Tab:=addT 133 rlay9G (noT)
theorem TLy_snd:TLy.Snd Tryz.prog:=addT_snd ok133 rlay9_snd ((noT_snd _))
theorem lays9_snd:Snd Tryz.prog 135 (FSpec.of lays9G):=snd_run TLy_snd mixed Tryz.func135 dc135 200 fun args h K hc hS=>by
 obtain ⟨a,b,m,rest,rfl,H,hS1⟩:=memF_spec hS
 clear hS
 have hS:=hS1
 clear hS1
 unfold lays9M at hS
 split at hS
 ·rename_i i x
  obtain ⟨c,e,hS2⟩:=capF_spec hS
  simp only [List.cons.injEq,and_true] at e
  subst e
  clear hS
  simp only [spec_ok,M.l9] at hS2
  simp (maxSteps:=999999) only [go_sem,simprocAttr,↓qT,↓qF,df135,TLy,rlay9G,lay9M,memF_eq H,capF,cap_eta,Cap.cl,sub,put,fillP,EVt]
  exact hS2
 ·exact hS.elim
def bootG:List V->List Blk->Res
 | [.s (.i .i64 i)],h=>.ob (0<=i/\i<=7) (.ok (.s (.i .i64 (32+4*i))) [] h)
 | _,_=>.bad
theorem boot_snd:Snd Tryz.prog 134 (FSpec.of bootG):=snd_run (noT_snd _) mixed Tryz.func134 dc134 100 fun args h K hc hS=>by
 unfold bootG at hS
 split at hS
 ·rename_i i
  obtain ⟨⟨h1,h2⟩,hS⟩:=hS
  simp only [spec_ok] at hS
  have c1:¬ i<0:=by omega
  have c2:¬ 7<i:=by omega
  have w1:IntKind.i64.wrap (4*i)=4*i:=wrap64 (by omega) (by omega)
  have w2:IntKind.i64.wrap (32+4*i)=32+4*i:=wrap64 (by omega) (by omega)
  simp (maxSteps:=999999) only [go_sem,simprocAttr,↓qT,↓qF,df134,c1,c2,w1,w2]
  exact hS
 ·exact hS.elim

/-! ### the plan -/
def capO (ty obj:Int):Cap:=⟨ty,obj,0,0,0,0,0,0,0,0,0⟩
def capB (ty obj bits:Int):Cap:=⟨ty,obj,bits,0,0,0,0,0,0,0,0⟩
def capR (ty obj:Int):Cap:=⟨ty,obj,0,0,0,0,0,7,0,0,0⟩
def rootC:Cap:=⟨2,2048,8,0,0,24,0,0,0,0,0⟩
def thBs (i:Nat):Th:=⟨0,10+(i:Int).tdiv 2,5,false,0,0,0,0,false,false,0,0,0,0,[0,0,0,0,0,0,0,0,0,0,0,0,0,0,0,0]⟩
def bA:Nat->M
 | 0=>M.zero 13
 | i+1=>((bA i).thX (1024+64*i) (thBs i)).rlayX 0 (32+4*i) (capO 3 (1024+64*i))
def bB:Nat->M
 | 0=>(bA 4).rlayX 0 1024 rootC
 | i+1=>(bB i).rlayX 1024 (1024+64*((i+1:Nat):Int)) rootC
def bC:Nat->M
 | 0=>((bB 3).l9 1 (capB 2 3072 3)).l9 2 ⟨2,3104,2,0,1,1,0,0,0,0,0⟩
 | i+1=>(bC i).l9 (3+i) (capR 4 (3120+4*i))
def bD:Nat->M
 | 0=>bC 3
 | i+1=>((bD i).l9 (6+i) (capR 5 (3136+8*i))).l9 (8+i) (capR 8 (3152+16*i))
def bE:Nat->M
 | 0=>bD 2
 | i+1=>(bE i).l9 (10+i) (capO 6 (3184+8*i))
def baseM:M:=(((((bE 4).l9 14 (capO 7 3216)).l9 15 (capB 1 3584 9)).l9 16 (capB 1 4096 10)).l9 17 (capO 11 0)).l9 18 (capO 13 0)
def baseG:List V->List Blk->Res
 | [],h=>.ok (.s (.p (.g h.length) 0)) [] (memH h baseM)
 | _,_=>.bad
noncomputable def TBa:Tab:=addT 50 newM (addT 132 st9G (addT 134 bootG (addT 133 rlay9G (addT 135 lays9G (noT)))))
theorem TBa_snd:TBa.Snd Tryz.prog:=addT_snd ok50 rnew_snd (addT_snd ok132 st9_snd (addT_snd ok134 boot_snd (addT_snd ok133 rlay9_snd (addT_snd ok135 lays9_snd ((noT_snd _))))))
theorem thBs_ok {i:Nat} (h:i<4):(thBs i).up/\∀ v,v∈(thBs i).rg->u64 v:=by
 have e:i=0\/i=1\/i=2\/i=3:=by omega
 refine ⟨?_,fun v hv=>?_⟩
 ·rcases e with rfl|rfl|rfl|rfl<;>simp [Th.up,thBs,sml]
 ·have:v=0:=by simpa [thBs] using hv
  subst this; exact ⟨by omega,by omega⟩
theorem base_snd:Snd Tryz.prog 63 (FSpec.of baseG):=snd_run TBa_snd mixed Tryz.func63 dc63 300 fun args h K hc hS=>by
 unfold baseG at hS
 split at hS
 ·simp only [spec_ok] at hS
  have hd:decide ((11:Int)<=13)&&decide ((13:Int)<=16)=true:=by decide
  have ht:Int.toNat 13=13:=rfl
  simp (maxSteps:=999999) only [go_sem,simprocAttr,↓qT,↓qF,df63,TBa,newM,ht]
  refine loop_rule (α:=Nat) [3,4,14,15,16,17,18,19,20,21,22,23,24,25,26,27,28,29,30,31,32,33] (fun i=>[(3, .s (.i .i64 (i:Int)))]) (fun _=>[]) (fun i=>memH h (bA i)) (fun i=>i<=4) (fun i=>4-i) 0 (Nat.zero_le _) (Wk.same rfl rfl ?_) ?_
  ·simp (maxSteps:=999999) only [go_sem,simprocAttr,↓qT,↓qF,Int.natCast_zero]
  ·rintro X i hi IH
   rcases Nat.lt_or_ge i 4 with hlt|hge
   ·have c0:(i:Int)<4:=by omega
    have w1:IntKind.i64.wrap (64*(i:Int))=64*i:=wrap64 (by omega) (by omega)
    have w2:IntKind.i64.wrap (1024+64*(i:Int))=1024+64*i:=wrap64 (by omega) (by omega)
    have w3:IntKind.i64.wrap ((i:Int).tdiv 2)=(i:Int).tdiv 2:=by rw [Int.tdiv_eq_ediv_of_nonneg (by omega)]; exact wrap64 (by omega) (by omega)
    have w4:IntKind.i64.wrap (10+(i:Int).tdiv 2)=10+(i:Int).tdiv 2:=by rw [Int.tdiv_eq_ediv_of_nonneg (by omega)]; exact wrap64 (by omega) (by omega)
    have w5:IntKind.i64.wrap ((i:Int)+1)=((i+1:Nat):Int):=by rw [wrap64]<;>omega
    have b0:0<=(i:Int):=by omega
    have b7:(i:Int)<=7:=by omega
    refine run_sound (Tab.ok_Γ _) 200 _ _ _ _ ?_
    simp (maxSteps:=999999) only [go_sem,simprocAttr,↓qT,↓qF,TBa,st9G,memF_new,st9M,thF,unwc_cons,unwc_nil,bootG,rlay9G,lay9M,capF,c0,w1,w2,w3,w4,w5,b0,b7,put,fillP,sub,EVt]
    refine ⟨thBs_ok hlt, ?_⟩
    exact IH (i+1) _ (by omega) (by omega) (Wk.same rfl rfl (by simp only [go_sem,simprocAttr,↓qT,↓qF]))
   ·have:i=4:=by omega
    subst this
    have c0:¬ (((4:Nat):Int)<4):=by omega
    clear IH
    refine run_sound (Tab.ok_Γ _) 200 _ _ _ _ ?_
    simp (maxSteps:=999999) only [go_sem,simprocAttr,↓qT,↓qF,TBa,rlay9G,memF_new,lay9M,capF,c0,put,fillP,sub,EVt]
    refine loop_rule (α:=Nat) [6,38,39,40,41,42,43,44,45,46,47] (fun i=>[(6, .s (.i .i64 ((i+1:Nat):Int)))]) (fun _=>[⟨.rw,rootC.cl,11⟩]) (fun i=>memH h (bB i)) (fun i=>i<=3) (fun i=>3-i) 0 (Nat.zero_le _) (Wk.same rfl rfl ?_) ?_
    ·simp (maxSteps:=999999) only [go_sem,simprocAttr,↓qT,↓qF,Int.natCast_zero,rootC,Cap.cl,Nat.zero_add,Int.natCast_one]
    ·rintro X1 i1 hi1 IH1
     rcases Nat.lt_or_ge i1 3 with hlt1|hge1
     ·have c1:((i1+1:Nat):Int)<4:=by omega
      have v10:IntKind.i64.wrap (64*((i1+1:Nat):Int))=64*((i1+1:Nat):Int):=by rw [wrap64]<;>omega
      have v11:IntKind.i64.wrap (1024+64*((i1+1:Nat):Int))=1024+64*((i1+1:Nat):Int):=by rw [wrap64]<;>omega
      have u1:IntKind.i64.wrap (((i1+1:Nat):Int)+1)=((i1+1+1:Nat):Int):=by rw [wrap64]<;>omega
      refine run_sound (Tab.ok_Γ _) 200 _ _ _ _ ?_
      simp (maxSteps:=999999) only [go_sem,simprocAttr,↓qT,↓qF,TBa,memF_new,rlay9G,lay9M,lays9G,lays9M,capF,cap_eta,rootC,Cap.cl,c1,v10,v11,u1,put,fillP,sub,EVt]
      exact IH1 (i1+1) _ (by omega) (by omega) (Wk.same rfl rfl (by simp only [go_sem,simprocAttr,↓qT,↓qF,rootC,Cap.cl]))
     ·have e1:i1=3:=by omega
      subst e1
      have c1:¬ (((3+1:Nat):Int)<4):=by omega
      clear IH1
      refine run_sound (Tab.ok_Γ _) 200 _ _ _ _ ?_
      simp (maxSteps:=999999) only [go_sem,simprocAttr,↓qT,↓qF,TBa,memF_new,rlay9G,lay9M,lays9G,lays9M,capF,rootC,Cap.cl,c1,put,fillP,sub,EVt]
      refine loop_rule (α:=Nat) [7,54,55,56,57,58,59,60,61,62,63,64,65] (fun i=>[(7, .s (.i .i64 (i:Int)))]) (fun _=>[⟨.rw,rootC.cl,11⟩]) (fun i=>memH h (bC i)) (fun i=>i<=3) (fun i=>3-i) 0 (Nat.zero_le _) (Wk.same rfl rfl ?_) ?_
      ·simp (maxSteps:=999999) only [go_sem,simprocAttr,↓qT,↓qF,Int.natCast_zero,rootC,Cap.cl,Nat.zero_add]
      ·rintro X2 i2 hi2 IH2
       rcases Nat.lt_or_ge i2 3 with hlt2|hge2
       ·have c2:(i2:Int)<3:=by omega
        have v20:IntKind.i64.wrap (3+(i2:Int))=3+(i2:Int):=by rw [wrap64]<;>omega
        have v21:IntKind.i64.wrap (4*(i2:Int))=4*(i2:Int):=by rw [wrap64]<;>omega
        have v22:IntKind.i64.wrap (3120+4*(i2:Int))=3120+4*(i2:Int):=by rw [wrap64]<;>omega
        have u2:IntKind.i64.wrap ((i2:Int)+1)=((i2+1:Nat):Int):=by rw [wrap64]<;>omega
        refine run_sound (Tab.ok_Γ _) 200 _ _ _ _ ?_
        simp (maxSteps:=999999) only [go_sem,simprocAttr,↓qT,↓qF,TBa,memF_new,rlay9G,lay9M,lays9G,lays9M,capF,cap_eta,rootC,Cap.cl,c2,v20,v21,v22,u2,put,fillP,sub,EVt]
        exact IH2 (i2+1) _ (by omega) (by omega) (Wk.same rfl rfl (by simp only [go_sem,simprocAttr,↓qT,↓qF,rootC,Cap.cl]))
       ·have e2:i2=3:=by omega
        subst e2
        have c2:¬ (((3:Nat):Int)<3):=by omega
        clear IH2
        refine run_sound (Tab.ok_Γ _) 200 _ _ _ _ ?_
        simp (maxSteps:=999999) only [go_sem,simprocAttr,↓qT,↓qF,TBa,memF_new,rlay9G,lay9M,lays9G,lays9M,capF,rootC,Cap.cl,c2,put,fillP,sub,EVt]
        refine loop_rule (α:=Nat) [8,66,67,68,69,70,71,72,73,74,75,76,77,78,79,80,81,82,83,84,85] (fun i=>[(8, .s (.i .i64 (i:Int)))]) (fun _=>[⟨.rw,rootC.cl,11⟩]) (fun i=>memH h (bD i)) (fun i=>i<=2) (fun i=>2-i) 0 (Nat.zero_le _) (Wk.same rfl rfl ?_) ?_
        ·simp (maxSteps:=999999) only [go_sem,simprocAttr,↓qT,↓qF,Int.natCast_zero,rootC,Cap.cl,Nat.zero_add]
        ·rintro X3 i3 hi3 IH3
         rcases Nat.lt_or_ge i3 2 with hlt3|hge3
         ·have c3:(i3:Int)<2:=by omega
          have v30:IntKind.i64.wrap (6+(i3:Int))=6+(i3:Int):=by rw [wrap64]<;>omega
          have v31:IntKind.i64.wrap (8*(i3:Int))=8*(i3:Int):=by rw [wrap64]<;>omega
          have v32:IntKind.i64.wrap (3136+8*(i3:Int))=3136+8*(i3:Int):=by rw [wrap64]<;>omega
          have v33:IntKind.i64.wrap (8+(i3:Int))=8+(i3:Int):=by rw [wrap64]<;>omega
          have v34:IntKind.i64.wrap (16*(i3:Int))=16*(i3:Int):=by rw [wrap64]<;>omega
          have v35:IntKind.i64.wrap (3152+16*(i3:Int))=3152+16*(i3:Int):=by rw [wrap64]<;>omega
          have u3:IntKind.i64.wrap ((i3:Int)+1)=((i3+1:Nat):Int):=by rw [wrap64]<;>omega
          refine run_sound (Tab.ok_Γ _) 200 _ _ _ _ ?_
          simp (maxSteps:=999999) only [go_sem,simprocAttr,↓qT,↓qF,TBa,memF_new,rlay9G,lay9M,lays9G,lays9M,capF,cap_eta,rootC,Cap.cl,c3,v30,v31,v32,v33,v34,v35,u3,put,fillP,sub,EVt]
          exact IH3 (i3+1) _ (by omega) (by omega) (Wk.same rfl rfl (by simp only [go_sem,simprocAttr,↓qT,↓qF,rootC,Cap.cl]))
         ·have e3:i3=2:=by omega
          subst e3
          have c3:¬ (((2:Nat):Int)<2):=by omega
          clear IH3
          refine run_sound (Tab.ok_Γ _) 200 _ _ _ _ ?_
          simp (maxSteps:=999999) only [go_sem,simprocAttr,↓qT,↓qF,TBa,memF_new,rlay9G,lay9M,lays9G,lays9M,capF,rootC,Cap.cl,c3,put,fillP,sub,EVt]
          refine loop_rule (α:=Nat) [9,86,87,88,89,90,91,92,93,94,95,96,97] (fun i=>[(9, .s (.i .i64 (i:Int)))]) (fun _=>[⟨.rw,rootC.cl,11⟩]) (fun i=>memH h (bE i)) (fun i=>i<=4) (fun i=>4-i) 0 (Nat.zero_le _) (Wk.same rfl rfl ?_) ?_
          ·simp (maxSteps:=999999) only [go_sem,simprocAttr,↓qT,↓qF,Int.natCast_zero,rootC,Cap.cl,Nat.zero_add]
          ·rintro X4 i4 hi4 IH4
           rcases Nat.lt_or_ge i4 4 with hlt4|hge4
           ·have c4:(i4:Int)<4:=by omega
            have v40:IntKind.i64.wrap (10+(i4:Int))=10+(i4:Int):=by rw [wrap64]<;>omega
            have v41:IntKind.i64.wrap (8*(i4:Int))=8*(i4:Int):=by rw [wrap64]<;>omega
            have v42:IntKind.i64.wrap (3184+8*(i4:Int))=3184+8*(i4:Int):=by rw [wrap64]<;>omega
            have u4:IntKind.i64.wrap ((i4:Int)+1)=((i4+1:Nat):Int):=by rw [wrap64]<;>omega
            refine run_sound (Tab.ok_Γ _) 200 _ _ _ _ ?_
            simp (maxSteps:=999999) only [go_sem,simprocAttr,↓qT,↓qF,TBa,memF_new,rlay9G,lay9M,lays9G,lays9M,capF,cap_eta,rootC,Cap.cl,c4,v40,v41,v42,u4,put,fillP,sub,EVt]
            exact IH4 (i4+1) _ (by omega) (by omega) (Wk.same rfl rfl (by simp only [go_sem,simprocAttr,↓qT,↓qF,rootC,Cap.cl]))
           ·have e4:i4=4:=by omega
            subst e4
            have c4:¬ (((4:Nat):Int)<4):=by omega
            clear IH4
            refine run_sound (Tab.ok_Γ _) 200 _ _ _ _ ?_
            simp (maxSteps:=999999) only [go_sem,simprocAttr,↓qT,↓qF,TBa,memF_new,rlay9G,lay9M,lays9G,lays9M,capF,rootC,Cap.cl,c4,put,fillP,sub,EVt]
            exact hS
 ·exact hS.elim

theorem wrs_out (m:M) (o:Nat) (ws:List Int) (j:Nat):∀ k,(j<o\/o+k<=j)->(m.wrs o ws k).at j=m.at j
 | 0,_=>rfl
 | k+1,h=>by
  rw [M.wrs,M.at_tick,M.at_put,if_neg (by omega),wrs_out m o ws j k (by omega)]
def capT:List (Int×Cap×Int)->Int->Cap×Int
 | [],_=>(capZ,0)
 | (a,c,d)::T,x=>if x=a then (c,d) else capT T x
end Go.Proofs.YtcdfofeolgbnbaaGreat

/- Package cdt: behind: the slots from one on,by their links: what its rounds are. -/
namespace Go.Proofs.YtcdfofeolgbnbaaGreat
open Go.D
set_option linter.all false
set_option maxRecDepth 100000
set_option maxHeartbeats 4000000

theorem ysw_ct {Γ:FuncId->FSpec} {l np:Nat} {R:Rnd} {K:Ex->St->U->Option Ex->Prop} {fs:List YF} {s:St} {u:U} {p:Option Ex} {a b:DC} {x:Opd} (hx:ev s.t x=.s (.b true)) (h:ysw Γ l np R K (.c a::fs) s u p):ysw Γ l np R K (.c (.cond x a b)::fs) s u p:=ysw_cond hx h
theorem ysw_cf {Γ:FuncId->FSpec} {l np:Nat} {R:Rnd} {K:Ex->St->U->Option Ex->Prop} {fs:List YF} {s:St} {u:U} {p:Option Ex} {a b:DC} {x:Opd} (hx:ev s.t x=.s (.b false)) (h:ysw Γ l np R K (.c b::fs) s u p):ysw Γ l np R K (.c (.cond x a b)::fs) s u p:=ysw_cond hx h

theorem yl_below (n l:Nat):S.below n (.yl l)=true:=(rfl)
def bhH (h:List Blk) (a b:Nat) (m:M) (x:Int):List Blk:=setM h a b m++[⟨.rw,[.p (.g a) 0],1⟩,⟨.rw,[.i .i64 x],1⟩]
section
variable {h:List Blk} {a b:Nat} {m0:M}
theorem bhH_len (m:M) (x:Int):(bhH h a b m x).length=h.length+2:=by simp [bhH,setM_len]
theorem bhH_1 (m:M) (x:Int):(bhH h a b m x)[h.length]?=some ⟨.rw,[.p (.g a) 0],1⟩:=by
 unfold bhH; rw [List.getElem?_append_right (by rw [setM_len]; omega),setM_len,Nat.sub_self]; rfl
theorem bhH_2 (m:M) (x:Int):(bhH h a b m x)[h.length+1]?=some ⟨.rw,[.i .i64 x],1⟩:=by
 unfold bhH; rw [List.getElem?_append_right (by rw [setM_len]; omega),setM_len,Nat.add_sub_cancel_left]; rfl
theorem bhH_set (m:M) (x y:Int):(bhH h a b m x).set (h.length+1) ⟨.rw,[.i .i64 y],1⟩=bhH h a b m y:=by
 unfold bhH; rw [List.set_append_right _ _ (by rw [setM_len]; omega),setM_len,Nat.add_sub_cancel_left]; rfl
theorem memF_bh {f:Nat->M->(M->List Blk)->List V->Res} {m:M} {x:Int} {rest:List V} (H:IsMem h a b m0):memF f (.s (.p (.g a) 0)::rest) (bhH h a b m x)=f b m (fun m=>bhH h a b m x) rest:=memF_app H
theorem bh_lt (H:IsMem h a b m0):a<h.length+2:=by have:=H.lta; omega
end

def behG:List V->List Blk->Res
 | [.s (.p (.g a) 0), .s (.i .i64 x)],h=>.ok (.s (.fn 160 [(.g h.length,0),(.g (h.length+1),0)])) [] (h++[⟨.rw,[.p (.g a) 0],1⟩,⟨.rw,[.i .i64 x],1⟩])
 | _,_=>.bad
theorem beh_snd:Snd Tryz.prog 99 (FSpec.of behG):=snd_run (noT_snd _) mixed Tryz.func99 dc99 100 fun args h K hc hS=>by
 unfold behG at hS
 split at hS
 ·rename_i a x
  simp only [spec_ok] at hS
  simp (maxSteps:=999999) only [go_sem,simprocAttr,↓qT,↓qF,df99]
  refine ⟨[0,1],by simp,rfl, ?_⟩
  simp only [getAll,List.getElem?_cons_zero,List.getElem?_cons_succ]
  refine ⟨?_, ?_⟩
  ·simp [S.kept,R.kept]
  ·refine cast ?_ hS
   simp [Blk.ren,S.ren,R.prom,V.ren,List.idxOf,List.findIdx,List.findIdx.go]
 ·exact hS.elim

def RM (R:Rnd) (args:List V) (u:U) (h:List Blk) (K:Option Ex->U->List Blk->Prop):Prop:=∀ K':Option Ex->U->List Blk->Prop,(∀ p u' h',K p u' h'->K' p u' h')->R args u h K'
def bw (g:M->Int->List Blk) (R:Rnd) (K:Option Ex->U->List Blk->Prop):Nat->Int->M->U->Prop
 | 0,x,m,u=>if x=0 then K none u (g m x) else RM R [.s (.i .i64 0), .agg slotZ.cl] u (g m x) K
 | k+1,x,m,u=>if x=0 then K none u (g m x) else if m.fE x=0 then
   RM R [.s (.i .i64 x), .agg (m.gV x).cl] u (g (m.gX x) x) fun p u' h'=>h'=g (m.gX x) x/\match p with
    | none=>bw g R K k (m.gV x).next (m.gX x) u'
    | some e=>K (some e) u' h'
  else RM R [.s (.i .i64 0), .agg slotZ.cl] u (g (m.gX x) x) K
noncomputable def TBh:Tab:=addT 150 wordsG (addT 74 fullG (noT))
theorem TBh_snd:TBh.Snd Tryz.prog:=addT_snd ok150 mwords_snd (addT_snd ok74 full_snd ((noT_snd _)))
theorem behind1_is {h:List Blk} {a b:Nat} {m0 m:M} {x:Int} {u:U} {R:Rnd} {K:Option Ex->U->List Blk->Prop} (H:IsMem h a b m0) (hw:bw (bhH h a b) R K (m.w.length/4) x m u) :
  isem 160 [.s (.p (.g h.length) 0), .s (.p (.g (h.length+1)) 0)] 2 u (bhH h a b m x) R K:=by
 refine isem_of mixed (Tab.snd_Γ TBh_snd) ok160 Tryz.func160 dc160 rfl rfl rfl fun l=>?_
 have h1:=bhH_1 (h:=h) (a:=a) (b:=b)
 have h2:=bhH_2 (h:=h) (a:=a) (b:=b)
 have h3:=bhH_set (h:=h) (a:=a) (b:=b)
 have hmf:=fun f m x rest=>memF_bh (f:=f) (m:=m) (x:=x) (rest:=rest) H
 have hq:IntKind.i64.wrap ((m.w.length:Int).tdiv 4)=((m.w.length/4:Nat):Int):=by
  have:=m.l
  rw [Int.tdiv_eq_ediv_of_nonneg (by omega),wrap64]<;>omega
 obtain ⟨N,hN⟩:∃ N,m.w.length/4=N:=⟨_,rfl⟩
 rw [hN] at hw hq
 have hNl:N<=2199023255552:=by have:=m.l; omega
 refine ysw_seq (ysw_seq (ysw_reg (Tab.ok_Γ _) 60 rfl ?_))
 simp (maxSteps:=999999) only [go_sem,simprocAttr,↓qT,↓qF,df160,TBh,h1,h2,hmf,wordsG,wordsM,hq]
 refine ysw_block (by decide) ?_
 refine ysw_loop (α:=Nat×Int×M) [4,5,9,10,11,12,13,14,15,16,17,18,19,20,21,22,23,24,25,26,27,28,29,30,31] (fun y=>[(9, .s (.i .i64 (y.1:Int)))]) (fun _=>[]) (fun y=>bhH h a b y.2.2 y.2.1) (fun y u p=>p=none/\y.1<=N/\bw (bhH h a b) R K (N-y.1) y.2.1 y.2.2 u) (fun y=>N-y.1) (0,x,m) ⟨rfl,Nat.zero_le _,hw⟩ rfl ?_ ?_
 ·refine Wk.same rfl rfl ?_
  simp (maxSteps:=999999) only [go_sem,simprocAttr,↓qT,↓qF,Int.natCast_zero]
 ·rintro X ⟨i,y,m'⟩ u p ⟨rfl,hi,hw⟩ IH
  simp only at hi hw ⊢
  clear hq hN
  refine ysw_seq (ysw_reg (Tab.ok_Γ _) 60 rfl ?_)
  rcases Nat.lt_or_ge i N with hlt|hge
  ·have I:(i:Int)<N:=by omega
   have I2:IntKind.i64.wrap ((i:Int)+1)=((i+1:Nat):Int):=by rw [wrap64]<;>omega
   obtain ⟨k,hk⟩:∃ k,N-i=k+1:=⟨N-i-1,by omega⟩
   rw [hk] at hw
   simp (maxSteps:=999999) only [go_sem,simprocAttr,↓qT,↓qF,df160,TBh,I]
   refine ysw_seq (ysw_ct rfl (ysw_skip (ysw_seq (ysw_block (by decide) (ysw_seq (ysw_seq (ysw_reg (Tab.ok_Γ _) 60 rfl ?_)))))))
   by_cases hy:y=0
   ·rw [hy] at hw ⊢
    simp only [bw,if_true] at hw
    simp (maxSteps:=999999) only [go_sem,simprocAttr,↓qT,↓qF,df160,TBh,h1,h2,hmf]
    exact ysw_ct rfl (ysw_ret hw)
   ·have hy':(y==0)=false:=by simpa using hy
    simp only [bw,hy,if_false] at hw
    simp (maxSteps:=999999) only [go_sem,simprocAttr,↓qT,↓qF,df160,TBh,h1,h2,hmf,hy',hy]
    refine ysw_cf rfl (ysw_skip (ysw_seq (ysw_reg (Tab.ok_Γ _) 60 rfl ?_)))
    obtain ⟨⟨⟨c0,c1,c2,c3,c4,c5,c6,c7,c8,c9,c10⟩,p0,q0,r0⟩,hs⟩:∃ s,m'.gV y=s:=⟨_,rfl⟩
    simp (maxSteps:=999999) only [go_sem,simprocAttr,↓qT,↓qF,df160,TBh,h1,h2,hmf,fullG,fullM,hs,Slot.cl,Cap.cl,put,fillP,EVt]
    refine ysw_seq (ysw_seq (ysw_reg (Tab.ok_Γ _) 60 rfl ?_))
    by_cases hf:m'.fE y=0
    ·simp only [hf,if_true,hs,Slot.cl,Cap.cl] at hw
     simp (maxSteps:=999999) only [go_sem,simprocAttr,↓qT,↓qF,df160,TBh,hf]
     refine ysw_cf rfl (ysw_skip (ysw_seq (ysw_seq (ysw_yieldAt (Tab.ok_Γ _) 60 3 rfl rfl ?_))))
     simp (maxSteps:=999999) only [go_sem,simprocAttr,↓qT,↓qF,df160,TBh,h1,h2,hmf,sub,EVt,List.drop_succ_cons]
     refine ywp_y rfl rfl rfl rfl rfl (hw _ fun p' u' h' hk'=>?_)
     obtain ⟨rfl,hk'⟩:=hk'
     refine ywp_run (Tab.ok_Γ _) 60 rfl ?_
     cases p' with
     | some e =>
      simp (maxSteps:=999999) only [go_sem,simprocAttr,↓qT,↓qF,df160,TBh,Option.isNone_some]
      exact ysw_ct rfl (ysw_ret hk')
     | none =>
      simp (maxSteps:=999999) only [go_sem,simprocAttr,↓qT,↓qF,df160,TBh,Option.isNone_none]
      refine ysw_cf rfl (ysw_skip (ysw_reg (Tab.ok_Γ _) 60 rfl ?_))
      simp (maxSteps:=999999) only [go_sem,simprocAttr,↓qT,↓qF,df160,TBh,h1,h2,h3,sub,put,fillP]
      refine ysw_blk (ysw_reg (Tab.ok_Γ _) 60 rfl ?_)
      simp (maxSteps:=999999) only [go_sem,simprocAttr,↓qT,↓qF,df160,TBh,I2]
      exact IH (i+1,q0,m'.gX y) _ _ _ (by simp only; omega) ⟨rfl,by simp only; omega,by simp only; rw [show N-(i+1)=k by omega]; exact hk'⟩ (by simp only [bhH_len]) (Wk.keep 0 rfl rfl (by simp only [go_sem,simprocAttr,↓qT,↓qF,bhH_len]) (by simp only [go_sem,simprocAttr,↓qT,↓qF,yl_below]) (by simp))
    ·simp only [hf,if_false] at hw
     have hf':(m'.fE y==0)=false:=by simpa using hf
     simp (maxSteps:=999999) only [go_sem,simprocAttr,↓qT,↓qF,df160,TBh,hf,hf',bne]
     refine ysw_ct rfl (ysw_seq (ysw_yieldAt (Tab.ok_Γ _) 60 2 rfl rfl ?_))
     simp (maxSteps:=999999) only [go_sem,simprocAttr,↓qT,↓qF,df160,TBh,h1,h2,hmf,sub,put,fillP,EVt,List.drop_succ_cons]
     refine ywp_y rfl rfl rfl rfl rfl (hw _ fun p' u' h' hk'=>?_)
     refine ywp_run (Tab.ok_Γ _) 60 rfl ?_
     simp (maxSteps:=999999) only [go_sem,simprocAttr,↓qT,↓qF,df160,TBh]
     exact ysw_ret hk'
  ·have I:¬ (i:Int)<N:=by omega
   have e0:N-i=0:=by omega
   rw [e0] at hw
   clear IH
   simp (maxSteps:=999999) only [go_sem,simprocAttr,↓qT,↓qF,df160,TBh,I]
   refine ysw_seq (ysw_cf rfl (ysw_exit (by decide) ?_))
   simp only [ysx,if_true]
   refine ysw_seq (ysw_reg (Tab.ok_Γ _) 60 rfl ?_)
   by_cases hy:y=0
   ·rw [hy] at hw ⊢
    simp only [bw,if_true] at hw
    simp (maxSteps:=999999) only [go_sem,simprocAttr,↓qT,↓qF,df160,TBh,h1,h2,hmf,bne]
    refine ysw_cf rfl (ysw_skip ?_)
    simp only [ysw]
    exact hw
   ·have hy':(y==0)=false:=by simpa using hy
    simp only [bw,hy,if_false] at hw
    simp (maxSteps:=999999) only [go_sem,simprocAttr,↓qT,↓qF,df160,TBh,h1,h2,hmf,hy',hy,bne]
    refine ysw_ct rfl (ysw_yieldAt (Tab.ok_Γ _) 60 2 rfl rfl ?_)
    simp (maxSteps:=999999) only [go_sem,simprocAttr,↓qT,↓qF,df160,TBh,h1,h2,hmf,sub,put,fillP,EVt,List.drop_succ_cons]
    refine ywp_y rfl rfl rfl rfl rfl (hw _ fun p' u' h' hk'=>?_)
    refine ywp_run (Tab.ok_Γ _) 60 rfl ?_
    simp (maxSteps:=999999) only [go_sem,simprocAttr,↓qT,↓qF,df160,TBh]
    simp only [ysw]
    exact hk'
end Go.Proofs.YtcdfofeolgbnbaaGreat

/- Package cdt: Descendants. -/
namespace Go.Proofs.YtcdfofeolgbnbaaGreat
open Go.D
set_option linter.all false
set_option maxRecDepth 100000
set_option maxHeartbeats 8000000

def dsW (d:Int):Nat->Int->M->List Int->Option (List Int)×M
 | 0,x,m,l=>if x=0 then (some l,m) else (none,m)
 | k+1,x,m,l=>if x=0 then (some l,m) else if m.fE x=0 then
   (if (m.gV x).depth<=d then (some l,m.gX x) else dsW d k (m.gV x).next (m.gX x) (l++[x])) else (none,m.gX x)
def intsB (l:List Int):List S:=l.map fun x=>.i .i64 x
def dscR (st:M->List Blk):Option (List Int)×M->Res
 | (none,m)=>.ok (.tup [.s .ns, .s (.i .i64 110)]) [] (st m)
 | (some [],m)=>.ok (.tup [.s .ns, .s (.i .i64 0)]) [] (st m)
 | (some (x::l),m)=>.all (l.length+1) fun c=>.ok (.tup [.s (.sl (.g (st m).length) 0 (l.length+1) c), .s (.i .i64 0)]) [] (st m++[⟨.rw,intsB (x::l),c⟩])
def dscM (b:Nat) (m:M) (st:M->List Blk):List V->Res
 | [.s (.i .i64 x)]=>.br (decide (m.fE x=0)) (dscR st (dsW (m.gV x).depth (m.w.length/4) (m.gV x).next (m.gX x) [])) (.ok (.tup [.s .ns, .s (.i .i64 (m.fE x))]) [] (st (m.gX x)))
 | _=>.bad
noncomputable def dscG:=memF dscM

theorem fin_of {n0:Nat} {rs:List RV} {K:V->List Blk->Prop} {s:St} {l:List C} {v:V} {ls h:List Blk} (hr:rvals s rs=some l) (W:Wk n0 ⟨[result l],s.ls,s.h⟩ ⟨[v],ls,h⟩) (hl:leave v ls h K):fin n0 rs K .ret s:=by
 simp only [fin,hr]
 exact ⟨v,ls,h,W,hl⟩
def dLS (A B:S) (own:Slot) (l:List Int) (c:Nat):List Blk :=
 match l with
 | []=>[⟨.rw,[A],1⟩,⟨.rw,[B],1⟩,⟨.rw,own.cl,14⟩,⟨.rw,[.ns],1⟩]
 | x::l=>[⟨.rw,[A],1⟩,⟨.rw,[B],1⟩,⟨.rw,own.cl,14⟩,⟨.rw,[.sl (.l 4) 0 (l.length+1) c],1⟩,⟨.rw,intsB (x::l),c⟩]
def dT (a n:Nat):List V:=[.s (.p (.g a) 0), .s .u, .s .u, .s .u, .s (.p (.l 0) 0), .s (.p (.l 1) 0), .s (.p (.l 2) 0), .s .u, .s (.p (.l 3) 0), .s .u, .s .u, .s .u, .s .u, .s .u, .s .u, .s .u, .s .u, .s .u, .s .u, .s .u, .s .u, .s .u, .s .u,
 .s (.fn 160 [(.g n,0),(.g (n+1),0)]), .s .u, .s .u, .s .u, .s .u, .s .u, .s .u, .s .u, .s .u, .s .u, .s .u, .s .u, .s .u, .s .u, .s .u]
noncomputable def TDs:Tab:=addT 74 fullG (addT 99 behG (noT))
theorem TDs_snd:TDs.Snd Tryz.prog:=addT_snd ok74 full_snd (addT_snd ok99 beh_snd ((noT_snd _)))
def findRf:DC->Option (DC×DC)
 | .rf _ _ a b=>some (a,b)
 | .seq a b=>(findRf a).or (findRf b)
 | .cond _ a b=>(findRf a).or (findRf b)
 | .block _ c=>findRf c
 | .loop c=>findRf c
 | _=>none
theorem more_wk {Γ:FuncId->FSpec} {n0:Nat} {K:Ex->St->Prop} {d:DC} {fs:List Fr} {t t':List V} {ls ls' h h':List Blk} (hW:Wk n0 ⟨t,ls,h⟩ ⟨t',ls',h'⟩) (hh:holds Γ n0 K (.more (.c d::fs) t' ls' h')):holds Γ n0 K (.more (.c d::fs) t ls h):=by
 simp only [holds] at hh ⊢
 exact swp_weak hW hh
def rndE (K:Option Ex->U->List Blk->Prop) (ds:List Nat) (n0:Nat) (e:Ex) (s3:St):Prop:=∃ s4,Wk n0 s3 s4/\ob (allRw s4.ls=true) (K (stopOf e) (maskT ds s4.t,s4.ls) s4.h)
theorem rndE_mk {K:Option Ex->U->List Blk->Prop} {ds:List Nat} {n0:Nat} {e:Ex} {s3:St} (s4:St) (W:Wk n0 s3 s4) (h:allRw s4.ls=true) (k:K (stopOf e) (maskT ds s4.t,s4.ls) s4.h):rndE K ds n0 e s3:=⟨s4,W,h,k⟩
theorem rnd_rule2 {Γ:FuncId->FSpec} {G:Tab} (hG:G.ok Γ) (n j:Nat) {ps:List Nat} {asg body:DC} {args:List V} {u:U} {h:List Blk} {K:Option Ex->U->List Blk->Prop}
  (hh:holds Γ h.length (fun _ _=>False) (run G n [.c asg, .lp fun s=>swp Γ s.h.length (rndE K (ps++(asg.dsts++body.dsts)) s.h.length) [.c body, .lp (rndE K (ps++(asg.dsts++body.dsts)) s.h.length .nrm), .blk j, .lp (rndE K (ps++(asg.dsts++body.dsts)) s.h.length (.ext j))] s] (bindT u.1 ps args) u.2 h)):rndOf Γ ps asg body args u h K:=by
 have h1:=run_sound hG n _ _ _ _ hh
 simp only [swp] at h1
 obtain ⟨s1,W1,h1⟩:=h1
 unfold rndOf
 refine ⟨s1,W1,cast ?_ h1⟩
 congr 1
 funext e s
 cases e with
 | nrm =>
  simp only [swp]
  refine congrArg Exists (funext fun s'=>congrArg (And _) ?_)
  congr 1
  funext e s
  cases e with
  | nrm=>simp only [swp]; rfl
  | ret=>rfl
  | ext id =>
   simp only [swx,swp]
   split
   ·rename_i e; subst e; rfl
   ·rfl
 | ext id=>simp only [swx]
 | ret=>rfl
structure Ints (B:List S) (n:Nat):Prop where
 len:B.length=n
 kn:known B=true
 va:∀ a b,vals a b B=true
 nm:∀ k,B.all (fun s=>!s.names k)=true
 re:∀ ρ,B.map (S.ren ρ)=B
 be:∀ k,B.all (S.below k)=true
theorem intsB_is:∀ l:List Int,Ints (intsB l) l.length
 | []=>⟨rfl,rfl,fun _ _=>rfl,fun _=>rfl,fun _=>rfl,fun _=>rfl⟩
 | x::l=>by
  obtain ⟨h1,h2,h3,h4,h5,h6⟩:=intsB_is l
  refine ⟨?_, ?_,fun a b=>?_,fun k=>?_,fun ρ=>?_,fun k=>?_⟩
  ·simp [intsB]
  ·simp only [known,intsB,List.map_cons,List.all_cons,Bool.true_and] at h2 ⊢; exact h2
  ·simp only [vals,intsB,List.map_cons,List.all_cons,S.val,Bool.true_and] at h3 ⊢; exact h3 a b
  ·simp only [intsB,List.map_cons,List.all_cons,S.names,Bool.not_false,Bool.true_and] at h4 ⊢; exact h4 k
  ·simp only [intsB,List.map_cons,S.ren] at h5 ⊢; rw [h5 ρ]
  ·simp only [intsB,List.map_cons,List.all_cons,S.below,Bool.true_and] at h6 ⊢; exact h6 k
theorem intsB_kept (ks:List Nat):∀ l:List Int,(intsB l).all (S.kept ks)=true
 | []=>rfl
 | x::l=>by have:=intsB_kept ks l; simp only [intsB,List.map_cons,List.all_cons,S.kept,Bool.true_and] at this ⊢; exact this
theorem intsB_app (l:List Int) (x:Int):intsB l++[.i .i64 x]=intsB (l++[x]):=by simp [intsB]

section
variable {asg body:DC} {a n:Nat} {own s:Slot} {l:List Int} {c:Nat} {x:Int} {h:List Blk}
theorem dsc_r0 (hab:findRf df47.body=some (asg,body)):RM (rndOf TDs.Γ [24,25] asg body) [.s (.i .i64 0), .agg slotZ.cl] (dT a n,dLS .ns (.i .i64 0) own l c) h fun p u' h'=>p=some .ret/\u'=(dT a n,dLS .ns (.i .i64 110) own l c)/\h'=h:=by
 intro K' hK
 cases hab
 refine rnd_rule2 (Tab.ok_Γ _) 60 0 ?_
 obtain ⟨⟨c0,c1,c2,c3,c4,c5,c6,c7,c8,c9,c10⟩,p0,q0,r0⟩:=own
 cases l with
 | nil =>
  simp (maxSteps:=999999) only [go_sem,simprocAttr,↓qT,↓qF,TDs,dT,dLS,bindT,slotZ,capZ,Slot.cl,Cap.cl,put,fillP,sub,EVt]
  refine run_sound (Tab.ok_Γ _) 60 _ _ _ _ ?_
  simp (maxSteps:=999999) only [go_sem,simprocAttr,↓qT,↓qF,TDs,put,fillP,sub,EVt]
  exact rndE_mk ⟨dT a n,dLS .ns (.i .i64 110) ⟨⟨c0,c1,c2,c3,c4,c5,c6,c7,c8,c9,c10⟩,p0,q0,r0⟩ [] c,h⟩ (Wk.keep 4 rfl rfl (by simp only [go_sem,simprocAttr,↓qT,↓qF,dT]) (by rfl) (by rfl)) rfl (hK _ _ _ ⟨rfl,rfl,rfl⟩)
 | cons y l =>
  have hb:=(intsB_is (y::l)).be
  simp (maxSteps:=999999) only [go_sem,simprocAttr,↓qT,↓qF,TDs,dT,dLS,bindT,slotZ,capZ,Slot.cl,Cap.cl,put,fillP,sub,EVt]
  refine run_sound (Tab.ok_Γ _) 60 _ _ _ _ ?_
  simp (maxSteps:=999999) only [go_sem,simprocAttr,↓qT,↓qF,TDs,put,fillP,sub,EVt]
  exact ⟨⟨dT a n,dLS .ns (.i .i64 110) ⟨⟨c0,c1,c2,c3,c4,c5,c6,c7,c8,c9,c10⟩,p0,q0,r0⟩ (y::l) c,h⟩,Wk.keep 5 rfl rfl (by simp only [go_sem,simprocAttr,↓qT,↓qF,dT]) (by rfl) (by simp [dLS,Slot.cl,Cap.cl,S.below,R.below,hb]),rfl,hK _ _ _ ⟨rfl,rfl,rfl⟩⟩
theorem dsc_r1 (hab:findRf df47.body=some (asg,body)) (h0:x≠0) (hd:s.depth<=own.depth):RM (rndOf TDs.Γ [24,25] asg body) [.s (.i .i64 x), .agg s.cl] (dT a n,dLS .ns (.i .i64 0) own l c) h fun p u' h'=>p=some (.ext 0)/\u'=(dT a n,dLS .ns (.i .i64 0) own l c)/\h'=h:=by
 intro K' hK
 cases hab
 refine rnd_rule2 (Tab.ok_Γ _) 60 0 ?_
 obtain ⟨⟨c0,c1,c2,c3,c4,c5,c6,c7,c8,c9,c10⟩,p0,q0,r0⟩:=own
 obtain ⟨⟨d0,d1,d2,d3,d4,d5,d6,d7,d8,d9,d10⟩,p1,q1,r1⟩:=s
 have h0':(x==0)=false:=by simpa using h0
 simp only at hd
 cases l with
 | nil =>
  simp (maxSteps:=999999) only [go_sem,simprocAttr,↓qT,↓qF,TDs,dT,dLS,bindT,Slot.cl,Cap.cl,h0,h0',hd,put,fillP,sub,EVt]
  refine run_sound (Tab.ok_Γ _) 60 _ _ _ _ ?_
  simp (maxSteps:=999999) only [go_sem,simprocAttr,↓qT,↓qF,TDs,h0,h0',hd,put,fillP,sub,EVt]
  exact rndE_mk ⟨dT a n,dLS .ns (.i .i64 0) ⟨⟨c0,c1,c2,c3,c4,c5,c6,c7,c8,c9,c10⟩,p0,q0,r0⟩ [] c,h⟩ (Wk.keep 4 rfl rfl (by simp only [go_sem,simprocAttr,↓qT,↓qF,dT]) (by rfl) (by rfl)) rfl (hK _ _ _ ⟨rfl,rfl,rfl⟩)
 | cons y l =>
  have hb:=(intsB_is (y::l)).be
  simp (maxSteps:=999999) only [go_sem,simprocAttr,↓qT,↓qF,TDs,dT,dLS,bindT,Slot.cl,Cap.cl,h0,h0',hd,put,fillP,sub,EVt]
  refine run_sound (Tab.ok_Γ _) 60 _ _ _ _ ?_
  simp (maxSteps:=999999) only [go_sem,simprocAttr,↓qT,↓qF,TDs,h0,h0',hd,put,fillP,sub,EVt]
  exact ⟨⟨dT a n,dLS .ns (.i .i64 0) ⟨⟨c0,c1,c2,c3,c4,c5,c6,c7,c8,c9,c10⟩,p0,q0,r0⟩ (y::l) c,h⟩,Wk.keep 5 rfl rfl (by simp only [go_sem,simprocAttr,↓qT,↓qF,dT]) (by rfl) (by simp [dLS,Slot.cl,Cap.cl,S.below,R.below,hb]),rfl,hK _ _ _ ⟨rfl,rfl,rfl⟩⟩
theorem dsc_r2 (hab:findRf df47.body=some (asg,body)) (hc:clean h.length h=true) (h0:x≠0) (hd:¬ s.depth<=own.depth) (hl:l.length<=1000000000000) (han:a<h.length/\n<h.length/\n+1<h.length):RM (rndOf TDs.Γ [24,25] asg body) [.s (.i .i64 x), .agg s.cl] (dT a n,dLS .ns (.i .i64 0) own l c) h fun p u' h'=>p=none/\(∃ c',l.length+1<=c'/\u'=(dT a n,dLS .ns (.i .i64 0) own (l++[x]) c'))/\h'=h:=by
 intro K' hK
 cases hab
 refine rnd_rule2 (Tab.ok_Γ _) 60 0 ?_
 obtain ⟨⟨c0,c1',c2,c3,c4,c5,c6,c7,c8,c9,c10⟩,p0,q0,r0⟩:=own
 obtain ⟨⟨d0,d1,d2,d3,d4,d5,d6,d7,d8,d9,d10⟩,p1,q1,r1⟩:=s
 have h0':(x==0)=false:=by simpa using h0
 simp only at hd
 have hnq:h.length<=h.length:=Nat.le_refl _
 have hcq:=hc
 cases l with
 | nil =>
  simp (maxSteps:=999999) only [go_sem,simprocAttr,↓qT,↓qF,TDs,dT,dLS,bindT,Slot.cl,Cap.cl,h0,h0',hd,put,fillP,sub,EVt]
  refine run_sound (Tab.ok_Γ _) 60 _ _ _ _ ?_
  simp (maxSteps:=999999) only [go_sem,simprocAttr,↓qT,↓qF,TDs,h0,h0',hd,put,fillP,sub,EVt]
  intro c1 hle1
  have hw1:(1:Nat)<=1:=Nat.le_refl _
  refine rndE_mk ⟨dT a n,dLS .ns (.i .i64 0) ⟨⟨c0,c1',c2,c3,c4,c5,c6,c7,c8,c9,c10⟩,p0,q0,r0⟩ [x] c1,h⟩ ?_ rfl (hK _ _ _ ⟨rfl,⟨c1,by simpa using hle1,rfl⟩,rfl⟩)
  simp only [dT,dLS,intsB,List.map_cons,List.map_nil,List.length_nil,Nat.zero_add,Nat.mul_one,Slot.cl,Cap.cl]
  refine Wk.sel [0,1,2,3,6] (by decide) hnq ?_ ?_ ?_ ?_ hcq (clean_pick hcq _)
  ·simp (maxSteps:=999999) only [go_sem,simprocAttr,↓qT,↓qF,List.nil_append,Blk.ren,V.ren,C.ren,S_ren,wc_ren,R.pick_g,R.pick_0,R.pick_s,List.map_append,wc_cons,wc_snoc,wc_nil,Nat.mul_one,han]
  ·simp (maxSteps:=999999) only [go_sem,simprocAttr,↓qT,↓qF,List.nil_append,Blk.ren,V.ren,C.ren,S_ren,wc_ren,R.pick_g,R.pick_0,R.pick_s,Nat.mul_one,han]
  ·simp (maxSteps:=999999) only [go_sem,simprocAttr,↓qT,↓qF,List.nil_append,app_len,nlt0,nltn,Nat.reduceLT,Nat.le_add_right,Nat.mul_one,han]
  ·simp (maxSteps:=999999) only [go_sem,simprocAttr,↓qT,↓qF,List.nil_append,app_len,nlt0,nltn,Nat.reduceLT,Nat.le_add_right,vals_cons,vals_nil,wc_val,wc_vals,Nat.mul_one,han]
 | cons y l =>
  obtain ⟨B,hB⟩:∃ B,intsB (y::l)=B:=⟨_,rfl⟩
  obtain ⟨b1,b2,b3,b4,b5,b6⟩:=intsB_is (y::l)
  rw [hB] at b1 b2 b3 b4 b5 b6
  simp (maxSteps:=999999) only [go_sem,simprocAttr,↓qT,↓qF,TDs,dT,dLS,hB,bindT,Slot.cl,Cap.cl,h0,h0',hd,put,fillP,sub,EVt]
  refine run_sound (Tab.ok_Γ _) 60 _ _ _ _ ?_
  simp (maxSteps:=999999) only [go_sem,simprocAttr,↓qT,↓qF,TDs,h0,h0',hd,b1,b2,b3,b4,put,fillP,sub,EVt]
  refine ⟨by simp only [List.length_cons] at hl; omega,fun c1 hle1=>?_⟩
  refine rndE_mk ⟨dT a n,dLS .ns (.i .i64 0) ⟨⟨c0,c1',c2,c3,c4,c5,c6,c7,c8,c9,c10⟩,p0,q0,r0⟩ (y::l++[x]) c1,h⟩ ?_ rfl (hK _ _ _ ⟨rfl,⟨c1,by simp only [List.length_cons] at hle1 ⊢; omega,rfl⟩,rfl⟩)
  have hB2:intsB (y::(l++[x]))=B++[.i .i64 x]:=by rw [<-hB,intsB_app]; rfl
  have hl2:(l++[x]).length+1=l.length+1+1:=by simp
  simp only [dT,dLS,List.cons_append,hB2,hl2,Nat.mul_one,Slot.cl,Cap.cl]
  have hb3:∀ a b,B.all (S.val a b)=true:=fun u v=>by have:=b3 u v; simpa only [vals] using this
  refine Wk.sel [0,1,2,3,7] (by decide) hnq ?_ ?_ ?_ ?_ hcq (clean_pick hcq _)
  ·simp (maxSteps:=999999) only [go_sem,simprocAttr,↓qT,↓qF,List.nil_append,Blk.ren,V.ren,C.ren,S_ren,wc_ren,R.pick_g,R.pick_0,R.pick_s,List.map_append,wc_cons,wc_snoc,wc_nil,Nat.mul_one,han,hb3,b5,List.map_append,List.map_cons,List.map_nil,vals,List.all_append]
  ·simp (maxSteps:=999999) only [go_sem,simprocAttr,↓qT,↓qF,List.nil_append,Blk.ren,V.ren,C.ren,S_ren,wc_ren,R.pick_g,R.pick_0,R.pick_s,Nat.mul_one,han,hb3,b5,List.map_append,List.map_cons,List.map_nil,vals,List.all_append]
  ·simp (maxSteps:=999999) only [go_sem,simprocAttr,↓qT,↓qF,List.nil_append,app_len,nlt0,nltn,Nat.reduceLT,Nat.le_add_right,Nat.mul_one,han,hb3,b5,List.map_append,List.map_cons,List.map_nil,vals,List.all_append]
  ·simp (maxSteps:=999999) only [go_sem,simprocAttr,↓qT,↓qF,List.nil_append,app_len,nlt0,nltn,Nat.reduceLT,Nat.le_add_right,vals_cons,vals_nil,wc_val,wc_vals,Nat.mul_one,han,hb3,b5,List.map_append,List.map_cons,List.map_nil,vals,List.all_append]
end
end Go.Proofs.YtcdfofeolgbnbaaGreat

