/- Package cdt: behind: the slots from one on,by their links: what its rounds are. -/
import Derived.Test.YtcdfofeolgbnbaaGreatZ11
import Derived.Test.YtcdfofeolgbnbaaGreatZ22
import Derived.Test.YtcdfofeolgbnbaaGreatZ15
import Derived.Test.YtcdfofeolgbnbaaGreatZ20
/- Package objs: threads,the document's. -/
namespace Go.Proofs.YtcdfofeolgbnbaaGreat
open Go.D
set_option linter.all false
set_option maxRecDepth 100000
set_option maxHeartbeats 8000000

def M.wrs (m:M) (o:Nat) (ws:List Int):Nat->M
 | 0=>m
 | k+1=>((m.wrs o ws k).put (o+k) (nth 0 ws k)).tick 1
theorem M.wrs_len (m:M) (o:Nat) (ws:List Int):∀ k,(m.wrs o ws k).w.length=m.w.length
 | 0=>rfl
 | k+1=>by rw [M.wrs,M.tick_len,M.put_len,M.wrs_len m o ws k]
theorem M.wrs_has (m:M) (o:Nat) (ws:List Int) (k:Nat) (j n:Int):(m.wrs o ws k).has j n=m.has j n:=by simp only [M.has,M.wrs_len]
theorem M.wrs_at (m:M) (o:Nat) (ws:List Int) (hu:∀ v,v∈ws->u64 v) (j:Int):∀ k,k<=ws.length->o+k<=m.w.length->(m.wrs o ws k).at j=if o<=j.toNat/\j.toNat<o+k then nth 0 ws (j.toNat-o) else m.at j
 | 0,_,_=>by rw [if_neg (by omega)]; rfl
 | k+1,h,h2=>by
  have hx:u64 (nth 0 ws k):=by rw [nth_eq h]; exact hu _ (List.getElem_mem _)
  rw [M.wrs,M.at_tick,M.at_put,M.wrs_len,M.wrs_at m o ws hu j k (by omega) (by omega)]
  by_cases c:o+k=j.toNat
  ·rw [if_pos ⟨c,by omega⟩,if_pos (by omega),uw_of hx,<-c,Nat.add_sub_cancel_left]
  ·rw [if_neg (by omega)]
   by_cases c2:o<=j.toNat/\j.toNat<o+k
   ·rw [if_pos c2,if_pos (by omega)]
   ·rw [if_neg c2,if_neg (by omega)]
def M.thE (m:M) (x:Int) (t:Th):Int:=if otB m x 64 then (if t.B then 0 else 90) else 20
def M.thX (m:M) (x:Int) (t:Th):M:=if otB m x 64&&t.B then (m.wrs (x+16).toNat [t.h0,t.h1,t.bg,t.h3] 4).wrs (x+32).toNat t.rg 16 else m
def Th.up (t:Th):Prop:=sml t.st/\sml t.pr/\sml t.sl/\sml t.pv/\sml t.nx/\sml t.bl/\sml t.bg/\sml t.bo/\sml t.ha/\sml t.fk/\sml t.fa
def tsetM (b:Nat) (m:M) (st:M->List Blk):List V->Res
 | [.s (.i .i64 a),x]=>thF (fun t=>.ob (t.up/\∀ v,v∈t.rg->u64 v) (.ok (.s (.i .i64 (m.thE a t))) [] (st (m.thX a t)))) [x]
 | _=>.bad
noncomputable def tsetG:=memF tsetM
theorem put_all':∀ (v X P:List S),X.length=v.length->put (P++X) P.length v=P++v
 | [],X,P,h=>by
  have:X=[]:=List.length_eq_zero_iff.1 h
  subst this; rfl
 | x::v,[],P,h=>by cases h
 | x::v,y::X,P,h=>by
  have h2:=put_all' v X (P++[x]) (by simpa using h)
  simp only [List.append_assoc,List.cons_append,List.nil_append,List.length_append,List.length_cons,List.length_nil] at h2
  rw [put,<-h2]
  congr 1
  simp
theorem get14 {c0 c1 c2 c3 c4 c5 c6 c7 c8 c9 c10 c11 c12 c13:S} {X:List S} {i:Nat}:(c0::c1::c2::c3::c4::c5::c6::c7::c8::c9::c10::c11::c12::c13::X)[14+i]?=X[i]?:=by rw [Nat.add_comm]; rfl
noncomputable def To9:Tab:=addT 195 otG (addT 179 readG (addT 175 writeG (addT 196 thBG (addT 197 thHG (noT)))))
theorem To9_snd:To9.Snd Tryz.prog:=addT_snd ok195 rot_snd (addT_snd ok179 rread_snd (addT_snd ok175 rwrite_snd (addT_snd ok196 thB_snd (addT_snd ok197 thH_snd ((noT_snd _))))))
theorem rtset_snd':Snd Tryz.prog 182 (FSpec.of tsetG):=snd_run To9_snd mixed Tryz.func182 dc182 300 fun args h K hc hS=>by
 obtain ⟨a,b,m,rest,rfl,H,hS1⟩:=memF_spec hS
 clear hS
 have hS:=hS1
 clear hS1
 unfold tsetM at hS
 split at hS
 ·rename_i x y
  obtain ⟨t,e,hrl,⟨hup,hru⟩,hR⟩:=thF_spec hS
  clear hS
  simp only [List.cons.injEq,and_true] at e
  subst e
  simp only [spec_ok,M.thE,M.thX] at hR
  have n4:(0:Int)<64/\(64:Int)<=64:=by decide
  have k1:=wc_known t.rg
  have k2:(wc t.rg).all S.noL=true:=wc_all (fun _=>rfl) _
  have k3:(wc t.rg).length=16:=by rw [wc_len,hrl]
  simp only [Th.c]
  cases ht:otB m x 64 with
  | false =>
   simp only [ht,Bool.false_and,Bool.false_eq_true,if_false,setM_self H] at hR
   simp (maxSteps:=999999) only [go_sem,simprocAttr,↓qT,↓qF,df182,To9,otG,memF_eq H,otM,n4,setM_self H,ht,k1,k2]
   exact hR
  | true =>
   have hb:=otB_iff.1 ht
   have hl:=m.l
   cases hB:t.B with
   | false =>
    simp only [ht,hB,Bool.true_and,Bool.false_eq_true,if_true,if_false,setM_self H] at hR
    simp (maxSteps:=999999) only [go_sem,simprocAttr,↓qT,↓qF,df182,To9,otG,memF_eq H,otM,n4,setM_self H,ht,k1,k2,k3,thBG,thF,unwc_wc,hrl,th_eta,hB,wc_take hrl,sub,EVt]
    exact hR
   | true =>
    simp only [ht,hB,Bool.true_and,if_true] at hR
    obtain ⟨i,rfl⟩:∃ i:Nat,x=i:=⟨x.toNat,by omega⟩
    obtain ⟨o,ho⟩:∃ o,i+16=o:=⟨_,rfl⟩
    obtain ⟨o2,ho2⟩:∃ o,i+32=o:=⟨_,rfl⟩
    have e1:IntKind.i64.wrap ((i:Int)+16)=(o:Int):=by rw [wrap64 (by omega) (by omega)]; omega
    have e2:IntKind.i64.wrap ((i:Int)+32)=(o2:Int):=by rw [wrap64 (by omega) (by omega)]; omega
    rw [show ((i:Int)+16).toNat=o by omega,show ((i:Int)+32).toNat=o2 by omega] at hR
    obtain ⟨u0,u1,u2,u3⟩:=Th.h_u hB
    obtain ⟨ws,hws⟩:∃ ws,[t.h0,t.h1,t.bg,t.h3]=ws:=⟨_,rfl⟩
    have hwl:ws.length=4:=by rw [<-hws]; rfl
    have hwu:∀ v,v∈ws->u64 v:=by
     rw [<-hws]
     intro v hv
     simp only [List.mem_cons,List.not_mem_nil,or_false] at hv
     rcases hv with rfl|rfl|rfl|rfl<;>assumption
    have hwc:[S.i .u64 t.h0,S.i .u64 t.h1,S.i .u64 t.bg,S.i .u64 t.h3]=wc ws:=by rw [<-hws]; rfl
    rw [hws] at hR
    simp (maxSteps:=999999) only [go_sem,simprocAttr,↓qT,↓qF,df182,To9,otG,memF_eq H,otM,n4,setM_self H,ht,k1,k2,k3,thBG,thHG,thF,unwc_wc,hrl,th_eta,hB,wc_take hrl,put,fillP,sub,EVt]
    refine loop_rule (α:=Nat) [10,23,24,25,26,27,28,29,30,31,32,33,34,35] (fun q=>[(10, .s (.i .i64 q))]) (fun q=>[⟨.rw,t.c,30⟩,⟨.rw,wc ws,4⟩]) (fun q=>setM h a b (m.wrs o ws q)) (fun q=>q<=4) (fun q=>4-q) 0 (by omega) ?_ ?_
    ·rw [M.wrs,setM_self H,<-hwc]
     refine Wk.same rfl rfl ?_
     simp (maxSteps:=999999) only [go_sem,simprocAttr,↓qT,↓qF,Int.natCast_zero]
    ·rintro X q hq IH
     rcases Nat.lt_or_ge q 4 with h1|h1
     ·have d1:((q:Int)<4):=by omega
      have d3:(0:Int)<=q:=by omega
      have d4:IntKind.i64.wrap ((q:Int)+1)=((q+1:Nat):Int):=by rw [wrap64 (by omega) (by omega)]; omega
      have w1:IntKind.i64.wrap ((o:Int)+q)=((o+q:Nat):Int):=by rw [wrap64 (by omega) (by omega)]; omega
      have h0:m.has ((o+q:Nat):Int) 1=true:=M.has_of (by omega)
      have g:=wc_get (w:=ws) (i:=q) (by omega)
      have hu:u64 (nth 0 ws q):=by rw [nth_eq (by omega)]; exact hwu _ (List.getElem_mem _)
      refine run_sound (Tab.ok_Γ _) 100 _ _ _ _ ?_
      simp (maxSteps:=999999) only [go_sem,simprocAttr,↓qT,↓qF,To9,e1,d1,d3,d4,w1,writeG,memF_set H,writeM,M.wrs_has,h0,h1,g,hu,Int.toNat_natCast]
      exact IH (q+1) _ (by omega) (by omega) (Wk.same rfl rfl (by simp only [go_sem,simprocAttr,↓qT,↓qF]))
     ·have:q=4:=by omega
      subst this
      clear IH
      refine run_sound (Tab.ok_Γ _) 100 _ _ _ _ ?_
      simp (maxSteps:=999999) only [go_sem,simprocAttr,↓qT,↓qF,Int.lt_irrefl]
      refine loop_rule (α:=Nat) [11,36,37,38,39,40,41,42,43,44,45,46,47,48,49] (fun q=>[(11, .s (.i .i64 q))]) (fun q=>[⟨.rw,t.c,30⟩,⟨.rw,wc ws,4⟩]) (fun q=>setM h a b ((m.wrs o ws 4).wrs o2 t.rg q)) (fun q=>q<=16) (fun q=>16-q) 0 (by omega) ?_ ?_
      ·refine Wk.same rfl rfl ?_
       simp (maxSteps:=999999) only [go_sem,simprocAttr,↓qT,↓qF,Int.natCast_zero]
      ·rintro X q hq IH
       simp only [Th.c]
       rcases Nat.lt_or_ge q 16 with h1|h1
       ·have d1:((q:Int)<16):=by omega
        have d3:(0:Int)<=q:=by omega
        have d4:IntKind.i64.wrap ((q:Int)+1)=((q+1:Nat):Int):=by rw [wrap64 (by omega) (by omega)]; omega
        have w1:IntKind.i64.wrap ((o2:Int)+q)=((o2+q:Nat):Int):=by rw [wrap64 (by omega) (by omega)]; omega
        have h0:m.has ((o2+q:Nat):Int) 1=true:=M.has_of (by omega)
        have g:=wc_get (w:=t.rg) (i:=q) (by omega)
        have hu:u64 (nth 0 t.rg q):=by rw [nth_eq (by omega)]; exact hru _ (List.getElem_mem _)
        refine run_sound (Tab.ok_Γ _) 100 _ _ _ _ ?_
        simp (maxSteps:=999999) only [go_sem,simprocAttr,↓qT,↓qF,To9,e2,d1,d3,d4,w1,writeG,memF_set H,writeM,M.wrs_has,h0,h1,g,get14,hu,k3,Int.toNat_natCast]
        exact IH (q+1) _ (by omega) (by omega) (Wk.same rfl rfl (by simp only [go_sem,simprocAttr,↓qT,↓qF]))
       ·have:q=16:=by omega
        subst this
        clear IH
        refine run_sound (Tab.ok_Γ _) 100 _ _ _ _ ?_
        simp (maxSteps:=999999) only [go_sem,simprocAttr,↓qT,↓qF,Int.lt_irrefl]
        exact hR
 ·exact hS.elim

def st9M (b:Nat) (m:M) (st:M->List Blk):List V->Res
 | [.s (.i .i64 a),x]=>thF (fun t=>.ob (t.up/\∀ v,v∈t.rg->u64 v) (.ok (.tup []) [] (st (m.thX a t)))) [x]
 | _=>.bad
noncomputable def st9G:=memF st9M
noncomputable def TSt:Tab:=addT 182 tsetG (noT)
theorem TSt_snd:TSt.Snd Tryz.prog:=addT_snd ok182 rtset_snd' ((noT_snd _))
theorem st9_snd:Snd Tryz.prog 132 (FSpec.of st9G):=snd_run TSt_snd mixed Tryz.func132 dc132 200 fun args h K hc hS=>by
 obtain ⟨a,b,m,rest,rfl,H,hS1⟩:=memF_spec hS
 clear hS
 have hS:=hS1
 clear hS1
 unfold st9M at hS
 split at hS
 ·rename_i a' x
  obtain ⟨t,e,hl,hS2⟩:=thF_spec hS
  simp only [List.cons.injEq,and_true] at e
  subst e
  clear hS
  obtain ⟨hu,hS⟩:=hS2
  simp only [spec_ok] at hS
  have hcl:t.c.length=30:=by simp [Th.c,wc_len,hl]
  have hk:known t.c=true:=by simp only [Th.c,known_cons,known_nil,wc_known,Bool.and_true,S_known,V.known]
  have hnl:t.c.all S.noL=true:=by simp [Th.c,S.noL]; exact fun x hx=>by obtain ⟨y,_,rfl⟩:=List.mem_map.1 hx; rfl
  have hsub:sub t.c 0 30=t.c:=by rw [<-hcl]; simp [sub]
  have hF:∀ f:Th->Res,thF f [.agg t.c]=.ob (t.rg.length=16) (f t):=fun f=>by simp only [thF,Th.c,unwc_wc,th_eta]
  simp (maxSteps:=999999) only [go_sem,simprocAttr,↓qT,↓qF,df132,TSt,tsetG,memF_eq H,tsetM,hF,hl,hcl,hk,hnl,hsub,hu,put,fillP,EVt]
  exact ⟨hu.2,hS⟩
 ·exact hS.elim

def M.l9 (m:M) (i:Int) (c:Cap):M:=m.rlayX 0 (IntKind.i64.wrap (2048+IntKind.i64.wrap (4*i))) c
def lays9M (b:Nat) (m:M) (st:M->List Blk):List V->Res
 | [.s (.i .i64 i),x]=>capF (fun c=>.ok (.tup []) [] (st (m.l9 i c))) [x]
 | _=>.bad
noncomputable def lays9G:=memF lays9M
noncomputable def TLy:Tab:=addT 133 rlay9G (noT)
theorem TLy_snd:TLy.Snd Tryz.prog:=addT_snd ok133 rlay9_snd ((noT_snd _))
theorem lays9_snd:Snd Tryz.prog 135 (FSpec.of lays9G):=snd_run TLy_snd mixed Tryz.func135 dc135 200 fun args h K hc hS=>by
 obtain ⟨a,b,m,rest,rfl,H,hS1⟩:=memF_spec hS
 clear hS
 have hS:=hS1
 clear hS1
 unfold lays9M at hS
 split at hS
 ·rename_i i x
  obtain ⟨c,e,hS2⟩:=capF_spec hS
  simp only [List.cons.injEq,and_true] at e
  subst e
  clear hS
  simp only [spec_ok,M.l9] at hS2
  simp (maxSteps:=999999) only [go_sem,simprocAttr,↓qT,↓qF,df135,TLy,rlay9G,lay9M,memF_eq H,capF,cap_eta,Cap.cl,sub,put,fillP,EVt]
  exact hS2
 ·exact hS.elim
def bootG:List V->List Blk->Res
 | [.s (.i .i64 i)],h=>.ob (0<=i/\i<=7) (.ok (.s (.i .i64 (32+4*i))) [] h)
 | _,_=>.bad
theorem boot_snd:Snd Tryz.prog 134 (FSpec.of bootG):=snd_run (noT_snd _) mixed Tryz.func134 dc134 100 fun args h K hc hS=>by
 unfold bootG at hS
 split at hS
 ·rename_i i
  obtain ⟨⟨h1,h2⟩,hS⟩:=hS
  simp only [spec_ok] at hS
  have c1:¬ i<0:=by omega
  have c2:¬ 7<i:=by omega
  have w1:IntKind.i64.wrap (4*i)=4*i:=wrap64 (by omega) (by omega)
  have w2:IntKind.i64.wrap (32+4*i)=32+4*i:=wrap64 (by omega) (by omega)
  simp (maxSteps:=999999) only [go_sem,simprocAttr,↓qT,↓qF,df134,c1,c2,w1,w2]
  exact hS
 ·exact hS.elim

/-! ### the plan -/
def capO (ty obj:Int):Cap:=⟨ty,obj,0,0,0,0,0,0,0,0,0⟩
def capB (ty obj bits:Int):Cap:=⟨ty,obj,bits,0,0,0,0,0,0,0,0⟩
def capR (ty obj:Int):Cap:=⟨ty,obj,0,0,0,0,0,7,0,0,0⟩
def rootC:Cap:=⟨2,2048,8,0,0,24,0,0,0,0,0⟩
def thBs (i:Nat):Th:=⟨0,10+(i:Int).tdiv 2,5,false,0,0,0,0,false,false,0,0,0,0,[0,0,0,0,0,0,0,0,0,0,0,0,0,0,0,0]⟩
def bA:Nat->M
 | 0=>M.zero 13
 | i+1=>((bA i).thX (1024+64*i) (thBs i)).rlayX 0 (32+4*i) (capO 3 (1024+64*i))
def bB:Nat->M
 | 0=>(bA 4).rlayX 0 1024 rootC
 | i+1=>(bB i).rlayX 1024 (1024+64*((i+1:Nat):Int)) rootC
def bC:Nat->M
 | 0=>((bB 3).l9 1 (capB 2 3072 3)).l9 2 ⟨2,3104,2,0,1,1,0,0,0,0,0⟩
 | i+1=>(bC i).l9 (3+i) (capR 4 (3120+4*i))
def bD:Nat->M
 | 0=>bC 3
 | i+1=>((bD i).l9 (6+i) (capR 5 (3136+8*i))).l9 (8+i) (capR 8 (3152+16*i))
def bE:Nat->M
 | 0=>bD 2
 | i+1=>(bE i).l9 (10+i) (capO 6 (3184+8*i))
def baseM:M:=(((((bE 4).l9 14 (capO 7 3216)).l9 15 (capB 1 3584 9)).l9 16 (capB 1 4096 10)).l9 17 (capO 11 0)).l9 18 (capO 13 0)
def baseG:List V->List Blk->Res
 | [],h=>.ok (.s (.p (.g h.length) 0)) [] (memH h baseM)
 | _,_=>.bad
noncomputable def TBa:Tab:=addT 50 newM (addT 132 st9G (addT 134 bootG (addT 133 rlay9G (addT 135 lays9G (noT)))))
theorem TBa_snd:TBa.Snd Tryz.prog:=addT_snd ok50 rnew_snd (addT_snd ok132 st9_snd (addT_snd ok134 boot_snd (addT_snd ok133 rlay9_snd (addT_snd ok135 lays9_snd ((noT_snd _))))))
theorem thBs_ok {i:Nat} (h:i<4):(thBs i).up/\∀ v,v∈(thBs i).rg->u64 v:=by
 have e:i=0\/i=1\/i=2\/i=3:=by omega
 refine ⟨?_,fun v hv=>?_⟩
 ·rcases e with rfl|rfl|rfl|rfl<;>simp [Th.up,thBs,sml]
 ·have:v=0:=by simpa [thBs] using hv
  subst this; exact ⟨by omega,by omega⟩
theorem base_snd:Snd Tryz.prog 63 (FSpec.of baseG):=snd_run TBa_snd mixed Tryz.func63 dc63 300 fun args h K hc hS=>by
 unfold baseG at hS
 split at hS
 ·simp only [spec_ok] at hS
  have hd:decide ((11:Int)<=13)&&decide ((13:Int)<=16)=true:=by decide
  have ht:Int.toNat 13=13:=rfl
  simp (maxSteps:=999999) only [go_sem,simprocAttr,↓qT,↓qF,df63,TBa,newM,ht]
  refine loop_rule (α:=Nat) [3,4,14,15,16,17,18,19,20,21,22,23,24,25,26,27,28,29,30,31,32,33] (fun i=>[(3, .s (.i .i64 (i:Int)))]) (fun _=>[]) (fun i=>memH h (bA i)) (fun i=>i<=4) (fun i=>4-i) 0 (Nat.zero_le _) (Wk.same rfl rfl ?_) ?_
  ·simp (maxSteps:=999999) only [go_sem,simprocAttr,↓qT,↓qF,Int.natCast_zero]
  ·rintro X i hi IH
   rcases Nat.lt_or_ge i 4 with hlt|hge
   ·have c0:(i:Int)<4:=by omega
    have w1:IntKind.i64.wrap (64*(i:Int))=64*i:=wrap64 (by omega) (by omega)
    have w2:IntKind.i64.wrap (1024+64*(i:Int))=1024+64*i:=wrap64 (by omega) (by omega)
    have w3:IntKind.i64.wrap ((i:Int).tdiv 2)=(i:Int).tdiv 2:=by rw [Int.tdiv_eq_ediv_of_nonneg (by omega)]; exact wrap64 (by omega) (by omega)
    have w4:IntKind.i64.wrap (10+(i:Int).tdiv 2)=10+(i:Int).tdiv 2:=by rw [Int.tdiv_eq_ediv_of_nonneg (by omega)]; exact wrap64 (by omega) (by omega)
    have w5:IntKind.i64.wrap ((i:Int)+1)=((i+1:Nat):Int):=by rw [wrap64]<;>omega
    have b0:0<=(i:Int):=by omega
    have b7:(i:Int)<=7:=by omega
    refine run_sound (Tab.ok_Γ _) 200 _ _ _ _ ?_
    simp (maxSteps:=999999) only [go_sem,simprocAttr,↓qT,↓qF,TBa,st9G,memF_new,st9M,thF,unwc_cons,unwc_nil,bootG,rlay9G,lay9M,capF,c0,w1,w2,w3,w4,w5,b0,b7,put,fillP,sub,EVt]
    refine ⟨thBs_ok hlt, ?_⟩
    exact IH (i+1) _ (by omega) (by omega) (Wk.same rfl rfl (by simp only [go_sem,simprocAttr,↓qT,↓qF]))
   ·have:i=4:=by omega
    subst this
    have c0:¬ (((4:Nat):Int)<4):=by omega
    clear IH
    refine run_sound (Tab.ok_Γ _) 200 _ _ _ _ ?_
    simp (maxSteps:=999999) only [go_sem,simprocAttr,↓qT,↓qF,TBa,rlay9G,memF_new,lay9M,capF,c0,put,fillP,sub,EVt]
    refine loop_rule (α:=Nat) [6,38,39,40,41,42,43,44,45,46,47] (fun i=>[(6, .s (.i .i64 ((i+1:Nat):Int)))]) (fun _=>[⟨.rw,rootC.cl,11⟩]) (fun i=>memH h (bB i)) (fun i=>i<=3) (fun i=>3-i) 0 (Nat.zero_le _) (Wk.same rfl rfl ?_) ?_
    ·simp (maxSteps:=999999) only [go_sem,simprocAttr,↓qT,↓qF,Int.natCast_zero,rootC,Cap.cl,Nat.zero_add,Int.natCast_one]
    ·rintro X1 i1 hi1 IH1
     rcases Nat.lt_or_ge i1 3 with hlt1|hge1
     ·have c1:((i1+1:Nat):Int)<4:=by omega
      have v10:IntKind.i64.wrap (64*((i1+1:Nat):Int))=64*((i1+1:Nat):Int):=by rw [wrap64]<;>omega
      have v11:IntKind.i64.wrap (1024+64*((i1+1:Nat):Int))=1024+64*((i1+1:Nat):Int):=by rw [wrap64]<;>omega
      have u1:IntKind.i64.wrap (((i1+1:Nat):Int)+1)=((i1+1+1:Nat):Int):=by rw [wrap64]<;>omega
      refine run_sound (Tab.ok_Γ _) 200 _ _ _ _ ?_
      simp (maxSteps:=999999) only [go_sem,simprocAttr,↓qT,↓qF,TBa,memF_new,rlay9G,lay9M,lays9G,lays9M,capF,cap_eta,rootC,Cap.cl,c1,v10,v11,u1,put,fillP,sub,EVt]
      exact IH1 (i1+1) _ (by omega) (by omega) (Wk.same rfl rfl (by simp only [go_sem,simprocAttr,↓qT,↓qF,rootC,Cap.cl]))
     ·have e1:i1=3:=by omega
      subst e1
      have c1:¬ (((3+1:Nat):Int)<4):=by omega
      clear IH1
      refine run_sound (Tab.ok_Γ _) 200 _ _ _ _ ?_
      simp (maxSteps:=999999) only [go_sem,simprocAttr,↓qT,↓qF,TBa,memF_new,rlay9G,lay9M,lays9G,lays9M,capF,rootC,Cap.cl,c1,put,fillP,sub,EVt]
      refine loop_rule (α:=Nat) [7,54,55,56,57,58,59,60,61,62,63,64,65] (fun i=>[(7, .s (.i .i64 (i:Int)))]) (fun _=>[⟨.rw,rootC.cl,11⟩]) (fun i=>memH h (bC i)) (fun i=>i<=3) (fun i=>3-i) 0 (Nat.zero_le _) (Wk.same rfl rfl ?_) ?_
      ·simp (maxSteps:=999999) only [go_sem,simprocAttr,↓qT,↓qF,Int.natCast_zero,rootC,Cap.cl,Nat.zero_add]
      ·rintro X2 i2 hi2 IH2
       rcases Nat.lt_or_ge i2 3 with hlt2|hge2
       ·have c2:(i2:Int)<3:=by omega
        have v20:IntKind.i64.wrap (3+(i2:Int))=3+(i2:Int):=by rw [wrap64]<;>omega
        have v21:IntKind.i64.wrap (4*(i2:Int))=4*(i2:Int):=by rw [wrap64]<;>omega
        have v22:IntKind.i64.wrap (3120+4*(i2:Int))=3120+4*(i2:Int):=by rw [wrap64]<;>omega
        have u2:IntKind.i64.wrap ((i2:Int)+1)=((i2+1:Nat):Int):=by rw [wrap64]<;>omega
        refine run_sound (Tab.ok_Γ _) 200 _ _ _ _ ?_
        simp (maxSteps:=999999) only [go_sem,simprocAttr,↓qT,↓qF,TBa,memF_new,rlay9G,lay9M,lays9G,lays9M,capF,cap_eta,rootC,Cap.cl,c2,v20,v21,v22,u2,put,fillP,sub,EVt]
        exact IH2 (i2+1) _ (by omega) (by omega) (Wk.same rfl rfl (by simp only [go_sem,simprocAttr,↓qT,↓qF,rootC,Cap.cl]))
       ·have e2:i2=3:=by omega
        subst e2
        have c2:¬ (((3:Nat):Int)<3):=by omega
        clear IH2
        refine run_sound (Tab.ok_Γ _) 200 _ _ _ _ ?_
        simp (maxSteps:=999999) only [go_sem,simprocAttr,↓qT,↓qF,TBa,memF_new,rlay9G,lay9M,lays9G,lays9M,capF,rootC,Cap.cl,c2,put,fillP,sub,EVt]
        refine loop_rule (α:=Nat) [8,66,67,68,69,70,71,72,73,74,75,76,77,78,79,80,81,82,83,84,85] (fun i=>[(8, .s (.i .i64 (i:Int)))]) (fun _=>[⟨.rw,rootC.cl,11⟩]) (fun i=>memH h (bD i)) (fun i=>i<=2) (fun i=>2-i) 0 (Nat.zero_le _) (Wk.same rfl rfl ?_) ?_
        ·simp (maxSteps:=999999) only [go_sem,simprocAttr,↓qT,↓qF,Int.natCast_zero,rootC,Cap.cl,Nat.zero_add]
        ·rintro X3 i3 hi3 IH3
         rcases Nat.lt_or_ge i3 2 with hlt3|hge3
         ·have c3:(i3:Int)<2:=by omega
          have v30:IntKind.i64.wrap (6+(i3:Int))=6+(i3:Int):=by rw [wrap64]<;>omega
          have v31:IntKind.i64.wrap (8*(i3:Int))=8*(i3:Int):=by rw [wrap64]<;>omega
          have v32:IntKind.i64.wrap (3136+8*(i3:Int))=3136+8*(i3:Int):=by rw [wrap64]<;>omega
          have v33:IntKind.i64.wrap (8+(i3:Int))=8+(i3:Int):=by rw [wrap64]<;>omega
          have v34:IntKind.i64.wrap (16*(i3:Int))=16*(i3:Int):=by rw [wrap64]<;>omega
          have v35:IntKind.i64.wrap (3152+16*(i3:Int))=3152+16*(i3:Int):=by rw [wrap64]<;>omega
          have u3:IntKind.i64.wrap ((i3:Int)+1)=((i3+1:Nat):Int):=by rw [wrap64]<;>omega
          refine run_sound (Tab.ok_Γ _) 200 _ _ _ _ ?_
          simp (maxSteps:=999999) only [go_sem,simprocAttr,↓qT,↓qF,TBa,memF_new,rlay9G,lay9M,lays9G,lays9M,capF,cap_eta,rootC,Cap.cl,c3,v30,v31,v32,v33,v34,v35,u3,put,fillP,sub,EVt]
          exact IH3 (i3+1) _ (by omega) (by omega) (Wk.same rfl rfl (by simp only [go_sem,simprocAttr,↓qT,↓qF,rootC,Cap.cl]))
         ·have e3:i3=2:=by omega
          subst e3
          have c3:¬ (((2:Nat):Int)<2):=by omega
          clear IH3
          refine run_sound (Tab.ok_Γ _) 200 _ _ _ _ ?_
          simp (maxSteps:=999999) only [go_sem,simprocAttr,↓qT,↓qF,TBa,memF_new,rlay9G,lay9M,lays9G,lays9M,capF,rootC,Cap.cl,c3,put,fillP,sub,EVt]
          refine loop_rule (α:=Nat) [9,86,87,88,89,90,91,92,93,94,95,96,97] (fun i=>[(9, .s (.i .i64 (i:Int)))]) (fun _=>[⟨.rw,rootC.cl,11⟩]) (fun i=>memH h (bE i)) (fun i=>i<=4) (fun i=>4-i) 0 (Nat.zero_le _) (Wk.same rfl rfl ?_) ?_
          ·simp (maxSteps:=999999) only [go_sem,simprocAttr,↓qT,↓qF,Int.natCast_zero,rootC,Cap.cl,Nat.zero_add]
          ·rintro X4 i4 hi4 IH4
           rcases Nat.lt_or_ge i4 4 with hlt4|hge4
           ·have c4:(i4:Int)<4:=by omega
            have v40:IntKind.i64.wrap (10+(i4:Int))=10+(i4:Int):=by rw [wrap64]<;>omega
            have v41:IntKind.i64.wrap (8*(i4:Int))=8*(i4:Int):=by rw [wrap64]<;>omega
            have v42:IntKind.i64.wrap (3184+8*(i4:Int))=3184+8*(i4:Int):=by rw [wrap64]<;>omega
            have u4:IntKind.i64.wrap ((i4:Int)+1)=((i4+1:Nat):Int):=by rw [wrap64]<;>omega
            refine run_sound (Tab.ok_Γ _) 200 _ _ _ _ ?_
            simp (maxSteps:=999999) only [go_sem,simprocAttr,↓qT,↓qF,TBa,memF_new,rlay9G,lay9M,lays9G,lays9M,capF,cap_eta,rootC,Cap.cl,c4,v40,v41,v42,u4,put,fillP,sub,EVt]
            exact IH4 (i4+1) _ (by omega) (by omega) (Wk.same rfl rfl (by simp only [go_sem,simprocAttr,↓qT,↓qF,rootC,Cap.cl]))
           ·have e4:i4=4:=by omega
            subst e4
            have c4:¬ (((4:Nat):Int)<4):=by omega
            clear IH4
            refine run_sound (Tab.ok_Γ _) 200 _ _ _ _ ?_
            simp (maxSteps:=999999) only [go_sem,simprocAttr,↓qT,↓qF,TBa,memF_new,rlay9G,lay9M,lays9G,lays9M,capF,rootC,Cap.cl,c4,put,fillP,sub,EVt]
            exact hS
 ·exact hS.elim

theorem wrs_out (m:M) (o:Nat) (ws:List Int) (j:Nat):∀ k,(j<o\/o+k<=j)->(m.wrs o ws k).at j=m.at j
 | 0,_=>rfl
 | k+1,h=>by
  rw [M.wrs,M.at_tick,M.at_put,if_neg (by omega),wrs_out m o ws j k (by omega)]
def capT:List (Int×Cap×Int)->Int->Cap×Int
 | [],_=>(capZ,0)
 | (a,c,d)::T,x=>if x=a then (c,d) else capT T x
end Go.Proofs.YtcdfofeolgbnbaaGreat

/- Package cdt: behind: the slots from one on,by their links: what its rounds are. -/
namespace Go.Proofs.YtcdfofeolgbnbaaGreat
open Go.D
set_option linter.all false
set_option maxRecDepth 100000
set_option maxHeartbeats 4000000

theorem ysw_ct {Γ:FuncId->FSpec} {l np:Nat} {R:Rnd} {K:Ex->St->U->Option Ex->Prop} {fs:List YF} {s:St} {u:U} {p:Option Ex} {a b:DC} {x:Opd} (hx:ev s.t x=.s (.b true)) (h:ysw Γ l np R K (.c a::fs) s u p):ysw Γ l np R K (.c (.cond x a b)::fs) s u p:=ysw_cond hx h
theorem ysw_cf {Γ:FuncId->FSpec} {l np:Nat} {R:Rnd} {K:Ex->St->U->Option Ex->Prop} {fs:List YF} {s:St} {u:U} {p:Option Ex} {a b:DC} {x:Opd} (hx:ev s.t x=.s (.b false)) (h:ysw Γ l np R K (.c b::fs) s u p):ysw Γ l np R K (.c (.cond x a b)::fs) s u p:=ysw_cond hx h

theorem yl_below (n l:Nat):S.below n (.yl l)=true:=(rfl)
def bhH (h:List Blk) (a b:Nat) (m:M) (x:Int):List Blk:=setM h a b m++[⟨.rw,[.p (.g a) 0],1⟩,⟨.rw,[.i .i64 x],1⟩]
section
variable {h:List Blk} {a b:Nat} {m0:M}
theorem bhH_len (m:M) (x:Int):(bhH h a b m x).length=h.length+2:=by simp [bhH,setM_len]
theorem bhH_1 (m:M) (x:Int):(bhH h a b m x)[h.length]?=some ⟨.rw,[.p (.g a) 0],1⟩:=by
 unfold bhH; rw [List.getElem?_append_right (by rw [setM_len]; omega),setM_len,Nat.sub_self]; rfl
theorem bhH_2 (m:M) (x:Int):(bhH h a b m x)[h.length+1]?=some ⟨.rw,[.i .i64 x],1⟩:=by
 unfold bhH; rw [List.getElem?_append_right (by rw [setM_len]; omega),setM_len,Nat.add_sub_cancel_left]; rfl
theorem bhH_set (m:M) (x y:Int):(bhH h a b m x).set (h.length+1) ⟨.rw,[.i .i64 y],1⟩=bhH h a b m y:=by
 unfold bhH; rw [List.set_append_right _ _ (by rw [setM_len]; omega),setM_len,Nat.add_sub_cancel_left]; rfl
theorem memF_bh {f:Nat->M->(M->List Blk)->List V->Res} {m:M} {x:Int} {rest:List V} (H:IsMem h a b m0):memF f (.s (.p (.g a) 0)::rest) (bhH h a b m x)=f b m (fun m=>bhH h a b m x) rest:=memF_app H
theorem bh_lt (H:IsMem h a b m0):a<h.length+2:=by have:=H.lta; omega
end

def behG:List V->List Blk->Res
 | [.s (.p (.g a) 0), .s (.i .i64 x)],h=>.ok (.s (.fn 160 [(.g h.length,0),(.g (h.length+1),0)])) [] (h++[⟨.rw,[.p (.g a) 0],1⟩,⟨.rw,[.i .i64 x],1⟩])
 | _,_=>.bad
theorem beh_snd:Snd Tryz.prog 99 (FSpec.of behG):=snd_run (noT_snd _) mixed Tryz.func99 dc99 100 fun args h K hc hS=>by
 unfold behG at hS
 split at hS
 ·rename_i a x
  simp only [spec_ok] at hS
  simp (maxSteps:=999999) only [go_sem,simprocAttr,↓qT,↓qF,df99]
  refine ⟨[0,1],by simp,rfl, ?_⟩
  simp only [getAll,List.getElem?_cons_zero,List.getElem?_cons_succ]
  refine ⟨?_, ?_⟩
  ·simp [S.kept,R.kept]
  ·refine cast ?_ hS
   simp [Blk.ren,S.ren,R.prom,V.ren,List.idxOf,List.findIdx,List.findIdx.go]
 ·exact hS.elim

def RM (R:Rnd) (args:List V) (u:U) (h:List Blk) (K:Option Ex->U->List Blk->Prop):Prop:=∀ K':Option Ex->U->List Blk->Prop,(∀ p u' h',K p u' h'->K' p u' h')->R args u h K'
def bw (g:M->Int->List Blk) (R:Rnd) (K:Option Ex->U->List Blk->Prop):Nat->Int->M->U->Prop
 | 0,x,m,u=>if x=0 then K none u (g m x) else RM R [.s (.i .i64 0), .agg slotZ.cl] u (g m x) K
 | k+1,x,m,u=>if x=0 then K none u (g m x) else if m.fE x=0 then
   RM R [.s (.i .i64 x), .agg (m.gV x).cl] u (g (m.gX x) x) fun p u' h'=>h'=g (m.gX x) x/\match p with
    | none=>bw g R K k (m.gV x).next (m.gX x) u'
    | some e=>K (some e) u' h'
  else RM R [.s (.i .i64 0), .agg slotZ.cl] u (g (m.gX x) x) K
noncomputable def TBh:Tab:=addT 150 wordsG (addT 74 fullG (noT))
theorem TBh_snd:TBh.Snd Tryz.prog:=addT_snd ok150 mwords_snd (addT_snd ok74 full_snd ((noT_snd _)))
theorem behind1_is {h:List Blk} {a b:Nat} {m0 m:M} {x:Int} {u:U} {R:Rnd} {K:Option Ex->U->List Blk->Prop} (H:IsMem h a b m0) (hw:bw (bhH h a b) R K (m.w.length/4) x m u) :
  isem 160 [.s (.p (.g h.length) 0), .s (.p (.g (h.length+1)) 0)] 2 u (bhH h a b m x) R K:=by
 refine isem_of mixed (Tab.snd_Γ TBh_snd) ok160 Tryz.func160 dc160 rfl rfl rfl fun l=>?_
 have h1:=bhH_1 (h:=h) (a:=a) (b:=b)
 have h2:=bhH_2 (h:=h) (a:=a) (b:=b)
 have h3:=bhH_set (h:=h) (a:=a) (b:=b)
 have hmf:=fun f m x rest=>memF_bh (f:=f) (m:=m) (x:=x) (rest:=rest) H
 have hq:IntKind.i64.wrap ((m.w.length:Int).tdiv 4)=((m.w.length/4:Nat):Int):=by
  have:=m.l
  rw [Int.tdiv_eq_ediv_of_nonneg (by omega),wrap64]<;>omega
 obtain ⟨N,hN⟩:∃ N,m.w.length/4=N:=⟨_,rfl⟩
 rw [hN] at hw hq
 have hNl:N<=2199023255552:=by have:=m.l; omega
 refine ysw_seq (ysw_seq (ysw_reg (Tab.ok_Γ _) 60 rfl ?_))
 simp (maxSteps:=999999) only [go_sem,simprocAttr,↓qT,↓qF,df160,TBh,h1,h2,hmf,wordsG,wordsM,hq]
 refine ysw_block (by decide) ?_
 refine ysw_loop (α:=Nat×Int×M) [4,5,9,10,11,12,13,14,15,16,17,18,19,20,21,22,23,24,25,26,27,28,29,30,31] (fun y=>[(9, .s (.i .i64 (y.1:Int)))]) (fun _=>[]) (fun y=>bhH h a b y.2.2 y.2.1) (fun y u p=>p=none/\y.1<=N/\bw (bhH h a b) R K (N-y.1) y.2.1 y.2.2 u) (fun y=>N-y.1) (0,x,m) ⟨rfl,Nat.zero_le _,hw⟩ rfl ?_ ?_
 ·refine Wk.same rfl rfl ?_
  simp (maxSteps:=999999) only [go_sem,simprocAttr,↓qT,↓qF,Int.natCast_zero]
 ·rintro X ⟨i,y,m'⟩ u p ⟨rfl,hi,hw⟩ IH
  simp only at hi hw ⊢
  clear hq hN
  refine ysw_seq (ysw_reg (Tab.ok_Γ _) 60 rfl ?_)
  rcases Nat.lt_or_ge i N with hlt|hge
  ·have I:(i:Int)<N:=by omega
   have I2:IntKind.i64.wrap ((i:Int)+1)=((i+1:Nat):Int):=by rw [wrap64]<;>omega
   obtain ⟨k,hk⟩:∃ k,N-i=k+1:=⟨N-i-1,by omega⟩
   rw [hk] at hw
   simp (maxSteps:=999999) only [go_sem,simprocAttr,↓qT,↓qF,df160,TBh,I]
   refine ysw_seq (ysw_ct rfl (ysw_skip (ysw_seq (ysw_block (by decide) (ysw_seq (ysw_seq (ysw_reg (Tab.ok_Γ _) 60 rfl ?_)))))))
   by_cases hy:y=0
   ·rw [hy] at hw ⊢
    simp only [bw,if_true] at hw
    simp (maxSteps:=999999) only [go_sem,simprocAttr,↓qT,↓qF,df160,TBh,h1,h2,hmf]
    exact ysw_ct rfl (ysw_ret hw)
   ·have hy':(y==0)=false:=by simpa using hy
    simp only [bw,hy,if_false] at hw
    simp (maxSteps:=999999) only [go_sem,simprocAttr,↓qT,↓qF,df160,TBh,h1,h2,hmf,hy',hy]
    refine ysw_cf rfl (ysw_skip (ysw_seq (ysw_reg (Tab.ok_Γ _) 60 rfl ?_)))
    obtain ⟨⟨⟨c0,c1,c2,c3,c4,c5,c6,c7,c8,c9,c10⟩,p0,q0,r0⟩,hs⟩:∃ s,m'.gV y=s:=⟨_,rfl⟩
    simp (maxSteps:=999999) only [go_sem,simprocAttr,↓qT,↓qF,df160,TBh,h1,h2,hmf,fullG,fullM,hs,Slot.cl,Cap.cl,put,fillP,EVt]
    refine ysw_seq (ysw_seq (ysw_reg (Tab.ok_Γ _) 60 rfl ?_))
    by_cases hf:m'.fE y=0
    ·simp only [hf,if_true,hs,Slot.cl,Cap.cl] at hw
     simp (maxSteps:=999999) only [go_sem,simprocAttr,↓qT,↓qF,df160,TBh,hf]
     refine ysw_cf rfl (ysw_skip (ysw_seq (ysw_seq (ysw_yieldAt (Tab.ok_Γ _) 60 3 rfl rfl ?_))))
     simp (maxSteps:=999999) only [go_sem,simprocAttr,↓qT,↓qF,df160,TBh,h1,h2,hmf,sub,EVt,List.drop_succ_cons]
     refine ywp_y rfl rfl rfl rfl rfl (hw _ fun p' u' h' hk'=>?_)
     obtain ⟨rfl,hk'⟩:=hk'
     refine ywp_run (Tab.ok_Γ _) 60 rfl ?_
     cases p' with
     | some e =>
      simp (maxSteps:=999999) only [go_sem,simprocAttr,↓qT,↓qF,df160,TBh,Option.isNone_some]
      exact ysw_ct rfl (ysw_ret hk')
     | none =>
      simp (maxSteps:=999999) only [go_sem,simprocAttr,↓qT,↓qF,df160,TBh,Option.isNone_none]
      refine ysw_cf rfl (ysw_skip (ysw_reg (Tab.ok_Γ _) 60 rfl ?_))
      simp (maxSteps:=999999) only [go_sem,simprocAttr,↓qT,↓qF,df160,TBh,h1,h2,h3,sub,put,fillP]
      refine ysw_blk (ysw_reg (Tab.ok_Γ _) 60 rfl ?_)
      simp (maxSteps:=999999) only [go_sem,simprocAttr,↓qT,↓qF,df160,TBh,I2]
      exact IH (i+1,q0,m'.gX y) _ _ _ (by simp only; omega) ⟨rfl,by simp only; omega,by simp only; rw [show N-(i+1)=k by omega]; exact hk'⟩ (by simp only [bhH_len]) (Wk.keep 0 rfl rfl (by simp only [go_sem,simprocAttr,↓qT,↓qF,bhH_len]) (by simp only [go_sem,simprocAttr,↓qT,↓qF,yl_below]) (by simp))
    ·simp only [hf,if_false] at hw
     have hf':(m'.fE y==0)=false:=by simpa using hf
     simp (maxSteps:=999999) only [go_sem,simprocAttr,↓qT,↓qF,df160,TBh,hf,hf',bne]
     refine ysw_ct rfl (ysw_seq (ysw_yieldAt (Tab.ok_Γ _) 60 2 rfl rfl ?_))
     simp (maxSteps:=999999) only [go_sem,simprocAttr,↓qT,↓qF,df160,TBh,h1,h2,hmf,sub,put,fillP,EVt,List.drop_succ_cons]
     refine ywp_y rfl rfl rfl rfl rfl (hw _ fun p' u' h' hk'=>?_)
     refine ywp_run (Tab.ok_Γ _) 60 rfl ?_
     simp (maxSteps:=999999) only [go_sem,simprocAttr,↓qT,↓qF,df160,TBh]
     exact ysw_ret hk'
  ·have I:¬ (i:Int)<N:=by omega
   have e0:N-i=0:=by omega
   rw [e0] at hw
   clear IH
   simp (maxSteps:=999999) only [go_sem,simprocAttr,↓qT,↓qF,df160,TBh,I]
   refine ysw_seq (ysw_cf rfl (ysw_exit (by decide) ?_))
   simp only [ysx,if_true]
   refine ysw_seq (ysw_reg (Tab.ok_Γ _) 60 rfl ?_)
   by_cases hy:y=0
   ·rw [hy] at hw ⊢
    simp only [bw,if_true] at hw
    simp (maxSteps:=999999) only [go_sem,simprocAttr,↓qT,↓qF,df160,TBh,h1,h2,hmf,bne]
    refine ysw_cf rfl (ysw_skip ?_)
    simp only [ysw]
    exact hw
   ·have hy':(y==0)=false:=by simpa using hy
    simp only [bw,hy,if_false] at hw
    simp (maxSteps:=999999) only [go_sem,simprocAttr,↓qT,↓qF,df160,TBh,h1,h2,hmf,hy',hy,bne]
    refine ysw_ct rfl (ysw_yieldAt (Tab.ok_Γ _) 60 2 rfl rfl ?_)
    simp (maxSteps:=999999) only [go_sem,simprocAttr,↓qT,↓qF,df160,TBh,h1,h2,hmf,sub,put,fillP,EVt,List.drop_succ_cons]
    refine ywp_y rfl rfl rfl rfl rfl (hw _ fun p' u' h' hk'=>?_)
    refine ywp_run (Tab.ok_Γ _) 60 rfl ?_
    simp (maxSteps:=999999) only [go_sem,simprocAttr,↓qT,↓qF,df160,TBh]
    simp only [ysw]
    exact hk'
end Go.Proofs.YtcdfofeolgbnbaaGreat

