/- Package cdt: List. -/
import Derived.Test.YtcdfofeolgbnbaaGreatZ11
import Derived.Test.YtcdfofeolgbnbaaGreatZ23
import Derived.Test.YtcdfofeolgbnbaaGreatZ20
/- Package cdt: Descendants,the walk. -/
namespace Go.Proofs.YtcdfofeolgbnbaaGreat
open Go.D
set_option linter.all false
set_option maxRecDepth 100000
set_option maxHeartbeats 8000000

theorem bhH_clean {h:List Blk} {a b:Nat} {m0:M} (H:IsMem h a b m0) (hc:clean h.length h=true) (hb:b<h.length) (m:M) (x:Int):clean (bhH h a b m x).length (bhH h a b m x)=true:=by
 have ha:a<h.length+2:=bh_lt H
 rw [bhH_len]
 unfold bhH
 refine clean_app (setM_clean H hc hb) (by omega) ?_
 simp [clean,vals,S.val,R.val,ha]
theorem dsc_bw {asg body:DC} {a b:Nat} {own:Slot} {h:List Blk} {m0:M} {K:Option Ex->U->List Blk->Prop} (hab:findRf df47.body=some (asg,body)) (H:IsMem h a b m0) (hc:clean h.length h=true) (hb:b<h.length) :
  ∀ (k:Nat) (x:Int) (m:M) (l:List Int) (c:Nat),l.length+k<=1000000000000->l.length<=c ->
   (∀ l' m2 p c' x',dsW own.depth k x m l=(some l',m2)->l'.length<=c'->(p=none\/p=some (.ext 0))->K p (dT a h.length,dLS .ns (.i .i64 0) own l' c') (bhH h a b m2 x')) ->
   (∀ m2 l' c' x',dsW own.depth k x m l=(none,m2)->K (some .ret) (dT a h.length,dLS .ns (.i .i64 110) own l' c') (bhH h a b m2 x')) ->
   bw (bhH h a b) (rndOf TDs.Γ [24,25] asg body) K k x m (dT a h.length,dLS .ns (.i .i64 0) own l c)
 | 0,x,m,l,c,_,hlc,k1,k2=>by
  simp only [dsW,bw] at k1 k2 ⊢
  by_cases h0:x=0
  ·rw [if_pos h0] at k1 ⊢
   exact k1 _ _ _ _ _ rfl hlc (.inl rfl)
  ·rw [if_neg h0] at k2 ⊢
   intro K' hK
   refine dsc_r0 hab _ fun p u' h' hh=>?_
   obtain ⟨rfl,rfl,rfl⟩:=hh
   exact hK _ _ _ (k2 _ _ _ _ rfl)
 | k+1,x,m,l,c,hl,hlc,k1,k2=>by
  simp only [dsW,bw] at k1 k2 ⊢
  by_cases h0:x=0
  ·rw [if_pos h0] at k1 ⊢
   exact k1 _ _ _ _ _ rfl hlc (.inl rfl)
  ·rw [if_neg h0] at k1 k2 ⊢
   by_cases hf:m.fE x=0
   ·rw [if_pos hf] at k1 k2 ⊢
    by_cases hd:(m.gV x).depth<=own.depth
    ·rw [if_pos hd] at k1 k2
     intro K' hK
     refine dsc_r1 hab h0 hd _ fun p u' h' hh=>?_
     obtain ⟨rfl,rfl,rfl⟩:=hh
     exact hK _ _ _ ⟨rfl,k1 _ _ _ _ _ rfl hlc (.inr rfl)⟩
    ·rw [if_neg hd] at k1 k2
     intro K' hK
     have hln:=bhH_len (h:=h) (a:=a) (b:=b) (m.gX x) x
     have ha:=H.lta
     refine dsc_r2 hab (bhH_clean H hc hb _ _) h0 hd (by omega) ⟨by omega,by omega,by omega⟩ _ fun p u' h' hh=>?_
     obtain ⟨rfl,⟨c',hc',rfl⟩,rfl⟩:=hh
     refine hK _ _ _ ⟨rfl, ?_⟩
     exact dsc_bw hab H hc hb k _ _ _ _ (by simp only [List.length_append,List.length_cons,List.length_nil]; omega) (by simp only [List.length_append,List.length_cons,List.length_nil]; omega) k1 k2
   ·rw [if_neg hf] at k1 k2 ⊢
    intro K' hK
    refine dsc_r0 hab _ fun p u' h' hh=>?_
    obtain ⟨rfl,rfl,rfl⟩:=hh
    exact hK _ _ _ (k2 _ _ _ _ rfl)
theorem dsc_snd:Snd Tryz.prog 47 (FSpec.of dscG):=(fwp_sound (Tab.snd_Γ TDs_snd) mixed Tryz.func47 dc47).weaken fun args h K hc hS=>by
 refine fwp_runW (Tab.ok_Γ _) 200 ?_
 obtain ⟨a,b,m,rest,rfl,H,hS1⟩:=memF_spec (f:=dscM) hS
 clear hS
 have hS:=hS1
 clear hS1
 unfold dscM at hS
 split at hS
 ·rename_i x
  simp only [spec_br] at hS
  obtain ⟨⟨⟨c0,c1,c2,c3,c4,c5,c6,c7,c8,c9,c10⟩,p0,q0,r0⟩,hs⟩:∃ s,m.gV x=s:=⟨_,rfl⟩
  by_cases hf:m.fE x=0
  ·have hS:=hS.1 (by simpa using hf)
   rw [hs] at hS
   simp only at hS
   simp (maxSteps:=999999) only [go_sem,simprocAttr,↓qT,↓qF,df47,TDs,fullG,memF_eq H,memF_set H,fullM,hs,hf,behG,setM_len,Slot.cl,Cap.cl,put,fillP,sub,EVt]
   refine more_wk (t':=dT a h.length) (ls':=dLS .ns (.i .i64 0) ⟨⟨c0,c1,c2,c3,c4,c5,c6,c7,c8,c9,c10⟩,p0,q0,r0⟩ [] 0) (h':=bhH h a b (m.gX x) q0) (Wk.same (by rfl) (by rfl) (by simp only [go_sem,simprocAttr,↓qT,↓qF,dT])) ?_
   refine rf_rule (cs:=[(.g h.length,0),(.g (h.length+1),0)]) rfl rfl rfl rfl ?_
   refine behind1_is (m:=m.gX x) H ?_
   have hl0:(m.gX x).w.length/4=m.w.length/4:=by unfold M.gX; split<;>rfl
   rw [hl0]
   have hml:=m.l
   obtain ⟨N,hN⟩:∃ N,m.w.length/4=N:=⟨_,rfl⟩
   rw [hN] at hS ⊢
   have key:∀ l' m2 c' x',dsW r0 N q0 (m.gX x) []=(some l',m2)->l'.length<=c'->swp TDs.Γ h.length (fin h.length [.c 4 none, .c 5 none] K) [.c (.seq (.reg [⟨some 37, .ld (.t 8) none,none⟩,⟨none, .st (.t 4) (.t 37) 1,none⟩,⟨none, .st (.t 5) (.k (.s (.i .i64 0))) 1,none⟩]) .ret)] ⟨dT a h.length,dLS .ns (.i .i64 0) ⟨⟨c0,c1,c2,c3,c4,c5,c6,c7,c8,c9,c10⟩,p0,q0,r0⟩ l' c',bhH h a b m2 x'⟩:=fun l' m2 c' x' e hlc=>by
    rw [e] at hS
    refine run_sound (Tab.ok_Γ _) 60 _ _ _ _ ?_
    have hcb:=bhH_clean H hc H.ltb m2 x'
    have hcm:clean h.length (setM h a b m2)=true:=setM_clean H hc H.ltb
    have hnb:h.length<=(bhH h a b m2 x').length:=by rw [bhH_len]; omega
    have hlm:(setM h a b m2).length=h.length:=setM_len
    cases l' with
    | nil =>
     simp only [dscR,spec_ok] at hS
     simp (maxSteps:=999999) only [go_sem,simprocAttr,↓qT,↓qF,dT,dLS,Slot.cl,Cap.cl,put,fillP,sub,EVt]
     refine fin_of (v:=.tup [.s .ns, .s (.i .i64 0)]) (ls:=[]) (h:=setM h a b m2) rfl (.trans (Wk.keep 0 (ls:=[]) (t':=[.tup [.s .ns, .s (.i .i64 0)]]) rfl rfl (by simp only [go_sem,simprocAttr,↓qT,↓qF]) (by rfl) (by rfl)) (Wk.keepH h.length (by unfold bhH; rw [<-hlm,List.take_left']; rfl) (Nat.le_of_eq hlm.symm) (by simp only [go_sem,simprocAttr,↓qT,↓qF]) (by rfl) (by rw [hlm]; exact hcm) (by rfl))) ?_
     simp (maxSteps:=999999) only [go_sem,simprocAttr,↓qT,↓qF]
     exact hS
    | cons y l' =>
     simp only [dscR,spec_all] at hS
     obtain ⟨B,hB⟩:∃ B,intsB (y::l')=B:=⟨_,rfl⟩
     obtain ⟨b1,b2,b3,b4,b5,b6⟩:=intsB_is (y::l')
     rw [hB] at b1 b2 b3 b4 b5 b6 hS
     have hb3:∀ a b,B.all (S.val a b)=true:=fun u v=>by have:=b3 u v; simpa only [vals] using this
     have hcq:=hcb
     have hnq:=hnb
     simp (maxSteps:=999999) only [go_sem,simprocAttr,↓qT,↓qF,dT,dLS,hB,Slot.cl,Cap.cl,put,fillP,sub,EVt]
     refine fin_of (v:=.tup [.s (.sl (.l 0) 0 (l'.length+1) c'), .s (.i .i64 0)]) (ls:=[⟨.rw,B,c'⟩]) (h:=setM h a b m2) rfl (.trans (s1:=⟨[.tup [.s (.sl (.l 0) 0 (l'.length+1) c'), .s (.i .i64 0)]],[⟨.rw,B,c'⟩],bhH h a b m2 x'⟩) ?_ (Wk.keepH h.length (by unfold bhH; rw [<-hlm,List.take_left']; rfl) (Nat.le_of_eq hlm.symm) (by simp only [go_sem,simprocAttr,↓qT,↓qF]) (by rfl) (by rw [hlm]; exact hcm) (by simp only [go_sem,simprocAttr,↓qT,↓qF,hb3]))) ?_
     ·refine Wk.sel [4] (by decide) hnq ?_ ?_ ?_ ?_ hcq (clean_pick hcq _)
      ·simp (maxSteps:=999999) only [go_sem,simprocAttr,↓qT,↓qF,List.nil_append,Blk.ren,V.ren,C.ren,S_ren,wc_ren,R.pick_g,R.pick_0,R.pick_s,List.map_append,wc_cons,wc_snoc,wc_nil,hb3,b5,result]
      ·simp (maxSteps:=999999) only [go_sem,simprocAttr,↓qT,↓qF,List.nil_append,Blk.ren,V.ren,C.ren,S_ren,wc_ren,R.pick_g,R.pick_0,R.pick_s,hb3,b5,result]
      ·simp (maxSteps:=999999) only [go_sem,simprocAttr,↓qT,↓qF,List.nil_append,app_len,nlt0,nltn,Nat.reduceLT,Nat.le_add_right,hb3,b5,result]
      ·simp (maxSteps:=999999) only [go_sem,simprocAttr,↓qT,↓qF,List.nil_append,app_len,nlt0,nltn,Nat.reduceLT,Nat.le_add_right,vals_cons,vals_nil,wc_val,wc_vals,hb3,b5,result]
     ·simp (maxSteps:=999999) only [go_sem,simprocAttr,↓qT,↓qF]
      refine ⟨[0],by simp,rfl, ?_⟩
      simp only [getAll,List.getElem?_cons_zero]
      refine ⟨?_, ?_⟩
      ·have hk:=intsB_kept [0] (y::l')
       rw [hB] at hk
       simp only [List.all_cons,List.all_nil,hk,decide_true,Bool.and_true]
      ·refine cast ?_ (hS c' (by simpa using hlc))
       simp only [V.ren,C.ren,S.ren,R.prom,List.map_cons,List.map_nil,Blk.ren,b5,spec_ok,hlm,List.idxOf,List.findIdx,List.findIdx.go,beq_self_eq_true,cond_true,Nat.add_zero,setM_len]
   refine dsc_bw rfl H hc H.ltb _ _ _ _ 0 (by simp only [List.length_nil]; omega) (Nat.le_refl _) ?_ ?_
   ·intro l' m2 p c' x' e hlc hp
    rcases hp with rfl|rfl
    ·simp only [Option.getD_none]
     unfold swp
     exact key _ _ _ _ e hlc
    ·simp only [Option.getD_some,swx,if_true]
     exact key _ _ _ _ e hlc
   ·intro m2 l' c' x' e
    simp only [Option.getD_some]
    rw [e] at hS
    simp only [dscR,spec_ok] at hS
    have hcm:clean h.length (setM h a b m2)=true:=setM_clean H hc H.ltb
    have hlm:(setM h a b m2).length=h.length:=setM_len
    cases l'
    all_goals
     refine fin_of (v:=.tup [.s .ns, .s (.i .i64 110)]) (ls:=[]) (h:=setM h a b m2) rfl (.trans (Wk.keep 0 (ls:=[]) (t':=[.tup [.s .ns, .s (.i .i64 110)]]) rfl rfl (by simp only [go_sem,simprocAttr,↓qT,↓qF]) (by rfl) (by rfl)) (Wk.keepH h.length (by unfold bhH; rw [<-hlm,List.take_left']; rfl) (Nat.le_of_eq hlm.symm) (by simp only [go_sem,simprocAttr,↓qT,↓qF]) (by rfl) (by rw [hlm]; exact hcm) (by rfl))) ?_
     simp (maxSteps:=999999) only [go_sem,simprocAttr,↓qT,↓qF]
     exact hS
  ·have hS:=hS.2 (by simpa using hf)
   have hf':(m.fE x==0)=false:=by simpa using hf
   simp only [spec_ok] at hS
   simp (maxSteps:=999999) only [go_sem,simprocAttr,↓qT,↓qF,df47,TDs,fullG,memF_eq H,memF_set H,fullM,hs,hf,hf',bne,Slot.cl,Cap.cl,put,fillP,sub,EVt]
   refine fin_of (v:=.tup [.s .ns, .s (.i .i64 (m.fE x))]) (ls:=[]) (h:=setM h a b (m.gX x)) rfl (Wk.keep 0 rfl rfl (by simp only [go_sem,simprocAttr,↓qT,↓qF]) (by rfl) (by rfl)) ?_
   simp (maxSteps:=999999) only [go_sem,simprocAttr,↓qT,↓qF]
   exact hS
 ·exact hS.elim

theorem arr_ints:∀ l:List Int,arr In.c l=intsB l
 | []=>rfl
 | x::l=>by simp only [arr,In.c,arr_ints l,intsB,List.map_cons]; rfl
theorem intsOf_at {h:List Blk} {j c room:Nat} {l:List Int} (hj:h[j]?=some ⟨.rw,intsB l,room⟩):arrOf In.c h (.sl (.g j) 0 l.length c)=some l:=arrOf_eq (.inr ⟨j,c, .rw,room,rfl,by rw [arr_ints]; exact hj,fun _ h=>by cases h⟩)
theorem intsOf_ns {h:List Blk}:arrOf In.c h .ns=some []:=arrOf_eq (.inl ⟨.inl rfl,rfl⟩)
theorem intsB_get {l:List Int} {i:Nat} (h:i<l.length):(intsB l)[i]?=some (.i .i64 (nth 0 l i)):=by
 unfold intsB
 rw [List.getElem?_map,List.getElem?_eq_getElem h,<-nth_eq h]; rfl
def ixOf (x:Int) (l:List Int):Int:=if x∈l then (l.idxOf x:Int) else -1
noncomputable def indexG:List V->List Blk->Res
 | [.s s, .s (.i .i64 x)],h=>match arrOf In.c h s with
  | some l=>.ob (l.length<=8796093022208) (.ok (.s (.i .i64 (ixOf x l))) [] h)
  | none=>.bad
 | _,_=>.bad
theorem indexG_spec {args:List V} {h:List Blk} {K:V->List Blk->Prop} (hS:(indexG args h).spec K):∃ s x l,args=[.s s, .s (.i .i64 x)]/\IsArr In.c h s l/\l.length<=8796093022208/\K (.s (.i .i64 (ixOf x l))) h:=by
 unfold indexG at hS
 split at hS
 ·split at hS
  ·rename_i e1
   exact ⟨_,_,_,rfl,arrOf_some e1,hS.1,hS.2⟩
  ·exact hS.elim
 ·exact hS.elim
theorem ixOf_at {x:Int} {l:List Int} {i:Nat} (hi:i<l.length) (hn:x∉l.take i) (e:x=nth 0 l i):ixOf x l=(i:Int):=by
 have hx:x∈l:=by rw [e,nth_eq hi]; exact List.getElem_mem hi
 unfold ixOf
 rw [if_pos hx]
 have e1:l=l.take i++x::l.drop (i+1):=by
  rw [e,nth_eq hi,List.getElem_cons_drop,List.take_append_drop]
 have:l.idxOf x=i:=by
  rw [e1,List.idxOf_append,if_neg hn,List.idxOf_cons_self,List.length_take]
  omega
 rw [this]
theorem not_take {x:Int} {l:List Int} {i:Nat} (hi:i<l.length) (hn:x∉l.take i) (e:¬ x=nth 0 l i):x∉l.take (i+1):=by
 rw [List.take_add_one,List.getElem?_eq_getElem hi,Option.toList_some,List.mem_append,List.mem_singleton,<-nth_eq hi (d:=0)]
 rintro (h|h)
 ·exact hn h
 ·exact e h
theorem index_snd:Snd Tryz.prog 159 (FSpec.of indexG):=snd_run (noT_snd _) mixed Tryz.func159 dc159 100 fun args h K hc hS=>by
 obtain ⟨s,x,l,rfl,Hs,hl,hK⟩:=indexG_spec hS
 clear hS
 have hlen:=fun ls h'=>Hs.sl.len (ls:=ls) (h:=h')
 simp (maxSteps:=999999) only [go_sem,simprocAttr,↓qT,↓qF,df159,↓hlen]
 refine loop_rule (α:=Nat) [4,5,8,9,10,11,12,13,14,15,16,17,18] (fun q=>[(8, .s (.i .i64 (q:Int)))]) (fun _=>[]) (fun _=>h) (fun q=>q<=l.length/\x∉l.take q) (fun q=>l.length-q) 0 ⟨Nat.zero_le _,by simp⟩ ?_ ?_
 ·refine Wk.less ?_
  simp (maxSteps:=999999) only [go_sem,simprocAttr,↓qT,↓qF,Int.natCast_zero]
 ·rintro X q ⟨hq,hn⟩ IH
  rcases Nat.lt_or_ge q l.length with h1|h1
  ·obtain ⟨j,c',st,room,rfl,hj,hd⟩:=Hs.at h1
   obtain ⟨d1,d2,d3,d4⟩:=idx h1 (by omega)
   rw [arr_ints] at hj
   have g1:=intsB_get h1
   by_cases e:x=nth 0 l q
   ·have e1:=ixOf_at h1 hn e
    rw [e1] at hK
    refine run_sound (Tab.ok_Γ _) 100 _ _ _ _ ?_
    simp (maxSteps:=999999) only [go_sem,simprocAttr,↓qT,↓qF,d1,d2,d3,d4,g1,hj,hd,e,Int.toNat_natCast]
    exact hK
   ·have e1:(x==nth 0 l q)=false:=by simpa using e
    refine run_sound (Tab.ok_Γ _) 100 _ _ _ _ ?_
    simp (maxSteps:=999999) only [go_sem,simprocAttr,↓qT,↓qF,d1,d2,d3,d4,g1,hj,hd,e1,e,Int.toNat_natCast]
    exact IH (q+1) _ (by omega) ⟨by omega,not_take h1 hn e⟩ (Wk.same rfl rfl (by simp only [go_sem,simprocAttr,↓qT,↓qF]))
  ·have e0:q=l.length:=by omega
   subst e0
   rw [List.take_length] at hn
   have e1:ixOf x l = -1:=by unfold ixOf; rw [if_neg hn]
   rw [e1] at hK
   refine run_sound (Tab.ok_Γ _) 100 _ _ _ _ ?_
   simp (maxSteps:=999999) only [go_sem,simprocAttr,↓qT,↓qF,↓hlen,Int.lt_irrefl]
   exact hK
noncomputable def containsG:List V->List Blk->Res
 | [.s s, .s (.i .i64 x)],h=>match arrOf In.c h s with
  | some l=>.ob (l.length<=8796093022208) (.ok (.s (.b (decide (x∈l)))) [] h)
  | none=>.bad
 | _,_=>.bad
theorem containsG_spec {args:List V} {h:List Blk} {K:V->List Blk->Prop} (hS:(containsG args h).spec K):∃ s x l,args=[.s s, .s (.i .i64 x)]/\IsArr In.c h s l/\l.length<=8796093022208/\K (.s (.b (decide (x∈l)))) h:=by
 unfold containsG at hS
 split at hS
 ·split at hS
  ·rename_i e1
   exact ⟨_,_,_,rfl,arrOf_some e1,hS.1,hS.2⟩
  ·exact hS.elim
 ·exact hS.elim
noncomputable def TCo:Tab:=addT 159 indexG noT
theorem TCo_snd:TCo.Snd Tryz.prog:=addT_snd ok159 index_snd (noT_snd _)
theorem contains_snd:Snd Tryz.prog 97 (FSpec.of containsG):=snd_run TCo_snd mixed Tryz.func97 dc97 100 fun args h K hc hS=>by
 obtain ⟨s,x,l,rfl,Hs,hl,hK⟩:=containsG_spec hS
 clear hS
 have hkn:=Hs.sl.known
 have hnl:=Hs.sl.noL
 have e:=arrOf_eq Hs
 have hv:decide (0<=ixOf x l)=decide (x∈l):=by
  unfold ixOf
  by_cases hx:x∈l
  ·rw [if_pos hx]; simp [hx]
  ·rw [if_neg hx]; simp [hx]
 obtain ⟨b,hb⟩:∃ b,decide (x∈l)=b:=⟨_,rfl⟩
 rw [hb] at hK hv
 simp (maxSteps:=999999) only [go_sem,simprocAttr,↓qT,↓qF,df97,TCo,indexG,e,hl,↓hkn,↓hnl,hv]
 exact hK

/-! ### Next -/
def M.nxV (m:M) (a:Int):Int:=if m.fE a=0 then (if (m.gV a).next=0 then 0 else if m.fE (m.gV a).next=0 then (if (m.gV (m.gV a).next).depth<=(m.gV a).depth then 0 else (m.gV a).next) else 0) else 0
def M.nxX (m:M) (a:Int):M:=if m.fE a=0 then (if (m.gV a).next=0 then m.gX a else (m.gX a).gX (m.gV a).next) else m.gX a
def nextM (b:Nat) (m:M) (st:M->List Blk):List V->Res
 | [.s (.i .i64 x)]=>.ok (.s (.i .i64 (m.nxV x))) [] (st (m.nxX x))
 | _=>.bad
noncomputable def nextG:=memF nextM
noncomputable def TNx:Tab:=addT 74 fullG (noT)
theorem TNx_snd:TNx.Snd Tryz.prog:=addT_snd ok74 full_snd ((noT_snd _))
theorem next_snd:Snd Tryz.prog 41 (FSpec.of nextG):=snd_run TNx_snd mixed Tryz.func41 dc41 200 fun args h K hc hS=>by
 obtain ⟨a,b,m,rest,rfl,H,hS1⟩:=memF_spec (f:=nextM) hS
 clear hS
 have hS:=hS1
 clear hS1
 unfold nextM at hS
 split at hS
 ·rename_i x
  simp only [spec_ok,M.nxV,M.nxX] at hS
  obtain ⟨⟨⟨c0,c1,c2,c3,c4,c5,c6,c7,c8,c9,c10⟩,p0,q0,r0⟩,hs⟩:∃ s,m.gV x=s:=⟨_,rfl⟩
  obtain ⟨⟨⟨d0,d1,d2,d3,d4,d5,d6,d7,d8,d9,d10⟩,p1,q1,r1⟩,ht⟩:∃ s,m.gV q0=s:=⟨_,rfl⟩
  simp only [hs,ht] at hS
  by_cases hf:m.fE x=0
  ·rw [if_pos hf,if_pos hf] at hS
   by_cases hn:q0=0
   ·rw [if_pos hn,if_pos hn] at hS
    have hn':(q0==0)=true:=by simpa using hn
    simp (maxSteps:=999999) only [go_sem,simprocAttr,↓qT,↓qF,df41,TNx,fullG,memF_eq H,memF_set H,fullM,hs,hf,hn',bne,Slot.cl,Cap.cl,put,fillP,sub,EVt]
    exact hS
   ·rw [if_neg hn,if_neg hn] at hS
    have hn':(q0==0)=false:=by simpa using hn
    by_cases hg:m.fE q0=0
    ·rw [if_pos hg] at hS
     by_cases hd:r1<=r0
     ·rw [if_pos hd] at hS
      simp (maxSteps:=999999) only [go_sem,simprocAttr,↓qT,↓qF,df41,TNx,fullG,memF_eq H,memF_set H,fullM,hs,ht,hf,hn',hg,hd,gX_fE,gX_gV,bne,Slot.cl,Cap.cl,put,fillP,sub,EVt]
      exact hS
     ·rw [if_neg hd] at hS
      simp (maxSteps:=999999) only [go_sem,simprocAttr,↓qT,↓qF,df41,TNx,fullG,memF_eq H,memF_set H,fullM,hs,ht,hf,hn',hg,hd,gX_fE,gX_gV,bne,Slot.cl,Cap.cl,put,fillP,sub,EVt]
      exact hS
    ·rw [if_neg hg] at hS
     have hg':(m.fE q0==0)=false:=by simpa using hg
     simp (maxSteps:=999999) only [go_sem,simprocAttr,↓qT,↓qF,df41,TNx,fullG,memF_eq H,memF_set H,fullM,hs,ht,hf,hn',hg',hg,gX_fE,gX_gV,bne,Slot.cl,Cap.cl,put,fillP,sub,EVt]
     exact hS
  ·rw [if_neg hf,if_neg hf] at hS
   have hf':(m.fE x==0)=false:=by simpa using hf
   simp (maxSteps:=999999) only [go_sem,simprocAttr,↓qT,↓qF,df41,TNx,fullG,memF_eq H,memF_set H,fullM,hs,hf,hf',bne,Slot.cl,Cap.cl,put,fillP,sub,EVt]
   exact hS
 ·exact hS.elim

/-! ### Below,Last -/
def M.dsO (m:M) (x:Int):Option (List Int)×M:=if m.fE x=0 then dsW (m.gV x).depth (m.w.length/4) (m.gV x).next (m.gX x) [] else (none,m.gX x)
def M.dsL (m:M) (x:Int):List Int:=(m.dsO x).1.getD []
def belM (b:Nat) (m:M) (st:M->List Blk):List V->Res
 | [.s (.i .i64 x), .s (.i .i64 y)]=>.ok (.s (.b (decide (y∈m.dsL x)))) [] (st (m.dsO x).2)
 | _=>.bad
noncomputable def belG:=memF belM
theorem dsW_len {d:Int}:∀ (k:Nat) (x:Int) (m:M) (l:List Int) {l':List Int} {m':M},dsW d k x m l=(some l',m')->l'.length<=l.length+k
 | 0,x,m,l,l',m',h=>by
  simp only [dsW] at h
  split at h
  ·simp only [Prod.mk.injEq,Option.some.injEq] at h; rw [<-h.1]; omega
  ·simp at h
 | k+1,x,m,l,l',m',h=>by
  simp only [dsW] at h
  split at h
  ·simp only [Prod.mk.injEq,Option.some.injEq] at h; rw [<-h.1]; omega
  ·split at h
   ·split at h
    ·simp only [Prod.mk.injEq,Option.some.injEq] at h; rw [<-h.1]; omega
    ·have:=dsW_len k _ _ _ h
     simp only [List.length_append,List.length_cons,List.length_nil] at this
     omega
   ·simp at h
noncomputable def TBe:Tab:=addT 47 dscG (noT)
theorem TBe_snd:TBe.Snd Tryz.prog:=addT_snd ok47 dsc_snd ((noT_snd _))
noncomputable def TBl:Tab:=addT 97 containsG TBe
theorem TBl_snd:TBl.Snd Tryz.prog:=addT_snd ok97 contains_snd TBe_snd
theorem drop_b {q:Bool} {t:List V} {ls h X:List Blk} (ht:leT [.s (.b q)] t) (hc:clean h.length h=true) {n0:Nat} (hn:n0<=h.length):Wk n0 ⟨t,ls,h++X⟩ ⟨[.s (.b q)],[],h⟩ :=
 .trans (Wk.keep 0 (ls:=[]) (t':=[.s (.b q)]) rfl rfl ht (by rfl) (by rfl)) (Wk.keepH h.length (by simp) hn (by simp only [go_sem,simprocAttr,↓qT,↓qF]) (by rfl) hc (by rfl))
theorem drop_i {q:Int} {t:List V} {ls h X:List Blk} (ht:leT [.s (.i .i64 q)] t) (hc:clean h.length h=true) {n0:Nat} (hn:n0<=h.length):Wk n0 ⟨t,ls,h++X⟩ ⟨[.s (.i .i64 q)],[],h⟩ :=
 .trans (Wk.keep 0 (ls:=[]) (t':=[.s (.i .i64 q)]) rfl rfl ht (by rfl) (by rfl)) (Wk.keepH h.length (by simp) hn (by simp only [go_sem,simprocAttr,↓qT,↓qF]) (by rfl) hc (by rfl))
theorem bel_snd:Snd Tryz.prog 31 (FSpec.of belG):=(fwp_sound (Tab.snd_Γ TBl_snd) mixed Tryz.func31 dc31).weaken fun args h K hc hS=>by
 refine fwp_runW (Tab.ok_Γ _) 200 ?_
 obtain ⟨a,b,m,rest,rfl,H,hS1⟩:=memF_spec (f:=belM) hS
 clear hS
 have hS:=hS1
 clear hS1
 unfold belM at hS
 split at hS
 ·rename_i x y
  simp only [spec_ok] at hS
  have hlm:∀ m2,(setM h a b m2).length=h.length:=fun _=>setM_len
  have hcm:∀ m2,clean (setM h a b m2).length (setM h a b m2)=true:=fun _=>by rw [setM_len]; exact setM_clean H hc H.ltb
  have hml:=m.l
  by_cases hf:m.fE x=0
  ·obtain ⟨o,ho⟩:∃ o,dsW (m.gV x).depth (m.w.length/4) (m.gV x).next (m.gX x) []=o:=⟨_,rfl⟩
   have hO:m.dsO x=o:=by unfold M.dsO; rw [if_pos hf,ho]
   have hL:m.dsL x=o.1.getD []:=by unfold M.dsL; rw [hO]
   rw [hL,hO] at hS
   clear hL hO
   rcases o with ⟨_|_|⟨z,l⟩,m2⟩
   ·simp (maxSteps:=999999) only [go_sem,simprocAttr,↓qT,↓qF,df31,TBl,TBe,dscG,memF_eq H,memF_set H,dscM,dscR,hf,ho,containsG,intsOf_ns,List.not_mem_nil]
    exact fin_of (v:=.s (.b false)) (ls:=[]) (h:=setM h a b m2) rfl (Wk.keep 0 rfl rfl (by simp only [go_sem,simprocAttr,↓qT,↓qF]) (by rfl) (by rfl)) (by simp only [go_sem,simprocAttr,↓qT,↓qF]; exact hS)
   ·simp (maxSteps:=999999) only [go_sem,simprocAttr,↓qT,↓qF,df31,TBl,TBe,dscG,memF_eq H,memF_set H,dscM,dscR,hf,ho,containsG,intsOf_ns,List.not_mem_nil]
    exact fin_of (v:=.s (.b false)) (ls:=[]) (h:=setM h a b m2) rfl (Wk.keep 0 rfl rfl (by simp only [go_sem,simprocAttr,↓qT,↓qF]) (by rfl) (by rfl)) (by simp only [go_sem,simprocAttr,↓qT,↓qF]; exact hS)
   ·have hl:=dsW_len _ _ _ _ ho
    have w5:∀ c,(setM h a b m2++[⟨.rw,intsB (z::l),c⟩])[(setM h a b m2).length]?=some (⟨.rw,intsB (z::l),c⟩:Blk):=fun c=>by simp
    have hA:∀ c,arrOf In.c (setM h a b m2++[⟨.rw,intsB (z::l),c⟩]) (.sl (.g (setM h a b m2).length) 0 (l.length+1) c)=some (z::l):=fun c=>intsOf_at (w5 c)
    have hl2:(z::l).length<=8796093022208:=by simp only [List.length_nil] at hl; omega
    simp only [Option.getD_some] at hS
    obtain ⟨ys,hys⟩:∃ ys,decide (y∈z::l)=ys:=⟨_,rfl⟩
    rw [hys] at hS
    simp (maxSteps:=999999) only [go_sem,simprocAttr,↓qT,↓qF,df31,TBl,TBe,dscG,memF_eq H,memF_set H,dscM,dscR,hf,ho,containsG,hA,hys,hl2]
    intro c hc'
    refine ⟨by simp only [List.length_cons] at hl2; omega, ?_⟩
    refine fin_of (v:=.s (.b ys)) (ls:=[]) (h:=setM h a b m2) rfl ?_ ?_
    ·exact drop_b (by simp only [go_sem,simprocAttr,↓qT,↓qF]) (hcm m2) (Nat.le_of_eq (hlm m2).symm)
    ·simp (maxSteps:=999999) only [go_sem,simprocAttr,↓qT,↓qF]
     exact hS
  ·have hO:m.dsO x=(none,m.gX x):=by unfold M.dsO; rw [if_neg hf]
   have hL:m.dsL x=[]:=by unfold M.dsL; rw [hO]; rfl
   rw [hL,hO] at hS
   simp (maxSteps:=999999) only [go_sem,simprocAttr,↓qT,↓qF,df31,TBl,TBe,dscG,memF_eq H,memF_set H,dscM,dscR,hf,containsG,intsOf_ns,List.not_mem_nil]
   exact fin_of (v:=.s (.b false)) (ls:=[]) (h:=setM h a b (m.gX x)) rfl (Wk.keep 0 rfl rfl (by simp only [go_sem,simprocAttr,↓qT,↓qF]) (by rfl) (by rfl)) (by simp only [go_sem,simprocAttr,↓qT,↓qF]; exact hS)
 ·exact hS.elim

def lisM (b:Nat) (m:M) (st:M->List Blk):List V->Res
 | []=>dscR st (dsW (-1) (m.w.length/4) m.fst m.fstX [])
 | _=>.bad
noncomputable def lisG:=memF lisM
def lLS (A B:S) (l:List Int) (c:Nat):List Blk :=
 match l with
 | []=>[⟨.rw,[A],1⟩,⟨.rw,[B],1⟩,⟨.rw,[.ns],1⟩]
 | x::l=>[⟨.rw,[A],1⟩,⟨.rw,[B],1⟩,⟨.rw,[.sl (.l 3) 0 (l.length+1) c],1⟩,⟨.rw,intsB (x::l),c⟩]
def lT (a n:Nat):List V:=[.s (.p (.g a) 0), .s .u, .s (.p (.l 0) 0), .s (.p (.l 1) 0), .s (.p (.l 2) 0), .s .u, .s .u, .s .u, .s .u,
 .s (.fn 160 [(.g n,0),(.g (n+1),0)]), .s .u, .s .u, .s .u, .s .u, .s .u, .s .u, .s .u, .s .u, .s .u]
noncomputable def TLi:Tab:=addT 100 firstG (addT 99 behG (noT))
theorem TLi_snd:TLi.Snd Tryz.prog:=addT_snd ok100 first_snd (addT_snd ok99 beh_snd ((noT_snd _)))
section
variable {asg body:DC} {a n:Nat} {s:Slot} {l:List Int} {c:Nat} {x:Int} {h:List Blk}
theorem lis_r0 (hab:findRf df33.body=some (asg,body)):RM (rndOf TLi.Γ [10,11] asg body) [.s (.i .i64 0), .agg slotZ.cl] (lT a n,lLS .ns (.i .i64 0) l c) h fun p u' h'=>p=some .ret/\u'=(lT a n,lLS .ns (.i .i64 110) l c)/\h'=h:=by
 intro K' hK
 cases hab
 refine rnd_rule2 (Tab.ok_Γ _) 60 0 ?_
 cases l with
 | nil =>
  simp (maxSteps:=999999) only [go_sem,simprocAttr,↓qT,↓qF,TLi,lT,lLS,bindT,slotZ,capZ,Slot.cl,Cap.cl,put,fillP,sub,EVt]
  refine run_sound (Tab.ok_Γ _) 60 _ _ _ _ ?_
  simp (maxSteps:=999999) only [go_sem,simprocAttr,↓qT,↓qF,TLi,put,fillP,sub,EVt]
  exact rndE_mk ⟨lT a n,lLS .ns (.i .i64 110) [] c,h⟩ (Wk.keep 3 rfl rfl (by simp only [go_sem,simprocAttr,↓qT,↓qF,lT]) (by rfl) (by rfl)) rfl (hK _ _ _ ⟨rfl,rfl,rfl⟩)
 | cons y l =>
  have hb:=(intsB_is (y::l)).be
  simp (maxSteps:=999999) only [go_sem,simprocAttr,↓qT,↓qF,TLi,lT,lLS,bindT,slotZ,capZ,Slot.cl,Cap.cl,put,fillP,sub,EVt]
  refine run_sound (Tab.ok_Γ _) 60 _ _ _ _ ?_
  simp (maxSteps:=999999) only [go_sem,simprocAttr,↓qT,↓qF,TLi,put,fillP,sub,EVt]
  exact ⟨⟨lT a n,lLS .ns (.i .i64 110) (y::l) c,h⟩,Wk.keep 4 rfl rfl (by simp only [go_sem,simprocAttr,↓qT,↓qF,lT]) (by rfl) (by simp [lLS,S.below,R.below,hb]),rfl,hK _ _ _ ⟨rfl,rfl,rfl⟩⟩
theorem lis_r2 (hab:findRf df33.body=some (asg,body)) (hc:clean h.length h=true) (h0:x≠0) (hl:l.length<=1000000000000) (han:a<h.length/\n<h.length/\n+1<h.length):RM (rndOf TLi.Γ [10,11] asg body) [.s (.i .i64 x), .agg s.cl] (lT a n,lLS .ns (.i .i64 0) l c) h fun p u' h'=>p=none/\(∃ c',l.length+1<=c'/\u'=(lT a n,lLS .ns (.i .i64 0) (l++[x]) c'))/\h'=h:=by
 intro K' hK
 cases hab
 refine rnd_rule2 (Tab.ok_Γ _) 60 0 ?_
 obtain ⟨⟨d0,d1,d2,d3,d4,d5,d6,d7,d8,d9,d10⟩,p1,q1,r1⟩:=s
 have h0':(x==0)=false:=by simpa using h0
 have hnq:h.length<=h.length:=Nat.le_refl _
 have hcq:=hc
 cases l with
 | nil =>
  simp (maxSteps:=999999) only [go_sem,simprocAttr,↓qT,↓qF,TLi,lT,lLS,bindT,Slot.cl,Cap.cl,h0,h0',put,fillP,sub,EVt]
  refine run_sound (Tab.ok_Γ _) 60 _ _ _ _ ?_
  simp (maxSteps:=999999) only [go_sem,simprocAttr,↓qT,↓qF,TLi,h0,h0',put,fillP,sub,EVt]
  intro c1 hle1
  have hw1:(1:Nat)<=1:=Nat.le_refl _
  refine rndE_mk ⟨lT a n,lLS .ns (.i .i64 0) [x] c1,h⟩ ?_ rfl (hK _ _ _ ⟨rfl,⟨c1,by simpa using hle1,rfl⟩,rfl⟩)
  simp only [lT,lLS,intsB,List.map_cons,List.map_nil,List.length_nil,Nat.zero_add,Nat.mul_one]
  refine Wk.sel [0,1,2,4] (by decide) hnq ?_ ?_ ?_ ?_ hcq (clean_pick hcq _)
  ·simp (maxSteps:=999999) only [go_sem,simprocAttr,↓qT,↓qF,List.nil_append,Blk.ren,V.ren,C.ren,S_ren,wc_ren,R.pick_g,R.pick_0,R.pick_s,List.map_append,wc_cons,wc_snoc,wc_nil,Nat.mul_one,han]
  ·simp (maxSteps:=999999) only [go_sem,simprocAttr,↓qT,↓qF,List.nil_append,Blk.ren,V.ren,C.ren,S_ren,wc_ren,R.pick_g,R.pick_0,R.pick_s,Nat.mul_one,han]
  ·simp (maxSteps:=999999) only [go_sem,simprocAttr,↓qT,↓qF,List.nil_append,app_len,nlt0,nltn,Nat.reduceLT,Nat.le_add_right,Nat.mul_one,han]
  ·simp (maxSteps:=999999) only [go_sem,simprocAttr,↓qT,↓qF,List.nil_append,app_len,nlt0,nltn,Nat.reduceLT,Nat.le_add_right,vals_cons,vals_nil,wc_val,wc_vals,Nat.mul_one,han]
 | cons y l =>
  obtain ⟨B,hB⟩:∃ B,intsB (y::l)=B:=⟨_,rfl⟩
  obtain ⟨b1,b2,b3,b4,b5,b6⟩:=intsB_is (y::l)
  rw [hB] at b1 b2 b3 b4 b5 b6
  simp (maxSteps:=999999) only [go_sem,simprocAttr,↓qT,↓qF,TLi,lT,lLS,hB,bindT,Slot.cl,Cap.cl,h0,h0',put,fillP,sub,EVt]
  refine run_sound (Tab.ok_Γ _) 60 _ _ _ _ ?_
  simp (maxSteps:=999999) only [go_sem,simprocAttr,↓qT,↓qF,TLi,h0,h0',b1,b2,b3,b4,put,fillP,sub,EVt]
  refine ⟨by simp only [List.length_cons] at hl; omega,fun c1 hle1=>?_⟩
  refine rndE_mk ⟨lT a n,lLS .ns (.i .i64 0) (y::l++[x]) c1,h⟩ ?_ rfl (hK _ _ _ ⟨rfl,⟨c1,by simp only [List.length_cons] at hle1 ⊢; omega,rfl⟩,rfl⟩)
  have hB2:intsB (y::(l++[x]))=B++[.i .i64 x]:=by rw [<-hB,intsB_app]; rfl
  have hl2:(l++[x]).length+1=l.length+1+1:=by simp
  simp only [lT,lLS,List.cons_append,hB2,hl2,Nat.mul_one]
  have hb3:∀ a b,B.all (S.val a b)=true:=fun u v=>by have:=b3 u v; simpa only [vals] using this
  refine Wk.sel [0,1,2,5] (by decide) hnq ?_ ?_ ?_ ?_ hcq (clean_pick hcq _)
  ·simp (maxSteps:=999999) only [go_sem,simprocAttr,↓qT,↓qF,List.nil_append,Blk.ren,V.ren,C.ren,S_ren,wc_ren,R.pick_g,R.pick_0,R.pick_s,List.map_append,wc_cons,wc_snoc,wc_nil,Nat.mul_one,han,hb3,b5,List.map_append,List.map_cons,List.map_nil,vals,List.all_append]
  ·simp (maxSteps:=999999) only [go_sem,simprocAttr,↓qT,↓qF,List.nil_append,Blk.ren,V.ren,C.ren,S_ren,wc_ren,R.pick_g,R.pick_0,R.pick_s,Nat.mul_one,han,hb3,b5,List.map_append,List.map_cons,List.map_nil,vals,List.all_append]
  ·simp (maxSteps:=999999) only [go_sem,simprocAttr,↓qT,↓qF,List.nil_append,app_len,nlt0,nltn,Nat.reduceLT,Nat.le_add_right,Nat.mul_one,han,hb3,b5,List.map_append,List.map_cons,List.map_nil,vals,List.all_append]
  ·simp (maxSteps:=999999) only [go_sem,simprocAttr,↓qT,↓qF,List.nil_append,app_len,nlt0,nltn,Nat.reduceLT,Nat.le_add_right,vals_cons,vals_nil,wc_val,wc_vals,Nat.mul_one,han,hb3,b5,List.map_append,List.map_cons,List.map_nil,vals,List.all_append]
end
theorem gV_dep (m:M) (x:Int):¬ (m.gV x).depth <= -1:=by
 have h3:=(slotRB_iff (m.gV_u x)).2.2.2
 omega
theorem lis_bw {asg body:DC} {a b:Nat} {h:List Blk} {m0:M} {K:Option Ex->U->List Blk->Prop} (hab:findRf df33.body=some (asg,body)) (H:IsMem h a b m0) (hc:clean h.length h=true) (hb:b<h.length) :
  ∀ (k:Nat) (x:Int) (m:M) (l:List Int) (c:Nat),l.length+k<=1000000000000->l.length<=c ->
   (∀ l' m2 p c' x',dsW (-1) k x m l=(some l',m2)->l'.length<=c'->(p=none\/p=some (.ext 0))->K p (lT a h.length,lLS .ns (.i .i64 0) l' c') (bhH h a b m2 x')) ->
   (∀ m2 l' c' x',dsW (-1) k x m l=(none,m2)->K (some .ret) (lT a h.length,lLS .ns (.i .i64 110) l' c') (bhH h a b m2 x')) ->
   bw (bhH h a b) (rndOf TLi.Γ [10,11] asg body) K k x m (lT a h.length,lLS .ns (.i .i64 0) l c)
 | 0,x,m,l,c,_,hlc,k1,k2=>by
  simp only [dsW,bw] at k1 k2 ⊢
  by_cases h0:x=0
  ·rw [if_pos h0] at k1 ⊢
   exact k1 _ _ _ _ _ rfl hlc (.inl rfl)
  ·rw [if_neg h0] at k2 ⊢
   intro K' hK
   refine lis_r0 hab _ fun p u' h' hh=>?_
   obtain ⟨rfl,rfl,rfl⟩:=hh
   exact hK _ _ _ (k2 _ _ _ _ rfl)
 | k+1,x,m,l,c,hl,hlc,k1,k2=>by
  simp only [dsW,bw] at k1 k2 ⊢
  by_cases h0:x=0
  ·rw [if_pos h0] at k1 ⊢
   exact k1 _ _ _ _ _ rfl hlc (.inl rfl)
  ·rw [if_neg h0] at k1 k2 ⊢
   by_cases hf:m.fE x=0
   ·rw [if_pos hf] at k1 k2 ⊢
    rw [if_neg (gV_dep m x)] at k1 k2
    intro K' hK
    have hln:=bhH_len (h:=h) (a:=a) (b:=b) (m.gX x) x
    have ha:=H.lta
    refine lis_r2 hab (bhH_clean H hc hb _ _) h0 (by omega) ⟨by omega,by omega,by omega⟩ _ fun p u' h' hh=>?_
    obtain ⟨rfl,⟨c',hc',rfl⟩,rfl⟩:=hh
    refine hK _ _ _ ⟨rfl, ?_⟩
    exact lis_bw hab H hc hb k _ _ _ _ (by simp only [List.length_append,List.length_cons,List.length_nil]; omega) (by simp only [List.length_append,List.length_cons,List.length_nil]; omega) k1 k2
   ·rw [if_neg hf] at k1 k2 ⊢
    intro K' hK
    refine lis_r0 hab _ fun p u' h' hh=>?_
    obtain ⟨rfl,rfl,rfl⟩:=hh
    exact hK _ _ _ (k2 _ _ _ _ rfl)
theorem lis_snd:Snd Tryz.prog 33 (FSpec.of lisG):=(fwp_sound (Tab.snd_Γ TLi_snd) mixed Tryz.func33 dc33).weaken fun args h K hc hS=>by
 refine fwp_runW (Tab.ok_Γ _) 200 ?_
 obtain ⟨a,b,m,rest,rfl,H,hS1⟩:=memF_spec (f:=lisM) hS
 clear hS
 have hS:=hS1
 clear hS1
 unfold lisM at hS
 split at hS
 ·simp (maxSteps:=999999) only [go_sem,simprocAttr,↓qT,↓qF,df33,TLi,firstG,firstM,memF_eq H,memF_set H,behG,setM_len,put,fillP,sub,EVt]
  refine more_wk (t':=lT a h.length) (ls':=lLS .ns (.i .i64 0) [] 0) (h':=bhH h a b m.fstX m.fst) (Wk.same (by rfl) (by rfl) (by simp only [go_sem,simprocAttr,↓qT,↓qF,lT])) ?_
  refine rf_rule (cs:=[(.g h.length,0),(.g (h.length+1),0)]) rfl rfl rfl rfl ?_
  refine behind1_is (m:=m.fstX) H ?_
  have hl0:m.fstX.w.length/4=m.w.length/4:=by first|rfl|(unfold M.fstX; split<;>rfl)
  rw [hl0]
  have hml:=m.l
  obtain ⟨N,hN⟩:∃ N,m.w.length/4=N:=⟨_,rfl⟩
  rw [hN] at hS ⊢
  have key:∀ l' m2 c' x',dsW (-1) N m.fst m.fstX []=(some l',m2)->l'.length<=c'->swp TLi.Γ h.length (fin h.length [.c 2 none, .c 3 none] K) [.c (.seq (.reg [⟨some 18, .ld (.t 4) none,none⟩,⟨none, .st (.t 2) (.t 18) 1,none⟩,⟨none, .st (.t 3) (.k (.s (.i .i64 0))) 1,none⟩]) .ret)] ⟨lT a h.length,lLS .ns (.i .i64 0) l' c',bhH h a b m2 x'⟩:=fun l' m2 c' x' e hlc=>by
   rw [e] at hS
   refine run_sound (Tab.ok_Γ _) 60 _ _ _ _ ?_
   have hcb:=bhH_clean H hc H.ltb m2 x'
   have hcm:clean h.length (setM h a b m2)=true:=setM_clean H hc H.ltb
   have hnb:h.length<=(bhH h a b m2 x').length:=by rw [bhH_len]; omega
   have hlm:(setM h a b m2).length=h.length:=setM_len
   cases l' with
   | nil =>
    simp only [dscR,spec_ok] at hS
    simp (maxSteps:=999999) only [go_sem,simprocAttr,↓qT,↓qF,lT,lLS,put,fillP,sub,EVt]
    refine fin_of (v:=.tup [.s .ns, .s (.i .i64 0)]) (ls:=[]) (h:=setM h a b m2) rfl (.trans (Wk.keep 0 (ls:=[]) (t':=[.tup [.s .ns, .s (.i .i64 0)]]) rfl rfl (by simp only [go_sem,simprocAttr,↓qT,↓qF]) (by rfl) (by rfl)) (Wk.keepH h.length (by unfold bhH; rw [<-hlm,List.take_left']; rfl) (Nat.le_of_eq hlm.symm) (by simp only [go_sem,simprocAttr,↓qT,↓qF]) (by rfl) (by rw [hlm]; exact hcm) (by rfl))) ?_
    simp (maxSteps:=999999) only [go_sem,simprocAttr,↓qT,↓qF]
    exact hS
   | cons y l' =>
    simp only [dscR,spec_all] at hS
    obtain ⟨B,hB⟩:∃ B,intsB (y::l')=B:=⟨_,rfl⟩
    obtain ⟨b1,b2,b3,b4,b5,b6⟩:=intsB_is (y::l')
    rw [hB] at b1 b2 b3 b4 b5 b6 hS
    have hb3:∀ a b,B.all (S.val a b)=true:=fun u v=>by have:=b3 u v; simpa only [vals] using this
    have hcq:=hcb
    have hnq:=hnb
    simp (maxSteps:=999999) only [go_sem,simprocAttr,↓qT,↓qF,lT,lLS,hB,put,fillP,sub,EVt]
    refine fin_of (v:=.tup [.s (.sl (.l 0) 0 (l'.length+1) c'), .s (.i .i64 0)]) (ls:=[⟨.rw,B,c'⟩]) (h:=setM h a b m2) rfl (.trans (s1:=⟨[.tup [.s (.sl (.l 0) 0 (l'.length+1) c'), .s (.i .i64 0)]],[⟨.rw,B,c'⟩],bhH h a b m2 x'⟩) ?_ (Wk.keepH h.length (by unfold bhH; rw [<-hlm,List.take_left']; rfl) (Nat.le_of_eq hlm.symm) (by simp only [go_sem,simprocAttr,↓qT,↓qF]) (by rfl) (by rw [hlm]; exact hcm) (by simp only [go_sem,simprocAttr,↓qT,↓qF,hb3]))) ?_
    ·refine Wk.sel [3] (by decide) hnq ?_ ?_ ?_ ?_ hcq (clean_pick hcq _)
     ·simp (maxSteps:=999999) only [go_sem,simprocAttr,↓qT,↓qF,List.nil_append,Blk.ren,V.ren,C.ren,S_ren,wc_ren,R.pick_g,R.pick_0,R.pick_s,List.map_append,wc_cons,wc_snoc,wc_nil,hb3,b5,result]
     ·simp (maxSteps:=999999) only [go_sem,simprocAttr,↓qT,↓qF,List.nil_append,Blk.ren,V.ren,C.ren,S_ren,wc_ren,R.pick_g,R.pick_0,R.pick_s,hb3,b5,result]
     ·simp (maxSteps:=999999) only [go_sem,simprocAttr,↓qT,↓qF,List.nil_append,app_len,nlt0,nltn,Nat.reduceLT,Nat.le_add_right,hb3,b5,result]
     ·simp (maxSteps:=999999) only [go_sem,simprocAttr,↓qT,↓qF,List.nil_append,app_len,nlt0,nltn,Nat.reduceLT,Nat.le_add_right,vals_cons,vals_nil,wc_val,wc_vals,hb3,b5,result]
    ·simp (maxSteps:=999999) only [go_sem,simprocAttr,↓qT,↓qF]
     refine ⟨[0],by simp,rfl, ?_⟩
     simp only [getAll,List.getElem?_cons_zero]
     refine ⟨?_, ?_⟩
     ·have hk:=intsB_kept [0] (y::l')
      rw [hB] at hk
      simp only [List.all_cons,List.all_nil,hk,decide_true,Bool.and_true]
     ·refine cast ?_ (hS c' (by simpa using hlc))
      simp only [V.ren,C.ren,S.ren,R.prom,List.map_cons,List.map_nil,Blk.ren,b5,spec_ok,hlm,List.idxOf,List.findIdx,List.findIdx.go,beq_self_eq_true,cond_true,Nat.add_zero,setM_len]
  refine lis_bw rfl H hc H.ltb _ _ _ _ 0 (by simp only [List.length_nil]; omega) (Nat.le_refl _) ?_ ?_
  ·intro l' m2 p c' x' e hlc hp
   rcases hp with rfl|rfl
   ·simp only [Option.getD_none]
    unfold swp
    exact key _ _ _ _ e hlc
   ·simp only [Option.getD_some,swx,if_true]
    exact key _ _ _ _ e hlc
  ·intro m2 l' c' x' e
   simp only [Option.getD_some]
   rw [e] at hS
   simp only [dscR,spec_ok] at hS
   have hcm:clean h.length (setM h a b m2)=true:=setM_clean H hc H.ltb
   have hlm:(setM h a b m2).length=h.length:=setM_len
   cases l'
   all_goals
    refine fin_of (v:=.tup [.s .ns, .s (.i .i64 110)]) (ls:=[]) (h:=setM h a b m2) rfl (.trans (Wk.keep 0 (ls:=[]) (t':=[.tup [.s .ns, .s (.i .i64 110)]]) rfl rfl (by simp only [go_sem,simprocAttr,↓qT,↓qF]) (by rfl) (by rfl)) (Wk.keepH h.length (by unfold bhH; rw [<-hlm,List.take_left']; rfl) (Nat.le_of_eq hlm.symm) (by simp only [go_sem,simprocAttr,↓qT,↓qF]) (by rfl) (by rw [hlm]; exact hcm) (by rfl))) ?_
    simp (maxSteps:=999999) only [go_sem,simprocAttr,↓qT,↓qF]
    exact hS
 ·exact hS.elim
end Go.Proofs.YtcdfofeolgbnbaaGreat

