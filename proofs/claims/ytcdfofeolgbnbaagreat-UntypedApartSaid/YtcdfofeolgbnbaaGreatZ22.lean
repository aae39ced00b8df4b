/- Package objs: threads,the document's. -/
import Derived.Test.YtcdfofeolgbnbaaGreatZ21
import Derived.Test.YtcdfofeolgbnbaaGreatZ11
import Derived.Test.YtcdfofeolgbnbaaGreatZ17
import Derived.Test.YtcdfofeolgbnbaaGreatZ19
import Derived.Test.YtcdfofeolgbnbaaGreatZ15
import Derived.Test.YtcdfofeolgbnbaaGreatZ14
/- Law 12: laid as a child; a cap set. -/
namespace Go.Proofs.YtcdfofeolgbnbaaGreat
open Go.D
set_option linter.all false
set_option maxRecDepth 100000
set_option maxHeartbeats 4000000

theorem insL_mem {p a x:Int}:∀ {L:List Int},x∈insL p a L->x=a\/x∈L
 | [],h=>by simp [insL] at h
 | y::L,h=>by
  unfold insL at h
  split at h
  ·rcases List.mem_cons.1 h with e|h
   ·exact .inr (by rw [e]; exact List.mem_cons_self)
   ·rcases List.mem_cons.1 h with e|h
    ·exact .inl e
    ·exact .inr (List.mem_cons_of_mem _ h)
  ·rcases List.mem_cons.1 h with e|h
   ·exact .inr (by rw [e]; exact List.mem_cons_self)
   ·exact (insL_mem h).imp id fun h=>List.mem_cons_of_mem _ h
theorem mem_insL {p a x:Int}:∀ {L:List Int},x∈L->x∈insL p a L
 | y::L,h=>by
  unfold insL
  split
  ·rcases List.mem_cons.1 h with e|h
   ·rw [e]; exact List.mem_cons_self
   ·exact List.mem_cons_of_mem _ (List.mem_cons_of_mem _ h)
  ·rcases List.mem_cons.1 h with e|h
   ·rw [e]; exact List.mem_cons_self
   ·exact List.mem_cons_of_mem _ (mem_insL h)
theorem a_insL {p a:Int}:∀ {L:List Int},p∈L->a∈insL p a L
 | y::L,h=>by
  unfold insL
  split
  ·simp
  ·rename_i e
   rcases List.mem_cons.1 h with h|h
   ·exact absurd h.symm e
   ·exact List.mem_cons_of_mem _ (a_insL h)


section
variable {m r:M} {L:List Int}
end

section
variable {m r:M} {L:List Int}
end
end Go.Proofs.YtcdfofeolgbnbaaGreat

/- Package objs: fields of a word. -/
namespace Go.Proofs.YtcdfofeolgbnbaaGreat
open Go.D
set_option linter.all false
set_option maxRecDepth 100000
set_option maxHeartbeats 8000000

structure Fi where
 b:Int
 n:Int
def Fi.c (f:Fi):List S:=[.i .i64 f.b, .i .i64 f.n]
theorem Fi.c_len (f:Fi):f.c.length=2:=rfl
instance:Cells Fi.c:=⟨⟨2,Fi.c_len⟩,fun x y e=>by
 obtain ⟨a,b⟩:=x
 obtain ⟨c,d⟩:=y
 simp only [Fi.c,List.cons.injEq,S.i.injEq,true_and,and_true] at e
 rw [e.1,e.2]⟩
def Fi.z:Fi:=⟨0,0⟩
def Fi.fd (f:Fi):Fd:=⟨f.b,IntKind.u64.wrap f.n⟩
theorem fd_u (f:Fi):u64 f.fd.v:=by
 show u64 (IntKind.u64.wrap f.n)
 rw [IntKind.wrap_u64]; simp only [u64]; omega
def posB (L:List Fi):Bool:=L.all fun f=>decide (0<=f.n)
def opB (L:List Fi):Bool:=posB L&&packB (L.map Fi.fd) 0
def opV (L:List Fi):Int:=if opB L then packV (L.map Fi.fd) 0 else 0
noncomputable def opackG:List V->List Blk->Res
 | [.s s],h=>match arrOf Fi.c h s with
  | some L=>.ob (L.length<=64) (.ok (.tup [.s (.i .u64 (opV L)), .s (.b (opB L))]) [] h)
  | none=>.bad
 | _,_=>.bad
def slF:List Fd->Nat->S
 | [],_=>.ns
 | _::M,c=>.sl (.l 0) 0 (M.length+1) c
def lsF:List Fd->Nat->List Blk
 | [],_=>[]
 | x::M,c=>[⟨.rw,arr Fd.c (x::M),c*2⟩]
section
variable (L:List Fd)
theorem fd_all {p:S->Bool} (hp:∀ k x,p (.i k x)=true):(arr Fd.c L).all p=true:=by
 rw [arr_all,List.all_eq_true]
 intro x _
 simp [Fd.c,hp]
theorem fd_known:known (arr Fd.c L)=true:=by unfold known; exact fd_all L fun _ _=>rfl
theorem fd_names (n:Nat):(arr Fd.c L).all (fun s=>!s.names n)=true:=fd_all L fun _ _=>rfl
theorem fd_below (n:Nat):(arr Fd.c L).all (S.below n)=true:=fd_all L fun _ _=>rfl
theorem fd_ren (ρ:R->R):(arr Fd.c L).map (S.ren ρ)=arr Fd.c L:=by
 induction L with
 | nil=>rfl
 | cons x L ih=>simp only [arr,List.map_append,ih]; rfl
theorem fd_len:(arr Fd.c L).length=L.length*2:=arr_length Fd.c_len L
end
theorem fd_snoc (L:List Fd) (x:Fd):arr Fd.c (L++[x])=arr Fd.c L++x.c:=by rw [arr_append]; simp [arr]
noncomputable def To1:Tab:=addT 140 packG (addT 88 unpackG (noT))
theorem To1_snd:To1.Snd Tryz.prog:=addT_snd ok140 pack_snd (addT_snd ok88 unpack_snd ((noT_snd _)))
theorem opack_snd:Snd Tryz.prog 198 (FSpec.of opackG):=snd_run To1_snd mixed Tryz.func198 dc198 200 fun args h K hc hS=>by
 unfold opackG at hS
 split at hS
 ·split at hS
  ·rename_i s _ L e
   obtain ⟨hl,hS⟩:=hS
   simp only [spec_ok] at hS
   have H1:=arrOf_some e
   have hlen:=fun ls h'=>H1.sl.len (ls:=ls) (h:=h')
   have hb1:∀ k,S.below k s=true:=H1.sl.below
   have hnm:=fun k=>H1.sl.names k
   have hp1:=fun l=>H1.sl.pick l
   have hv1:=fun k=>H1.sl.val (k:=h.length) (m:=k) (Nat.le_refl _)
   have hcq:=hc
   have hnq:h.length<=h.length:=Nat.le_refl _
   simp (maxSteps:=999999) only [go_sem,simprocAttr,↓qT,↓qF,df198,hlen]
   refine loop_rule (α:=Nat×Nat) [2,3,4,6,11,12,13,14,15,16,17,18,19,20,21,22,23,24,25,26,27] (fun x=>[(4, .s (slF ((L.take x.1).map Fi.fd) x.2)),(11, .s (.i .i64 x.1))]) (fun x=>lsF ((L.take x.1).map Fi.fd) x.2) (fun _=>h)
    (fun x=>x.1<=L.length/\posB (L.take x.1)=true/\x.1<=x.2) (fun x=>L.length-x.1) (0,0) ⟨Nat.zero_le _,rfl,Nat.le_refl _⟩ ?_ ?_
   ·refine Wk.same rfl rfl ?_
    simp (maxSteps:=999999) only [go_sem,simprocAttr,↓qT,↓qF,slF,Int.natCast_zero,List.map_nil,List.take_zero]
   ·rintro X ⟨i,cp⟩ ⟨hi,hp,hcp⟩ IH
    simp only at hi hp hcp IH ⊢
    rcases Nat.lt_or_ge i L.length with g1|g1
    ·obtain ⟨d1,d2,d3,d4⟩:=idx g1 (by omega)
     obtain ⟨j,c',st,room,hse,hj,hd⟩:=H1.at g1
     obtain ⟨y,hy⟩:∃ y,nth Fi.z L i=y:=⟨_,rfl⟩
     have hs:sub (arr Fi.c L) (i*2) 2=y.c:=by rw [<-hy,nth_eq g1]; exact arr_sub Fi.c_len g1
     have hle:i*2+2<=(arr Fi.c L).length:=by
      rw [arr_length Fi.c_len]
      have:(i+1)*2<=L.length*2:=Nat.mul_le_mul_right _ g1
      omega
     have hjl:j<h.length:=(List.getElem?_eq_some_iff.1 hj).1
     have hyL:L[i]=y:=by rw [<-hy,nth_eq g1]
     simp only [Fi.c] at hs
     have z2:L.length-(i+1)<L.length-i:=by omega
     by_cases c2:y.n<0
     ·have hB:opB L=false:=by
       have:posB L=false:=by
        rw [Bool.eq_false_iff]
        intro e
        simp only [posB,List.all_eq_true,decide_eq_true_eq] at e
        have:=e y (by rw [<-hyL]; exact List.getElem_mem _)
        omega
       simp [opB,this]
      have hV:opV L=0:=by simp [opV,hB]
      rw [hB,hV] at hS
      refine run_sound (Tab.ok_Γ _) 200 _ _ _ _ ?_
      simp (maxSteps:=999999) only [go_sem,simprocAttr,↓qT,↓qF,hse,d1,d2,d3,d4,hj,hd,hs,hle,c2,Int.toNat_natCast,put,fillP]
      exact hS
     ·have hpo:posB (L.take (i+1))=true:=by
       rw [List.take_succ_eq_append_getElem g1]
       simp only [posB,List.all_append,Bool.and_eq_true,List.all_cons,List.all_nil,Bool.and_true,decide_eq_true_eq] at hp ⊢
       exact ⟨hp,by rw [hyL]; omega⟩
      have hms:(L.take (i+1)).map Fi.fd=(L.take i).map Fi.fd++[y.fd]:=by
       rw [List.take_succ_eq_append_getElem g1,List.map_append,hyL]; rfl
      obtain ⟨M,hM⟩:∃ M,(L.take i).map Fi.fd=M:=⟨_,rfl⟩
      have hMl:M.length=i:=by rw [<-hM,List.length_map,List.length_take]; omega
      rw [hM] at hms ⊢
      cases M with
      | nil =>
       refine run_sound (Tab.ok_Γ _) 300 _ _ _ _ ?_
       simp (maxSteps:=999999) only [go_sem,simprocAttr,↓qT,↓qF,To1,hse,d1,d2,d3,d4,hj,hd,hs,hle,c2,slF,lsF,Int.toNat_natCast,put,fillP]
       intro c3 hc3
       refine IH (i+1,c3) _ z2 ⟨g1,hpo,by show i+1<=c3; simp only [List.length_nil] at hMl; omega⟩ ?_
       simp only
       rw [hms]
       simp only [List.nil_append]
       refine Wk.sel [2] (by decide) hnq ?_ ?_ ?_ ?_ hcq (clean_pick hcq _)
       ·simp (maxSteps:=999999) only [go_sem,simprocAttr,↓qT,↓qF,List.nil_append,Blk.ren,V.ren,C.ren,S_ren,wc_ren,R.pick_g,R.pick_0,R.pick_s,List.map_append,wc_cons,wc_snoc,wc_nil,slF,lsF,hjl,hse,hp1,hv1,arr,Fd.c,Fi.fd]
       ·simp (maxSteps:=999999) only [go_sem,simprocAttr,↓qT,↓qF,List.nil_append,Blk.ren,V.ren,C.ren,S_ren,wc_ren,R.pick_g,R.pick_0,R.pick_s,slF,lsF,hjl,hse,hp1,hv1,arr,Fd.c,Fi.fd]
       ·simp (maxSteps:=999999) only [go_sem,simprocAttr,↓qT,↓qF,List.nil_append,app_len,nlt0,nltn,Nat.reduceLT,Nat.le_add_right,slF,lsF,hjl,hse,hp1,hv1,arr,Fd.c,Fi.fd]
       ·simp (maxSteps:=999999) only [go_sem,simprocAttr,↓qT,↓qF,List.nil_append,app_len,nlt0,nltn,Nat.reduceLT,Nat.le_add_right,vals_cons,vals_nil,wc_val,wc_vals,slF,lsF,hjl,hse,hp1,hv1,arr,Fd.c,Fi.fd]
      | cons z M =>
       have hk2:=fd_known (z::M)
       have hn2:=fd_names (z::M)
       have hl2:=fd_len (z::M)
       have hsn:=fd_snoc (z::M) y.fd
       simp only [List.length_cons] at hMl hl2
       have hby:(M.length+1+1)*16<=140737488355328:=by omega
       have hcp2:M.length+1<=cp:=by omega
       simp only [Fd.c,Fi.fd,List.cons_append] at hsn
       refine run_sound (Tab.ok_Γ _) 300 _ _ _ _ ?_
       simp (maxSteps:=999999) only [go_sem,simprocAttr,↓qT,↓qF,To1,hse,d1,d2,d3,d4,hj,hd,hs,hle,c2,slF,lsF,hk2,hn2,hl2,hby,hcp2,hnm,Int.toNat_natCast,put,fillP]
       intro c3 hc3
       refine IH (i+1,c3) _ z2 ⟨g1,hpo,by show i+1<=c3; omega⟩ ?_
       simp only
       rw [hms]
       refine Wk.keep 1 ?_ rfl ?_ ?_ ?_
       all_goals simp (maxSteps:=999999) only [go_sem,simprocAttr,↓qT,↓qF,hse,hsn,slF,lsF,hb1,fd_below,List.cons_append,List.all_append,List.length_append,List.take_succ_cons,List.take_zero,Fi.fd,Fd.c]
    ·have hiL:i=L.length:=by omega
     subst hiL
     have g2:¬ ((L.length:Int)<L.length):=Int.lt_irrefl _
     rw [List.take_length] at hp ⊢
     obtain ⟨M,hM⟩:∃ M,L.map Fi.fd=M:=⟨_,rfl⟩
     have hMl:M.length=L.length:=by rw [<-hM,List.length_map]
     have hB:opB L=packB M 0:=by simp only [opB,hp,Bool.true_and,hM]
     have hV:opV L=if packB M 0 then packV M 0 else 0:=by simp only [opV,hB,hM]
     rw [hB,hV] at hS
     rw [hM]
     cases M with
     | nil =>
      simp only [packB,packV,if_true] at hS
      refine run_sound (Tab.ok_Γ _) 300 _ _ _ _ ?_
      simp (maxSteps:=999999) only [go_sem,simprocAttr,↓qT,↓qF,To1,g2,slF,lsF,packG]
      exact hS
     | cons z M =>
      have hu:∀ f,f∈z::M->u64 f.v:=fun f hf=>by
       rw [<-hM] at hf
       obtain ⟨x,_,rfl⟩:=List.mem_map.1 hf
       exact fd_u x
      have hdf:=decF_arr (z::M)
      have hts:List.take M.length M=M:=List.take_length
      have hl9:M.length+1<=9223372036854775807:=by simp only [List.length_cons] at hMl; omega
      have hl8:M.length+1<=(z::M).length:=Nat.le_refl _
      cases hb:packB (z::M) 0 with
      | true =>
       simp only [hb,if_true] at hS
       refine run_sound (Tab.ok_Γ _) 300 _ _ _ _ ?_
       simp (maxSteps:=999999) only [go_sem,simprocAttr,↓qT,↓qF,To1,g2,slF,lsF,packG,R.lend,R.unlend,S_ren,C.ren,V.ren,app_taken,app_dropn,app_take0,app_drop0,List.take_succ_cons,List.take_zero,List.drop_succ_cons,List.drop_zero,Nat.not_lt_zero,Nat.lt_irrefl,Nat.add_sub_cancel_left,Nat.not_lt,Nat.le_add_right,Blk.ren,fd_ren,↓hdf,hts,hl9,hl8,hu,hb]
       exact ⟨hu,hc,hS⟩
      | false =>
       simp only [hb,if_false,Bool.false_eq_true] at hS
       refine run_sound (Tab.ok_Γ _) 300 _ _ _ _ ?_
       simp (maxSteps:=999999) only [go_sem,simprocAttr,↓qT,↓qF,To1,g2,slF,lsF,packG,R.lend,R.unlend,S_ren,C.ren,V.ren,app_taken,app_dropn,app_take0,app_drop0,List.take_succ_cons,List.take_zero,List.drop_succ_cons,List.drop_zero,Nat.not_lt_zero,Nat.lt_irrefl,Nat.add_sub_cancel_left,Nat.not_lt,Nat.le_add_right,Blk.ren,fd_ren,↓hdf,hts,hl9,hl8,hu,hb]
       exact ⟨hu,hc,hS⟩
  ·exact hS.elim
 ·exact hS.elim

def ic (l:List Int):List S:=l.map (S.i .i64)
section
variable (l:List Int)
end
def fI (b:Bool):Int:=if b then 1 else 0
def flagG:List V->List Blk->Res
 | [.s (.b q)],h=>.ok (.agg [.i .i64 1, .i .i64 (fI q)]) [] h
 | _,_=>.bad
theorem flag_snd:Snd Tryz.prog 199 (FSpec.of flagG):=snd_run (noT_snd _) mixed Tryz.func199 dc199 100 fun args h K hc hS=>by
 unfold flagG at hS
 split at hS
 ·rename_i q
  simp only [spec_ok,fI] at hS
  cases q
  ·simp (maxSteps:=999999) only [go_sem,simprocAttr,↓qT,↓qF,df199,put,fillP,sub,EVt]
   exact hS
  ·simp (maxSteps:=999999) only [go_sem,simprocAttr,↓qT,↓qF,df199,put,fillP,sub,EVt]
   exact hS
 ·exact hS.elim
def in3 (n a b:Int):Bool:=decide (a<=n)&&decide (n<=b)
def orinG:List V->List Blk->Res
 | [.s (.i .i64 n), .s (.i .i64 a), .s (.i .i64 b)],h=>.ok (.s (.b (in3 n a b))) [] h
 | _,_=>.bad
theorem orin_snd:Snd Tryz.prog 200 (FSpec.of orinG):=snd_run (noT_snd _) mixed Tryz.func200 dc200 100 fun args h K hc hS=>by
 unfold orinG at hS
 split at hS
 ·simp only [spec_ok,in3] at hS
  simp (maxSteps:=999999) only [go_sem,simprocAttr,↓qT,↓qF,df200]
  exact hS
 ·exact hS.elim
theorem in3_iff {n a b:Int}:in3 n a b=true↔a<=n/\n<=b:=by simp [in3]

def otB (m:M) (a n:Int):Bool:=decide (1024<=a/\a%n=0/\a+n<=m.w.length)
theorem otB_iff {m:M} {a n:Int}:otB m a n=true↔1024<=a/\a%n=0/\a+n<=m.w.length:=by simp [otB]
def otM (b:Nat) (m:M) (st:M->List Blk):List V->Res
 | [.s (.i .i64 a), .s (.i .i64 n)]=>.ob (0<n/\n<=64) (.ok (.s (.b (otB m a n))) [] (st m))
 | _=>.bad
noncomputable def otG:=memF otM
noncomputable def To2:Tab:=addT 150 wordsG (addT 189 thereG (noT))
theorem To2_snd:To2.Snd Tryz.prog:=addT_snd ok150 mwords_snd (addT_snd ok189 rthere_snd ((noT_snd _)))
theorem ot_snd:Snd Tryz.prog 183 (FSpec.of otG):=snd_run To2_snd mixed Tryz.func183 dc183 100 fun args h K hc hS=>by
 obtain ⟨a,b,m,rest,rfl,H,hS1⟩:=memF_spec hS
 clear hS
 have hS:=hS1
 clear hS1
 unfold otM at hS
 split at hS
 ·rename_i a n
  obtain ⟨hn,hS⟩:=hS
  simp only [spec_ok,setM_self H] at hS
  have hl:=m.l
  have w1:IntKind.i64.wrap ((m.w.length:Int)-n)=m.w.length-n:=wrap64 (by omega) (by omega)
  have hn0:n≠0:=by omega
  by_cases c1:1024<=a
  ·have ht:a.tmod n=a%n:=Int.tmod_eq_emod_of_nonneg (by omega)
   by_cases c2:a%n=0
   ·by_cases c3:a<=m.w.length-n
    ·rw [otB_iff.2 ⟨c1,c2,by omega⟩] at hS
     simp (maxSteps:=999999) only [go_sem,simprocAttr,↓qT,↓qF,df183,To2,wordsG,memF_eq H,wordsM,setM_self H,c1,hn0,ht,c2,w1,c3]
     exact hS
    ·have:otB m a n=false:=by simp only [otB,decide_eq_false_iff_not]; omega
     rw [this] at hS
     simp (maxSteps:=999999) only [go_sem,simprocAttr,↓qT,↓qF,df183,To2,wordsG,memF_eq H,wordsM,setM_self H,c1,hn0,ht,c2,w1,c3]
     exact hS
   ·have:otB m a n=false:=by simp only [otB,decide_eq_false_iff_not]; omega
    rw [this] at hS
    have c2':(a%n==0)=false:=by simpa using c2
    simp (maxSteps:=999999) only [go_sem,simprocAttr,↓qT,↓qF,df183,To2,wordsG,memF_eq H,wordsM,setM_self H,c1,hn0,ht,c2',w1]
    exact hS
  ·have:otB m a n=false:=by simp only [otB,decide_eq_false_iff_not]; omega
   rw [this] at hS
   simp (maxSteps:=999999) only [go_sem,simprocAttr,↓qT,↓qF,df183,To2,wordsG,memF_eq H,wordsM,setM_self H,c1,hn0]
   exact hS
 ·exact hS.elim
theorem rot_snd:Snd Tryz.prog 195 (FSpec.of otG):=snd_run To2_snd mixed Tryz.func195 dc195 100 fun args h K hc hS=>by
 obtain ⟨a,b,m,rest,rfl,H,hS1⟩:=memF_spec hS
 clear hS
 have hS:=hS1
 clear hS1
 unfold otM at hS
 split at hS
 ·rename_i a n
  obtain ⟨hn,hS⟩:=hS
  simp only [spec_ok,setM_self H] at hS
  have hl:=m.l
  have hn0:n≠0:=by omega
  cases hh:m.has a n with
  | false =>
   have hh2:=M.has_not hh
   have:otB m a n=false:=by simp only [otB,decide_eq_false_iff_not]; omega
   rw [this] at hS
   simp (maxSteps:=999999) only [go_sem,simprocAttr,↓qT,↓qF,df195,To2,thereG,memF_eq H,thereM,setM_self H,hh]
   exact hS
  | true =>
   have hh2:=M.has_iff.1 hh
   by_cases c1:1024<=a
   ·have ht:a.tmod n=a%n:=Int.tmod_eq_emod_of_nonneg (by omega)
    by_cases c2:a%n=0
    ·rw [otB_iff.2 ⟨c1,c2,by omega⟩] at hS
     simp (maxSteps:=999999) only [go_sem,simprocAttr,↓qT,↓qF,df195,To2,thereG,memF_eq H,thereM,setM_self H,hh,c1,hn0,ht,c2]
     exact hS
    ·have:otB m a n=false:=by simp only [otB,decide_eq_false_iff_not]; omega
     rw [this] at hS
     have c2':(a%n==0)=false:=by simpa using c2
     simp (maxSteps:=999999) only [go_sem,simprocAttr,↓qT,↓qF,df195,To2,thereG,memF_eq H,thereM,setM_self H,hh,c1,hn0,ht,c2']
     exact hS
   ·have:otB m a n=false:=by simp only [otB,decide_eq_false_iff_not]; omega
    rw [this] at hS
    simp (maxSteps:=999999) only [go_sem,simprocAttr,↓qT,↓qF,df195,To2,thereG,memF_eq H,thereM,setM_self H,hh,c1]
    exact hS
 ·exact hS.elim

noncomputable def To3:Tab:=addT 200 orinG (noT)
theorem To3_snd:To3.Snd Tryz.prog:=addT_snd ok200 orin_snd ((noT_snd _))
/-! ### Queue,SetQueue -/
def sml (n:Int):Prop:=n<9223372036854775808

theorem fi_lent {h X:List Blk} {k c room:Nat} {L:List Fi} {cells:List S} (hX:X[k]?=some ⟨.rw,cells,room⟩) (hc:cells=arr Fi.c L) (hn:0<L.length):arrOf Fi.c (h++X) (.sl (.g (h.length+k)) 0 L.length c)=some L :=
 arrOf_eq (.inr ⟨h.length+k,c, .rw,room,rfl,by rw [app_getn,hX,hc],fun _=>by simp⟩)
theorem nl0 {a k:Nat}:(a+k<a)=False:=by simp
/-! ### SetQueue -/
theorem fd_eq {b n:Int} (h:0<=n/\sml n):Fi.fd ⟨b,n⟩=⟨b,n⟩:=by
 have:IntKind.u64.wrap n=n:=wrapu h.1 (by have:=h.2; unfold sml at this; omega)
 simp only [Fi.fd,this]
theorem packB_cons {f:Fd} {L:List Fd} {k:Int}:packB (f::L) k=true↔(0<=k/\k<=63/\1<=f.b/\f.b<=64-k)/\f.v.toNat<2^f.b.toNat/\packB L (k+f.b)=true:=by
 simp only [packB,setB,fieldB,Bool.and_eq_true,decide_eq_true_eq,and_assoc]
theorem packB_nil {k:Int}:(packB [] k=true)=True:=by simp [packB]

/-! ### Signal,SetSignal -/

/-! ### SetSignal -/
end Go.Proofs.YtcdfofeolgbnbaaGreat

/- Package walk: entries,indices. -/
namespace Go.Proofs.YtcdfofeolgbnbaaGreat
open Go.D
set_option linter.all false
set_option maxRecDepth 100000
set_option maxHeartbeats 4000000

def bI (b:Bool):Int:=if b then 1 else 0
/-! ### bits -/
/-! ### package walk -/

/-! ### the document's -/
/-! ### indices -/

/-! ### a walk -/
end Go.Proofs.YtcdfofeolgbnbaaGreat

/- Package objs: registers,entries,roots,in code and document. -/
namespace Go.Proofs.YtcdfofeolgbnbaaGreat
open Go.D
set_option linter.all false
set_option maxRecDepth 100000
set_option maxHeartbeats 8000000

end Go.Proofs.YtcdfofeolgbnbaaGreat

/- Package objs: a thread's words. -/
namespace Go.Proofs.YtcdfofeolgbnbaaGreat
open Go.D
open Nat (reduceAdd reducePow reduceMul reduceSub reduceLeDiff reduceLT reduceEqDiff)
open Int (reduceNeg reduceLE reduceEq reduceNe reduceToNat)
open Go.D renaming istep → zy,pickR → zx,bin1R → zw,un1R → zv,eqS → zu,eq1 → zq,cmpS → zp,cmp1 → zj,isNil → zk,shows → zg,result → zZ,qT → zV,qF → zU
open List renaming set → zY,replicate → zX
open Option renaming map → zW
open Nat renaming reduceAdd → zQ,reducePow → yz,reduceMul → yy,reduceSub → yx,reduceLeDiff → yw,reduceLT → yv,reduceEqDiff → yu
open Int renaming reduceNeg → yq,reduceLE → yp,reduceEq → yj,reduceNe → yk,reduceToNat → yg,reducePow → yZ,reduceLT → yY,reduceAdd → yX,reduceSub → yW,reduceMul → yV,reduceBEq → yU,reduceBNe → yQ
set_option linter.all false
set_option maxRecDepth 100000
set_option maxHeartbeats 8000000

structure Th where
 st:Int
 pr:Int
 sl:Int
 qd:Bool
 pv:Int
 nx:Int
 bl:Int
 bg:Int
 cg:Bool
 ic:Bool
 bo:Int
 ha:Int
 fk:Int
 fa:Int
 rg:List Int
def Th.c (t:Th):List S:=.i .i64 t.st::.i .i64 t.pr::.i .i64 t.sl::.b t.qd::.i .i64 t.pv::.i .i64 t.nx::.i .i64 t.bl::.i .i64 t.bg::.b t.cg::.b t.ic::.i .i64 t.bo::.i .i64 t.ha::.i .i64 t.fk::.i .i64 t.fa::wc t.rg
def thF (f:Th->Res):List V->Res
 | [.agg (.i .i64 a::.i .i64 b::.i .i64 c::.b d::.i .i64 e::.i .i64 g::.i .i64 i::.i .i64 j::.b k::.b l::.i .i64 n::.i .i64 o::.i .i64 p::.i .i64 q::r)] =>
  match unwc r with
  | some v=>.ob (v.length=16) (f ⟨a,b,c,d,e,g,i,j,k,l,n,o,p,q,v⟩)
  | none=>.bad
 | _=>.bad
theorem thF_spec {f:Th->Res} {args:List V} {K:V->List Blk->Prop} (h:(thF f args).spec K):∃ t:Th,args=[.agg t.c]/\t.rg.length=16/\(f t).spec K:=by
 unfold thF at h
 split at h
 ·split at h
  ·rename_i v e
   obtain ⟨h1,h2⟩:=h
   exact ⟨⟨_,_,_,_,_,_,_,_,_,_,_,_,_,_,v⟩,by rw [wc_unwc e]; rfl,h1,h2⟩
  ·exact h.elim
 ·exact h.elim
theorem th_eta (t:Th):(⟨t.st,t.pr,t.sl,t.qd,t.pv,t.nx,t.bl,t.bg,t.cg,t.ic,t.bo,t.ha,t.fk,t.fa,t.rg⟩:Th)=t:=rfl
def Th.B (t:Th):Bool:=in3 t.pv 0 65535&&(in3 t.nx 0 65535&&(in3 t.bl 0 65535&&(in3 t.bo 0 65535&&(in3 t.st 0 5&&(in3 t.pr 0 255&&(in3 t.sl 0 5&&(in3 t.fk 0 3&&(in3 t.bg 0 268435455&&(in3 t.ha 0 4294967295&&in3 t.fa 0 4294967295)))))))))
theorem Th.B_iff {t:Th}:t.B=true↔(0<=t.pv/\t.pv<=65535)/\(0<=t.nx/\t.nx<=65535)/\(0<=t.bl/\t.bl<=65535)/\(0<=t.bo/\t.bo<=65535)/\(0<=t.st/\t.st<=5)/\(0<=t.pr/\t.pr<=255)/\(0<=t.sl/\t.sl<=5)/\(0<=t.fk/\t.fk<=3)/\(0<=t.bg/\t.bg<=268435455)/\(0<=t.ha/\t.ha<=4294967295)/\(0<=t.fa/\t.fa<=4294967295):=by
 simp only [Th.B,Bool.and_eq_true,in3_iff]
def Th.h0 (t:Th):Int:=t.st+8*t.pr+2048*t.sl+16384*bI t.qd+32768*bI t.cg+65536*bI t.ic+131072*t.fk
def Th.h1 (t:Th):Int:=t.pv+65536*t.nx+4294967296*t.bl+281474976710656*t.bo
def Th.h3 (t:Th):Int:=t.ha+4294967296*t.fa
theorem bI_u (b:Bool):0<=bI b/\bI b<=1:=by cases b<;>decide
theorem Th.h_u {t:Th} (h:t.B=true):u64 t.h0/\u64 t.h1/\u64 t.bg/\u64 t.h3:=by
 have:=Th.B_iff.1 h
 have b1:=bI_u t.qd
 have b2:=bI_u t.cg
 have b3:=bI_u t.ic
 simp only [u64,Th.h0,Th.h1,Th.h3]; omega
def thBG (args:List V) (h:List Blk):Res:=thF (fun t=>.ok (.s (.b t.B)) [] h) args
def thHG (args:List V) (h:List Blk):Res:=thF (fun t=>.ob (t.B=true) (.ok (.agg [.i .u64 t.h0, .i .u64 t.h1, .i .u64 t.bg, .i .u64 t.h3]) [] h)) args
theorem wc_take {L:List Int} (h:L.length=16):List.take 16 (wc L)=wc L:=by rw [List.take_of_length_le]; rw [wc_len]; omega
theorem thB_snd:Snd Tryz.prog 196 (FSpec.of thBG):=snd_run To3_snd mixed Tryz.func196 dc196 200 fun args h K hc hS=>by
 obtain ⟨t,rfl,hl,hR⟩:=thF_spec hS
 clear hS
 simp only [spec_ok,Th.B] at hR
 simp only [Th.c]
 have w1:=wc_known t.rg
 simp (maxSteps:=999999) only [EV0,zy,zx,zw,zv,zu,zq,zp,zj,zk,leT,zg,rvC,zZ,zY,zX,zW,↓zV,↓zU,reduceCtorEq,zQ,yz,yZ,yy,yx,yw,yv,yu,yq,yY,yp,yj,yk,yX,yW,yV,yg,yU,yQ,df196,To3,orinG,w1,Bool.and_assoc,sub,put,fillP,EVt]
 exact hR
def bitG:List V->List Blk->Res
 | [.s (.b q)],h=>.ok (.s (.i .u64 (bI q))) [] h
 | _,_=>.bad
theorem bit_snd:Snd Tryz.prog 201 (FSpec.of bitG):=snd_run (noT_snd _) mixed Tryz.func201 dc201 100 fun args h K hc hS=>by
 unfold bitG at hS
 split at hS
 ·rename_i q
  simp only [spec_ok,bI] at hS
  cases q
  ·simp (maxSteps:=999999) only [EV0,zy,zx,zw,zv,zu,zq,zp,zj,zk,leT,zg,rvC,zZ,zY,zX,zW,↓zV,↓zU,reduceCtorEq,zQ,yz,yZ,yy,yx,yw,yv,yu,yq,yY,yp,yj,yk,yX,yW,yV,yg,yU,yQ,df201]
   exact hS
  ·simp (maxSteps:=999999) only [EV0,zy,zx,zw,zv,zu,zq,zp,zj,zk,leT,zg,rvC,zZ,zY,zX,zW,↓zV,↓zU,reduceCtorEq,zQ,yz,yZ,yy,yx,yw,yv,yu,yq,yY,yp,yj,yk,yX,yW,yV,yg,yU,yQ,df201]
   exact hS
 ·exact hS.elim
noncomputable def To8:Tab:=addT 201 bitG (noT)
theorem To8_snd:To8.Snd Tryz.prog:=addT_snd ok201 bit_snd ((noT_snd _))
theorem thH_snd:Snd Tryz.prog 197 (FSpec.of thHG):=snd_run To8_snd mixed Tryz.func197 dc197 200 fun args h K hc hS=>by
 obtain ⟨t,rfl,hl,hB,hR⟩:=thF_spec hS
 clear hS
 have hb:=Th.B_iff.1 hB
 have b1:=bI_u t.qd
 have b2:=bI_u t.cg
 have b3:=bI_u t.ic
 simp only [spec_ok,Th.h0,Th.h1,Th.h3] at hR
 simp only [Th.c]
 have w1:=wc_known t.rg
 obtain ⟨q,hq⟩:∃ q,bI t.qd=q:=⟨_,rfl⟩
 obtain ⟨g,hg⟩:∃ q,bI t.cg=q:=⟨_,rfl⟩
 obtain ⟨i,hi⟩:∃ q,bI t.ic=q:=⟨_,rfl⟩
 rw [hq] at b1
 rw [hg] at b2
 rw [hi] at b3
 rw [hq,hg,hi] at hR
 have m3:min 3 IntKind.u64.bits=3:=rfl
 have m11:min 11 IntKind.u64.bits=11:=rfl
 have m14:min 14 IntKind.u64.bits=14:=rfl
 have m15:min 15 IntKind.u64.bits=15:=rfl
 have m16:min 16 IntKind.u64.bits=16:=rfl
 have m17:min 17 IntKind.u64.bits=17:=rfl
 have m32:min 32 IntKind.u64.bits=32:=rfl
 have m48:min 48 IntKind.u64.bits=48:=rfl
 have y1:IntKind.u64.wrap t.st=t.st:=wrapu (by omega) (by omega)
 have y2:IntKind.u64.wrap t.pr=t.pr:=wrapu (by omega) (by omega)
 have y3:IntKind.u64.wrap (t.pr*8)=t.pr*8:=wrapu (by omega) (by omega)
 have y4:IntKind.u64.wrap (t.st+t.pr*8)=t.st+t.pr*8:=wrapu (by omega) (by omega)
 have y5:IntKind.u64.wrap t.sl=t.sl:=wrapu (by omega) (by omega)
 have y6:IntKind.u64.wrap (t.sl*2048)=t.sl*2048:=wrapu (by omega) (by omega)
 have y7:IntKind.u64.wrap (t.st+t.pr*8+t.sl*2048)=t.st+t.pr*8+t.sl*2048:=wrapu (by omega) (by omega)
 have y8:IntKind.u64.wrap (q*16384)=q*16384:=wrapu (by omega) (by omega)
 have y9:IntKind.u64.wrap (t.st+t.pr*8+t.sl*2048+q*16384)=t.st+t.pr*8+t.sl*2048+q*16384:=wrapu (by omega) (by omega)
 have y10:IntKind.u64.wrap (g*32768)=g*32768:=wrapu (by omega) (by omega)
 have y11:IntKind.u64.wrap (t.st+t.pr*8+t.sl*2048+q*16384+g*32768)=t.st+t.pr*8+t.sl*2048+q*16384+g*32768:=wrapu (by omega) (by omega)
 have y12:IntKind.u64.wrap (i*65536)=i*65536:=wrapu (by omega) (by omega)
 have y13:IntKind.u64.wrap (t.st+t.pr*8+t.sl*2048+q*16384+g*32768+i*65536)=t.st+t.pr*8+t.sl*2048+q*16384+g*32768+i*65536:=wrapu (by omega) (by omega)
 have y14:IntKind.u64.wrap t.fk=t.fk:=wrapu (by omega) (by omega)
 have y15:IntKind.u64.wrap (t.fk*131072)=t.fk*131072:=wrapu (by omega) (by omega)
 have y16:IntKind.u64.wrap (t.st+t.pr*8+t.sl*2048+q*16384+g*32768+i*65536+t.fk*131072)=t.st+8*t.pr+2048*t.sl+16384*q+32768*g+65536*i+131072*t.fk:=by rw [wrapu (by omega) (by omega)]; omega
 have z1:IntKind.u64.wrap t.pv=t.pv:=wrapu (by omega) (by omega)
 have z2:IntKind.u64.wrap t.nx=t.nx:=wrapu (by omega) (by omega)
 have z3:IntKind.u64.wrap (t.nx*65536)=t.nx*65536:=wrapu (by omega) (by omega)
 have z4:IntKind.u64.wrap (t.pv+t.nx*65536)=t.pv+t.nx*65536:=wrapu (by omega) (by omega)
 have z5:IntKind.u64.wrap t.bl=t.bl:=wrapu (by omega) (by omega)
 have z6:IntKind.u64.wrap (t.bl*4294967296)=t.bl*4294967296:=wrapu (by omega) (by omega)
 have z7:IntKind.u64.wrap (t.pv+t.nx*65536+t.bl*4294967296)=t.pv+t.nx*65536+t.bl*4294967296:=wrapu (by omega) (by omega)
 have z8:IntKind.u64.wrap t.bo=t.bo:=wrapu (by omega) (by omega)
 have z9:IntKind.u64.wrap (t.bo*281474976710656)=t.bo*281474976710656:=wrapu (by omega) (by omega)
 have z10:IntKind.u64.wrap (t.pv+t.nx*65536+t.bl*4294967296+t.bo*281474976710656)=t.pv+65536*t.nx+4294967296*t.bl+281474976710656*t.bo:=by rw [wrapu (by omega) (by omega)]; omega
 have v1:IntKind.u64.wrap t.bg=t.bg:=wrapu (by omega) (by omega)
 have v2:IntKind.u64.wrap t.ha=t.ha:=wrapu (by omega) (by omega)
 have v3:IntKind.u64.wrap t.fa=t.fa:=wrapu (by omega) (by omega)
 have v4:IntKind.u64.wrap (t.fa*4294967296)=t.fa*4294967296:=wrapu (by omega) (by omega)
 have v5:IntKind.u64.wrap (t.ha+t.fa*4294967296)=t.ha+4294967296*t.fa:=by rw [wrapu (by omega) (by omega)]; omega
 simp (maxSteps:=999999) only [EV0,zy,zx,zw,zv,zu,zq,zp,zj,zk,leT,zg,rvC,zZ,zY,zX,zW,↓zV,↓zU,reduceCtorEq,zQ,yz,yZ,yy,yx,yw,yv,yu,yq,yY,yp,yj,yk,yX,yW,yV,yg,yU,yQ,df197,To8,bitG,w1,hq,hg,hi,m3,m11,m14,m15,m16,m17,m32,m48,y1,y2,y3,y4,y5,y6,y7,y8,y9,y10,y11,y12,y13,y14,y15,y16,z1,z2,z3,z4,z5,z6,z7,z8,z9,z10,v1,v2,v3,v4,v5,sub,put,fillP,EVt]
 exact hR
end Go.Proofs.YtcdfofeolgbnbaaGreat

/- Package objs: threads,the document's. -/
namespace Go.Proofs.YtcdfofeolgbnbaaGreat
open Go.D
set_option linter.all false
set_option maxRecDepth 100000
set_option maxHeartbeats 8000000

def M.wrs (m:M) (o:Nat) (ws:List Int):Nat->M
 | 0=>m
 | k+1=>((m.wrs o ws k).put (o+k) (nth 0 ws k)).tick 1
theorem M.wrs_len (m:M) (o:Nat) (ws:List Int):∀ k,(m.wrs o ws k).w.length=m.w.length
 | 0=>rfl
 | k+1=>by rw [M.wrs,M.tick_len,M.put_len,M.wrs_len m o ws k]
theorem M.wrs_has (m:M) (o:Nat) (ws:List Int) (k:Nat) (j n:Int):(m.wrs o ws k).has j n=m.has j n:=by simp only [M.has,M.wrs_len]
theorem M.wrs_at (m:M) (o:Nat) (ws:List Int) (hu:∀ v,v∈ws->u64 v) (j:Int):∀ k,k<=ws.length->o+k<=m.w.length->(m.wrs o ws k).at j=if o<=j.toNat/\j.toNat<o+k then nth 0 ws (j.toNat-o) else m.at j
 | 0,_,_=>by rw [if_neg (by omega)]; rfl
 | k+1,h,h2=>by
  have hx:u64 (nth 0 ws k):=by rw [nth_eq h]; exact hu _ (List.getElem_mem _)
  rw [M.wrs,M.at_tick,M.at_put,M.wrs_len,M.wrs_at m o ws hu j k (by omega) (by omega)]
  by_cases c:o+k=j.toNat
  ·rw [if_pos ⟨c,by omega⟩,if_pos (by omega),uw_of hx,<-c,Nat.add_sub_cancel_left]
  ·rw [if_neg (by omega)]
   by_cases c2:o<=j.toNat/\j.toNat<o+k
   ·rw [if_pos c2,if_pos (by omega)]
   ·rw [if_neg c2,if_neg (by omega)]
def M.thE (m:M) (x:Int) (t:Th):Int:=if otB m x 64 then (if t.B then 0 else 90) else 20
def M.thX (m:M) (x:Int) (t:Th):M:=if otB m x 64&&t.B then (m.wrs (x+16).toNat [t.h0,t.h1,t.bg,t.h3] 4).wrs (x+32).toNat t.rg 16 else m
def Th.up (t:Th):Prop:=sml t.st/\sml t.pr/\sml t.sl/\sml t.pv/\sml t.nx/\sml t.bl/\sml t.bg/\sml t.bo/\sml t.ha/\sml t.fk/\sml t.fa
def tsetM (b:Nat) (m:M) (st:M->List Blk):List V->Res
 | [.s (.i .i64 a),x]=>thF (fun t=>.ob (t.up/\∀ v,v∈t.rg->u64 v) (.ok (.s (.i .i64 (m.thE a t))) [] (st (m.thX a t)))) [x]
 | _=>.bad
noncomputable def tsetG:=memF tsetM
theorem put_all':∀ (v X P:List S),X.length=v.length->put (P++X) P.length v=P++v
 | [],X,P,h=>by
  have:X=[]:=List.length_eq_zero_iff.1 h
  subst this; rfl
 | x::v,[],P,h=>by cases h
 | x::v,y::X,P,h=>by
  have h2:=put_all' v X (P++[x]) (by simpa using h)
  simp only [List.append_assoc,List.cons_append,List.nil_append,List.length_append,List.length_cons,List.length_nil] at h2
  rw [put,<-h2]
  congr 1
  simp
theorem get14 {c0 c1 c2 c3 c4 c5 c6 c7 c8 c9 c10 c11 c12 c13:S} {X:List S} {i:Nat}:(c0::c1::c2::c3::c4::c5::c6::c7::c8::c9::c10::c11::c12::c13::X)[14+i]?=X[i]?:=by rw [Nat.add_comm]; rfl
noncomputable def To9:Tab:=addT 195 otG (addT 179 readG (addT 175 writeG (addT 196 thBG (addT 197 thHG (noT)))))
theorem To9_snd:To9.Snd Tryz.prog:=addT_snd ok195 rot_snd (addT_snd ok179 rread_snd (addT_snd ok175 rwrite_snd (addT_snd ok196 thB_snd (addT_snd ok197 thH_snd ((noT_snd _))))))
theorem rtset_snd':Snd Tryz.prog 182 (FSpec.of tsetG):=snd_run To9_snd mixed Tryz.func182 dc182 300 fun args h K hc hS=>by
 obtain ⟨a,b,m,rest,rfl,H,hS1⟩:=memF_spec hS
 clear hS
 have hS:=hS1
 clear hS1
 unfold tsetM at hS
 split at hS
 ·rename_i x y
  obtain ⟨t,e,hrl,⟨hup,hru⟩,hR⟩:=thF_spec hS
  clear hS
  simp only [List.cons.injEq,and_true] at e
  subst e
  simp only [spec_ok,M.thE,M.thX] at hR
  have n4:(0:Int)<64/\(64:Int)<=64:=by decide
  have k1:=wc_known t.rg
  have k2:(wc t.rg).all S.noL=true:=wc_all (fun _=>rfl) _
  have k3:(wc t.rg).length=16:=by rw [wc_len,hrl]
  simp only [Th.c]
  cases ht:otB m x 64 with
  | false =>
   simp only [ht,Bool.false_and,Bool.false_eq_true,if_false,setM_self H] at hR
   simp (maxSteps:=999999) only [go_sem,simprocAttr,↓qT,↓qF,df182,To9,otG,memF_eq H,otM,n4,setM_self H,ht,k1,k2]
   exact hR
  | true =>
   have hb:=otB_iff.1 ht
   have hl:=m.l
   cases hB:t.B with
   | false =>
    simp only [ht,hB,Bool.true_and,Bool.false_eq_true,if_true,if_false,setM_self H] at hR
    simp (maxSteps:=999999) only [go_sem,simprocAttr,↓qT,↓qF,df182,To9,otG,memF_eq H,otM,n4,setM_self H,ht,k1,k2,k3,thBG,thF,unwc_wc,hrl,th_eta,hB,wc_take hrl,sub,EVt]
    exact hR
   | true =>
    simp only [ht,hB,Bool.true_and,if_true] at hR
    obtain ⟨i,rfl⟩:∃ i:Nat,x=i:=⟨x.toNat,by omega⟩
    obtain ⟨o,ho⟩:∃ o,i+16=o:=⟨_,rfl⟩
    obtain ⟨o2,ho2⟩:∃ o,i+32=o:=⟨_,rfl⟩
    have e1:IntKind.i64.wrap ((i:Int)+16)=(o:Int):=by rw [wrap64 (by omega) (by omega)]; omega
    have e2:IntKind.i64.wrap ((i:Int)+32)=(o2:Int):=by rw [wrap64 (by omega) (by omega)]; omega
    rw [show ((i:Int)+16).toNat=o by omega,show ((i:Int)+32).toNat=o2 by omega] at hR
    obtain ⟨u0,u1,u2,u3⟩:=Th.h_u hB
    obtain ⟨ws,hws⟩:∃ ws,[t.h0,t.h1,t.bg,t.h3]=ws:=⟨_,rfl⟩
    have hwl:ws.length=4:=by rw [<-hws]; rfl
    have hwu:∀ v,v∈ws->u64 v:=by
     rw [<-hws]
     intro v hv
     simp only [List.mem_cons,List.not_mem_nil,or_false] at hv
     rcases hv with rfl|rfl|rfl|rfl<;>assumption
    have hwc:[S.i .u64 t.h0,S.i .u64 t.h1,S.i .u64 t.bg,S.i .u64 t.h3]=wc ws:=by rw [<-hws]; rfl
    rw [hws] at hR
    simp (maxSteps:=999999) only [go_sem,simprocAttr,↓qT,↓qF,df182,To9,otG,memF_eq H,otM,n4,setM_self H,ht,k1,k2,k3,thBG,thHG,thF,unwc_wc,hrl,th_eta,hB,wc_take hrl,put,fillP,sub,EVt]
    refine loop_rule (α:=Nat) [10,23,24,25,26,27,28,29,30,31,32,33,34,35] (fun q=>[(10, .s (.i .i64 q))]) (fun q=>[⟨.rw,t.c,30⟩,⟨.rw,wc ws,4⟩]) (fun q=>setM h a b (m.wrs o ws q)) (fun q=>q<=4) (fun q=>4-q) 0 (by omega) ?_ ?_
    ·rw [M.wrs,setM_self H,<-hwc]
     refine Wk.same rfl rfl ?_
     simp (maxSteps:=999999) only [go_sem,simprocAttr,↓qT,↓qF,Int.natCast_zero]
    ·rintro X q hq IH
     rcases Nat.lt_or_ge q 4 with h1|h1
     ·have d1:((q:Int)<4):=by omega
      have d3:(0:Int)<=q:=by omega
      have d4:IntKind.i64.wrap ((q:Int)+1)=((q+1:Nat):Int):=by rw [wrap64 (by omega) (by omega)]; omega
      have w1:IntKind.i64.wrap ((o:Int)+q)=((o+q:Nat):Int):=by rw [wrap64 (by omega) (by omega)]; omega
      have h0:m.has ((o+q:Nat):Int) 1=true:=M.has_of (by omega)
      have g:=wc_get (w:=ws) (i:=q) (by omega)
      have hu:u64 (nth 0 ws q):=by rw [nth_eq (by omega)]; exact hwu _ (List.getElem_mem _)
      refine run_sound (Tab.ok_Γ _) 100 _ _ _ _ ?_
      simp (maxSteps:=999999) only [go_sem,simprocAttr,↓qT,↓qF,To9,e1,d1,d3,d4,w1,writeG,memF_set H,writeM,M.wrs_has,h0,h1,g,hu,Int.toNat_natCast]
      exact IH (q+1) _ (by omega) (by omega) (Wk.same rfl rfl (by simp only [go_sem,simprocAttr,↓qT,↓qF]))
     ·have:q=4:=by omega
      subst this
      clear IH
      refine run_sound (Tab.ok_Γ _) 100 _ _ _ _ ?_
      simp (maxSteps:=999999) only [go_sem,simprocAttr,↓qT,↓qF,Int.lt_irrefl]
      refine loop_rule (α:=Nat) [11,36,37,38,39,40,41,42,43,44,45,46,47,48,49] (fun q=>[(11, .s (.i .i64 q))]) (fun q=>[⟨.rw,t.c,30⟩,⟨.rw,wc ws,4⟩]) (fun q=>setM h a b ((m.wrs o ws 4).wrs o2 t.rg q)) (fun q=>q<=16) (fun q=>16-q) 0 (by omega) ?_ ?_
      ·refine Wk.same rfl rfl ?_
       simp (maxSteps:=999999) only [go_sem,simprocAttr,↓qT,↓qF,Int.natCast_zero]
      ·rintro X q hq IH
       simp only [Th.c]
       rcases Nat.lt_or_ge q 16 with h1|h1
       ·have d1:((q:Int)<16):=by omega
        have d3:(0:Int)<=q:=by omega
        have d4:IntKind.i64.wrap ((q:Int)+1)=((q+1:Nat):Int):=by rw [wrap64 (by omega) (by omega)]; omega
        have w1:IntKind.i64.wrap ((o2:Int)+q)=((o2+q:Nat):Int):=by rw [wrap64 (by omega) (by omega)]; omega
        have h0:m.has ((o2+q:Nat):Int) 1=true:=M.has_of (by omega)
        have g:=wc_get (w:=t.rg) (i:=q) (by omega)
        have hu:u64 (nth 0 t.rg q):=by rw [nth_eq (by omega)]; exact hru _ (List.getElem_mem _)
        refine run_sound (Tab.ok_Γ _) 100 _ _ _ _ ?_
        simp (maxSteps:=999999) only [go_sem,simprocAttr,↓qT,↓qF,To9,e2,d1,d3,d4,w1,writeG,memF_set H,writeM,M.wrs_has,h0,h1,g,get14,hu,k3,Int.toNat_natCast]
        exact IH (q+1) _ (by omega) (by omega) (Wk.same rfl rfl (by simp only [go_sem,simprocAttr,↓qT,↓qF]))
       ·have:q=16:=by omega
        subst this
        clear IH
        refine run_sound (Tab.ok_Γ _) 100 _ _ _ _ ?_
        simp (maxSteps:=999999) only [go_sem,simprocAttr,↓qT,↓qF,Int.lt_irrefl]
        exact hR
 ·exact hS.elim
end Go.Proofs.YtcdfofeolgbnbaaGreat

