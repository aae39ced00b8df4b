/- Package cdt: full,listed,turn,join,whatever words lie there. -/
import Derived.Test.YtcdfofeolgbnbaaGreatZ18
import Derived.Test.YtcdfofeolgbnbaaGreatZ11
/- Slots: what was put is got; the plain facts. -/
namespace Go.Proofs.YtcdfofeolgbnbaaGreat
open Go.D
set_option linter.all false
set_option maxRecDepth 100000
set_option maxHeartbeats 4000000

theorem M.putS_len (m:M) (a:Int) (s:Slot):(m.putS a s).w.length=m.w.length:=by simp only [M.putS,M.tick_len,M.put_len]
theorem M.putS_there (m:M) (a b:Int) (s:Slot):thereB (m.putS a s) b=thereB m b:=by simp only [thereB,M.putS_len]
theorem uw_0:uw 0=0:=rfl
theorem M.at_putS {m:M} {a:Int} {s:Slot} (ht:thereB m a=true) (hr:slotRB s=true) {j:Int} (hj:0<=j) :
  (m.putS a s).at j=if j=a then s.cap.w0 else if j=a+1 then s.cap.num else if j=a+2 then s.links else if j=a+3 then 0 else m.at j:=by
 have hb:=there_iff.1 ht
 obtain ⟨u0,u1,_,_⟩:=enc_back (slotRB_iff hr).1
 have u2:=links_u hr
 simp only [M.putS,M.at_tick,M.at_put,M.put_len,uw_of u0,uw_of u1,uw_of u2,uw_0]
 by_cases h0:j=a
 ·subst h0
  rw [if_neg (by omega),if_neg (by omega),if_neg (by omega),if_pos (by omega),if_pos rfl]
 ·rw [if_neg h0]
  by_cases h1:j=a+1
  ·subst h1
   rw [if_neg (by omega),if_neg (by omega),if_pos (by omega),if_pos rfl]
  ·rw [if_neg h1]
   by_cases h2:j=a+2
   ·subst h2
    rw [if_neg (by omega),if_pos (by omega),if_pos rfl]
   ·rw [if_neg h2]
    by_cases h3:j=a+3
    ·subst h3
     rw [if_pos (by omega),if_pos rfl]
    ·rw [if_neg h3,if_neg (by omega),if_neg (by omega),if_neg (by omega),if_neg (by omega)]
theorem slot_back {s:Slot} (hr:slotRB s=true):slotB s.cap.w0 s.cap.num s.links 0=true/\slotC s.cap.w0 s.cap.num s.links=s:=by
 obtain ⟨rc,h1,h2,h3⟩:=slotRB_iff hr
 obtain ⟨_,_,e1,e2⟩:=enc_back rc
 have e:slotC s.cap.w0 s.cap.num s.links=s:=by
  obtain ⟨c,p,n,d⟩:=s
  simp only at h1 h2 h3 e2
  simp only [slotC,e2,Slot.links,Slot.mk.injEq,true_and]
  omega
 refine ⟨?_,e⟩
 have hl:s.links/281474976710656=0:=by simp only [Slot.links]; omega
 simp only [slotB,e1,e,hr,hl,decide_true,Bool.true_and,beq_self_eq_true,Bool.and_true]
theorem M.putS_slot {m:M} {a:Int} {s:Slot} (ht:thereB m a=true) (hr:slotRB s=true):(m.putS a s).slotB a=true/\(m.putS a s).slotC a=s:=by
 have hb:=there_iff.1 ht
 simp only [M.slotB,M.slotC]
 rw [M.at_putS ht hr (by omega),M.at_putS ht hr (by omega),M.at_putS ht hr (by omega),M.at_putS ht hr (by omega)]
 simp only [if_true]
 rw [if_neg (by omega),if_neg (by omega),if_neg (by omega),if_neg (by omega),if_neg (by omega),if_neg (by omega)]
 exact slot_back hr
theorem M.putS_other {m:M} {a b:Int} {s:Slot} (ht:thereB m a=true) (hr:slotRB s=true) (hb:thereB m b=true) (hn:a≠b):(m.putS a s).slotB b=m.slotB b/\(m.putS a s).slotC b=m.slotC b:=by
 have h1:=there_iff.1 ht
 have h2:=there_iff.1 hb
 rw [Int.tmod_eq_emod_of_nonneg (by omega)] at h1 h2
 have e:∀ k:Int,0<=k->k<=3->(m.putS a s).at (b+k)=m.at (b+k):=fun k h3 h4=>by
  rw [M.at_putS ht hr (by omega),if_neg (by omega),if_neg (by omega),if_neg (by omega),if_neg (by omega)]
 have e0:=e 0 (by omega) (by omega)
 rw [Int.add_zero] at e0
 simp only [M.slotB,M.slotC,e0,e 1 (by omega) (by omega),e 2 (by omega) (by omega),e 3 (by omega) (by omega),and_self]

noncomputable def keptF (f:Int->Int->Int->Nat->M->(M->List Blk)->List V->Res):List V->List Blk->Res
 | .agg [.i .i64 x, .i .i64 y, .i .i64 z]::rest,h=>memF (f x y z) rest h
 | _,_=>.bad
theorem keptF_spec {f:Int->Int->Int->Nat->M->(M->List Blk)->List V->Res} {args:List V} {h:List Blk} {K:V->List Blk->Prop} (hS:(keptF f args h).spec K) :
  ∃ x y z a b m rest,args=.agg [.i .i64 x, .i .i64 y, .i .i64 z]::.s (.p (.g a) 0)::rest/\IsMem h a b m/\(f x y z b m (setM h a b) rest).spec K:=by
 unfold keptF at hS
 split at hS
 ·obtain ⟨a,b,m,rest,rfl,H,hS⟩:=memF_spec hS
  exact ⟨_,_,_,a,b,m,rest,rfl,H,hS⟩
 ·exact hS.elim

def keptB (words least:Int) (m:M) (n:Int):Bool:=decide (least<=n)&&(n.tmod words==0&&decide (n<=IntKind.i64.wrap (m.w.length-words)))
def mayM (at_ words least:Int) (b:Nat) (m:M) (st:M->List Blk):List V->Res
 | [.s (.i .i64 n)]=>.ob (words≠0) (.ok (.s (.b (keptB words least m n))) [] (st m))
 | _=>.bad
noncomputable def mayG:=keptF mayM
noncomputable def TMw:Tab:=addT 150 wordsG noT
theorem TMw_snd:TMw.Snd Tryz.prog:=addT_snd ok150 mwords_snd (noT_snd _)
theorem may_snd:Snd Tryz.prog 188 (FSpec.of mayG):=snd_run TMw_snd mixed Tryz.func188 dc188 100 fun args h K hc hS=>by
 obtain ⟨x,y,z,a,b,m,rest,rfl,H,hS1⟩:=keptF_spec hS
 clear hS
 unfold mayM at hS1
 split at hS1
 ·rename_i n
  simp only [spec_ok,spec_ob,setM_self H,keptB] at hS1
  obtain ⟨hy,hS⟩:=hS1
  have hy:¬ y=0:=hy
  by_cases c1:z<=n
  ·cases c2:n.tmod y==0
   ·simp (maxSteps:=999999) only [go_sem,simprocAttr,↓qT,↓qF,df188,TMw,wordsG,memF_eq H,wordsM,setM_self H,hy,c1,c2,sub,EVt]
    simpa [c1,c2] using hS
   ·have c3:n.tmod y=0:=by simpa using c2
    simp (maxSteps:=999999) only [go_sem,simprocAttr,↓qT,↓qF,df188,TMw,wordsG,memF_eq H,wordsM,setM_self H,hy,c1,c2,c3,sub,EVt]
    simpa [c1,c3] using hS
  ·simp (maxSteps:=999999) only [go_sem,simprocAttr,↓qT,↓qF,df188,TMw,wordsG,memF_eq H,wordsM,setM_self H,hy,c1,sub,EVt]
   simpa [c1] using hS
 ·exact hS1.elim

def setM_ (at_ words least:Int) (b:Nat) (m:M) (st:M->List Blk):List V->Res
 | [.s (.i .i64 n)]=>.ob (words≠0) (.br (n==0||keptB words least m n)
   (.br (m.has at_ 1) (.ok (.s (.i .i64 0)) [] (st ((m.put at_.toNat (IntKind.u64.wrap n)).tick 1))) (.ok (.s (.i .i64 20)) [] (st m)))
   (.ok (.s (.i .i64 20)) [] (st m)))
 | _=>.bad
noncomputable def setG_:=keptF setM_
noncomputable def TKs:Tab:=addT 188 mayG (addT 141 writeG (addT 86 readG noT))
theorem TKs_snd:TKs.Snd Tryz.prog:=addT_snd ok188 may_snd (addT_snd ok141 mwrite_snd (addT_snd ok86 mread_snd (noT_snd _)))
theorem wrapu_u (n:Int):u64 (IntKind.u64.wrap n):=by rw [IntKind.wrap_u64]; simp only [u64]; omega
theorem kset_snd:Snd Tryz.prog 143 (FSpec.of setG_):=snd_run TKs_snd mixed Tryz.func143 dc143 100 fun args h K hc hS=>by
 obtain ⟨x,y,z,a,b,m,rest,rfl,H,hS1⟩:=keptF_spec hS
 clear hS
 unfold setM_ at hS1
 split at hS1
 ·rename_i n
  simp only [spec_ok,spec_ob,spec_br,setM_self H] at hS1
  obtain ⟨hy,hS⟩:=hS1
  have hy:¬ y=0:=hy
  have hu:=wrapu_u n
  by_cases c1:n=0
  ·cases hh:m.has x 1
   ·have hS:=(hS.1 (by simp [c1])).2 hh
    simp (maxSteps:=999999) only [go_sem,simprocAttr,↓qT,↓qF,df143,TKs,mayG,keptF,writeG,memF_eq H,writeM,mayM,setM_self H,hy,c1,hh,hu,sub,EVt,wrapu_u]
    exact hS
   ·have hS:=(hS.1 (by simp [c1])).1 hh
    simp (maxSteps:=999999) only [go_sem,simprocAttr,↓qT,↓qF,df143,TKs,mayG,keptF,writeG,memF_eq H,writeM,mayM,setM_self H,hy,c1,hh,hu,sub,EVt,wrapu_u]
    simpa [c1] using hS
  ·cases c2:keptB y z m n
   ·have hS:=hS.2 (by simp [c1,c2])
    simp (maxSteps:=999999) only [go_sem,simprocAttr,↓qT,↓qF,df143,TKs,mayG,keptF,writeG,memF_eq H,writeM,mayM,setM_self H,hy,c1,c2,hu,sub,EVt]
    exact hS
   ·cases hh:m.has x 1
    ·have hS:=(hS.1 (by simp [c2])).2 hh
     simp (maxSteps:=999999) only [go_sem,simprocAttr,↓qT,↓qF,df143,TKs,mayG,keptF,writeG,memF_eq H,writeM,mayM,setM_self H,hy,c1,c2,hh,hu,sub,EVt]
     exact hS
    ·have hS:=(hS.1 (by simp [c2])).1 hh
     simp (maxSteps:=999999) only [go_sem,simprocAttr,↓qT,↓qF,df143,TKs,mayG,keptF,writeG,memF_eq H,writeM,mayM,setM_self H,hy,c1,c2,hh,hu,sub,EVt]
     exact hS
 ·exact hS1.elim

def keptV (words least:Int) (m:M) (w:Int):Int:=if w<=65535/\keptB words least m (IntKind.i64.wrap w)=true then IntKind.i64.wrap w else 0
def getM_ (at_ words least:Int) (b:Nat) (m:M) (st:M->List Blk):List V->Res
 | []=>.ob (words≠0) (.br (m.has at_ 1) (.ok (.s (.i .i64 (keptV words least m (m.at at_)))) [] (st (m.tick 1))) (.ok (.s (.i .i64 (keptV words least m 0))) [] (st m)))
 | _=>.bad
noncomputable def getG_:=keptF getM_
theorem keptB_tick (y z:Int) (m:M) (k n:Int):keptB y z (m.tick k) n=keptB y z m n:=rfl
theorem kget_snd:Snd Tryz.prog 161 (FSpec.of getG_):=snd_run TKs_snd mixed Tryz.func161 dc161 100 fun args h K hc hS=>by
 obtain ⟨x,y,z,a,b,m,rest,rfl,H,hS1⟩:=keptF_spec hS
 clear hS
 unfold getM_ at hS1
 split at hS1
 ·simp only [spec_ok,spec_ob,spec_br,setM_self H] at hS1
  obtain ⟨hy,hS⟩:=hS1
  have hy:¬ y=0:=hy
  cases hh:m.has x 1
  ·have hS:=hS.2 hh
   have w0:IntKind.i64.wrap 0=0:=by decide
   cases c2:keptB y z m 0
   ·simp only [keptV,w0,c2,Bool.false_eq_true,and_false,if_false] at hS
    simp (maxSteps:=999999) only [go_sem,simprocAttr,↓qT,↓qF,df161,TKs,mayG,keptF,readG,memF_eq H,readM,mayM,setM_self H,hy,c2,hh,w0,sub,EVt]
    exact hS
   ·simp only [keptV,w0,c2,if_true,and_true] at hS
    rw [if_pos (by omega)] at hS
    simp (maxSteps:=999999) only [go_sem,simprocAttr,↓qT,↓qF,df161,TKs,mayG,keptF,readG,memF_eq H,readM,mayM,setM_self H,hy,c2,hh,w0,sub,EVt]
    exact hS
  ·have hS:=hS.1 hh
   by_cases c1:m.at x<=65535
   ·have c3:¬ (65535<m.at x):=by omega
    cases c2:keptB y z m (IntKind.i64.wrap (m.at x))
    ·simp only [keptV,c1,c2,Bool.false_eq_true,and_false,if_false] at hS
     simp (maxSteps:=999999) only [go_sem,simprocAttr,↓qT,↓qF,df161,TKs,mayG,keptF,readG,memF_eq H,memF_set H,readM,mayM,setM_self H,hy,c2,c3,hh,keptB_tick,sub,EVt]
     exact hS
    ·simp only [keptV,c1,c2,and_self,if_true] at hS
     simp (maxSteps:=999999) only [go_sem,simprocAttr,↓qT,↓qF,df161,TKs,mayG,keptF,readG,memF_eq H,memF_set H,readM,mayM,setM_self H,hy,c2,c3,hh,keptB_tick,sub,EVt]
     exact hS
   ·have c3:65535<m.at x:=by omega
    simp only [keptV,c1,false_and,if_false] at hS
    simp (maxSteps:=999999) only [go_sem,simprocAttr,↓qT,↓qF,df161,TKs,mayG,keptF,readG,memF_eq H,memF_set H,readM,mayM,setM_self H,hy,c3,hh,keptB_tick,sub,EVt]
    exact hS
 ·exact hS1.elim


def M.gE (m:M) (a:Int):Int:=if thereB m a=true then (if m.slotB a=true then 0 else 110) else 20
def M.gV (m:M) (a:Int):Slot:=if thereB m a=true/\m.slotB a=true then m.slotC a else slotZ
def M.gX (m:M) (a:Int):M:=if thereB m a=true then m.tick 4 else m
def M.pE (m:M) (a:Int) (s:Slot):Int:=if thereB m a=true then (if slotRB s=true then 0 else 110) else 20
def M.pX (m:M) (a:Int) (s:Slot):M:=if thereB m a=true/\slotRB s=true then m.putS a s else m
def get2M (b:Nat) (m:M) (st:M->List Blk):List V->Res
 | [.s (.i .i64 a)]=>.ok (.tup [.agg (m.gV a).cl, .s (.i .i64 (m.gE a))]) [] (st (m.gX a))
 | _=>.bad
noncomputable def get2G:=memF get2M
def put2M (b:Nat) (m:M) (st:M->List Blk):List V->Res
 | [.s (.i .i64 a),x]=>slotF (fun s=>.ok (.s (.i .i64 (m.pE a s))) [] (st (m.pX a s))) [x]
 | _=>.bad
noncomputable def put2G:=memF put2M
theorem get2_of {args:List V} {h:List Blk} {K:V->List Blk->Prop} (hS:(get2G args h).spec K):(getSG args h).spec K:=by
 obtain ⟨a,b,m,rest,rfl,H,hS⟩:=memF_spec hS
 unfold getSG
 rw [memF_eq H]
 unfold get2M at hS
 split at hS
 ·rename_i x
  simp only [spec_ok,M.gE,M.gV,M.gX] at hS
  simp only [getSM,spec_br,spec_ok]
  refine ⟨fun ht=>⟨fun hb=>?_,fun hb=>?_⟩,fun ht=>?_⟩
  ·simpa [ht,hb] using hS
  ·simpa [ht,hb] using hS
  ·simpa [ht] using hS
 ·exact hS.elim
theorem put2_of {args:List V} {h:List Blk} {K:V->List Blk->Prop} (hS:(put2G args h).spec K):(putSG args h).spec K:=by
 obtain ⟨a,b,m,rest,rfl,H,hS⟩:=memF_spec hS
 unfold putSG
 rw [memF_eq H]
 unfold put2M at hS
 split at hS
 ·rename_i x y
  obtain ⟨s,e,hS2⟩:=slotF_spec hS
  simp only [List.cons.injEq,and_true] at e
  subst e
  simp only [spec_ok,M.pE,M.pX] at hS2
  simp only [putSM]
  show (slotF _ [.agg s.cl]).spec K
  simp only [slotF,Slot.cl,slot_eta,spec_br,spec_ok]
  refine ⟨fun ht=>⟨fun hb=>?_,fun hb=>?_⟩,fun ht=>?_⟩
  ·simpa [ht,hb] using hS2
  ·simpa [ht,hb] using hS2
  ·simpa [ht] using hS2
 ·exact hS.elim
theorem get2_snd:Snd Tryz.prog 26 (FSpec.of get2G):=getS_snd.weaken fun _ _ _ _ hS=>get2_of hS
theorem rget2_snd:Snd Tryz.prog 126 (FSpec.of get2G):=rgetS_snd.weaken fun _ _ _ _ hS=>get2_of hS
theorem put2_snd:Snd Tryz.prog 79 (FSpec.of put2G):=putS_snd.weaken fun _ _ _ _ hS=>put2_of hS
theorem rput2_snd:Snd Tryz.prog 118 (FSpec.of put2G):=rputS_snd.weaken fun _ _ _ _ hS=>put2_of hS
def M.eB (m:M) (a:Int):Bool:=if m.gE a=0 then (m.gV a).isZ else false
def empty2M (b:Nat) (m:M) (st:M->List Blk):List V->Res
 | [.s (.i .i64 a)]=>.ok (.tup [.s (.b (m.eB a)), .s (.i .i64 (m.gE a))]) [] (st (m.gX a))
 | _=>.bad
noncomputable def empty2G:=memF empty2M
theorem empty2_of {args:List V} {h:List Blk} {K:V->List Blk->Prop} (hS:(empty2G args h).spec K):(emptySG args h).spec K:=by
 obtain ⟨a,b,m,rest,rfl,H,hS⟩:=memF_spec hS
 unfold emptySG
 rw [memF_eq H]
 unfold empty2M at hS
 split at hS
 ·rename_i x
  simp only [spec_ok,M.eB,M.gE,M.gV,M.gX] at hS
  simp only [emptySM,spec_br,spec_ok]
  refine ⟨fun ht=>⟨fun hb=>?_,fun hb=>?_⟩,fun ht=>?_⟩
  ·simpa [ht,hb] using hS
  ·simpa [ht,hb] using hS
  ·simpa [ht] using hS
 ·exact hS.elim
theorem empty2_snd:Snd Tryz.prog 125 (FSpec.of empty2G):=emptyS_snd.weaken fun _ _ _ _ hS=>empty2_of hS
theorem M.gV_u (m:M) (a:Int):slotRB (m.gV a)=true:=by
 unfold M.gV
 split
 ·rename_i h
  have:=h.2
  simp only [M.slotB,_root_.Go.Proofs.YtcdfofeolgbnbaaGreat.slotB,Bool.and_eq_true] at this
  exact this.2.2.2
 ·decide
theorem M.gV_null {m:M} {a:Int} (h:(m.gV a).cap.ty=0):m.gV a=slotZ:=by
 have:=slot_null (m.gV_u a)
 rw [h] at this
 exact Slot.isZ_iff.1 this.symm
def M.fst (m:M):Int:=keptV 4 4 m (if m.has 2 1=true then m.at 2 else 0)
def M.fstX (m:M):M:=if m.has 2 1=true then m.tick 1 else m
def M.sfE (m:M) (n:Int):Int:=if (n==0||keptB 4 4 m n)=true/\m.has 2 1=true then 0 else 20
def M.sfX (m:M) (n:Int):M:=if (n==0||keptB 4 4 m n)=true/\m.has 2 1=true then (m.put 2 (IntKind.u64.wrap n)).tick 1 else m
def firstM (b:Nat) (m:M) (st:M->List Blk):List V->Res
 | []=>.ok (.s (.i .i64 m.fst)) [] (st m.fstX)
 | _=>.bad
noncomputable def firstG:=memF firstM
def setFirstM (b:Nat) (m:M) (st:M->List Blk):List V->Res
 | [.s (.i .i64 n)]=>.ok (.s (.i .i64 (m.sfE n))) [] (st (m.sfX n))
 | _=>.bad
noncomputable def setFirstG:=memF setFirstM
def hfirstG:List V->List Blk->Res
 | [],h=>.ok (.agg [.i .i64 2, .i .i64 4, .i .i64 4]) [] h
 | _,_=>.bad
theorem hfirst_snd:Snd Tryz.prog 142 (FSpec.of hfirstG):=snd_run (noT_snd _) mixed Tryz.func142 dc142 100 fun args h K hc hS=>by
 unfold hfirstG at hS
 split at hS
 ·simp only [spec_ok] at hS
  simp (maxSteps:=999999) only [go_sem,simprocAttr,↓qT,↓qF,df142,put,fillP,sub,EVt]
  exact hS
 ·exact hS.elim
noncomputable def THf:Tab:=addT 142 hfirstG (addT 143 setG_ (addT 161 getG_ (noT)))
theorem THf_snd:THf.Snd Tryz.prog:=addT_snd ok142 hfirst_snd (addT_snd ok143 kset_snd (addT_snd ok161 kget_snd ((noT_snd _))))
theorem first_snd:Snd Tryz.prog 100 (FSpec.of firstG):=snd_run THf_snd mixed Tryz.func100 dc100 100 fun args h K hc hS=>by
 obtain ⟨a,b,m,rest,rfl,H,hS1⟩:=memF_spec hS
 clear hS
 have hS:=hS1
 clear hS1
 unfold firstM at hS
 split at hS
 ·simp only [spec_ok,M.fst,M.fstX] at hS
  cases hh:m.has 2 1
  ·simp only [hh,Bool.false_eq_true,if_false,setM_self H] at hS
   simp (maxSteps:=999999) only [go_sem,simprocAttr,↓qT,↓qF,df100,THf,hfirstG,getG_,keptF,memF_eq H,getM_,setM_self H,hh]
   exact hS
  ·simp only [hh,if_true] at hS
   simp (maxSteps:=999999) only [go_sem,simprocAttr,↓qT,↓qF,df100,THf,hfirstG,getG_,keptF,memF_eq H,getM_,setM_self H,hh]
   exact hS
 ·exact hS.elim
theorem setFirst_snd:Snd Tryz.prog 80 (FSpec.of setFirstG):=snd_run THf_snd mixed Tryz.func80 dc80 100 fun args h K hc hS=>by
 obtain ⟨a,b,m,rest,rfl,H,hS1⟩:=memF_spec hS
 clear hS
 have hS:=hS1
 clear hS1
 unfold setFirstM at hS
 split at hS
 ·rename_i n
  simp only [spec_ok,M.sfE,M.sfX] at hS
  cases c1:(n==0||keptB 4 4 m n)
  ·simp only [c1,Bool.false_eq_true,false_and,if_false,setM_self H] at hS
   simp only [Bool.or_eq_false_iff,beq_eq_false_iff_ne,ne_eq] at c1
   simp (maxSteps:=999999) only [go_sem,simprocAttr,↓qT,↓qF,df80,THf,hfirstG,setG_,keptF,memF_eq H,setM_,setM_self H,c1]
   exact hS
  ·cases hh:m.has 2 1
   ·simp only [hh,Bool.false_eq_true,and_false,if_false,setM_self H] at hS
    simp only [Bool.or_eq_true,beq_iff_eq] at c1
    simp (maxSteps:=999999) only [go_sem,simprocAttr,↓qT,↓qF,df80,THf,hfirstG,setG_,keptF,memF_eq H,setM_,setM_self H,c1,hh]
    exact hS
   ·simp only [c1,hh,and_self,if_true] at hS
    simp only [Bool.or_eq_true,beq_iff_eq] at c1
    simp (maxSteps:=999999) only [go_sem,simprocAttr,↓qT,↓qF,df80,THf,hfirstG,setG_,keptF,memF_eq H,setM_,setM_self H,c1,hh]
    exact hS
 ·exact hS.elim

theorem rfill_snd:Snd Tryz.prog 149 (FSpec.of fillG):=snd_run TSp_snd mixed Tryz.func149 dc149 100 fun args h K hc hS=>by
 obtain ⟨a,b,m,rest,rfl,H,hS1⟩:=memF_spec hS
 clear hS
 have hS:=hS1
 clear hS1
 unfold fillM at hS
 split at hS
 ·rename_i x k v
  simp only [spec_ob,spec_ok,spec_br,setM_self H] at hS
  obtain ⟨hv,hS⟩:=hS
  cases hh:m.has x k with
  | true =>
   have hS:=hS.1 hh
   obtain ⟨i,j,rfl,rfl,hij⟩:=M.has_nat hh
   simp only [Int.toNat_natCast] at hS
   have hl:=m.l
   simp (maxSteps:=999999) only [go_sem,simprocAttr,↓qT,↓qF,df149,TSp,thereG,memF_eq H,thereM,setM_self H,hh,Int.toNat_natCast]
   refine loop_rule (α:=Nat) [10,17,18,19,20,21,22,23,24,25,26,27,28,29,30] (fun q=>[(10, .s (.i .i64 q))]) (fun _=>[]) (fun q=>h.set b ⟨.rw,wc (m.fill i v q).w,m.w.length⟩) (fun q=>q<=j) (fun q=>j-q) 0 (by omega) ?_ ?_
   ·simp only [M.fill]
    rw [show (⟨.rw,wc m.w,m.w.length⟩:Blk)=MW m from rfl,set_self H.hb]
    refine Wk.less ?_
    simp (maxSteps:=999999) only [go_sem,simprocAttr,↓qT,↓qF,q_cast,Int.natCast_zero]
   ·rintro X q hq IH
    have ha:=H.ha'
    rcases Nat.lt_or_ge q j with h1|h1
    ·obtain ⟨d1,d2,d3,d4⟩:=idx h1 (by omega)
     have c3:(h.set b ⟨BK.rw,wc (m.fill i v q).w,m.w.length⟩)[b]?=some ⟨BK.rw,wc (m.fill i v q).w,m.w.length⟩:=set_hit H.hb
     have c4:i+q+1<=(wc (m.fill i v q).w).length:=by rw [wc_len,M.fill_len]; omega
     have c5:((wc (m.fill i v q).w).set (i+q) (S.i .u64 v))=wc (m.fill i v (q+1)).w:=by rw [wc_set]; simp only [M.fill,M.put,uw_of hv]
     have w1:IntKind.i64.wrap ((i:Int)+q)=((i+q:Nat):Int):=by rw [wrap64]<;>omega
     have d5:((i+q:Nat):Int)<m.w.length:=by omega
     have d6:(0:Int)<=((i+q:Nat):Int):=by omega
     refine run_sound (Tab.ok_Γ _) 100 _ _ _ _ ?_
     simp (maxSteps:=999999) only [go_sem,simprocAttr,↓qT,↓qF,d1,d2,d3,d4,d5,d6,w1,c3,ha,MB,MW,c4,Int.toNat_natCast,put,c5,List.set_set]
     exact IH (q+1) _ (by omega) (by omega) (Wk.same rfl rfl (by simp only [go_sem,simprocAttr,↓qT,↓qF]))
    ·have:q=j:=by omega
     subst this
     refine run_sound (Tab.ok_Γ _) 100 _ _ _ _ ?_
     simp (maxSteps:=999999) only [go_sem,simprocAttr,↓qT,↓qF,Int.lt_irrefl,ha,MB]
     refine cast (congrArg (K _) ?_) hS
     simp only [setM]
     rw [List.set_comm _ _ H.ne]
     simp only [MW,MB,M.tick,M.fill_len,M.fill_n]
  | false =>
   have hS:=hS.2 hh
   simp (maxSteps:=999999) only [go_sem,simprocAttr,↓qT,↓qF,df149,TSp,thereG,memF_eq H,thereM,setM_self H,hh]
   exact hS
 ·exact hS.elim

theorem M.fill_at (m:M) (a:Nat) (x:Int) (j:Int) (k:Nat) (h:a+k<=m.w.length):(m.fill a x k).at j=if a<=j.toNat/\j.toNat<a+k then uw x else m.at j:=by
 rw [M.at_fill]
 by_cases h1:a<=j.toNat/\j.toNat<a+k
 ·rw [if_pos (by omega),if_pos h1]
 ·rw [if_neg (by omega),if_neg h1]
theorem wrap_add (a b c:Int):IntKind.i64.wrap (IntKind.i64.wrap (a+b)+c)=IntKind.i64.wrap (a+(b+c)):=by
 rw [IntKind.wrap_i64,IntKind.wrap_i64,IntKind.wrap_i64]; omega
/-! ### the specs without choices -/


theorem memF_new1A {f:Nat->M->(M->List Blk)->List V->Res} {h X:List Blk} {m k:M} {rest:List V}:memF f (.s (.p (.g h.length) 0)::rest) (memH (memH h m) k++X)=f (h.length+1) m (fun m=>memH (memH h m) k++X) rest:=by
 rw [memF_app0 (memH_is1 h m k),show setM (memH (memH h m) k) h.length (h.length+1)=fun m=>memH (memH h m) k from funext (memH_set1 h m k)]
theorem memF_new2A {f:Nat->M->(M->List Blk)->List V->Res} {h X:List Blk} {m k:M} {rest:List V}:memF f (.s (.p (.g (h.length+2)) 0)::rest) (memH (memH h m) k++X)=f (h.length+3) k (fun k=>memH (memH h m) k++X) rest:=by
 rw [memF_app0 (memH_is2 h m k),show setM (memH (memH h m) k) (h.length+2) (h.length+3)=memH (memH h m) from funext (memH_set2 h m k)]

section
variable {h X:List Blk} {m:M} {k:Nat}
theorem memH_clean (hc:clean h.length h=true):clean (h.length+2) (memH h m)=true:=by
 refine clean_app hc (by omega) ?_
 simp only [clean,List.all_cons,List.all_nil,Bool.and_true,Bool.and_eq_true,MB,MW,wc_vals]
 simp [vals,S.val,R.val]
theorem listOf_at {H:List Blk} {j c room:Nat} {st:BK} {vs:List Int} {n:Nat} (hj:H[j]?=some ⟨st,wc vs,room⟩) (hs:st≠.dead) (hn:vs.length=n):listOf H (.sl (.g j) 0 n c)=some vs:=by
 subst hn; exact listOf_eq (IsList.whole hj hs)
end

section
variable {h X:List Blk} {m n:M} {k:Nat}
end

section
variable {h X:List Blk} {m n m' n':M} {k:Nat} {B:Blk}
theorem setM_1:setM (memH (memH h m) n++X) h.length (h.length+1) m'=memH (memH h m') n++X:=by rw [setM_app (memH_is1 h m n),memH_set1]
theorem setM_2:setM (memH (memH h m) n++X) (h.length+2) (h.length+3) n'=memH (memH h m) n'++X:=by rw [setM_app (memH_is2 h m n),memH_set2]
end

def M.loadE (m:M) (x:Int) (vs:List Int):Int:=if m.has x vs.length then 0 else 20
def M.loadX (m:M) (x:Int) (vs:List Int):M:=if m.has x vs.length then m.lay x.toNat vs else m
noncomputable def load2G:List V->List Blk->Res
 | [.s (.p (.g a) 0), .s (.i .i64 x), .s s],h=>match memOf h a,listOf h s with
  | some (b,m),some vs=>.ob (apartS b s/\∀ v,v∈vs->u64 v) (.ok (.s (.i .i64 (m.loadE x vs))) [] (setM h a b (m.loadX x vs)))
  | _,_=>.bad
 | _,_=>.bad

theorem load2_snd:Snd Tryz.prog 64 (FSpec.of load2G):=mload_snd.weaken fun args h K hc hS=>by
 have hS:(load2G args h).spec K:=hS
 unfold load2G at hS
 split at hS
 ·rename_i a x s
  split at hS
  ·rename_i b m vs e1 e2
   obtain ⟨hp,hS⟩:=hS
   simp only [spec_ok,M.loadE,M.loadX] at hS
   show Res.spec K (loadG _ h)
   simp only [loadG,e1,e2,spec_ob,spec_br,spec_ok]
   refine ⟨hp,fun e=>?_,fun e=>?_⟩
   ·simpa only [e,if_true] using hS
   ·have:=setM_self (memOf_some e1)
    simpa only [e,Bool.false_eq_true,if_false,this] using hS
  ·exact hS.elim
 ·exact hS.elim

theorem nnn {a:Nat} (n k:Nat):a+n+k=a+(n+k):=Nat.add_assoc _ _ _
theorem nlt0 {a k:Nat}:(a<a+k)=(0<k):=by simp
theorem nltn {a j k:Nat}:(a+j<a+k)=(j<k):=by simp
section
variable {h X:List Blk} {A B:Blk} {m:M}
theorem vals_nil {n k:Nat}:vals n k []=true:=by rfl
theorem vals_cons {n k:Nat} {s:S} {l:List S}:vals n k (s::l)=(s.val n k&&vals n k l):=by rfl
theorem app_len {X:List Blk}:(h++X).length=h.length+X.length:=List.length_append
end

theorem MB_inj {b b':Nat} {m m':M} (e:MB b m=MB b' m'):m.n=m'.n:=by
 simp only [MB,Blk.mk.injEq,List.cons.injEq,S.i.injEq,true_and,and_true] at e
 exact e.2
theorem MW_inj {m m':M} (e:MW m=MW m'):m.w=m'.w:=by
 simp only [MW,Blk.mk.injEq,true_and] at e
 exact wc_inj e.1

def unwc:List S->Option (List Int)
 | []=>some []
 | .i .u64 x::l=>match unwc l with
  | some v=>some (x::v)
  | none=>none
 | _=>none
theorem unwc_wc:∀ v:List Int,unwc (wc v)=some v
 | []=>rfl
 | x::v=>by simp only [wc_cons,unwc,unwc_wc v]
theorem unwc_nil:unwc []=some []:=by rfl
theorem unwc_cons {x:Int} {l:List S}:unwc (.i .u64 x::l)=match unwc l with|some v=>some (x::v)|none=>none:=by rfl
theorem wc_unwc:∀ {l:List S} {v:List Int},unwc l=some v->l=wc v
 | [],v,e=>by simp only [unwc,Option.some.injEq] at e; subst e; rfl
 | .i k x::l,v,e=>by
  cases k<;>simp only [unwc,reduceCtorEq] at e
  split at e
  ·rename_i v' e'
   rw [Option.some.injEq] at e
   subst e
   rw [wc_unwc e',wc_cons]
  ·cases e
 | .u::_,_,e=>by simp [unwc] at e
 | .b _::_,_,e=>by simp [unwc] at e
 | .p _ _::_,_,e=>by simp [unwc] at e
 | .np::_,_,e=>by simp [unwc] at e
 | .sl _ _ _ _::_,_,e=>by simp [unwc] at e
 | .ns::_,_,e=>by simp [unwc] at e
 | .es _ _::_,_,e=>by simp [unwc] at e
 | .fn _ _::_,_,e=>by simp [unwc] at e
 | .nf::_,_,e=>by simp [unwc] at e

def M.fE (m:M) (a:Int):Int:=if m.gE a=0/\(m.gV a).cap.ty=0 then 121 else m.gE a
def fullM (b:Nat) (m:M) (st:M->List Blk):List V->Res
 | [.s (.i .i64 a)]=>.ok (.tup [.agg (m.gV a).cl, .s (.i .i64 (m.fE a))]) [] (st (m.gX a))
 | _=>.bad
noncomputable def fullG:=memF fullM
noncomputable def TGt2:Tab:=addT 26 get2G (addT 126 get2G (noT))
theorem TGt2_snd:TGt2.Snd Tryz.prog:=addT_snd ok26 get2_snd (addT_snd ok126 rget2_snd ((noT_snd _)))
theorem full_snd:Snd Tryz.prog 74 (FSpec.of fullG):=snd_run TGt2_snd mixed Tryz.func74 dc74 200 fun args h K hc hS=>by
 obtain ⟨a,b,m,rest,rfl,H,hS1⟩:=memF_spec hS
 clear hS
 have hS:=hS1
 clear hS1
 unfold fullM at hS
 split at hS
 ·rename_i x
  simp only [spec_ok,M.fE] at hS
  by_cases c1:m.gE x=0
  ·by_cases c2:(m.gV x).cap.ty=0
   ·rw [M.gV_null c2] at hS
    simp only [M.gV_null c2,slotZ,capZ,Slot.cl,c1,and_self,if_true] at hS
    have c3:=M.gV_null c2
    simp (maxSteps:=999999) only [go_sem,simprocAttr,↓qT,↓qF,df74,TGt2,get2G,memF_eq H,get2M,Slot.cl,c1,c2,c3,slotZ,capZ,put,fillP,sub,EVt]
    exact hS
   ·simp only [Slot.cl,c1,c2,and_false,if_false] at hS
    simp (maxSteps:=999999) only [go_sem,simprocAttr,↓qT,↓qF,df74,TGt2,get2G,memF_eq H,get2M,Slot.cl,c1,c2,put,fillP,sub,EVt]
    exact hS
  ·simp only [Slot.cl,c1,false_and,if_false] at hS
   simp (maxSteps:=999999) only [go_sem,simprocAttr,↓qT,↓qF,df74,TGt2,get2G,memF_eq H,get2M,Slot.cl,c1,put,fillP,sub,EVt]
   exact hS
 ·exact hS.elim
theorem rfull_snd:Snd Tryz.prog 98 (FSpec.of fullG):=snd_run TGt2_snd mixed Tryz.func98 dc98 200 fun args h K hc hS=>by
 obtain ⟨a,b,m,rest,rfl,H,hS1⟩:=memF_spec hS
 clear hS
 have hS:=hS1
 clear hS1
 unfold fullM at hS
 split at hS
 ·rename_i x
  simp only [spec_ok,M.fE] at hS
  by_cases c1:m.gE x=0
  ·by_cases c2:(m.gV x).cap.ty=0
   ·rw [M.gV_null c2] at hS
    simp only [M.gV_null c2,slotZ,capZ,Slot.cl,c1,and_self,if_true] at hS
    have c3:=M.gV_null c2
    simp (maxSteps:=999999) only [go_sem,simprocAttr,↓qT,↓qF,df98,TGt2,get2G,memF_eq H,get2M,Slot.cl,c1,c2,c3,slotZ,capZ,put,fillP,sub,EVt]
    exact hS
   ·simp only [Slot.cl,c1,c2,and_false,if_false] at hS
    simp (maxSteps:=999999) only [go_sem,simprocAttr,↓qT,↓qF,df98,TGt2,get2G,memF_eq H,get2M,Slot.cl,c1,c2,put,fillP,sub,EVt]
    exact hS
  ·simp only [Slot.cl,c1,false_and,if_false] at hS
   simp (maxSteps:=999999) only [go_sem,simprocAttr,↓qT,↓qF,df98,TGt2,get2G,memF_eq H,get2M,Slot.cl,c1,put,fillP,sub,EVt]
   exact hS
 ·exact hS.elim

def M.liB (m:M) (a:Int) (s:Slot):Bool:=!(s.prev==0&&(s.next==0&&s.depth==0))||m.fst==a
def M.liX (m:M) (s:Slot):M:=if (s.prev==0&&(s.next==0&&s.depth==0))=true then m.fstX else m
def listedM (b:Nat) (m:M) (st:M->List Blk):List V->Res
 | [.s (.i .i64 a),x]=>slotF (fun s=>.ok (.s (.b (m.liB a s))) [] (st (m.liX s))) [x]
 | _=>.bad
noncomputable def listedG:=memF listedM
noncomputable def TFs:Tab:=addT 100 firstG (addT 80 setFirstG (noT))
theorem TFs_snd:TFs.Snd Tryz.prog:=addT_snd ok100 first_snd (addT_snd ok80 setFirst_snd ((noT_snd _)))
theorem listed_snd:Snd Tryz.prog 75 (FSpec.of listedG):=snd_run TFs_snd mixed Tryz.func75 dc75 200 fun args h K hc hS=>by
 obtain ⟨a,b,m,rest,rfl,H,hS1⟩:=memF_spec hS
 clear hS
 have hS:=hS1
 clear hS1
 unfold listedM at hS
 split at hS
 ·rename_i x y
  obtain ⟨s,e,hS2⟩:=slotF_spec hS
  simp only [List.cons.injEq,and_true] at e
  subst e
  clear hS
  have hS:=hS2
  simp only [spec_ok,M.liB,M.liX] at hS
  by_cases c1:s.prev=0
  ·by_cases c2:s.next=0
   ·by_cases c3:s.depth=0
    ·simp only [c1,c2,c3,beq_self_eq_true,Bool.and_self,Bool.not_true,Bool.false_or,if_true] at hS
     simp (maxSteps:=999999) only [go_sem,simprocAttr,↓qT,↓qF,df75,TFs,firstG,memF_eq H,firstM,Slot.cl,c1,c2,c3,put,fillP,sub,EVt]
     exact hS
    ·have c4:(s.depth==0)=false:=by simpa using c3
     simp only [c1,c2,c4,Bool.and_false,Bool.not_false,Bool.true_or,Bool.false_eq_true,if_false,setM_self H] at hS
     simp (maxSteps:=999999) only [go_sem,simprocAttr,↓qT,↓qF,df75,TFs,firstG,memF_eq H,firstM,Slot.cl,c1,c2,c3,put,fillP,sub,EVt]
     exact hS
   ·have c4:(s.next==0)=false:=by simpa using c2
    simp only [c1,c4,Bool.and_false,Bool.false_and,Bool.not_false,Bool.true_or,Bool.false_eq_true,if_false,setM_self H] at hS
    simp (maxSteps:=999999) only [go_sem,simprocAttr,↓qT,↓qF,df75,TFs,firstG,memF_eq H,firstM,Slot.cl,c1,c2,put,fillP,sub,EVt]
    exact hS
  ·have c4:(s.prev==0)=false:=by simpa using c1
   simp only [c4,Bool.false_and,Bool.not_false,Bool.true_or,Bool.false_eq_true,if_false,setM_self H] at hS
   simp (maxSteps:=999999) only [go_sem,simprocAttr,↓qT,↓qF,df75,TFs,firstG,memF_eq H,firstM,Slot.cl,c1,put,fillP,sub,EVt]
   exact hS
 ·exact hS.elim

/-! ### what a slot's links are turned to -/
def cellAt (h:List Blk) (k:Nat):Option Int:=match h[k]? with
 | some ⟨.rw,[.i .i64 v],_⟩=>some v
 | _=>none
def slotAt (h:List Blk) (k:Nat):Option Slot:=match h[k]? with
 | some ⟨.rw,[.i .i64 a, .i .i64 b, .i .i64 c, .i .i64 d, .i .i64 e, .i .i64 g, .i .i64 i, .i .i64 j, .i .i64 k, .i .i64 l, .i .i64 m, .i .i64 p, .i .i64 n, .i .i64 q],14⟩=>some ⟨⟨a,b,c,d,e,g,i,j,k,l,m⟩,p,n,q⟩
 | _=>none
theorem cellAt_some {h:List Blk} {k:Nat} {v:Int} (e:cellAt h k=some v):∃ room,h[k]?=some ⟨.rw,[.i .i64 v],room⟩:=by
 unfold cellAt at e
 split at e
 ·rename_i h1
  rw [Option.some.injEq] at e
  subst e
  exact ⟨_,h1⟩
 ·cases e
theorem slotAt_some {h:List Blk} {k:Nat} {s:Slot} (e:slotAt h k=some s):h[k]?=some ⟨.rw,s.cl,14⟩:=by
 unfold slotAt at e
 split at e
 ·rename_i h1
  rw [Option.some.injEq] at e
  subst e
  exact h1
 ·cases e
theorem cellAt_eq {h:List Blk} {k room:Nat} {v:Int} (e:h[k]?=some ⟨.rw,[.i .i64 v],room⟩):cellAt h k=some v:=by simp only [cellAt,e]
theorem slotAt_eq {h:List Blk} {k:Nat} {s:Slot} (e:h[k]?=some ⟨.rw,s.cl,14⟩):slotAt h k=some s:=by simp only [slotAt,e,Slot.cl]
theorem setM_other {h:List Blk} {a b k:Nat} {m m':M} {B:Blk} (H:IsMem h a b m) (e:h[k]?=some B) (h1:B≠MB b m) (h2:B≠MW m):(setM h a b m')[k]?=some B:=by
 have ka:a≠k:=fun x=>by subst x; rw [H.ha,Option.some.injEq] at e; exact h1 e.symm
 have kb:b≠k:=fun x=>by subst x; rw [H.hb,Option.some.injEq] at e; exact h2 e.symm
 simp only [setM]
 rw [List.getElem?_set_ne kb,List.getElem?_set_ne ka,e]
theorem wc_head {w:List Int} {n:Int} {l:List S} (e:S.i .i64 n::l=wc w):False:=by
 cases w with
 | nil=>cases e
 | cons x w=>rw [wc_cons] at e; simp at e
theorem cell_setM {h:List Blk} {a b k room:Nat} {m:M} {v:Int} (H:IsMem h a b m) (e:h[k]?=some ⟨.rw,[.i .i64 v],room⟩) (m':M):(setM h a b m')[k]?=some ⟨.rw,[.i .i64 v],room⟩ :=
 setM_other H e (fun x=>by simp [MB] at x) (fun x=>by simp only [MW,Blk.mk.injEq] at x; exact wc_head x.2.1)
theorem slot_setM {h:List Blk} {a b k room:Nat} {m:M} {s:Slot} (H:IsMem h a b m) (e:h[k]?=some ⟨.rw,s.cl,room⟩) (m':M):(setM h a b m')[k]?=some ⟨.rw,s.cl,room⟩ :=
 setM_other H e (fun x=>by simp [MB,Slot.cl] at x) (fun x=>by simp only [MW,Blk.mk.injEq,Slot.cl] at x; exact wc_head x.2.1)

def chg (h:List Blk) (f:Nat) (cs:List (R×Nat)):Option (Slot->Slot) :=
 match cs with
 | []=>if f=77\/f=78 then some fun s=>⟨s.cap,s.prev,s.next,IntKind.i64.wrap (s.depth-1)⟩ else none
 | [(.g k,0)] =>
  if f=176 then match cellAt h k with
   | some v=>some fun s=>⟨s.cap,s.prev,v,s.depth⟩
   | none=>none
  else if f=177 then match cellAt h k with
   | some v=>some fun s=>⟨s.cap,v,s.next,s.depth⟩
   | none=>none
  else if f=81 then match slotAt h k with
   | some v=>some fun s=>⟨s.cap,s.prev,v.next,s.depth⟩
   | none=>none
  else if f=82 then match slotAt h k with
   | some v=>some fun s=>⟨s.cap,v.prev,s.next,s.depth⟩
   | none=>none
  else none
 | _=>none
def depG:List V->List Blk->Res
 | [.s (.p (.g i) 0)],h=>match slotAt h i with
  | some s=>.ok (.tup []) [] (h.set i ⟨.rw,(⟨s.cap,s.prev,s.next,IntKind.i64.wrap (s.depth-1)⟩:Slot).cl,14⟩)
  | none=>.bad
 | _,_=>.bad
def jn1G:List V->List Blk->Res
 | [.s (.p (.g i) 0), .s (.p (.g k) 0)],h=>match slotAt h i,cellAt h k with
  | some s,some v=>.ok (.tup []) [] (h.set i ⟨.rw,(⟨s.cap,s.prev,v,s.depth⟩:Slot).cl,14⟩)
  | _,_=>.bad
 | _,_=>.bad
def jn2G:List V->List Blk->Res
 | [.s (.p (.g i) 0), .s (.p (.g k) 0)],h=>match slotAt h i,cellAt h k with
  | some s,some v=>.ok (.tup []) [] (h.set i ⟨.rw,(⟨s.cap,v,s.next,s.depth⟩:Slot).cl,14⟩)
  | _,_=>.bad
 | _,_=>.bad
def rm3G:List V->List Blk->Res
 | [.s (.p (.g i) 0), .s (.p (.g k) 0)],h=>match slotAt h i,slotAt h k with
  | some s,some v=>.ok (.tup []) [] (h.set i ⟨.rw,(⟨s.cap,s.prev,v.next,s.depth⟩:Slot).cl,14⟩)
  | _,_=>.bad
 | _,_=>.bad
def rm4G:List V->List Blk->Res
 | [.s (.p (.g i) 0), .s (.p (.g k) 0)],h=>match slotAt h i,slotAt h k with
  | some s,some v=>.ok (.tup []) [] (h.set i ⟨.rw,(⟨s.cap,v.prev,s.next,s.depth⟩:Slot).cl,14⟩)
  | _,_=>.bad
 | _,_=>.bad
theorem dep1_snd:Snd Tryz.prog 77 (FSpec.of depG):=snd_run (noT_snd _) mixed Tryz.func77 dc77 100 fun args h K hc hS=>by
 unfold depG at hS
 split at hS
 ·split at hS
  ·rename_i s hs
   have e1:=slotAt_some hs
   simp only [spec_ok,Slot.cl] at hS
   simp (maxSteps:=999999) only [go_sem,simprocAttr,↓qT,↓qF,df77,e1,Slot.cl,put,fillP,sub,EVt]
   exact hS
  ·exact hS.elim
 ·exact hS.elim
theorem dep2_snd:Snd Tryz.prog 78 (FSpec.of depG):=snd_run (noT_snd _) mixed Tryz.func78 dc78 100 fun args h K hc hS=>by
 unfold depG at hS
 split at hS
 ·split at hS
  ·rename_i s hs
   have e1:=slotAt_some hs
   simp only [spec_ok,Slot.cl] at hS
   simp (maxSteps:=999999) only [go_sem,simprocAttr,↓qT,↓qF,df78,e1,Slot.cl,put,fillP,sub,EVt]
   exact hS
  ·exact hS.elim
 ·exact hS.elim
theorem jn1_snd:Snd Tryz.prog 176 (FSpec.of jn1G):=snd_run (noT_snd _) mixed Tryz.func176 dc176 100 fun args h K hc hS=>by
 unfold jn1G at hS
 split at hS
 ·split at hS
  ·rename_i s v hs hv
   have e1:=slotAt_some hs
   obtain ⟨room,e2⟩:=cellAt_some hv
   simp only [spec_ok,Slot.cl] at hS
   simp (maxSteps:=999999) only [go_sem,simprocAttr,↓qT,↓qF,df176,e1,e2,Slot.cl,put,fillP,sub,EVt]
   exact hS
  ·exact hS.elim
 ·exact hS.elim
theorem jn2_snd:Snd Tryz.prog 177 (FSpec.of jn2G):=snd_run (noT_snd _) mixed Tryz.func177 dc177 100 fun args h K hc hS=>by
 unfold jn2G at hS
 split at hS
 ·split at hS
  ·rename_i s v hs hv
   have e1:=slotAt_some hs
   obtain ⟨room,e2⟩:=cellAt_some hv
   simp only [spec_ok,Slot.cl] at hS
   simp (maxSteps:=999999) only [go_sem,simprocAttr,↓qT,↓qF,df177,e1,e2,Slot.cl,put,fillP,sub,EVt]
   exact hS
  ·exact hS.elim
 ·exact hS.elim
theorem rm3_snd:Snd Tryz.prog 81 (FSpec.of rm3G):=snd_run (noT_snd _) mixed Tryz.func81 dc81 100 fun args h K hc hS=>by
 unfold rm3G at hS
 split at hS
 ·split at hS
  ·rename_i s v hs hv
   have e1:=slotAt_some hs
   have e2:=slotAt_some hv
   simp only [spec_ok,Slot.cl] at hS
   simp (maxSteps:=999999) only [go_sem,simprocAttr,↓qT,↓qF,df81,e1,e2,Slot.cl,put,fillP,sub,EVt]
   exact hS
  ·exact hS.elim
 ·exact hS.elim
theorem rm4_snd:Snd Tryz.prog 82 (FSpec.of rm4G):=snd_run (noT_snd _) mixed Tryz.func82 dc82 100 fun args h K hc hS=>by
 unfold rm4G at hS
 split at hS
 ·split at hS
  ·rename_i s v hs hv
   have e1:=slotAt_some hs
   have e2:=slotAt_some hv
   simp only [spec_ok,Slot.cl] at hS
   simp (maxSteps:=999999) only [go_sem,simprocAttr,↓qT,↓qF,df82,e1,e2,Slot.cl,put,fillP,sub,EVt]
   exact hS
  ·exact hS.elim
 ·exact hS.elim
end Go.Proofs.YtcdfofeolgbnbaaGreat

