/- Remove,of the code and of the document,at a slot of a list that is in order. -/
import Derived.Test.YtcdfofeolgbnbaaGreatZ13
import Derived.Test.YtcdfofeolgbnbaaGreatZ33
import Derived.Test.YtcdfofeolgbnbaaGreatZ30
import Derived.Test.YtcdfofeolgbnbaaGreatZ29
/- Law 11: both memories,new; the document's memory of some words; one heap for both. -/
namespace Go.Proofs.YtcdfofeolgbnbaaGreat
open Go.D
open Nat (reduceAdd reducePow reduceMul reduceSub reduceLeDiff reduceLT reduceEqDiff)
open Int (reduceNeg reduceLE reduceEq reduceNe reduceToNat)
open Go.D renaming istep → zy,pickR → zx,bin1R → zw,un1R → zv,eqS → zu,eq1 → zq,cmpS → zp,cmp1 → zj,isNil → zk,shows → zg,result → zZ,q_cond_t → zV,q_cond_f → zU
open List renaming set → zY,replicate → zX
open Option renaming map → zW
open Nat renaming reduceAdd → zQ,reducePow → yz,reduceMul → yy,reduceSub → yx,reduceLeDiff → yw,reduceLT → yv,reduceEqDiff → yu
open Int renaming reduceNeg → yq,reduceLE → yj,reduceEq → yk,reduceNe → yg,reduceToNat → yZ,reducePow → yY,reduceLT → yX,reduceAdd → yW,reduceSub → yV,reduceMul → yU,reduceBEq → yQ,reduceBNe → xz
set_option linter.all false
set_option maxRecDepth 100000
set_option maxHeartbeats 8000000

/-! ### shared blocks picked out -/
/-! ### both in one heap -/
def bH (h : List Blk) (m r : M) (X : List Blk) : List Blk:=h ++ (MB (h.length + 1) m :: MW m :: MB (h.length + 3) r :: MW r :: bothB h.length (h.length + 2) :: X)
section
variable {h : List Blk}
theorem bH_len (h : List Blk) (m r : M) (X : List Blk) : (bH h m r X).length = h.length + 5 + X.length:=by simp only [bH,List.length_append,List.length_cons]; omega
theorem bH_app (h : List Blk) (m r : M) (X Y : List Blk) : bH h m r X ++ Y = bH h m r (X ++ Y):=by simp [bH]
theorem bH_m (h : List Blk) (m r : M) (X : List Blk) : IsMem (bH h m r X) h.length (h.length + 1) m:=by
 refine ⟨by omega, ?_, ?_⟩
 ·simp only [bH]; rw [app_get0]; rfl
 ·simp only [bH]; rw [app_getn]; rfl
theorem bH_r (h : List Blk) (m r : M) (X : List Blk) : IsMem (bH h m r X) (h.length + 2) (h.length + 3) r:=by
 refine ⟨by omega, ?_, ?_⟩
 ·simp only [bH]; rw [app_getn]; rfl
 ·simp only [bH]; rw [app_getn]; rfl
theorem bH_c (h : List Blk) (m r : M) (X : List Blk) : (bH h m r X)[h.length + 4]? = some ⟨.rw,[.p (.g h.length) 0, .p (.g (h.length + 2)) 0],2⟩:=by
 simp only [bH]; rw [app_getn]; rfl
theorem bH_is (h : List Blk) (m r : M) (X : List Blk) : IsB (bH h m r X) (h.length + 4) h.length (h.length + 1) (h.length + 2) (h.length + 3) m r :=
 ⟨bH_c h m r X,bH_m h m r X,bH_r h m r X,by omega,by omega,by omega,by omega⟩
theorem bH_setm (h : List Blk) (m r m' : M) (X : List Blk) : setM (bH h m r X) h.length (h.length + 1) m' = bH h m' r X:=by
 simp only [bH,setM]
 rw [app_set0,app_setn]; rfl
theorem bH_setr (h : List Blk) (m r r' : M) (X : List Blk) : setM (bH h m r X) (h.length + 2) (h.length + 3) r' = bH h m r' X:=by
 simp only [bH,setM]
 rw [app_setn,app_setn]; rfl
theorem bH_two (h : List Blk) (m r m' r' : M) (X : List Blk) : twoH (bH h m r []) h.length (h.length + 1) (h.length + 2) (h.length + 3) m' r' X = bH h m' r' X:=by
 unfold twoH
 rw [bH_setm,bH_setr,bH_app]; rfl
theorem bH_fm {f : Nat → M → (M → List Blk) → List V → Res} (m r : M) (X : List Blk) (rest : List V) : memF f (.s (.p (.g h.length) 0) :: rest) (bH h m r X) = f (h.length + 1) m (fun m => bH h m r X) rest:=by
 rw [memF_eq (bH_m h m r X),show setM (bH h m r X) h.length (h.length + 1) = fun m => bH h m r X from funext fun m' => bH_setm h m r m' X]
theorem bH_fb {f : M → M → (M → M → List Blk) → List V → Res} (m r : M) (X : List Blk) (rest : List V) : bothF f (.s (.p (.g (h.length + 4)) 0) :: rest) (bH h m r X) = f m r (fun m r => bH h m r X) rest:=by
 have:=bothF_eq (f:=f) (rest:=rest) (X:=X) (m':=m) (r':=r) (bH_is h m r [])
 rw [bH_two] at this
 rw [this]
 congr 1
 funext m' r'
 exact bH_two h m r m' r' X
theorem bH_old {j : Nat} {B : Blk} (hj : h[j]? = some B) (m r : M) (X : List Blk) : (bH h m r X)[j]? = some B:=by
 unfold bH
 rw [List.getElem?_append_left (List.getElem?_eq_some_iff.1 hj).1]; exact hj
theorem bH_x (h : List Blk) (m r : M) (B : Blk) (X : List Blk) : (bH h m r (B :: X))[h.length + 5]? = some B:=by
 simp only [bH]; rw [app_getn]; rfl
theorem bH_take (h : List Blk) (m r : M) (X Y : List Blk) : (bH h m r (X ++ Y)).take (h.length + 5 + X.length) = bH h m r X:=by
 rw [← bH_app,← bH_len h m r X]
 exact List.take_left' rfl
theorem bH_drop (h : List Blk) (m r : M) (X Y : List Blk) : (bH h m r (X ++ Y)).drop (h.length + 5 + X.length) = Y:=by
 rw [← bH_app,← bH_len h m r X]
 exact List.drop_left' rfl
theorem bH_y (h : List Blk) (m r : M) (X : List Blk) (B : Blk) (Y : List Blk) : (bH h m r (X ++ B :: Y))[h.length + 5 + X.length]? = some B:=by
 rw [← bH_app,← bH_len h m r X,app_get0]; rfl
theorem bH_clean (hc : clean h.length h = true) (m r : M) {X : List Blk} (hX : X.all (fun B => vals (h.length + 5 + X.length) 0 B.cells) = true) : clean (bH h m r X).length (bH h m r X) = true:=by
 rw [bH_len]
 unfold bH
 refine clean_app hc (by omega) ?_
 simp only [clean,List.all_cons,Bool.and_eq_true]
 refine ⟨?_, ?_, ?_, ?_, ?_,hX⟩
 ·simp only [MB,vals,List.all_cons,List.all_nil,S.val,R.val,Bool.and_true,decide_eq_true_eq]; omega
 ·simp only [MW]; exact wc_vals _ _ _
 ·simp only [MB,vals,List.all_cons,List.all_nil,S.val,R.val,Bool.and_true,decide_eq_true_eq]; omega
 ·simp only [MW]; exact wc_vals _ _ _
 ·simp only [bothB,vals,List.all_cons,List.all_nil,S.val,R.val,Bool.and_true,Bool.and_eq_true,decide_eq_true_eq]; omega
end
def z11 : M:=M.zero 11
def madeG : List V → List Blk → Res
 | [],h => .ok (.s (.p (.g (h.length + 4)) 0)) [] (bH h z11 z11 [])
 | _,_ => .bad
theorem bH_new (h : List Blk) (m r : M) (X : List Blk) : memH (memH h m) r ++ (bothB h.length (h.length + 2) :: X) = bH h m r X:=by
 simp [bH,memH]
noncomputable def TMd : Tab:=addT 49 newM (addT 50 newM (noT))
theorem TMd_snd : TMd.Snd Tryz.prog:=addT_snd ok49 new_snd (addT_snd ok50 rnew_snd ((noT_snd _)))
theorem made_snd : Snd Tryz.prog 12 (FSpec.of madeG):=snd_run TMd_snd mixed Tryz.func12 dc12 200 fun args h K hc hS => by
 unfold madeG at hS
 split at hS
 ·simp only [spec_ok] at hS
  have hd : decide ((11 : Int) ≤ 11) && decide ((11 : Int) ≤ 16) = true:=by decide
  have ht : Int.toNat 11 = 11:=rfl
  simp (maxSteps:=9999999) only [EV0,zy,zx,zw,zv,zu,zq,zp,zj,zk,leT,zg,rvC,zZ,zY,zX,zW,↓zV,↓zU,reduceCtorEq,zQ,yz,yY,yy,yx,yw,yv,yu,yq,yX,yj,yk,yg,yW,yV,yU,yZ,yQ,xz,df12,TMd,newM,hd,ht,memH_len,put,fillP]
  refine ⟨[0],by simp,rfl, ?_⟩
  simp only [getAll,List.getElem?_cons_zero]
  refine ⟨?_, ?_⟩
  ·simp [S.kept,R.kept]
  ·refine cast ?_ hS
   rw [← bH_new]
   simp [z11,bothB,V.ren,S.ren,R.prom,Blk.ren,memH_len,List.idxOf,List.findIdx,List.findIdx.go]
 ·exact hS.elim

open Classical in
noncomputable def ofW (l : List Int) : M:=if h : (∀ x,x ∈ l → u64 x) ∧ l.length ≤ 65536 then ⟨l,0,h.1,h.2⟩ else M.zero 0
end Go.Proofs.YtcdfofeolgbnbaaGreat

/- What goes through a list that is in order finds those that lie deeper. -/
namespace Go.Proofs.YtcdfofeolgbnbaaGreat
open Go.D
set_option linter.all false
set_option maxRecDepth 100000
set_option maxHeartbeats 4000000

theorem dsW_chain {m : M} {d : Int} : ∀ (L : List Int) (k : Nat) (m' : M) (pr : Int) (acc : List Int),m'.w = m.w → (∀ x,x ∈ L → m.fE x = 0) → chain m.gV 0 pr L → L.length ≤ k →
  ∃ m2,dsW d k (L.headD 0) m' acc = (some (acc ++ deep m.gV d L),m2) ∧ m2.w = m.w
 | [],k,m',pr,acc,hw,_,_,_ => by
  refine ⟨m', ?_,hw⟩
  cases k <;> simp [dsW,deep]
 | y :: L,0,m',pr,acc,_,_,_,hk => by simp at hk
 | y :: L,k + 1,m',pr,acc,hw,hf,hc,hk => by
  obtain ⟨h1,h2,h3⟩:=hc
  have hy:=hf y List.mem_cons_self
  have y0 : y ≠ 0:=there_ne0 (fE_there hy)
  have hf' : m'.fE y = 0:=by rw [fE_w hw]; exact hy
  have hg : m'.gV y = m.gV y:=gV_w hw y
  have hw' : (m'.gX y).w = m.w:=(gX_w m' y).trans hw
  simp only [List.headD_cons,dsW,y0,if_false,hf',if_true,hg]
  by_cases hd : (m.gV y).depth ≤ d
  ·refine ⟨m'.gX y, ?_,hw'⟩
   rw [if_pos hd]
   have : ¬ d < (m.gV y).depth:=by omega
   simp [deep,this]
  ·rw [if_neg hd,h2]
   obtain ⟨m2,e,e2⟩:=dsW_chain L k (m'.gX y) y (acc ++ [y]) hw' (fun x hx => hf x (List.mem_cons_of_mem _ hx)) h3 (by simpa using hk)
   refine ⟨m2, ?_,e2⟩
   rw [e]
   have : d < (m.gV y).depth:=by omega
   simp [deep,this]
theorem rdW_chain {m : M} {d : Int} {N : Nat} : ∀ (L : List Int) (k : Nat) (m' : M) (pr : Int) (acc : List Int),m'.w = m.w → (∀ x,x ∈ L → m.fE x = 0) → chain m.gV 0 pr L → acc.length + L.length ≤ N → L.length < k →
  ∃ m2,rdW d N k (L.headD 0) m' acc = (some (acc ++ deep m.gV d L),m2) ∧ m2.w = m.w
 | [],0,m',pr,acc,hw,_,_,_,hk => by simp at hk
 | [],k + 1,m',pr,acc,hw,_,_,_,_ => ⟨m',by simp [rdW,deep],hw⟩
 | y :: L,0,m',pr,acc,_,_,_,_,hk => by simp at hk
 | y :: L,k + 1,m',pr,acc,hw,hf,hc,hN,hk => by
  obtain ⟨h1,h2,h3⟩:=hc
  have hy:=hf y List.mem_cons_self
  have y0 : y ≠ 0:=there_ne0 (fE_there hy)
  have hf' : m'.fE y = 0:=by rw [fE_w hw]; exact hy
  have hg : m'.gV y = m.gV y:=gV_w hw y
  have hw' : (m'.gX y).w = m.w:=(gX_w m' y).trans hw
  have hNl : acc.length ≤ N:=by simp only [List.length_cons] at hN; omega
  simp only [List.headD_cons,rdW,y0,if_false,hf',hNl,and_self,if_true,hg]
  by_cases hd : (m.gV y).depth ≤ d
  ·refine ⟨m'.gX y, ?_,hw'⟩
   rw [if_pos hd]
   have : ¬ d < (m.gV y).depth:=by omega
   simp [deep,this]
  ·rw [if_neg hd,h2]
   obtain ⟨m2,e,e2⟩:=rdW_chain (N:=N) L k (m'.gX y) y (acc ++ [y]) hw' (fun x hx => hf x (List.mem_cons_of_mem _ hx)) h3 (by simp only [List.length_append,List.length_cons,List.length_nil] at hN ⊢; omega) (by simpa using hk)
   refine ⟨m2, ?_,e2⟩
   rw [e]
   have : d < (m.gV y).depth:=by omega
   simp [deep,this]
theorem deep_all {m : M} (L : List Int) : deep m.gV (-1) L = L:=by
 induction L with
 | nil => rfl
 | cons x L ih =>
  have:=gV_links m x
  have h : -1 < (m.gV x).depth:=by omega
  unfold deep at ih ⊢
  rw [List.takeWhile_cons,if_pos (by simpa using h),ih]
section
variable {m : M} {P : Int → Prop} {L : List Int}
theorem M.Inv.dsc (I : m.Inv P L) {a : Int} {L1 L2 : List Int} (e : L = L1 ++ a :: L2) {m' : M} (hw : m'.w = m.w) : ∃ m2,dsW (m.gV a).depth (m.w.length / 4) (m.gV a).next m' [] = (some (deep m.gV (m.gV a).depth L2),m2) ∧ m2.w = m.w:=by
 have hc:=I.ch
 have hl:=I.llen
 rw [e] at hc hl
 obtain ⟨_,hc⟩:=chain_app.1 hc
 obtain ⟨_,h2,h3⟩:=hc
 simp only [List.length_append,List.length_cons] at hl
 obtain ⟨m2,e1,e2⟩:=dsW_chain (m:=m) (d:=(m.gV a).depth) L2 (m.w.length / 4) m' a [] hw (fun x hx => I.full x (by rw [e]; exact List.mem_append_right _ (List.mem_cons_of_mem _ hx))) h3 (by omega)
 rw [← h2] at e1
 exact ⟨m2,by simpa using e1,e2⟩
theorem M.Inv.rdsc (I : m.Inv P L) {a : Int} {L1 L2 : List Int} (e : L = L1 ++ a :: L2) {m' : M} (hw : m'.w = m.w) : ∃ m2,rdW (m.gV a).depth (m.w.length / 4) (m.w.length / 4 + 2) (m.gV a).next m' [] = (some (deep m.gV (m.gV a).depth L2),m2) ∧ m2.w = m.w:=by
 have hc:=I.ch
 have hl:=I.llen
 rw [e] at hc hl
 obtain ⟨_,hc⟩:=chain_app.1 hc
 obtain ⟨_,h2,h3⟩:=hc
 simp only [List.length_append,List.length_cons] at hl
 obtain ⟨m2,e1,e2⟩:=rdW_chain (m:=m) (d:=(m.gV a).depth) (N:=m.w.length / 4) L2 (m.w.length / 4 + 2) m' a [] hw (fun x hx => I.full x (by rw [e]; exact List.mem_append_right _ (List.mem_cons_of_mem _ hx))) h3 (by simp only [List.length_nil]; omega) (by omega)
 rw [← h2] at e1
 exact ⟨m2,by simpa using e1,e2⟩
theorem M.Inv.lis (I : m.Inv P L) {m' : M} (hw : m'.w = m.w) : ∃ m2,dsW (-1) (m.w.length / 4) m.fst m' [] = (some L,m2) ∧ m2.w = m.w:=by
 have hl:=I.llen
 obtain ⟨m2,e1,e2⟩:=dsW_chain (m:=m) (d:=-1) L (m.w.length / 4) m' 0 [] hw (fun x hx => I.full x hx) I.ch (by omega)
 rw [← I.fst,deep_all] at e1
 exact ⟨m2,by simpa using e1,e2⟩
theorem M.Inv.rlis (I : m.Inv P L) {m' : M} (hw : m'.w = m.w) : ∃ m2,rdW (-1) (m.w.length / 4) (m.w.length / 4 + 2) m.fst m' [] = (some L,m2) ∧ m2.w = m.w:=by
 have hl:=I.llen
 obtain ⟨m2,e1,e2⟩:=rdW_chain (m:=m) (d:=-1) (N:=m.w.length / 4) L (m.w.length / 4 + 2) m' 0 [] hw (fun x hx => I.full x hx) I.ch (by simp only [List.length_nil]; omega) (by omega)
 rw [← I.fst,deep_all] at e1
 exact ⟨m2,by simpa using e1,e2⟩
end

theorem getLastD_mem {x d : Int} {L : List Int} : (x :: L).getLastD d ∈ x :: L:=by
 rw [List.getLastD_eq_getLast?,List.getLast?_eq_some_getLast (by simp),Option.getD_some]
 exact List.getLast_mem _
theorem chain_post {V V' : Int → Slot} {a n : Int} : ∀ {L : List Int} {pr : Int},chain V a pr L → L.Nodup → (∀ x,x ∈ L → (V' x).prev = (V x).prev ∧ (V' x).next = if x = L.getLastD 0 then n else (V x).next) → chain V' n pr L
 | [],_,_,_,_ => trivial
 | [x],pr,⟨h1,_,_⟩,_,h => by
  obtain ⟨e1,e2⟩:=h x List.mem_cons_self
  rw [if_pos (by rfl)] at e2
  exact ⟨e1.trans h1,e2,trivial⟩
 | x :: y :: L,pr,⟨h1,h2,h3⟩,hn,h => by
  have hn':=List.nodup_cons.1 hn
  have eL : (x :: y :: L).getLastD 0 = (y :: L).getLastD 0:=rfl
  rw [eL] at h
  obtain ⟨e1,e2⟩:=h x List.mem_cons_self
  have hne : ¬ x = (y :: L).getLastD 0:=fun e => hn'.1 (by rw [e]; exact getLastD_mem)
  rw [if_neg hne] at e2
  exact ⟨e1.trans h1,e2.trans h2,chain_post h3 hn'.2 fun z hz => h z (List.mem_cons_of_mem _ hz)⟩

def depS (s : Slot) : Slot:=⟨s.cap,s.prev,s.next,s.depth - 1⟩
def decV (V : Int → Slot) (Ds : List Int) (x : Int) : Slot:=if x ∈ Ds then depS (V x) else V x
theorem decV_nil (V : Int → Slot) : decV V [] = V:=funext fun x => if_neg List.not_mem_nil
theorem decV_out {V : Int → Slot} {Ds : List Int} {x : Int} (h : x ∉ Ds) : decV V Ds x = V x:=if_neg h
theorem decV_cap (V : Int → Slot) (Ds : List Int) (x : Int) : (decV V Ds x).cap = (V x).cap:=by unfold decV; split <;> rfl
theorem decV_prev (V : Int → Slot) (Ds : List Int) (x : Int) : (decV V Ds x).prev = (V x).prev:=by unfold decV; split <;> rfl
theorem decV_next (V : Int → Slot) (Ds : List Int) (x : Int) : (decV V Ds x).next = (V x).next:=by unfold decV; split <;> rfl
section
variable {m : M} {P : Int → Prop} {L : List Int}
theorem depC_of {s : Slot} (h0 : 0 < s.depth) (h1 : s.depth < 65536) : depC s = depS s:=by
 unfold depC depS
 rw [wrap64] <;> omega
theorem M.To.dec1 {m' : M} {V : Int → Slot} {F : Int} (T : m.To m' V F) {x : Int} (hx : m.gE x = 0) (ht : (V x).cap.ty ≠ 0) (hd : 0 < (V x).depth) : m.To (m'.turnX x depC) (fun y => if y = x then depS (V x) else V y) F ∧ m.To (if m'.gE x = 0 then (m'.gX x).pX x (depC (m'.gV x)) else m'.gX x) (fun y => if y = x then depS (V x) else V y) F:=by
 have h0:=there_ne0 (gE_there hx).1
 obtain ⟨k1,k2,k3,k4⟩:=T.lk h0
 have e:=depC_of hd k4
 have hr : slotRB (depC (V x)) = true:=by rw [e]; exact T.vlinks h0 ht k1 k2 (by omega) (by omega)
 rw [← e]
 refine ⟨T.turn hx ht hr, ?_⟩
 rw [if_pos ((T.E x).trans hx),T.V x h0]
 exact (T.gX x).pX hx hr
theorem M.To.dec {F : Int} : ∀ (Ds : List Int) {m' r' : M} {V : Int → Slot},m.To m' V F → m.To r' V F → Ds.Nodup → (∀ x,x ∈ Ds → m.gE x = 0 ∧ (V x).cap.ty ≠ 0 ∧ 0 < (V x).depth) → m.To (m'.decX Ds) (decV V Ds) F ∧ m.To (r'.rdecX Ds) (decV V Ds) F
 | [],m',r',V,T,U,_,_ => by rw [decV_nil]; exact ⟨T,U⟩
 | x :: Ds,m',r',V,T,U,hn,h => by
  obtain ⟨hx,hn⟩:=List.nodup_cons.1 hn
  obtain ⟨h1,h2,h3⟩:=h x List.mem_cons_self
  have T1:=(T.dec1 h1 h2 h3).1
  have U1:=(U.dec1 h1 h2 h3).2
  obtain ⟨a1,a2⟩:=M.To.dec Ds T1 U1 hn fun y hy => by
   have hyx : y ≠ x:=fun e => hx (e ▸ hy)
   rw [if_neg hyx]
   exact h y (List.mem_cons_of_mem _ hy)
  have e : ∀ y,y ≠ 0 → decV (fun y => if y = x then depS (V x) else V y) Ds y = decV V (x :: Ds) y:=fun y _ => by
   unfold decV
   by_cases c : y = x
   ·subst c
    simp only [if_neg hx,if_true,List.mem_cons,true_or]
   ·simp only [List.mem_cons,c,false_or,if_false]
  exact ⟨a1.val e rfl,a2.val e rfl⟩
def M.remV (m : M) (a : Int) (Ds : List Int) : Int → Slot:=fun x => if x = a then slotZ else
 ⟨(m.gV x).cap,if x = (m.gV a).next then (m.gV a).prev else (m.gV x).prev,if x = (m.gV a).prev then (m.gV a).next else (m.gV x).next,(decV m.gV Ds x).depth⟩
def M.remF (m : M) (a : Int) : Int:=if (m.gV a).prev = 0 then (m.gV a).next else m.fst
theorem mem_deep {V : Int → Slot} {d x : Int} : ∀ {L : List Int},x ∈ deep V d L → x ∈ L ∧ d < (V x).depth
 | [],h => by cases h
 | z :: L,h => by
  by_cases c : d < (V z).depth
  ·have e : deep V d (z :: L) = z :: deep V d L:=by simp [deep,c]
   rw [e] at h
   rcases List.mem_cons.1 h with h | h
   ·exact ⟨by rw [h]; exact List.mem_cons_self,by rw [h]; exact c⟩
   ·obtain ⟨h1,h2⟩:=mem_deep h
    exact ⟨List.mem_cons_of_mem _ h1,h2⟩
  ·have e : deep V d (z :: L) = []:=by simp [deep,c]
   rw [e] at h
   cases h
theorem M.Inv.rem_facts (I : m.Inv P L) {a : Int} {L1 L2 : List Int} (e : L = L1 ++ a :: L2) (x : Int) (hx : x ∈ deep m.gV (m.gV a).depth L2) : x ∈ L ∧ x ≠ a ∧ 0 < (m.gV x).depth:=by
 obtain ⟨h2,hd⟩:=mem_deep hx
 have h0:=(gV_links m a).2.2.1
 refine ⟨by rw [e]; exact List.mem_append_right _ (List.mem_cons_of_mem _ h2),fun e2 => ?_,by omega⟩
 subst e2
 omega
theorem M.Inv.rem_to (I : m.Inv P L) {a : Int} {L1 L2 : List Int} (e : L = L1 ++ a :: L2) : ((m.rem a).1 = 0 ∧ m.To (m.rem a).2 (m.remV a (deep m.gV (m.gV a).depth L2)) (m.remF a)) ∧ ((m.rrem a).1 = 0 ∧ m.To (m.rrem a).2 (m.remV a (deep m.gV (m.gV a).depth L2)) (m.remF a)):=by
 have ha : a ∈ L:=by rw [e]; simp
 have hfa:=I.full a ha
 have a0 : a ≠ 0:=fun h => I.no0 (h ▸ ha)
 obtain ⟨Ds,hDs⟩ : ∃ Ds,deep m.gV (m.gV a).depth L2 = Ds:=⟨_,rfl⟩
 have hf:=I.rem_facts e
 rw [hDs] at hf
 have hnd : Ds.Nodup:=by
  have hn:=I.nd
  rw [e] at hn
  have:=(List.nodup_append.1 hn).2.1
  rw [← hDs]
  exact (List.nodup_cons.1 this).2.sublist (List.takeWhile_sublist _)
 have hDa : a ∉ Ds:=fun h => (hf a h).2.1 rfl
 obtain ⟨m2,q1,q2⟩:=I.dsc e (m':=(m.gX a).gX a) (by rw [gX_w,gX_w])
 obtain ⟨r2,p1,p2⟩:=I.rdsc e (m':=(m.gX a).gX a) (by rw [gX_w,gX_w])
 rw [hDs] at q1 p1 ⊢
 have T0 : m.To m2 m.gV m.fst:=(M.To.refl m).of_w q2
 have U0 : m.To r2 m.gV m.fst:=(M.To.refl m).of_w p2
 have hpr:=I.prev ha
 have hnx:=I.next ha
 have ip:=I.irr_prev ha
 have inx:=I.irr_next ha
 have hpn:=I.prev_next ha
 obtain ⟨T1,U1⟩:=M.To.dec Ds (T0.liX (m.gV a)) U0 hnd fun x hx => ⟨(I.gE (hf x hx).1).1,(I.gE (hf x hx).1).2,(hf x hx).2.2⟩
 have T2:=T1.pX (I.gE ha).1 slotZ_R
 have ok : ∀ x,(x = 0 ∨ x ∈ L) → x ≠ a → x = 0 ∨ (m.gE x = 0 ∧ ((fun y => if y = a then slotZ else decV m.gV Ds y) x).cap.ty ≠ 0):=fun x hx hxa => hx.imp id fun h => ⟨(I.gE h).1,by simp only [if_neg hxa]; rw [decV_cap]; exact (I.gE h).2⟩
 have okp:=ok _ hpr ip
 have okn:=ok _ hnx inx
 have tn : (m.gV a).next = 0 ∨ thereB m (m.gV a).next = true:=hnx.imp id fun h => fE_there (I.full _ h)
 have tp : (m.gV a).prev = 0 ∨ thereB m (m.gV a).prev = true:=hpr.imp id fun h => fE_there (I.full _ h)
 have lkn : linkB (m.gV a).next = true:=(gV_links m a).2.1
 have lkp : linkB (m.gV a).prev = true:=(gV_links m a).1
 have hV : ∀ x,x ≠ 0 → (fun z => if z = (m.gV a).next then ((fun y => if y = (m.gV a).prev then ((fun y => if y = a then slotZ else decV m.gV Ds y) (m.gV a).prev).toN (m.gV a).next else (fun y => if y = a then slotZ else decV m.gV Ds y) y) (m.gV a).next).toP (m.gV a).prev else (fun y => if y = (m.gV a).prev then ((fun y => if y = a then slotZ else decV m.gV Ds y) (m.gV a).prev).toN (m.gV a).next else (fun y => if y = a then slotZ else decV m.gV Ds y) y) z) x = m.remV a Ds x:=fun x hx0 => by
  simp only [M.remV]
  by_cases c1 : x = a
  ·rw [if_pos c1,if_neg (fun h => inx (h.symm.trans c1)),if_neg (fun h => ip (h.symm.trans c1)),if_pos c1]
  ·rw [if_neg c1]
   by_cases c2 : x = (m.gV a).next
   ·have c3 : x ≠ (m.gV a).prev:=fun h => by
     rcases hpn with h2 | h2
     ·exact hx0 (c2.trans h2)
     ·exact h2 (h.symm.trans c2)
    rw [← c2]
    simp only [if_true,if_neg c3,if_neg c1]
    exact Slot.ext4 (decV_cap _ _ _) rfl (decV_next _ _ _) rfl
   ·rw [if_neg c2,if_neg c2]
    by_cases c3 : x = (m.gV a).prev
    ·rw [← c3]
     simp only [if_true,if_neg c1]
     exact Slot.ext4 (decV_cap _ _ _) (decV_prev _ _ _) rfl rfl
    ·simp only [if_neg c3,if_neg c1]
     exact Slot.ext4 (decV_cap _ _ _) (decV_prev _ _ _) (decV_next _ _ _) rfl
 refine ⟨?_, ?_⟩
 ·unfold M.rem
  rw [if_pos hfa,q1]
  refine ⟨rfl, ?_⟩
  have hli : m2.liB a (m.gV a) = true:=by rw [liB_w q2]; exact I.listed ha
  simp only [M.remT,hli,if_true]
  have T3 : m.To ((if (m.gV a).prev = 0 then (((m2.liX (m.gV a)).decX Ds).pX a slotZ).sfX (m.gV a).next else ((m2.liX (m.gV a)).decX Ds).pX a slotZ).turnX (m.gV a).prev fun t => ⟨t.cap,t.prev,(m.gV a).next,t.depth⟩)
    (fun y => if y = (m.gV a).prev then ((fun y => if y = a then slotZ else decV m.gV Ds y) (m.gV a).prev).toN (m.gV a).next else (fun y => if y = a then slotZ else decV m.gV Ds y) y) (m.remF a):=by
   unfold M.remF
   by_cases c : (m.gV a).prev = 0
   ·simp only [c,if_true]
    exact ((T2.sfX I.len.1 tn).turn0).val (fun x hx => by simp only [hx,if_false]) rfl
   ·simp only [c,if_false]
    obtain ⟨o1,o2⟩:=okp.resolve_left c
    obtain ⟨k1,k2,k3,k4⟩:=T2.lk c
    exact T2.turn o1 o2 (T2.vlinks c o2 k1 lkn k3 k4)
  by_cases c : (m.gV a).next = 0
  ·have:=T3.turn0 (g:=fun t => ⟨t.cap,(m.gV a).prev,t.next,t.depth⟩)
   rw [c] at this hV ⊢
   exact this.val (fun x hx => by rw [← hV x hx]; simp only [hx,if_false]) rfl
  ·obtain ⟨o1,o2⟩:=okn.resolve_left c
   have hnp : (m.gV a).next ≠ (m.gV a).prev:=Ne.symm (hpn.resolve_left c)
   have o2' : ((fun y => if y = (m.gV a).prev then ((fun y => if y = a then slotZ else decV m.gV Ds y) (m.gV a).prev).toN (m.gV a).next else (fun y => if y = a then slotZ else decV m.gV Ds y) y) (m.gV a).next).cap.ty ≠ 0:=by simp only [if_neg hnp]; exact o2
   obtain ⟨k1,k2,k3,k4⟩:=T3.lk c
   exact (T3.turn (g:=fun t => ⟨t.cap,(m.gV a).prev,t.next,t.depth⟩) o1 o2' (T3.vlinks c o2' lkp k2 k3 k4)).val (fun x hx => by rw [← hV x hx]; rfl) rfl
 ·unfold M.rrem
  rw [if_pos hfa,p1]
  refine ⟨rfl, ?_⟩
  have U2 : m.To ((r2.rdecX Ds).pX a slotZ) _ _:=U1.pX (I.gE ha).1 slotZ_R
  have key : ∀ {r3 : M},m.To r3 (fun y => if y = a then slotZ else decV m.gV Ds y) m.fst → m.To ((r3.lkX (m.gV a).prev (m.gV a).next).bkX (m.gV a).prev (m.gV a).next) (m.remV a Ds) (m.remF a):=fun U => by
   have h1:=U.lkX I.len.1 okp tn
   have okn' : (m.gV a).next = 0 ∨ (m.gE (m.gV a).next = 0 ∧ ((fun y => if y = (m.gV a).prev then ((fun y => if y = a then slotZ else decV m.gV Ds y) (m.gV a).prev).toN (m.gV a).next else (fun y => if y = a then slotZ else decV m.gV Ds y) y) (m.gV a).next).cap.ty ≠ 0):=by
    rcases hpn with c | c
    ·exact .inl c
    ·refine okn.imp id fun h => ⟨h.1, ?_⟩
     simp only [if_neg (Ne.symm c)]
     exact h.2
   exact (h1.bk okn' tp).val (fun x hx => by rw [← hV x hx]) (by unfold M.remF; rfl)
  show m.To ((r2.rdecX Ds).rremT a (m.gV a)) _ _
  unfold M.rremT
  by_cases c : (m.gV a).prev = 0
  ·have hfst : m.fst = a:=(I.first ha).1 c
   have e1 : (r2.rdecX Ds).fst = a:=U1.F.trans hfst
   rw [if_pos c,if_pos e1]
   exact key (U1.fstX.pX (I.gE ha).1 slotZ_R)
  ·rw [if_neg c]
   exact key U2
theorem M.Inv.rem_inv (I : m.Inv P L) {a : Int} {L1 L2 : List Int} (e : L = L1 ++ a :: L2) {m' : M} {Ds : List Int} (T : m.To m' (m.remV a Ds) (m.remF a)) (hDs : ∀ x,x ∈ Ds → x ∈ L) : m'.Inv P (L1 ++ L2):=by
 have ha : a ∈ L:=by rw [e]; simp
 have a0 : a ≠ 0:=fun h => I.no0 (h ▸ ha)
 have hn:=I.nd
 have hc:=I.ch
 have hF:=I.fst
 rw [e] at hn hc hF
 obtain ⟨n1,n2,n3⟩:=List.nodup_append.1 hn
 obtain ⟨n4,n5⟩:=List.nodup_cons.1 n2
 have haL1 : a ∉ L1:=fun h => n3 a h a List.mem_cons_self rfl
 obtain ⟨c1,c2⟩:=chain_app.1 hc
 obtain ⟨c3,c4,c5⟩:=c2
 have hsub : ∀ x,x ∈ L1 ++ L2 → x ∈ L ∧ x ≠ a:=fun x hx => by
  rcases List.mem_append.1 hx with h | h
  ·exact ⟨by rw [e]; exact List.mem_append_left _ h,fun e2 => haL1 (e2 ▸ h)⟩
  ·exact ⟨by rw [e]; exact List.mem_append_right _ (List.mem_cons_of_mem _ h),fun e2 => n4 (e2 ▸ h)⟩
 have hpv : ∀ x,x ∈ L1 ++ L2 → (m.remV a Ds x).prev = (if x = (m.gV a).next then (m.gV a).prev else (m.gV x).prev) ∧ (m.remV a Ds x).next = if x = (m.gV a).prev then (m.gV a).next else (m.gV x).next:=fun x hx => by
  unfold M.remV
  rw [if_neg (hsub x hx).2]
  exact ⟨rfl,rfl⟩
 have x0 : ∀ x,x ∈ L1 ++ L2 → x ≠ 0:=fun x hx e2 => I.no0 (e2 ▸ (hsub x hx).1)
 refine I.to T ?_ (fun x hx => ?_) ?_ ?_ (fun x hP hx => ?_)
 ·exact List.nodup_append.2 ⟨n1,n5,fun x hx y hy => n3 x hx y (List.mem_cons_of_mem _ hy)⟩
 ·refine ⟨(I.gE (hsub x hx).1).1, ?_⟩
  unfold M.remV
  rw [if_neg (hsub x hx).2]
  exact (I.gE (hsub x hx).1).2
 ·refine chain_app.2 ⟨?_, ?_⟩
  ·refine chain_post (a:=a) c1 n1 fun x hx => ?_
   obtain ⟨h1,h2⟩:=hpv x (List.mem_append_left _ hx)
   refine ⟨?_, ?_⟩
   ·rw [h1,if_neg]
    intro h3
    rw [c4] at h3
    cases L2 with
    | nil => exact x0 x (List.mem_append_left _ hx) h3
    | cons y L2 => exact n3 x hx y (List.mem_cons_of_mem _ List.mem_cons_self) h3
   ·rw [h2,c3,c4]
  ·refine chain_pre (q:=a) c5 n5 fun x hx => ?_
   obtain ⟨h1,h2⟩:=hpv x (List.mem_append_right _ hx)
   refine ⟨?_, ?_⟩
   ·rw [h2,if_neg]
    intro h3
    rw [c3] at h3
    cases L1 with
    | nil => exact x0 x (List.mem_append_right _ hx) h3
    | cons y L1 => exact n3 _ getLastD_mem x (List.mem_cons_of_mem _ hx) h3.symm
   ·rw [h1,c3,c4]
 ·unfold M.remF
  rw [c3,c4,hF]
  cases L1 with
  | nil => simp
  | cons y L1 =>
   rw [if_neg]
   ·rfl
   ·intro h3
    have:=getLastD_mem (x:=y) (d:=0) (L:=L1)
    rw [h3] at this
    exact x0 0 (List.mem_append_left _ this) rfl
 ·unfold M.remV
  by_cases c : x = a
  ·rw [if_pos c]; exact ⟨rfl,rfl,rfl⟩
  ·rw [if_neg c]
   have hxL : x ∉ L:=fun h => by
    rw [e] at h
    rcases List.mem_append.1 h with h | h
    ·exact hx (List.mem_append_left _ h)
    ·rcases List.mem_cons.1 h with h | h
     ·exact c h
     ·exact hx (List.mem_append_right _ h)
   have hx0 : x ≠ 0:=there_ne0 (gE_there (I.out x hP).1).1
   obtain ⟨z1,z2,z3⟩:=(I.out x hP).2 hxL
   have g1 : x ≠ (m.gV a).next:=fun h => by
    rcases I.next ha with h2 | h2
    ·exact hx0 (h.trans h2)
    ·exact hxL (h ▸ h2)
   have g2 : x ≠ (m.gV a).prev:=fun h => by
    rcases I.prev ha with h2 | h2
    ·exact hx0 (h.trans h2)
    ·exact hxL (h ▸ h2)
   rw [if_neg g1,if_neg g2,decV_out (fun h => hxL (hDs x h))]
   exact ⟨z1,z2,z3⟩
end
end Go.Proofs.YtcdfofeolgbnbaaGreat

