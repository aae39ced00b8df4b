/- append: a slice of the function's own grows. -/
import Derived.Test.YtcdfofeolgbnbaaGreatZ3
/- append: a slice of the function's own grows. -/
namespace Go.D
set_option linter.all false
variable [Tabs]

theorem R.ne_of_names {k:Nat} {r:R} (h:r.names k=false):r≠.l k:=by
 rintro rfl; simp [R.names] at h

theorem S.tr_unnamed {σ:Sg} {k:Nat} (x:Nat×Nat) {s:S} (h:s.names k=false):s.tr (lay σ (.l k) x)=s.tr σ:=by
 have hl:∀ r:R,r.names k=false->lay σ (.l k) x r=σ r:=fun r hr=>by simp [lay,R.ne_of_names hr]
 cases s with
 | p r o=>simp only [S.names] at h; simp only [S.tr,adr,hl r h]
 | sl r o a c=>simp only [S.names] at h; simp only [S.tr,adr,hl r h]
 | fn f cs =>
  simp only [S.names,List.any_eq_false] at h
  simp only [S.tr]
  congr 2
  refine List.map_congr_left fun y hy=>?_
  have:=h y hy
  simp only [adr,hl y.1 (by simpa using this)]
 | _=>rfl

theorem trs_unnamed {σ:Sg} {k:Nat} (x:Nat×Nat) {xs:List S} (h:xs.any (S.names k)=false):trs (lay σ (.l k) x) xs=trs σ xs:=by
 simp only [List.any_eq_false] at h
 simp only [trs]; congr 1
 exact List.map_congr_left fun y hy=>S.tr_unnamed x (by simpa using h y hy)

theorem C.tr_unnamed {σ:Sg} {k:Nat} (x:Nat×Nat) {c:C} (h:c.names k=false):c.tr (lay σ (.l k) x)=c.tr σ:=by
 cases c with
 | s y=>exact S.tr_unnamed x h
 | agg xs=>simp only [C.tr,trs_unnamed x h]

theorem V.tr_unnamed {σ:Sg} {k:Nat} (x:Nat×Nat) {v:V} (h:v.names k=false):v.tr (lay σ (.l k) x)=v.tr σ:=by
 cases v with
 | s y=>exact S.tr_unnamed x h
 | agg xs=>simp only [V.tr,trs_unnamed x h]
 | tup cs =>
  simp only [V.names,List.any_eq_false] at h
  simp only [V.tr]; congr 2
  exact List.map_congr_left fun y hy=>C.tr_unnamed x (by simpa using h y hy)

theorem TRel.kill {σ:Sg} {t:List V} {tmps:Array Value} {n m:Nat} (h:TRel σ t tmps n m) (k:Nat) (x:Nat×Nat):TRel (lay σ (.l k) x) (t.map (V.kill k)) tmps n m:=by
 refine ⟨by simp [h.size],fun i v hi=>?_⟩
 rw [List.getElem?_map] at hi
 cases hu:t[i]? with
 | none=>simp [hu] at hi
 | some u =>
  simp only [hu,Option.map_some,Option.some.injEq] at hi
  obtain ⟨h1,y,h2,h3⟩:=h.at_ i u hu
  subst hi
  unfold V.kill
  split
  ·exact ⟨rfl,y,h2, .inl rfl⟩
  ·rename_i hn
   refine ⟨h1,y,h2, ?_⟩
   rcases h3 with h3|h3
   ·exact .inl h3
   ·exact .inr (by rw [h3,V.tr_unnamed x (by simpa using hn)])

theorem TRel.kill' {σ:Sg} {t:List V} {tmps:Array Value} {n m:Nat} (h:TRel σ t tmps n m) (k:Nat):TRel σ (t.map (V.kill k)) tmps n m:=by
 have:=h.kill k (σ (.l k))
 have e:lay σ (.l k) (σ (.l k))=σ:=by funext r; unfold lay; split; (rename_i e; rw [e]); rfl
 rwa [e] at this

theorem OkBlk.move' {σ σ':Sg} {w w':World} {r:R} {B:Blk} (h:OkBlk σ w r B) (hr:σ' r=σ r) (htr:∀ s∈B.cells,s.tr σ'=s.tr σ)
  (hs:w.heap.size<=w'.heap.size) (hb:B.st≠.dead->w'.heap[(σ r).1]?=w.heap[(σ r).1]?):OkBlk σ' w' r B:=by
 unfold OkBlk at *
 have hH:B.st≠.dead->Holds σ w r B.cells->Holds σ' w' r B.cells:=fun hd hH i s hi hu=>by
  have h1:=hH i s hi hu
  rw [adr_congr i hr,htr s (List.mem_of_getElem? hi),cell?_block (w:=w) (by exact hb hd)]
  exact h1
 cases hst:B.st with
 | dead=>simp only [hst]
 | ro=>simp only [hst] at *; rw [hr]; exact ⟨by omega,hH (by simp) h.2⟩
 | rw =>
  simp only [hst] at *
  rw [hr]
  refine ⟨by omega,hH (by simp) h.2.1,h.2.2.1,fun i hi=>?_⟩
  rw [adr_congr i hr,cell?_block (w:=w) (by exact hb (by simp)),frozen?_block (w:=w) (by exact hb (by simp))]
  exact h.2.2.2 i hi

theorem blk_setl {h ls:List Blk} {k:Nat} {B B':Blk} (hb:ls[k]?=some B) (r:R):blk h (ls.set k B') r=if r=.l k then some B' else blk h ls r:=by
 cases r with
 | g j=>simp [blk]
 | l j =>
  simp only [blk,R.l.injEq,List.getElem?_set]
  by_cases e:k=j
  ·subst e
   have:k<ls.length:=(List.getElem?_eq_some_iff.1 hb).1
   simp [this]
  ·rw [if_neg e,if_neg (Ne.symm e)]

section
variable {σ0:Sg} {h0:List Blk} {w0:Base} {σ:Sg} {h ls:List Blk} {w:World}

theorem Inv.swap (H:Inv σ0 h0 w0 σ h ls w) {k:Nat} {B B':Blk} (hb:ls[k]?=some B) (hst:B.st=.rw) (hst':B'.st=.rw) (hok:OkBlk σ w (.l k) B') (hv:vals h.length ls.length B'.cells=true) :
  Inv σ0 h0 w0 σ h (ls.set k B') w:=by
 refine ⟨⟨?_, ?_, ?_, ?_⟩,H.kept,H.len,H.old, ?_,H.new,H.live,H.gl⟩
 ·intro r X hX
  rw [blk_setl hb] at hX
  split at hX
  ·rename_i e; subst e; cases hX; exact hok
  ·exact H.sim.ok r X hX
 ·intro r1 r2 B1 B2 h1 h2 hne s1 s2
  rw [blk_setl hb] at h1 h2
  split at h1
  ·rename_i e1
   rw [if_neg (by rintro e2; exact hne (e1.trans e2.symm))] at h2
   subst e1
   exact H.sim.sep (.l k) r2 B B2 hb h2 hne hst s2
  ·split at h2
   ·rename_i e2; subst e2
    exact H.sim.sep r1 (.l k) B1 B h1 hb hne s1 (by rw [hst]; simp)
   ·exact H.sim.sep r1 r2 B1 B2 h1 h2 hne s1 s2
 ·exact H.sim.gval
 ·intro X hX
  rw [List.length_set]
  rcases List.mem_or_eq_of_mem_set hX with h1|h1
  ·exact H.sim.lval X h1
  ·subst h1; exact hv
 ·intro r X hX hs
  rw [blk_setl hb] at hX
  split at hX
  ·rename_i e; subst e; exact H.mine (.l k) B hb hst
  ·exact H.mine r X hX hs

theorem Inv.dead1 (H:Inv σ0 h0 w0 σ h ls w) {k:Nat} {B:Blk} (hb:ls[k]?=some B):Inv σ0 h0 w0 σ h (ls.set k ⟨.dead,B.cells,B.room⟩) w:=by
 have hX:∀ r X,blk h (ls.set k ⟨.dead,B.cells,B.room⟩) r=some X->X.st≠.dead->blk h ls r=some X:=fun r X hr hd=>by
  rw [blk_setl hb] at hr
  split at hr
  ·cases hr; exact absurd rfl hd
  ·exact hr
 refine ⟨⟨fun r X hr=>?_,fun r1 r2 B1 B2 h1 h2 hne s1 s2=>H.sim.sep r1 r2 B1 B2 (hX r1 B1 h1 (by rw [s1]; simp)) (hX r2 B2 h2 s2) hne s1 s2,H.sim.gval,fun X hX2=>?_⟩,H.kept,H.len,H.old,fun r X hr hs=>H.mine r X (hX r X hr (by rw [hs]; simp)) hs,H.new,H.live,H.gl⟩
 ·by_cases hd:X.st=.dead
  ·unfold OkBlk; rw [hd]; trivial
  ·exact H.sim.ok r X (hX r X hr hd)
 ·rw [List.length_set]
  rcases List.mem_or_eq_of_mem_set hX2 with h2|h2
  ·exact H.sim.lval X h2
  ·subst h2; exact H.sim.lval B (List.mem_of_getElem? hb)
theorem Inv.moved (H:Inv σ0 h0 w0 σ h ls w) {k:Nat} {B D:Blk} (hb:ls[k]?=some B) (hst:B.st=.rw) (hD:D.st=.dead) (hv:vals h.length ls.length D.cells=true) :
  Inv σ0 h0 w0 (lay σ (.l ls.length) (σ (.l k))) h (ls.set k D++[B]) w:=by
 have hkl:k<ls.length:=(List.getElem?_eq_some_iff.1 hb).1
 have hA:Agree h.length ls.length σ (lay σ (.l ls.length) (σ (.l k))):=agree_lay _ _ _ _ _ (Nat.le_refl _)
 have hn:lay σ (.l ls.length) (σ (.l k)) (.l ls.length)=σ (.l k):=by simp [lay]
 have hX:∀ r X,blk h (ls.set k D++[B]) r=some X->X.st≠.dead->(r=.l ls.length/\X=B)\/(r≠.l ls.length/\r≠.l k/\blk h ls r=some X/\lay σ (.l ls.length) (σ (.l k)) r=σ r):=fun r X hr hd=>by
  rw [blk_append,List.length_set] at hr
  split at hr
  ·rename_i e; cases hr; exact .inl ⟨e,rfl⟩
  ·rename_i e
   rw [blk_setl hb] at hr
   split at hr
   ·cases hr; exact absurd hD hd
   ·rename_i e2
    exact .inr ⟨e,e2,hr,hA r (blk_val hr)⟩
 refine ⟨⟨fun r X hr=>?_,fun r1 r2 B1 B2 h1 h2 hne s1 s2=>?_,H.sim.gval,fun X hX2=>?_⟩,H.kept,H.len,fun k' hk=>H.old k' hk,fun r X hr hs=>?_,fun k' X hk hX2 hd=>H.new k' X hk hX2 hd,H.live,H.gl⟩
 ·by_cases hd:X.st=.dead
  ·unfold OkBlk; rw [hd]; trivial
  ·rcases hX r X hr hd with ⟨rfl,rfl⟩|⟨_,_,e,e2⟩
   ·have q:=H.sim.ok (.l k) X hb
    have hv2:=H.sim.lval X (List.mem_of_getElem? hb)
    simp only [vals,List.all_eq_true] at hv2
    unfold OkBlk Holds adr at q ⊢
    rw [hst] at q ⊢
    simp only [hn]
    exact ⟨q.1,fun i s hi hu=>(q.2.1 i s hi hu).trans (by rw [S.tr_congr hA s (hv2 s (List.mem_of_getElem? hi))]),q.2.2.1,q.2.2.2⟩
   ·exact (H.sim.ok r X e).move e2 hA (H.sim.bval e) (Nat.le_refl _) (fun _=>rfl)
 ·rcases hX r1 B1 h1 (by rw [s1]; simp) with ⟨rfl,rfl⟩|⟨n1,n2,e,e2⟩<;>rcases hX r2 B2 h2 s2 with ⟨rfl,rfl⟩|⟨m1,m2,f,f2⟩
  ·exact absurd rfl hne
  ·rw [hn,f2]; exact H.sim.sep (.l k) r2 B1 B2 hb f (Ne.symm m2) s1 s2
  ·rw [hn,e2]; exact H.sim.sep r1 (.l k) B1 B2 e hb n2 s1 s2
  ·rw [e2,f2]; exact H.sim.sep r1 r2 B1 B2 e f hne s1 s2
 ·rw [List.length_append,List.length_set]
  rcases List.mem_append.1 hX2 with h1|h1
  ·rcases List.mem_or_eq_of_mem_set h1 with h2|h2
   ·exact vals_mono (Nat.le_refl _) (by simp) (H.sim.lval X h2)
   ·subst h2; exact vals_mono (Nat.le_refl _) (by simp) hv
  ·simp only [List.mem_singleton] at h1
   subst h1; exact vals_mono (Nat.le_refl _) (by simp) (H.sim.lval X (List.mem_of_getElem? hb))
 ·rcases hX r X hr (by rw [hs]; simp) with ⟨rfl,rfl⟩|⟨_,_,e,e2⟩
  ·rw [hn]
   rcases H.mine (.l k) X hb hst with ⟨_,_,q,_⟩|h2
   ·cases q
   ·exact .inr h2
  ·rw [e2]; exact H.mine r X e hs

theorem Inv.regrow (H:Inv σ0 h0 w0 σ h ls w) {k:Nat} {B:Blk} (hb:ls[k]?=some B) (_hst:B.st=.rw) (hun:unnamed k ls=true) (cells:List S) (hn:cells.any (S.names k)=false)
  (hv:vals h.length ls.length cells=true) (extra:Array Value) (T:TypeId) :
  Inv σ0 h0 w0 (lay σ (.l k) (w.heap.size,0)) h (ls.set k ⟨.rw,cells,cells.length+extra.size⟩) (w.alloc (.cells (trs σ cells++extra) T)):=by
 have hold:∀ b,b<w.heap.size->(w.alloc (.cells (trs σ cells++extra) T)).heap[b]?=w.heap[b]?:=fun b hb=>Go.RowKit.Below.heap_alloc _ _ _ hb
 have hlt:∀ r B,blk h ls r=some B->B.st≠.dead->(σ r).1<w.heap.size:=fun r B hb hd=>by
  have:=H.sim.ok r B hb
  unfold OkBlk at this
  cases hst:B.st with
  | dead=>exact absurd hst hd
  | ro=>rw [hst] at this; exact this.1
  | rw=>rw [hst] at this; exact this.1
 have hsame:∀ r,r≠.l k->lay σ (.l k) (w.heap.size,0) r=σ r:=fun r hr=>by simp [lay,hr]
 have htr:∀ r X,blk h ls r=some X->∀ s∈X.cells,s.tr (lay σ (.l k) (w.heap.size,0))=s.tr σ:=fun r X hX s hs=>by
  refine S.tr_unnamed _ ?_
  cases r with
  | g j =>
   have h1:=H.sim.gval X (List.mem_of_getElem? hX)
   simp only [vals,List.all_eq_true] at h1
   have h2:=h1 s hs
   cases s with
   | p r o=>cases r<;>simp [S.names,R.names,S.val,R.val] at h2 ⊢
   | sl r o a c=>cases r<;>simp [S.names,R.names,S.val,R.val] at h2 ⊢
   | fn f cs =>
    simp only [S.val,List.all_eq_true] at h2
    simp only [S.names,List.any_eq_false]
    intro y hy
    have:=h2 y hy
    obtain ⟨r,o⟩:=y
    cases r<;>simp [R.names,R.val] at this ⊢
   | _=>rfl
  | l j =>
   simp only [unnamed,List.all_eq_true] at hun
   have:=hun X (List.mem_of_getElem? hX) s hs
   simpa using this
 refine ⟨⟨?_, ?_, ?_, ?_⟩,⟨⟨?_, ?_, ?_, ?_⟩, ?_⟩, ?_, ?_, ?_, ?_, ?_,H.gl⟩
 ·intro r X hX
  rw [blk_setl hb] at hX
  split at hX
  ·rename_i e
   subst e
   cases hX
   unfold OkBlk
   simp only
   have hadr:∀ i,adr (lay σ (.l k) (w.heap.size,0)) (.l k) i=⟨w.heap.size,i,none⟩:=fun i=>by simp [adr,lay]
   have hsz:(trs σ cells).size=cells.length:=by simp [trs]
   refine ⟨by simp [lay],fun i s hi _=>?_,by omega,fun i hi=>?_⟩
   ·rw [hadr,World.cell?_alloc_new]
    have hil:i<cells.length:=(List.getElem?_eq_some_iff.1 hi).1
    have hns:s.names k=false:=by
     simp only [List.any_eq_false] at hn; simpa using hn s (List.mem_of_getElem? hi)
    rw [Array.getElem?_append_left (by omega),S.tr_unnamed _ hns]
    simp [trs,hi]
   ·rw [hadr,World.cell?_alloc_new,World.frozen?_alloc_new]
    refine ⟨?_,rfl⟩
    rw [Array.getElem?_eq_getElem (by simp; omega)]; rfl
  ·rename_i e
   exact (H.sim.ok r X hX).move' (hsame r e) (htr r X hX) (by simp) (fun hd=>hold _ (hlt r X hX hd))
 ·intro r1 r2 B1 B2 hb1 hb2 hne hs1 hs2
  rw [blk_setl hb] at hb1 hb2
  split at hb1
  ·rename_i e1
   rw [if_neg (by rintro e2; exact hne (e1.trans e2.symm))] at hb2
   subst e1
   rw [hsame r2 (Ne.symm hne)]
   have:=hlt r2 B2 hb2 hs2
   simp only [lay,if_true]; omega
  ·rename_i e1
   rw [hsame r1 e1]
   have:=hlt r1 B1 hb1 (by rw [hs1]; simp)
   split at hb2
   ·rename_i e2; subst e2; simp only [lay,if_true]; omega
   ·rename_i e2
    rw [hsame r2 e2]
    exact H.sim.sep r1 r2 B1 B2 hb1 hb2 hne hs1 hs2
 ·exact H.sim.gval
 ·intro X hX
  rw [List.length_set]
  rcases List.mem_or_eq_of_mem_set hX with h1|h1
  ·exact H.sim.lval X h1
  ·subst h1; exact hv
 ·exact H.kept.same.os
 ·exact H.kept.same.tape
 ·exact H.kept.same.output
 ·have:=H.kept.same.size; simp; omega
 ·intro b hlt' hno
  rw [hold b (by have:=H.kept.same.size; have:=w0.lt b hlt'; omega)]
  exact H.kept.keep b hlt' hno
 ·exact H.len
 ·intro j hj; rw [hsame (.g j) (by simp)]; exact H.old j hj
 ·intro r X hX hs
  rw [blk_setl hb] at hX
  split at hX
  ·rename_i e; subst e; right; simp only [lay,if_true]; exact Base.not H.kept.same.size
  ·rename_i e; rw [hsame r e]; exact H.mine r X hX hs
 ·intro j X hj hX hd; rw [hsame (.g j) (by simp)]; exact H.new j X hj hX hd
 ·exact H.live

end

theorem put_append (xs ys vs:List S) (h:vs.length=ys.length):put (xs++ys) xs.length vs=xs++vs:=by
 induction vs generalizing xs ys with
 | nil=>simp only [List.length_nil] at h; rw [List.eq_nil_of_length_eq_zero h.symm]; rfl
 | cons v vs ih =>
  cases ys with
  | nil=>simp at h
  | cons y ys =>
   simp only [put]
   have e:(xs++y::ys).set xs.length v=(xs++[v])++ys:=by simp [List.set_append]
   rw [e,show xs.length+1=(xs++[v]).length by simp,ih (xs++[v]) ys (by simpa using h)]
   simp

section
variable {P:Program} {o:Oper} {Γ:FuncId->FSpec}

theorem append_in {T U e f:TypeId} {i:TypeInfo} (hT:P.underlying T=some (.slice e)) (hU:P.underlying U=some (.slice f)) (hi:P.info? e=some i) (ty:TypeId) (a:Addr) (sLen sCap n:Nat) (x:Value) (new:Array Value) (w w':World)
  (hl:(Builtin.lenOf x).run P w=.ok n w) (hf:(Builtin.firstCells i.size n x).run P w=.ok new w) (hfit:sLen+n<=sCap) (hs:(storeCells (a.add (sLen*i.size)) new.toList).run P w=.ok () w') :
  (Builtin.append_ #[T,U] ty #[.slice (some a) sLen sCap,x]).run P w=.ok (.slice (some a) (sLen+n) sCap) w':=by
 simp [Builtin.append_,run_underlying hT,run_underlying hU,sizeOf,typeInfo,hi,hl,hf,hfit,hs]

theorem append_grow {T U e f:TypeId} {i:TypeInfo} {z:Value} (hT:P.underlying T=some (.slice e)) (hU:P.underlying U=some (.slice f)) (hi:P.info? e=some i) (hz:i.zero=some z) (hb:i.bytes≠0) (ty:TypeId) (a:Option Addr) (sLen sCap n:Nat) (x:Value) (old new:Array Value) (w:World)
  (hl:(Builtin.lenOf x).run P w=.ok n w) (hf:∀ w',w'.heap=w.heap->(Builtin.firstCells i.size n x).run P w'=.ok new w') (ho:∀ w',w'.heap=w.heap->(Builtin.firstCells i.size sLen (.slice a sLen sCap)).run P w'=.ok old w')
  (hfit:¬ sLen+n<=sCap) (hsz:(sLen+n)*i.bytes<=2^47) :
  ∃ c,sLen+n<=c/\(Builtin.append_ #[T,U] ty #[.slice a sLen sCap,x]).run P w =
   .ok (.slice (some ⟨w.heap.size,0,none⟩) (sLen+n) c) ({ w with drawn:=w.drawn+1 }.alloc (.cells (old++new++Builtin.zeroCells z.cells (c-(sLen+n))) e)):=by
 have hg:=growslice_fits (need:=sLen+n) (old:=sCap) (bytes:=i.bytes) (by omega) (by simpa using hsz)
 have hg':¬ (2^48<Builtin.nextslicecap (sLen+n) sCap*i.bytes):=by simpa using hg
 refine ⟨(sLen+n)+w.tape w.drawn (.appendCap (sLen+n) sCap e)%(2^63-(sLen+n)),by omega, ?_⟩
 have h1:=ho w.drew rfl
 have h2:=hf w.drew rfl
 simp only [Builtin.append_,List.getElem?_toArray,List.getElem?_cons_zero,List.getElem?_cons_succ,Sem.run_bind,run_underlying hT,run_underlying hU,Result.andThen_ok,sizeOf,typeInfo,run_program,hi,Sem.run_pure,Bool.false_eq_true,if_false,hl,if_neg hfit,
  Bool.not_false,if_true]
 simp [hb,hg',Question.forced,Question.cut,h1,h2,zeroValue,typeInfo,hi,hz,newRow]

theorem zeroCells_size (z:Array Value) (n:Nat):(Builtin.zeroCells z n).size=n*z.size:=by simp [Builtin.zeroCells]

theorem acts_app {T U e f:TypeId} {x y:Operand} {x' y':Opd} {i:TypeInfo} {z:List S} {c:Call} (ho:o.op=.call c) (hc:c.callee=.builtin .append) (ha:c.args.toList=[x,y]) (hat:c.argTypes.toList=[T,U])
  (hTt:P.underlying T=some (.slice e)) (hU:P.underlying U=some (.slice f)) (hi:P.info? e=some i) (hz:zeroOf P e=some z) (hb:i.bytes≠0) (hx:compX x=some x') (hy:compX y=some y'):Acts P Γ o (.app i.size i.bytes x' y'):=by
 have ha':c.args=#[x,y]:=by rw [<-ha]
 have hat':c.argTypes=#[T,U]:=by rw [<-hat]
 intro σ0 h0 w0 σ t a ls h w K next Q H hT hK hn
 simp only [iwp] at hK
 split at hK
 ·rename_i bx sy hqx hqy
  obtain ⟨_,e1⟩:=ev_is hT hx
  obtain ⟨_,e2⟩:=ev_is hT hy
  rw [hqx] at e1; rw [hqy] at e2
  split at hK
  ·rename_i n new hsh
   obtain ⟨⟨hkn,hes⟩,hK⟩:=hK
   have hyv:=e2.eq (by simpa using shows_known hsh)
   simp only [V.tr] at hyv
   obtain ⟨k0,v,hk0,hiz,hcells,hvz,_,hzl⟩:=zeroOf_run hz σ
   have hki:k0=i:=by rw [hk0] at hi; cases hi; rfl
   rw [hki] at hk0 hiz hzl
   clear hki
   have hall:∀ w',w'.heap=w.heap->Sim σ h ls w':=fun w' hw' =>
    ⟨fun r B hB=>(H.sim.ok r B hB).move rfl (n:=h.length) (m:=ls.length) (fun _ _=>rfl) (H.sim.bval hB) (by rw [hw']; exact Nat.le_refl _) (fun _=>by rw [hw']),H.sim.sep,H.sim.gval,H.sim.lval⟩
   obtain ⟨l1,_,l3⟩:=shows_run (P:=P) H.sim hsh hkn (shows_known hsh) 0 (Nat.zero_le _)
   have hnew:sub new 0 (n*i.size)=new:=sub_all l3
   have l2:∀ w',w'.heap=w.heap->(Builtin.firstCells i.size n (sy.tr σ)).run P w'=.ok (trs σ new) w':=fun w' hw'=>by
    have:=(shows_run (P:=P) (hall w' hw') hsh hkn (shows_known hsh) n (Nat.le_refl _)).2.1
    rwa [hnew] at this
   split at hK
   ·-- a nil slice
    obtain ⟨⟨hsz,hn0,hvn⟩,hK⟩:=hK
    have hxv:=e1.eq (by simp)
    simp only [V.tr,S.tr] at hxv
    obtain ⟨cc,hcc,hrun⟩:=append_grow (P:=P) hTt hU hi hiz hb o.type none 0 0 n (sy.tr σ) #[] (trs σ new) w l1 l2 (fun w' _=>by simp [Builtin.firstCells]) (by omega) (by simpa using hsz)
    simp only [Nat.zero_add,Array.empty_append] at hcc hrun
    obtain ⟨σ',H',hT',hadr⟩:=new_own (H.drawn (w.drawn+1)) hT new e (Builtin.zeroCells v.cells (cc-n)) hvn
    have hroom:new.length+(Builtin.zeroCells v.cells (cc-n)).size=cc*i.size:=by
     rw [zeroCells_size,hcells,trs_size,hzl,l3,<-Nat.add_mul]
     congr 1; omega
    rw [hroom] at H' hT'
    refine acts_of_value (x:=.slice (some ⟨w.heap.size,0,none⟩) n cc) ?_ (hn σ' t _ _ _ h _ H' hT' ?_ (.inr ?_) (hK cc hcc))
    ·simp [execOp,ho,resolve,hc,ha',hat',invoke,builtin,hxv,hyv,hrun]
    ·simp [V.val,S.val,R.val]
    ·simp [V.tr,S.tr,hadr]
   ·-- a slice of the function's own
    rename_i k len cap
    have hxv:=e1.eq (by simp)
    simp only [V.tr,S.tr] at hxv
    split at hK
    ·rename_i B hB
     obtain ⟨⟨hrw,hlen,hroom,hsz,hkB,hvn⟩,hK⟩:=hK
     have hklt:k<ls.length:=(List.getElem?_eq_some_iff.1 hB).1
     have hBok:=H.sim.ok (.l k) B hB
     unfold OkBlk at hBok
     rw [hrw] at hBok
     have hvB:vals h.length ls.length B.cells=true:=H.sim.lval B (List.mem_of_getElem? hB)
     have hvall:vals h.length ls.length (B.cells++new)=true:=by
      simp only [vals,List.all_append,Bool.and_eq_true]; exact ⟨hvB,hvn⟩
     have hlall:(B.cells++new).length=(len+n)*i.size:=by rw [List.length_append,hlen,l3,<-Nat.add_mul]
     by_cases hfit:len+n<=cap
     ·-- it lies in its place
      have hfit':(len+n)*i.size<=cap*i.size:=Nat.mul_le_mul_right _ hfit
      have H1:Inv σ0 h0 w0 σ h (ls.set k ⟨.rw,B.cells++List.replicate new.length .u,B.room⟩) w:=by
       refine H.swap hB hrw rfl ?_ ?_
       ·unfold OkBlk
        simp only
        refine ⟨hBok.1,fun j s hj hu=>?_,by simp; rw [<-List.length_append,hlall]; omega,hBok.2.2.2⟩
        by_cases hjl:j<B.cells.length
        ·rw [List.getElem?_append_left hjl] at hj
         exact hBok.2.1 j s hj hu
        ·rw [List.getElem?_append_right (by omega)] at hj
         rw [List.getElem?_replicate] at hj
         split at hj
         ·cases hj; exact absurd rfl hu
         ·cases hj
       ·simp only [vals,List.all_append,Bool.and_eq_true]
        exact ⟨hvB,by simp [List.all_replicate,S.val]⟩
      have hb1:blk h (ls.set k ⟨.rw,B.cells++List.replicate new.length .u,B.room⟩) (.l k)=some ⟨.rw,B.cells++List.replicate new.length .u,B.room⟩:=by
       rw [blk_setl hB,if_pos rfl]
      obtain ⟨w',hr,H2⟩:=storeCells_run (P:=P) (.l k) (len*i.size) new 0 h _ w _ H1 hb1 rfl (by simp; omega) hkn (by
       rw [List.length_set]; simp only [List.all_eq_true]; intro s hs
       simp only [vals,List.all_eq_true] at hvn
       exact hvn s hs)
      simp only [Nat.add_zero,setH,setL,List.set_set] at H2
      rw [<-hlen,put_append _ _ _ (by simp)] at H2
      have hB2:(ls.set k ⟨.rw,B.cells++new,B.room⟩)[k]?=some ⟨.rw,B.cells++new,B.room⟩:=by simp [hklt]
      have H3:Inv σ0 h0 w0 σ h (ls.set k ⟨.rw,B.cells++new,cap*i.size⟩) w':=by
       have h4:=H2.sim.ok (.l k) _ (by simpa [blk] using hB2)
       unfold OkBlk at h4
       simp only at h4
       have:=H2.swap (B':=⟨.rw,B.cells++new,cap*i.size⟩) hB2 rfl rfl (by
        unfold OkBlk
        simp only
        refine ⟨h4.1,h4.2.1,by rw [hlall]; exact hfit',fun j hj=>h4.2.2.2 j (by omega)⟩) (by rw [List.length_set]; exact hvall)
       simpa [List.set_set] using this
      have hadr:(adr σ (.l k) 0).add (len*i.size)=adr σ (.l k) (len*i.size):=by rw [adr_add,Nat.zero_add]
      have hs:(storeCells ((adr σ (.l k) 0).add (len*i.size)) (trs σ new).toList).run P w=.ok () w':=by
       rw [hadr]; simpa [trs] using hr
      have hrun:=append_in (P:=P) hTt hU hi o.type (adr σ (.l k) 0) len cap n (sy.tr σ) (trs σ new) w w' l1 (l2 w rfl) hfit hs
      cases hun0:(unnamed k ls&&new.all (fun s=>!s.names k)) with
      | false =>
       rw [hun0] at hK
       simp only [bcase,Bool.false_eq_true,if_false] at hK
       have hA:Agree h.length ls.length σ (lay σ (.l ls.length) (σ (.l k))):=agree_lay _ _ _ _ _ (Nat.le_refl _)
       have H4:=H3.moved (k:=k) (B:=⟨.rw,B.cells++new,cap*i.size⟩) (D:=⟨.dead,B.cells,B.room⟩) (by simp [hklt]) rfl rfl (by rw [List.length_set]; exact hvB)
       rw [List.length_set,List.set_set] at H4
       refine acts_of_value (x:=.slice (some (adr σ (.l k) 0)) (len+n) cap) ?_ (hn _ _ _ _ _ h w' H4 ?_ ?_ (.inr ?_) (hK cap hfit))
       ·simp [execOp,ho,resolve,hc,ha',hat',invoke,builtin,hxv,hyv,hrun]
       ·exact hT.mono hA (Nat.le_refl _) (by simp)
       ·simp [V.val,S.val,R.val]
       ·simp [V.tr,S.tr,adr,lay]
      | true =>
      rw [hun0] at hK
      simp only [bcase,if_true] at hK
      refine acts_of_value (x:=.slice (some (adr σ (.l k) 0)) (len+n) cap) ?_ (hn σ _ _ _ _ h w' H3 ?_ ?_ (.inr rfl) (hK cap hfit))
      ·simp [execOp,ho,resolve,hc,ha',hat',invoke,builtin,hxv,hyv,hrun]
      ·rw [List.length_set]; exact hT.kill' k
      ·simp [V.val,S.val,R.val,hklt]
     ·-- it is made anew
      have hold:∀ w',w'.heap=w.heap->(Builtin.firstCells i.size len (.slice (some (adr σ (.l k) 0)) len cap)).run P w'=.ok (trs σ B.cells) w':=fun w' hw'=>by
       have h5:=run_loadCells_sub (P:=P) (hall w' hw') (r:=.l k) hB (by rw [hrw]; simp) (o:=0) (n:=len*i.size) (by omega) (by rw [sub_all hlen]; exact hkB)
       rw [sub_all hlen] at h5
       simpa [Builtin.firstCells] using h5
      obtain ⟨cc,hcc,hrun⟩:=append_grow (P:=P) hTt hU hi hiz hb o.type (some (adr σ (.l k) 0)) len cap n (sy.tr σ) (trs σ B.cells) (trs σ new) w l1 l2 hold hfit hsz
      have hroom':(B.cells++new).length+(Builtin.zeroCells v.cells (cc-(len+n))).size=cc*i.size:=by
       rw [zeroCells_size,hcells,trs_size,hzl,hlall,<-Nat.add_mul]
       congr 1; omega
      have htrs:trs σ (B.cells++new)=trs σ B.cells++trs σ new:=by simp [trs]
      cases hun0:(unnamed k ls&&new.all (fun s=>!s.names k)) with
      | false =>
       rw [hun0] at hK
       simp only [bcase,Bool.false_eq_true,if_false] at hK
       obtain ⟨σ',H1,hT',hadr⟩:=new_own (H.drawn (w.drawn+1)) hT (B.cells++new) e (Builtin.zeroCells v.cells (cc-(len+n))) hvall
       rw [hroom'] at H1 hT'
       rw [htrs] at H1
       have H4:=H1.dead1 (k:=k) (B:=B) (by rw [List.getElem?_append_left hklt]; exact hB)
       rw [List.set_append_left _ _ hklt] at H4
       refine acts_of_value (x:=.slice (some ⟨w.heap.size,0,none⟩) (len+n) cc) ?_ (hn _ _ _ _ _ h _ H4 ?_ ?_ (.inr ?_) (hK cc hcc))
       ·simp [execOp,ho,resolve,hc,ha',hat',invoke,builtin,hxv,hyv,hrun]
       ·simpa using hT'
       ·simp [V.val,S.val,R.val]
       ·simp [V.tr,S.tr,hadr]
      | true =>
      rw [hun0] at hK
      simp only [bcase,if_true] at hK
      simp only [Bool.and_eq_true] at hun0
      obtain ⟨hun,hnn⟩:=hun0
      have hnall:(B.cells++new).any (S.names k)=false:=by
       simp only [unnamed,List.all_eq_true] at hun
       simp only [List.all_eq_true] at hnn
       simp only [List.any_eq_false,List.mem_append]
       rintro s (hs|hs)
       ·simpa using hun B (List.mem_of_getElem? hB) s hs
       ·simpa using hnn s hs
      have H':=(H.drawn (w.drawn+1)).regrow hB hrw hun (B.cells++new) hnall hvall (Builtin.zeroCells v.cells (cc-(len+n))) e
      rw [hroom'] at H'
      rw [htrs] at H'
      refine acts_of_value (x:=.slice (some ⟨w.heap.size,0,none⟩) (len+n) cc) ?_ (hn _ _ _ _ _ h _ H' ?_ ?_ (.inr ?_) (hK cc hcc))
      ·simp [execOp,ho,resolve,hc,ha',hat',invoke,builtin,hxv,hyv,hrun]
      ·rw [List.length_set]; exact hT.kill k _
      ·simp [V.val,S.val,R.val,hklt]
      ·simp [V.tr,S.tr,adr,lay]
    ·exact hK.elim
   ·exact hK.elim
  ·exact hK.elim
 ·exact hK.elim

end
end Go.D

