/- Soundness of the instructions that only look: aggregates that are built,slices of slices; all of them together. -/
import Derived.Test.YtcdfofeolgbnbaaGreatZ1
import Derived.ChangeKeysEq
import Derived.Laws.StructEq
/- Soundness of the instructions that only look: loads,parts,tests of equality,slices. -/
namespace Go.D
set_option linter.all false
variable [Tabs]
open Go.D

theorem trs_sub (σ:Sg) (xs:List S) (o n:Nat):(trs σ xs).extract o (o+n)=trs σ (sub xs o n):=by
 simp [trs,sub,List.map_take,List.map_drop]
theorem trs_size (σ:Sg) (xs:List S):(trs σ xs).size=xs.length:=by simp [trs]
theorem trs_get (σ:Sg) (xs:List S) (o:Nat):(trs σ xs)[o]?=(xs[o]?).map (S.tr σ):=by simp [trs]

theorem vals_sub {n m o k:Nat} {xs:List S} (h:vals n m xs=true):vals n m (sub xs o k)=true:=by
 simp only [vals,List.all_eq_true] at *
 exact fun x hx=>h x (List.mem_of_mem_drop (List.mem_of_mem_take hx))
theorem vals_get {n m o:Nat} {xs:List S} {s:S} (h:vals n m xs=true) (hs:xs[o]?=some s):s.val n m=true:=by
 simp only [vals,List.all_eq_true] at h; exact h s (List.mem_of_getElem? hs)

section
variable {P:Program} {o:Oper} (w:World)

theorem run_isAgg_some {T:TypeId} {n:Nat} (h:shapeOf P T=some (some n)):(isAgg T).run P w=.ok true w/\(sizeOf T).run P w=.ok n w:=by
 unfold shapeOf at h
 split at h
 ·rename_i i fs hi hu; cases h; exact ⟨by simp [isAgg,run_underlying hu],by simp [sizeOf,typeInfo,hi]⟩
 ·rename_i i n e hi hu; cases h; exact ⟨by simp [isAgg,run_underlying hu],by simp [sizeOf,typeInfo,hi]⟩
 ·cases h
 ·cases h
theorem run_isAgg_none {T:TypeId} (h:shapeOf P T=some none):(isAgg T).run P w=.ok false w:=by
 unfold shapeOf at h
 split at h
 ·cases h
 ·cases h
 ·rename_i i d h1 h2 hi hu
  simp only [isAgg,Sem.run_bind,run_underlying hu,Result.andThen_ok]
  rfl
 ·cases h

theorem run_part_some {T:TypeId} {n:Nat} (h:shapeOf P T=some (some n)) (σ:Sg) (xs:List S) (off:Nat) :
  (part T (trs σ xs) off).run P w=.ok (.agg (trs σ (sub xs off n))) w:=by
 have:=run_isAgg_some w h
 simp [part,this.1,this.2,trs_sub]
theorem run_part_none {T:TypeId} (h:shapeOf P T=some none) (σ:Sg) (xs:List S) (off:Nat) {s:S} (hs:xs[off]?=some s) :
  (part T (trs σ xs) off).run P w=.ok (s.tr σ) w:=by
 have:=run_isAgg_none w h
 simp [part,this,trs_get,hs]
end

section
variable {P:Program} {o:Oper}

theorem looks_fld {T:TypeId} {x:Operand} {y:Opd} {j:Nat} {fs:Array Field} {f:Field} {n:Option Nat} (ho:o.op=.field T x j) (hu:P.underlying T=some (.struct fs)) (hf:fs[j]?=some f)
  (hn:shapeOf P f.type=some n) (hx:compX x=some y):Looks P o (.fld y f.offset n):=by
 intro Γ σ t a ls h K hT hV hK
 obtain ⟨h1,h2⟩:=ev_is hT hx
 simp only [iwp] at hK
 split at hK
 ·rename_i xs hq
  rw [hq] at h1 h2
  have hv:=h2.eq (by simp)
  split at hK
  ·split at hK
   ·rename_i s hs
    refine ⟨_,_,hK,vals_get h1 hs,Is.mk _,fun w _=>?_⟩
    simp [execOp,ho,hv,V.tr,Instr.field,run_underlying hu,hf,asAgg,run_part_none w hn σ xs _ hs]
   ·exact hK.elim
  ·rename_i n
   refine ⟨_,_,hK.2,vals_sub h1,Is.mk _,fun w _=>?_⟩
   simp [execOp,ho,hv,V.tr,Instr.field,run_underlying hu,hf,asAgg,run_part_some w hn σ xs]
 ·exact hK.elim

theorem adr_add (σ:Sg) (r:R) (o n:Nat):(adr σ r o).add n=adr σ r (o+n):=by
 unfold Addr.add adr; split
 ·rename_i e; simp [e]
 ·simp [Nat.add_assoc]

theorem looks_ia {T e:TypeId} {x i:Operand} {y i':Opd} {arr:Option Nat} {k:TypeInfo} (ho:o.op=.indexAddr T x i)
  (hu:match arr with|some n=>P.underlying T=some (.array n e)|none=>P.underlying T=some (.slice e)) (hk:P.info? e=some k)
  (hx:compX x=some y) (hi:compX i=some i'):Looks P o (.ia arr k.size y i'):=by
 intro Γ σ t a ls h K hT hV hK
 obtain ⟨h1,h2⟩:=ev_is hT hx
 obtain ⟨_,i2⟩:=ev_is hT hi
 simp only [iwp] at hK
 split at hK
 ·rename_i kk iv hqi
  rw [hqi] at i2
  have hiv:=i2.eq (by simp)
  split at hK
  ·rename_i n r off hq
   obtain ⟨hb,hK⟩:=hK
   rw [hq] at h1 h2
   have hv:=h2.eq (by simp)
   refine ⟨_,_,hK,h1,Is.mk _,fun w _=>?_⟩
   simp only at hu
   simp [execOp,ho,hv,hiv,V.tr,S.tr,Instr.indexAt,asIntOf,run_underlying hu,Instr.sureAddr,hb,sizeOf,typeInfo,hk,adr_add]
  ·rename_i r off n c hq
   obtain ⟨hb,hK⟩:=hK
   rw [hq] at h1 h2
   have hv:=h2.eq (by simp)
   refine ⟨_,_,hK,h1,Is.mk _,fun w _=>?_⟩
   simp only at hu
   simp [execOp,ho,hv,hiv,V.tr,S.tr,Instr.indexAt,asIntOf,run_underlying hu,hb,sizeOf,typeInfo,hk,adr_add]
  ·exact hK.elim
 ·exact hK.elim

theorem looks_ix {T e:TypeId} {x i:Operand} {y i':Opd} {len:Nat} {n:Option Nat} {k:TypeInfo} (ho:o.op=.index T x i)
  (hu:P.underlying T=some (.array len e)) (hk:P.info? e=some k) (hn:shapeOf P e=some n)
  (hx:compX x=some y) (hi:compX i=some i'):Looks P o (.ix len k.size n y i'):=by
 intro Γ σ t a ls h K hT hV hK
 obtain ⟨h1,h2⟩:=ev_is hT hx
 obtain ⟨_,i2⟩:=ev_is hT hi
 simp only [iwp] at hK
 split at hK
 ·rename_i xs kk iv hq hqi
  rw [hqi] at i2
  rw [hq] at h1 h2
  have hiv:=i2.eq (by simp)
  have hv:=h2.eq (by simp)
  obtain ⟨hb,hK⟩:=hK
  split at hK
  ·split at hK
   ·rename_i s hs
    refine ⟨_,_,hK,vals_get h1 hs,Is.mk _,fun w _=>?_⟩
    simp [execOp,ho,hv,hiv,V.tr,S.tr,Instr.index,asIntOf,run_underlying hu,hb,sizeOf,typeInfo,hk,run_part_none w hn σ xs _ hs]
   ·exact hK.elim
  ·rename_i n
   refine ⟨_,_,hK.2,vals_sub h1,Is.mk _,fun w _=>?_⟩
   simp [execOp,ho,hv,hiv,V.tr,S.tr,Instr.index,asIntOf,run_underlying hu,hb,sizeOf,typeInfo,hk,run_part_some w hn σ xs]
 ·exact hK.elim

theorem looks_len {T e:TypeId} {x:Operand} {y:Opd} {c:Call} (ho:o.op=.call c) (hc:c.callee=.builtin .len) (ha:c.args.toList=[x]) (hat:c.argTypes.toList=[T])
  (hu:P.underlying T=some (.slice e)) (hx:compX x=some y):Looks P o (.len y):=by
 have ha':c.args=#[x]:=by rw [<-ha]
 have hat':c.argTypes=#[T]:=by rw [<-hat]
 intro Γ σ t a ls h K hT hV hK
 obtain ⟨h1,h2⟩:=ev_is hT hx
 simp only [iwp] at hK
 split at hK
 ·rename_i r off n c hq
  rw [hq] at h1 h2
  have hv:=h2.eq (by simp)
  refine ⟨_,_,hK,rfl,Is.mk _,fun w _=>?_⟩
  simp [execOp,ho,hv,V.tr,S.tr,resolve,hc,ha',hat',invoke,builtin,Builtin.len_,run_underlying hu,goInt]
 ·rename_i hq
  rw [hq] at h1 h2
  have hv:=h2.eq (by simp)
  refine ⟨_,_,hK,rfl,Is.mk _,fun w _=>?_⟩
  simp [execOp,ho,hv,V.tr,S.tr,resolve,hc,ha',hat',invoke,builtin,Builtin.len_,run_underlying hu,goInt]
 ·rename_i a0 c0 hq
  rw [hq] at h1 h2
  have hv:=h2.eq (by simp)
  refine ⟨_,_,hK,rfl,Is.mk _,fun w _=>?_⟩
  simp [execOp,ho,hv,V.tr,S.tr,resolve,hc,ha',hat',invoke,builtin,Builtin.len_,run_underlying hu,goInt]
 ·exact hK.elim

theorem looks_mx {q:Bool} {x y:Operand} {x' y':Opd} {c:Call} (ho:o.op=.call c) (hc:c.callee=.builtin (if q then .max else .min)) (ha:c.args.toList=[x,y])
  (hx:compX x=some x') (hy:compX y=some y'):Looks P o (.mx q x' y'):=by
 have ha':c.args=#[x,y]:=by rw [<-ha]
 intro Γ σ t a ls h K hT hV hK
 obtain ⟨h1,h2⟩:=ev_is hT hx
 obtain ⟨_,y2⟩:=ev_is hT hy
 simp only [iwp] at hK
 split at hK
 ·rename_i k n k' m hq hq'
  rw [hq] at h2
  rw [hq'] at y2
  have hv:=h2.eq (by simp)
  have hw:=y2.eq (by simp)
  refine ⟨_,_,hK,rfl,Is.mk _,fun w _=>?_⟩
  cases q
  ·simp [execOp,ho,hv,hw,V.tr,S.tr,resolve,hc,ha',invoke,builtin,run_min_int2]
  ·simp [execOp,ho,hv,hw,V.tr,S.tr,resolve,hc,ha',invoke,builtin,run_max_int2]
 ·exact hK.elim

theorem capsOf_tr {σ:Sg} {t:List V} {a:Act} {n m:Nat} (hT:TRel σ t a.tmps n m):∀ {xs:List Operand} {ys:List Opd} {cs:List (R×Nat)},compXs xs=some ys->capsOf t ys=some cs ->
  xs.map a.eval=cs.map (fun x=>Value.pointer (some (adr σ x.1 x.2)))/\cs.all (fun x=>x.1.val n m)=true
 | [],ys,cs,hx,hc=>by
  simp only [compXs,Option.some.injEq] at hx; subst hx
  simp only [capsOf,Option.some.injEq] at hc; subst hc
  exact ⟨rfl,rfl⟩
 | x::xs,ys,cs,hx,hc=>by
  simp only [compXs] at hx
  cases h1:compX x with
  | none=>simp [h1] at hx
  | some y =>
   cases h2:compXs xs with
   | none=>simp [h1,h2] at hx
   | some l =>
    simp only [h1,h2,Option.some.injEq] at hx
    subst hx
    simp only [capsOf] at hc
    obtain ⟨v1,v2⟩:=ev_is hT h1
    split at hc
    ·rename_i r off l' hq hl
     simp only [Option.some.injEq] at hc
     subst hc
     obtain ⟨i1,i2⟩:=capsOf_tr hT h2 hl
     rw [hq] at v1 v2
     have hv:=v2.eq (by simp)
     refine ⟨by simp [hv,i1,V.tr,S.tr], ?_⟩
     simp only [List.all_cons,Bool.and_eq_true]
     exact ⟨v1,i2⟩
    ·cases hc

theorem looks_mkf {f:FuncId} {first caps:Array Operand} {ys:List Opd} (ho:o.op=.makeFunc (.func f) first caps) (hfirst:first.isEmpty=true) (hx:compXs caps.toList=some ys):Looks P o (.mkf f ys):=by
 intro Γ σ t a ls h K hT hV hK
 simp only [iwp] at hK
 split at hK
 ·rename_i cs hcs
  obtain ⟨h1,h2⟩:=capsOf_tr hT hx hcs
  refine ⟨_,_,hK,h2,Is.mk _,fun w _=>?_⟩
  have hf:first=#[]:=by simpa using hfirst
  have hcaps:caps.map a.eval=(cs.map fun x=>Value.pointer (some (adr σ x.1 x.2))).toArray:=by
   rw [<-h1,<-Array.toList_map,Array.toArray_toList]
  simp [execOp,ho,V.tr,S.tr,Instr.makeFunc,hf,hcaps]
 ·exact hK.elim

theorem known_of {s:S} (h:(V.s s).known=true):s≠.u:=by rintro rfl; simp [V.known] at h

theorem known_get {xs:List S} (h:known xs=true) {i:Nat} {s:S} (hs:xs[i]?=some s):s≠.u:=by
 rintro rfl
 simp only [known,List.all_eq_true] at h
 have:=h _ (List.mem_of_getElem? hs)
 simp at this

theorem sub_get {xs:List S} {o n i:Nat} (hi:i<n):(sub xs o n)[i]?=xs[o+i]?:=by
 simp [sub,List.getElem?_take,List.getElem?_drop,hi]
theorem sub_length {xs:List S} {o n:Nat} (h:o+n<=xs.length):(sub xs o n).length=n:=by
 simp [sub]; omega

theorem run_loadCells_sub {σ:Sg} {h ls:List Blk} {w:World} (hS:Sim σ h ls w) {r:R} {B:Blk} (hB:blk h ls r=some B) (hd:B.st≠.dead) {o n:Nat} (hn:o+n<=B.cells.length)
  (hk:known (sub B.cells o n)=true):(loadCells (adr σ r o) n).run P w=.ok (trs σ (sub B.cells o n)) w:=by
 have hlen:((sub B.cells o n).map (S.tr σ)).length=n:=by simp [sub_length hn]
 have:=run_loadCells_list (P:=P) w (adr σ r o) ((sub B.cells o n).map (S.tr σ)) (fun j v hj=>by
  rw [List.getElem?_map] at hj
  cases hs:(sub B.cells o n)[j]? with
  | none=>simp [hs] at hj
  | some s =>
   simp only [hs,Option.map_some,Option.some.injEq] at hj
   subst hj
   have hjn:j<n:=by have:=(List.getElem?_eq_some_iff.1 hs).1; rw [sub_length hn] at this; exact this
   rw [adr_add]
   exact hS.cell hB hd (by rw [<-sub_get hjn]; exact hs) (known_get hk hs))
 rw [hlen] at this
 exact this

theorem looks_ld {T:TypeId} {x:Operand} {y:Opd} {n:Option Nat} (ho:o.op=.load T x) (hn:shapeOf P T=some n) (hx:compX x=some y):Looks P o (.ld y n):=by
 intro Γ σ t a ls h K hT hV hK
 obtain ⟨h1,h2⟩:=ev_is hT hx
 simp only [iwp] at hK
 split at hK
 ·rename_i r off hq
  rw [hq] at h1 h2
  have hv:=h2.eq (by simp)
  split at hK
  ·rename_i B hB
   split at hK
   ·split at hK
    ·rename_i s hs
     obtain ⟨⟨hd,hkn⟩,hK⟩:=hK
     refine ⟨_,s.tr σ,hK,vals_get (hV r B hB) hs,Is.mk _,fun w hS=>?_⟩
     have hc:=hS.cell hB hd hs (known_of hkn)
     simp [execOp,ho,hv,V.tr,S.tr,Instr.loadAt,Instr.sureAddr,loadVar,run_isAgg_none w hn,hc]
    ·exact hK.elim
   ·obtain ⟨⟨hd,hlen,hkn⟩,hK⟩:=hK
    refine ⟨_,_,hK,vals_sub (hV r B hB),Is.mk _,fun w hS=>?_⟩
    have hc:=run_loadCells_sub (P:=P) hS hB hd hlen hkn
    simp [execOp,ho,hv,V.tr,S.tr,Instr.loadAt,Instr.sureAddr,loadVar,run_isAgg_some w hn,hc]
  ·exact hK.elim
 ·exact hK.elim

/-! ### numbers and bools -/
theorem looks_bin {op:BinOp} {T U:TypeId} {x y:Operand} {x' y':Opd} (ho:o.op=.binOp op T x y U) (hx:compX x=some x') (hy:compX y=some y'):Looks P o (.bin op x' y'):=by
 intro Γ σ t a ls h K hT hV hK
 obtain ⟨_,h2⟩:=ev_is hT hx
 obtain ⟨_,y2⟩:=ev_is hT hy
 simp only [iwp] at hK
 split at hK
 ·rename_i s s' hq hq'
  rw [hq] at h2; rw [hq'] at y2
  unfold bin1 at hK
  split at hK
  ·rename_i k n k' m
   have hv:=h2.eq (by simp)
   have hw:=y2.eq (by simp)
   cases op<;>simp only at hK<;>obtain ⟨hp,hK⟩:=hK<;>(try subst hp)
   case quo =>
    obtain ⟨rfl,hp⟩:=hp
    exact ⟨_,_,hK,rfl,Is.mk _,fun w _=>by simp [execOp,ho,hv,hw,V.tr,S.tr,eqGuard,binOp,Op.intDiv,hp]⟩
   case rem =>
    obtain ⟨rfl,hp⟩:=hp
    exact ⟨_,_,hK,rfl,Is.mk _,fun w _=>by simp [execOp,ho,hv,hw,V.tr,S.tr,eqGuard,binOp,Op.intDiv,hp]⟩
   case shl=>exact ⟨_,_,hK,rfl,Is.mk _,fun w _=>by simp [execOp,ho,hv,hw,V.tr,S.tr,eqGuard,binOp,shift_shl_any _ _ _ _ hp]⟩
   case shr=>exact ⟨_,_,hK,rfl,Is.mk _,fun w _=>by simp [execOp,ho,hv,hw,V.tr,S.tr,eqGuard,binOp,shift_shr_any _ _ _ _ hp]⟩
   all_goals exact ⟨_,_,hK,rfl,Is.mk _,fun w _=>by simp [execOp,ho,hv,hw,V.tr,S.tr,eqGuard,binOp,Op.intArith,Op.intCmp,intBits_and,intBits_or,intBits_xor,intBits_andNot]⟩
  ·exact hK.elim
 ·exact hK.elim

theorem looks_eqb {q:Bool} {T U:TypeId} {x y:Operand} {x' y':Opd} (ho:o.op=.binOp (if q then .neq else .eql) T x y U) (hu:P.underlying T=some .bool) (hx:compX x=some x') (hy:compX y=some y'):Looks P o (.eqb q x' y'):=by
 intro Γ σ t a ls h K hT hV hK
 obtain ⟨_,h2⟩:=ev_is hT hx
 obtain ⟨_,y2⟩:=ev_is hT hy
 simp only [iwp] at hK
 split at hK
 ·rename_i b c hq hq'
  rw [hq] at h2; rw [hq'] at y2
  have hv:=h2.eq (by simp)
  have hw:=y2.eq (by simp)
  refine ⟨_,_,hK,rfl,Is.mk _,fun w _=>?_⟩
  cases q
  ·simp [execOp,ho,hv,hw,V.tr,S.tr,eqGuard_at_bool,run_eql_bool,hu]
  ·simp [execOp,ho,hv,hw,V.tr,S.tr,eqGuard_at_bool,run_neq_bool,hu]
 ·exact hK.elim

end
end Go.D

/- Soundness of the instructions that only look: nil tests,equality of aggregates. -/
namespace Go.D
set_option linter.all false
variable [Tabs]
section
variable {P:Program} {o:Oper}

theorem looks_eqn_ptr {q:Bool} {T U e:TypeId} {x y:Operand} {x':Opd} (ho:o.op=.binOp (if q then .neq else .eql) T x y U)
  (hu:P.underlying T=some (.pointer e)) (hn:nilPtr y=true) (hx:compX x=some x'):Looks P o (.eqn false q x'):=by
 intro Γ σ t a ls h K hT hV hK
 obtain ⟨_,h2⟩:=ev_is hT hx
 have hy:y=.const (.pointer none):=by
  unfold nilPtr at hn
  split at hn
  ·rfl
  ·cases hn
 have hp:P.underlying T=some (.pointer (P.pointee T)):=by simp [Program.pointee,hu]
 have hyv:a.eval (.const (.pointer none))=.pointer none:=rfl
 simp only [iwp] at hK
 split at hK
 ·rename_i s hq
  split at hK
  ·rename_i b hb
   rw [hq] at h2
   refine ⟨_,_,hK,rfl,Is.mk _,fun w _=>?_⟩
   cases s<;>simp [isNil] at hb<;>subst hb
   all_goals
    have hv:=h2.eq (by simp)
    simp only [V.tr,S.tr] at hv
    cases q<;>simp [execOp,ho,hv,hy,hyv,V.tr,S.tr,eqGuard_at_pointer,run_eql_pointer_nil _ _ _ hp,run_neq_pointer_nil _ _ _ hp]
  ·exact hK.elim
 ·exact hK.elim

theorem equalIn_sl {T e:TypeId} (hu:P.underlying T=some (.slice e)) (w:World) (d:Nat) (b:Option Addr) (n c:Nat) :
  (Op.equalIn (d+1) T (.slice b n c) (.slice none 0 0)).run P w=.ok b.isNone w:=by
 cases b<;>simp [Op.equalIn,run_underlying hu]
theorem run_eql_sl {T e:TypeId} (hu:P.underlying T=some (.slice e)) (w:World) (b:Option Addr) (n c:Nat) :
  (binOp .eql T (.slice b n c) (.slice none 0 0)).run P w=.ok (.bool b.isNone) w:=by
 have h:=equalIn_sl hu w 9999 b n c
 show ((Op.equalIn 10000 T (.slice b n c) (.slice none 0 0)) >>= fun r=>Pure.pure (Value.bool r)).run P w=_
 rw [Sem.run_bind,h]; rfl
theorem run_neq_sl {T e:TypeId} (hu:P.underlying T=some (.slice e)) (w:World) (b:Option Addr) (n c:Nat) :
  (binOp .neq T (.slice b n c) (.slice none 0 0)).run P w=.ok (.bool (!b.isNone)) w:=by
 have h:=equalIn_sl hu w 9999 b n c
 show ((Op.equalIn 10000 T (.slice b n c) (.slice none 0 0)) >>= fun r=>Pure.pure (Value.bool (!r))).run P w=_
 rw [Sem.run_bind,h]; rfl

theorem looks_eqn_sl {q:Bool} {T U e:TypeId} {x y:Operand} {x':Opd} (ho:o.op=.binOp (if q then .neq else .eql) T x y U)
  (hu:P.underlying T=some (.slice e)) (hn:nilSl y=true) (hx:compX x=some x'):Looks P o (.eqn true q x'):=by
 intro Γ σ t a ls h K hT hV hK
 obtain ⟨_,h2⟩:=ev_is hT hx
 have hy:y=.const (.slice none 0 0):=by
  unfold nilSl at hn
  split at hn
  ·rfl
  ·cases hn
 have hyv:a.eval (.const (.slice none 0 0))=.slice none 0 0:=rfl
 simp only [iwp] at hK
 split at hK
 ·rename_i s hq
  split at hK
  ·rename_i b hb
   rw [hq] at h2
   refine ⟨_,_,hK,rfl,Is.mk _,fun w _=>?_⟩
   cases s<;>simp [isNil] at hb<;>subst hb
   all_goals
    have hv:=h2.eq (by simp)
    simp only [V.tr,S.tr] at hv
    cases q<;>simp [execOp,ho,hv,hy,hyv,V.tr,S.tr,eqGuard_at_slice,run_eql_sl hu,run_neq_sl hu]
  ·exact hK.elim
 ·exact hK.elim

/-! ### aggregates that are compared -/
theorem cmpS_length:∀ {ks:List Bool} {a b:List S},cmpS ks a b=true->a.length=ks.length/\b.length=ks.length
 | [],[],[],_=>⟨rfl,rfl⟩
 | k::ks,x::a,y::b,h=>by
  simp only [cmpS,Bool.and_eq_true] at h
  have:=cmpS_length h.2
  simp [this.1,this.2]
 | [],[],_::_,h=>by simp [cmpS] at h
 | [],_::_,_,h=>by simp [cmpS] at h
 | _::_,[],_,h=>by simp [cmpS] at h
 | _::_,_::_,[],h=>by simp [cmpS] at h
theorem eqS_append:∀ (a b c d:List S),a.length=c.length->eqS (a++b) (c++d)=(eqS a c&&eqS b d)
 | [],b,[],d,_=>by simp [eqS]
 | x::a,b,y::c,d,h=>by
  simp only [List.cons_append,eqS]
  rw [eqS_append a b c d (by simpa using h),Bool.and_assoc]
 | [],_,_::_,_,h=>by simp at h
 | _::_,_,[],_,h=>by simp at h
theorem cmpS_append:∀ (ks js:List Bool) (a b c d:List S),a.length=ks.length->c.length=ks.length->cmpS (ks++js) (a++b) (c++d)=(cmpS ks a c&&cmpS js b d)
 | [],js,[],b,[],d,_,_=>by simp [cmpS]
 | k::ks,js,x::a,b,y::c,d,h,h'=>by
  simp only [List.cons_append,cmpS]
  rw [cmpS_append ks js a b c d (by simpa using h) (by simpa using h'),Bool.and_assoc]
 | [],_,_::_,_,_,_,h,_=>by simp at h
 | [],_,[],_,_::_,_,_,h=>by simp at h
 | _::_,_,[],_,_,_,h,_=>by simp at h
 | _::_,_,_::_,_,[],_,_,h=>by simp at h

def repr (σ:Sg) (n:Option Nat) (xs:List S):Value :=
 match n with
 | none=>(xs.headD .u).tr σ
 | some _=>.agg (trs σ xs)

theorem sub_split (xs:List S) (o n m:Nat):sub xs o (n+m)=sub xs o n++sub xs (o+n) m:=by
 simp only [sub]
 rw [List.take_add,List.drop_drop]

theorem flat_shape {d:Nat} {T:TypeId} {l:List Bool} (h:flat P d T=some l):∃ m,shapeOf P T=some m/\(m=none->l.length=1)/\(∀ k,m=some k->k=l.length)/\P.cellsOf T=l.length:=by
 cases d with
 | zero=>simp [flat] at h
 | succ d =>
  unfold flat at h
  split at h
  ·rename_i i k hi hu
   split at h
   ·rename_i hs; cases h; exact ⟨none,by simp [shapeOf,hi,hu],fun _=>rfl,(fun k hk=>by cases hk),by simp [Program.cellsOf,hi,hs]⟩
   ·cases h
  ·rename_i i hi hu
   split at h
   ·rename_i hs; cases h; exact ⟨none,by simp [shapeOf,hi,hu],fun _=>rfl,(fun k hk=>by cases hk),by simp [Program.cellsOf,hi,hs]⟩
   ·cases h
  ·rename_i i fs hi hu
   split at h
   ·cases h
   ·split at h
    ·rename_i m hm
     split at h
     ·rename_i he; cases h; exact ⟨some i.size,by simp [shapeOf,hi,hu],(fun hk=>by cases hk),(fun k hk=>by cases hk; exact he),by simp [Program.cellsOf,hi,he]⟩
     ·cases h
    ·cases h
  ·rename_i i a e hi hu
   split at h
   ·rename_i m hm
    split at h
    ·rename_i he; cases h; exact ⟨some i.size,by simp [shapeOf,hi,hu],(fun hk=>by cases hk),(fun k hk=>by cases hk; exact he),by simp [Program.cellsOf,hi,he]⟩
    ·cases h
   ·cases h
  ·cases h

theorem run_part_flat {d:Nat} {T:TypeId} {l:List Bool} (hf:flat P d T=some l) (w:World) (σ:Sg) (xs:List S) (off:Nat) (hlen:off+l.length<=xs.length) :
  ∃ m,shapeOf P T=some m/\(part T (trs σ xs) off).run P w=.ok (repr σ m (sub xs off l.length)) w:=by
 obtain ⟨m,hm,h1,h2,_⟩:=flat_shape hf
 refine ⟨m,hm, ?_⟩
 cases m with
 | none =>
  have hl:=h1 rfl
  rw [hl] at hlen ⊢
  have hg:xs[off]?=some (xs[off]'(by omega)):=List.getElem?_eq_getElem (by omega)
  rw [run_part_none w hm σ xs off hg]
  have:sub xs off 1=[xs[off]'(by omega)]:=by
   apply List.ext_getElem?
   intro i
   by_cases hi:i<1
   ·rw [sub_get hi]; obtain rfl:i=0:=by omega
    simp [hg]
   ·rw [List.getElem?_eq_none (by rw [sub_length hlen]; omega),List.getElem?_eq_none (by simp; omega)]
  simp [repr,this]
 | some k =>
  obtain rfl:=h2 k rfl
  simp [repr,run_part_some w hm σ xs off]

def EqFlat (P:Program) (d:Nat):Prop:=∀ (T:TypeId) (l:List Bool) (m:Option Nat) (D:Nat) (w:World) (σ:Sg) (xs ys:List S),flat P d T=some l->shapeOf P T=some m->d<=D ->
 cmpS l xs ys=true->(Op.equalIn D T (repr σ m xs) (repr σ m ys)).run P w=.ok (eqS xs ys) w

theorem eqFields_flat {d:Nat} (IH:EqFlat P d) {D:Nat} (hD:d<=D) (w:World) (σ:Sg) (xs ys:List S):∀ (fs:List Field) (o:Nat) (l:List Bool),flatFs (flat P d) fs o=some l->o+l.length<=xs.length->o+l.length<=ys.length ->
  cmpS l (sub xs o l.length) (sub ys o l.length)=true->(Op.eqFields D (trs σ xs) (trs σ ys) fs).run P w=.ok (eqS (sub xs o l.length) (sub ys o l.length)) w
 | [],o,l,hf,_,_,_=>by
  simp only [flatFs,Option.some.injEq] at hf
  subst hf
  simp [Op.eqFields,sub,eqS]
 | f::fs,o,l,hf,hx,hy,hc=>by
  simp only [flatFs] at hf
  split at hf
  ·rename_i hno
   obtain ⟨hname,hoff⟩:=hno
   cases hm:flat P d f.type with
   | none=>simp [hm] at hf
   | some k =>
    cases hr:flatFs (flat P d) fs (o+k.length) with
    | none=>simp [hm,hr] at hf
    | some l' =>
    simp only [hm,hr,Option.some.injEq] at hf
    subst hf
    simp only [List.length_append] at hx hy hc ⊢
    rw [sub_split,sub_split] at hc ⊢
    have hl1:(sub xs o k.length).length=k.length:=sub_length (by omega)
    have hl2:(sub ys o k.length).length=k.length:=sub_length (by omega)
    rw [cmpS_append _ _ _ _ _ _ hl1 hl2,Bool.and_eq_true] at hc
    rw [eqS_append _ _ _ _ (by rw [hl1,hl2])]
    obtain ⟨m,hsm,p1⟩:=run_part_flat hm w σ xs o (by omega)
    obtain ⟨m',hsm',p2⟩:=run_part_flat hm w σ ys o (by omega)
    obtain rfl:m=m':=by rw [hsm] at hsm'; cases hsm'; rfl
    have p3:=IH f.type k m D w σ (sub xs o k.length) (sub ys o k.length) hm hsm hD hc.1
    have ih:=eqFields_flat IH hD w σ xs ys fs (o+k.length) l' hr (by omega) (by omega) hc.2
    subst hoff
    simp only [Op.eqFields,hname,ne_eq,not_false_eq_true,if_true,Sem.run_bind,p1,p2,p3,Result.andThen_ok]
    cases eqS (sub xs f.offset k.length) (sub ys f.offset k.length)
    ·simp
    ·simpa using ih
  ·cases hf

theorem eqItems_flat {d:Nat} (IH:EqFlat P d) {D:Nat} (hD:d<=D) (w:World) (σ:Sg) (xs ys:List S) {e:TypeId} {k:List Bool} (hk:flat P d e=some k):∀ (len i:Nat),i*k.length+(rep k len).length<=xs.length->i*k.length+(rep k len).length<=ys.length ->
  cmpS (rep k len) (sub xs (i*k.length) (rep k len).length) (sub ys (i*k.length) (rep k len).length)=true ->
  (Op.eqItems D e (P.cellsOf e) (trs σ xs) (trs σ ys) (List.range' i len)).run P w=.ok (eqS (sub xs (i*k.length) (rep k len).length) (sub ys (i*k.length) (rep k len).length)) w
 | 0,i,_,_,_=>by simp [Op.eqItems,sub,eqS,rep]
 | len+1,i,hx,hy,hc=>by
  obtain ⟨_,_,_,_,hcell⟩:=flat_shape hk
  simp only [rep,List.length_append] at hx hy hc ⊢
  have e2:i*k.length+k.length=(i+1)*k.length:=by rw [Nat.add_mul,Nat.one_mul]
  rw [sub_split,sub_split,e2] at hc ⊢
  have hl1:(sub xs (i*k.length) k.length).length=k.length:=sub_length (by omega)
  have hl2:(sub ys (i*k.length) k.length).length=k.length:=sub_length (by omega)
  rw [cmpS_append _ _ _ _ _ _ hl1 hl2,Bool.and_eq_true] at hc
  rw [eqS_append _ _ _ _ (by rw [hl1,hl2])]
  obtain ⟨m,hsm,p1⟩:=run_part_flat hk w σ xs (i*k.length) (by omega)
  obtain ⟨m',hsm',p2⟩:=run_part_flat hk w σ ys (i*k.length) (by omega)
  obtain rfl:m=m':=by rw [hsm] at hsm'; cases hsm'; rfl
  have p3:=IH e k m D w σ (sub xs (i*k.length) k.length) (sub ys (i*k.length) k.length) hk hsm hD hc.1
  have ih:=eqItems_flat IH hD w σ xs ys hk len (i+1) (by omega) (by omega) hc.2
  simp only [List.range'_succ,Op.eqItems,hcell,Sem.run_bind,p1,p2,p3,Result.andThen_ok]
  rw [hcell] at ih
  cases eqS (sub xs (i*k.length) k.length) (sub ys (i*k.length) k.length)
  ·simp
  ·simpa using ih

theorem sub_all {xs:List S} {n:Nat} (h:xs.length=n):sub xs 0 n=xs:=by
 subst h; simp [sub]

theorem eqFlat:∀ d,EqFlat P d
 | 0=>fun T n m D w σ xs ys h=>by simp [flat] at h
 | d+1=>fun T n m D w σ xs ys h hm hD hc=>by
  have IH:=eqFlat d
  obtain ⟨hx,hy⟩:=cmpS_length hc
  obtain ⟨D,rfl⟩:∃ D',D=D'+1:=⟨D-1,by omega⟩
  unfold flat at h
  split at h
  ·rename_i i k hi hu
   split at h
   ·cases h
    obtain rfl:m=none:=by simp only [shapeOf,hi,hu,Option.some.injEq] at hm; exact hm.symm
    obtain ⟨x,rfl⟩:=List.length_eq_one_iff.1 hx
    obtain ⟨y,rfl⟩:=List.length_eq_one_iff.1 hy
    simp only [cmpS,Bool.and_true] at hc
    cases x<;>cases y<;>simp only [cmp1,decide_eq_true_eq,Bool.false_eq_true] at hc
    subst hc
    simp [repr,S.tr,Op.equalIn,run_underlying hu,eqS,eq1]
   ·cases h
  ·rename_i i hi hu
   split at h
   ·cases h
    obtain rfl:m=none:=by simp only [shapeOf,hi,hu,Option.some.injEq] at hm; exact hm.symm
    obtain ⟨x,rfl⟩:=List.length_eq_one_iff.1 hx
    obtain ⟨y,rfl⟩:=List.length_eq_one_iff.1 hy
    simp only [cmpS,Bool.and_true] at hc
    cases x<;>cases y<;>simp only [cmp1,Bool.false_eq_true] at hc
    simp [repr,S.tr,Op.equalIn,run_underlying hu,eqS,eq1]
   ·cases h
  ·rename_i i fs hi hu
   split at h
   ·cases h
   ·rename_i hst
    split at h
    ·rename_i m' hm'
     split at h
     ·rename_i he
      cases h
      obtain rfl:m=some i.size:=by simp only [shapeOf,hi,hu,Option.some.injEq] at hm; exact hm.symm
      have hfo:P.fieldsOf T=fs:=by simp [Program.fieldsOf,hu]
      have:=eqFields_flat IH (D:=D) (by omega) w σ xs ys fs.toList 0 n hm' (by omega) (by omega) (by rw [sub_all hx,sub_all hy]; exact hc)
      rw [sub_all hx,sub_all hy] at this
      simp only [repr]
      rw [run_equalIn_struct w D T _ _ (by rw [hfo]; exact hu) (by simpa using hst),hfo,this]
     ·cases h
    ·cases h
  ·rename_i i a e hi hu
   split at h
   ·rename_i k hk
    split at h
    ·rename_i he
     cases h
     obtain rfl:m=some i.size:=by simp only [shapeOf,hi,hu,Option.some.injEq] at hm; exact hm.symm
     obtain ⟨me,hme,_,_,_⟩:=flat_shape hk
     have hie:∃ ie,P.info? e=some ie:=by
      unfold shapeOf at hme; split at hme<;>first|exact ⟨_,by assumption⟩|cases hme
     obtain ⟨ie,hie⟩:=hie
     have:=eqItems_flat IH (D:=D) (by omega) w σ xs ys hk a 0 (by omega) (by omega) (by rw [Nat.zero_mul,sub_all hx,sub_all hy]; exact hc)
     rw [Nat.zero_mul,sub_all hx,sub_all hy] at this
     simp only [repr]
     rw [run_equalIn_array w D _ _ hu hie,List.range_eq_range',this]
    ·cases h
   ·cases h
  ·cases h

theorem looks_eqa {q:Bool} {T U:TypeId} {x y:Operand} {x' y':Opd} {l:List Bool} (ho:o.op=.binOp (if q then .neq else .eql) T x y U)
  (hs:(∃ fs,P.underlying T=some (.struct fs))\/∃ n e,P.underlying T=some (.array n e)) (hf:flat P 20 T=some l) (hg:P.eqGuardType P.depth T=false)
  (hx:compX x=some x') (hy:compX y=some y'):Looks P o (.eqa q l x' y'):=by
 intro Γ σ t a ls h K hT hV hK
 obtain ⟨_,h2⟩:=ev_is hT hx
 obtain ⟨_,y2⟩:=ev_is hT hy
 simp only [iwp] at hK
 split at hK
 ·rename_i xs ys hq hq'
  obtain ⟨hc,hK⟩:=hK
  rw [hq] at h2; rw [hq'] at y2
  have hv:=h2.eq (by simp)
  have hw:=y2.eq (by simp)
  simp only [V.tr] at hv hw
  refine ⟨_,_,hK,rfl,Is.mk _,fun w _=>?_⟩
  have hm:∃ k,shapeOf P T=some (some k):=by
   obtain ⟨m,hm,_,_⟩:=flat_shape hf
   cases hi:P.info? T with
   | none=>simp [shapeOf,hi] at hm
   | some i=>rcases hs with ⟨fs,hs⟩|⟨n,e,hs⟩<;>exact ⟨i.size,by simp [shapeOf,hi,hs]⟩
  obtain ⟨k,hm⟩:=hm
  have:=eqFlat 20 T l (some k) 10000 w σ xs ys hf hm (by omega) hc
  simp only [repr] at this
  cases q
  ·simp [execOp,ho,hv,hw,V.tr,S.tr,run_eqGuard_agg w _ _ _ _ _ _ hg,run_eql_struct,this]
  ·simp [execOp,ho,hv,hw,V.tr,S.tr,run_eqGuard_agg w _ _ _ _ _ _ hg,run_neq_struct,this]
 ·exact hK.elim

end
end Go.D

/- Soundness of the instructions that only look: aggregates that are built,slices of slices; all of them together. -/
namespace Go.D
set_option linter.all false
variable [Tabs]
section
variable {P:Program} {o:Oper}

theorem plain_known {v:V} (h:v.plain=true):known v.cells=true/\v≠.s .u:=by
 cases v with
 | s x=>cases x<;>simp [V.plain,V.cells,known] at h ⊢
 | agg xs=>exact ⟨h,by simp⟩
 | tup cs=>simp [V.plain] at h

theorem plain_cells {v:V} (h:v.plain=true) (σ:Sg):(v.tr σ).cells=trs σ v.cells:=by
 cases v with
 | s x=>cases x<;>simp [V.plain,V.cells,V.tr,S.tr,Value.cells,trs] at h ⊢
 | agg xs=>rfl
 | tup cs=>simp [V.plain] at h

theorem plain_val {v:V} {n m:Nat} (h:v.plain=true) (hv:v.val n m=true):vals n m v.cells=true:=by
 cases v with
 | s x=>have hv':x.val n m=true:=hv; simp [vals,V.cells,hv']
 | agg xs=>exact hv
 | tup cs=>simp [V.plain] at h

theorem vals_put {n m:Nat}:∀ (vs xs:List S) (o:Nat),vals n m xs=true->vals n m vs=true->vals n m (put xs o vs)=true
 | [],xs,o,h,_=>h
 | v::vs,xs,o,h,h'=>by
  simp only [vals,List.all_cons,Bool.and_eq_true] at h'
  exact vals_put vs (xs.set o v) (o+1) (vals_set h h'.1) h'.2

theorem trs_put (σ:Sg):∀ (vs xs:List S) (o j:Nat),(((trs σ vs).toList.zipIdx j).foldl (fun cs (x:Value×Nat)=>cs.setIfInBounds (o+x.2) x.1) (trs σ xs))=trs σ (put xs (o+j) vs)
 | [],xs,o,j=>rfl
 | v::vs,xs,o,j=>by
  have h1:(trs σ xs).setIfInBounds (o+j) (v.tr σ)=trs σ (xs.set (o+j) v):=by
   simp [trs,List.map_set]
  have:=trs_put σ vs (xs.set (o+j) v) o (j+1)
  simp only [trs,List.map_cons,List.zipIdx_cons,List.foldl_cons] at this ⊢
  rw [put,show o+j+1=o+(j+1) by omega,<-this]
  congr 1

theorem fill_run {σ:Sg} {t:List V} {a:Act} {n m:Nat} (hT:TRel σ t a.tmps n m) (place place':Nat->Option (Nat×Nat)) (hpl:∀ i x,place i=some x->place' i=some x):∀ (parts:List (Nat×Operand)) (qs:List (Nat×Nat×Opd)) (z z':List S),
  partsOf P place parts=some qs->fillP t qs z=some z'->vals n m z=true->Instr.fill place' (trs σ z) (parts.map fun x=>(x.1,a.eval x.2))=some (trs σ z')/\vals n m z'=true
 | [],qs,z,z',hq,hz,hv=>by
  simp only [partsOf,Option.some.injEq] at hq; subst hq
  simp only [fillP,Option.some.injEq] at hz; subst hz
  exact ⟨rfl,hv⟩
 | (i,x)::parts,qs,z,z',hq,hz,hv=>by
  simp only [partsOf] at hq
  split at hq
  ·rename_i off size y l h1 h2 h3
   simp only [Option.some.injEq] at hq
   subst hq
   simp only [fillP] at hz
   split at hz
   ·rename_i hc
    simp only [Bool.and_eq_true,beq_iff_eq,decide_eq_true_eq] at hc
    obtain ⟨⟨c1,c2⟩,c3⟩:=hc
    obtain ⟨e1,e2⟩:=ev_is hT h2
    have hx:=e2.eq (plain_known c1).2
    have ih:=fill_run hT place place' hpl parts l _ z' h3 hz (vals_put _ _ _ hv (plain_val c1 e1))
    refine ⟨?_,ih.2⟩
    simp only [List.map_cons,Instr.fill,hpl i _ h1,hx,plain_cells c1 σ,trs_size]
    rw [if_neg (by simp; omega)]
    have:=trs_put σ (ev t y).cells z off 0
    rw [<-ih.1]
    congr 1
    rw [<-Array.foldl_toList,Array.toList_zipIdx]
    simpa using this
   ·cases hz
  ·cases hq

theorem zeroOf_run {T:TypeId} {z:List S} (h:zeroOf P T=some z) (σ:Sg):∃ i v,P.info? T=some i/\i.zero=some v/\v.cells=trs σ z/\vals 0 0 z=true/\known z=true/\z.length=i.size:=by
 unfold zeroOf at h
 split at h
 ·rename_i i hi
  split at h
  ·rename_i v hz
   split at h
   ·rename_i l hl
    split at h
    ·rename_i hs
     cases h
     have:=ofSs_tr hl σ
     exact ⟨i,v,hi,hz,by simp [trs,this.1],this.2.1,this.2.2,hs⟩
    ·cases h
   ·cases h
  ·cases h
 ·cases h

theorem looks_build_struct {T:TypeId} {parts:Array (Nat×Operand)} {fs:Array Field} {z:List S} {qs:List (Nat×Nat×Opd)} (ho:o.op=.build T parts) (hz:zeroOf P T=some z)
  (hu:P.underlying T=some (.struct fs)) (hall:allSized P fs.toList=true) (hq:partsOf P (fieldPlaces P fs.toList) parts.toList=some qs):Looks P o (.build z qs):=by
 intro Γ σ t a ls h K hT hV hK
 simp only [iwp] at hK
 split at hK
 ·rename_i z' hz'
  obtain ⟨i,v,hi,hiz,hcells,hvz,_,_⟩:=zeroOf_run hz σ
  have hpl:∃ places,fs.toList.mapM (fun f=>(P.info? f.type).map fun i=>(f.offset,i.size))=some places/\∀ j x,fieldPlaces P fs.toList j=some x->places.toArray[j]?=some x:=by
   clear hz' hK hq
   generalize fs.toList=l at hall
   induction l with
   | nil=>exact ⟨[],rfl,fun j x hx=>by simp [fieldPlaces] at hx⟩
   | cons f l ih =>
    simp only [allSized,List.all_cons,Bool.and_eq_true] at hall
    obtain ⟨ps,h1,h2⟩:=ih hall.2
    obtain ⟨k,hk⟩:=Option.isSome_iff_exists.1 hall.1
    refine ⟨(f.offset,k.size)::ps,by simp [List.mapM_cons,hk,h1],fun j x hx=>?_⟩
    cases j with
    | zero=>simp only [fieldPlaces,List.getElem?_cons_zero,hk,Option.map_some,Option.some.injEq] at hx; simp [hx]
    | succ j=>simp only [fieldPlaces,List.getElem?_cons_succ] at hx; have:=h2 j x hx; simpa using this
  obtain ⟨places,hp1,hp2⟩:=hpl
  obtain ⟨f1,f2⟩:=fill_run hT (fieldPlaces P fs.toList) (fun j=>places.toArray[j]?) hp2 parts.toList qs z z' hq hz' (vals_mono (Nat.zero_le _) (Nat.zero_le _) hvz)
  refine ⟨_,_,hK,f2,Is.mk _,fun w _=>?_⟩
  have hb:P.built T (parts.map fun (x:Nat×Operand)=>(x.1,a.eval x.2)).toList=some (trs σ z'):=by
   simp only [Program.built,hi,hu,hiz,hp1,hcells,Array.toList_map]
   exact f1
  have:=run_build w T _ _ hb
  simp [execOp,ho,this,V.tr]
 ·exact hK.elim

theorem looks_build_array {T e:TypeId} {n:Nat} {parts:Array (Nat×Operand)} {i:TypeInfo} {z:List S} {qs:List (Nat×Nat×Opd)} (ho:o.op=.build T parts) (hz:zeroOf P T=some z)
  (hu:P.underlying T=some (.array n e)) (hi:P.info? e=some i) (hq:partsOf P (fun j=>some (j*i.size,i.size)) parts.toList=some qs):Looks P o (.build z qs):=by
 intro Γ σ t a ls h K hT hV hK
 simp only [iwp] at hK
 split at hK
 ·rename_i z' hz'
  obtain ⟨k,v,hk,hiz,hcells,hvz,_,_⟩:=zeroOf_run hz σ
  obtain ⟨f1,f2⟩:=fill_run hT _ (fun j=>some (j*i.size,i.size)) (fun _ _ h=>h) parts.toList qs z z' hq hz' (vals_mono (Nat.zero_le _) (Nat.zero_le _) hvz)
  refine ⟨_,_,hK,f2,Is.mk _,fun w _=>?_⟩
  have hb:P.built T (parts.map fun (x:Nat×Operand)=>(x.1,a.eval x.2)).toList=some (trs σ z'):=by
   simp only [Program.built,hk,hu,hiz,hi,hcells,Array.toList_map]
   exact f1
  have:=run_build w T _ _ hb
  simp [execOp,ho,this,V.tr]
 ·exact hK.elim

theorem bnd_run {σ:Sg} {t:List V} {a:Act} {n m:Nat} (hT:TRel σ t a.tmps n m) {x:Option Operand} {y:Option Opd} (hx:compB x=some y) {d:Int} {l:Int} (hl:bnd d t y=some l) :
  (x=none/\l=d)\/∃ z k,x=some z/\a.eval z=.int k l:=by
 cases x with
 | none=>simp only [compB,Option.some.injEq] at hx; subst hx; simp only [bnd,Option.some.injEq] at hl; exact .inl ⟨rfl,hl.symm⟩
 | some z =>
  simp only [compB] at hx
  cases h1:compX z with
  | none=>simp [h1] at hx
  | some z' =>
   simp only [h1,Option.map_some,Option.some.injEq] at hx
   subst hx
   simp only [bnd] at hl
   obtain ⟨_,h2⟩:=ev_is hT h1
   split at hl
   ·rename_i k n hq
    cases hl
    rw [hq] at h2
    exact .inr ⟨z,k,rfl,h2.eq (by simp)⟩
   ·cases hl

theorem sliceBounds_run (w:World) (isSl:Bool) (len cap:Nat) (lo hi:Option Value) {l u:Int} (hl:(lo=none/\l=0)\/∃ k,lo=some (.int k l)) (hu:(hi=none/\u=len)\/∃ k,hi=some (.int k u))
  (h0:0<=l) (h1:l<=u) (h2:u<=cap):(Instr.sliceBounds isSl len cap lo hi none).run P w=.ok (l.toNat,u.toNat,cap) w:=by
 have e1:((u.toNat:Nat):Int)=u:=Int.toNat_of_nonneg (by omega)
 rcases hu with ⟨rfl,rfl⟩|⟨k,rfl⟩
 ·rcases hl with ⟨rfl,rfl⟩|⟨k',rfl⟩
  ·simp [Instr.sliceBounds]
  ·simp [Instr.sliceBounds,Instr.sliceBound,asIntOf,h0,h1]
 ·rcases hl with ⟨rfl,rfl⟩|⟨k',rfl⟩
  ·simp [Instr.sliceBounds,Instr.sliceBound,asIntOf,h2,h1]
  ·simp [Instr.sliceBounds,Instr.sliceBound,asIntOf,h0,h2,e1,h1,(by omega:0<=u)]

theorem slice_addr (σ:Sg) (r:R) (off cap l k:Nat):(if cap=l then adr σ r off else (adr σ r off).add (l*k))=adr σ r (if cap=l then off else off+l*k):=by
 split
 ·rfl
 ·rw [adr_add]

theorem looks_slc {T e:TypeId} {x:Operand} {x':Opd} {lo hi:Option Operand} {lo' hi':Option Opd} {arr:Option Nat} {k:TypeInfo} (ho:o.op=.slice T x lo hi none)
  (hu:match arr with|some n=>P.underlying T=some (.array n e)|none=>P.underlying T=some (.slice e)) (hk:P.info? e=some k)
  (hx:compX x=some x') (hlo:compB lo=some lo') (hhi:compB hi=some hi'):Looks P o (.slc arr k.size x' lo' hi'):=by
 intro Γ σ t a ls h K hT hV hK
 obtain ⟨h1,h2⟩:=ev_is hT hx
 simp only [iwp] at hK
 split at hK
 ·rename_i n r off hq
  split at hK
  ·rename_i l u hl hh
   obtain ⟨⟨g0,g1,g2⟩,hK⟩:=hK
   rw [hq] at h1 h2
   have hv:=h2.eq (by simp)
   simp only [V.tr,S.tr] at hv
   have hL:=bnd_run hT hlo hl
   have hU:=bnd_run hT hhi hh
   refine ⟨_,_,hK,h1,Is.mk _,fun w _=>?_⟩
   have hb:=sliceBounds_run (P:=P) w false n n (lo.map a.eval) (hi.map a.eval) (l:=l) (u:=u)
    (by rcases hL with ⟨rfl,h⟩|⟨z,k',rfl,h⟩; exact .inl ⟨rfl,h⟩; exact .inr ⟨k',by simp [h]⟩)
    (by rcases hU with ⟨rfl,h⟩|⟨z,k',rfl,h⟩; exact .inl ⟨rfl,h⟩; exact .inr ⟨k',by simp [h]⟩) g0 g1 g2
   simp only at hu
   simp only [execOp,ho,hv,Instr.sliceAt,Sem.run_bind,run_underlying hu,Result.andThen_ok,Instr.sureAddr,Sem.run_pure,Option.map_none,hb,sizeOf,typeInfo,run_program,hk,slice_addr,V.tr,S.tr]
  ·exact hK.elim
 ·rename_i r off n c hq
  split at hK
  ·rename_i l u hl hh
   obtain ⟨⟨g0,g1,g2⟩,hK⟩:=hK
   rw [hq] at h1 h2
   have hv:=h2.eq (by simp)
   simp only [V.tr,S.tr] at hv
   have hL:=bnd_run hT hlo hl
   have hU:=bnd_run hT hhi hh
   refine ⟨_,_,hK,h1,Is.mk _,fun w _=>?_⟩
   have hb:=sliceBounds_run (P:=P) w true n c (lo.map a.eval) (hi.map a.eval) (l:=l) (u:=u)
    (by rcases hL with ⟨rfl,h⟩|⟨z,k',rfl,h⟩; exact .inl ⟨rfl,h⟩; exact .inr ⟨k',by simp [h]⟩)
    (by rcases hU with ⟨rfl,h⟩|⟨z,k',rfl,h⟩; exact .inl ⟨rfl,h⟩; exact .inr ⟨k',by simp [h]⟩) g0 g1 g2
   simp only at hu
   have hsa:(if c=l.toNat then some (adr σ r off) else (some (adr σ r off)).map (·.add (l.toNat*k.size)))=some (adr σ r (if c=l.toNat then off else off+l.toNat*k.size)):=by
    rw [<-slice_addr]; split<;>rfl
   simp only [execOp,ho,hv,Instr.sliceAt,Instr.slice,Sem.run_bind,run_underlying hu,Result.andThen_ok,Sem.run_pure,Option.map_none,hb,sizeOf,typeInfo,run_program,hk,hsa,V.tr,S.tr]
  ·exact hK.elim
 ·rename_i hq
  split at hK
  ·rename_i l u hl hh
   obtain ⟨⟨rfl,rfl⟩,hK⟩:=hK
   rw [hq] at h1 h2
   have hv:=h2.eq (by simp)
   simp only [V.tr,S.tr] at hv
   have hL:=bnd_run hT hlo hl
   have hU:=bnd_run hT hhi hh
   refine ⟨_,_,hK,h1,Is.mk _,fun w _=>?_⟩
   have hb:=sliceBounds_run (P:=P) w true 0 0 (lo.map a.eval) (hi.map a.eval) (l:=0) (u:=0)
    (by rcases hL with ⟨rfl,h⟩|⟨z,k',rfl,h⟩; exact .inl ⟨rfl,h⟩; exact .inr ⟨k',by simp [h]⟩)
    (by rcases hU with ⟨rfl,h⟩|⟨z,k',rfl,h⟩; exact .inl ⟨rfl,h⟩; exact .inr ⟨k',by simp [h]⟩) (by omega) (by omega) (by omega)
   simp only at hu
   simp only [execOp,ho,hv,Instr.sliceAt,Instr.slice,Sem.run_bind,run_underlying hu,Result.andThen_ok,Sem.run_pure,Option.map_none,hb,sizeOf,typeInfo,run_program,hk,V.tr,S.tr]
   rfl
  ·exact hK.elim
 ·exact hK.elim

end
end Go.D

