/- How many steps the derivation's calls take,whatever words lie in the memory. -/
import Derived.Test.YtcdfofeolgbnbaaZ32
import Derived.Test.YtcdfofeolgbnbaaZ13
import Derived.Test.YtcdfofeolgbnbaaZ35
import Derived.Test.YtcdfofeolgbnbaaZ34
import Derived.Test.YtcdfofeolgbnbaaZ31
import Derived.Test.YtcdfofeolgbnbaaZ30
/- Law 11: a Move to and fro,a Swap twice,an Insert and a Remove: what they leave. -/
namespace Go.Proofs.Ytcdfofeolgbnbaa
open Go.D
set_option linter.all false
set_option maxRecDepth 100000
set_option maxHeartbeats 4000000

section
variable {m : M} {L : List Int}
theorem W11.back_mov (W : W11 m L) {a b : Int} (ha : a ∈ L) (ht : m.gE b = 0) (hz : m.gV b = slotZ) {s : M} (T1s : m.To s (m.movV a b) (m.movF a b)) : (s.mov b a).1 = 0 ∧ (s.mov b a).2.w = m.w:=by
 obtain ⟨hbL,_,_⟩:=W.inv.free ht hz
 have Ws:=W.step (x:=⟨2,a,b,0⟩) (.mov rfl ha ht hz T1s)
 have hab : a ≠ b:=fun e => hbL (e ▸ ha)
 have a0:=W.n0 ha
 have b0:=there_ne0 (gE_there ht).1
 have I:=W.inv
 have hpn:=I.prev_next ha
 have hpa : (m.gV a).prev ≠ a:=I.irr_prev ha
 have hna : (m.gV a).next ≠ a:=I.irr_next ha
 have hpb : (m.gV a).prev ≠ b:=fun e => by
  rcases I.prev ha with h | h
  ·exact b0 (e.symm.trans h)
  ·exact hbL (e ▸ h)
 have hnb : (m.gV a).next ≠ b:=fun e => by
  rcases I.next ha with h | h
  ·exact b0 (e.symm.trans h)
  ·exact hbL (e ▸ h)
 have hb1 : b ∈ L.map (rho a b):=List.mem_map.2 ⟨a,ha,by simp [rho]⟩
 have ha1 : a ∉ L.map (rho a b):=fun hx => by
  obtain ⟨y,hy,e⟩:=List.mem_map.1 hx
  unfold rho at e
  split at e
  ·exact hab e.symm
  ·rename_i h; exact h e
 have hsz : s.gV a = slotZ:=by
  rw [T1s.V a a0]
  unfold M.movV
  rw [jnV_out (Ne.symm hpa) (Ne.symm hna),if_pos rfl]
 obtain ⟨k1,T2⟩:=Ws.inv.mov_to hb1 ((T1s.E a).trans (I.gE ha).1) hsz
 refine ⟨k1, ?_⟩
 have T:=T1s.trans T2
 have hsb : s.gV b = m.gV a:=by
  rw [T1s.V b b0]
  unfold M.movV
  rw [jnV_out (Ne.symm hpb) (Ne.symm hnb)]
  simp only [if_neg (Ne.symm hab),if_true]
 refine T.det (M.To.refl m) rfl (fun x x0 => ?_) ?_ I.len.2 I.two
 ·-- slot by slot
  unfold M.movV
  rw [hsb]
  by_cases c1 : x = (m.gV a).prev
  ·have xL : x ∈ L:=(I.prev ha).elim (fun h => absurd (c1.trans h) x0) (fun h => c1 ▸ h)
   have xb : x ≠ b:=fun e => hpb (c1.symm.trans e)
   have xa : x ≠ a:=fun e => hpa (c1.symm.trans e)
   have hx2 : (m.gV x).next = a:=(I.two_way xL ha).2 c1.symm
   unfold jnV
   rw [if_pos c1,← c1]
   simp only [if_neg xb,if_neg xa]
   rw [T1s.V x x0]
   unfold M.movV jnV
   rw [if_pos c1,← c1]
   simp only [if_neg xa,if_neg xb]
   refine Slot.ext4 rfl rfl hx2.symm rfl
  ·by_cases c2 : x = (m.gV a).next
   ·have xL : x ∈ L:=(I.next ha).elim (fun h => absurd (c2.trans h) x0) (fun h => c2 ▸ h)
    have xb : x ≠ b:=fun e => hnb (c2.symm.trans e)
    have xa : x ≠ a:=fun e => hna (c2.symm.trans e)
    have hx2 : (m.gV x).prev = a:=(I.two_way ha xL).1 c2.symm
    unfold jnV
    rw [if_neg c1,if_pos c2,← c2]
    simp only [if_neg xb,if_neg xa]
    rw [T1s.V x x0]
    unfold M.movV jnV
    rw [if_neg c1,if_pos c2,← c2]
    simp only [if_neg xa,if_neg xb]
    refine Slot.ext4 rfl hx2.symm rfl rfl
   ·rw [jnV_out c1 c2]
    by_cases xb : x = b
    ·rw [if_pos xb,xb,hz]
    ·rw [if_neg xb]
     by_cases xa : x = a
     ·rw [if_pos xa,xa]
     ·rw [if_neg xa,T1s.V x x0]
      unfold M.movV
      rw [jnV_out c1 c2]
      simp only [if_neg xa,if_neg xb]
 ·unfold M.movF
  rw [hsb,T1s.F]
  unfold M.movF
  by_cases c : (m.gV a).prev = 0
  ·rw [if_pos c]; exact ((I.first ha).1 c).symm
  ·rw [if_neg c,if_neg c]
theorem W11.back_swp (W : W11 m L) {a b : Int} (ha : a ∈ L) (hb : b ∈ L) (hne : a ≠ b) {s : M} (T1s : m.To s (m.swV a b) (m.swF a b)) : (s.swp a b).1 = 0 ∧ (s.swp a b).2.w = m.w:=by
 have I:=W.inv
 have Ws:=W.step (x:=⟨3,a,b,0⟩) (.swp rfl ha hb hne T1s)
 have a0:=W.n0 ha
 have b0:=W.n0 hb
 have hb1 : b ∈ L.map (oth a b):=List.mem_map.2 ⟨a,ha,oth_of_a⟩
 have ha1 : a ∈ L.map (oth a b):=List.mem_map.2 ⟨b,hb,oth_of_b hne⟩
 obtain ⟨k1,T2⟩:=Ws.inv.sw_to ha1 hb1 hne
 refine ⟨k1, ?_⟩
 have T:=T1s.trans T2
 have hsa : s.gV a = (m.gV b).oth a b:=by
  rw [T1s.V a a0]; unfold M.swV; rw [if_pos rfl]
 have hsb : s.gV b = (m.gV a).oth a b:=by
  rw [T1s.V b b0]; unfold M.swV; rw [if_neg (Ne.symm hne),if_pos rfl]
 have oo : ∀ t : Slot,(t.oth a b).oth a b = t:=fun t => Slot.ext4 rfl (oth_oth hne _) (oth_oth hne _) rfl
 refine T.det (M.To.refl m) rfl (fun x x0 => ?_) ?_ I.len.2 I.two
 ·unfold M.swV
  by_cases xa : x = a
  ·rw [if_pos xa,hsb,oo,xa]
  ·by_cases xb : x = b
   ·rw [if_neg xa,if_pos xb,hsa,oo,xb]
   ·rw [if_neg xa,if_neg xb,hsa,hsb,T1s.V x x0]
    have on : ∀ y,(x = oth a b y) = (x = y):=fun y => propext ⟨fun h => ((oth_x xa xb).1 h.symm).symm,fun h => ((oth_x xa xb).2 h.symm).symm⟩
    unfold M.swV
    rw [if_neg xa,if_neg xb]
    simp only [Slot.oth,on]
    refine Slot.ext4 rfl ?_ ?_ rfl
    ·simp only
     by_cases c1 : x = (m.gV a).next
     ·have xL : x ∈ L:=(I.next ha).elim (fun h => absurd (c1.trans h) x0) (fun h => c1 ▸ h)
      rw [if_pos c1]; exact ((I.two_way ha xL).1 c1.symm).symm
     ·rw [if_neg c1]
      by_cases c2 : x = (m.gV b).next
      ·have xL : x ∈ L:=(I.next hb).elim (fun h => absurd (c2.trans h) x0) (fun h => c2 ▸ h)
       rw [if_pos c2]; exact ((I.two_way hb xL).1 c2.symm).symm
      ·rw [if_neg c2]
       first
        | rfl
        | (rw [if_neg c2,if_neg c1])
    ·simp only
     by_cases c1 : x = (m.gV a).prev
     ·have xL : x ∈ L:=(I.prev ha).elim (fun h => absurd (c1.trans h) x0) (fun h => c1 ▸ h)
      rw [if_pos c1]; exact ((I.two_way xL ha).2 c1.symm).symm
     ·rw [if_neg c1]
      by_cases c2 : x = (m.gV b).prev
      ·have xL : x ∈ L:=(I.prev hb).elim (fun h => absurd (c2.trans h) x0) (fun h => c2 ▸ h)
       rw [if_pos c2]; exact ((I.two_way xL hb).2 c2.symm).symm
      ·rw [if_neg c2]
       first
        | rfl
        | (rw [if_neg c2,if_neg c1])
 ·unfold M.swF
  rw [T1s.F]
  exact oth_oth hne _
theorem W11.back_ins (W : W11 m L) {a p n : Int} {s0 s1 : M} (ht : m.gE a = 0) (hz : m.gV a = slotZ) (T0 : m.To s0 (fun x => if x = a then hndS n else m.gV x) m.fst) (W0 : W11 s0 L) (hf : s0.fE a = 0) (hp : p = 0 ∨ (p ∈ L ∧ (s0.gV p).depth ≠ 65535)) (T1 : s0.To s1 (s0.insV p a) (s0.insF p a)) : (s1.rem a).1 = 0 ∧ (s1.rem a).2.w = m.w:=by
 obtain ⟨hu,a0,_⟩:=W.inv.free ht hz
 have I:=W0.inv
 have hp' : p = 0 ∨ p ∈ L:=hp.imp id And.left
 have W1:=W0.step (x:=⟨1,a,p,n⟩) (.ins rfl hf hu hp T1)
 have haL : a ∈ insLL p a L:=by
  unfold insLL
  by_cases c : p = 0
  ·rw [if_pos c]; exact List.mem_cons_self
  ·rw [if_neg c]
   obtain ⟨A,B,e⟩:=List.append_of_mem (hp'.resolve_left c)
   have hn:=W0.inv.nd
   rw [e] at hn ⊢
   rw [insL_app fun h => (List.nodup_append.1 hn).2.2 _ h _ List.mem_cons_self rfl]
   simp
 obtain ⟨A,B,e⟩:=List.append_of_mem haL
 have hnd:=W1.inv.nd
 rw [e] at hnd
 have haA : a ∉ A:=fun h => (List.nodup_append.1 hnd).2.2 _ h _ List.mem_cons_self rfl
 have hD : ∀ y,y ∈ L → s1.D y = s0.D y:=fun y hy => by
  have hya : ¬ y = a:=fun e => hu (by rw [← e]; exact hy)
  rw [ins_D T1 (W0.n0 hy),if_neg hya]
 have hDa:=ins_D T1 a0
 rw [if_pos rfl] at hDa
 have hds : deep s1.gV (s1.gV a).depth B = []:=by
  have h1 : under s1.D (insLL p a L) a = tw s1.D (s1.D a) B:=by rw [e]; exact under_split haA
  have h2 : under s1.D (insLL p a L) a = []:=by
   unfold insLL
   by_cases c : p = 0
   ·rw [if_pos c]
    rw [if_pos c] at hDa
    exact under_top hDa (dep_congr hD W0.dep)
   ·rw [if_neg c]
    rw [if_neg c] at hDa
    have hpD : s1.D p = s0.D p:=hD p (hp'.resolve_left c)
    exact under_new (D:=s0.D) hDa hu hD W0.dep
  exact h1.symm.trans h2
 obtain ⟨⟨k1,k2⟩,_⟩:=W1.inv.rem_to e
 rw [hds] at k2
 refine ⟨k1, ?_⟩
 have T:=(T0.trans T1).trans k2
 have ha1 : a ≠ p:=fun e => by
  rcases hp' with h | h
  ·exact a0 (e.trans h)
  ·exact hu (e ▸ h)
 have hnx:=I.nx_mem hp'
 have ha2 : a ≠ s0.nx p:=fun e => by
  rcases hnx with h | h
  ·exact a0 (e.trans h)
  ·exact hu (e ▸ h)
 have hne:=I.nx_ne hp'
 have hsa : s1.gV a = s0.insS p a:=by
  rw [T1.V a a0]
  unfold M.insV
  rw [jnV_out ha1 ha2,if_pos rfl]
 refine T.det (M.To.refl m) rfl (fun x x0 => ?_) ?_ W.inv.len.2 W.inv.two
 ·unfold M.remV
  rw [hsa,decV_nil]
  by_cases xa : x = a
  ·rw [if_pos xa,xa,hz]
  ·rw [if_neg xa]
   have h0 : s0.gV x = m.gV x:=by rw [T0.V x x0,if_neg xa]
   have h1 : s1.gV x = jnV (fun x => if x = a then s0.insS p a else s0.gV x) p a (s0.nx p) x:=T1.V x x0
   have hc : (s1.gV x).cap = (m.gV x).cap:=by rw [h1,jnV_cap,if_neg xa,h0]
   have hd : (s1.gV x).depth = (m.gV x).depth:=by rw [h1,jnV_depth,if_neg xa,h0]
   have hn : (s1.gV x).next = if x = p then a else (m.gV x).next:=by rw [h1,jnV_next,if_neg xa,h0]
   have hv : (s1.gV x).prev = if x = s0.nx p then a else (m.gV x).prev:=by
    rw [h1,jnV_prev0 _ _ _ _ _ hne x0,if_neg xa,h0]
   have hsp : (s0.insS p a).prev = p:=rfl
   have hsn : (s0.insS p a).next = s0.nx p:=rfl
   refine Slot.ext4 hc ?_ ?_ hd
   ·rw [hsp,hsn]
    by_cases c : x = s0.nx p
    ·rw [if_pos c]
     have xL : x ∈ L:=hnx.elim (fun h => absurd (c.trans h) x0) (fun h => c ▸ h)
     rw [← h0]
     unfold M.nx at c
     by_cases cp : p = 0
     ·rw [if_pos cp] at c
      rw [cp]; exact ((I.first xL).2 c.symm).symm
     ·rw [if_neg cp] at c
      exact ((I.two_way (hp'.resolve_left cp) xL).1 c.symm).symm
    ·rw [if_neg c,hv,if_neg c]
   ·rw [hsp,hsn]
    by_cases c : x = p
    ·rw [if_pos c,← h0]
     have cp : ¬ p = 0:=fun h => x0 (c.trans h)
     unfold M.nx
     rw [if_neg cp,c]
    ·rw [if_neg c,hn,if_neg c]
 ·unfold M.remF
  rw [hsa,T1.F]
  have hsp : (s0.insS p a).prev = p:=rfl
  have hsn : (s0.insS p a).next = s0.nx p:=rfl
  rw [hsp,hsn]
  unfold M.insF M.nx
  by_cases c : p = 0
  ·rw [if_pos c,if_pos c]; exact T0.F
  ·rw [if_neg c,if_neg c]; exact T0.F
theorem W11.rem_out (W : W11 m L) {a : Int} (hf : m.fE a = 0) (hu : a ∉ L) : (m.rem a).1 = 0:=by
 have hn : (m.gV a).next = 0:=((W.inv.out a (W.P (fE_zero.1 hf).1)).2 hu).2.1
 unfold M.rem
 rw [if_pos hf,hn,dsW_zero]
theorem swp_1_w {m s : M} (h : s.w = m.w) (a b : Int) : (s.swp a b).1 = (m.swp a b).1:=by
 unfold M.swp
 simp only [gX_fE,fE_w h]
 split
 ·split
  ·split <;> rfl
  ·rfl
 ·rfl
theorem swp_err {m : M} {a b : Int} (h : (m.swp a b).1 ≠ 0) : (m.swp a b).2.w = m.w:=by
 unfold M.swp at h ⊢
 split
 ·rename_i h1
  rw [if_pos h1] at h
  split
  ·rename_i h2
   rw [if_pos h2] at h
   split at h <;> exact absurd rfl h
  ·rw [gX_w,gX_w]
 ·exact gX_w _ _
end
end Go.Proofs.Ytcdfofeolgbnbaa

/- Law 11: CdtBack: the walk. -/
namespace Go.Proofs.Ytcdfofeolgbnbaa
open Go.D
open Nat (reduceAdd reducePow reduceMul reduceSub reduceLeDiff reduceLT reduceEqDiff)
open Int (reduceNeg reduceLE reduceEq reduceNe reduceToNat)
open Go.D renaming istep → zy,pickR → zx,bin1R → zw,un1R → zv,eqS → zu,eq1 → zq,cmpS → zp,cmp1 → zj,isNil → zk,shows → zg,result → zZ,q_cond_t → zV,q_cond_f → zU
open List renaming set → zY,replicate → zX
open Option renaming map → zW
open Nat renaming reduceAdd → zQ,reducePow → yz,reduceMul → yy,reduceSub → yx,reduceLeDiff → yv,reduceLT → yu,reduceEqDiff → yq
open Int renaming reduceNeg → yp,reduceLE → yj,reduceEq → yk,reduceNe → yg,reduceToNat → yZ,reducePow → yY,reduceLT → yX,reduceAdd → yW,reduceSub → yV,reduceMul → yU,reduceBEq → yQ,reduceBNe → xz
set_option linter.all false
set_option maxRecDepth 100000
set_option maxHeartbeats 4000000

def cdtBackS : FSpec:=fun args h K => ∃ (s : S) (L : List Op) (x : Op),args = [.s s, .agg x.cl] ∧ IsArr Op.cl h s L ∧ (∀ x,x ∈ L → x.u) ∧ L.length ≤ 9223372036854775807 ∧ x.u ∧ ∀ h',K (.s (.b true)) h'
noncomputable def TBk : Tab:=addT 8 awake11G (addT 21 playedG (addT 26 dumpG (addT 27 empty2G (addT 23 laysG (addT 24 promG (addT 17 insG (addT 18 movG (addT 19 swpG (addT 20 remG (addT 28 sameWG (noT)))))))))))
theorem TBk_snd : TBk.Snd Try.prog:=addT_snd ok8 awake11_snd (addT_snd ok21 played_snd (addT_snd ok26 mdump_snd (addT_snd ok27 rempty2_snd (addT_snd ok23 lays_snd (addT_snd ok24 prom_snd (addT_snd ok17 ins_snd (addT_snd ok18 mov_snd (addT_snd ok19 swp_snd (addT_snd ok20 rem_snd (addT_snd ok28 sameW_snd ((noT_snd _))))))))))))
theorem cdtBack_snd : Snd Try.prog 6 cdtBackS:=(fwp_sound (Tab.snd_Γ TBk_snd) mixed Try.func6 dc6).weaken fun args h K hc hS => by
 obtain ⟨s,L,⟨xw,xa,xb,xn⟩,rfl,Hs,hu,l1,xu,hK⟩:=hS
 refine fwp_run (Tab.ok_Γ _) 600 ?_
 have hlen:=fun ls h' => Hs.sl.len (ls:=ls) (h:=h')
 have hkn:=Hs.sl.known
 have hnl:=Hs.sl.noL
 have hA:=arrOf_eq Hs
 obtain ⟨hw,Q,W⟩:=ply_all L
 obtain ⟨⟨m,r⟩,hF⟩ : ∃ F,plyL z11 z11 L = F:=⟨_,rfl⟩
 rw [hF] at hw W
 simp only at hw W
 have hcc : ∀ m r X,(bH h m r X)[h.length + 4]? = _:=fun m r X => bH_c h m r X
 have hu1 : (∀ x,x ∈ L → x.u) = True:=eq_true hu
 have hml:=W.len
 unfold Op.u i64b at xu
 simp only at xu
 -- what a Dump tells,the same words
 have hd1 : ∀ m2 : M,m2.w = m.w → m2.has 0 2048 = true:=fun m2 e => M.has_of (by rw [e]; omega)
 have hd2 : ∀ m2 : M,m2.w = m.w → m2.w.take 2048 = m.w:=fun m2 e => by rw [e,← hml]; exact List.take_length
 have hb2 : m.w.length ≤ 8796093022208:=by omega
 obtain ⟨B,hB⟩ : ∃ B : Nat → Blk,B = fun c => ⟨.rw,wc m.w,c⟩:=⟨_,rfl⟩
 have hBe : ∀ c : Nat,(⟨.rw,wc m.w,c⟩ : Blk) = B c:=fun c => by rw [hB]
 have hL1 : ∀ (m2 r2 : M) (c : Nat) (Y : List Blk),listOf (bH h m2 r2 (B c :: Y)) (.sl (.g (h.length + 5)) 0 2048 c) = some m.w:=fun m2 r2 c Y => listOf_at (st:=.rw) (room:=c) (by rw [hB]; exact bH_x _ _ _ _ _) (fun x => BK.noConfusion x) hml
 have hL2 : ∀ (m2 r2 : M) (c c2 : Nat) (Y : List Blk),listOf (bH h m2 r2 (B c :: B c2 :: Y)) (.sl (.g (h.length + 5 + 1)) 0 2048 c2) = some m.w:=fun m2 r2 c c2 Y => listOf_at (st:=.rw) (room:=c2) (by rw [hB]; exact bH_y h m2 r2 [⟨.rw,wc m.w,c⟩] _ Y) (fun x => BK.noConfusion x) hml
 have hd0:=hd1 m rfl
 have ht0:=hd2 m rfl
 by_cases c1 : (2147483647 : Int) < (L.length : Int)
 ·simp (maxSteps:=9999999) only [EV0,zy,zx,zw,zv,zu,zq,zp,zj,zk,leT,zg,rvC,zZ,zY,zX,zW,↓zV,↓zU,reduceCtorEq,zQ,yz,yY,yy,yx,yv,yu,yq,yp,yX,yj,yk,yg,yW,yV,yU,yZ,yQ,xz,df6,TBk,↓hlen,↓hkn,↓hnl,c1,Op.cl,put,fillP]
  exact hK _
 by_cases k1 : xw = 1
 ·subst k1
  by_cases hg : r.gE xa = 0
  ·cases he : r.eB xa
   ·simp (maxSteps:=9999999) only [EV0,zy,zx,zw,zv,zu,zq,zp,zj,zk,leT,zg,rvC,zZ,zY,zX,zW,↓zV,↓zU,reduceCtorEq,zQ,yz,yY,yy,yx,yv,yu,yq,yp,yX,yj,yk,yg,yW,yV,yU,yZ,yQ,xz,df6,TBk,awake11G,playedG,dumpG,dumpM,empty2G,empty2M,bH_fm,bH_fr,bH_fb,bH_app,bH_len,hcc,hA,hF,hu1,l1,↓hlen,↓hkn,↓hnl,c1,Op.cl,hd0,ht0,hBe,hg,he,bne,reduceToNat,List.drop_zero,List.length_nil,Nat.add_zero,List.nil_append,put,fillP]
    repeat' first | exact hK _ | intro _
   ·obtain ⟨q1,q2,q3,q4⟩:=W.lays (r:=r.gX xa) ((gX_w r xa).trans hw) xa xn
    have hgm : m.gE xa = 0:=by rw [← gE_w hw]; exact hg
    obtain ⟨_,hzm⟩:=eB_free (by rw [← eB_w hw]; exact he)
    have T0 : m.To (laysX m (r.gX xa) xa xn).1 (fun x => if x = xa then hndS xn else m.gV x) m.fst:=by
     unfold laysX
     rw [gX_gE,gX_eB,if_pos ⟨hg,he⟩]
     exact (M.To.refl m).pX hgm (hnd_R _).1
    obtain ⟨⟨m1,r1⟩,e1⟩ : ∃ z,laysX m (r.gX xa) xa xn = z:=⟨_,rfl⟩
    rw [e1] at q2 q3 T0
    simp only at q2 q3 T0
    cases hp : promV r1 ⟨1,xa,xb,xn⟩
    ·simp (maxSteps:=9999999) only [EV0,zy,zx,zw,zv,zu,zq,zp,zj,zk,leT,zg,rvC,zZ,zY,zX,zW,↓zV,↓zU,reduceCtorEq,zQ,yz,yY,yy,yx,yv,yu,yq,yp,yX,yj,yk,yg,yW,yV,yU,yZ,yQ,xz,df6,TBk,awake11G,playedG,dumpG,dumpM,empty2G,empty2M,laysG,laysM,promG,promM,opF,bH_fm,bH_fr,bH_fb,bH_app,bH_len,hcc,hA,hF,hu1,l1,↓hlen,↓hkn,↓hnl,c1,Op.cl,hd0,ht0,hBe,hg,he,xu,e1,hp,bne,reduceToNat,List.drop_zero,List.length_nil,Nat.add_zero,List.nil_append,put,fillP]
     repeat' first | exact hK _ | intro _
    ·have hf : m1.fE xa = 0:=T0.full hgm (by rw [if_pos rfl,(hnd_R _).2]; decide)
     obtain ⟨hu0,_,_⟩:=W.inv.free hgm hzm
     obtain ⟨p1,p2⟩:=(q3.prom q2 (x:=⟨1,xa,xb,xn⟩)).2 hp
     obtain ⟨⟨L',S⟩,_⟩:=step_ins q3 (r:=m1) rfl (x:=⟨1,xa,xb,xn⟩) rfl (p2.imp And.right id)
     simp only at S
     obtain ⟨⟨e2,m2⟩,he2⟩ : ∃ z,m1.ins xb xa = z:=⟨_,rfl⟩
     obtain ⟨⟨e3,m3⟩,he3⟩ : ∃ z,m2.rem xa = z:=⟨_,rfl⟩
     rw [he2] at S
     simp only at S
     have key : e3 = 0 ∧ (e2 = 0 → m3.w = m.w):=by
      have h3 : (m2.rem xa).1 = e3 ∧ (m2.rem xa).2 = m3:=by rw [he3]; exact ⟨rfl,rfl⟩
      cases S with
      | no hne hw2 =>
       refine ⟨?_,fun h => absurd h hne⟩
       rw [← h3.1]
       exact (q3.of_w hw2).rem_out (by rw [fE_w hw2]; exact hf) hu0
      | ins wh hf2 hu2 hp2 T1 =>
       obtain ⟨z1,z2⟩:=W.back_ins hgm hzm T0 q3 hf hp2 T1
       exact ⟨h3.1.symm.trans z1,fun _ => by rw [← h3.2]; exact z2⟩
      | mov wh => exact absurd wh (by simp)
      | sw0 wh => exact absurd wh (by simp)
      | swp wh => exact absurd wh (by simp)
      | rem wh => exact absurd wh (by simp)
      | non wh => exact absurd rfl wh.1
     obtain ⟨rfl,hw3⟩:=key
     by_cases z2 : e2 = 0
     ·subst z2
      have hw3:=hw3 rfl
      have hd3:=hd1 m3 hw3
      have ht3:=hd2 m3 hw3
      simp (maxSteps:=9999999) only [EV0,zy,zx,zw,zv,zu,zq,zp,zj,zk,leT,zg,rvC,zZ,zY,zX,zW,↓zV,↓zU,reduceCtorEq,zQ,yz,yY,yy,yx,yv,yu,yq,yp,yX,yj,yk,yg,yW,yV,yU,yZ,yQ,xz,df6,TBk,awake11G,playedG,dumpG,dumpM,empty2G,empty2M,laysG,laysM,promG,promM,opF,insG,insM,remG,remM,he2,he3,sameWG,bH_fm,bH_fr,bH_fb,bH_app,bH_len,hcc,hA,hF,hu1,l1,↓hlen,↓hkn,↓hnl,c1,Op.cl,hd0,ht0,hd3,ht3,hL1,hL2,hb2,hBe,hg,he,xu,e1,hp,bne,reduceToNat,List.drop_zero,List.length_nil,Nat.add_zero,List.nil_append,put,fillP]
      repeat' first | exact hK _ | intro _
     ·have z2' : (e2 == 0) = false:=by simpa using z2
      simp (maxSteps:=9999999) only [EV0,zy,zx,zw,zv,zu,zq,zp,zj,zk,leT,zg,rvC,zZ,zY,zX,zW,↓zV,↓zU,reduceCtorEq,zQ,yz,yY,yy,yx,yv,yu,yq,yp,yX,yj,yk,yg,yW,yV,yU,yZ,yQ,xz,df6,TBk,awake11G,playedG,dumpG,dumpM,empty2G,empty2M,laysG,laysM,promG,promM,opF,insG,insM,remG,remM,he2,he3,bH_fm,bH_fr,bH_fb,bH_app,bH_len,hcc,hA,hF,hu1,l1,↓hlen,↓hkn,↓hnl,c1,Op.cl,hd0,ht0,hBe,hg,he,xu,e1,hp,z2,z2',bne,reduceToNat,List.drop_zero,List.length_nil,Nat.add_zero,List.nil_append,put,fillP]
      repeat' first | exact hK _ | intro _
  ·have hg' : (r.gE xa == 0) = false:=by simpa using hg
   simp (maxSteps:=9999999) only [EV0,zy,zx,zw,zv,zu,zq,zp,zj,zk,leT,zg,rvC,zZ,zY,zX,zW,↓zV,↓zU,reduceCtorEq,zQ,yz,yY,yy,yx,yv,yu,yq,yp,yX,yj,yk,yg,yW,yV,yU,yZ,yQ,xz,df6,TBk,awake11G,playedG,dumpG,dumpM,empty2G,empty2M,bH_fm,bH_fr,bH_fb,bH_app,bH_len,hcc,hA,hF,hu1,l1,↓hlen,↓hkn,↓hnl,c1,Op.cl,hd0,ht0,hBe,hg,hg',bne,reduceToNat,List.drop_zero,List.length_nil,Nat.add_zero,List.nil_append,put,fillP]
   repeat' first | exact hK _ | intro _
 have k1' : (xw == 1) = false:=by simpa using k1
 cases hp : promV r ⟨xw,xa,xb,xn⟩
 ·simp (maxSteps:=9999999) only [EV0,zy,zx,zw,zv,zu,zq,zp,zj,zk,leT,zg,rvC,zZ,zY,zX,zW,↓zV,↓zU,reduceCtorEq,zQ,yz,yY,yy,yx,yv,yu,yq,yp,yX,yj,yk,yg,yW,yV,yU,yZ,yQ,xz,df6,TBk,awake11G,playedG,dumpG,dumpM,promG,promM,opF,bH_fm,bH_fr,bH_fb,bH_app,bH_len,hcc,hA,hF,hu1,l1,↓hlen,↓hkn,↓hnl,c1,Op.cl,hd0,ht0,hBe,hp,k1,k1',bne,reduceToNat,List.drop_zero,List.length_nil,Nat.add_zero,List.nil_append,put,fillP]
  repeat' first | exact hK _ | intro _
 obtain ⟨p1,p2⟩:=(W.prom hw (x:=⟨xw,xa,xb,xn⟩)).2 hp
 have p1:=p1.resolve_left k1
 have p2:=p2.resolve_left fun h => k1 h.1
 by_cases k2 : xw = 2
 ·subst k2
  obtain ⟨⟨L',S⟩,_⟩:=step_mov W (r:=m) rfl (x:=⟨2,xa,xb,xn⟩) rfl p1 p2
  simp only at S
  obtain ⟨⟨e2,m2⟩,he2⟩ : ∃ z,m.mov xa xb = z:=⟨_,rfl⟩
  obtain ⟨⟨e3,m3⟩,he3⟩ : ∃ z,m2.mov xb xa = z:=⟨_,rfl⟩
  rw [he2] at S
  simp only at S
  have key : (e2 ≠ 0 ∧ m2.w = m.w) ∨ (e2 = 0 ∧ e3 = 0 ∧ m3.w = m.w):=by
   have h3 : (m2.mov xb xa).1 = e3 ∧ (m2.mov xb xa).2 = m3:=by rw [he3]; exact ⟨rfl,rfl⟩
   cases S with
   | no hne hw2 => exact .inl ⟨hne,hw2⟩
   | mov wh ha ht hz T =>
    obtain ⟨z1,z2⟩:=W.back_mov ha ht hz T
    exact .inr ⟨rfl,h3.1.symm.trans z1,by rw [← h3.2]; exact z2⟩
   | ins wh => exact absurd wh (by simp)
   | sw0 wh => exact absurd wh (by simp)
   | swp wh => exact absurd wh (by simp)
   | rem wh => exact absurd wh (by simp)
   | non wh => exact absurd rfl wh.2.1
  rcases key with ⟨z2,hw3⟩ | ⟨rfl,rfl,hw3⟩
  ·have z2' : (e2 == 0) = false:=by simpa using z2
   have hd3:=hd1 m2 hw3
   have ht3:=hd2 m2 hw3
   simp (maxSteps:=9999999) only [EV0,zy,zx,zw,zv,zu,zq,zp,zj,zk,leT,zg,rvC,zZ,zY,zX,zW,↓zV,↓zU,reduceCtorEq,zQ,yz,yY,yy,yx,yv,yu,yq,yp,yX,yj,yk,yg,yW,yV,yU,yZ,yQ,xz,df6,TBk,awake11G,playedG,dumpG,dumpM,promG,promM,opF,movG,movM,he2,he3,sameWG,bH_fm,bH_fr,bH_fb,bH_app,bH_len,hcc,hA,hF,hu1,l1,↓hlen,↓hkn,↓hnl,c1,Op.cl,hd0,ht0,hd3,ht3,hL1,hL2,hb2,hBe,hp,z2,z2',bne,reduceToNat,List.drop_zero,List.length_nil,Nat.add_zero,List.nil_append,put,fillP]
   repeat' first | exact hK _ | intro _
  ·have hd3:=hd1 m3 hw3
   have ht3:=hd2 m3 hw3
   simp (maxSteps:=9999999) only [EV0,zy,zx,zw,zv,zu,zq,zp,zj,zk,leT,zg,rvC,zZ,zY,zX,zW,↓zV,↓zU,reduceCtorEq,zQ,yz,yY,yy,yx,yv,yu,yq,yp,yX,yj,yk,yg,yW,yV,yU,yZ,yQ,xz,df6,TBk,awake11G,playedG,dumpG,dumpM,promG,promM,opF,movG,movM,he2,he3,sameWG,bH_fm,bH_fr,bH_fb,bH_app,bH_len,hcc,hA,hF,hu1,l1,↓hlen,↓hkn,↓hnl,c1,Op.cl,hd0,ht0,hd3,ht3,hL1,hL2,hb2,hBe,hp,bne,reduceToNat,List.drop_zero,List.length_nil,Nat.add_zero,List.nil_append,put,fillP]
   repeat' first | exact hK _ | intro _
 have k2' : (xw == 2) = false:=by simpa using k2
 by_cases k3 : xw = 3
 ·subst k3
  obtain ⟨⟨L',S⟩,_⟩:=step_swp W (r:=m) rfl (x:=⟨3,xa,xb,xn⟩) rfl p1 p2
  simp only at S
  obtain ⟨⟨e2,m2⟩,he2⟩ : ∃ z,m.swp xa xb = z:=⟨_,rfl⟩
  obtain ⟨⟨e3,m3⟩,he3⟩ : ∃ z,m2.swp xa xb = z:=⟨_,rfl⟩
  rw [he2] at S
  simp only at S
  have key : m3.w = m.w ∧ (e2 = 0 → e3 = 0):=by
   have h2 : (m.swp xa xb).1 = e2 ∧ (m.swp xa xb).2 = m2:=by rw [he2]; exact ⟨rfl,rfl⟩
   have h3 : (m2.swp xa xb).1 = e3 ∧ (m2.swp xa xb).2 = m3:=by rw [he3]; exact ⟨rfl,rfl⟩
   cases S with
   | no hne hw2 =>
    have e:=swp_1_w hw2 xa xb
    rw [h2.1,h3.1] at e
    refine ⟨?_,fun h => absurd h hne⟩
    rw [← h3.2,swp_err (by rw [h3.1,e]; exact hne)]; exact hw2
   | sw0 wh ha hab hw2 =>
    simp only at ha hab
    have hf:=(W.of_w hw2).inv.full xa ha
    have e3' : m2.swp xa xb = (0,(m2.gX xa).gX xb):=by unfold M.swp; rw [if_pos hf,gX_fE,← hab,if_pos hf,if_pos rfl]
    rw [e3'] at h3
    exact ⟨by rw [← h3.2,gX_w,gX_w]; exact hw2,fun _ => h3.1.symm⟩
   | swp wh ha hb hab T =>
    obtain ⟨z1,z2⟩:=W.back_swp ha hb hab T
    exact ⟨by rw [← h3.2]; exact z2,fun _ => h3.1.symm.trans z1⟩
   | ins wh => exact absurd wh (by simp)
   | mov wh => exact absurd wh (by simp)
   | rem wh => exact absurd wh (by simp)
   | non wh => exact absurd rfl wh.2.2.1
  obtain ⟨hw3,hz⟩:=key
  have hd3:=hd1 m3 hw3
  have ht3:=hd2 m3 hw3
  by_cases z2 : e2 = 0
  ·obtain rfl:=hz z2
   subst z2
   simp (maxSteps:=9999999) only [EV0,zy,zx,zw,zv,zu,zq,zp,zj,zk,leT,zg,rvC,zZ,zY,zX,zW,↓zV,↓zU,reduceCtorEq,zQ,yz,yY,yy,yx,yv,yu,yq,yp,yX,yj,yk,yg,yW,yV,yU,yZ,yQ,xz,df6,TBk,awake11G,playedG,dumpG,dumpM,promG,promM,opF,swpG,swpM,he2,he3,sameWG,bH_fm,bH_fr,bH_fb,bH_app,bH_len,hcc,hA,hF,hu1,l1,↓hlen,↓hkn,↓hnl,c1,Op.cl,hd0,ht0,hd3,ht3,hL1,hL2,hb2,hBe,hp,bne,reduceToNat,List.drop_zero,List.length_nil,Nat.add_zero,List.nil_append,put,fillP]
   repeat' first | exact hK _ | intro _
  ·have z2' : (e2 == 0) = false:=by simpa using z2
   simp (maxSteps:=9999999) only [EV0,zy,zx,zw,zv,zu,zq,zp,zj,zk,leT,zg,rvC,zZ,zY,zX,zW,↓zV,↓zU,reduceCtorEq,zQ,yz,yY,yy,yx,yv,yu,yq,yp,yX,yj,yk,yg,yW,yV,yU,yZ,yQ,xz,df6,TBk,awake11G,playedG,dumpG,dumpM,promG,promM,opF,swpG,swpM,he2,he3,sameWG,bH_fm,bH_fr,bH_fb,bH_app,bH_len,hcc,hA,hF,hu1,l1,↓hlen,↓hkn,↓hnl,c1,Op.cl,hd0,ht0,hd3,ht3,hL1,hL2,hb2,hBe,hp,z2,z2',bne,reduceToNat,List.drop_zero,List.length_nil,Nat.add_zero,List.nil_append,put,fillP]
   repeat' first | exact hK _ | intro _
 have k3' : (xw == 3) = false:=by simpa using k3
 simp (maxSteps:=9999999) only [EV0,zy,zx,zw,zv,zu,zq,zp,zj,zk,leT,zg,rvC,zZ,zY,zX,zW,↓zV,↓zU,reduceCtorEq,zQ,yz,yY,yy,yx,yv,yu,yq,yp,yX,yj,yk,yg,yW,yV,yU,yZ,yQ,xz,df6,TBk,awake11G,playedG,dumpG,dumpM,promG,promM,opF,bH_fm,bH_fr,bH_fb,bH_app,bH_len,hcc,hA,hF,hu1,l1,↓hlen,↓hkn,↓hnl,c1,Op.cl,hd0,ht0,hBe,hp,k1,k1',k2,k2',k3,k3',bne,reduceToNat,List.drop_zero,List.length_nil,Nat.add_zero,List.nil_append,put,fillP]
 repeat' first | exact hK _ | intro _
end Go.Proofs.Ytcdfofeolgbnbaa

/- CdtBack: for every input the law's Go function answers true,and its arguments read behind the call as before. No conditions. -/
namespace Go.Proofs.Ytcdfofeolgbnbaa
open Go.D
set_option linter.all false
set_option maxRecDepth 100000

theorem cdtBack_law : Law cdtBackS [(false,[.slice OpT]),(true,OpT)]:=by
 intro h us H hc
 obtain ⟨_,_,rfl,H1,H⟩:=lawC H
 obtain ⟨_,_,rfl,H2,H⟩:=lawC H
 obtain rfl:=lawN H
 obtain ⟨s,L,rfl,e1,e2,e3⟩:=hasV_slice (c:=Op.cl) (p:=Op.u) (fun ss h => hasTs_op11 h) H1
 obtain ⟨ss,rfl,Hx⟩:=H2
 obtain ⟨x,rfl,hx⟩:=hasTs_op11 Hx
 exact ⟨s,L,x,rfl,e1,e2,by omega,hx,fun _ => rfl⟩
theorem cdtBack_row : RowOk Try.prog 6 Try.f6 Rows.cdtBackSpec [(false,[.slice OpT]),(true,OpT)] where
 own:=own
 noTabs:=rfl
 noInit:=by kernel_rfl
 isf:=Try.func6
 laid:=laid
 rowed:=rowed
 full:=full
 params:=by kernel_rfl
 vars:=rfl
 ret:=⟨_,rfl,by kernel_rfl⟩
 spec:=fun H ds e => by
  match ds,e with
  | [_,_],_ => rfl
 tys:=⟨20,by kernel_rfl⟩
theorem cdtBack_holds : Rows.CdtBackSaid :=
 OpenClaim.holds_of_wide 6 Try.f6 rfl rfl rfl rfl rfl rfl rfl ⟨rfl,rfl,rfl,rfl,rfl⟩ rfl rfl rfl rfl rfl (by kernel_rfl) Try.func6 (by kernel_rfl)
  (of_decide_eq_true (by kernel_rfl)) (by unfold Func.isWrapper; first | (rw [if_pos (by decide +kernel)]; kernel_rfl) | (rw [if_neg (by decide +kernel)]; exact ⟨rfl,rfl⟩))
  (fun os started H enc _ => cdtBack_row.lifted (C:=Try.checked) cdtBack_snd cdtBack_law started (ChangeSpec.witness6 (enc:=enc) (C:=Try.checked) false ⟨#[], #[.slice none 0 0, .agg #[.int .i64 0, .int .i64 0, .int .i64 0, .int .i64 0]],[]⟩ 8 (by kernel_rfl) (by kernel_rfl) (by kernel_rfl) (by kernel_rfl)))
end Go.Proofs.Ytcdfofeolgbnbaa

/- How many steps the derivation's calls take,whatever words lie in the memory. -/
namespace Go.Proofs.Ytcdfofeolgbnbaa
open Go.D
set_option linter.all false
set_option maxRecDepth 100000
set_option maxHeartbeats 4000000

def Tk (m m' : M) (k : Nat) : Prop:=(∃ j : Nat,j ≤ k ∧ m'.n = IntKind.i64.wrap (m.n + j)) ∧ m'.w.length = m.w.length
theorem wrap_wrap (a : Int) (j : Int) : IntKind.i64.wrap (IntKind.i64.wrap a + j) = IntKind.i64.wrap (a + j):=by
 rw [IntKind.wrap_i64,IntKind.wrap_i64,IntKind.wrap_i64]; omega
section
variable {m m1 m2 : M} {j k : Nat}
theorem Tk.trans (h : Tk m m1 j) (h2 : Tk m1 m2 k) : Tk m m2 (j + k):=by
 obtain ⟨⟨a,ha,e1⟩,l1⟩:=h
 obtain ⟨⟨b,hb,e2⟩,l2⟩:=h2
 refine ⟨⟨a + b,by omega, ?_⟩,l2.trans l1⟩
 rw [e2,e1,wrap_wrap]
 congr 1
 omega
theorem Tk.mono (h : Tk m m1 j) (hk : j ≤ k) : Tk m m1 k:=by
 obtain ⟨⟨a,ha,e1⟩,l1⟩:=h
 exact ⟨⟨a,by omega,e1⟩,l1⟩
theorem Tk.tick (m : M) (k : Nat) : Tk m (m.tick k) k:=⟨⟨k,Nat.le_refl _,rfl⟩,rfl⟩
end
def M.nb (m : M) : Prop:=-9223372036854775808 ≤ m.n ∧ m.n < 9223372036854775808
theorem Tk.nb {m m' : M} {k : Nat} (h : Tk m m' k) : m'.nb:=by
 obtain ⟨⟨a,ha,e⟩,_⟩:=h
 unfold M.nb
 rw [e,IntKind.wrap_i64]; omega
theorem Tk.same {m m' : M} {k : Nat} (hn : m.nb) (e : m' = m) : Tk m m' k:=by
 subst e
 unfold M.nb at hn
 refine ⟨⟨0,Nat.zero_le _, ?_⟩,rfl⟩
 rw [Int.natCast_zero,Int.add_zero,wrap64] <;> omega
section
variable {m : M}
theorem Tk.gX (hn : m.nb) (a : Int) : Tk m (m.gX a) 4:=by
 unfold M.gX; split
 ·exact Tk.tick m 4
 ·exact Tk.same hn rfl
theorem Tk.fstX (hn : m.nb) : Tk m m.fstX 1:=by
 unfold M.fstX; split
 ·exact Tk.tick m 1
 ·exact Tk.same hn rfl
theorem Tk.liX (hn : m.nb) (s : Slot) : Tk m (m.liX s) 1:=by
 unfold M.liX; split
 ·exact Tk.fstX hn
 ·exact Tk.same hn rfl
theorem Tk.sfX (hn : m.nb) (a : Int) : Tk m (m.sfX a) 1:=by
 refine ⟨?_,sfX_len _ _⟩
 unfold M.sfX; split
 ·exact ⟨1,Nat.le_refl _,rfl⟩
 ·exact (Tk.same (m':=m) (k:=1) hn rfl).1
theorem Tk.pX (hn : m.nb) (a : Int) (s : Slot) : Tk m (m.pX a s) 4:=by
 refine ⟨?_,pX_len _ _ _⟩
 unfold M.pX; split
 ·exact ⟨4,Nat.le_refl _,rfl⟩
 ·exact (Tk.same (m':=m) (k:=4) hn rfl).1
theorem Tk.turnX (hn : m.nb) (a : Int) (g : Slot → Slot) : Tk m (m.turnX a g) 8:=by
 unfold M.turnX; split
 ·exact Tk.same hn rfl
 ·split
  ·exact (Tk.gX hn a).trans (Tk.pX (Tk.gX hn a).nb a _)
  ·exact (Tk.gX hn a).mono (by omega)
theorem Tk.joinX (hn : m.nb) (p a n : Int) : Tk m (m.joinX p a n) 17:=by
 unfold M.joinX
 have h1 : Tk m (if p = 0 then m.sfX a else m) 1:=by
  split
  ·exact Tk.sfX hn a
  ·exact Tk.same hn rfl
 have h2:=h1.trans (Tk.turnX h1.nb p fun s => ⟨s.cap,s.prev,a,s.depth⟩)
 exact h2.trans (Tk.turnX h2.nb n _)
theorem Tk.ins (hn : m.nb) (p a : Int) : Tk m (m.ins p a).2 40:=by
 unfold M.ins
 have h1:=Tk.gX hn a
 have h2:=h1.trans (Tk.liX h1.nb (m.gV a))
 have h3:=h2.trans (Tk.fstX h2.nb)
 split
 ·split
  ·exact h2.mono (by omega)
  ·split
   ·have h4:=h3.trans (Tk.pX h3.nb a ⟨(m.gV a).cap,(m.gV a).prev,((m.gX a).liX (m.gV a)).fst,(m.gV a).depth⟩)
    exact (h4.trans (Tk.joinX h4.nb _ _ _)).mono (by omega)
   ·have h4:=h3.trans (Tk.gX h3.nb p)
    split
    ·split
     ·exact h4.mono (by omega)
     ·have h5:=h4.trans (Tk.pX h4.nb a ⟨(m.gV a).cap,p,((((m.gX a).liX (m.gV a)).fstX).gV p).next,IntKind.i64.wrap (((((m.gX a).liX (m.gV a)).fstX).gV p).depth + 1)⟩)
      exact (h5.trans (Tk.joinX h5.nb _ _ _)).mono (by omega)
    ·exact h4.mono (by omega)
 ·exact h1.mono (by omega)
theorem Tk.mov (hn : m.nb) (f t : Int) : Tk m (m.mov f t).2 40:=by
 unfold M.mov
 have h1:=Tk.gX hn f
 have h2:=h1.trans (Tk.gX h1.nb t)
 split
 ·split
  ·split
   ·have h3:=h2.trans (Tk.liX h2.nb (m.gV f))
    have h4:=h3.trans (Tk.pX h3.nb t (m.gV f))
    have h5:=h4.trans (Tk.pX h4.nb f slotZ)
    simp only
    split
    ·exact (h5.trans (Tk.joinX h5.nb _ _ _)).mono (by omega)
    ·exact h5.mono (by omega)
   ·exact h2.mono (by omega)
  ·exact h2.mono (by omega)
 ·exact h1.mono (by omega)
theorem Tk.swap2 (hn : m.nb) (a b : Int) (s t : Slot) (x y : Bool) : Tk m (m.swap2 a b s t x y) 42:=by
 unfold M.swap2
 have h1:=Tk.pX hn a (t.oth a b)
 have h2:=h1.trans (Tk.pX h1.nb b (s.oth a b))
 have h3 : Tk m (if x = true then ((m.pX a (t.oth a b)).pX b (s.oth a b)).joinX (s.oth a b).prev b (s.oth a b).next else (m.pX a (t.oth a b)).pX b (s.oth a b)) 25:=by
  split
  ·exact h2.trans (Tk.joinX h2.nb _ _ _)
  ·exact h2.mono (by omega)
 simp only
 split
 ·exact h3.trans (Tk.joinX h3.nb _ _ _)
 ·exact h3.mono (by omega)
theorem Tk.swp (hn : m.nb) (a b : Int) : Tk m (m.swp a b).2 60:=by
 unfold M.swp
 have h1:=Tk.gX hn a
 have h2:=h1.trans (Tk.gX h1.nb b)
 split
 ·split
  ·split
   ·exact h2.mono (by omega)
   ·have h3:=h2.trans (Tk.liX h2.nb (m.gV a))
    have h4:=h3.trans (Tk.liX h3.nb ((m.gX a).gV b))
    exact (h4.trans (Tk.swap2 h4.nb _ _ _ _ _ _)).mono (by omega)
  ·exact h2.mono (by omega)
 ·exact h1.mono (by omega)
theorem Tk.dsW {d : Int} : ∀ (k : Nat) (x : Int) (m : M) (l : List Int),m.nb → Tk m (dsW d k x m l).2 (4 * k)
 | 0,x,m,l,hn => by
  simp only [_root_.Go.Proofs.Ytcdfofeolgbnbaa.dsW]
  split <;> exact Tk.same hn rfl
 | k + 1,x,m,l,hn => by
  simp only [_root_.Go.Proofs.Ytcdfofeolgbnbaa.dsW]
  have h1:=Tk.gX hn x
  split
  ·exact Tk.same hn rfl
  ·split
   ·split
    ·exact h1.mono (by omega)
    ·exact (h1.trans (Tk.dsW k _ _ _ h1.nb)).mono (by omega)
   ·exact h1.mono (by omega)
theorem Tk.dsO (hn : m.nb) (x : Int) : Tk m (m.dsO x).2 (4 * (m.w.length / 4) + 4):=by
 unfold M.dsO
 have h1:=Tk.gX hn x
 split
 ·exact (h1.trans (Tk.dsW _ _ _ _ h1.nb)).mono (by omega)
 ·exact h1.mono (by omega)
theorem Tk.lis (hn : m.nb) : Tk m m.lis.2 (4 * (m.w.length / 4) + 1):=by
 unfold M.lis
 have h1:=Tk.fstX hn
 exact (h1.trans (Tk.dsW _ _ _ _ h1.nb)).mono (by omega)
theorem Tk.nxX (hn : m.nb) (a : Int) : Tk m (m.nxX a) 8:=by
 unfold M.nxX
 have h1:=Tk.gX hn a
 split
 ·split
  ·exact h1.mono (by omega)
  ·exact h1.trans (Tk.gX h1.nb _)
 ·exact h1.mono (by omega)
theorem Tk.decX : ∀ (l : List Int) {m : M},m.nb → Tk m (m.decX l) (8 * l.length)
 | [],m,hn => Tk.same hn rfl
 | x :: l,m,hn => by
  have h1:=Tk.turnX hn x depC
  exact (h1.trans (Tk.decX l h1.nb)).mono (by simp only [List.length_cons]; omega)
theorem Tk.remT (hn : m.nb) (x : Int) (s : Slot) (li : Bool) : Tk m (m.remT x s li) 21:=by
 unfold M.remT
 have h1:=Tk.pX hn x slotZ
 have h2 : Tk m (if s.prev = 0 then (m.pX x slotZ).sfX s.next else m.pX x slotZ) 5:=by
  split
  ·exact h1.trans (Tk.sfX h1.nb _)
  ·exact h1.mono (by omega)
 split
 ·have h3:=h2.trans (Tk.turnX h2.nb s.prev fun t => ⟨t.cap,t.prev,s.next,t.depth⟩)
  exact h3.trans (Tk.turnX h3.nb _ _)
 ·exact h1.mono (by omega)
theorem Tk.rem (hn : m.nb) (x : Int) : Tk m (m.rem x).2 (12 * (m.w.length / 4) + 40):=by
 unfold M.rem
 have h1:=Tk.gX hn x
 split
 ·have h2:=h1.trans (Tk.gX h1.nb x)
  have h3:=h2.trans (Tk.dsW (d:=(m.gV x).depth) (m.w.length / 4) (m.gV x).next ((m.gX x).gX x) [] h2.nb)
  split
  ·rename_i e
   rw [e] at h3
   exact h3.mono (by omega)
  ·rename_i l m2 e
   rw [e] at h3
   have hl:=dsW_len _ _ _ _ e
   simp only [List.length_nil] at hl
   have h4:=h3.trans (Tk.liX h3.nb (m.gV x))
   have h5:=h4.trans (Tk.decX l h4.nb)
   exact (h5.trans (Tk.remT h5.nb _ _ _)).mono (by omega)
 ·exact h1.mono (by omega)
end
end Go.Proofs.Ytcdfofeolgbnbaa

