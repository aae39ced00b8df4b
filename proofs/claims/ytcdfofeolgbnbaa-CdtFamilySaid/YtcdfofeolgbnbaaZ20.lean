/- Law 11: who is below whom stays so,behind each act. -/
import Derived.Test.YtcdfofeolgbnbaaZ8
import Derived.Deep.Slices
import Derived.ChangeSame
import Derived.ReadAgain
import Derived.RowKit3
import Derived.OpenShut
import Derived.SizedLaws
import Derived.JoinedCond
import Derived.KernelRfl
import Derived.Test.YtcdfofeolgbnbaaRows
import Derived.Test.YtcdfofeolgbnbaaZ10
import Derived.Test.YtcdfofeolgbnbaaZ13
import Derived.Test.YtcdfofeolgbnbaaZ17
import Derived.Test.YtcdfofeolgbnbaaZ18
import Derived.Test.YtcdfofeolgbnbaaZ19
/- The arguments of a statement: what is read of them becomes values over read-only blocks; behind the call they read as before. -/
namespace Go.D
set_option linter.all false
variable [Tabs]

inductive TY where
 | int (k : IntKind)
 | bool
 | slice (e : List TY)

mutual
def hasT (h : List Blk) : TY → S → Prop
 | .int k,s => ∃ n,s = .i k n ∧ (Lit.int k n).wf = true
 | .bool,s => ∃ b,s = .b b
 | .slice e,s => s = .ns ∨ (∃ a c,s = .es a c) ∨ ∃ (j n c : Nat) (E : List (List S)) (st : BK) (room : Nat),s = .sl (.g j) 0 n c ∧ n ≤ c ∧ n ≤ 140737488355328 ∧ h[j]? = some ⟨st,E.flatten,room⟩ ∧ E.length = n ∧ (n ≠ 0 → st = .ro) ∧ st ≠ .rw ∧ ∀ x,x ∈ E → hasTs h e x
def hasTs (h : List Blk) : List TY → List S → Prop
 | [],[] => True
 | t :: ts,s :: ss => hasT h t s ∧ hasTs h ts ss
 | _,_ => False
end

structure RO (σ : Sg) (h : List Blk) (w : World) : Prop where
 ok : ∀ k B,h[k]? = some B → B.st ≠ .rw ∧ OkBlk σ w (.g k) B
 val : ∀ B,B ∈ h → vals h.length 0 B.cells = true

theorem RO.sim {σ : Sg} {h : List Blk} {w : World} (H : RO σ h w) : Sim σ h [] w:=by
 refine ⟨fun r B hb => ?_,fun r r' B B' hb hb' hne hst hd => ?_,H.val,fun B hB => by cases hB⟩
 ·cases r with
  | g k => exact (H.ok k B hb).2
  | l k => simp [blk] at hb
 ·cases r with
  | g k => exact absurd hst (H.ok k B hb).1
  | l k => simp [blk] at hb

mutual
theorem hasT_mono {h h' : List Blk} : ∀ {t : TY} {s : S},hasT h t s → hasT (h ++ h') t s
 | .int k,s,hs => hs
 | .bool,s,hs => hs
 | .slice e,s,hs => by
  rcases hs with hs | hs | ⟨j,n,c,E,st,room,h1,h2,h3,h4,h5,h6,h7,h8⟩
  ·exact .inl hs
  ·exact .inr (.inl hs)
  ·exact .inr (.inr ⟨j,n,c,E,st,room,h1,h2,h3,by rw [List.getElem?_append_left (List.getElem?_eq_some_iff.1 h4).1]; exact h4,h5,h6,h7,fun x hx => hasTs_mono (h8 x hx)⟩)
theorem hasTs_mono {h h' : List Blk} : ∀ {ts : List TY} {ss : List S},hasTs h ts ss → hasTs (h ++ h') ts ss
 | [],[],_ => trivial
 | t :: ts,s :: ss,hs => ⟨hasT_mono hs.1,hasTs_mono hs.2⟩
 | [],_ :: _,hs => hs.elim
 | _ :: _,[],hs => hs.elim
end

/-! ### types,flattened -/
def tyFields (P : Program) (r : TypeId → Option (List TY)) : List Field → Nat → Option (List TY)
 | [],_ => some []
 | f :: fs,off => match r f.type,tyFields P r fs (off + P.cellsOf f.type) with
  | some l,some q => if f.offset = off ∧ l.length = P.cellsOf f.type then some (l ++ q) else none
  | _,_ => none

def tyOf (P : Program) : Nat → TypeId → Option (List TY)
 | 0,_ => none
 | d + 1,t => match P.underlying t with
  | some (.int k) => some [.int k]
  | some .bool => some [.bool]
  | some (.slice e) => match tyOf P d e with
   | some l => if l.length = P.cellsOf e ∧ 0 < l.length ∧ 0 < P.bytesOf e then some [.slice l] else none
   | none => none
  | some (.struct fs) => match tyFields P (tyOf P d) fs.toList 0 with
   | some l => if l.length = P.cellsOf t then some l else none
   | none => none
  | some (.array n e) => match tyOf P d e with
   | some l => if l.length = P.cellsOf e ∧ P.cellsOf t = n * P.cellsOf e then some (List.replicate n l).flatten else none
   | none => none
  | _ => none

section
variable {H : Type} {enc : TypeId × Value → H} {P : Program} {w : World}

def Opens (w : World) (cs : List Value) (tys : List TY) : Prop :=
 ∀ (σ : Sg) (h : List Blk),RO σ h w → ∃ (h' : List Blk) (σ' : Sg) (ss : List S),(∀ k,k < h.length → σ' (.g k) = σ (.g k)) ∧ RO σ' (h ++ h') w ∧ hasTs (h ++ h') tys ss ∧ ss.map (S.tr σ') = cs ∧ vals (h ++ h').length 0 ss = true ∧ known ss = true

theorem hasTs_append {h : List Blk} : ∀ {t1 t2 : List TY} {s1 s2 : List S},hasTs h t1 s1 → hasTs h t2 s2 → hasTs h (t1 ++ t2) (s1 ++ s2)
 | [],_,[],_,_,h2 => h2
 | _ :: _,_,_ :: _,_,h1,h2 => ⟨h1.1,hasTs_append h1.2 h2⟩
 | [],_,_ :: _,_,h1,_ => h1.elim
 | _ :: _,_,[],_,h1,_ => h1.elim

theorem hasTs_length {h : List Blk} : ∀ {ts : List TY} {ss : List S},hasTs h ts ss → ss.length = ts.length
 | [],[],_ => rfl
 | _ :: _,_ :: _,h1 => by simp [hasTs_length h1.2]
 | [],_ :: _,h1 => h1.elim
 | _ :: _,[],h1 => h1.elim

theorem trs_old {σ σ' : Sg} {n : Nat} (hA : ∀ k,k < n → σ' (.g k) = σ (.g k)) {ss : List S} (hv : vals n 0 ss = true) : ss.map (S.tr σ') = ss.map (S.tr σ):=by
 simp only [vals,List.all_eq_true] at hv
 refine List.map_congr_left fun s hs => S.tr_congr (n:=n) (m:=0) (fun r hr => ?_) s (hv s hs)
 cases r with
 | g k => exact hA k (by simpa [R.val] using hr)
 | l k => simp [R.val] at hr

theorem Opens.nil : Opens w [] []:=fun σ h H => ⟨[], σ,[],fun _ _ => rfl,by simpa using H,trivial,rfl,rfl,rfl⟩

theorem Opens.append {c1 c2 : List Value} {t1 t2 : List TY} (h1 : Opens w c1 t1) (h2 : Opens w c2 t2) : Opens w (c1 ++ c2) (t1 ++ t2):=fun σ h H => by
 obtain ⟨ha, σa,sa,a1,a2,a3,a4,a5,a6⟩:=h1 σ h H
 obtain ⟨hb, σb,sb,b1,b2,b3,b4,b5,b6⟩:=h2 σa (h ++ ha) a2
 refine ⟨ha ++ hb, σb,sa ++ sb,fun k hk => ?_,by rw [← List.append_assoc]; exact b2, ?_, ?_, ?_, ?_⟩
 ·rw [b1 k (by simp; omega),a1 k hk]
 ·rw [← List.append_assoc]; exact hasTs_append (hasTs_mono a3) b3
 ·rw [List.map_append,b4,trs_old b1 a5,a4]
 ·rw [← List.append_assoc]
  simp only [vals,List.all_append,Bool.and_eq_true]
  exact ⟨vals_mono (by simp) (Nat.le_refl _) a5,b5⟩
 ·simp only [known,List.all_append,Bool.and_eq_true]
  exact ⟨a6,b6⟩

theorem Opens.one {v : Value} {t : TY} (h : ∀ σ : Sg,∀ h : List Blk,∃ s : S,hasT h t s ∧ s.tr σ = v ∧ s.val 0 0 = true ∧ V.known (.s s) = true) : Opens w [v] [t]:=fun σ h0 H => by
 obtain ⟨s,e1,e2,e3,e4⟩:=h σ h0
 refine ⟨[], σ,[s],fun _ _ => rfl,by simpa using H,⟨by simpa using e1,trivial⟩,by simp [e2], ?_, ?_⟩
 ·simp only [vals,List.all_cons,List.all_nil,Bool.and_true]
  exact S.val_mono (Nat.zero_le _) (Nat.zero_le _) e3
 ·rw [known_cons,e4]; rfl

theorem Opens.list {l : List TY} (C : Nat → List Value) : ∀ m : Nat,(∀ i,i < m → Opens w (C i) l) → ∀ (σ : Sg) (h : List Blk),RO σ h w → ∃ (h' : List Blk) (σ' : Sg) (E : List (List S)),(∀ k,k < h.length → σ' (.g k) = σ (.g k)) ∧ RO σ' (h ++ h') w ∧ E.length = m ∧
   (∀ x,x ∈ E → hasTs (h ++ h') l x) ∧ E.flatten.map (S.tr σ') = ((List.range m).map C).flatten ∧ vals (h ++ h').length 0 E.flatten = true ∧ known E.flatten = true
 | 0,_, σ,h,H => ⟨[], σ,[],fun _ _ => rfl,by simpa using H,rfl,fun x hx => absurd hx List.not_mem_nil,rfl,rfl,rfl⟩
 | m + 1,hC, σ,h,H => by
  obtain ⟨ha, σa,E,a1,a2,a3,a4,a5,a6,a7⟩:=Opens.list C m (fun i hi => hC i (by omega)) σ h H
  obtain ⟨hb, σb,sb,b1,b2,b3,b4,b5,b6⟩:=hC m (by omega) σa (h ++ ha) a2
  refine ⟨ha ++ hb, σb,E ++ [sb],fun k hk => ?_,by rw [← List.append_assoc]; exact b2,by simp [a3],fun x hx => ?_, ?_, ?_, ?_⟩
  ·rw [b1 k (by simp; omega),a1 k hk]
  ·rw [← List.append_assoc]
   rcases List.mem_append.1 hx with h1 | h1
   ·exact hasTs_mono (a4 x h1)
   ·simp only [List.mem_singleton] at h1; subst h1; exact b3
  ·rw [List.flatten_append,List.map_append,trs_old b1 a6,a5,List.range_succ,List.map_append,List.flatten_append]
   simp [b4]
  ·rw [← List.append_assoc,List.flatten_append,show [sb].flatten = sb by simp]
   simp only [vals,List.all_append,Bool.and_eq_true]
   exact ⟨vals_mono (by simp) (Nat.le_refl _) a6,b5⟩
  ·rw [List.flatten_append,show [sb].flatten = sb by simp]
   simp only [known,List.all_append,Bool.and_eq_true]
   exact ⟨a7,b6⟩

theorem Opens.slice {l : List TY} {a : Addr} {len cap k : Nat} (ha : a.spot = none) (hk : l.length = k) (hlc : len ≤ cap) (hcm : len ≤ 140737488355328) (C : Nat → List Value) (hC : ∀ i,i < len → Opens w (C i) l)
  (hcell : ∀ i j,i < len → j < k → ∃ v,(C i)[j]? = some v ∧ w.cell? (a.add (i * k + j)) = some v) (hlen : ∀ i,i < len → (C i).length = k) (hsz : len ≠ 0 → a.block < w.heap.size) : Opens w [.slice (some a) len cap] [.slice l]:=fun σ h H => by
 obtain ⟨ha', σa,E,a1,a2,a3,a4,a5,a6,a7⟩:=Opens.list C len hC σ h H
 let n:=(h ++ ha').length
 let σ' : Sg:=fun r => if r = .g n then (a.block,a.off) else σa r
 have hσ : ∀ k,k < n → σ' (.g k) = σa (.g k):=fun k hk => by
  show (if R.g k = .g n then _ else _) = _
  rw [if_neg (by intro e; cases e; omega)]
 have hσn : σ' (.g n) = (a.block,a.off):=by
  show (if R.g n = .g n then _ else _) = _
  rw [if_pos rfl]
 have hEl : ∀ x,x ∈ E → x.length = k:=fun x hx => by rw [hasTs_length (a4 x hx),hk]
 have hEt : E.flatten.map (S.tr σ') = ((List.range len).map C).flatten:=by rw [trs_old hσ a6,a5]
 have hflat : ∀ (m : Nat) (q : Nat) (v : Value),m ≤ len → (((List.range m).map C).flatten)[q]? = some v → w.cell? (a.add q) = some v ∧ q < m * k:=by
  intro m
  induction m with
  | zero => intro q v _ h; simp at h
  | succ m ih =>
   intro q v hm hq
   have hl : (((List.range m).map C).flatten).length = m * k:=by
    have : ∀ m',m' ≤ len → (((List.range m').map C).flatten).length = m' * k:=by
     intro m'
     induction m' with
     | zero => intro _; simp
     | succ m' ih' => intro hm'; rw [List.range_succ,List.map_append,List.flatten_append,List.length_append,ih' (by omega)]; simp [hlen m' (by omega),Nat.succ_mul]
    exact this m (by omega)
   rw [List.range_succ,List.map_append,List.flatten_append] at hq
   by_cases hlt : q < m * k
   ·rw [List.getElem?_append_left (by omega)] at hq
    obtain ⟨h1,h2⟩:=ih q v (by omega) hq
    exact ⟨h1,by rw [Nat.succ_mul]; omega⟩
   ·rw [List.getElem?_append_right (by omega),hl] at hq
    simp only [List.map_cons,List.map_nil,List.flatten_cons,List.flatten_nil,List.append_nil] at hq
    have hj : q - m * k < k:=by
     have:=(List.getElem?_eq_some_iff.1 hq).1
     rw [hlen m (by omega)] at this; exact this
    obtain ⟨v',h1,h2⟩:=hcell m (q - m * k) (by omega) hj
    rw [hq] at h1
    cases h1
    have e : m * k + (q - m * k) = q:=by omega
    rw [e] at h2
    exact ⟨h2,by rw [Nat.succ_mul]; omega⟩
 let B : Blk:=⟨if len = 0 then .dead else .ro,E.flatten,0⟩
 have hBst : B.st ≠ .rw:=by
  show (if len = 0 then BK.dead else .ro) ≠ .rw
  split <;> simp
 have hn1 : (h ++ (ha' ++ [B])).length = n + 1:=by simp only [n,List.length_append,List.length_cons,List.length_nil]; omega
 refine ⟨ha' ++ [B], σ',[.sl (.g n) 0 len cap],fun k hk => ?_,⟨fun k B' hB => ?_,fun B' hB => ?_⟩,⟨.inr (.inr ⟨n,len,cap,E,_,0,rfl,hlc,hcm, ?_,a3,fun h0 => if_neg h0,hBst,fun x hx => ?_⟩),trivial⟩, ?_, ?_,rfl⟩
 ·rw [hσ k (by show k < (h ++ ha').length; simp; omega),a1 k hk]
 ·rw [← List.append_assoc] at hB
  by_cases hk : k < n
  ·rw [List.getElem?_append_left hk] at hB
   obtain ⟨c1,c2⟩:=a2.ok k B' hB
   refine ⟨c1,c2.move (n:=n) (m:=0) (hσ k hk) (fun r hr => ?_) (a2.val B' (List.mem_of_getElem? hB)) (Nat.le_refl _) (fun _ => rfl)⟩
   cases r with
   | g i => exact hσ i (by simpa [R.val] using hr)
   | l i => simp [R.val] at hr
  ·have hkn : k = n:=by
    have:=(List.getElem?_eq_some_iff.1 hB).1
    simp only [List.length_append,List.length_cons,List.length_nil] at this
    simp only [n,List.length_append] at hk ⊢
    omega
   subst hkn
   rw [List.getElem?_append_right (Nat.le_refl _),Nat.sub_self] at hB
   simp only [List.getElem?_cons_zero,Option.some.injEq] at hB
   subst hB
   refine ⟨hBst, ?_⟩
   unfold OkBlk
   show match (if len = 0 then BK.dead else .ro) with
    | .dead => True
    | .ro => _
    | .rw => _
   by_cases h0 : len = 0
   ·rw [if_pos h0]; trivial
   ·rw [if_neg h0]
    refine ⟨by rw [hσn]; exact hsz h0,fun i s hs _ => ?_⟩
    have h1 : (E.flatten.map (S.tr σ'))[i]? = some (s.tr σ'):=by
     rw [List.getElem?_map,show E.flatten[i]? = some s from hs]; rfl
    rw [hEt] at h1
    have h2:=(hflat len i _ (Nat.le_refl _) h1).1
    have e : a.add i = adr σ' (.g n) i:=by
     simp only [adr,hσn,Addr.add]
     cases a; simp only at ha; subst ha
     by_cases hi : i = 0
     ·subst hi; simp
     ·simp [hi]
    rw [← e]; exact h2
 ·rw [hn1]
  rw [← List.append_assoc] at hB
  rcases List.mem_append.1 hB with hB | hB
  ·exact vals_mono (Nat.le_succ n) (Nat.le_refl _) (a2.val B' hB)
  ·simp only [List.mem_singleton] at hB
   subst hB
   exact vals_mono (Nat.le_succ n) (Nat.le_refl _) a6
 ·rw [← List.append_assoc,List.getElem?_append_right (Nat.le_refl _),Nat.sub_self]; rfl
 ·rw [← List.append_assoc]; exact hasTs_mono (a4 x hx)
 ·simp only [List.map_cons,List.map_nil,S.tr,adr,hσn,Nat.add_zero]
  cases a; simp only at ha; subst ha; rfl
 ·rw [hn1]; simp [vals,S.val,R.val]


theorem Opens.fields {d : TypeId → Option (List TY)} {cs : List Value} : ∀ (fs : List Field) (off : Nat) (tys : List TY),tyFields P d fs off = some tys → off + tys.length = cs.length →
   (∀ f,f ∈ fs → ∀ l,d f.type = some l → l.length = P.cellsOf f.type → f.offset + P.cellsOf f.type ≤ cs.length → Opens w ((cs.drop f.offset).take (P.cellsOf f.type)) l) → Opens w (cs.drop off) tys
 | [],off,tys,ht,hl,_ => by
  simp only [tyFields,Option.some.injEq] at ht
  subst ht
  rw [List.drop_eq_nil_of_le (by simp at hl; omega)]
  exact Opens.nil
 | f :: fs,off,tys,ht,hl,hf => by
  simp only [tyFields] at ht
  split at ht
  ·rename_i l q h1 h2
   split at ht
   ·rename_i hc
    cases ht
    obtain ⟨h3,h4⟩:=hc
    simp only [List.length_append] at hl
    have ih:=Opens.fields fs (off + P.cellsOf f.type) q h2 (by omega) (fun g hg => hf g (List.mem_cons_of_mem _ hg))
    have h0:=hf f List.mem_cons_self l h1 h4 (by rw [h3]; omega)
    rw [h3] at h0
    have e : cs.drop off = (cs.drop off).take (P.cellsOf f.type) ++ cs.drop (off + P.cellsOf f.type):=by
     rw [← List.drop_drop,List.take_append_drop]
    rw [e]
    exact h0.append ih
   ·cases ht
  ·cases ht

theorem Opens.array {k : Nat} {l : List TY} (hk : l.length = k) : ∀ (n : Nat) (cs : List Value),cs.length = n * k → (∀ i,i < n → Opens w ((cs.drop (i * k)).take k) l) → Opens w cs (List.replicate n l).flatten
 | 0,cs,hl,_ => by
  have : cs = []:=by cases cs <;> simp_all
  subst this
  exact Opens.nil
 | n + 1,cs,hl,h => by
  have h0:=h 0 (by omega)
  simp only [Nat.zero_mul,List.drop_zero] at h0
  have ih:=Opens.array hk n (cs.drop k) (by simp [hl,Nat.succ_mul]) (fun i hi => by
   have:=h (i + 1) (by omega)
   rw [List.drop_drop]
   have e : k + i * k = (i + 1) * k:=by rw [Nat.succ_mul]; omega
   rw [e]; exact this)
  have e : cs = cs.take k ++ cs.drop k:=(List.take_append_drop _ _).symm
  rw [e,List.replicate_succ,List.flatten_cons]
  exact h0.append ih


theorem weightsAll_mem {e : TypeId} : ∀ {l : List (DataW H)} {d : DataW H},d ∈ l → ∀ n,n ∈ d.weights P e → n ∈ DataW.weightsAll P e l
 | x :: l,d,h,n,hn => by
  simp only [DataW.weightsAll,List.mem_append]
  rcases List.mem_cons.1 h with rfl | h
  ·exact .inl hn
  ·exact .inr (weightsAll_mem h n hn)

theorem open_trod {base : Nat} {spare : Nat → Bool} {held : Bool} : ∀ (d : Nat) (n : Nat) (t : TypeId) (cs : List Value) (x : DataW H × List MemPlace) (tys : List TY),
  DataW.trod enc P w base spare held n t cs = some x → tyOf P d t = some tys → (∀ k,k ∈ x.1.weights P t → k ≤ reachBytes) → Opens w cs tys
 | 0,_,_,_,_,_,_,ht,_ => by simp [tyOf] at ht
 | d + 1,n,t,cs,x,tys,hx,ht,hw => by
  simp only [tyOf] at ht
  split at ht
  ·rename_i k hu
   cases ht
   obtain ⟨m,rfl,_,hwf⟩:=DataW.trod_int hu hx
   exact Opens.one fun σ h => ⟨.i k m,⟨m,rfl,hwf⟩,rfl,rfl,rfl⟩
  ·rename_i hu
   cases ht
   obtain ⟨b,rfl,_⟩:=DataW.trod_bool hu hx
   exact Opens.one fun σ h => ⟨.b b,⟨b,rfl⟩,rfl,rfl,rfl⟩
  ·rename_i e hu
   split at ht
   ·rename_i l hl
    split at ht
    ·rename_i hc
     cases ht
     rcases DataW.trod_slice hu hx with ⟨rfl,_⟩ | ⟨a,len,cap,elems,rest,m,_,rfl,rfl,hb,hlc,hcm,hel,hE,_,_⟩
     ·exact Opens.one fun σ h => ⟨.ns, .inl rfl,rfl,rfl,rfl⟩
     ·by_cases hl0 : len = 0
      ·subst hl0
       exact Opens.one fun σ h => ⟨.es a cap, .inr (.inl ⟨a,cap,rfl⟩),rfl,rfl,rfl⟩
      have hget : ∀ i,i < len → ∃ cs',w.cells? base (a.add (i * P.cellsOf e)) (P.cellsOf e) = some cs' ∧ ∃ y,DataW.trod enc P w base spare held m e cs' = some y:=fun i hi => by
       have:=hE i hi
       rw [List.getElem?_eq_getElem (by omega)] at this
       obtain ⟨cs',h1,h2⟩:=Option.bind_eq_some_iff.1 this
       exact ⟨cs',h1,_,h2⟩
      let C : Nat → List Value:=fun i => (w.cells? base (a.add (i * P.cellsOf e)) (P.cellsOf e)).getD []
      have hC : ∀ i,i < len → w.cells? base (a.add (i * P.cellsOf e)) (P.cellsOf e) = some (C i):=fun i hi => by
       obtain ⟨cs',h1,_⟩:=hget i hi
       simp only [C,h1,Option.getD_some]
      have hadd : ∀ i j,(a.add i).add j = a.add (i + j):=fun i j => by
       simp only [Addr.add]
       by_cases hi : i = 0
       ·subst hi; simp
       ·by_cases hj : j = 0
        ·subst hj; simp [hi]
        ·simp [hi,hj,Nat.add_assoc]
      have hsp : a.spot = none:=by
       obtain ⟨_,h3,h4⟩:=World.cells?_some (hC 0 (by omega))
       have h5:=h4 0 (by have:=hc.1; omega)
       rw [List.getElem?_eq_getElem (by have:=hc.1; omega)] at h5
       have h6:=World.cell?_spot h5
       simpa [Addr.add] using h6
      have hbound : len ≤ 140737488355328:=by
       have h1:=hw ((elems.length + rest.length) * P.bytesOf e) (by simp [DataW.weights,hu])
       have h2:=reachBytes_lt
       have h3:=hc.2.2
       have h4 : len ≤ (elems.length + rest.length) * P.bytesOf e:=by
        calc len ≤ elems.length + rest.length:=by omega
         _ ≤ (elems.length + rest.length) * P.bytesOf e:=Nat.le_mul_of_pos_right _ h3
       omega
      refine Opens.slice (k:=P.cellsOf e) hsp hc.1 hlc hbound C (fun i hi => ?_) (fun i j hi hj => ?_) (fun i hi => (World.cells?_some (hC i hi)).2.1) (fun h0 => ?_)
      ·obtain ⟨cs',h1,y,h2⟩:=hget i hi
       rw [hC i hi] at h1
       cases h1
       have hy : elems[i]? = some y:=by
        rw [← hE i hi,hC i hi]; exact h2
       exact open_trod d m e (C i) y l h2 hl fun k hk => hw k (by
        simp only [DataW.weights,hu,List.mem_cons,List.mem_append]
        exact .inr (.inl (weightsAll_mem (List.mem_map.2 ⟨y,List.mem_of_getElem? hy,rfl⟩) k hk)))
      ·obtain ⟨_,h3,h4⟩:=World.cells?_some (hC i hi)
       have h5:=h4 j hj
       rw [List.getElem?_eq_getElem (by omega),hadd] at h5
       exact ⟨_,List.getElem?_eq_getElem (by omega),h5⟩
      ·have h3:=hC 0 (by omega)
       obtain ⟨_,h4,h5⟩:=World.cells?_some h3
       have h6:=h5 0 (by have:=hc.1; omega)
       rw [List.getElem?_eq_getElem (by have:=hc.1; omega),hadd] at h6
       simp only [Nat.zero_mul,Nat.add_zero,Addr.add,if_true] at h6
       unfold World.cell? at h6
       cases hb : w.heap[a.block]? with
       | none => rw [hb] at h6; cases h6
       | some o => exact (Array.getElem?_eq_some_iff.1 hb).1
    ·cases ht
   ·cases ht
  ·rename_i fs hu
   split at ht
   ·rename_i l hl
    split at ht
    ·rename_i hlen
     have ht' : l = tys:=by simpa using ht
     rw [← ht']
     obtain ⟨xs,m,_,rfl,hcs,hxs,hf⟩:=DataW.trod_struct hu hx
     have:=Opens.fields (w:=w) (cs:=cs) fs.toList 0 l hl (by omega) (fun f hf' q hq hql hle => by
      obtain ⟨i,hi,rfl⟩:=List.mem_iff_getElem.1 hf'
      have hi' : i < fs.size:=by simpa using hi
      have h1:=hf i fs[i] (Array.getElem?_eq_getElem hi')
      rw [List.getElem?_eq_getElem (by omega)] at h1
      exact open_trod d m _ _ _ q h1 hq fun k hk => hw k (by
       simp only [DataW.weights,hu]
       exact DataW.weights_mem_each (j:=i) (t:=fs[i].type) (d:=(xs[i]'(by omega)).1) (by simp [hi']) (by rw [List.getElem?_map,List.getElem?_eq_getElem (by omega)]; rfl) k hk))
     simpa using this
    ·cases ht
   ·cases ht
  ·rename_i m e hu
   split at ht
   ·rename_i l hl
    split at ht
    ·rename_i hc
     cases ht
     obtain ⟨xs,f,_,rfl,hcs,hxs,hf⟩:=DataW.trod_array hu hx
     refine Opens.array (k:=P.cellsOf e) hc.1 m cs (by rw [hcs,hc.2]) (fun i hi => ?_)
     have h1:=hf i hi
     rw [List.getElem?_eq_getElem (by omega)] at h1
     exact open_trod d f _ _ _ l h1 hl fun k hk => hw k (by
      simp only [DataW.weights,hu]
      exact weightsAll_mem (List.mem_map.2 ⟨_,List.getElem_mem _,rfl⟩) k hk)
    ·cases ht
   ·cases ht
  ·cases ht

end

end Go.D

/- A statement's step: its arguments opened,its answer closed. -/
namespace Go.D
set_option linter.all false
variable [Tabs]
open Go.ChangeShapes Go.WideShapes
section
variable {H : Type} {enc : TypeId × Value → H} {P : Program} {W W' : World}

structure Still (W W' : World) : Prop where
 os : W'.os = W.os
 output : W'.output = W.output
 heap : ∀ b,b < W.heap.size → W'.heap[b]? = W.heap[b]?

theorem Still.keptBut (h : Still W W') (may : MemPlace → Prop) : W.keptBut W' may:=by
 refine ⟨h.os,h.output,fun i hi => ?_⟩
 rw [h.heap i hi]
 split
 ·rename_i e1 e2
  cases e1.symm.trans e2
  exact ⟨rfl,rfl,rfl,fun _ _ => rfl⟩
 ·rename_i e1 e2
  cases e1.symm.trans e2
  exact .inr ⟨rfl,rfl⟩
 ·rfl

theorem Still.cell (h : Still W W') {a : Addr} (ha : a.block < W.heap.size) : W'.cell? a = W.cell? a:=by
 simp only [World.cell?,h.heap a.block ha]

theorem Still.same (h : Still W W') {p : MemPlace} (hp : p.block < W.heap.size) : W.sameAt W' p:=by
 cases p with
 | cell b off => exact h.cell hp
 | map b => exact h.heap b hp

theorem law_post {T : TypeId → Prop} {f : Func} {s : ChangeSpec} {args : Array Value} {ds gs : List (DataW H)} {before : List MemPlace} {bt : TypeId} (K : Kids P T) (hz : ∀ t e,T t → P.underlying t = some (.slice e) → 0 < P.cellsOf e)
  (hT : ∀ t,t ∈ f.params.toList → T t) (hv : s.vars = []) (hbt : P.underlying bt = some .bool) (hrt : f.resultTypes = #[bt]) (hfn : s.fn H (ds ++ gs) = { results:=[.lit (.bool true)],args:=ds }) {apart : Bool}
  (hW : DataW.Whole enc P f.params.toList s.vars apart W args.toList ds gs before) (hS : Still W W') {fresh handsOn : Bool} :
  s.post enc P f apart fresh handsOn false W args (.bool true) W':=by
 obtain ⟨p,q,hA,hV,hb,hfz,hnd⟩:=id hW
 have hlt : ∀ x,x ∈ before → x.block < W.heap.size:=fun x hx => hW.lt x hx
 rw [hv] at hV
 obtain ⟨rfl,rfl⟩:=trodVars_none hV
 simp only [List.append_nil] at hb hfn
 subst hb
 have hcarry : ∀ {ts : List TypeId} {vs : List Value} {ds : List (DataW H)} {p : List MemPlace} {sp : Nat → Bool},DataW.TrodAll enc P W 0 sp true ts vs ds p → (∀ x,x ∈ p → x.block < W.heap.size) → DataW.TrodAll enc P W' 0 sp true ts vs ds p:=by
  intro ts
  induction ts with
  | nil =>
   intro vs ds p sp h _
   cases vs <;> cases ds <;> first | exact h | exact h.elim
  | cons t ts ih =>
   intro vs ds p sp h hp
   match vs,ds,h with
   | v :: vs,d :: ds,⟨p1,p2,⟨n,h1⟩,h2,e⟩ =>
    exact ⟨p1,p2,⟨n,DataW.trod_carry n _ _ _ h1 (fun x hx => hS.same (hp x (by rw [e]; exact List.mem_append_left _ hx)))⟩,ih h2 (fun x hx => hp x (by rw [e]; exact List.mem_append_right _ hx)),e⟩
 have hres : ∀ (b : Nat) (sp : Nat → Bool) (hd : Bool),DataW.TrodAll enc P W' b sp hd f.resultTypes.toList ((Value.bool true).resultList f.resultTypes.size) (s.fn H (ds ++ [])).results []:=fun b sp hd => by
  simp only [List.append_nil,hfn,hrt]
  exact ⟨[],[],⟨1,by simp [DataW.trod,Value.cells,hbt]⟩,rfl,rfl⟩
 have hsp : ∀ sp : Nat → Bool,(∀ x,x ∈ before → sp x.block = true) → DataW.TrodAll enc P W' 0 sp true f.params.toList args.toList (s.fn H (ds ++ [])).args before:=fun sp hx => by
  simp only [List.append_nil,hfn]
  exact hcarry (DataW.TrodAll.respare K hz hT hA hx) hlt
 have hvars : ∀ sp : Nat → Bool,DataW.TrodVars enc P W' sp s.vars (s.fn H (ds ++ [])).vars []:=fun sp => by
  simp only [List.append_nil,hfn,hv]; rfl
 refine ⟨ds,[],before,[],before,[],hW,hres _ _ _,hsp _ (fun x hx => decide_eq_true (hlt x hx)),hvars _,hS.keptBut _,fun h => Bool.noConfusion h⟩
end
end Go.D

/- A statement's row: a law whose small code answers true over whatever read-only arguments holds. -/
namespace Go.D
set_option linter.all false
variable [Tabs]
open Go.ChangeShapes Go.WideShapes

def paramTy (P : Program) (d : Nat) (t : TypeId) : Option (Bool × List TY) :=
 match tyOf P d t with
 | some l => match P.underlying t with
  | some (.struct _) => some (true,l)
  | some (.array _ _) => some (true,l)
  | some (.int _) => some (false,l)
  | some .bool => some (false,l)
  | some (.slice _) => some (false,l)
  | _ => none
 | none => none
def paramTys (P : Program) (d : Nat) : List TypeId → Option (List (Bool × List TY))
 | [] => some []
 | t :: ts => match paramTy P d t,paramTys P d ts with
  | some x,some l => some (x :: l)
  | _,_ => none

def hasV (h : List Blk) : Bool × List TY → V → Prop
 | (true,l),v => ∃ ss,v = .agg ss ∧ hasTs h l ss
 | (false,l),v => ∃ s,v = .s s ∧ hasTs h l [s]
def hasVs (h : List Blk) : List (Bool × List TY) → List V → Prop
 | [],[] => True
 | t :: ts,v :: vs => hasV h t v ∧ hasVs h ts vs
 | _,_ => False

theorem hasV_mono {h h' : List Blk} {t : Bool × List TY} {v : V} (H : hasV h t v) : hasV (h ++ h') t v:=by
 obtain ⟨b,l⟩:=t
 cases b with
 | true => obtain ⟨ss,e,H⟩:=H; exact ⟨ss,e,hasTs_mono H⟩
 | false => obtain ⟨s,e,H⟩:=H; exact ⟨s,e,hasTs_mono H⟩

section
variable {H : Type} {enc : TypeId × Value → H} {P : Program} {w : World}

theorem V.tr_old {σ σ' : Sg} {n : Nat} (hA : ∀ k,k < n → σ' (.g k) = σ (.g k)) {v : V} (hv : v.val n 0 = true) : v.tr σ' = v.tr σ :=
 V.tr_congr (n:=n) (m:=0) (fun r hr => by
  cases r with
  | g k => exact hA k (by simpa [R.val] using hr)
  | l k => simp [R.val] at hr) v hv

theorem open_arg {r : Reach} {base : Nat} {t : TypeId} {v : Value} {d : DataW H} {p : List MemPlace} {D : Nat} {x : Bool × List TY} {sp : Nat → Bool} {held : Bool} {b0 : Nat}
  (hok : Value.okWide P w r base t v) (ht : DataW.Trod enc P w b0 sp held t v d p) (hx : paramTy P D t = some x) (hw : ∀ k,k ∈ d.weights P t → k ≤ reachBytes) :
  ∀ (σ : Sg) (h : List Blk),RO σ h w → ∃ (h' : List Blk) (σ' : Sg) (u : V),(∀ k,k < h.length → σ' (.g k) = σ (.g k)) ∧ RO σ' (h ++ h') w ∧ hasV (h ++ h') x u ∧ u.tr σ' = v ∧ u.val (h ++ h').length 0 = true ∧ u.known = true:=by
 obtain ⟨n,ht⟩:=ht
 unfold paramTy at hx
 split at hx
 ·rename_i l hl
  have agg : ∀ cs,v = .agg cs → Row.okWide P w r base t cs → x = (true,l) → ∀ (σ : Sg) (h : List Blk),RO σ h w → ∃ (h' : List Blk) (σ' : Sg) (u : V),(∀ k,k < h.length → σ' (.g k) = σ (.g k)) ∧ RO σ' (h ++ h') w ∧ hasV (h ++ h') x u ∧ u.tr σ' = v ∧ u.val (h ++ h').length 0 = true ∧ u.known = true:=by
   intro cs hv hr hx σ h hR
   subst hv; subst hx
   obtain ⟨h', σ',ss,a1,a2,a3,a4,a5,a6⟩:=open_trod D n t cs.toList (d,p) l ht hl hw σ h hR
   refine ⟨h', σ', .agg ss,a1,a2,⟨ss,rfl,a3⟩, ?_,a5,a6⟩
   simp only [V.tr,trs,a4,Array.toArray_toList]
  have one : v.cells = #[v] → x = (false,l) → ∀ (σ : Sg) (h : List Blk),RO σ h w → ∃ (h' : List Blk) (σ' : Sg) (u : V),(∀ k,k < h.length → σ' (.g k) = σ (.g k)) ∧ RO σ' (h ++ h') w ∧ hasV (h ++ h') x u ∧ u.tr σ' = v ∧ u.val (h ++ h').length 0 = true ∧ u.known = true:=by
   intro hc hx σ h hR
   subst hx
   rw [hc] at ht
   obtain ⟨h', σ',ss,a1,a2,a3,a4,a5,a6⟩:=open_trod D n t [v] (d,p) l ht hl hw σ h hR
   match ss,a4 with
   | [s],a4 =>
    simp only [List.map_cons,List.map_nil,List.cons.injEq,and_true] at a4
    refine ⟨h', σ', .s s,a1,a2,⟨s,rfl,a3⟩,a4, ?_, ?_⟩
    ·simpa [vals,V.val] using a5
    ·simpa [known_cons,known_nil] using a6
  unfold Value.okWide at hok
  split at hx <;> rename_i hu <;> simp only [hu,Option.some.injEq] at hok hx
  ·obtain ⟨cs,hv,_,hr⟩:=hok; exact agg cs hv hr hx.symm
  ·obtain ⟨cs,hv,_,hr⟩:=hok; exact agg cs hv hr hx.symm
  ·refine one ?_ hx.symm
   unfold Cell.okWide at hok; rw [hu] at hok
   cases v <;> first | rfl | (simp [Cell.ok,hu] at hok)
  ·refine one ?_ hx.symm
   unfold Cell.okWide at hok; rw [hu] at hok
   cases v <;> first | rfl | (simp [Cell.ok,hu] at hok)
  ·refine one ?_ hx.symm
   unfold Cell.okWide at hok; rw [hu] at hok
   cases v <;> first | rfl | (simp [Cell.ok,hu] at hok)
  ·cases hx
 ·cases hx

theorem open_args {r : Reach} {base D : Nat} {sp : Nat → Bool} {held : Bool} {b0 : Nat} : ∀ (ts : List TypeId) (vs : List Value) (ds : List (DataW H)) (p : List MemPlace) (xs : List (Bool × List TY)),
  (∀ (j : Nat) t v,ts[j]? = some t → vs[j]? = some v → Value.okWide P w r base t v) → DataW.TrodAll enc P w b0 sp held ts vs ds p → paramTys P D ts = some xs → (∀ (j : Nat) t d,ts[j]? = some t → ds[j]? = some d → ∀ k,k ∈ d.weights P t → k ≤ reachBytes) →
  ∀ (σ : Sg) (h : List Blk),RO σ h w → ∃ (h' : List Blk) (σ' : Sg) (us : List V),(∀ k,k < h.length → σ' (.g k) = σ (.g k)) ∧ RO σ' (h ++ h') w ∧ hasVs (h ++ h') xs us ∧ us.map (V.tr σ') = vs ∧ us.all (V.val (h ++ h').length 0) = true ∧ us.all V.known = true
 | [],vs,ds,p,xs,_,ht,hx,_ => fun σ h hR => by
  obtain ⟨rfl,rfl,rfl⟩:=trodAll_nil ht
  simp only [paramTys,Option.some.injEq] at hx
  subst hx
  exact ⟨[], σ,[],fun _ _ => rfl,by simpa using hR,trivial,rfl,rfl,rfl⟩
 | t :: ts,vs,ds,p,xs,hok,ht,hx,hw => fun σ h hR => by
  obtain ⟨v,vs',d,ds',p',q,rfl,rfl,rfl,h0,h1⟩:=trodAll_cons ht
  simp only [paramTys] at hx
  split at hx
  ·rename_i x l hx1 hx2
   cases hx
   obtain ⟨ha, σa,u,a1,a2,a3,a4,a5,a6⟩:=open_arg (hok 0 t v rfl rfl) h0 hx1 (hw 0 t d rfl rfl) σ h hR
   obtain ⟨hb, σb,us,b1,b2,b3,b4,b5,b6⟩:=open_args ts vs' ds' q l (fun j t v ht hv => hok (j + 1) t v (by simpa using ht) (by simpa using hv)) h1 hx2 (fun j t d ht hd => hw (j + 1) t d (by simpa using ht) (by simpa using hd)) σa (h ++ ha) a2
   refine ⟨ha ++ hb, σb,u :: us,fun k hk => ?_,by rw [← List.append_assoc]; exact b2, ?_, ?_, ?_, ?_⟩
   ·rw [b1 k (by simp; omega),a1 k hk]
   ·rw [← List.append_assoc]; exact ⟨hasV_mono a3,b3⟩
   ·rw [List.map_cons,b4,V.tr_old b1 a5,a4]
   ·rw [← List.append_assoc,List.all_cons,Bool.and_eq_true]
    exact ⟨V.val_mono (by simp) (Nat.le_refl _) a5,b5⟩
   ·rw [List.all_cons,Bool.and_eq_true]; exact ⟨a6,b6⟩
  ·cases hx
end

def Law (S : FSpec) (xs : List (Bool × List TY)) : Prop:=∀ (h : List Blk) (us : List V),hasVs h xs us → clean h.length h = true → S us h fun v _ => v = .s (.b true)

theorem law_calls {P : Program} {H : Type} {enc : TypeId × Value → H} {W : World} {f : FuncId} {S : FSpec} {r : Reach} {base D : Nat} {ts : List TypeId} {args : Array Value} {ds : List (DataW H)} {p : List MemPlace} {xs : List (Bool × List TY)} {sp : Nat → Bool} {held : Bool} {b0 : Nat}
  (hT : ∀ x,x ∈ Tabs.cells → W.cell? ⟨x.1,x.2.1,none⟩ = some x.2.2 ∧ x.1 < W.heap.size) (hS : Snd P f S) (hL : Law S xs) (hok : ∀ (j : Nat) t v,ts[j]? = some t → args[j]? = some v → Value.okWide P W r base t v) (ht : DataW.TrodAll enc P W b0 sp held ts args.toList ds p) (hx : paramTys P D ts = some xs) (hw : ∀ (j : Nat) t d,ts[j]? = some t → ds[j]? = some d → ∀ k,k ∈ d.weights P t → k ≤ reachBytes) :
  Calls P f args W fun e W' => e = .returned (.bool true) ∧ Still W W':=by
 have hR0 : RO (fun _ => (0,0)) [] W:=⟨fun k B hB => by simp at hB,fun B hB => by cases hB⟩
 obtain ⟨h, σ,us,_,hR,hV,he,hval,hk⟩:=open_args ts args.toList ds p xs (fun j t v h1 h2 => hok j t v h1 (by simpa using h2)) ht hx hw _ [] hR0
 simp only [List.nil_append] at hR hV hval
 have hcl : clean h.length h = true:=by
  simp only [clean,List.all_eq_true]
  exact hR.val
 have hc:=hS σ h W us _ hR.sim (fun x hx => ⟨(hT x hx).1,(hT x hx).2,fun k B hB hst => absurd hst (hR.ok k B hB).1⟩) hval hk (hL h us hV hcl)
 have ha : (us.map (V.tr σ)).toArray = args:=by rw [he]
 rw [ha] at hc
 refine hc.mono fun e W' ⟨v,h', σ',e1,_,_,hI,e2⟩ => ?_
 subst e2
 refine ⟨e1,hI.kept.same.os,hI.kept.same.output,fun b hb => hI.kept.keep b hb fun k B hB hst => ?_⟩
 exact absurd hst (hR.ok k B hB).1

/-! ### the row -/
def slicesFull (P : Program) : Bool:=(List.range P.types.size).all fun t => match P.underlying t with
 | some (.slice e) => decide (0 < P.cellsOf e)
 | _ => true

theorem trodAll_length {H : Type} {enc : TypeId × Value → H} {P : Program} {w : World} {b0 : Nat} {sp : Nat → Bool} {held : Bool} : ∀ {ts : List TypeId} {vs : List Value} {ds : List (DataW H)} {p : List MemPlace},DataW.TrodAll enc P w b0 sp held ts vs ds p → ds.length = ts.length
 | [],vs,ds,p,h => by obtain ⟨_,rfl,_⟩:=trodAll_nil h; rfl
 | t :: ts,vs,ds,p,h => by
  obtain ⟨v,vs',d,ds',p',q,rfl,rfl,rfl,_,h1⟩:=trodAll_cons h
  simp [trodAll_length h1]

structure RowOk (P : Program) (f : FuncId) (fn : Func) (s : ChangeSpec) (xs : List (Bool × List TY)) : Prop where
 own : ownKnob P.godebug = none
 noTabs : Tabs.cells = []
 noInit : P.inits.idxOf? f = none
 isf : P.funcs[f]? = some fn
 laid : laidOutB P = true
 rowed : mapsRowed P = true
 full : slicesFull P = true
 params : fn.params.toList.all (fun t => decide (t < P.types.size)) = true
 vars : s.vars = []
 ret : ∃ bt,fn.resultTypes = #[bt] ∧ P.underlying bt = some .bool
 spec : ∀ (H : Type) (ds : List (DataW H)),ds.length = fn.params.toList.length → s.fn H ds = { results:=[.lit (.bool true)],args:=ds }
 tys : ∃ D,paramTys P D fn.params.toList = some xs

theorem RowOk.calls {P : Program} {f : FuncId} {fn : Func} {s : ChangeSpec} {xs : List (Bool × List TY)} (R : RowOk P f fn s xs) {S : FSpec} (hS : Snd P f S) (hL : Law S xs)
  {H : Type} {enc : TypeId × Value → H} {W : World} {base : Nat} {r : Reach} {args : Array Value} {ds gs : List (DataW H)} {before : List MemPlace} {apart fresh handsOn : Bool}
  (hval : ∀ (j : Nat) t v,fn.params[j]? = some t → args[j]? = some v → Value.okWide P W r base t v) (hW : DataW.Whole enc P fn.params.toList s.vars apart W args.toList ds gs before)
  (hZ : (DataW.weightsEach P (fn.params.toList ++ s.plain.varTypes P) (ds ++ gs)).all (· ≤ reachBytes) = true) :
  Calls P f args W fun e W' => ∃ v,e = .returned v ∧ s.post enc P fn apart fresh handsOn false W args v W':=by
 obtain ⟨D,hx⟩:=R.tys
 obtain ⟨bt,hrt,hbt⟩:=R.ret
 obtain ⟨p,q,hA,hV,hb,hfz,hnd⟩:=id hW
 have hc:=law_calls (fun x hx => by rw [R.noTabs] at hx; cases hx) hS hL (fun j t v h1 h2 => hval j t v (by simpa using h1) h2) hA hx (fun j t d ht hd k hk => by
  have h1 : (fn.params.toList ++ s.plain.varTypes P)[j]? = some t:=by rw [List.getElem?_append_left (List.getElem?_eq_some_iff.1 ht).1]; exact ht
  have h2 : (ds ++ gs)[j]? = some d:=by rw [List.getElem?_append_left (List.getElem?_eq_some_iff.1 hd).1]; exact hd
  have h3:=List.all_eq_true.1 hZ _ (DataW.weights_mem_each h1 h2 k hk)
  simpa using h3)
 refine hc.mono fun e W' ⟨he,hst⟩ => ⟨_,he, ?_⟩
 have hgs : gs = []:=by
  rw [R.vars] at hV; exact (trodVars_none hV).1
 subst hgs
 refine law_post (kids_rows R.laid R.rowed) (fun t e ht hu => ?_) (fun t ht => ?_) R.vars hbt hrt ?_ hW hst
 ·have:=R.full
  simp only [slicesFull,List.all_eq_true,List.mem_range] at this
  have:=this t ht
  rw [hu] at this
  simpa using this
 ·have:=R.params
  simp only [List.all_eq_true,decide_eq_true_eq] at this
  exact this t ht
 ·simp only [List.append_nil]
  exact R.spec H ds (trodAll_length hA)

theorem RowOk.lifted {C : Checked} {f : FuncId} {fn : Func} {s : ChangeSpec} {xs : List (Bool × List TY)} (R : RowOk C.prog f fn s xs) {S : FSpec} (hS : Snd C.prog f S) (hL : Law S xs) {os : Os} (started : os.Started) {H : Type} {enc : TypeId × Value → H} {conds : List PathCond} {apart fresh handsOn : Bool}
  (witness : ∃ (w : World) (tape : Tape) (i : Input),w.os = os ∧ (w.forCall tape i).Shaped C.prog ∧ i.vars = [] ∧ Input.okWide C.prog (w.forCall tape i) .any w.heap.size f i ∧
   s.pre6 enc C.prog fn conds apart (w.forCall tape i).memory i.args ∧ ({} : Assume).holds C.prog (lone (Frame.enter C.prog f i.args .normal) [] (w.forCall tape i))) :
  ReturnsInHanded {} C os f .any (s.pre6 enc C.prog fn conds apart) (s.post enc C.prog fn apart fresh handsOn false) :=
 returnsInHanded_of_change_sized R.own started R.noInit R.isf witness fun _ _ _ _ _ _ hval hW _ hZ _ => R.calls hS hL hval hW hZ

end Go.D

/- The facts of the rows of this seat. -/
namespace Go.Proofs.Ytcdfofeolgbnbaa
open Go.D
set_option linter.all false
set_option maxRecDepth 100000

theorem own : ownKnob Try.prog.godebug = none:=by kernel_rfl
theorem laid : laidOutB Try.prog = true:=by kernel_rfl
theorem rowed : mapsRowed Try.prog = true:=by kernel_rfl
theorem full : slicesFull Try.prog = true:=by kernel_rfl

theorem hasTs_cons {h : List Blk} {t : TY} {ts : List TY} {ss : List S} (H : hasTs h (t :: ts) ss) : ∃ s ss',ss = s :: ss' ∧ hasT h t s ∧ hasTs h ts ss':=by
 cases ss with
 | nil => exact H.elim
 | cons s ss => exact ⟨s,ss,rfl,H.1,H.2⟩
theorem hasTs_nil {h : List Blk} {ss : List S} (H : hasTs h [] ss) : ss = []:=by
 cases ss with
 | nil => rfl
 | cons s ss => exact H.elim


theorem hasT_arrP {α : Type} {c : α → List S} {p : α → Prop} {h : List Blk} {e : List TY} (hd : ∀ ss,hasTs h e ss → ∃ x,ss = c x ∧ p x) : ∀ (E : List (List S)),(∀ x,x ∈ E → hasTs h e x) → ∃ L : List α,E.flatten = arr c L ∧ L.length = E.length ∧ ∀ x,x ∈ L → p x
 | [],_ => ⟨[],rfl,rfl,fun x hx => by cases hx⟩
 | x :: E,H => by
  obtain ⟨y,rfl,hy⟩:=hd x (H x List.mem_cons_self)
  obtain ⟨L,e1,e2,e3⟩:=hasT_arrP hd E (fun z hz => H z (List.mem_cons_of_mem _ hz))
  refine ⟨y :: L,by simp [arr,e1],by simp [e2],fun z hz => ?_⟩
  rcases List.mem_cons.1 hz with rfl | hz
  ·exact hy
  ·exact e3 z hz
theorem isArr_of {α : Type} {c : α → List S} {p : α → Prop} {h : List Blk} {e : List TY} {s : S} (hd : ∀ ss,hasTs h e ss → ∃ x,ss = c x ∧ p x) (H : hasT h (.slice e) s) : ∃ L : List α,IsArr c h s L ∧ (∀ x,x ∈ L → p x) ∧ L.length ≤ 140737488355328:=by
 rcases H with rfl | ⟨a,c,rfl⟩ | ⟨j,n,cp,E,st,room,rfl,h1,h2,h3,h4,h5,h6,h7⟩
 ·exact ⟨[], .inl ⟨.inl rfl,rfl⟩,(fun x hx => by cases hx),by simp⟩
 ·exact ⟨[], .inl ⟨.inr ⟨a,c,rfl⟩,rfl⟩,(fun x hx => by cases hx),by simp⟩
 ·obtain ⟨L,e1,e2,e3⟩:=hasT_arrP (c:=c) (p:=p) hd E h7
  have hn : L.length = n:=by omega
  refine ⟨L, .inr ⟨j,cp,st,room,by rw [hn],by rw [← e1]; exact h3,fun h0 e => ?_⟩,e3, ?_⟩
  ·have:=h5 (by omega)
   rw [this] at e; cases e
  ·omega
theorem hasV_slice {α : Type} {c : α → List S} {p : α → Prop} {h : List Blk} {e : List TY} {v : V} (hd : ∀ ss,hasTs h e ss → ∃ x,ss = c x ∧ p x) (H : hasV h (false,[.slice e]) v) : ∃ (s : S) (L : List α),v = .s s ∧ IsArr c h s L ∧ (∀ x,x ∈ L → p x) ∧ L.length ≤ 140737488355328:=by
 obtain ⟨s,rfl,H1,_⟩:=H
 obtain ⟨L,e1,e2,e3⟩:=isArr_of hd H1
 exact ⟨s,L,rfl,e1,e2,e3⟩
def Uw.c (n : Int) : List S:=[.i .u64 n]

theorem lawC {h : List Blk} {x : Bool × List TY} {xs : List (Bool × List TY)} {us : List V} (H : hasVs h (x :: xs) us) : ∃ u vs,us = u :: vs ∧ hasV h x u ∧ hasVs h xs vs:=by
 match us,H with
 | u :: vs,H => exact ⟨u,vs,rfl,H.1,H.2⟩
 | [],H => exact H.elim
theorem lawN {h : List Blk} {us : List V} (H : hasVs h [] us) : us = []:=by
 match us,H with
 | [],_ => rfl
 | _ :: _,H => exact H.elim
theorem i64_b {n : Int} (h : (Lit.int .i64 n).wf = true) : i64b n:=by
 have e : (decide ((-9223372036854775808 : Int) ≤ n) && decide (n ≤ 9223372036854775807)) = true:=h
 simp only [Bool.and_eq_true,decide_eq_true_eq] at e
 unfold i64b; omega
def OpT : List TY:=[.int .i64, .int .i64, .int .i64, .int .i64]
theorem hasTs_op11 {h : List Blk} {ss : List S} (H0 : hasTs h OpT ss) : ∃ o : Op,ss = o.cl ∧ o.u:=by
 unfold OpT at H0
 obtain ⟨_,_,rfl,⟨x0,rfl,h0⟩,H1⟩:=hasTs_cons H0
 obtain ⟨_,_,rfl,⟨x1,rfl,h1⟩,H2⟩:=hasTs_cons H1
 obtain ⟨_,_,rfl,⟨x2,rfl,h2⟩,H3⟩:=hasTs_cons H2
 obtain ⟨_,_,rfl,⟨x3,rfl,h3⟩,H4⟩:=hasTs_cons H3
 obtain rfl:=hasTs_nil H4
 exact ⟨⟨x0,x1,x2,x3⟩,rfl,i64_b h3⟩
end Go.Proofs.Ytcdfofeolgbnbaa

/- Law 11: Next and Last; the chapter's example,list by list. -/
namespace Go.Proofs.Ytcdfofeolgbnbaa
open Go.D
set_option linter.all false
set_option maxRecDepth 100000
set_option maxHeartbeats 4000000

section
variable {m r : M} {L : List Int}
theorem W11.nx (W : W11 m L) (x : Int) : m.nxV x = (under m.D L x).headD 0:=by
 unfold M.nxV
 by_cases hf : m.fE x = 0
 ·rw [if_pos hf]
  by_cases hx : x ∈ L
  ·obtain ⟨L1,L2,e⟩:=List.append_of_mem hx
   have hn:=W.inv.nd
   have hc:=W.inv.ch
   have hfl : ∀ y,y ∈ L2 → m.fE y = 0 ∧ y ≠ 0:=fun y hy => by
    have : y ∈ L:=by rw [e]; exact List.mem_append_right _ (List.mem_cons_of_mem _ hy)
    exact ⟨W.inv.full y this,W.n0 this⟩
   rw [e] at hn hc
   have hx1 : x ∉ L1:=fun h => (List.nodup_append.1 hn).2.2 x h x List.mem_cons_self rfl
   have hu : under m.D L x = tw m.D (m.D x) L2:=by rw [e]; exact under_split hx1
   obtain ⟨_,_,h2,_⟩:=chain_app.1 hc
   rw [hu,h2]
   cases L2 with
   | nil => rfl
   | cons y L2 =>
    obtain ⟨q1,q2⟩:=hfl y List.mem_cons_self
    rw [List.headD_cons,if_neg q2,if_pos q1,tw_cons]
    by_cases c : m.D x < m.D y
    ·rw [if_pos c,if_neg (by unfold M.D at c; omega)]; rfl
    ·rw [if_neg c,if_pos (by unfold M.D at c; omega)]; rfl
  ·have hn : (m.gV x).next = 0:=((W.inv.out x (W.P (fE_zero.1 hf).1)).2 hx).2.1
   rw [hn,if_pos rfl,under_none hx]; rfl
 ·have hx : x ∉ L:=fun h => hf (W.inv.full x h)
  rw [if_neg hf,under_none hx]; rfl
end
structure Rep11 (m : M) (T : List (Int × Int)) (U : List Int) : Prop where
 w : W11 m (T.map (·.1))
 d : ∀ y,y ∈ T → m.D y.1 = y.2
 u : ∀ x,x ∈ U → m.fE x = 0 ∧ x ∉ T.map (·.1)
section
variable {m : M} {T T' : List (Int × Int)} {U U' : List Int}
theorem Rep11.of_w (R : Rep11 m T U) {m' : M} (e : m'.w = m.w) : Rep11 m' T U :=
 ⟨R.w.of_w e,fun y hy => by rw [D_w e]; exact R.d y hy,fun x hx => by rw [fE_w e]; exact R.u x hx⟩
theorem Rep11.ins (R : Rep11 m T U) {p a dp : Int} (ha : a ∈ U) (hp : p = 0 ∨ ((p,dp) ∈ T ∧ dp ≠ 65535)) (hT : T'.map (·.1) = insLL p a (T.map (·.1))) (hd : ∀ y,y ∈ T' → (y.1 = a ∧ y.2 = if p = 0 then 0 else dp + 1) ∨ (y.1 ≠ a ∧ y ∈ T)) (hU : ∀ x,x ∈ U' → x ∈ U ∧ x ≠ a) :
  ∃ m',m.ins p a = (0,m') ∧ Rep11 m' T' U':=by
 obtain ⟨hf,hu⟩:=R.u a ha
 have W:=R.w
 have hp' : p = 0 ∨ (p ∈ T.map (·.1) ∧ (m.gV p).depth ≠ 65535):=hp.imp id fun h => ⟨List.mem_map.2 ⟨(p,dp),h.1,rfl⟩,by have:=R.d _ h.1; unfold M.D at this; rw [this]; exact h.2⟩
 obtain ⟨k1,k2⟩:=W.inv.ins_to (W.P (fE_zero.1 hf).1) hf hu hp'
 have S : St11 m (T.map (·.1)) ⟨1,a,p,0⟩ 0 (m.ins p a).2 (insLL p a (T.map (·.1))):=.ins rfl hf hu hp' k2
 have W':=W.step S
 refine ⟨(m.ins p a).2,Prod.ext k1 rfl,by rw [hT]; exact W',fun y hy => ?_,fun x hx => ?_⟩
 ·have hy0 : y.1 ≠ 0:=by
   have : y.1 ∈ insLL p a (T.map (·.1)):=by rw [← hT]; exact List.mem_map.2 ⟨y,hy,rfl⟩
   exact W'.n0 this
  rw [ins_D k2 hy0]
  rcases hd y hy with ⟨e1,e2⟩ | ⟨e1,e2⟩
  ·rw [if_pos e1,e2]
   by_cases c : p = 0
   ·rw [if_pos c,if_pos c]
   ·rw [if_neg c,if_neg c]
    have:=R.d _ (hp.resolve_left c).1
    rw [this]
  ·rw [if_neg e1]; exact R.d y e2
 ·obtain ⟨h1,h2⟩:=hU x hx
  obtain ⟨g1,g2⟩:=R.u x h1
  obtain ⟨q1,q2⟩:=fE_zero.1 g1
  refine ⟨k2.full q1 ?_, ?_⟩
  ·unfold M.insV
   rw [jnV_cap,if_neg h2]; exact q2
  ·rw [hT]
   intro h
   unfold insLL at h
   split at h
   ·rcases List.mem_cons.1 h with h | h
    ·exact h2 h
    ·exact g2 h
   ·rcases mem_insL h with h | h
    ·exact h2 h
    ·exact g2 h
theorem Rep11.un (R : Rep11 m T U) {D : Int → Int} (hD : ∀ y,y ∈ T → D y.1 = y.2) (x : Int) : under m.D (T.map (·.1)) x = under D (T.map (·.1)) x :=
 under_congr fun y hy => by
  obtain ⟨z,hz,rfl⟩:=List.mem_map.1 hy
  rw [R.d z hz,hD z hz]
end
def tabD (T : List (Int × Int)) (x : Int) : Int:=(T.lookup x).getD 0
def aT4 : List (Int × Int):=[(1024,0),(1036,1),(1028,1),(1032,2)]
def aT5 : List (Int × Int):=[(1024,0),(1036,1),(1032,1)]
theorem aw_ins {m : M} (R : Rep11 m [] [1024,1028,1032,1036]) : ∃ m1 m2 m3 m4,m.ins 0 1024 = (0,m1) ∧ m1.ins 1024 1028 = (0,m2) ∧ m2.ins 1028 1032 = (0,m3) ∧ m3.ins 1024 1036 = (0,m4) ∧ Rep11 m4 aT4 []:=by
 obtain ⟨m1,e1,R1⟩:=R.ins (T':=[(1024,0)]) (U':=[1028,1032,1036]) (p:=0) (a:=1024) (dp:=0) (by decide) (.inl rfl) (by decide) (by decide) (by decide)
 obtain ⟨m2,e2,R2⟩:=R1.ins (T':=[(1024,0),(1028,1)]) (U':=[1032,1036]) (p:=1024) (a:=1028) (dp:=0) (by decide) (.inr (by decide)) (by decide) (by decide) (by decide)
 obtain ⟨m3,e3,R3⟩:=R2.ins (T':=[(1024,0),(1028,1),(1032,2)]) (U':=[1036]) (p:=1028) (a:=1032) (dp:=1) (by decide) (.inr (by decide)) (by decide) (by decide) (by decide)
 obtain ⟨m4,e4,R4⟩:=R3.ins (T':=aT4) (U':=[]) (p:=1024) (a:=1036) (dp:=0) (by decide) (.inr (by decide)) (by decide) (by decide) (by decide)
 exact ⟨m1,m2,m3,m4,e1,e2,e3,e4,R4⟩
theorem aw_ask {m : M} (R : Rep11 m aT4 []) : m.lis.1 = some [1024,1036,1028,1032] ∧ m.lis.2.w = m.w ∧ m.nxV 1024 = 1036 ∧ (m.dsL 1024).getLastD 0 = 1032 ∧ decide (1032 ∈ m.dsL 1024) = true ∧ decide (1028 ∈ m.dsL 1036) = false:=by
 have hu:=R.un (D:=tabD aT4) (by decide)
 obtain ⟨l1,l2,_⟩:=R.w.li
 refine ⟨l1,l2, ?_, ?_, ?_, ?_⟩
 ·rw [R.w.nx,hu]; decide
 ·rw [(R.w.ds _).1,hu]; decide
 ·rw [(R.w.ds _).1,hu]; decide
 ·rw [(R.w.ds _).1,hu]; decide
theorem aw_rem {m : M} (R : Rep11 m aT4 []) : ∃ m',m.rem 1028 = (0,m') ∧ Rep11 m' aT5 []:=by
 have W:=R.w
 have e : aT4.map (·.1) = [1024,1036] ++ 1028 :: [1032]:=rfl
 obtain ⟨⟨k1,k2⟩,_⟩:=W.inv.rem_to e
 have S : St11 m (aT4.map (·.1)) ⟨4,1028,0,0⟩ 0 (m.rem 1028).2 ([1024,1036] ++ [1032]):=.rem rfl e k2
 have W':=W.step S
 have hds : deep m.gV (m.gV 1028).depth [1032] = [1032]:=by
  have h1 : m.D 1028 = 1:=R.d (1028,1) (by decide)
  have h2 : m.D 1032 = 2:=R.d (1032,2) (by decide)
  unfold M.D at h1 h2
  unfold deep
  rw [List.takeWhile_cons,if_pos (by rw [h1,h2]; decide)]; rfl
 rw [hds] at k2
 refine ⟨(m.rem 1028).2,Prod.ext k1 rfl,W',fun y hy => ?_,fun x h => by cases h⟩
 have hy2 : y = (1024,0) ∨ y = (1036,1) ∨ y = (1032,1):=by
  simpa [aT5] using hy
 rcases hy2 with rfl | rfl | rfl
 ·rw [rem_D k2 (by decide) (by decide),if_neg (by decide)]; exact R.d (1024,0) (by decide)
 ·rw [rem_D k2 (by decide) (by decide),if_neg (by decide)]; exact R.d (1036,1) (by decide)
 ·rw [rem_D k2 (by decide) (by decide),if_pos (by decide)]
  have:=R.d (1032,2) (by decide)
  simp only at this ⊢
  rw [this]; rfl
theorem aw_ds {m : M} (R : Rep11 m aT5 []) : m.dsL 1024 = [1036,1032] ∧ m.dsE 1024 = 0 ∧ (m.dsO 1024).2.w = m.w:=by
 have hu:=R.un (D:=tabD aT5) (by decide)
 obtain ⟨d1,d2,_,_,d5,_⟩:=R.w.ds 1024
 refine ⟨?_, ?_,d2⟩
 ·rw [d1,hu]; decide
 ·rw [d5]; exact R.w.inv.full 1024 (by decide)
theorem aw_no {m : M} (R : Rep11 m aT5 []) : (m.ins 0 1024).1 = 120:=by
 have hf:=R.w.inv.full 1024 (by decide)
 have hli:=R.w.inv.listed (x:=1024) (by decide)
 unfold M.ins
 rw [if_pos hf,gX_liB,if_pos hli]
theorem aw_lay {m r : M} {i : Nat} (hi : i < 4) (W : W11 m []) (hw : r.w = m.w) (hf : ∀ j : Nat,j < i → m.fE (1024 + 4 * (j : Int)) = 0) (hz : ∀ x,P11 x → (∀ j : Nat,j < i → x ≠ 1024 + 4 * (j : Int)) → m.gE x = 0 ∧ m.gV x = slotZ) :
  ∃ m' r',laysX m r (1024 + 4 * (i : Int)) i = (m',r') ∧ laysV m r (1024 + 4 * (i : Int)) i = true ∧ r'.w = m'.w ∧ W11 m' [] ∧ (∀ j : Nat,j < i + 1 → m'.fE (1024 + 4 * (j : Int)) = 0) ∧ (∀ x,P11 x → (∀ j : Nat,j < i + 1 → x ≠ 1024 + 4 * (j : Int)) → m'.gE x = 0 ∧ m'.gV x = slotZ):=by
 have hP : P11 (1024 + 4 * (i : Int)):=⟨by omega,by rw [Int.tmod_eq_emod_of_nonneg (by omega)]; omega,by omega⟩
 obtain ⟨z1,z2⟩:=hz _ hP fun j hj => by omega
 obtain ⟨h1,h2,h3,h4⟩:=W.lays hw (1024 + 4 * (i : Int)) i
 have heB : m.eB (1024 + 4 * (i : Int)) = true:=(W.inv.free z1 z2).2.2
 have T : m.To (laysX m r (1024 + 4 * (i : Int)) i).1 (fun x => if x = 1024 + 4 * (i : Int) then hndS i else m.gV x) m.fst:=by
  unfold laysX
  rw [gE_w hw,eB_w hw,if_pos ⟨z1,heB⟩]
  exact (M.To.refl m).pX z1 (hnd_R _).1
 obtain ⟨⟨m',r'⟩,e⟩ : ∃ z,laysX m r (1024 + 4 * (i : Int)) i = z:=⟨_,rfl⟩
 rw [e] at h2 h3 T
 simp only at h2 h3 T
 refine ⟨m',r',e,h1,h2,h3, ?_⟩
 refine ⟨fun j hj => ?_,fun x hx hj => ?_⟩
 ·by_cases c : j = i
  ·subst c
   exact T.full z1 (by rw [if_pos rfl,(hnd_R _).2]; decide)
  ·have hf':=hf j (by omega)
   obtain ⟨q1,q2⟩:=fE_zero.1 hf'
   refine T.full q1 ?_
   rw [if_neg (by omega)]; exact q2
 ·obtain ⟨q1,q2⟩:=hz x hx fun j hj2 => hj j (by omega)
  have x0 : x ≠ 0:=by have:=hx.1; omega
  refine ⟨(T.E x).trans q1, ?_⟩
  rw [T.V x x0,if_neg (hj i (by omega))]; exact q2
end Go.Proofs.Ytcdfofeolgbnbaa

/- Law 11: awake. -/
namespace Go.Proofs.Ytcdfofeolgbnbaa
open Go.D
open Nat (reduceAdd reducePow reduceMul reduceSub reduceLeDiff reduceLT reduceEqDiff)
open Int (reduceNeg reduceLE reduceEq reduceNe reduceToNat)
open Go.D renaming istep → zx,pickR → zw,bin1R → zv,un1R → zu,eqS → zq,eq1 → zp,cmpS → zj,cmp1 → zk,isNil → zg,shows → zZ,result → zY,q_cond_t → zU,q_cond_f → zQ
open List renaming set → zX,replicate → zW
open Option renaming map → zV
open Nat renaming reduceAdd → yz,reducePow → yy,reduceMul → yx,reduceSub → yw,reduceLeDiff → yv,reduceLT → yu,reduceEqDiff → yq
open Int renaming reduceNeg → yp,reduceLE → yj,reduceEq → yk,reduceNe → yg,reduceToNat → yZ,reducePow → yY,reduceLT → yX,reduceAdd → yW,reduceSub → yV,reduceMul → yU,reduceBEq → yQ,reduceBNe → xz
set_option linter.all false
set_option maxRecDepth 100000
set_option maxHeartbeats 2000000

def awake11G : List V → List Blk → Res
 | [],h => .ok (.s (.b true)) [] h
 | _,_ => .bad
noncomputable def TAk : Tab:=addT 31 madeG (addT 23 laysG (addT 17 insG (addT 12 lisAG (addT 14 nextG (addT 15 lastG (addT 16 belG (addT 20 remG (addT 13 dscA (addT 30 intsG (noT))))))))))
theorem TAk_snd : TAk.Snd Try.prog:=addT_snd ok31 made_snd (addT_snd ok23 lays_snd (addT_snd ok17 ins_snd (addT_snd ok12 lisA_snd (addT_snd ok14 next_snd (addT_snd ok15 last_snd (addT_snd ok16 bel_snd (addT_snd ok20 rem_snd (addT_snd ok13 dscA_snd (addT_snd ok30 ints_snd ((noT_snd _)))))))))))
theorem awake11_snd : Snd Try.prog 8 (FSpec.of awake11G):=(fwp_sound (Tab.snd_Γ TAk_snd) mixed Try.func8 dc8).weaken fun args h K hc hS => by
 refine fwp_runW (Tab.ok_Γ _) 400 ?_
 have hS : (awake11G args h).spec K:=hS
 unfold awake11G at hS
 split at hS
 ·simp only [spec_ok] at hS
  have hcc : ∀ m r X,(bH h m r X)[h.length + 4]? = _:=fun m r X => bH_c h m r X
  simp (maxSteps:=9999999) only [EV0,zx,zw,zv,zu,zq,zp,zj,zk,zg,leT,zZ,rvC,zY,zX,zW,zV,↓zU,↓zQ,reduceCtorEq,yz,yy,yY,yx,yw,yv,yu,yq,yp,yX,yj,yk,yg,yW,yV,yU,yZ,yQ,xz,df8,TAk,madeG]
  refine loop_rule (α:=Nat × M × M) [0,2,3,21,22,23,24,25,26,27,28,29,30,31,32] (fun z => [(2, .s (.i .i64 (z.1 : Int)))]) (fun _ => []) (fun z => bH h z.2.1 z.2.2 []) (fun z => z.1 ≤ 4 ∧ z.2.2.w = z.2.1.w ∧ W11 z.2.1 [] ∧ (∀ j : Nat,j < z.1 → z.2.1.fE (1024 + 4 * (j : Int)) = 0) ∧ (∀ x,P11 x → (∀ j : Nat,j < z.1 → x ≠ 1024 + 4 * (j : Int)) → z.2.1.gE x = 0 ∧ z.2.1.gV x = slotZ)) (fun z => 4 - z.1) (0,z11,z11) ⟨by omega,rfl,W11.zero,fun j hj => absurd hj (Nat.not_lt_zero _),fun x hx _ => z11_slot hx⟩ ?_ ?_
  ·refine Wk.same rfl rfl ?_
   simp (maxSteps:=9999999) only [EV0,zx,zw,zv,zu,zq,zp,zj,zk,zg,leT,zZ,rvC,zY,zX,zW,zV,↓zU,↓zQ,reduceCtorEq,yz,yy,yY,yx,yw,yv,yu,yq,yp,yX,yj,yk,yg,yW,yV,yU,yZ,yQ,xz,Int.natCast_zero]
  ·rintro X ⟨i,m,r⟩ ⟨hi,hw,W,hf,hz⟩ IH
   simp only at hi hw W hf hz ⊢
   rcases Nat.lt_or_ge i 4 with h1 | h1
   ·obtain ⟨m',r',q1,q2,q3,q4,q5,q6⟩:=aw_lay h1 W hw hf hz
    have d1 : (i : Int) < 4:=by omega
    have d2 : IntKind.i64.wrap ((i : Int) + 1) = ((i + 1 : Nat) : Int):=by rw [wrap64] <;> omega
    have d3 : IntKind.i64.wrap (4 * (i : Int)) = 4 * (i : Int):=by rw [wrap64] <;> omega
    have d4 : IntKind.i64.wrap (1024 + 4 * (i : Int)) = 1024 + 4 * (i : Int):=by rw [wrap64] <;> omega
    have d5 : (-9223372036854775808 ≤ (i : Int) ∧ (i : Int) < 9223372036854775808) = True:=eq_true (by omega)
    have d6 : (-9223372036854775808 : Int) ≤ (i : Int):=by omega
    have d7 : (i : Int) < 9223372036854775808:=by omega
    refine run_sound (Tab.ok_Γ _) 300 _ _ _ _ ?_
    simp (maxSteps:=9999999) only [EV0,zx,zw,zv,zu,zq,zp,zj,zk,zg,leT,zZ,rvC,zY,zX,zW,zV,↓zU,↓zQ,reduceCtorEq,yz,yy,yY,yx,yw,yv,yu,yq,yp,yX,yj,yk,yg,yW,yV,yU,yZ,yQ,xz,TAk,laysG,laysM,bH_fb,q1,q2,d1,d2,d3,d4,d5,d6,d7]
    refine IH (i + 1,m',r') _ (by simp only; omega) ⟨by simp only; omega,q3,q4,q5,q6⟩ ?_
    exact Wk.same rfl rfl (by simp (maxSteps:=9999999) only [EV0,zx,zw,zv,zu,zq,zp,zj,zk,zg,leT,zZ,rvC,zY,zX,zW,zV,↓zU,↓zQ,reduceCtorEq,yz,yy,yY,yx,yw,yv,yu,yq,yp,yX,yj,yk,yg,yW,yV,yU,yZ,yQ,xz])
   ·have e0 : i = 4:=by omega
    subst e0
    clear IH
    have R0 : Rep11 m [] [1024,1028,1032,1036]:=⟨W,fun y hy => (by cases hy),fun x hx => ⟨by
     simp only [List.mem_cons,List.not_mem_nil,or_false] at hx
     rcases hx with rfl | rfl | rfl | rfl
     ·exact hf 0 (by omega)
     ·exact hf 1 (by omega)
     ·exact hf 2 (by omega)
     ·exact hf 3 (by omega),by simp⟩⟩
    obtain ⟨m1,m2,m3,m4,f1,f2,f3,f4,R4⟩:=aw_ins R0
    obtain ⟨a1,a2,_⟩:=aw_ask R4
    obtain ⟨_,_,b1,_⟩:=aw_ask (R4.of_w a2)
    obtain ⟨o5,ho5⟩ : ∃ o,m4.lis.2 = o:=⟨_,rfl⟩
    rw [ho5] at a2 b1
    have w6 : (o5.nxX 1024).w = m4.w:=(nxX_w _ _).trans a2
    obtain ⟨o6,ho6⟩ : ∃ o,o5.nxX 1024 = o:=⟨_,rfl⟩
    rw [ho6] at w6
    obtain ⟨_,_,_,b2,_⟩:=aw_ask (R4.of_w w6)
    have w7 : (o6.dsO 1024).2.w = m4.w:=((R4.of_w w6).w.ds 1024).2.1.trans w6
    obtain ⟨o7,ho7⟩ : ∃ o,(o6.dsO 1024).2 = o:=⟨_,rfl⟩
    rw [ho7] at w7
    obtain ⟨_,_,_,_,b3,_⟩:=aw_ask (R4.of_w w7)
    have w8 : (o7.dsO 1024).2.w = m4.w:=((R4.of_w w7).w.ds 1024).2.1.trans w7
    obtain ⟨o8,ho8⟩ : ∃ o,(o7.dsO 1024).2 = o:=⟨_,rfl⟩
    rw [ho8] at w8
    obtain ⟨_,_,_,_,_,b4⟩:=aw_ask (R4.of_w w8)
    have w9 : (o8.dsO 1036).2.w = m4.w:=((R4.of_w w8).w.ds 1036).2.1.trans w8
    obtain ⟨o9,ho9⟩ : ∃ o,(o8.dsO 1036).2 = o:=⟨_,rfl⟩
    rw [ho9] at w9
    obtain ⟨oA,f5,R5⟩:=aw_rem (R4.of_w w9)
    obtain ⟨g1,g2,g3⟩:=aw_ds R5
    obtain ⟨oB,hoB⟩ : ∃ o,(oA.dsO 1024).2 = o:=⟨_,rfl⟩
    rw [hoB] at g3
    have f6:=aw_no (R5.of_w g3)
    obtain ⟨oC,hoC⟩ : ∃ o,(oB.ins 0 1024).2 = o:=⟨_,rfl⟩
    have i1 : ((4 : Nat) : Int) < 4 ↔ False:=by decide
    obtain ⟨B1,hB1⟩ : ∃ B1 : Nat → Blk,B1 = fun c => ⟨.rw,intsB [1024,1036,1028,1032],c⟩:=⟨_,rfl⟩
    obtain ⟨B2,hB2⟩ : ∃ B2 : Nat → Blk,B2 = fun c => ⟨.rw,intsB [1036,1032],c⟩:=⟨_,rfl⟩
    have hb1 : ∀ c : Nat,(⟨.rw,intsB [1024,1036,1028,1032],c⟩ : Blk) = B1 c:=fun c => by rw [hB1]
    have hb2 : ∀ c : Nat,(⟨.rw,intsB [1036,1032],c⟩ : Blk) = B2 c:=fun c => by rw [hB2]
    have hA1 : ∀ (c : Nat) (Y : List Blk),arrOf In.c (bH h oC r (B1 c :: Y)) (.sl (.g (h.length + 5)) 0 4 c) = some [1024,1036,1028,1032]:=fun c Y => intsOf_at (l:=[1024,1036,1028,1032]) (room:=c) (by rw [hB1]; exact bH_x _ _ _ _ _)
    have hA2 : ∀ (X1 X2 : Blk) (Y : List Blk),arrOf In.c (bH h oC r (X1 :: X2 :: ⟨.rw,[.i .i64 1024, .i .i64 1036, .i .i64 1028, .i .i64 1032],4⟩ :: Y)) (.sl (.g (h.length + 5 + 2)) 0 4 4) = some [1024,1036,1028,1032]:=fun X1 X2 Y => intsOf_at (l:=[1024,1036,1028,1032]) (room:=4) (bH_y h oC r [X1,X2] _ Y)
    have hA3 : ∀ (X1 : Blk) (c : Nat) (Y : List Blk),arrOf In.c (bH h oC r (X1 :: B2 c :: Y)) (.sl (.g (h.length + 5 + 1)) 0 2 c) = some [1036,1032]:=fun X1 c Y => intsOf_at (l:=[1036,1032]) (room:=c) (by rw [hB2]; exact bH_y h oC r [X1] _ Y)
    have hA4 : ∀ (X1 X2 X3 : Blk) (Y : List Blk),arrOf In.c (bH h oC r (X1 :: X2 :: X3 :: ⟨.rw,[.i .i64 1036, .i .i64 1032],2⟩ :: Y)) (.sl (.g (h.length + 5 + 3)) 0 2 2) = some [1036,1032]:=fun X1 X2 X3 Y => intsOf_at (l:=[1036,1032]) (room:=2) (bH_y h oC r [X1,X2,X3] _ Y)
    have ht1 : ∀ (X1 X2 : Blk) (Y : List Blk),(bH h oC r (X1 :: X2 :: Y)).take (h.length + 5 + 2) = bH h oC r [X1,X2]:=fun X1 X2 Y => bH_take h oC r [X1,X2] Y
    have ht2 : ∀ (X1 X2 : Blk) (Y : List Blk),(bH h oC r (X1 :: X2 :: Y)).drop (h.length + 5 + 2) = Y:=fun X1 X2 Y => bH_drop h oC r [X1,X2] Y
    have hcl : ∀ c1 c2 : Nat,clean (h.length + 5 + 2) (bH h oC r [B1 c1,B2 c2]) = true:=fun c1 c2 => by
     have:=bH_clean hc oC r (X:=[B1 c1,B2 c2]) (by rw [hB1,hB2]; rfl)
     rwa [bH_len] at this
    have hn1 : h.length ≤ h.length + 5 + 2:=by omega
    refine run_sound (Tab.ok_Γ _) 400 _ _ _ _ ?_
    simp (maxSteps:=9999999) only [EV0,zx,zw,zv,zu,zq,zp,zj,zk,zg,leT,zZ,rvC,zY,zX,zW,zV,↓zU,↓zQ,reduceCtorEq,yz,yy,yY,yx,yw,yv,yu,yq,yp,yX,yj,yk,yg,yW,yV,yU,yZ,yQ,xz,TAk,bH_fm,bH_app,bH_len,hcc,insG,insM,lisAG,lisAM,lisA,nextG,nextM,lastG,lastM,belG,belM,remG,remM,dscA,dscAM,f1,f2,f3,f4,a1,ho5,erO,b1,ho6,b2,ho7,b3,ho8,b4,ho9,f5,g1,g2,hoB,f6,hoC,slA,bkA,hb1,hb2,i1,Option.getD_some,put,fillP,intsG,hA1,hA2,hA3,hA4,ht1,ht2,hcl,R.lend,R.unlend,S_ren,C.ren,V.ren,Blk.ren,Nat.add_sub_cancel_left,Nat.not_lt,Nat.le_add_right,Nat.add_lt_add_iff_left]
    intro c1 _ c2 _
    refine fin_of (v:=.s (.b true)) (ls:=[]) (h:=h) rfl ?_ ?_
    ·exact drop_b (by simp (maxSteps:=9999999) only [EV0,zx,zw,zv,zu,zq,zp,zj,zk,zg,leT,zZ,rvC,zY,zX,zW,zV,↓zU,↓zQ,reduceCtorEq,yz,yy,yY,yx,yw,yv,yu,yq,yp,yX,yj,yk,yg,yW,yV,yU,yZ,yQ,xz]) hc (Nat.le_refl _)
    ·simp (maxSteps:=9999999) only [EV0,zx,zw,zv,zu,zq,zp,zj,zk,zg,leT,zZ,rvC,zY,zX,zW,zV,↓zU,↓zQ,reduceCtorEq,yz,yy,yY,yx,yw,yv,yu,yq,yp,yX,yj,yk,yg,yW,yV,yU,yZ,yQ,xz]
     exact hS
 ·exact hS.elim
end Go.Proofs.Ytcdfofeolgbnbaa

/- Law 11: the forest: the walk. -/
namespace Go.Proofs.Ytcdfofeolgbnbaa
open Go.D
set_option linter.all false
set_option maxRecDepth 100000
set_option maxHeartbeats 2000000

def M.nn (m : M) (n : Int) : M:=⟨m.w,n,m.u,m.l⟩
theorem slA_pos {n c : Nat} {l : List Int} (h : 0 < l.length) : slA n l c = .sl (.g n) 0 l.length c:=by
 cases l with
 | nil => simp at h
 | cons x l => rfl
theorem bkA_pos {c : Nat} {l : List Int} (h : 0 < l.length) : bkA l c = [⟨.rw,intsB l,c⟩]:=by
 cases l with
 | nil => simp at h
 | cons x l => rfl

theorem ply_all (L : List Op) : (plyL z11 z11 L).2.w = (plyL z11 z11 L).1.w ∧ ∃ Q,W11 (plyL z11 z11 L).1 Q:=plyL_w L W11.zero rfl
end Go.Proofs.Ytcdfofeolgbnbaa

/- Law 11: CdtDepth: the walk. -/
namespace Go.Proofs.Ytcdfofeolgbnbaa
open Go.D
set_option linter.all false
set_option maxRecDepth 100000
set_option maxHeartbeats 4000000

section
variable {α : Type}
end

theorem okS_w {m m' : M} {L : List Int} {x : Int} (e : m'.w = m.w) (h : okS m L x) : okS m' L x:=by
 unfold okS at h ⊢
 rw [gE_w e,eB_w e]; exact h
def nmV (x : Op) (e s : Int) : Int:=if e ≠ 0 then s else if x.wh = 2 ∧ s = x.a then x.b else if x.wh = 3 ∧ s = x.a then x.b else if x.wh = 3 ∧ s = x.b then x.a else if x.wh = 4 ∧ s = x.a then 0 else s
section
variable {m : M} {L : List Int}
theorem nm_no {x : Op} {e : Int} (h : e ≠ 0) (s : Int) : nmV x e s = s:=if_pos h
theorem nm_of {x : Op} (s : Int) : nmV x 0 s = if x.wh = 2 ∧ s = x.a then x.b else if x.wh = 3 ∧ s = x.a then x.b else if x.wh = 3 ∧ s = x.b then x.a else if x.wh = 4 ∧ s = x.a then 0 else s:=if_neg (by simp)
theorem St11.fam (W : W11 m L) {x : Op} {e : Int} {m' : M} {L' : List Int} (S : St11 m L x e m' L') {i k : Int} (hi : i ∈ L) (hk : k ∈ L) (p0 : nmV x e i ≠ 0) (q0 : nmV x e k ≠ 0) : nmV x e k ∈ under m'.D L' (nmV x e i) ↔ k ∈ under m.D L i:=by
 cases S with
 | no he hw => rw [nm_no he,nm_no he,D_w hw]
 | non wh hw =>
  obtain ⟨h1,h2,h3,h4⟩:=wh
  simp only [nm_of,h2,h3,h4,false_and,if_false,D_w hw]
 | sw0 wh ha hab hw =>
  simp only [nm_of,wh,← hab,Int.reduceEq,false_and,if_false,true_and,ite_self,D_w hw]
  have e : ∀ s : Int,(if s = x.a then x.a else s) = s:=fun s => by split <;> simp_all
  simp only [e]
 | ins wh hf hu hp T =>
  have n1 : ∀ s,nmV x 0 s = s:=fun s => by rw [nm_of]; simp only [wh,Int.reduceEq,false_and,if_false]
  rw [n1,n1]
  have a0:=there_ne0 (fE_there hf)
  have hia : i ≠ x.a:=fun e => hu (e ▸ hi)
  have hka : k ≠ x.a:=fun e => hu (e ▸ hk)
  have hD : ∀ y,y ∈ L → m'.D y = m.D y:=fun y hy => by
   have hya : ¬ y = x.a:=fun e => hu (by rw [← e]; exact hy)
   rw [ins_D T (W.n0 hy),if_neg hya]
  have hDa:=ins_D T a0
  rw [if_pos rfl] at hDa
  unfold insLL
  by_cases c : x.b = 0
  ·rw [if_pos c]
   simp only [under,if_neg (Ne.symm hia)]
   rw [under_congr hD]
  ·rw [if_neg c] at hDa ⊢
   rw [under_ins hDa hia W.inv.nd hu hD]
   simp only [ne_eq,hka,not_false_eq_true,true_and,false_and,or_false]
 | mov wh ha ht hz T =>
  have n1 : ∀ s,nmV x 0 s = rho x.a x.b s:=fun s => by
   rw [nm_of]
   simp only [wh,Int.reduceEq,false_and,if_false,true_and]
   unfold rho
   rfl
  obtain ⟨htL,t0,_⟩:=W.inv.free ht hz
  have hft : x.a ≠ x.b:=fun e => htL (e ▸ ha)
  have hD : ∀ y,y ∈ L → m'.D (rho x.a x.b y) = m.D y:=fun y hy => mov_D T hft t0 (W.n0 hy) fun e => htL (e ▸ hy)
  have hinj : ∀ y z,y ∈ L → z ∈ L → rho x.a x.b y = rho x.a x.b z → y = z:=fun y z hy hz e => by
   unfold rho at e
   by_cases c1 : y = x.a
   ·rw [if_pos c1] at e
    by_cases c2 : z = x.a
    ·exact c1.trans c2.symm
    ·rw [if_neg c2] at e
     exact absurd (e ▸ hz) htL
   ·rw [if_neg c1] at e
    by_cases c2 : z = x.a
    ·rw [if_pos c2] at e
     exact absurd (e ▸ hy) htL
    ·rw [if_neg c2] at e; exact e
  rw [n1,n1,under_map hD (hD i hi) fun y hy e => hinj y i hy hi e]
  constructor
  ·intro h
   obtain ⟨y,hy,e⟩:=List.mem_map.1 h
   rw [← hinj y k (under_sub hy).1 hk e]; exact hy
  ·exact fun h => List.mem_map.2 ⟨k,h,rfl⟩
 | swp wh ha hb hab T =>
  have n1 : ∀ s,nmV x 0 s = oth x.a x.b s:=fun s => by
   rw [nm_of]
   simp only [wh,Int.reduceEq,false_and,if_false,true_and]
   unfold oth
   rfl
  have hD : ∀ y,y ∈ L → m'.D (oth x.a x.b y) = m.D y:=fun y hy => sw_D T (W.n0 ha) (W.n0 hb) hab (W.n0 hy)
  have hinj : ∀ y z,oth x.a x.b y = oth x.a x.b z → y = z:=fun y z e => by
   have:=congrArg (oth x.a x.b) e
   rwa [oth_oth hab,oth_oth hab] at this
  rw [n1,n1,under_map hD (hD i hi) fun y hy e => hinj y i e]
  constructor
  ·intro h
   obtain ⟨y,hy,e⟩:=List.mem_map.1 h
   rw [← hinj y k e]; exact hy
  ·exact fun h => List.mem_map.2 ⟨k,h,rfl⟩
 | rem wh e T =>
  rename_i L1 L2
  have n1 : ∀ s,nmV x 0 s = if s = x.a then 0 else s:=fun s => by
   rw [nm_of]
   simp only [wh,Int.reduceEq,false_and,if_false,true_and]
  rw [n1] at p0 q0
  have hia : i ≠ x.a:=fun h => p0 (if_pos h)
  have hka : k ≠ x.a:=fun h => q0 (if_pos h)
  rw [n1,n1,if_neg hia,if_neg hka]
  have hn:=W.inv.nd
  have hd:=W.dep
  have hno : ∀ y,y ∈ L → y ≠ 0:=fun y hy => W.n0 hy
  rw [e] at hn hd hno
  obtain ⟨n1',n2,n3⟩:=List.nodup_append.1 hn
  obtain ⟨n4,n5⟩:=List.nodup_cons.1 n2
  obtain ⟨E,s1,s2,s3⟩:=deep_split m.gV (m.gV x.a).depth L2
  obtain ⟨Ds,hDs⟩ : ∃ Ds,deep m.gV (m.gV x.a).depth L2 = Ds:=⟨_,rfl⟩
  rw [hDs] at s1 s3 T
  obtain ⟨d1,d2⟩:=dep_app.1 hd
  obtain ⟨d3,d4⟩:=d2
  have hne : ∀ y,y ∈ L1 ++ L2 → y ≠ 0 ∧ y ≠ x.a:=fun y hy => by
   rcases List.mem_append.1 hy with h | h
   ·exact ⟨hno y (List.mem_append_left _ h),n3 y h _ List.mem_cons_self⟩
   ·exact ⟨hno y (List.mem_append_right _ (List.mem_cons_of_mem _ h)),fun e => n4 (e ▸ h)⟩
  have hD : ∀ y,y ∈ L1 ++ L2 → m'.D y = if y ∈ Ds then m.D y - 1 else m.D y:=fun y hy => rem_D T (hne y hy).1 (hne y hy).2
  rw [s1] at n5 hD d4 n3 e
  rw [e,s1]
  refine under_rem (D:=m.D) (D':=m'.D) (a:=x.a) (fun w hw => ?_) s2 (fun w hw => ⟨s3 w hw, ?_⟩) d4 hia hka fun w hw => ?_
  ·rw [hD w (List.mem_append_right _ (List.mem_append_right _ hw)),if_neg]
   exact fun h => (List.nodup_append.1 n5).2.2 w h w hw rfl
  ·rw [hD w (List.mem_append_right _ (List.mem_append_left _ hw)),if_pos hw]
  ·rw [hD w (List.mem_append_left _ hw),if_neg]
   intro h
   exact n3 w hw w (List.mem_cons_of_mem _ (List.mem_append_left _ h)) rfl
theorem St11.kid (W : W11 m L) {x : Op} {m' : M} {L' : List Int} (S : St11 m L x 0 m' L') (wh : x.wh = 1) {i : Int} (hi : i ∈ L) : (x.a ∈ under m'.D L' i ↔ i = x.b ∨ x.b ∈ under m'.D L' i) ∧ i ∉ under m'.D L' x.a:=by
 cases S with
 | no he hw => exact absurd rfl he
 | non wh2 hw => exact absurd wh wh2.1
 | sw0 wh2 ha hab hw => rw [wh] at wh2; cases wh2
 | mov wh2 ha ht hz T => rw [wh] at wh2; cases wh2
 | swp wh2 ha hb hab T => rw [wh] at wh2; cases wh2
 | rem wh2 e T => rw [wh] at wh2; cases wh2
 | ins _ hf hu hp T =>
  have a0:=there_ne0 (fE_there hf)
  have hia : i ≠ x.a:=fun e => hu (e ▸ hi)
  have hD : ∀ y,y ∈ L → m'.D y = m.D y:=fun y hy => by
   have hya : ¬ y = x.a:=fun e => hu (by rw [← e]; exact hy)
   rw [ins_D T (W.n0 hy),if_neg hya]
  have hDa:=ins_D T a0
  rw [if_pos rfl] at hDa
  unfold insLL
  by_cases c : x.b = 0
  ·rw [if_pos c] at hDa ⊢
   refine ⟨?_, ?_⟩
   ·simp only [under,if_neg (Ne.symm hia)]
    rw [under_congr hD]
    have h1 : x.a ∉ under m.D L i:=fun h => hu (under_sub h).1
    have h2 : x.b ∉ under m.D L i:=fun h => W.n0 (under_sub h).1 c
    have h3 : i ≠ x.b:=fun e => W.n0 hi (e.trans c)
    simp [h1,h2,h3]
   ·rw [under_top hDa (dep_congr hD W.dep)]
    exact List.not_mem_nil
  ·rw [if_neg c] at hDa ⊢
   have hb:=(hp.resolve_left c).1
   have hba : x.b ≠ x.a:=fun e => hu (e ▸ hb)
   refine ⟨?_, ?_⟩
   ·rw [under_ins hDa hia W.inv.nd hu hD,under_ins hDa hia W.inv.nd hu hD]
    have h1 : x.a ∉ under m.D L i:=fun h => hu (under_sub h).1
    simp [h1,hba,hb]
   ·rw [under_new hDa hu hD W.dep]
    exact List.not_mem_nil
end
end Go.Proofs.Ytcdfofeolgbnbaa

