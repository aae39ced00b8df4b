/- CdtFamily: for every input the law's Go function answers true,and its arguments read behind the call as before. No conditions. -/
import Derived.Test.YtcdfofeolgbnbaaZ20
import Derived.Test.YtcdfofeolgbnbaaZ21
/- CdtFamily: for every input the law's Go function answers true,and its arguments read behind the call as before. No conditions. -/
namespace Go.Proofs.Ytcdfofeolgbnbaa
open Go.D
set_option linter.all false
set_option maxRecDepth 100000

theorem cdtFamily_law : Law cdtFamilyS [(false,[.slice OpT]),(true,OpT)]:=by
 intro h us H hc
 obtain ⟨_,_,rfl,H1,H⟩:=lawC H
 obtain ⟨_,_,rfl,H2,H⟩:=lawC H
 obtain rfl:=lawN H
 obtain ⟨s,L,rfl,e1,e2,e3⟩:=hasV_slice (c:=Op.cl) (p:=Op.u) (fun ss h => hasTs_op11 h) H1
 obtain ⟨ss,rfl,Hx⟩:=H2
 obtain ⟨x,rfl,hx⟩:=hasTs_op11 Hx
 exact ⟨s,L,x,rfl,e1,e2,by omega,hx,fun _ => rfl⟩
theorem cdtFamily_row : RowOk Try.prog 5 Try.f5 Rows.cdtFamilySpec [(false,[.slice OpT]),(true,OpT)] where
 own:=own
 noTabs:=rfl
 noInit:=by kernel_rfl
 isf:=Try.func5
 laid:=laid
 rowed:=rowed
 full:=full
 params:=by kernel_rfl
 vars:=rfl
 ret:=⟨_,rfl,by kernel_rfl⟩
 spec:=fun H ds e => by
  match ds,e with
  | [_,_],_ => rfl
 tys:=⟨20,by kernel_rfl⟩
theorem cdtFamily_holds : Rows.CdtFamilySaid :=
 OpenClaim.holds_of_wide 5 Try.f5 rfl rfl rfl rfl rfl rfl rfl ⟨rfl,rfl,rfl,rfl,rfl⟩ rfl rfl rfl rfl rfl (by kernel_rfl) Try.func5 (by kernel_rfl)
  (of_decide_eq_true (by kernel_rfl)) (by unfold Func.isWrapper; first | (rw [if_pos (by decide +kernel)]; kernel_rfl) | (rw [if_neg (by decide +kernel)]; exact ⟨rfl,rfl⟩))
  (fun os started H enc _ => cdtFamily_row.lifted (C:=Try.checked) cdtFamily_snd cdtFamily_law started (ChangeSpec.witness6 (enc:=enc) (C:=Try.checked) false ⟨#[], #[.slice none 0 0, .agg #[.int .i64 0, .int .i64 0, .int .i64 0, .int .i64 0]],[]⟩ 8 (by kernel_rfl) (by kernel_rfl) (by kernel_rfl) (by kernel_rfl)))
end Go.Proofs.Ytcdfofeolgbnbaa

