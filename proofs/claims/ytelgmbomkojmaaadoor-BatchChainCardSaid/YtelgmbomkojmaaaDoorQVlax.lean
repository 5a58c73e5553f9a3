/- A pack: Vl. -/
import Derived.Test.YtelgmbomkojmaaaDoorQVkaw
namespace Go.Proofs.YtelgmbomkojmaaaDoor
set_option linter.all false
set_option maxRecDepth 100000
section
open Go.Conc Go.ConcN Go.ConcN.Gen Go.RowKit Go.Conc.Lib Go.ConcR.Gen
open Go.ConcR (KK wgBlock WgAt stA smA rd wr Payload DC0)
theorem z37:(Tryd.prog.funcs[(base 19).fn]?).any (·.norace)=false:=by kernel_rfl
section
variable {E:zar} {s:SBx} {y:WIn} {Mi M o:Nat→Prop} {w0:World} {a0 a1 a2 a3:Value} {N k:Nat} {cs:List Frame}
set_option maxRecDepth 100000 in
set_option maxHeartbeats 8000000 in
theorem z4q (hP:E.P=Tryd.prog)(hn:E.n=y.n)(hn64:y.n≤64)(hN4:N≤4)(hkN:k<N)(hMi:∀ b,Mi b→M b){c bP:Nat}(hMb:M bP)(hMc:¬ M c)(hcW:c≠E.Wg){Next:Kp}(hNx:∀ T w,IsH E s a0 a1 a2 a3 N (k+1) T→SKn E s y Mi w0 w→RunM E Next M o (zdq T cs) w){j:Nat}(hj:¬ j<y.n){T:Array Value}(hT:IsJ E s a0 a1 a2 a3 N k bP j T)(w:World)(hK:JKn E s y Mi w0 c bP w): RunM E (MCls E c Next) M o (zgo T cs) w:=by
 obtain ⟨v12,v19,v20,v21,v22,v23,v24,v25,v26,v29,v30,v31,v32,v33,v34,v35,v36,v37,v38,v39,v40,v41,v42,v43,v44,v45,v46,rfl,hv⟩:=hT
 simp only [zgo,LB11,r14,r15,tl10,tl9,LB19,tl16,zdf,Tryd.f19,Option.getD_some]
 have hj2:¬ (j:Int)<(y.n:Int):=by omega
 have hwk:IntKind.i64.wrap ((k:Int)+1)=((k+1:Nat):Int):=by rw [IntKind.wrap_i64];omega
 show Run E.P true E.ty E.Wg true _ _ _ _ _
 rw [hP]
 refine zqo 60 ?_
 (refine Goes.step rfl (fun _ h₁=>?_);replace hK:=(JKn.relyW hMi hMb) hK h₁;clear h₁;rw [stepG_seq];simp only [goes_go];refine ⟨d1_e,?_⟩)
 (refine Goes.step rfl (fun _ h₁=>?_);replace hK:=(JKn.relyW hMi hMb) hK h₁;clear h₁;rw [stepG_seq];simp only [goes_go];refine ⟨d1_e,?_⟩)
 (refine Goes.step rfl (fun _ h₁=>?_);replace hK:=(JKn.relyW hMi hMb) hK h₁;clear h₁;rw [stepG_region];simp only [goes_go,List.size_toArray,List.length_cons,List.length_nil,Nat.reduceAdd,Nat.zero_add,List.range,List.range.loop];refine ⟨d1_e,?_⟩)
 (refine Goes.step rfl (fun _ h₁=>?_);replace hK:=(JKn.relyW hMi hMb) hK h₁;clear h₁;refine goes_oper_k rfl rfl (by k_ne) (fun K9 hK9=>?_);go_simp;refine hK9 _ _ ⟨?_,?_⟩;(focus (refine zaf ?_;intro e he;have hm:=mem_listed he;simp [go_sem, *] at hm));clear hK9 K9;try w_num)
 (refine Goes.step rfl (fun _ h₁=>?_);replace hK:=(JKn.relyW hMi hMb) hK h₁;clear h₁)
 refine goes_oper_k rfl rfl (by k_ne) (fun K hKx=>?_)
 have hx:=hK.1.2.fL
 go_simp
 refine hKx _ _ ⟨⟨rfl,fun e he=>?_⟩,?_⟩
 ·have hm:=mem_listed he
  simp [go_sem, *] at hm
  subst hm
  exact ⟨rfl,za0 (hMi _ hK.1.2.mL)⟩
 clear hKx K hx
 (refine Goes.step rfl (fun _ h₁=>?_);replace hK:=(JKn.relyW hMi hMb) hK h₁;clear h₁;refine goes_oper_k rfl rfl (by k_ne) (fun K9 hK9=>?_);go_simp;refine hK9 _ _ ⟨?_,?_⟩;(focus (refine zaf ?_;intro e he;have hm:=mem_listed he;simp [go_sem, *] at hm));clear hK9 K9;try w_num)
 (refine Goes.step rfl (fun _ h₁=>?_);replace hK:=(JKn.relyW hMi hMb) hK h₁;clear h₁;refine goes_oper_k rfl rfl (by k_ne) (fun K9 hK9=>?_);go_simp;refine hK9 _ _ ⟨?_,?_⟩;(focus (refine zaf ?_;intro e he;have hm:=mem_listed he;simp [go_sem, *] at hm));clear hK9 K9;try w_num)
 (refine Goes.step rfl (fun _ h₁=>?_);replace hK:=(JKn.relyW hMi hMb) hK h₁;clear h₁;rw [stepG_region_end];simp only [goes_go];refine ⟨d1_e,?_⟩)
 (refine Goes.step rfl (fun _ h₁=>?_);replace hK:=(JKn.relyW hMi hMb) hK h₁;clear h₁;rw [stepG_cond (t:=false) rfl];simp only [goes_go,if_true,if_false,Bool.false_eq_true,↓reduceIte];refine ⟨d1_e,?_⟩)
 (refine Goes.step rfl (fun _ h₁=>?_);replace hK:=(JKn.relyW hMi hMb) hK h₁;clear h₁;refine goes_exit rfl ?_;refine ⟨d1_e,?_⟩)
 (refine Goes.step rfl (fun _ h₁=>?_);replace hK:=(JKn.relyW hMi hMb) hK h₁;clear h₁;rw [stepG_region];simp only [goes_go,List.size_toArray,List.length_cons,List.length_nil,Nat.reduceAdd,Nat.zero_add,List.range,List.range.loop];refine ⟨d1_e,?_⟩)
 (refine Goes.step rfl (fun _ h₁=>?_);replace hK:=(JKn.relyW hMi hMb) hK h₁;clear h₁)
 refine goes_oper_k rfl rfl (by k_ne) (fun K hKx=>?_)
 have hx:=hK.2
 go_simp
 refine hKx _ _ ⟨⟨rfl,fun e he=>?_⟩,?_⟩
 ·have hm:=mem_listed he
  simp [go_sem, *] at hm
  subst hm
  exact ⟨rfl,za0 hMb⟩
 clear hKx K hx
 refine Goes.stop (fun w₁ h₁=>?_)
 replace hK:=hK.relyW hMi hMb h₁
 clear h₁
 refine ⟨rfl,by rw [hP];rfl,fun buf s1 r1 hc=>?_⟩
 refine ⟨_,by rw [hP];exact stepG_close rfl rfl (by k_ne) rfl (by simp [Act.eval]) hc z37,rfl,?_⟩
 replace hK:=hK.relyW hMi hMb (zek (cap:=E.n) (buf:=buf) (cl:=true) (s:=s1) (r:=r1) (tm:=false) hMc hcW)
 generalize w₁.setChan c E.n buf true s1 r1 false=w₂ at hK
 clear hc
 walk_nrm
 show Run E.P true E.ty E.Wg true Next _ _ _ _
 rw [hP]
 refine zc0 30 ?_
 (refine Goes.step rfl (fun _ h₁=>?_);replace hK:=(JKn.relyW hMi hMb) hK h₁;clear h₁;rw [stepG_region_end];simp only [goes_go];refine ⟨d1_e,?_⟩)
 (refine Goes.step rfl (fun _ h₁=>?_);replace hK:=(JKn.relyW hMi hMb) hK h₁;clear h₁;rw [stepG_inBlock];simp only [goes_go];refine ⟨d1_e,?_⟩)
 (refine Goes.step rfl (fun _ h₁=>?_);replace hK:=(JKn.relyW hMi hMb) hK h₁;clear h₁;rw [stepG_region];simp only [goes_go,List.size_toArray,List.length_cons,List.length_nil,Nat.reduceAdd,Nat.zero_add,List.range,List.range.loop];refine ⟨d1_e,?_⟩)
 (refine Goes.step rfl (fun _ h₁=>?_);replace hK:=(JKn.relyW hMi hMb) hK h₁;clear h₁;refine goes_oper_k rfl rfl (by k_ne) (fun K9 hK9=>?_);go_simp;refine hK9 _ _ ⟨?_,?_⟩;(focus (refine zaf ?_;intro e he;have hm:=mem_listed he;simp [go_sem, *] at hm));clear hK9 K9;try w_num)
 (refine Goes.step rfl (fun _ h₁=>?_);replace hK:=(JKn.relyW hMi hMb) hK h₁;clear h₁;refine goes_oper_k rfl rfl (by k_ne) (fun K9 hK9=>?_);go_simp;refine hK9 _ _ ⟨?_,?_⟩;(focus (refine zaf ?_;intro e he;have hm:=mem_listed he;simp [go_sem, *] at hm));clear hK9 K9;try w_num)
 (refine Goes.step rfl (fun _ h₁=>?_);replace hK:=(JKn.relyW hMi hMb) hK h₁;clear h₁;rw [stepG_region_end];simp only [goes_go];refine ⟨d1_e,?_⟩)
 (refine Goes.step rfl (fun _ h₁=>?_);replace hK:=(JKn.relyW hMi hMb) hK h₁;clear h₁;rw [stepG_inLoop];simp only [goes_go];refine ⟨d1_e,?_⟩)
 refine Goes.stop (fun w₃ h₃=>?_)
 replace hK:=hK.relyW hMi hMb h₃
 rw [← hP]
 refine hNx _ _ ?_ hK.1
 refine ⟨_,_,_,_,_,_,_,_,_,_,_,_,_,_,_,_,_,_,_,_,_,_,_,_,_,_,_,_,by rw [if_neg (Nat.succ_ne_zero k)];rfl,?_⟩
 simp only [List.forall_mem_cons,List.not_mem_nil,false_implies,implies_true,and_true] at hv ⊢
 simp [hv,zee,zec,zco,zc5,zc6,zed,zcn]
set_option maxRecDepth 100000 in
set_option maxHeartbeats 8000000 in
theorem z5i (hP:E.P=Tryd.prog)(hn64:y.n≤64)(hMi:∀ b,Mi b→M b){c bP:Nat}(hMb:M bP){Next:Kp}{j:Nat}(hj:j<y.n)(hNx:∀ T w,IsJ E s a0 a1 a2 a3 N k bP (j+4) T→JKn E s y Mi w0 c bP w→RunM E Next M o (zgo T cs) w){T:Array Value}(hT:IsJ E s a0 a1 a2 a3 N k bP j T)(w:World)(hK:JKn E s y Mi w0 c bP w): RunM E (MSnd E c j Next) M o (zgo T cs) w:=by
 obtain ⟨v12,v19,v20,v21,v22,v23,v24,v25,v26,v29,v30,v31,v32,v33,v34,v35,v36,v37,v38,v39,v40,v41,v42,v43,v44,v45,v46,rfl,hv⟩:=hT
 simp only [zgo,LB11,r14,r15,tl10,tl9,LB19,tl16,zdf,Tryd.f19,Option.getD_some]
 have hj2:(j:Int)<(y.n:Int):=by omega
 have hwk:IntKind.i64.wrap ((j:Int)+4)=((j+4:Nat):Int):=by rw [IntKind.wrap_i64];omega
 show Run E.P true E.ty E.Wg true _ _ _ _ _
 rw [hP]
 refine zqo 60 ?_
 (refine Goes.step rfl (fun _ h₁=>?_);replace hK:=(JKn.relyW hMi hMb) hK h₁;clear h₁;rw [stepG_seq];simp only [goes_go];refine ⟨d1_e,?_⟩)
 (refine Goes.step rfl (fun _ h₁=>?_);replace hK:=(JKn.relyW hMi hMb) hK h₁;clear h₁;rw [stepG_seq];simp only [goes_go];refine ⟨d1_e,?_⟩)
 (refine Goes.step rfl (fun _ h₁=>?_);replace hK:=(JKn.relyW hMi hMb) hK h₁;clear h₁;rw [stepG_region];simp only [goes_go,List.size_toArray,List.length_cons,List.length_nil,Nat.reduceAdd,Nat.zero_add,List.range,List.range.loop];refine ⟨d1_e,?_⟩)
 (refine Goes.step rfl (fun _ h₁=>?_);replace hK:=(JKn.relyW hMi hMb) hK h₁;clear h₁;refine goes_oper_k rfl rfl (by k_ne) (fun K9 hK9=>?_);go_simp;refine hK9 _ _ ⟨?_,?_⟩;(focus (refine zaf ?_;intro e he;have hm:=mem_listed he;simp [go_sem, *] at hm));clear hK9 K9;try w_num)
 (refine Goes.step rfl (fun _ h₁=>?_);replace hK:=(JKn.relyW hMi hMb) hK h₁;clear h₁)
 refine goes_oper_k rfl rfl (by k_ne) (fun K hKx=>?_)
 have hx:=hK.1.2.fL
 go_simp
 refine hKx _ _ ⟨⟨rfl,fun e he=>?_⟩,?_⟩
 ·have hm:=mem_listed he
  simp [go_sem, *] at hm
  subst hm
  exact ⟨rfl,za0 (hMi _ hK.1.2.mL)⟩
 clear hKx K hx
 (refine Goes.step rfl (fun _ h₁=>?_);replace hK:=(JKn.relyW hMi hMb) hK h₁;clear h₁;refine goes_oper_k rfl rfl (by k_ne) (fun K9 hK9=>?_);go_simp;refine hK9 _ _ ⟨?_,?_⟩;(focus (refine zaf ?_;intro e he;have hm:=mem_listed he;simp [go_sem, *] at hm));clear hK9 K9;try w_num)
 (refine Goes.step rfl (fun _ h₁=>?_);replace hK:=(JKn.relyW hMi hMb) hK h₁;clear h₁;refine goes_oper_k rfl rfl (by k_ne) (fun K9 hK9=>?_);go_simp;refine hK9 _ _ ⟨?_,?_⟩;(focus (refine zaf ?_;intro e he;have hm:=mem_listed he;simp [go_sem, *] at hm));clear hK9 K9;try w_num)
 (refine Goes.step rfl (fun _ h₁=>?_);replace hK:=(JKn.relyW hMi hMb) hK h₁;clear h₁;rw [stepG_region_end];simp only [goes_go];refine ⟨d1_e,?_⟩)
 (refine Goes.step rfl (fun _ h₁=>?_);replace hK:=(JKn.relyW hMi hMb) hK h₁;clear h₁;rw [stepG_cond (t:=true) rfl];simp only [goes_go,if_true,if_false,Bool.false_eq_true,↓reduceIte];refine ⟨d1_e,?_⟩)
 (refine Goes.step rfl (fun _ h₁=>?_);replace hK:=(JKn.relyW hMi hMb) hK h₁;clear h₁;rw [stepG_skip];simp only [goes_go];refine ⟨d1_e,?_⟩)
 (refine Goes.step rfl (fun _ h₁=>?_);replace hK:=(JKn.relyW hMi hMb) hK h₁;clear h₁;rw [stepG_seq];simp only [goes_go];refine ⟨d1_e,?_⟩)
 (refine Goes.step rfl (fun _ h₁=>?_);replace hK:=(JKn.relyW hMi hMb) hK h₁;clear h₁;rw [stepG_block];simp only [goes_go];refine ⟨d1_e,?_⟩)
 (refine Goes.step rfl (fun _ h₁=>?_);replace hK:=(JKn.relyW hMi hMb) hK h₁;clear h₁;rw [stepG_region];simp only [goes_go,List.size_toArray,List.length_cons,List.length_nil,Nat.reduceAdd,Nat.zero_add,List.range,List.range.loop];refine ⟨d1_e,?_⟩)
 (refine Goes.step rfl (fun _ h₁=>?_);replace hK:=(JKn.relyW hMi hMb) hK h₁;clear h₁)
 refine goes_oper_k rfl rfl (by k_ne) (fun K hKx=>?_)
 have hx:=hK.2
 go_simp
 refine hKx _ _ ⟨⟨rfl,fun e he=>?_⟩,?_⟩
 ·have hm:=mem_listed he
  simp [go_sem, *] at hm
  subst hm
  exact ⟨rfl,za0 hMb⟩
 clear hKx K hx
 (refine Goes.step rfl (fun _ h₁=>?_);replace hK:=(JKn.relyW hMi hMb) hK h₁;clear h₁;refine goes_oper_k rfl rfl (by k_ne) (fun K9 hK9=>?_);go_simp;refine hK9 _ _ ⟨?_,?_⟩;(focus (refine zaf ?_;intro e he;have hm:=mem_listed he;simp [go_sem, *] at hm));clear hK9 K9;try w_num)
 refine Goes.stop (fun w₁ h₁=>?_)
 replace hK:=hK.relyW hMi hMb h₁
 clear h₁
 refine ⟨rfl,undef,?_,?_⟩
 ·rw [hP,core_G,stepG_comm (cases:=#[scase c (.int .i64 j) undef]) (blocking:=true) (shape:=.send) (w':=w₁) rfl rfl (by k_ne) (by simp [go_sem,scase] <;> rfl)]
  simp [listed,go_sem,seen]
 rw [core_G,served_G]
 walk_nrm
 show Run E.P true E.ty E.Wg true Next _ _ _ _
 rw [hP]
 refine zc0 30 ?_
 (refine Goes.step rfl (fun _ h₁=>?_);replace hK:=(JKn.relyW hMi hMb) hK h₁;clear h₁;rw [stepG_region_end];simp only [goes_go];refine ⟨d1_e,?_⟩)
 (refine Goes.step rfl (fun _ h₁=>?_);replace hK:=(JKn.relyW hMi hMb) hK h₁;clear h₁;rw [stepG_inBlock];simp only [goes_go];refine ⟨d1_e,?_⟩)
 (refine Goes.step rfl (fun _ h₁=>?_);replace hK:=(JKn.relyW hMi hMb) hK h₁;clear h₁;rw [stepG_region];simp only [goes_go,List.size_toArray,List.length_cons,List.length_nil,Nat.reduceAdd,Nat.zero_add,List.range,List.range.loop];refine ⟨d1_e,?_⟩)
 (refine Goes.step rfl (fun _ h₁=>?_);replace hK:=(JKn.relyW hMi hMb) hK h₁;clear h₁;refine goes_oper_k rfl rfl (by k_ne) (fun K9 hK9=>?_);go_simp;refine hK9 _ _ ⟨?_,?_⟩;(focus (refine zaf ?_;intro e he;have hm:=mem_listed he;simp [go_sem, *] at hm));clear hK9 K9;try w_num)
 (refine Goes.step rfl (fun _ h₁=>?_);replace hK:=(JKn.relyW hMi hMb) hK h₁;clear h₁;refine goes_oper_k rfl rfl (by k_ne) (fun K9 hK9=>?_);go_simp;refine hK9 _ _ ⟨?_,?_⟩;(focus (refine zaf ?_;intro e he;have hm:=mem_listed he;simp [go_sem, *] at hm));clear hK9 K9;try w_num)
 (refine Goes.step rfl (fun _ h₁=>?_);replace hK:=(JKn.relyW hMi hMb) hK h₁;clear h₁;refine goes_oper_k rfl rfl (by k_ne) (fun K9 hK9=>?_);go_simp;refine hK9 _ _ ⟨?_,?_⟩;(focus (refine zaf ?_;intro e he;have hm:=mem_listed he;simp [go_sem, *] at hm));clear hK9 K9;try w_num)
 (refine Goes.step rfl (fun _ h₁=>?_);replace hK:=(JKn.relyW hMi hMb) hK h₁;clear h₁;rw [stepG_region_end];simp only [goes_go];refine ⟨d1_e,?_⟩)
 (refine Goes.step rfl (fun _ h₁=>?_);replace hK:=(JKn.relyW hMi hMb) hK h₁;clear h₁;rw [stepG_inLoop];simp only [goes_go];refine ⟨d1_e,?_⟩)
 refine Goes.stop (fun w₃ h₃=>?_)
 replace hK:=hK.relyW hMi hMb h₃
 rw [← hP]
 refine hNx _ _ ?_ hK
 refine ⟨_,_,_,_,_,_,_,_,_,_,_,_,_,_,_,_,_,_,_,_,_,_,_,_,_,_,_,rfl,?_⟩
 simp only [List.forall_mem_cons,List.not_mem_nil,false_implies,implies_true,and_true] at hv ⊢
 simp [hv,zee,zec,zco,zc5,zc6,zed,zcn]
theorem z08 (hP:E.P=Tryd.prog)(hn:E.n=y.n)(hn64:y.n≤64)(hN4:N≤4)(hkN:k<N)(hMi:∀ b,Mi b→M b){c bP:Nat}(hMb:M bP)(hMc:¬ M c)(hcW:c≠E.Wg){Next:Kp}(hNx:∀ T w,IsH E s a0 a1 a2 a3 N (k+1) T→SKn E s y Mi w0 w→RunM E Next M o (zdq T cs) w):
  ∀ (m j:Nat),y.n - j≤m→∀ T w,IsJ E s a0 a1 a2 a3 N k bP j T→JKn E s y Mi w0 c bP w→RunM E (zdi E c Next (zbu y.n j)) M o (zgo T cs) w
 | m,j,hm,T,w,hT,hK=>by
   by_cases hj:j<y.n
   ·rw [zgx hj]
    cases m with
    | zero=>omega
    | succ m=>exact z5i hP hn64 hMi hMb hj (fun T w hT hK=>z08 hP hn hn64 hN4 hkN hMi hMb hMc hcW hNx m (j+4) (by omega) T w hT hK) hT w hK
   ·rw [zgy hj]
    exact z4q hP hn hn64 hN4 hkN hMi hMb hMc hcW hNx hj hT w hK
set_option maxRecDepth 100000 in
set_option maxHeartbeats 8000000 in
theorem z50 (hP:E.P=Tryd.prog)(hMi:∀ b,Mi b→M b){c bP:Nat}(hMb:M bP){S:Kp}(hS:∀ T w,IsJ E s a0 a1 a2 a3 N k bP k T→JKn E s y Mi w0 c bP w→RunM E S M o (zgo T cs) w){T:Array Value}(hT:IsG E s a0 a1 a2 a3 N k bP T)(w:World)(hK:JKn E s y Mi w0 c bP w): RunM E S M o (zx8 T cs) w:=by
 obtain ⟨v14,v19,v20,v21,v22,v23,v24,v25,v26,v29,v30,v31,v32,v33,v34,v35,v36,v37,v38,v39,v40,v41,v42,v43,v44,v45,v46,rfl,hv⟩:=hT
 simp only [zx8,ops9,LB11,r14,r15,tl10,tl9,LB19,tl16,zdf,Tryd.f19,Option.getD_some]
 show Run E.P true E.ty E.Wg true _ _ _ _ _
 rw [hP]
 refine zc0 60 ?_
 (refine Goes.step rfl (fun _ h₁=>?_);replace hK:=(JKn.relyW hMi hMb) hK h₁;clear h₁;rw [stepG_region_end];simp only [goes_go];refine ⟨d1_e,?_⟩)
 (refine Goes.step rfl (fun _ h₁=>?_);replace hK:=(JKn.relyW hMi hMb) hK h₁;clear h₁;rw [stepG_seq];simp only [goes_go];refine ⟨d1_e,?_⟩)
 (refine Goes.step rfl (fun _ h₁=>?_);replace hK:=(JKn.relyW hMi hMb) hK h₁;clear h₁;rw [stepG_seq];simp only [goes_go];refine ⟨d1_e,?_⟩)
 (refine Goes.step rfl (fun _ h₁=>?_);replace hK:=(JKn.relyW hMi hMb) hK h₁;clear h₁;rw [stepG_region];simp only [goes_go,List.size_toArray,List.length_cons,List.length_nil,Nat.reduceAdd,Nat.zero_add,List.range,List.range.loop];refine ⟨d1_e,?_⟩)
 (refine Goes.step rfl (fun _ h₁=>?_);replace hK:=(JKn.relyW hMi hMb) hK h₁;clear h₁;refine goes_oper_k rfl rfl (by k_ne) (fun K9 hK9=>?_);go_simp;refine hK9 _ _ ⟨?_,?_⟩;(focus (refine zaf ?_;intro e he;have hm:=mem_listed he;simp [go_sem, *] at hm));clear hK9 K9;try w_num)
 (refine Goes.step rfl (fun _ h₁=>?_);replace hK:=(JKn.relyW hMi hMb) hK h₁;clear h₁;refine goes_oper_k rfl rfl (by k_ne) (fun K9 hK9=>?_);go_simp;refine hK9 _ _ ⟨?_,?_⟩;(focus (refine zaf ?_;intro e he;have hm:=mem_listed he;simp [go_sem, *] at hm));clear hK9 K9;try w_num)
 (refine Goes.step rfl (fun _ h₁=>?_);replace hK:=(JKn.relyW hMi hMb) hK h₁;clear h₁;rw [stepG_region_end];simp only [goes_go];refine ⟨d1_e,?_⟩)
 (refine Goes.step rfl (fun _ h₁=>?_);replace hK:=(JKn.relyW hMi hMb) hK h₁;clear h₁;rw [stepG_block];simp only [goes_go];refine ⟨d1_e,?_⟩)
 (refine Goes.step rfl (fun _ h₁=>?_);replace hK:=(JKn.relyW hMi hMb) hK h₁;clear h₁;rw [stepG_loop];simp only [goes_go];refine ⟨d1_e,?_⟩)
 refine Goes.stop (fun w₃ h₃=>?_)
 replace hK:=hK.relyW hMi hMb h₃
 rw [← hP]
 refine hS _ _ ?_ hK
 refine ⟨_,_,_,_,_,_,_,_,_,_,_,_,_,_,_,_,_,_,_,_,_,_,_,_,_,_,_,rfl,?_⟩
 simp only [List.forall_mem_cons,List.not_mem_nil,false_implies,implies_true,and_true] at hv ⊢
 simp [hv,zee,zec,zco,zc5,zc6,zed,zcn]
theorem zvo (hP:E.P=Tryd.prog)(hty:E.ty=link.tWg)(hn:E.n=y.n)(hcG:y.cG=E.cG)(hcB:y.cB=E.cB)(hn64:y.n≤64)(hN4:N≤4)(hMl:∀ b,Mi b→b<w0.heap.size)(hpl:∀ k,E.pl k=zbu y.n k)(hst:∀ p a B w w₁,E.A p a B w→(∀ b,B b→w₁.heap[b]?=w.heap[b]?)→E.A p a B w₁)(hPe:zk9 E s y Mi w0){After:Kp}(hA:∀ M T w,(∀ b,Mi b→M b)→¬ M E.Wg→(∀ b,M b→b<w.heap.size)→IsH E s a0 a1 a2 a3 N N T→SKn E s y Mi w0 w→RunM E After M (fun _=>False) (zdq T cs) w):
  ∀ (m k:Nat),k+m=N→∀ (M:Nat→Prop) T w,(∀ b,Mi b→M b)→¬ M E.Wg→(∀ b,M b→b<w.heap.size)→IsH E s a0 a1 a2 a3 N k T→SKn E s y Mi w0 w→RunM E (zca E After m k) M (fun _=>False) (zdq T cs) w
 | 0,k,hk,M,T,w,hMi,hMW,hMs,hT,hK=>by
   obtain rfl:k=N:=by omega
   exact hA M T w hMi hMW hMs hT hK
 | m+1,k,hk,M,T,w,hMi,hMW,hMs,hT,hK=>by
   refine z3w hP hty hMi hMl hMW (by omega) hN4 hn64 (fun c bP w T hc hb hcb hMc hMb hMl2 hK hT=>?_) hT w ⟨hK,hMs⟩
   have hW:=hK.1.1.2
   have hcW:c≠E.Wg:=fun e=>by
    obtain ⟨st,sm,hl⟩:=hW
    unfold WgAt at hl
    rw [← e,hK.2.1] at hl
    cases hl
   have hbW:bP≠E.Wg:=fun e=>by
    obtain ⟨st,sm,hl⟩:=hW
    have h1:=hl.cellSt
    have h2:=hK.2.2
    rw [e] at h2
    rw [show (⟨E.Wg,0,none⟩:Addr)=stA E.Wg from rfl] at h2
    rw [h2] at h1
    cases h1
   refine z3v hP hty hn.symm hcG hcB hMi hMW hst hPe (l:=E.pl k) (fun p hp=>by rw [hpl] at hp;exact zlm _ k (Nat.le_refl _) p hp) hcb hMc hMb hT (fun w1 T hT hs1 hK1=>?_) w hMl2 hK
   rw [hpl]
   have hK2:JKn E s y Mi w1 c bP w1:=⟨⟨⟨.refl _ _,hK1.1.1.2⟩,hK1.1.2⟩,hK1.2⟩
   refine z50 (w0:=w1) hP (fun b hb=>.inl (hMi b hb)) (.inr rfl) (fun T w hT hK=>?_) hT w1 hK2
   refine z08 (w0:=w1) hP hn hn64 hN4 (by omega) (fun b hb=>.inl (hMi b hb)) (.inr rfl) (fun h=>h.elim hMc hcb) hcW (fun T w hT hK=>?_) y.n k (by omega) T w hT hK
   exact zvo hP hty hn hcG hcB hn64 hN4 hMl hpl hst hPe hA m (k+1) (by omega) _ T w (fun b hb=>.inl (hMi b hb)) (fun h=>h.elim hMW (fun e=>hbW e.symm)) (fun b hb=>Nat.lt_of_lt_of_le (hs1 b hb) hK.1.1.size) hT ⟨⟨hK1.1.1.1.trans hK.1.1,hK.1.2⟩,hK.2⟩
end
end
end Go.Proofs.YtelgmbomkojmaaaDoor
