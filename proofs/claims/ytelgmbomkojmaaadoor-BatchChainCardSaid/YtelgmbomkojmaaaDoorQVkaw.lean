/- A pack: Vk. -/
import Derived.Test.YtelgmbomkojmaaaDoorQVjav
namespace Go.Proofs.YtelgmbomkojmaaaDoor
set_option linter.all false
set_option maxRecDepth 100000
section
open Go.Conc Go.ConcN Go.ConcN.Gen Go.RowKit Go.Conc.Lib Go.ConcR.Gen
open Go.ConcR (KK wgBlock WgAt stA smA rd wr Payload DC0)
def zbu (n:Nat)(j:Nat): List Nat:=if j<n then j :: zbu n (j+4) else []
termination_by n - j
theorem zgx {n j:Nat}(h:j<n): zbu n j=j :: zbu n (j+4):=by rw [zbu,if_pos h]
theorem zgy {n j:Nat}(h:¬ j<n): zbu n j=[]:=by rw [zbu,if_neg h]
theorem zlm {n:Nat}: ∀ (m j:Nat),n - j≤m→∀ p∈zbu n j,p<n
 | m,j,hm,p,hp=>by
   by_cases h:j<n
   ·rw [zgx h] at hp
    rcases List.mem_cons.1 hp with rfl|hp
    ·exact h
    ·cases m with
     | zero=>omega
     | succ m=>exact zlm m (j+4) (by omega) p hp
   ·rw [zgy h] at hp;cases hp
noncomputable def tl10:Code:=match tl9 with|.seq _ c=>c|_=>.skip
noncomputable def ops9:Array Oper:=match tl9 with|.seq (.region _ o _) _=>o|_=>#[]
noncomputable def LB11:Code:=match tl10 with|.seq (.seq _ (.block _ (.loop c))) _=>c|_=>.skip
noncomputable def r14:Code:=match tl10 with|.seq _ c=>c|_=>.skip
noncomputable def zx8 (T:Array Value)(cs:List Frame): Goroutine:=G ((base 19).at ⟨T,[]⟩ [.inRegion ops9 [],.code tl10,.inBlock 1,.code r15,.inLoop LB19,.inBlock 0,.code tl16]) cs
noncomputable def zgo (T:Array Value)(cs:List Frame): Goroutine:=G ((base 19).at ⟨T,[]⟩ [.code LB11,.inLoop LB11,.inBlock 2,.code r14,.inBlock 1,.code r15,.inLoop LB19,.inBlock 0,.code tl16]) cs
def IsJ (E:zar)(s:SBx)(a0 a1 a2 a3:Value)(N k bP j:Nat)(T:Array Value): Prop:=∃ v12 v19 v20 v21 v22 v23 v24 v25 v26 v29 v30 v31 v32 v33 v34 v35 v36 v37 v38 v39 v40 v41 v42 v43 v44 v45 v46:Value,T=#[a0,a1,a2,a3,.pointer (some ⟨s.b4,0,none⟩),.pointer (some ⟨s.b5,0,none⟩),.pointer (some ⟨s.b6,0,none⟩),.pointer (some ⟨s.b7,0,none⟩),.slice none 0 0,.pointer (some ⟨s.b9,0,none⟩),.pointer (some ⟨s.b10,0,none⟩),.pointer (some ⟨E.Wg,0,none⟩),v12,.pointer (some ⟨bP,0,none⟩),.int .i64 j,undef,undef,undef,undef,v19,v20,v21,v22,v23,v24,v25,v26,.int .i64 N,.int .i64 k,v29,v30,v31,v32,v33,v34,v35,v36,v37,v38,v39,v40,v41,v42,v43,v44,v45,v46,undef,undef,undef,undef,undef,undef,undef,undef,undef,undef,undef,undef,undef,undef,undef,undef,undef,undef,undef,undef]∧∀ v∈[v12,v19,v20,v21,v22,v23,v24,v25,v26,v30,v31,v32,v33,v34,v35,v36,v37,v38,v39,v41,v42,v43,v44,v45,v46],Tame v
section
variable {E:zar} {s:SBx} {y:WIn} {Mi M o:Nat→Prop} {w0:World} {a0 a1 a2 a3:Value} {N k:Nat} {cs:List Frame}
def JKn (E:zar)(s:SBx)(y:WIn)(Mi:Nat→Prop)(w0:World)(c bP:Nat)(w:World): Prop:=SKn E s y Mi w0 w∧w.cell? ⟨bP,0,none⟩=some (.chan (some c))
theorem JKn.relyW {c bP:Nat}(hMi:∀ b,Mi b→M b)(hb:M bP){w w₁:World}(h:JKn E s y Mi w0 c bP w)(r:Oth E.ty E.Wg M w w₁): JKn E s y Mi w0 c bP w₁:=⟨h.1.relyW hMi r,(zbf r hb).trans h.2⟩
def zk9 (E:zar)(s:SBx)(y:WIn)(Mi:Nat→Prop)(w0:World): Prop:=∀ (c bP:Nat) (M':Nat→Prop) (w:World),(∀ b,Mi b→M' b)→Kn E Mi w0 w→¬ M' E.Wg→(∀ b,M' b→b<w.heap.size)→∀ p,p<y.n→z0z E (s.wk E.Wg bP) { y with c:=c } M' w p
set_option maxRecDepth 100000 in
set_option maxHeartbeats 8000000 in
theorem z3v (hP:E.P=Tryd.prog)(hty:E.ty=link.tWg)(hn:y.n=E.n)(hcG:y.cG=E.cG)(hcB:y.cB=E.cB)(hMi:∀ b,Mi b→M b)(hMW:¬ M E.Wg)(hst:∀ p a B w w₁,E.A p a B w→(∀ b,B b→w₁.heap[b]?=w.heap[b]?)→E.A p a B w₁)(hPe:zk9 E s y Mi w0){l:List Nat}(hl:∀ p∈l,p<y.n){c bP:Nat}(hcb:c≠bP)(hMc:¬ M c)(hMb:¬ M bP){Next:Nat→Kp}{T:Array Value}(hT:IsG E s a0 a1 a2 a3 N k bP T)(hN:∀ w T,IsG E s a0 a1 a2 a3 N k bP T→(∀ b,M b∨b=bP→b<w.heap.size)→JKn E s y Mi w0 c bP w→RunM E (Next c) (fun b=>M b∨b=bP) (fun _=>False) (zx8 T cs) w)(w:World)(hMl:∀ b,(M b∨b=c)∨b=bP→b<w.heap.size)(hK:RKn E s y Mi w0 c bP w): RunM E (MGo E l Next) (fun b=>(M b∨b=c)∨b=bP) (fun b=>(o b∨b=c)∨b=bP) (atGo T cs) w:=by
 obtain ⟨v14,v19,v20,v21,v22,v23,v24,v25,v26,v29,v30,v31,v32,v33,v34,v35,v36,v37,v38,v39,v40,v41,v42,v43,v44,v45,v46,rfl,hv⟩:=hT
 simp only [atGo,tl9,r15,LB19,tl16,zdf,Tryd.f19,Option.getD_some]
 have hMib:∀ b,Mi b→(M b∨b=c)∨b=bP:=fun b hb=>.inl (.inl (hMi b hb))
 have rel4:∀ {w w₁:World},(RKn E s y Mi w0 c bP w∧∀ b,(M b∨b=c)∨b=bP→b<w.heap.size)→Oth E.ty E.Wg (fun b=>(M b∨b=c)∨b=bP) w w₁→(RKn E s y Mi w0 c bP w₁∧∀ b,(M b∨b=c)∨b=bP→b<w₁.heap.size) :=
  fun h r=>⟨h.1.relyW hMib (.inl (.inr rfl)) (.inr rfl) r,fun b hb=>Nat.lt_of_lt_of_le (h.2 b hb) r.size⟩
 replace hK:RKn E s y Mi w0 c bP w∧∀ b,(M b∨b=c)∨b=bP→b<w.heap.size:=⟨hK,hMl⟩
 clear hMl
 show Run E.P true E.ty E.Wg true _ _ _ _ _
 rw [hP]
 refine zqo 60 ?_
 have hmf:∀ (fn:Fn) (first cap:Array Value) (w:World) (es:Array Event),(Instr.makeFunc fn first cap).events Tryd.prog w es=es:=fun _ _ _ _ _=>rfl
 (refine Goes.step rfl (fun _ h₁=>?_);replace hK:=rel4 hK h₁;clear h₁;rw [stepG_seq];simp only [goes_go];refine ⟨d1_e,?_⟩)
 (refine Goes.step rfl (fun _ h₁=>?_);replace hK:=rel4 hK h₁;clear h₁;rw [stepG_region];simp only [goes_go,List.size_toArray,List.length_cons,List.length_nil,Nat.reduceAdd,Nat.zero_add,List.range,List.range.loop];refine ⟨d1_e,?_⟩)
 (refine Goes.step rfl (fun _ h₁=>?_);replace hK:=rel4 hK h₁;clear h₁;refine goes_oper_k rfl rfl (by k_ne) (fun K9 hK9=>?_);go_simp;refine hK9 _ _ ⟨?_,?_⟩;(focus (refine zaf ?_;intro e he;have hm:=mem_listed he;simp [go_sem, *] at hm));clear hK9 K9;try w_num)
 walk_nrm
 refine Goes.stop (fun w₁ h₁=>?_)
 replace hK:=rel4 hK h₁
 clear h₁
 have hbW:bP≠E.Wg:=fun e=>by
  obtain ⟨st,sm,hl⟩:=hK.1.1.1.2
  have h1:=hl.cellSt
  have h2:=hK.1.2.2
  rw [e] at h2
  rw [show (⟨E.Wg,0,none⟩:Addr)=stA E.Wg from rfl] at h2
  rw [h2] at h1
  cases h1
 refine ⟨rfl,c,_,born Tryd.prog (call30 (s.wk E.Wg bP)),fun b=>M b∨b=bP,fun _=>False,fun b=>M b∨b=bP,fun _=>False,(by rw [hP];exact (stepG_spawn (d:=call30 (s.wk E.Wg bP)) (w':=w₁) rfl rfl (by k_ne) (by simp [go_sem,call30,zey.ptrs,SBx.wk]) rfl).trans (congrArg (fun es=>GStep.spawn _ _ _ es) (by simp [listed,go_sem,seen,Deferred.ofValue];try rfl))),by rw [hK.1.2.1,hn],.inl (.inr rfl),fun h=>h.elim hMc hcb,fun h=>h.elim hMc hcb,
  fun b hb=>hb.elim (fun x=>.inl (.inl x)) .inr,fun b hb=>hb.elim,fun b hb=>hb.elim (fun x=>.inl (.inl x)) .inr,fun b hb=>hb.elim,fun b hb=>hb.elim,fun b hb=>hb.elim,?_,?_⟩
 ·refine z4r (x:=s.wk E.Wg bP) (y:={ y with c:=c }) (w0:=w₁) hP hty rfl hcB hcG (fun h=>h.elim hMW (fun e=>hbW e.symm)) (fun b hb=>hK.2 b (hb.elim (fun x=>.inl (.inl x)) .inr)) hst (fun p hp=>hPe c bP _ w₁ (fun b hb=>.inl (hMi b hb)) hK.1.1.1 (fun h=>h.elim hMW (fun e=>hbW e.symm)) (fun b hb=>hK.2 b (hb.elim (fun x=>.inl (.inl x)) .inr)) p hp) l hl w₁ ?_
  have h:=hK.1.1.2
  exact ⟨⟨.refl _ _,hK.1.1.1.2⟩,.inr rfl,.inl (hMi _ h.mS),.inl (hMi _ h.mH),.inl (hMi _ h.mK),.inl (hMi _ h.mL),.inl (hMi _ h.mB),.inl (hMi _ h.mG),fun hp=>.inl (hMi _ (h.mR hp)),hK.1.2.2,h.fS,h.fH,h.fK,h.fL,h.fA,h.fB,h.fG,h.fR⟩
 ·refine hN w₁ _ ?_ (fun b hb=>hK.2 b (hb.elim (fun x=>.inl (.inl x)) .inr)) ⟨hK.1.1,hK.1.2.2⟩
  refine ⟨_,_,_,_,_,_,_,_,_,_,_,_,_,_,_,_,_,_,_,_,_,_,_,_,_,_,_,rfl,?_⟩
  simp only [List.forall_mem_cons,List.not_mem_nil,false_implies,implies_true,and_true] at hv ⊢
  simp [hv,zee,zec,zco,zc5,zc6,zed,zcn]
end
end
end Go.Proofs.YtelgmbomkojmaaaDoor
