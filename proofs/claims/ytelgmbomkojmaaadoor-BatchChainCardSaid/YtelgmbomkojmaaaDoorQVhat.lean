/- A pack: Vh. -/
import Derived.Test.YtelgmbomkojmaaaDoorQVgas
namespace Go.Proofs.YtelgmbomkojmaaaDoor
set_option linter.all false
set_option maxRecDepth 100000
section
open Go.Conc Go.ConcN Go.ConcN.Gen Go.RowKit Go.Conc.Lib Go.ConcR.Gen
open Go.ConcR (KK wgBlock WgAt stA smA rd wr Payload DC0)
section
variable {P:Program} {main:Bool} {ty:TypeId} {Wg:Nat} {ld:Bool} {Stop:(Nat→Prop)→(Nat→Prop)→Goroutine→World→Prop} {M o:Nat→Prop}
theorem zjl {b:Frame}{a:Act}{ops:Array Oper}{i:Nat}{rest:List Nat}{k:List Item}{cs:List Frame}{w:World}{oi:Oper}{f:FuncId}{fn:Func}{args:Array Operand}{ats:Array TypeId}(ho:ops[i]?=some oi)(hw:Region.wanted oi (yielded ops a.tmps)=true)(hk:b.kind≠.early)(hop:oi.op=.call { callee:=.value (.func f),args,argTypes:=ats })(hf:P.funcs[f]?=some fn)(hname:(fn.name == "runtime.NumGoroutine")=false)(hb:fn.body.isNone=false)(h:∀ w₁,Oth ty Wg M w w₁→Run P main ty Wg ld Stop M o (G (Frame.enter P f (args.map a.eval) .normal) (b.at a (.inRegion ops (i :: rest) :: k) :: cs)) w₁): Run P main ty Wg ld Stop M o (G (b.at a (.inRegion ops (i :: rest) :: k)) cs) w :=
 Run.step0 rfl fun w₁ h₁=>by
  refine ⟨_,w₁,#[],?_,⟨rfl,rfl,rfl,rfl⟩,fun e he=>by simp at he,h w₁ h₁⟩
  rw [stepG_enter ho hw hk (run_call_body hop hf hname hb)]
  have:listed P b.fn a oi w₁=#[]:=by unfold listed;rw [events_call_body hop hf hname hb];exact seen_none P _
  rw [this]
theorem zvm {fr:Frame}{b:Frame}{a:Act}{ops:Array Oper}{i:Nat}{rest:List Nat}{k:List Item}{cs:List Frame}{w:World}{oi:Oper}{fn:Func}{v:Value}(ho:ops[i]?=some oi)(hm:fr.mode=.returning)(hd:fr.defers=[])(hk:fr.kind=.normal)(hf:P.funcs[fr.fn]?=some fn)(hr:∀ w,(results fn fr.tmps).run P w=.ok v w∧(results fn fr.tmps).events P w #[]=#[])(h:∀ w₁,Oth ty Wg M w w₁→Run P main ty Wg ld Stop M o (G (b.at (a.put oi.dst v) (.inRegion ops rest :: k)) cs) w₁): Run P main ty Wg ld Stop M o (G fr (b.at a (.inRegion ops (i :: rest) :: k) :: cs)) w :=
 Run.step0 rfl fun w₁ h₁=>by
  refine ⟨_,w₁,#[],?_,⟨rfl,rfl,rfl,rfl⟩,fun e he=>by simp at he,h w₁ h₁⟩
  have hfin:(b.at a (.inRegion ops (i :: rest) :: k)).finish v=b.at (a.put oi.dst v) (.inRegion ops rest :: k):=by rw [Frame.finish_at,ho];rfl
  rw [← hfin]
  simp [G,stepG,unwind,doReturn,hm,hd,hk,hf,(hr w₁).1,(hr w₁).2,seen,GStep.after]
end
def zyi (E:zar)(p:Nat)(S:Nat→Prop)(fr:Frame)(w:World): Prop:=∃ oa on oc ka kn kc e fn,fr.mode=.returning∧fr.defers=[]∧fr.kind=.normal∧E.P.funcs[fr.fn]?=some fn ∧
 (∀ w,(results fn fr.tmps).run E.P w=.ok (.tuple #[.slice oa on oc,.slice ka kn kc,.int .i64 e]) w∧(results fn fr.tmps).events E.P w #[]=#[])∧E.A p (if e=0 then .good (oa,on,oc) (ka,kn,kc) else .bad) S w
def z0z (E:zar)(x:zey)(y:WIn)(M:Nat→Prop)(w0:World)(p:Nat): Prop:=∀ (cs:List Frame) w,WKn E x y M w0 w →
 RunW E (fun M2 o2 g w2=>∃ S fr,(M2=fun b=>M b∨S b)∧o2=S∧(∀ b,S b→w.heap.size≤b)∧g=G fr cs∧Oth E.ty E.Wg M w w2∧zyi E p S fr w2) M (fun _=>False) (G (Frame.enter E.P 15 #[y.server,.int .i64 y.hop,.int .i64 y.hops,y.part p] .normal) cs) w
section
variable {E:zar} {x:zey} {y:WIn} {M o:Nat→Prop} {w0:World}
theorem zrm (T:Array Value)(hT:IsT x y T)(w:World): stepG Tryd.prog false (zf7 x T) w=.comm (zf7 x T) #[rcase y.c zP] true (.recv true) w #[]:=by
 obtain ⟨v8,v9,v10,v11,v13,v14,v15,v16,v17,v18,v19,v20,v21,v22,v23,v24,v25,v26,v27,v28,v29,v30,v31,v32,v33,v34,v35,v36,rfl⟩:=hT
 simp only [zf7,ops2,tl2,LB30,zk2,Tryd.f30,Option.getD_some]
 rw [stepG_comm (cases:=#[rcase y.c zP]) (blocking:=true) (shape:=.recv true) (w':=w) rfl rfl (by decide) (by simp [go_sem,rcase,zP])]
 simp [listed,go_sem,seen]
set_option maxRecDepth 100000 in
set_option maxHeartbeats 4000000 in
theorem endW (hP:E.P=Tryd.prog)(hty:E.ty=link.tWg)(hx:x.Wg=E.Wg)(hM:¬ M E.Wg){T:Array Value}(hT:IsT x y T)(w:World)(hK:WKn E x y M w0 w): RunW E (WR0 E) M o (Go.Conc.served (zf7 x T) (recvd true zP false)) w:=by
 obtain ⟨v8,v9,v10,v11,v13,v14,v15,v16,v17,v18,v19,v20,v21,v22,v23,v24,v25,v26,v27,v28,v29,v30,v31,v32,v33,v34,v35,v36,rfl⟩:=hT
 simp only [zf7,served_G,ops2,tl2,LB30,zk2,Tryd.f30,Option.getD_some,recvd,if_true]
 walk_nrm
 have H:WgLib E.P link:=hP ▸ zup
 show Run E.P false E.ty E.Wg true (WR0 E) M o _ _
 rw [hP]
 refine zc0 40 ?_
 (refine Goes.step rfl (fun _ h₁=>?_);replace hK:=WKn.rely hK h₁;clear h₁;refine goes_oper_k rfl rfl (by k_ne) (fun K9 hK9=>?_);go_simp;refine hK9 _ _ ⟨?_,?_⟩;(focus (refine zaf ?_;intro e he;have hm:=mem_listed he;simp [go_sem, *] at hm));clear hK9 K9;try w_num)
 (refine Goes.step rfl (fun _ h₁=>?_);replace hK:=WKn.rely hK h₁;clear h₁;rw [stepG_region_end];simp only [goes_go];refine ⟨d1_e,?_⟩)
 (refine Goes.step rfl (fun _ h₁=>?_);replace hK:=WKn.rely hK h₁;clear h₁;rw [stepG_seq];simp only [goes_go];refine ⟨d1_e,?_⟩)
 (refine Goes.step rfl (fun _ h₁=>?_);replace hK:=WKn.rely hK h₁;clear h₁;rw [stepG_cond (t:=false) rfl];simp only [goes_go,if_true,if_false,Bool.false_eq_true,↓reduceIte];refine ⟨d1_e,?_⟩)
 (refine Goes.step rfl (fun _ h₁=>?_);replace hK:=WKn.rely hK h₁;clear h₁;refine goes_exit rfl ?_;refine ⟨d1_e,?_⟩)
 (refine Goes.step rfl (fun _ h₁=>?_);replace hK:=WKn.rely hK h₁;clear h₁;rw [stepG_end];simp only [goes_go];refine ⟨d1_e,?_⟩)
 (refine Goes.step rfl (fun _ h₁=>?_);replace hK:=WKn.rely hK h₁;clear h₁)
 rw [stepG_unwind_enter rfl Tryd.func31 (by kernel_rfl) rfl]
 simp only [goes_go]
 refine ⟨by (refine zaf ?_;intro e he;simp at he),?_⟩
 refine Goes.stop (fun w₁ h₁=>?_)
 rw [← hP,hx]
 have hd:=@z55 E link M o H hty hM
 simp only [body_done,doneFn,Option.getD_some,link] at hd
 refine hd rfl (hP ▸ zvv _) w₁ (hK.rely h₁).1
set_option maxRecDepth 100000 in
set_option maxHeartbeats 16000000 in
theorem z3u (hP:E.P=Tryd.prog)(hB:y.cB=E.cB)(hG:y.cG=E.cG)(hMk:∀ b,M b→b<w0.heap.size)(hst:∀ p a B w w₁,E.A p a B w→(∀ b,B b→w₁.heap[b]?=w.heap[b]?)→E.A p a B w₁){p:Nat}(hp:p<y.n)(hPe:z0z E x y M w0 p){Next:Kp}(hN:∀ T w,IsT x y T→WKn E x y M w0 w→Next M (fun _=>False) (zf7 x T) w){T:Array Value}(hT:IsT x y T)(w:World)(hK:WKn E x y M w0 w):
  RunW E (WAns E p Next) M (fun _=>False) (Go.Conc.served (zf7 x T) (recvd true (.int .i64 p) true)) w:=by
 obtain ⟨v8,v9,v10,v11,v13,v14,v15,v16,v17,v18,v19,v20,v21,v22,v23,v24,v25,v26,v27,v28,v29,v30,v31,v32,v33,v34,v35,v36,rfl⟩:=hT
 have hpn:(p:Int)<(y.n:Int):=by omega
 have hp0:(0:Int)≤(p:Int):=by omega
 simp only [zf7,served_G,ops2,tl2,LB30,zk2,Tryd.f30,Option.getD_some,recvd,if_true]
 walk_nrm
 show Run E.P false E.ty E.Wg true _ M _ _ _
 rw [hP]
 refine zc0 60 ?_
 (refine Goes.step rfl (fun _ h₁=>?_);replace hK:=WKn.rely hK h₁;clear h₁;refine goes_oper_k rfl rfl (by k_ne) (fun K9 hK9=>?_);go_simp;refine hK9 _ _ ⟨?_,?_⟩;(focus (refine zaf ?_;intro e he;have hm:=mem_listed he;simp [go_sem, *] at hm));clear hK9 K9;try w_num)
 (refine Goes.step rfl (fun _ h₁=>?_);replace hK:=WKn.rely hK h₁;clear h₁;rw [stepG_region_end];simp only [goes_go];refine ⟨d1_e,?_⟩)
 (refine Goes.step rfl (fun _ h₁=>?_);replace hK:=WKn.rely hK h₁;clear h₁;rw [stepG_seq];simp only [goes_go];refine ⟨d1_e,?_⟩)
 (refine Goes.step rfl (fun _ h₁=>?_);replace hK:=WKn.rely hK h₁;clear h₁;rw [stepG_cond (t:=true) rfl];simp only [goes_go,if_true,if_false,Bool.false_eq_true,↓reduceIte];refine ⟨d1_e,?_⟩)
 (refine Goes.step rfl (fun _ h₁=>?_);replace hK:=WKn.rely hK h₁;clear h₁;rw [stepG_skip];simp only [goes_go];refine ⟨d1_e,?_⟩)
 (refine Goes.step rfl (fun _ h₁=>?_);replace hK:=WKn.rely hK h₁;clear h₁;rw [stepG_block];simp only [goes_go];refine ⟨d1_e,?_⟩)
 (refine Goes.step rfl (fun _ h₁=>?_);replace hK:=WKn.rely hK h₁;clear h₁;rw [stepG_seq];simp only [goes_go];refine ⟨d1_e,?_⟩)
 (refine Goes.step rfl (fun _ h₁=>?_);replace hK:=WKn.rely hK h₁;clear h₁;rw [stepG_region];simp only [goes_go,List.size_toArray,List.length_cons,List.length_nil,Nat.reduceAdd,Nat.zero_add,List.range,List.range.loop];refine ⟨d1_e,?_⟩)
 (refine Goes.step rfl (fun _ h₁=>?_);replace hK:=WKn.rely hK h₁;clear h₁;refine goes_oper_k rfl rfl (by k_ne) (fun K9 hK9=>?_);go_simp;refine hK9 _ _ ⟨?_,?_⟩;(focus (refine zaf ?_;intro e he;have hm:=mem_listed he;simp [go_sem, *] at hm));clear hK9 K9;try w_num)
 (refine Goes.step rfl (fun _ h₁=>?_);replace hK:=WKn.rely hK h₁;clear h₁;refine goes_oper_k rfl rfl (by k_ne) (fun K9 hK9=>?_);go_simp;refine hK9 _ _ ⟨?_,?_⟩;(focus (refine zaf ?_;intro e he;have hm:=mem_listed he;simp [go_sem, *] at hm));clear hK9 K9;try w_num)
 (refine Goes.step rfl (fun _ h₁=>?_);replace hK:=WKn.rely hK h₁;clear h₁;rw [stepG_region_end];simp only [goes_go];refine ⟨d1_e,?_⟩)
 (refine Goes.step rfl (fun _ h₁=>?_);replace hK:=WKn.rely hK h₁;clear h₁;rw [stepG_seq];simp only [goes_go];refine ⟨d1_e,?_⟩)
 refine Goes.stop (fun w₁ h₁=>?_)
 replace hK:=hK.rely h₁
 clear h₁
 refine zy4 (S:=WKn E x y M w0) (by kernel_rfl) (fun _ _ h r=>h.rely r) hK (fun t w1 hK1=>?_)
 have hPe':∀ cs w,WKn E x y M w0 w→Run Tryd.prog false E.ty E.Wg true (fun M2 o2 g w2=>∃ S fr,(M2=fun b=>M b∨S b)∧o2=S∧(∀ b,S b→w.heap.size≤b)∧g=G fr cs∧Oth E.ty E.Wg M w w2∧zyi E p S fr w2) M (fun _=>False) (G (Frame.enter Tryd.prog 15 #[y.server,.int .i64 y.hop,.int .i64 y.hops,y.part p] .normal) cs) w:=fun cs w h=>by
  have:=hPe cs w h
  unfold RunW at this
  rwa [hP] at this
 have rely2:∀ {o2:Nat→Prop} {an:Ans} {w w₁:World},WKn E x y M w0 w∧E.A p an o2 w→Oth E.ty E.Wg (fun b=>M b∨o2 b) w w₁→WKn E x y M w0 w₁∧E.A p an o2 w₁:=fun h r=>⟨h.1.rely (r.weak fun b hb=>.inl hb),hst _ _ _ _ _ h.2 fun b hb=>r.keep b (.inr hb)⟩
 refine zsg (n:=7) (L0:=#[true,true,true,true,true,true,true,false,false,false,false,false,false,false,false]) (D:=D1 true M (fun _=>False)) (S:=WKn E x y M w0) (K:=fun a=>∃ q,a=⟨#[.pointer (some ⟨x.Wg,0,none⟩),.pointer (some ⟨x.bP,0,none⟩),.pointer (some ⟨x.bS,0,none⟩),.pointer (some ⟨x.bH,0,none⟩),.pointer (some ⟨x.bK,0,none⟩),.pointer (some ⟨x.bL,0,none⟩),.pointer (some ⟨x.bB,0,none⟩),.pointer (some ⟨x.bG,0,none⟩),.int .i64 p,v9,v10,v11,.chan (some y.c),.tuple #[.int .i64 p,.bool true],.bool true,.int .i64 p,v16,y.server,.int .i64 y.hop,.int .i64 y.hops,.slice (some ⟨y.bR,y.oR,none⟩) y.n y.cap,.int .i64 p,q,y.part p,v24,v25,v26,v27,v28,v29,v30,v31,v32,v33,v34,v35,v36],[z28 x]⟩)
  rfl (by k_ne) (fun w es h e he=>h.2 e he) (fun _ _ h r=>h.rely r) _ _ 15 t ?any (by decide) ?leaf w1 hK1
 case any =>
  co_applyP zbg (i:=0) (by simp only [List.getElem?_toArray,List.getElem?_cons_succ,List.getElem?_cons_zero];rfl) (by kernel_rfl) (by kernel_rfl) (by kernel_rfl) (by kernel_rfl) (by kernel_rfl) (by rfl) (fun w hw=>⟨run_eq_of ?run2,?guar2⟩) ?rest2
  case run2 =>
   intro K9 hK9
   (have hx:=hw.2.fS)
   go_simp
   exact hK9
  case guar2 =>
   (have hx:=hw.2.fS)
   refine ⟨rfl,fun e he=>?_⟩
   have he2:=mem_listed he
   (simp [go_sem, *] at he2;subst he2;exact ⟨rfl,za0 hw.2.mS⟩)
  walk_nrm
  co_applyP zbg (i:=1) (by simp only [List.getElem?_toArray,List.getElem?_cons_succ,List.getElem?_cons_zero];rfl) (by kernel_rfl) (by kernel_rfl) (by kernel_rfl) (by kernel_rfl) (by kernel_rfl) (by rfl) (fun w hw=>⟨run_eq_of ?run3,?guar3⟩) ?rest3
  case run3 =>
   intro K9 hK9
   (have hx:=hw.2.fH)
   go_simp
   exact hK9
  case guar3 =>
   (have hx:=hw.2.fH)
   refine ⟨rfl,fun e he=>?_⟩
   have he2:=mem_listed he
   (simp [go_sem, *] at he2;subst he2;exact ⟨rfl,za0 hw.2.mH⟩)
  walk_nrm
  co_applyP zbg (i:=2) (by simp only [List.getElem?_toArray,List.getElem?_cons_succ,List.getElem?_cons_zero];rfl) (by kernel_rfl) (by kernel_rfl) (by kernel_rfl) (by kernel_rfl) (by kernel_rfl) (by rfl) (fun w hw=>⟨run_eq_of ?run4,?guar4⟩) ?rest4
  case run4 =>
   intro K9 hK9
   (have hx:=hw.2.fK)
   go_simp
   exact hK9
  case guar4 =>
   (have hx:=hw.2.fK)
   refine ⟨rfl,fun e he=>?_⟩
   have he2:=mem_listed he
   (simp [go_sem, *] at he2;subst he2;exact ⟨rfl,za0 hw.2.mK⟩)
  walk_nrm
  co_applyP zbg (i:=3) (by simp only [List.getElem?_toArray,List.getElem?_cons_succ,List.getElem?_cons_zero];rfl) (by kernel_rfl) (by kernel_rfl) (by kernel_rfl) (by kernel_rfl) (by kernel_rfl) (by rfl) (fun w hw=>⟨run_eq_of ?run5,?guar5⟩) ?rest5
  case run5 =>
   intro K9 hK9
   (have hx:=hw.2.fL;rw [hw.2.fA (by omega)] at hx)
   go_simp
   exact hK9
  case guar5 =>
   (have hx:=hw.2.fL;rw [hw.2.fA (by omega)] at hx)
   refine ⟨rfl,fun e he=>?_⟩
   have he2:=mem_listed he
   (simp [go_sem, *] at he2;subst he2;exact ⟨rfl,za0 hw.2.mL⟩)
  walk_nrm
  co_applyP zbg (i:=4) (by simp only [List.getElem?_toArray,List.getElem?_cons_succ,List.getElem?_cons_zero];rfl) (by kernel_rfl) (by kernel_rfl) (by kernel_rfl) (by kernel_rfl) (by kernel_rfl) (by rfl) (fun w hw=>⟨run_eq_of ?run6,?guar6⟩) ?rest6
  case run6 =>
   intro K9 hK9
   (skip)
   go_simp
   exact hK9
  case guar6 =>
   (skip)
   refine ⟨rfl,fun e he=>?_⟩
   have he2:=mem_listed he
   (simp [go_sem, *] at he2)
  walk_nrm
  co_applyP zbg (i:=5) (by simp only [List.getElem?_toArray,List.getElem?_cons_succ,List.getElem?_cons_zero];rfl) (by kernel_rfl) (by kernel_rfl) (by kernel_rfl) (by kernel_rfl) (by kernel_rfl) (by rfl) (fun w hw=>⟨run_eq_of ?run7,?guar7⟩) ?rest7
  case run7 =>
   intro K9 hK9
   (have hx:=hpn)
   go_simp
   exact hK9
  case guar7 =>
   (have hx:=hpn)
   refine ⟨rfl,fun e he=>?_⟩
   have he2:=mem_listed he
   (simp [go_sem, *] at he2)
  walk_nrm
  co_applyP zbg (i:=6) (by simp only [List.getElem?_toArray,List.getElem?_cons_succ,List.getElem?_cons_zero];rfl) (by kernel_rfl) (by kernel_rfl) (by kernel_rfl) (by kernel_rfl) (by kernel_rfl) (by rfl) (fun w hw=>⟨run_eq_of ?run8,?guar8⟩) ?rest8
  case run8 =>
   intro K9 hK9
   (have hx:=hw.2.fR p hp)
   go_simp
   exact hK9
  case guar8 =>
   (have hx:=hw.2.fR p hp)
   refine ⟨rfl,fun e he=>?_⟩
   have he2:=mem_listed he
   (simp [go_sem, *] at he2;subst he2;exact ⟨rfl,za0 (hw.2.mR (by omega))⟩)
  walk_nrm
  exact ⟨by kernel_rfl,_,rfl⟩
 case leaf =>
  intro a t w2 ha hK
  obtain ⟨q,rfl⟩:=ha
  rw [show (15 - 7:Nat)=7+1 from rfl,zm6 (c:=7) (by kernel_rfl)]
  refine zjl (i:=7) (by simp only [List.getElem?_toArray,List.getElem?_cons_succ,List.getElem?_cons_zero];rfl) (by rfl) (by k_ne) rfl Tryd.func15 (by kernel_rfl) rfl (fun w3 h3=>?_)
  replace hK:=hK.rely h3
  clear h3
  walk_nrm
  refine Run.bind (hPe' _ w3 hK) (fun M2 o2 g w4 hh=>?_)
  obtain ⟨S,fr,rfl,rfl,hS,rfl,hO,oa,on,oc,ka,kn,kc,e,fn,hm,hd,hk,hf,hr,hA⟩:=hh
  rw [hP] at hf hr
  have hsz:=hK.1.1.size
  have hSM:∀ b,o2 b→¬ M b:=fun b hb hb2=>by have:=hS b hb;have:=hMk b hb2;omega
  refine zvm (i:=7) (by simp only [List.getElem?_toArray,List.getElem?_cons_succ,List.getElem?_cons_zero];rfl) hm hd hk hf hr (fun w5 h5=>?_)
  have hB5:WKn E x y M w0 w5∧E.A p (if e=0 then .good (oa,on,oc) (ka,kn,kc) else .bad) o2 w5:=⟨(hK.rely hO).rely (h5.weak fun b hb=>.inl hb),hst _ _ _ _ _ hA fun b hb=>h5.keep b (.inr hb)⟩
  walk_nrm
  refine zsg (n:=7) (L0:=#[true,true,true,true,true,true,true,true,true,true,true,true,true,true,true]) (D:=D1 true (fun b=>M b∨o2 b) o2) (S:=fun w=>WKn E x y M w0 w∧E.A p (if e=0 then .good (oa,on,oc) (ka,kn,kc) else .bad) o2 w) (K:=fun a=>a=⟨#[.pointer (some ⟨x.Wg,0,none⟩),.pointer (some ⟨x.bP,0,none⟩),.pointer (some ⟨x.bS,0,none⟩),.pointer (some ⟨x.bH,0,none⟩),.pointer (some ⟨x.bK,0,none⟩),.pointer (some ⟨x.bL,0,none⟩),.pointer (some ⟨x.bB,0,none⟩),.pointer (some ⟨x.bG,0,none⟩),.int .i64 p,.slice oa on oc,.slice ka kn kc,.int .i64 e,.chan (some y.c),.tuple #[.int .i64 p,.bool true],.bool true,.int .i64 p,.tuple #[.slice oa on oc,.slice ka kn kc,.int .i64 e],y.server,.int .i64 y.hop,.int .i64 y.hops,.slice (some ⟨y.bR,y.oR,none⟩) y.n y.cap,.int .i64 p,q,y.part p,.tuple #[.slice oa on oc,.slice ka kn kc,.int .i64 e],.slice oa on oc,.slice ka kn kc,.int .i64 e,v28,v29,v30,v31,v32,v33,v34,v35,v36],[z28 x]⟩)
   rfl (by k_ne) (fun w es h e he=>h.2 e he) (fun _ _ h r=>rely2 h r) _ _ 7 t ?any2 (by decide) ?leaf2 w5 hB5
  case any2 =>
   co_applyP zbg (i:=8) (by simp only [List.getElem?_toArray,List.getElem?_cons_succ,List.getElem?_cons_zero];rfl) (by kernel_rfl) (by kernel_rfl) (by kernel_rfl) (by kernel_rfl) (by kernel_rfl) (by rfl) (fun w hw=>⟨run_eq_of ?run9,?guar9⟩) ?rest9
   case run9 =>
    intro K9 hK9
    (skip)
    go_simp
    exact hK9
   case guar9 =>
    (skip)
    refine ⟨rfl,fun e he=>?_⟩
    have he2:=mem_listed he
    (simp [go_sem, *] at he2)
   walk_nrm
   co_applyP zbg (i:=9) (by simp only [List.getElem?_toArray,List.getElem?_cons_succ,List.getElem?_cons_zero];rfl) (by kernel_rfl) (by kernel_rfl) (by kernel_rfl) (by kernel_rfl) (by kernel_rfl) (by rfl) (fun w hw=>⟨run_eq_of ?run10,?guar10⟩) ?rest10
   case run10 =>
    intro K9 hK9
    (skip)
    go_simp
    exact hK9
   case guar10 =>
    (skip)
    refine ⟨rfl,fun e he=>?_⟩
    have he2:=mem_listed he
    (simp [go_sem, *] at he2)
   walk_nrm
   co_applyP zbg (i:=10) (by simp only [List.getElem?_toArray,List.getElem?_cons_succ,List.getElem?_cons_zero];rfl) (by kernel_rfl) (by kernel_rfl) (by kernel_rfl) (by kernel_rfl) (by kernel_rfl) (by rfl) (fun w hw=>⟨run_eq_of ?run11,?guar11⟩) ?rest11
   case run11 =>
    intro K9 hK9
    (skip)
    go_simp
    exact hK9
   case guar11 =>
    (skip)
    refine ⟨rfl,fun e he=>?_⟩
    have he2:=mem_listed he
    (simp [go_sem, *] at he2)
   walk_nrm
   co_applyP zbg (i:=11) (by simp only [List.getElem?_toArray,List.getElem?_cons_succ,List.getElem?_cons_zero];rfl) (by kernel_rfl) (by kernel_rfl) (by kernel_rfl) (by kernel_rfl) (by kernel_rfl) (by rfl) (fun w hw=>⟨run_eq_of ?run12,?guar12⟩) ?rest12
   case run12 =>
    intro K9 hK9
    (skip)
    go_simp
    exact hK9
   case guar12 =>
    (skip)
    refine ⟨rfl,fun e he=>?_⟩
    have he2:=mem_listed he
    (simp [go_sem, *] at he2)
   walk_nrm
   co_applyP zbg (i:=12) (by simp only [List.getElem?_toArray,List.getElem?_cons_succ,List.getElem?_cons_zero];rfl) (by kernel_rfl) (by kernel_rfl) (by kernel_rfl) (by kernel_rfl) (by kernel_rfl) (by rfl) (fun w hw=>⟨run_eq_of ?run13,?guar13⟩) ?rest13
   case run13 =>
    intro K9 hK9
    (skip)
    go_simp
    exact hK9
   case guar13 =>
    (skip)
    refine ⟨rfl,fun e he=>?_⟩
    have he2:=mem_listed he
    (simp [go_sem, *] at he2)
   walk_nrm
   co_applyP zbg (i:=13) (by simp only [List.getElem?_toArray,List.getElem?_cons_succ,List.getElem?_cons_zero];rfl) (by kernel_rfl) (by kernel_rfl) (by kernel_rfl) (by kernel_rfl) (by kernel_rfl) (by rfl) (fun w hw=>⟨run_eq_of ?run14,?guar14⟩) ?rest14
   case run14 =>
    intro K9 hK9
    (skip)
    go_simp
    exact hK9
   case guar14 =>
    (skip)
    refine ⟨rfl,fun e he=>?_⟩
    have he2:=mem_listed he
    (simp [go_sem, *] at he2)
   walk_nrm
   co_applyP zbg (i:=14) (by simp only [List.getElem?_toArray,List.getElem?_cons_succ,List.getElem?_cons_zero];rfl) (by kernel_rfl) (by kernel_rfl) (by kernel_rfl) (by kernel_rfl) (by kernel_rfl) (by rfl) (fun w hw=>⟨run_eq_of ?run15,?guar15⟩) ?rest15
   case run15 =>
    intro K9 hK9
    (skip)
    go_simp
    exact hK9
   case guar15 =>
    (skip)
    refine ⟨rfl,fun e he=>?_⟩
    have he2:=mem_listed he
    (simp [go_sem, *] at he2)
   walk_nrm
   exact ⟨by kernel_rfl,rfl⟩
  case leaf2 =>
   intro a t w6 ha hK
   subst ha
   rw [show (7 - 7:Nat)=0 from rfl]
   simp only [Region.linearise.go,List.reverse_nil]
   refine zc0 60 ?_
   (refine Goes.step rfl (fun _ h₁=>?_);replace hK:=rely2 hK h₁;clear h₁;rw [stepG_region_end];simp only [goes_go];refine ⟨d1_e,?_⟩)
   (refine Goes.step rfl (fun _ h₁=>?_);replace hK:=rely2 hK h₁;clear h₁;rw [stepG_seq];simp only [goes_go];refine ⟨d1_e,?_⟩)
   (refine Goes.step rfl (fun _ h₁=>?_);replace hK:=rely2 hK h₁;clear h₁;rw [stepG_seq];simp only [goes_go];refine ⟨d1_e,?_⟩)
   (refine Goes.step rfl (fun _ h₁=>?_);replace hK:=rely2 hK h₁;clear h₁;rw [stepG_region];simp only [goes_go,List.size_toArray,List.length_cons,List.length_nil,Nat.reduceAdd,Nat.zero_add,List.range,List.range.loop];refine ⟨d1_e,?_⟩)
   (refine Goes.step rfl (fun _ h₁=>?_);replace hK:=rely2 hK h₁;clear h₁;refine goes_oper_k rfl rfl (by k_ne) (fun K9 hK9=>?_);go_simp;refine hK9 _ _ ⟨?_,?_⟩;(focus (refine zaf ?_;intro e he;have hm:=mem_listed he;simp [go_sem, *] at hm));clear hK9 K9;try w_num)
   rcases Classical.em (e=0) with rfl|he
   ·simp only [if_true] at hK
    have hbd:∀ w,(Instr.build 54 #[(0,.int .i64 p),(1,.bool true),(2,.slice oa on oc),(3,.slice ka kn kc)]).run Tryd.prog w=.ok (.agg #[.int .i64 p,.bool true,.slice oa on oc,.slice ka kn kc]) w:=fun w=>run_build w 54 _ _ (by kernel_rfl)
    have hbe:∀ w es,(Instr.build 54 #[(0,.int .i64 p),(1,.bool true),(2,.slice oa on oc),(3,.slice ka kn kc)]).events Tryd.prog w es=es:=fun w es=>by kernel_rfl
    (refine Goes.step rfl (fun _ h₁=>?_);replace hK:=rely2 hK h₁;clear h₁;refine goes_oper_k rfl rfl (by k_ne) (fun K9 hK9=>?_);go_simp;refine hK9 _ _ ⟨?_,?_⟩;(focus (refine zaf ?_;intro e he;have hm:=mem_listed he;simp [go_sem, *] at hm));clear hK9 K9;try w_num)
    (refine Goes.step rfl (fun _ h₁=>?_);replace hK:=rely2 hK h₁;clear h₁;rw [stepG_region_end];simp only [goes_go];refine ⟨d1_e,?_⟩)
    (refine Goes.step rfl (fun _ h₁=>?_);replace hK:=rely2 hK h₁;clear h₁;rw [stepG_cond (t:=false) rfl];simp only [goes_go,if_true,if_false,Bool.false_eq_true,↓reduceIte];refine ⟨d1_e,?_⟩)
    (refine Goes.step rfl (fun _ h₁=>?_);replace hK:=rely2 hK h₁;clear h₁;rw [stepG_skip];simp only [goes_go];refine ⟨d1_e,?_⟩)
    (refine Goes.step rfl (fun _ h₁=>?_);replace hK:=rely2 hK h₁;clear h₁;rw [stepG_region];simp only [goes_go,List.size_toArray,List.length_cons,List.length_nil,Nat.reduceAdd,Nat.zero_add,List.range,List.range.loop];refine ⟨d1_e,?_⟩)
    (refine Goes.step rfl (fun _ h₁=>?_);replace hK:=rely2 hK h₁;clear h₁)
    refine goes_oper_k rfl rfl (by k_ne) (fun K hKx=>?_)
    have hx:=hK.1.2.fG
    go_simp
    refine hKx _ _ ⟨⟨rfl,fun e he=>?_⟩,?_⟩
    ·have hm:=mem_listed he
     simp [go_sem, *] at hm
     subst hm
     exact ⟨rfl,za0 (.inl hK.1.2.mG)⟩
    clear hKx K hx
    (refine Goes.step rfl (fun _ h₁=>?_);replace hK:=rely2 hK h₁;clear h₁;refine goes_oper_k rfl rfl (by k_ne) (fun K9 hK9=>?_);go_simp;refine hK9 _ _ ⟨?_,?_⟩;(focus (refine zaf ?_;intro e he;have hm:=mem_listed he;simp [go_sem, *] at hm));clear hK9 K9;try w_num)
    (refine Goes.step rfl (fun _ h₁=>?_);replace hK:=rely2 hK h₁;clear h₁;refine goes_oper_k rfl rfl (by k_ne) (fun K9 hK9=>?_);go_simp;refine hK9 _ _ ⟨?_,?_⟩;(focus (refine zaf ?_;intro e he;have hm:=mem_listed he;simp [go_sem, *] at hm));clear hK9 K9;try w_num)
    (refine Goes.step rfl (fun _ h₁=>?_);replace hK:=rely2 hK h₁;clear h₁;refine goes_oper_k rfl rfl (by k_ne) (fun K9 hK9=>?_);go_simp;refine hK9 _ _ ⟨?_,?_⟩;(focus (refine zaf ?_;intro e he;have hm:=mem_listed he;simp [go_sem, *] at hm));clear hK9 K9;try w_num)
    (refine Goes.step rfl (fun _ h₁=>?_);replace hK:=rely2 hK h₁;clear h₁;refine goes_oper_k rfl rfl (by k_ne) (fun K9 hK9=>?_);go_simp;refine hK9 _ _ ⟨?_,?_⟩;(focus (refine zaf ?_;intro e he;have hm:=mem_listed he;simp [go_sem, *] at hm));clear hK9 K9;try w_num)
    refine Goes.stop (fun w7 h7=>Run.stop (fun w8 h8=>?_))
    have hK8:=rely2 (rely2 hK h7) h8
    clear h7 h8
    refine ⟨rfl,.good (oa,on,oc) (ka,kn,kc),o2,M,fun _=>False,undef,fun b hb=>hb,fun b hb=>.inl hb,fun b hb=>hb.elim,fun b hb=>hb.elim,fun b hb hb2=>hSM b hb2 hb,hK8.2,?_,?_⟩
    ·rw [hP,core_G,stepG_comm (cases:=#[scase (E.ch (.good (oa,on,oc) (ka,kn,kc))) (Ans.val p (.good (oa,on,oc) (ka,kn,kc))) undef]) (blocking:=true) (shape:=.send) (w':=w8) rfl rfl (by k_ne) (by simp [go_sem,scase,zar.ch,Ans.val,sl,hG] <;> rfl)]
     simp [listed,go_sem,seen]
    ·rw [core_G,served_G]
     walk_nrm
     show Run E.P false E.ty E.Wg true Next M _ _ _
     rw [hP]
     have hK9:=hK8.1
     refine zqo 30 ?_
     (refine Goes.step rfl (fun _ h₁=>?_);replace hK9:=WKn.rely hK9 h₁;clear h₁;rw [stepG_region_end];simp only [goes_go];refine ⟨d1_e,?_⟩)
     (refine Goes.step rfl (fun _ h₁=>?_);replace hK9:=WKn.rely hK9 h₁;clear h₁;rw [stepG_inBlock];simp only [goes_go];refine ⟨d1_e,?_⟩)
     (refine Goes.step rfl (fun _ h₁=>?_);replace hK9:=WKn.rely hK9 h₁;clear h₁;rw [stepG_inLoop];simp only [goes_go];refine ⟨d1_e,?_⟩)
     (refine Goes.step rfl (fun _ h₁=>?_);replace hK9:=WKn.rely hK9 h₁;clear h₁;rw [stepG_seq];simp only [goes_go];refine ⟨d1_e,?_⟩)
     (refine Goes.step rfl (fun _ h₁=>?_);replace hK9:=WKn.rely hK9 h₁;clear h₁;rw [stepG_region];simp only [goes_go,List.size_toArray,List.length_cons,List.length_nil,Nat.reduceAdd,Nat.zero_add,List.range,List.range.loop];refine ⟨d1_e,?_⟩)
     refine Goes.stop (fun w9 h9=>?_)
     refine hN _ _ ?_ (hK9.rely h9)
     exact ⟨_,_,_,_,_,_,_,_,_,_,_,_,_,_,_,_,_,_,_,_,_,_,_,_,_,_,_,_,rfl⟩
   ·simp only [if_neg he] at hK
    have he2:(e != 0)=true:=by simpa using he
    have he3:decide (e=0)=false:=decide_eq_false he
    (refine Goes.step rfl (fun _ h₁=>?_);replace hK:=rely2 hK h₁;clear h₁;refine goes_oper_k rfl rfl (by k_ne) (fun K9 hK9=>?_);go_simp;refine hK9 _ _ ⟨?_,?_⟩;(focus (refine zaf ?_;intro e he;have hm:=mem_listed he;simp [go_sem, *] at hm));clear hK9 K9;try w_num)
    (refine Goes.step rfl (fun _ h₁=>?_);replace hK:=rely2 hK h₁;clear h₁;rw [stepG_region_end];simp only [goes_go];refine ⟨d1_e,?_⟩)
    (refine Goes.step rfl (fun _ h₁=>?_);replace hK:=rely2 hK h₁;clear h₁;rw [stepG_cond (t:=true) rfl];simp only [goes_go,if_true,if_false,Bool.false_eq_true,↓reduceIte];refine ⟨d1_e,?_⟩)
    (refine Goes.step rfl (fun _ h₁=>?_);replace hK:=rely2 hK h₁;clear h₁;rw [stepG_seq];simp only [goes_go];refine ⟨d1_e,?_⟩)
    (refine Goes.step rfl (fun _ h₁=>?_);replace hK:=rely2 hK h₁;clear h₁;rw [stepG_region];simp only [goes_go,List.size_toArray,List.length_cons,List.length_nil,Nat.reduceAdd,Nat.zero_add,List.range,List.range.loop];refine ⟨d1_e,?_⟩)
    (refine Goes.step rfl (fun _ h₁=>?_);replace hK:=rely2 hK h₁;clear h₁)
    refine goes_oper_k rfl rfl (by k_ne) (fun K hKx=>?_)
    have hx:=hK.1.2.fB
    go_simp
    refine hKx _ _ ⟨⟨rfl,fun e he=>?_⟩,?_⟩
    ·have hm:=mem_listed he
     simp [go_sem, *] at hm
     subst hm
     exact ⟨rfl,za0 (.inl hK.1.2.mB)⟩
    clear hKx K hx
    (refine Goes.step rfl (fun _ h₁=>?_);replace hK:=rely2 hK h₁;clear h₁;refine goes_oper_k rfl rfl (by k_ne) (fun K9 hK9=>?_);go_simp;refine hK9 _ _ ⟨?_,?_⟩;(focus (refine zaf ?_;intro e he;have hm:=mem_listed he;simp [go_sem, *] at hm));clear hK9 K9;try w_num)
    refine Goes.stop (fun w7 h7=>Run.stop (fun w8 h8=>?_))
    have hK8:=rely2 (rely2 hK h7) h8
    clear h7 h8
    refine ⟨rfl,.bad,o2,M,fun _=>False,undef,fun b hb=>hb,fun b hb=>.inl hb,fun b hb=>hb.elim,fun b hb=>hb.elim,fun b hb hb2=>hSM b hb2 hb,hK8.2,?_,?_⟩
    ·rw [hP,core_G,stepG_comm (cases:=#[scase (E.ch (.bad)) (Ans.val p (.bad)) undef]) (blocking:=true) (shape:=.send) (w':=w8) rfl rfl (by k_ne) (by simp [go_sem,scase,zar.ch,Ans.val,hB] <;> rfl)]
     simp [listed,go_sem,seen]
    ·rw [core_G,served_G]
     walk_nrm
     show Run E.P false E.ty E.Wg true Next M _ _ _
     rw [hP]
     have hK9:=hK8.1
     refine zqo 30 ?_
     (refine Goes.step rfl (fun _ h₁=>?_);replace hK9:=WKn.rely hK9 h₁;clear h₁;rw [stepG_region_end];simp only [goes_go];refine ⟨d1_e,?_⟩)
     (refine Goes.step rfl (fun _ h₁=>?_);replace hK9:=WKn.rely hK9 h₁;clear h₁;refine goes_exit rfl ?_;refine ⟨d1_e,?_⟩)
     (refine Goes.step rfl (fun _ h₁=>?_);replace hK9:=WKn.rely hK9 h₁;clear h₁;rw [stepG_inLoop];simp only [goes_go];refine ⟨d1_e,?_⟩)
     (refine Goes.step rfl (fun _ h₁=>?_);replace hK9:=WKn.rely hK9 h₁;clear h₁;rw [stepG_seq];simp only [goes_go];refine ⟨d1_e,?_⟩)
     (refine Goes.step rfl (fun _ h₁=>?_);replace hK9:=WKn.rely hK9 h₁;clear h₁;rw [stepG_region];simp only [goes_go,List.size_toArray,List.length_cons,List.length_nil,Nat.reduceAdd,Nat.zero_add,List.range,List.range.loop];refine ⟨d1_e,?_⟩)
     refine Goes.stop (fun w9 h9=>?_)
     refine hN _ _ ?_ (hK9.rely h9)
     exact ⟨_,_,_,_,_,_,_,_,_,_,_,_,_,_,_,_,_,_,_,_,_,_,_,_,_,_,_,_,rfl⟩
end
end
end Go.Proofs.YtelgmbomkojmaaaDoor
