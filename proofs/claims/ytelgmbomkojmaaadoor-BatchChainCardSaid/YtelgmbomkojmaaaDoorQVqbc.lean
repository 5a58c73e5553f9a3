/- A pack: Vq. -/
import Derived.Test.YtelgmbomkojmaaaDoorQVoba
import Derived.Test.YtelgmbomkojmaaaDoorQVpbb
import Derived.Laws.Small
namespace Go.Proofs.YtelgmbomkojmaaaDoor
set_option linter.all false
set_option maxRecDepth 100000
section
open Go.Conc Go.ConcN Go.ConcN.Gen Go.RowKit Go.Conc.Lib Go.ConcR.Gen
open Go.ConcR (KK wgBlock WgAt stA smA rd wr Payload DC0)
structure BKn (K:Nat→Prop)(w0:World)(L:List (Nat×Obj))(M:Nat→Prop)(w:World): Prop where
 keep:∀ b,K b→w.heap[b]?=w0.heap[b]?
 low:∀ b,M b→b<w.heap.size
 sub:∀ b,K b→M b
 new:∀ x∈L,M x.1∧w.heap[x.1]?=some x.2∧w0.heap.size≤x.1
 nodup:(L.map (·.1)).Nodup
 size:w0.heap.size≤w.heap.size
 tape:w.tape=w0.tape
 os:w.os=w0.os
 out:w.output=w0.output
section
variable {K M o:Nat→Prop} {w0 w w₁:World} {L:List (Nat×Obj)} {ty:TypeId} {Wg:Nat}
theorem BKn.rely (h:BKn K w0 L M w)(r:Oth ty Wg M w w₁): BKn K w0 L M w₁ :=
 ⟨fun b hb=>(r.keep b (h.sub b hb)).trans (h.keep b hb),fun b hb=>Nat.lt_of_lt_of_le (h.low b hb) r.size,h.sub,fun x hx=>⟨(h.new x hx).1,(r.keep _ (h.new x hx).1).trans (h.new x hx).2.1,(h.new x hx).2.2⟩,h.nodup,Nat.le_trans h.size r.size,r.tape.trans h.tape,r.os.trans h.os,r.out.trans h.out⟩
theorem BKn.alloc (h:BKn K w0 L M w)(ob:Obj): BKn K w0 ((w.heap.size,ob) :: L) (fun b=>M b∨b=w.heap.size) (w.alloc ob):=by
 refine ⟨fun b hb=>(Below.heap_alloc _ _ _ (h.low b (h.sub b hb))).trans (h.keep b hb),fun b hb=>?_,fun b hb=>.inl (h.sub b hb),fun x hx=>?_,?_,by rw [World.size_alloc];exact Nat.le_succ_of_le h.size,h.tape,h.os,h.out⟩
 ·rw [World.size_alloc]
  rcases hb with hb|hb
  ·exact Nat.lt_succ_of_lt (h.low b hb)
  ·omega
 ·rcases List.mem_cons.1 hx with rfl|hx
  ·exact ⟨.inr rfl,heap_alloc_new _ _,h.size⟩
  ·exact ⟨.inl (h.new x hx).1,(Below.heap_alloc _ _ _ (h.low _ (h.new x hx).1)).trans (h.new x hx).2.1,(h.new x hx).2.2⟩
 ·simp only [List.map_cons,List.nodup_cons]
  refine ⟨fun hm=>?_,h.nodup⟩
  obtain ⟨x,hx,e⟩:=List.mem_map.1 hm
  have:=h.low _ (h.new x hx).1
  omega
theorem BKn.get (h:BKn K w0 L M w)(i:Nat){x:Nat×Obj}(hi:L[i]?=some x): M x.1∧w.heap[x.1]?=some x.2∧w0.heap.size≤x.1:=h.new x (List.mem_of_getElem? hi)
theorem BKn.mem (h:BKn K w0 L M w)(i:Nat){b:Nat}{ob:Obj}(hi:L[i]?=some (b,ob)): M b:=(h.get i hi).1
theorem BKn.cell (h:BKn K w0 L M w)(i:Nat){b:Nat}{v:Value}{t:TypeId}(hi:L[i]?=some (b,.cells #[v] t)): w.cell? ⟨b,0,none⟩=some v:=by
 unfold World.cell?;rw [(h.get i hi).2.1];rfl
theorem BKn.thaw (h:BKn K w0 L M w)(i:Nat){b:Nat}{v:Value}{t:TypeId}(hi:L[i]?=some (b,.cells #[v] t)): w.frozen? ⟨b,0,none⟩=false:=by
 unfold World.frozen?;rw [(h.get i hi).2.1];rfl
theorem BKn.set {b:Nat}{v:Value}{t:TypeId}(h:BKn K w0 ((b,.cells #[v] t) :: L) M w)(hlt:∀ b,K b→b<w0.heap.size)(v':Value): BKn K w0 ((b,.cells #[v'] t) :: L) M (w.setCell ⟨b,0,none⟩ v'):=by
 have hb:=h.get 0 rfl
 rw [setCell_eq_setRow w b 0 #[v] t (0,0) v' hb.2.1]
 have ne:∀ q,q≠b→(w.setRow b (#[v].setIfInBounds 0 v')).heap[q]?=w.heap[q]?:=fun q hq=>setRow_other _ _ _ _ hq
 refine ⟨fun q hq=>(ne q (fun e=>by have:=hlt q hq;have:=hb.2.2;omega)).trans (h.keep q hq),fun q hq=>by rw [setRow_size];exact h.low q hq,h.sub,fun x hx=>?_,by simpa using h.nodup,by rw [setRow_size];exact h.size,h.tape,h.os,h.out⟩
 rcases List.mem_cons.1 hx with rfl|hx
 ·exact ⟨hb.1,setRow_heap _ _ _ _ _ _ hb.2.1,hb.2.2⟩
 ·have hx':=h.new x (List.mem_cons_of_mem _ hx)
  refine ⟨hx'.1,(ne _ (fun e=>?_)).trans hx'.2.1,hx'.2.2⟩
  have hn:=h.nodup
  simp only [List.map_cons,List.nodup_cons] at hn
  exact hn.1 (e ▸ List.mem_map.2 ⟨x,hx,rfl⟩)
end
theorem z0n (a b c d:Value): Frame.enter Tryd.prog 19 #[a,b,c,d] .normal=(base 19).at ⟨#[a,b,c,d,undef,undef,undef,undef,undef,undef,undef,undef,undef,undef,undef,undef,undef,undef,undef,undef,undef,undef,undef,undef,undef,undef,undef,undef,undef,undef,undef,undef,undef,undef,undef,undef,undef,undef,undef,undef,undef,undef,undef,undef,undef,undef,undef,undef,undef,undef,undef,undef,undef,undef,undef,undef,undef,undef,undef,undef,undef,undef,undef,undef,undef,undef,undef],[]⟩ [.code zdf]:=(enter_at _ Tryd.func19 (c:=zdf) rfl).trans (by kernel_rfl)
noncomputable def tl4:Code:=match zdf with|.seq _ (.seq _ (.seq _ (.seq _ c)))=>c|_=>.skip
noncomputable def ops3:Array Oper:=match zdf with|.seq _ (.seq _ (.seq _ (.seq (.region _ o _) _)))=>o|_=>#[]
noncomputable def atWg (T:Array Value)(l:List Nat)(cs:List Frame): Goroutine:=G ((base 19).at ⟨T,[]⟩ [.inRegion ops3 l,.code tl4]) cs
def TB (s:SBx)(a0 a1 a2 a3 l:Value)(cG cB n:Nat)(v:Value): Array Value:=#[a0,a1,a2,a3,.pointer (some ⟨s.b4,0,none⟩),.pointer (some ⟨s.b5,0,none⟩),.pointer (some ⟨s.b6,0,none⟩),.pointer (some ⟨s.b7,0,none⟩),.slice none 0 0,.pointer (some ⟨s.b9,0,none⟩),.pointer (some ⟨s.b10,0,none⟩),v,undef,undef,undef,undef,undef,undef,undef,l,.int .i64 n,.chan (some cG),l,.int .i64 n,.chan (some cB),undef,undef,undef,undef,undef,undef,undef,undef,undef,undef,undef,undef,undef,undef,undef,undef,undef,undef,undef,undef,undef,undef,undef,undef,undef,undef,undef,undef,undef,undef,undef,undef,undef,undef,undef,undef,undef,undef,undef,undef,undef,undef]
def LB (s:SBx)(vS:Value)(hop hops:Int)(ad:Option Addr)(n cap cG cB:Nat): List (Nat×Obj):=[(s.b10,.cells #[.chan (some cB)] 66),(cB,.chan n #[] false 0 0 false),(s.b9,.cells #[.chan (some cG)] 65),(cG,.chan n #[] false 0 0 false),(s.b7,.cells #[.slice ad n cap] 22),(s.b6,.cells #[.int .i64 hops] 3),(s.b5,.cells #[.int .i64 hop] 3),(s.b4,.cells #[vS] 33)]
def z6e (K:Nat→Prop)(w0:World)(vS:Value)(hop hops:Int)(ad:Option Addr)(n cap:Nat)(a0 a1 a2 a3:Value)(cs:List Frame): Kp:=fun M o g w=>∃ (s:SBx) (cG cB:Nat),g=atWg (TB s a0 a1 a2 a3 (.slice ad n cap) cG cB n undef) [0] cs∧BKn K w0 (LB s vS hop hops ad n cap cG cB) M w
section
variable {K o:Nat→Prop} {cs:List Frame}
set_option maxRecDepth 100000 in
set_option maxHeartbeats 8000000 in
theorem z4v {aS:Option Addr}{nS cS:Nat}{hop hops:Int}{ad:Option Addr}{n cap:Nat}(hn64:n≤64)(w0:World)(hlt:∀ b,K b→b<w0.heap.size):
  Run Tryd.prog true 0 0 true (z6e K w0 (.slice aS nS cS) hop hops ad n cap (.slice aS nS cS) (.int .i64 hop) (.int .i64 hops) (.slice ad n cap) cs) K o (G (Frame.enter Tryd.prog 19 #[.slice aS nS cS,.int .i64 hop,.int .i64 hops,.slice ad n cap] .normal) cs) w0:=by
 rw [z0n]
 have hK:BKn K w0 [] K w0:=⟨fun _ _=>rfl,hlt,fun _ h=>h,fun x hx=>(by cases hx),List.nodup_nil,Nat.le_refl _,rfl,rfl,rfl⟩
 obtain ⟨i66,hi66,hib66⟩:=Option.map_eq_some_iff.1 (show (Tryd.prog.info? 3).map (·.bytes)=some 8 by kernel_rfl)
 obtain ⟨i65,hi65,hib65⟩:=Option.map_eq_some_iff.1 (show (Tryd.prog.info? 54).map (·.bytes)=some 64 by kernel_rfl)
 simp only [zdf,Tryd.f19,Option.getD_some]
 generalize hww:w0=w at hK ⊢
 subst hww
 refine zc0 60 ?_
 (refine Goes.step rfl (fun _ h₁=>?_);replace hK:=BKn.rely hK h₁;clear h₁;rw [stepG_seq];simp only [goes_go];refine ⟨d1_e,?_⟩)
 (refine Goes.step rfl (fun _ h₁=>?_);replace hK:=BKn.rely hK h₁;clear h₁;rw [stepG_region];simp only [goes_go,List.size_toArray,List.length_cons,List.length_nil,Nat.reduceAdd,Nat.zero_add,List.range,List.range.loop];refine ⟨d1_e,?_⟩)
 refine Goes.stop (fun w₀ h₀=>?_)
 replace hK:=hK.rely h₀
 clear h₀
 refine Run.stepK rfl (fun w₁ h₁=>?_)
 replace hK:=hK.rely h₁
 clear h₁
 refine goes_oper_k rfl rfl (by k_ne) (fun Kx hKx=>?_)
 go_simp
 refine hKx _ _ ⟨zbo _ _ _,fun e he=>?_,?_⟩
 ·have hm:=mem_listed he
  simp [go_sem, *] at hm
 clear hKx Kx
 rw [zal,zal]
 replace hK:=hK.alloc (.cells #[.slice aS nS cS] 33)
 obtain ⟨b4,hq⟩:∃ q,w₁.heap.size=q:=⟨_,rfl⟩
 rw [hq] at hK ⊢
 clear hq
 generalize w₁.alloc (.cells #[.slice aS nS cS] 33)=wa at hK ⊢
 clear w₁
 refine Run.stepK rfl (fun w₁ h₁=>?_)
 replace hK:=hK.rely h₁
 clear h₁
 refine goes_oper_k rfl rfl (by k_ne) (fun Kx hKx=>?_)
 go_simp
 refine hKx _ _ ⟨zbo _ _ _,fun e he=>?_,?_⟩
 ·have hm:=mem_listed he
  simp [go_sem, *] at hm
 clear hKx Kx
 rw [zal,zal]
 replace hK:=hK.alloc (.cells #[.int .i64 hop] 3)
 obtain ⟨b5,hq⟩:∃ q,w₁.heap.size=q:=⟨_,rfl⟩
 rw [hq] at hK ⊢
 clear hq
 generalize w₁.alloc (.cells #[.int .i64 hop] 3)=wa at hK ⊢
 clear w₁
 refine Run.stepK rfl (fun w₁ h₁=>?_)
 replace hK:=hK.rely h₁
 clear h₁
 refine goes_oper_k rfl rfl (by k_ne) (fun Kx hKx=>?_)
 go_simp
 refine hKx _ _ ⟨zbo _ _ _,fun e he=>?_,?_⟩
 ·have hm:=mem_listed he
  simp [go_sem, *] at hm
 clear hKx Kx
 rw [zal,zal]
 replace hK:=hK.alloc (.cells #[.int .i64 hops] 3)
 obtain ⟨b6,hq⟩:∃ q,w₁.heap.size=q:=⟨_,rfl⟩
 rw [hq] at hK ⊢
 clear hq
 generalize w₁.alloc (.cells #[.int .i64 hops] 3)=wa at hK ⊢
 clear w₁
 refine Run.stepK rfl (fun w₁ h₁=>?_)
 replace hK:=hK.rely h₁
 clear h₁
 refine goes_oper_k rfl rfl (by k_ne) (fun Kx hKx=>?_)
 go_simp
 refine hKx _ _ ⟨zbo _ _ _,fun e he=>?_,?_⟩
 ·have hm:=mem_listed he
  simp [go_sem, *] at hm
 clear hKx Kx
 rw [zal,zal]
 replace hK:=hK.alloc (.cells #[.slice ad n cap] 22)
 obtain ⟨b7,hq⟩:∃ q,w₁.heap.size=q:=⟨_,rfl⟩
 rw [hq] at hK ⊢
 clear hq
 generalize w₁.alloc (.cells #[.slice ad n cap] 22)=wa at hK ⊢
 clear w₁
 refine zc0 60 ?_
 (refine Goes.step rfl (fun _ h₁=>?_);replace hK:=BKn.rely hK h₁;clear h₁;refine goes_oper_k rfl rfl (by k_ne) (fun K9 hK9=>?_);go_simp;refine hK9 _ _ ⟨?_,?_⟩;(focus (refine zaf ?_;intro e he;have hm:=mem_listed he;simp [go_sem, *] at hm));clear hK9 K9;try w_num)
 (refine Goes.step rfl (fun _ h₁=>?_);replace hK:=BKn.rely hK h₁;clear h₁;rw [stepG_region_end];simp only [goes_go];refine ⟨d1_e,?_⟩)
 (refine Goes.step rfl (fun _ h₁=>?_);replace hK:=BKn.rely hK h₁;clear h₁;rw [stepG_seq];simp only [goes_go];refine ⟨d1_e,?_⟩)
 (refine Goes.step rfl (fun _ h₁=>?_);replace hK:=BKn.rely hK h₁;clear h₁;rw [stepG_region];simp only [goes_go,List.size_toArray,List.length_cons,List.length_nil,Nat.reduceAdd,Nat.zero_add,List.range,List.range.loop];refine ⟨d1_e,?_⟩)
 (refine Goes.step rfl (fun _ h₁=>?_);replace hK:=BKn.rely hK h₁;clear h₁)
 refine goes_oper_k rfl rfl (by k_ne) (fun Kx hKx=>?_)
 have hx:=hK.cell 0 rfl
 go_simp
 refine hKx _ _ ⟨⟨rfl,fun e he=>?_⟩,?_⟩
 ·have hm:=mem_listed he
  simp [go_sem, *] at hm
  subst hm
  exact ⟨rfl,za0 (hK.mem 0 rfl)⟩
 clear hKx Kx hx
 (refine Goes.step rfl (fun _ h₁=>?_);replace hK:=BKn.rely hK h₁;clear h₁;refine goes_oper_k rfl rfl (by k_ne) (fun K9 hK9=>?_);go_simp;refine hK9 _ _ ⟨?_,?_⟩;(focus (refine zaf ?_;intro e he;have hm:=mem_listed he;simp [go_sem, *] at hm));clear hK9 K9;try w_num)
 refine Goes.stop (fun w₀ h₀=>?_)
 replace hK:=hK.rely h₀
 clear h₀
 have hmk:=fun w=>run_makeChan (P:=Tryd.prog) (w:=w) (t:=65) Tryd.underlying65 hi65 .i64 n (by omega) (by rw [hib65];omega)
 have hme:=fun w es=>events_makeChan (P:=Tryd.prog) (w:=w) (t:=65) Tryd.underlying65 hi65 .i64 n (by omega) (by rw [hib65];omega) es
 refine Run.stepK rfl (fun w₁ h₁=>?_)
 replace hK:=hK.rely h₁
 clear h₁
 refine goes_oper_k rfl rfl (by k_ne) (fun Kx hKx=>?_)
 go_simp
 refine hKx _ _ ⟨zbo _ _ _,fun e he=>?_,?_⟩
 ·have hm:=mem_listed he
  simp [go_sem, *] at hm
 clear hKx Kx
 clear hmk hme
 rw [zal,zal]
 replace hK:=hK.alloc (.chan n #[] false 0 0 false)
 obtain ⟨cG,hq⟩:∃ q,w₁.heap.size=q:=⟨_,rfl⟩
 rw [hq] at hK ⊢
 clear hq
 generalize w₁.alloc (.chan n #[] false 0 0 false)=wa at hK ⊢
 clear w₁
 refine Run.stepK rfl (fun w₁ h₁=>?_)
 replace hK:=hK.rely h₁
 clear h₁
 refine goes_oper_k rfl rfl (by k_ne) (fun Kx hKx=>?_)
 go_simp
 refine hKx _ _ ⟨zbo _ _ _,fun e he=>?_,?_⟩
 ·have hm:=mem_listed he
  simp [go_sem, *] at hm
 clear hKx Kx
 rw [zal,zal]
 replace hK:=hK.alloc (.cells #[.chan none] 65)
 obtain ⟨b9,hq⟩:∃ q,w₁.heap.size=q:=⟨_,rfl⟩
 rw [hq] at hK ⊢
 clear hq
 generalize w₁.alloc (.cells #[.chan none] 65)=wa at hK ⊢
 clear w₁
 refine Run.stepK rfl (fun w₁ h₁=>?_)
 replace hK:=hK.rely h₁
 clear h₁
 have hcl:=hK.cell 0 rfl
 have hfz:=hK.thaw 0 rfl
 refine goes_oper_k rfl rfl (by k_ne) (fun Kx hKx=>?_)
 go_simp
 try (unfold stored;go_simp)
 refine hKx _ _ ⟨zp8 _ _ _ _ (.inr rfl),fun e he=>?_,?_⟩
 ·have hm:=mem_listed he
  simp [go_sem,storedEv, *] at hm
  subst hm
  exact ⟨rfl,rfl,.inl (.inr rfl),fun _=>.inl (.inr rfl)⟩
 clear hKx Kx hcl hfz
 rw [zfn,zfn]
 replace hK:=hK.set hlt (.chan (some cG))
 generalize w₁.setCell ⟨b9,0,none⟩ (.chan (some cG))=wa at hK ⊢
 clear w₁
 refine zc0 60 ?_
 (refine Goes.step rfl (fun _ h₁=>?_);replace hK:=BKn.rely hK h₁;clear h₁;rw [stepG_region_end];simp only [goes_go];refine ⟨d1_e,?_⟩)
 (refine Goes.step rfl (fun _ h₁=>?_);replace hK:=BKn.rely hK h₁;clear h₁;rw [stepG_seq];simp only [goes_go];refine ⟨d1_e,?_⟩)
 (refine Goes.step rfl (fun _ h₁=>?_);replace hK:=BKn.rely hK h₁;clear h₁;rw [stepG_region];simp only [goes_go,List.size_toArray,List.length_cons,List.length_nil,Nat.reduceAdd,Nat.zero_add,List.range,List.range.loop];refine ⟨d1_e,?_⟩)
 (refine Goes.step rfl (fun _ h₁=>?_);replace hK:=BKn.rely hK h₁;clear h₁)
 refine goes_oper_k rfl rfl (by k_ne) (fun Kx hKx=>?_)
 have hx:=hK.cell 2 rfl
 go_simp
 refine hKx _ _ ⟨⟨rfl,fun e he=>?_⟩,?_⟩
 ·have hm:=mem_listed he
  simp [go_sem, *] at hm
  subst hm
  exact ⟨rfl,za0 (hK.mem 2 rfl)⟩
 clear hKx Kx hx
 (refine Goes.step rfl (fun _ h₁=>?_);replace hK:=BKn.rely hK h₁;clear h₁;refine goes_oper_k rfl rfl (by k_ne) (fun K9 hK9=>?_);go_simp;refine hK9 _ _ ⟨?_,?_⟩;(focus (refine zaf ?_;intro e he;have hm:=mem_listed he;simp [go_sem, *] at hm));clear hK9 K9;try w_num)
 refine Goes.stop (fun w₀ h₀=>?_)
 replace hK:=hK.rely h₀
 clear h₀
 have hmk:=fun w=>run_makeChan (P:=Tryd.prog) (w:=w) (t:=66) Tryd.underlying66 hi66 .i64 n (by omega) (by rw [hib66];omega)
 have hme:=fun w es=>events_makeChan (P:=Tryd.prog) (w:=w) (t:=66) Tryd.underlying66 hi66 .i64 n (by omega) (by rw [hib66];omega) es
 refine Run.stepK rfl (fun w₁ h₁=>?_)
 replace hK:=hK.rely h₁
 clear h₁
 refine goes_oper_k rfl rfl (by k_ne) (fun Kx hKx=>?_)
 go_simp
 refine hKx _ _ ⟨zbo _ _ _,fun e he=>?_,?_⟩
 ·have hm:=mem_listed he
  simp [go_sem, *] at hm
 clear hKx Kx
 clear hmk hme
 rw [zal,zal]
 replace hK:=hK.alloc (.chan n #[] false 0 0 false)
 obtain ⟨cB,hq⟩:∃ q,w₁.heap.size=q:=⟨_,rfl⟩
 rw [hq] at hK ⊢
 clear hq
 generalize w₁.alloc (.chan n #[] false 0 0 false)=wa at hK ⊢
 clear w₁
 refine Run.stepK rfl (fun w₁ h₁=>?_)
 replace hK:=hK.rely h₁
 clear h₁
 refine goes_oper_k rfl rfl (by k_ne) (fun Kx hKx=>?_)
 go_simp
 refine hKx _ _ ⟨zbo _ _ _,fun e he=>?_,?_⟩
 ·have hm:=mem_listed he
  simp [go_sem, *] at hm
 clear hKx Kx
 rw [zal,zal]
 replace hK:=hK.alloc (.cells #[.chan none] 66)
 obtain ⟨b10,hq⟩:∃ q,w₁.heap.size=q:=⟨_,rfl⟩
 rw [hq] at hK ⊢
 clear hq
 generalize w₁.alloc (.cells #[.chan none] 66)=wa at hK ⊢
 clear w₁
 refine Run.stepK rfl (fun w₁ h₁=>?_)
 replace hK:=hK.rely h₁
 clear h₁
 have hcl:=hK.cell 0 rfl
 have hfz:=hK.thaw 0 rfl
 refine goes_oper_k rfl rfl (by k_ne) (fun Kx hKx=>?_)
 go_simp
 try (unfold stored;go_simp)
 refine hKx _ _ ⟨zp8 _ _ _ _ (.inr rfl),fun e he=>?_,?_⟩
 ·have hm:=mem_listed he
  simp [go_sem,storedEv, *] at hm
  subst hm
  exact ⟨rfl,rfl,.inl (.inr rfl),fun _=>.inl (.inr rfl)⟩
 clear hKx Kx hcl hfz
 rw [zfn,zfn]
 replace hK:=hK.set hlt (.chan (some cB))
 generalize w₁.setCell ⟨b10,0,none⟩ (.chan (some cB))=wa at hK ⊢
 clear w₁
 refine zc0 60 ?_
 (refine Goes.step rfl (fun _ h₁=>?_);replace hK:=BKn.rely hK h₁;clear h₁;rw [stepG_region_end];simp only [goes_go];refine ⟨d1_e,?_⟩)
 (refine Goes.step rfl (fun _ h₁=>?_);replace hK:=BKn.rely hK h₁;clear h₁;rw [stepG_seq];simp only [goes_go];refine ⟨d1_e,?_⟩)
 (refine Goes.step rfl (fun _ h₁=>?_);replace hK:=BKn.rely hK h₁;clear h₁;rw [stepG_region];simp only [goes_go,List.size_toArray,List.length_cons,List.length_nil,Nat.reduceAdd,Nat.zero_add,List.range,List.range.loop];refine ⟨d1_e,?_⟩)
 refine Goes.stop (fun w₁ h₁=>Run.stop (fun w₂ h₂=>?_))
 replace hK:=(hK.rely h₁).rely h₂
 exact ⟨⟨b4,b5,b6,b7,b9,b10⟩,cG,cB,rfl,hK⟩
set_option maxRecDepth 100000 in
theorem z36 (s:SBx)(a0 a1 a2 a3 l:Value)(cG cB n:Nat)(w:World): ∃ es,stepG Tryd.prog true (atWg (TB s a0 a1 a2 a3 l cG cB n undef) [0] cs) w=.go (atWg (TB s a0 a1 a2 a3 l cG cB n (.pointer (some ⟨w.heap.size,0,none⟩))) [] cs) (w.alloc (.cells #[.int .u64 0,.int .u32 0] 76)) es∧∀ e∈es,False:=by
 have key:(stepG Tryd.prog true (atWg (TB s a0 a1 a2 a3 l cG cB n undef) [0] cs) w).goes fun g' w' es=>(∀ e∈es,False)∧g'=atWg (TB s a0 a1 a2 a3 l cG cB n (.pointer (some ⟨w.heap.size,0,none⟩))) [] cs∧w'=w.alloc (.cells #[.int .u64 0,.int .u32 0] 76):=by
  simp only [atWg,ops3,tl4,zdf,Tryd.f19,Option.getD_some,TB]
  refine goes_oper_k rfl rfl (by k_ne) (fun Kx hKx=>?_)
  go_simp
  refine hKx _ _ ⟨fun e he=>?_,rfl,rfl⟩
  have hm:=mem_listed he
  simp [go_sem, *] at hm
 cases hgo:stepG Tryd.prog true (atWg (TB s a0 a1 a2 a3 l cG cB n undef) [0] cs) w with
 | go g' w' es =>
   rw [hgo,goes_go] at key
   obtain ⟨h1,h2,h3⟩:=key
   rw [h2,h3]
   exact ⟨es,rfl,h1⟩
 | _=>rw [hgo] at key;exact key.elim
set_option maxRecDepth 100000 in
set_option maxHeartbeats 8000000 in
theorem z5z {s:SBx}{vS:Value}{hop hops:Int}{ad:Option Addr}{n cap N cG cB Wg:Nat}{a0 a1 a2:Value}{w0:World}{M:Nat→Prop}(hn64:n≤64)(hN:N=min 4 n)(w:World)(hK:BKn K w0 ((Wg,.cells #[.int .u64 0,.int .u32 0] 76) :: LB s vS hop hops ad n cap cG cB) M w):
  Goes Tryd.prog true (Oth 0 0 M) (D1 true (fun b=>b=s.b7) (fun _=>False)) (fun g w=>(∃ T,g=zdq T cs∧∀ E:zar,E.Wg=Wg→IsH E s a0 a1 a2 (.slice ad n cap) N 0 T)∧BKn K w0 ((Wg,.cells #[.int .u64 0,.int .u32 0] 76) :: LB s vS hop hops ad n cap cG cB) M w) 30 (atWg (TB s a0 a1 a2 (.slice ad n cap) (.slice ad n cap) cG cB n (.pointer (some ⟨Wg,0,none⟩))) [] cs) w:=by
 have hmin:(if (n:Int)<4 then (n:Int) else 4)=(N:Int):=by split <;> omega
 clear hN
 simp only [atWg,ops3,tl4,zdf,Tryd.f19,Option.getD_some,TB,LB] at hK ⊢
 (refine Goes.step rfl (fun _ h₁=>?_);replace hK:=BKn.rely hK h₁;clear h₁;rw [stepG_region_end];simp only [goes_go];refine ⟨d1_e,?_⟩)
 (refine Goes.step rfl (fun _ h₁=>?_);replace hK:=BKn.rely hK h₁;clear h₁;rw [stepG_seq];simp only [goes_go];refine ⟨d1_e,?_⟩)
 (refine Goes.step rfl (fun _ h₁=>?_);replace hK:=BKn.rely hK h₁;clear h₁;rw [stepG_seq];simp only [goes_go];refine ⟨d1_e,?_⟩)
 (refine Goes.step rfl (fun _ h₁=>?_);replace hK:=BKn.rely hK h₁;clear h₁;rw [stepG_region];simp only [goes_go,List.size_toArray,List.length_cons,List.length_nil,Nat.reduceAdd,Nat.zero_add,List.range,List.range.loop];refine ⟨d1_e,?_⟩)
 (refine Goes.step rfl (fun _ h₁=>?_);replace hK:=BKn.rely hK h₁;clear h₁)
 refine goes_oper_k rfl rfl (by k_ne) (fun Kx hKx=>?_)
 have hx:=hK.cell 5 rfl
 go_simp
 refine hKx _ _ ⟨⟨rfl,fun e he=>?_⟩,?_⟩
 ·have hm:=mem_listed he
  simp [go_sem, *] at hm
  subst hm
  exact ⟨rfl,za0 rfl⟩
 clear hKx Kx hx
 (refine Goes.step rfl (fun _ h₁=>?_);replace hK:=BKn.rely hK h₁;clear h₁;refine goes_oper_k rfl rfl (by k_ne) (fun K9 hK9=>?_);go_simp;refine hK9 _ _ ⟨?_,?_⟩;(focus (refine zaf ?_;intro e he;have hm:=mem_listed he;simp [go_sem, *] at hm));clear hK9 K9;try w_num)
 have hmr:∀ w,(Builtin.min_ #[3,3] 3 #[.int .i64 4,.int .i64 n]).run Tryd.prog w=.ok (.int .i64 N) w:=fun w=>by rw [run_min_int2,hmin]
 have hme2:∀ w es,(Builtin.min_ #[3,3] 3 #[.int .i64 4,.int .i64 n]).events Tryd.prog w es=es:=fun w es=>rfl
 (refine Goes.step rfl (fun _ h₁=>?_);replace hK:=BKn.rely hK h₁;clear h₁;refine goes_oper_k rfl rfl (by k_ne) (fun K9 hK9=>?_);go_simp;refine hK9 _ _ ⟨?_,?_⟩;(focus (refine zaf ?_;intro e he;have hm:=mem_listed he;simp [go_sem, *] at hm));clear hK9 K9;try w_num)
 (refine Goes.step rfl (fun _ h₁=>?_);replace hK:=BKn.rely hK h₁;clear h₁;refine goes_oper_k rfl rfl (by k_ne) (fun K9 hK9=>?_);go_simp;refine hK9 _ _ ⟨?_,?_⟩;(focus (refine zaf ?_;intro e he;have hm:=mem_listed he;simp [go_sem, *] at hm));clear hK9 K9;try w_num)
 (refine Goes.step rfl (fun _ h₁=>?_);replace hK:=BKn.rely hK h₁;clear h₁;rw [stepG_region_end];simp only [goes_go];refine ⟨d1_e,?_⟩)
 (refine Goes.step rfl (fun _ h₁=>?_);replace hK:=BKn.rely hK h₁;clear h₁;rw [stepG_block];simp only [goes_go];refine ⟨d1_e,?_⟩)
 (refine Goes.step rfl (fun _ h₁=>?_);replace hK:=BKn.rely hK h₁;clear h₁;rw [stepG_loop];simp only [goes_go];refine ⟨d1_e,?_⟩)
 refine Goes.stop (fun w₁ h₁=>?_)
 refine ⟨⟨_,rfl,fun E hE=>?_⟩,hK.rely h₁⟩
 subst hE
 refine ⟨_,_,_,_,_,_,_,_,_,_,_,_,_,_,_,_,_,_,_,_,_,_,_,_,_,_,_,_,rfl,?_⟩
 simp [zee,zec,zco,zc5,zc6,zed,zcn]
end
end
end Go.Proofs.YtelgmbomkojmaaaDoor
