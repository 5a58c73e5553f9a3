/- A pack: Ve. -/
import Derived.Test.YtelgmbomkojmaaaDoorQYaj
import Derived.Conc.CompanyMem
namespace Go.Proofs.YtelgmbomkojmaaaDoor
set_option linter.all false
set_option maxRecDepth 100000
section
open Go.Conc Go.ConcN
section
variable {P:Program} {main:Bool} {ty:TypeId} {Wg:Nat} {ld:Bool} {Stop:(Nat→Prop)→(Nat→Prop)→Goroutine→World→Prop} {M o:Nat→Prop}
theorem zdc (K:Nat→Prop){a b:World}(h:b.heap.size=a.heap.size): more K a b=K:=by
 funext x
 have:¬ newB a b x:=fun ⟨h1,h2⟩=>by omega
 simp [more,this]
theorem Run.step0 {g:Goroutine}{w:World}(hs:g.status=.running)(h:∀ w₁,Oth ty Wg M w w₁→∃ g' w' es,stepG P main g w₁=.go g' w' es∧(w'.heap=w₁.heap∧w'.tape=w₁.tape∧w'.os=w₁.os∧w'.output=w₁.output)∧(∀ e∈es,ld=true∧EvI M o e) ∧
  Run P main ty Wg ld Stop M o g' w'): Run P main ty Wg ld Stop M o g w :=
 Run.step hs fun w₁ h₁=>by
  obtain ⟨g',w',es,k1,⟨k2,k3,k4,k5⟩,k6,k7⟩:=h w₁ h₁
  have hz:w'.heap.size=w₁.heap.size:=by rw [k2]
  refine ⟨g',w',es,k1,⟨fun b _ _=>by rw [k2],by omega,k3,k4,k5⟩,?_,?_⟩
  ·rw [zdc M hz,zdc o hz];exact k6
  ·rw [zdc M hz,zdc o hz];exact k7
def ziv (ops:Array Oper)(L:Array Bool): Bool:=(List.range ops.size).all fun j=>!(L.getD j false) || ((ops[j]?).map (fun x=>x.after.all fun e=>!(Region.binds .any e) || L.getD e.on false)).getD true
def zwq (ops:Array Oper)(L0:Array Bool): Bool:=L0.size == ops.size && (List.range ops.size).all fun i=>!(L0.getD i false) || !(ziv ops (L0.setIfInBounds i false)) || (Region.ready .any ops (L0.setIfInBounds i false)).all (· == i)
def AnyV (P:Program)(D:World→World→Array Event→Prop)(fn:FuncId)(ops:Array Oper)(S:World→Prop)(L0:Array Bool)(K:Act→Prop): Nat→Array Bool→Act→Prop
 | 0,L,a=>L=L0∧K a
 | n+1,L,a=>Region.ready .any ops L≠[]∧∀ i∈Region.ready .any ops L,∃ x v,ops[i]?=some x∧(Region.wanted x (yielded ops a.tmps)=true∧∀ w,S w→(execOp a.eval x).run P w=.ok (.value v) w∧D w w (listed P fn a x w))∧AnyV P D fn ops S L0 K n (L.setIfInBounds i true) (a.put x.dst v)
section
variable {D:World→World→Array Event→Prop} {fn:FuncId} {ops:Array Oper} {S:World→Prop} {L0:Array Bool} {K:Act→Prop}
theorem zt7 {L:Array Bool}{i:Nat}(h:ziv ops L=true)(hr:i∈Region.ready .any ops L): ziv ops (L.setIfInBounds i true)=true:=by
 unfold ziv at h ⊢
 rw [List.all_eq_true] at h ⊢
 intro j hj
 have hj1:=h j hj
 obtain ⟨hun,oi,hoi,hall⟩:=mem_ready.1 hr
 cases ho:ops[j]? with
 | none=>simp
 | some x =>
   simp only [ho,Option.map_some,Option.getD_some] at hj1 ⊢
   by_cases hji:i=j
   ·subst hji
    obtain rfl:oi=x:=Option.some.inj (hoi.symm.trans ho)
    rw [Bool.or_eq_true]
    refine .inr (Array.all_eq_true_iff_forall_mem.2 fun e he=>?_)
    cases hb:Region.binds .any e
    ·simp
    ·simp only [Bool.not_true,Bool.false_or];exact getD_set_true (hall e he hb)
   ·rw [Bool.or_eq_true] at hj1 ⊢
    rcases hj1 with hj1|hj1
    ·left;rw [getD_set_ne false hji];exact hj1
    ·right
     rw [Array.all_eq_true_iff_forall_mem] at hj1 ⊢
     intro e he
     have:=hj1 e he
     rw [Bool.or_eq_true] at this ⊢
     exact this.imp id getD_set_true
theorem zue {i:Nat}{oi:Oper}{v:Value}(hi:ops[i]?=some oi)(hsel:∀ (j:Nat) (x:Oper) cs b,ops[j]?=some x→x.op≠.select cs b)(hL:zwq ops L0=true):
  ∀ (n:Nat) (L:Array Bool) (a:Act),ziv ops L=true→(∀ j oj,ops[j]?=some oj→j≠i→L.getD j true=false→(∀ e∈oj.after,Region.binds .any e=true→e.on≠i)→oi.apart ops oj=true)→i∈Region.ready .any ops L →
   (Region.wanted oi (yielded ops a.tmps)=true∧∀ w,S w→(execOp a.eval oi).run P w=.ok (.value v) w∧D w w (listed P fn a oi w))→AnyV P D fn ops S L0 K n (L.setIfInBounds i true) (a.put oi.dst v)→AnyV P D fn ops S L0 K (n+1) L a:=by
 intro n
 induction n with
 | zero =>
   intro L a hcl hfree hr hy H
   refine ⟨fun h=>(by rw [h] at hr;cases hr),fun j hj=>?_⟩
   obtain ⟨h0,hK⟩:=H
   have hun:=(mem_ready.1 hr).1
   have hlt:i<L.size:=by
    rcases Nat.lt_or_ge i L.size with h|h
    ·exact h
    ·simp [Array.getElem?_eq_none h] at hun
   have hLf:L=L0.setIfInBounds i false:=by
    rw [← h0]
    apply Array.ext_getElem?
    intro k
    rw [Array.getElem?_setIfInBounds,Array.getElem?_setIfInBounds]
    by_cases hk:i=k
    ·subst hk
     simp [hlt] at hun ⊢
     exact hun
    ·simp [hk]
   have hon:L0.getD i false=true:=by rw [← h0];simp [hlt]
   have hsz:i<ops.size:=(Array.getElem?_eq_some_iff.1 hi).1
   unfold zwq at hL
   rw [Bool.and_eq_true,List.all_eq_true] at hL
   have hc:=hL.2 i (List.mem_range.2 hsz)
   rw [← hLf,hon,hcl] at hc
   simp only [Bool.not_true,Bool.false_or,List.all_eq_true,beq_iff_eq] at hc
   obtain rfl:=hc j hj
   exact ⟨oi,v,hi,hy,h0,hK⟩
 | succ n ih =>
   intro L a hcl hfree hr hy H
   refine ⟨fun h=>(by rw [h] at hr;cases hr),fun j hj=>?_⟩
   by_cases hji:j=i
   ·subst hji;exact ⟨oi,v,hi,hy,H⟩
   ·obtain ⟨oj,vj,hoj,hyj,Hj⟩:=H.2 j (ready_mono hj hji)
    obtain ⟨hjun,oj',hoj',hall⟩:=mem_ready.1 hj
    obtain rfl:oj'=oj:=Option.some.inj (hoj'.symm.trans hoj)
    have hnot:∀ e∈oj'.after,Region.binds .any e=true→e.on≠i:=fun e he hb heq=>by
     have h1:=hall e he hb
     have h0:=(mem_ready.1 hr).1
     rw [heq] at h1
     rcases Nat.lt_or_ge i L.size with h'|h'
     ·simp [h'] at h0 h1;rw [h0] at h1;cases h1
     ·simp [Array.getElem?_eq_none h'] at h1
    have hap:=hfree j oj' hoj hji hjun hnot
    obtain ⟨h1,h2,h3⟩:=Oper.apart_spec hap
    have e1:=execOp_put oj' (fun cs b=>hsel j oj' cs b hoj) a oi.dst v h1
    have w1:=wanted_put oj' a oi.dst v h1
    refine ⟨oj',vj,hoj,⟨by rw [← w1];exact hyj.1,fun w hS=>?_⟩,ih (L.setIfInBounds j true) (a.put oj'.dst vj) (zt7 hcl hj) (fun k ok hk hki hun hno=>?_) (ready_mono hr (Ne.symm hji)) ⟨?_,fun w hS=>?_⟩ ?_⟩
    ·have:=hyj.2 w hS
     unfold listed at this ⊢
     rw [e1] at this
     exact this
    ·refine hfree k ok hk hki ?_ hno
     by_cases hjk:j=k
     ·subst hjk;exact hjun
     ·rw [getD_set_ne true hjk] at hun;exact hun
    ·rw [wanted_put oi a oj'.dst vj h3];exact hy.1
    ·have:=hy.2 w hS
     unfold listed at this ⊢
     rw [execOp_put oi (fun cs b=>hsel i oi cs b hi) a oj'.dst vj h3]
     exact this
    ·rw [Array.setIfInBounds_comm _ _ hji,← Act.put_comm a v vj h2]
     exact Hj
theorem zbg {i:Nat}{oi:Oper}{v:Value}{n:Nat}{L:Array Bool}{a:Act}(hi:ops[i]?=some oi)(hs:Region.noSelect ops=true)(hL:zwq ops L0=true)(hc:ziv ops L=true)(hf:Region.free .any ops L i=true)(hr:(Region.ready .any ops L).contains i=true)(hw:Region.wanted oi (yielded ops a.tmps)=true)(hy:∀ w,S w→(execOp a.eval oi).run P w=.ok (.value v) w∧D w w (listed P fn a oi w))(h:AnyV P D fn ops S L0 K n (L.setIfInBounds i true) (a.put oi.dst v)):
  AnyV P D fn ops S L0 K (n+1) L a :=
 zue hi (Region.noSelect_spec hs) hL n L a hc (Region.free_spec hi hf) (by simpa using hr) ⟨hw,hy⟩ h
theorem zsg {b:Frame}{k:List Item}{cs:List Frame}(hb:b.fn=fn)(hk:b.kind≠.early)(hD:∀ w es,D w w es→∀ e∈es,ld=true∧EvI M o e)(hSR:∀ x y,S x→Oth ty Wg M x y→S y):
  ∀ (n:Nat) (L:Array Bool) (a:Act) (fuel t:Nat),AnyV P D fn ops S L0 K n L a→n≤fuel →
   (∀ a t w,K a→S w→Run P main ty Wg ld Stop M o (G (b.at a (.inRegion ops (Region.linearise.go .any ops (fuel - n) t L0 []) :: k)) cs) w) →
   ∀ w,S w→Run P main ty Wg ld Stop M o (G (b.at a (.inRegion ops (Region.linearise.go .any ops fuel t L []) :: k)) cs) w:=by
 intro n
 induction n with
 | zero =>
   intro L a fuel t h hf leaf w hS
   obtain ⟨rfl,hK⟩:=h
   exact leaf a t w hK hS
 | succ n ih =>
   intro L a fuel t h hf leaf w hS
   obtain ⟨f,rfl⟩:∃ f,fuel=f+1:=⟨fuel - 1,by omega⟩
   obtain ⟨hne,hall⟩:=h
   have hlt:t % (Region.ready .any ops L).length<(Region.ready .any ops L).length:=Nat.mod_lt _ (by cases h0:Region.ready .any ops L with|nil=>exact absurd h0 hne|cons=>simp)
   have hget:=List.getElem?_eq_getElem hlt
   generalize hi:(Region.ready .any ops L)[t % (Region.ready .any ops L).length]=i at hget
   have hin:i∈Region.ready .any ops L:=List.mem_of_getElem? hget
   obtain ⟨x,v,hx,⟨hw,hy⟩,hn⟩:=hall i hin
   have hlin:Region.linearise.go .any ops (f+1) t L []=i :: Region.linearise.go .any ops f (t / (Region.ready .any ops L).length) (L.setIfInBounds i true) []:=by
    simp only [Region.linearise.go]
    change (match (Region.ready .any ops L)[t % (Region.ready .any ops L).length]? with
     | some i=>Region.linearise.go .any ops f (t / (Region.ready .any ops L).length) (L.setIfInBounds i true) [i]
     | none=>[].reverse)=_
    rw [hget]
    simp only []
    rw [linearise_go_acc,List.reverse_singleton,List.singleton_append]
   rw [hlin]
   refine Run.step0 rfl fun w₁ h₁=>?_
   have hS1:=hSR _ _ hS h₁
   refine ⟨_,_,_,stepG_value hx hw hk (hy w₁ hS1).1,⟨rfl,rfl,rfl,rfl⟩,hD w₁ _ (hb ▸ (hy w₁ hS1).2),?_⟩
   exact ih _ _ f _ hn (by omega) (fun a t w hK hS=>by have:=leaf a t w hK hS;rwa [Nat.add_sub_add_right] at this) w₁ hS1
theorem zm6 {c fuel t:Nat}{L:Array Bool}(h:Region.ready .any ops L=[c]): Region.linearise.go .any ops (fuel+1) t L []=c :: Region.linearise.go .any ops fuel t (L.setIfInBounds c true) []:=by
 simp only [Region.linearise.go]
 change (match (Region.ready .any ops L)[t % (Region.ready .any ops L).length]? with
  | some i=>Region.linearise.go .any ops fuel (t / (Region.ready .any ops L).length) (L.setIfInBounds i true) [i]
  | none=>[].reverse)=_
 rw [h]
 simp only [List.length_singleton,Nat.mod_one,Nat.div_one,List.getElem?_cons_zero]
 rw [linearise_go_acc,List.reverse_singleton,List.singleton_append]
theorem zy4 {b:Frame}{a:Act}{id:Nat}{k:List Item}{cs:List Frame}(hm:P.follows .mixedOrders=true)(hSR:∀ x y,S x→Oth ty Wg M x y→S y){w:World}(hS:S w)(h:∀ t w,S w→Run P main ty Wg ld Stop M o (G (b.at a (.inRegion ops (Region.linearise.go .any ops ops.size t (Array.replicate ops.size false) []) :: k)) cs) w): Run P main ty Wg ld Stop M o (G (b.at a (.code (.region id ops true) :: k)) cs) w :=
 Run.step0 rfl fun w₁ h₁=>by
  refine ⟨_,_,_,stepG_region_draw,⟨rfl,rfl,rfl,rfl⟩,fun e he=>by simp at he,?_⟩
  simp only [Region.schedule,hm,Bool.true_or,if_true]
  exact h _ _ (hSR _ _ (hSR _ _ hS h₁) (Oth.at M w₁ _))
end
end
end
end Go.Proofs.YtelgmbomkojmaaaDoor
