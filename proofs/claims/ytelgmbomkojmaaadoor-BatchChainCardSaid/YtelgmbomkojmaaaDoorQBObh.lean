/- A pack: Bq Bo. -/
import Derived.SevenTiedAt
import Derived.Test.YtelgmbomkojmaaaDoorQWbg
import Derived.Test.YtelgmbomkojmaaaDoorQLac
namespace Go.Proofs.YtelgmbomkojmaaaDoor
set_option linter.all false
set_option maxRecDepth 100000
open Exts (ext stop anyOk gapOk)
section
open Go
theorem zuv (Lk:Looks){p:Pinned}{s:OpenSpec}{c:OpenClaim}(kinds:List LaidKind)(tests:Bool)(har:Bool×String)(lk:Bool)(hc:c.holds p s)(hw:c.wfByText s=true)(htie:c.laidByTextAt Lk p kinds tests)(hst:c.start=.entering)(hnb:c.noBlocks=false∧c.again=false)(hm:p.checked.prog.mainIs=some (har.1,har.2.toList))(hn:(!har.1 && har.2.isEmpty && !lk)=false)(hl:∀ f fn,p.checked.prog.funcNamed c.func=some f→p.checked.prog.funcs[f]?=some fn→lk=p.checked.prog.looks []∧∀ (j:Nat) t,fn.params[j]?=some t→p.checked.prog.wantsStandIn t=false)(hg:true=c.goesBy p.checked.prog):
  Claim7.holds p (.plain s) { stood:={ row:=c,standIns:=[],harness:=har,looks:=lk },kinds:=[],alts:=[],goes:=true,laidByText:=true,laidKinds:=kinds,laidTests:=tests,laidLooks:=Lk }:=by
 have h6:∀ r:OpenClaim,Claim7.isSixth { stood:={ row:=r,standIns:=[],harness:=har,looks:=lk },kinds:=[] }=false:=fun r=>by simpa [Claim7.isSixth] using hn
 exact ⟨Claim7.tied_new_at Lk kinds tests (Claim7.new_of_sixth hc har lk hst hnb hm (h6 c) hl) hw,fun D hD=>(by cases hD),htie,(fun h=>by cases h),hg⟩
end
section
open Go.ChangeShapes Go.WideShapes Go.ChangeAt Go.RowKit
def Op1 (W:World)(v:Value)(n c:Nat)(V:Nat→Value): Prop:=n≤c∧c≤maxLen ∧
 ((v=.slice none 0 0∧n=0∧c=0)∨(∃ a,v=.slice (some a) 0 0∧n=0∧c=0) ∨
  (0<c∧∃ (b o:Nat) (c':Array Value) (e:TypeId) (fr:Nat×Nat),v=.slice (some ⟨b,o,none⟩) n c∧W.heap[b]?=some (Obj.cells c' e fr)∧∀ i,i<n→c'[i+o]?=some (V i)))
theorem zjr {W:World}{b o:Nat}{v:Value}(h:W.cell? ⟨b,o,none⟩=some v): ∃ (c':Array Value) (e:TypeId) (fr:Nat×Nat),W.heap[b]?=some (Obj.cells c' e fr)∧c'[o]?=some v:=by
 unfold World.cell? at h
 cases hb:W.heap[b]? with
 | none=>simp [hb] at h
 | some ob =>
   cases ob with
   | cells c t fr =>
     simp only [hb] at h
     exact ⟨c,t,fr,rfl,h⟩
   | _=>simp [hb] at h
section
variable {H:Type} {enc:TypeId×Value→H} {W:World} {b0:Nat} {held:Bool}
theorem z1b {t e:TypeId}{fuel:Nat}{v:Value}{y:DataW H×List MemPlace}(ht:Tryd.prog.underlying t=some (.slice e))(hc:Tryd.prog.cellsOf e=1)(h:DataW.trod enc Tryd.prog W b0 (fun _=>true) held fuel t [v]=some y):
  ∃ (n c n':Nat) (V:Nat→Value) (D:Nat→DataW H) (Pl:Nat→List MemPlace),Op1 W v n c V∧∀ i,i<n→DataW.trod enc Tryd.prog W b0 (fun _=>true) held n' e [V i]=some (D i,Pl i):=by
 rcases Deep.open_slice1 ht hc h with ⟨hv,hy⟩|⟨a,len,cap,m,n',V,D,Pl,hv,hb,hl,hm,hmm,hy,hi⟩
 ·simp at hv
  exact ⟨0,0,0,fun _=>undef,fun _=>.nil,fun _=>[],⟨Nat.le_refl _,Nat.zero_le _,.inl ⟨hv,rfl,rfl⟩⟩,fun i hi=>absurd hi (Nat.not_lt_zero i)⟩
 ·simp at hv
  have hmc:m=cap:=by rw [hmm];simp
  subst hmc
  refine ⟨len,m,n',V,D,Pl,⟨hl,hm,?_⟩,fun i hi'=>(hi i (by omega)).2⟩
  by_cases h0:m=0
  ·have:len=0:=by omega
   subst h0 this
   exact .inr (.inl ⟨a,hv,rfl,rfl⟩)
  ·refine .inr (.inr ⟨by omega,?_⟩)
   obtain ⟨b,off,spot⟩:=a
   have c0:=(hi 0 (by omega)).1
   have hs:spot=none:=by simpa [Addr.add] using World.cell?_spot c0
   subst hs
   rw [zb6] at c0
   obtain ⟨c',e',fr,h1,h2⟩:=zjr c0
   refine ⟨b,off,c',e',fr,hv,h1,fun i hi'=>?_⟩
   have ci:=(hi i (by omega)).1
   rw [zb6] at ci
   obtain ⟨c2,e2,fr2,h3,h4⟩:=zjr ci
   rw [h1] at h3
   cases h3
   rw [Nat.add_comm]
   exact h4
theorem zrw {t e:TypeId}{k:IntKind}{fuel:Nat}{v:Value}{y:DataW H×List MemPlace}(ht:Tryd.prog.underlying t=some (.slice e))(he:Tryd.prog.underlying e=some (.int k))(hc:Tryd.prog.cellsOf e=1)(h:DataW.trod enc Tryd.prog W b0 (fun _=>true) held fuel t [v]=some y):
  ∃ (c:Nat) (xs:List Int),Op1 W v xs.length c (fun i=>.int k (xs.getD i 0))∧∀ x∈xs,(Lit.int k x).wf=true:=by
 obtain ⟨n,c,n',V,D,Pl,⟨h1,h2,h3⟩,hV⟩:=z1b ht hc h
 have hz:∀ i,i<n→∃ z,V i=.int k z∧(Lit.int k z).wf=true:=fun i hi=>by
  obtain ⟨z,e1,e2,wz⟩:=DataW.trod_int he (hV i hi)
  simp at e1
  exact ⟨z,e1,wz⟩
 obtain ⟨f,hf⟩:=Deep.choose_lt hz
 have hl:((List.range n).map f).length=n:=by simp
 refine ⟨c,(List.range n).map f,?_,fun x hx=>?_⟩
 ·rw [hl]
  refine ⟨h1,h2,?_⟩
  rcases h3 with h3|h3|⟨h0,b,o,c',e',fr,h4,h5,h6⟩
  ·exact .inl h3
  ·exact .inr (.inl h3)
  ·refine .inr (.inr ⟨h0,b,o,c',e',fr,h4,h5,fun i hi=>?_⟩)
   rw [h6 i hi,(hf i hi).1]
   simp [List.getD,hi]
 ·obtain ⟨i,hi,rfl⟩:=List.mem_map.1 hx
  exact (hf i (by simpa using hi)).2
theorem zv9 {fuel:Nat}{v:Value}{y:DataW H×List MemPlace}(h:DataW.trod enc Tryd.prog W b0 (fun _=>true) held fuel 22 [v]=some y):
  ∃ (c:Nat) (V:Nat→Value) (L:List (List Int)) (C:Nat→Nat),Op1 W v L.length c V∧(∀ i,i<L.length→Op1 W (V i) (L.getD i []).length (C i) (fun j=>.int .u8 ((L.getD i []).getD j 0)))∧∀ xs∈L,Byt xs:=by
 obtain ⟨n,c,n',V,D,Pl,h3,hV⟩:=z1b Tryd.underlying22 (by kernel_rfl) h
 have hz:∀ i,i<n→∃ p:Nat×List Int,Op1 W (V i) p.2.length p.1 (fun j=>.int .u8 (p.2.getD j 0))∧Byt p.2:=fun i hi=>by
  obtain ⟨ci,xs,h1,h2⟩:=zrw Tryd.underlying33 Tryd.underlying5 (by kernel_rfl) (hV i hi)
  refine ⟨(ci,xs),h1,fun x hx=>?_⟩
  have:(decide ((0:Int)≤x) && decide (x≤(255:Int)))=true:=h2 x hx
  simpa using this
 obtain ⟨f,hf⟩:=Deep.choose_lt hz
 have hl:((List.range n).map fun i=>(f i).2).length=n:=by simp
 have hg:∀ i,i<n→((List.range n).map fun i=>(f i).2).getD i []=(f i).2:=fun i hi=>by simp [List.getD,hi]
 refine ⟨c,V,(List.range n).map fun i=>(f i).2,fun i=>(f i).1,by rw [hl];exact h3,fun i hi=>?_,fun xs hx=>?_⟩
 ·rw [hl] at hi
  rw [hg i hi]
  exact (hf i hi).1
 ·obtain ⟨i,hi,rfl⟩:=List.mem_map.1 hx
  exact (hf i (by simpa using hi)).2
end
def zhn (idx:Nat)(v:Value): Value:=match v with
 | .slice (some _) n c=>if c=0 then .slice none 0 0 else .slice (some ⟨idx,0,none⟩) n c
 | v=>v
def win1 (v:Value)(cs:Array Value): Win:=match v with
 | .slice (some a) _ c=>if c=0 then ⟨0,0,#[]⟩ else ⟨a.block,a.off,cs⟩
 | _=>⟨0,0,#[]⟩
theorem zhm (idx:Nat)(a:Addr): zhn idx (.slice (some a) 0 0)=.slice none 0 0:=by simp [zhn]
theorem zfo (idx:Nat)(a:Addr){n c:Nat}(h:0<c): zhn idx (.slice (some a) n c)=.slice (some ⟨idx,0,none⟩) n c:=by
 simp only [zhn]
 rw [if_neg (by omega)]
theorem ze1 (b o:Nat){n c:Nat}(cs:Array Value)(h:0<c): win1 (.slice (some ⟨b,o,none⟩) n c) cs=⟨b,o,cs⟩:=by
 simp only [win1]
 rw [if_neg (by omega)]
section
variable {W:World} {ws:List Win} {v:Value} {n c i:Nat} {V:Nat→Value} {cs:Array Value}
theorem zhk (h:Op1 W v n c V)(hx:ws[i]?=some (win1 v cs)): @VRel E2 (oldW ws) (zhn (i+1) v) v:=by
 obtain ⟨_,_,h3⟩:=h
 rcases h3 with ⟨rfl,rfl,rfl⟩|⟨a,rfl,rfl,rfl⟩|⟨h0,b,o,c',e,fr,rfl,h4,h5⟩
 ·exact @VRel.nils E2 _ 0 0
 ·rw [zhm]
  exact @VRel.gap E2 _ a rfl
 ·rw [zfo _ _ h0]
  rw [ze1 _ _ _ h0] at hx
  refine @VRel.slice E2 _ _ _ n c ⟨rfl,b,o,?_,by rw [Nat.zero_add]⟩
  show (if i+1=0 then some (0,0) else (ws[i+1 - 1]?).map fun x=>(x.b,x.d))=_
  rw [if_neg (Nat.succ_ne_zero i),Nat.add_sub_cancel,hx]
  rfl
theorem zhj (h:Op1 W v n c V){N:Nat}(hi:i<N): @VRel E3 (oldI (1+N)) (zhn (i+1) v) (zhn (i+1) v):=by
 obtain ⟨_,_,h3⟩:=h
 rcases h3 with ⟨rfl,rfl,rfl⟩|⟨a,rfl,rfl,rfl⟩|⟨h0,b,o,c',e,fr,rfl,h4,h5⟩
 ·exact @VRel.nils E3 _ 0 0
 ·rw [zhm]
  exact @VRel.nils E3 _ 0 0
 ·rw [zfo _ _ h0]
  refine @VRel.slice E3 _ _ _ n c ⟨rfl,i+1,0,?_,rfl⟩
  show (if i+1<1+N then some (i+1,0) else none)=_
  rw [if_pos (by omega)]
theorem zmk (h:Op1 W v n c V)(ht:zok W){σ:Nat→Option (Nat×Nat)}(hcs:∀ (j:Nat) u,cs[j]?=some u→j<n∧@VRel E2 σ u (V j)):
  ∃ c' e fr,W.heap[(win1 v cs).b]?=some (.cells c' e fr)∧∀ (j:Nat) u,(win1 v cs).c[j]?=some u→∃ v',c'[j+(win1 v cs).d]?=some v'∧@VRel E2 σ u v':=by
 obtain ⟨c0,e0,fr0,t1,_⟩:=ht
 obtain ⟨_,_,h3⟩:=h
 rcases h3 with ⟨rfl,rfl,rfl⟩|⟨a,rfl,rfl,rfl⟩|⟨h0,b,o,c',e,fr,rfl,h4,h5⟩
 ·exact ⟨c0,e0,fr0,t1,fun j u hu=>(by simp [win1] at hu)⟩
 ·exact ⟨c0,e0,fr0,t1,fun j u hu=>(by simp [win1] at hu)⟩
 ·rw [ze1 _ _ _ h0]
  exact ⟨c',e,fr,h4,fun j u hu=>⟨V j,h5 j (hcs j u hu).1,(hcs j u hu).2⟩⟩
theorem zmj {σ:Nat→Option (Nat×Nat)}(hcs:∀ (j:Nat) u,cs[j]?=some u→@VRel E3 σ u u): ∀ (j:Nat) u,(win1 v cs).c[j]?=some u→@VRel E3 σ u u:=by
 intro j u hu
 unfold win1 at hu
 split at hu
 ·split at hu
  ·simp at hu
  ·exact hcs j u hu
 ·simp at hu
theorem zkp (h:Op1 W v n c V){w:World}(hw:w.heap=(za6 W ws).heap)(hx:ws[i]?=some (win1 v cs))(hn:cs.size=n): ∃ A,zhn (i+1) v=.slice A n c∧Rd w A cs.toList:=by
 obtain ⟨_,_,h3⟩:=h
 rcases h3 with ⟨rfl,rfl,rfl⟩|⟨a,rfl,rfl,rfl⟩|⟨h0,b,o,c',e,fr,rfl,h4,h5⟩
 ·exact ⟨none,rfl,.inl (by simpa using hn)⟩
 ·exact ⟨none,zhm _ _,.inl (by simpa using hn)⟩
 ·rw [ze1 _ _ _ h0] at hx
  have hb:w.heap[i+1]?=some (Obj.cells cs badT (0,cs.size)):=by rw [hw,zb8,hx];rfl
  refine ⟨some ⟨i+1,0,none⟩,zfo _ _ h0,.inr ⟨i+1,0,rfl,(Array.getElem?_eq_some_iff.1 hb).1,fun j u hu=>?_⟩⟩
  unfold World.cell?
  rw [Nat.zero_add]
  simp only [hb]
  simpa using hu
theorem zql (ht:zok W){w:World}(hw:w.heap=(za6 W ws).heap): za2 w:=fun j hj=>by
 obtain ⟨c0,e0,fr0,t1,t2,t3⟩:=ht
 have hb:w.heap[0]?=some (Obj.cells c0 e0 (0,c0.size)):=by
  rw [hw,zcp]
  unfold zmo
  rw [t1]
 unfold World.cell?
 show (match w.heap[(0:Nat)]? with|some (Obj.cells c _ _)=>_|_=>_)=_
 simp only [hb]
 exact t3 j hj
end
def zn9 (L:List (List Int))(V:Nat→Value): List Win:=(List.range L.length).map fun i=>win1 (V i) (nums .u8 (L.getD i [])).toArray
def rowL (k:Nat)(V:Nat→Value)(n:Nat): Array Value:=((List.range n).map fun i=>zhn (k+i+1) (V i)).toArray
section
variable {W:World} {ws:List Win} {L:List (List Int)} {V:Nat→Value} {C:Nat→Nat} {k:Nat}
theorem zvn {n i:Nat}{u:Value}(h:(rowL k V n)[i]?=some u): i<n∧u=zhn (k+i+1) (V i):=by
 unfold rowL at h
 have hi:i<n:=by
  have:=(Array.getElem?_eq_some_iff.1 h).1
  simpa using this
 refine ⟨hi,?_⟩
 simp [hi] at h
 exact h.symm
theorem zrx {xs:List Int}{kd:IntKind}{j:Nat}{u:Value}(h:(nums kd xs).toArray[j]?=some u): j<xs.length∧u=.int kd (xs.getD j 0):=by
 have hj:j<xs.length:=by
  have:=(Array.getElem?_eq_some_iff.1 h).1
  simpa [nums] using this
 refine ⟨hj,?_⟩
 have h2:(nums kd xs)[j]?=some u:=by simpa using h
 rw [za9 hj] at h2
 exact (Option.some.inj h2).symm
theorem zm1 {xs:List Int}{X:Exts}{σ:Nat→Option (Nat×Nat)}{kd:IntKind}(j:Nat)(u:Value)(h:(nums kd xs).toArray[j]?=some u): j<xs.length∧@VRel X σ u (.int kd (xs.getD j 0)):=by
 obtain ⟨hj,rfl⟩:=zrx h
 exact ⟨hj,@VRel.int X σ kd _⟩
theorem zm2 {xs:List Int}{X:Exts}{σ:Nat→Option (Nat×Nat)}{kd:IntKind}(j:Nat)(u:Value)(h:(nums kd xs).toArray[j]?=some u): @VRel X σ u u:=by
 obtain ⟨_,rfl⟩:=zrx h
 exact @VRel.int X σ kd _
theorem zs5 (hp:∀ i,i<L.length→Op1 W (V i) (L.getD i []).length (C i) (fun j=>.int .u8 ((L.getD i []).getD j 0)))(hws:∀ i,i<L.length→ws[k+i]?=some (win1 (V i) (nums .u8 (L.getD i [])).toArray)){w:World}(hw:w.heap=(za6 W ws).heap):
  zdh w (rowL k V L.length).toList L:=by
 refine ⟨by simp [rowL],fun i hi=>?_⟩
 obtain ⟨A,e,hr⟩:=zkp (hp i hi) hw (hws i hi) (by simp [nums])
 refine ⟨A,C i,?_,(hp i hi).1,(hp i hi).2.1,by simpa using hr⟩
 rw [← e]
 simp [rowL,List.getD,hi]
theorem zv3 {i:Nat}(hi:i<L.length): (zn9 L V)[i]?=some (win1 (V i) (nums .u8 (L.getD i [])).toArray):=by simp [zn9,hi]
theorem zs6 {x:Win}(h:x∈zn9 L V): ∃ i,i<L.length∧x=win1 (V i) (nums .u8 (L.getD i [])).toArray:=by
 obtain ⟨i,hi,rfl⟩:=List.mem_map.1 h
 exact ⟨i,by simpa using hi,rfl⟩
end
end
end Go.Proofs.YtelgmbomkojmaaaDoor
