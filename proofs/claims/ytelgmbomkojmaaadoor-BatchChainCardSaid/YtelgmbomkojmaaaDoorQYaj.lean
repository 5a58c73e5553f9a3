/- A pack: Ya Yb Yc Yd Ye Yf Yg Yh Yi Yj. -/
import Derived.Conc.Beside
import Derived.Conc.CrowdRun
import Derived.Conc.CrowdSel
namespace Go.Proofs.YtelgmbomkojmaaaDoor
set_option linter.all false
set_option maxRecDepth 100000
section
open Go.Conc Go.ConcN
open Go.ConcR (KK wgBlock WgAt stA smA rd wr mk Bk)
structure Oth (ty:TypeId)(Wg:Nat)(M:Nat→Prop)(w w₁:World): Prop where
 keep:∀ b,M b→w₁.heap[b]?=w.heap[b]?
 size:w.heap.size≤w₁.heap.size
 tape:w₁.tape=w.tape
 os:w₁.os=w.os
 out:w₁.output=w.output
 live:WgLive ty Wg w→WgLive ty Wg w₁
structure Own1 (o:Nat→Prop)(w w':World): Prop where
 stay:∀ b,b<w.heap.size→¬ o b→w'.heap[b]?=w.heap[b]?
 size:w.heap.size≤w'.heap.size
 tape:w'.tape=w.tape
 os:w'.os=w.os
 out:w'.output=w.output
def newB (w w':World)(b:Nat): Prop:=w.heap.size≤b∧b<w'.heap.size
def more (M:Nat→Prop)(w w':World)(b:Nat): Prop:=M b∨newB w w' b
def EvI (M o:Nat→Prop)(e:Event): Prop :=
 match e.loc with
 | .cell a=>e.sync=false∧M a.block∧(e.write=true→o a.block)
 | .obj r=>e.sync=false∧M r∧(e.write=true→o r)
 | .mark .noRoom=>True
 | .mark (.extern _)=>True
 | _=>False
inductive Tr where
 | leaf
 | node (f:World→Tr)
def Sub (a b:Tr): Prop:=∃ f w,b=.node f∧a=f w
theorem zpj:∀ t:Tr,Acc Sub t
 | .leaf=>.intro _ fun a ⟨f,w,h,_⟩=>by cases h
 | .node f=>.intro _ fun a ⟨f',w,h,e⟩=>by cases h;subst e;exact zpj (f w)
theorem z3l:WellFounded Sub:=⟨zpj⟩
inductive SubL:List Tr→List Tr→Prop
 | head {a b:Tr} {l:List Tr} (h:Sub a b):SubL (a :: l) (b :: l)
 | tail {a:Tr} {l m:List Tr} (h:SubL l m):SubL (a :: l) (a :: m)
theorem zu2 {a:Tr}(h1:Acc Sub a): ∀ l:List Tr,Acc SubL l→Acc SubL (a :: l):=by
 induction h1 with
 | intro a _ ih1 =>
   intro l h2
   induction h2 with
   | intro l hl ih2 =>
     refine .intro _ fun m h=>?_
     cases h with
     | head h=>exact ih1 _ h l (.intro _ hl)
     | tail h=>exact ih2 _ h
theorem zq9:∀ l:List Tr,Acc SubL l
 | []=>.intro _ fun a h=>by cases h
 | a :: l=>zu2 (zpj a) l (zq9 l)
theorem z1t:WellFounded SubL:=⟨zq9⟩
theorem zyt {l:List Tr}{i:Nat}{a b:Tr}(h:l[i]?=some b)(hs:Sub a b): SubL (l.set i a) l:=by
 induction l generalizing i with
 | nil=>simp at h
 | cons x l ih =>
   cases i with
   | zero=>simp at h;subst h;exact .head hs
   | succ i=>exact .tail (ih (by simpa using h))
def Meas:=Nat×List Tr×Tr×Nat
def Less:Meas→Meas→Prop:=Prod.Lex (·<·) (Prod.Lex SubL (Prod.Lex Sub (·<·)))
theorem z2p:WellFounded Less:=(Prod.lex ⟨_,Nat.lt_wfRel.wf⟩ (Prod.lex ⟨_,z1t⟩ (Prod.lex ⟨_,z3l⟩ ⟨_,Nat.lt_wfRel.wf⟩))).wf
def zlj:Nat→Tr
 | 0=>.leaf
 | n+1=>.node fun _=>zlj n
theorem z3q {P:Program}{Inv:Meas→Machine→Trace→Prop}{Goal:Machine→Trace→Prop}(h:∀ μ m t,Inv μ m t→Goal m t∨∃ m' ops μ',stepT P m=(.next m',ops)∧Less μ' μ∧Inv μ' m' (t++ops)):
  ∀ μ m t,Inv μ m t→∃ N m' t',runNT P N m t=(.next m',t')∧Goal m' t':=by
 intro μ
 induction μ using z2p.induction with
 | _ μ ih =>
   intro m t hI
   rcases h μ m t hI with hg|⟨m',ops,μ',hs,hr,hI'⟩
   ·exact ⟨0,m,t,rfl,hg⟩
   ·obtain ⟨N,m2,t2,h1,h2⟩:=ih μ' hr m' (t++ops) hI'
    exact ⟨N+1,m2,t2,by rw [runNT_succ_next hs];exact h1,h2⟩
section
variable {P:Program} {main:Bool} {ty:TypeId} {Wg:Nat}
def RunT (P:Program)(main:Bool)(ty:TypeId)(Wg:Nat)(ld:Bool)(Stop:(Nat→Prop)→(Nat→Prop)→Goroutine→World→Prop): Tr→(Nat→Prop)→(Nat→Prop)→Goroutine→World→Prop
 | .leaf,M,o,g,w=>∀ w₁,Oth ty Wg M w w₁→Stop M o g w₁
 | .node f,M,o,g,w=>(∀ w₁,Oth ty Wg M w w₁→Stop M o g w₁)∨(g.status=.running∧∀ w₁,Oth ty Wg M w w₁→∃ g' w' es,stepG P main g w₁=.go g' w' es∧Own1 o w₁ w'∧(∀ e∈es,ld=true∧EvI (more M w₁ w') (more o w₁ w') e) ∧
   RunT P main ty Wg ld Stop (f w₁) (more M w₁ w') (more o w₁ w') g' w')
def Run (P:Program)(main:Bool)(ty:TypeId)(Wg:Nat)(ld:Bool)(Stop:(Nat→Prop)→(Nat→Prop)→Goroutine→World→Prop)(M o:Nat→Prop)(g:Goroutine)(w:World): Prop:=∃ tr,RunT P main ty Wg ld Stop tr M o g w
theorem Oth.refl (M:Nat→Prop)(w:World): Oth ty Wg M w w:=⟨fun _ _=>rfl,Nat.le_refl _,rfl,rfl,rfl,id⟩
theorem Oth.trans {M:Nat→Prop}{a b c:World}(h:Oth ty Wg M a b)(h':Oth ty Wg M b c): Oth ty Wg M a c :=
 ⟨fun k hk=>(h'.keep k hk).trans (h.keep k hk),Nat.le_trans h.size h'.size,h'.tape.trans h.tape,h'.os.trans h.os,h'.out.trans h.out,h'.live ∘ h.live⟩
theorem Oth.weak {M M':Nat→Prop}{a b:World}(h:Oth ty Wg M a b)(hM:∀ b,M' b→M b): Oth ty Wg M' a b:=⟨fun k hk=>h.keep k (hM k hk),h.size,h.tape,h.os,h.out,h.live⟩
theorem Oth.at (M:Nat→Prop)(w:World)(d:Nat): Oth ty Wg M w (w.at d):=⟨fun _ _=>rfl,Nat.le_refl _,rfl,rfl,rfl,id⟩
theorem Own1.rfl' {o:Nat→Prop}{w:World}: Own1 o w w:=⟨fun _ _ _=>rfl,Nat.le_refl _,rfl,rfl,rfl⟩
variable {ld:Bool} {Stop:(Nat→Prop)→(Nat→Prop)→Goroutine→World→Prop} {M o:Nat→Prop} {g:Goroutine} {w w₁:World}
theorem RunT.rely {tr:Tr}(h:RunT P main ty Wg ld Stop tr M o g w)(hr:Oth ty Wg M w w₁): RunT P main ty Wg ld Stop tr M o g w₁:=by
 cases tr with
 | leaf=>exact fun w₂ h₂=>h w₂ (hr.trans h₂)
 | node f =>
   rcases h with h|⟨hs,h⟩
   ·exact .inl fun w₂ h₂=>h w₂ (hr.trans h₂)
   ·exact .inr ⟨hs,fun w₂ h₂=>h w₂ (hr.trans h₂)⟩
theorem RunT.running {tr:Tr}(hS:∀ M o g w,Stop M o g w→g.status=.running)(h:RunT P main ty Wg ld Stop tr M o g w): g.status=.running:=by
 cases tr with
 | leaf=>exact hS _ _ _ _ (h w (.refl M w))
 | node f =>
   rcases h with h|⟨hs,_⟩
   ·exact hS _ _ _ _ (h w (.refl M w))
   ·exact hs
theorem Run.stop (h:∀ w₁,Oth ty Wg M w w₁→Stop M o g w₁): Run P main ty Wg ld Stop M o g w:=⟨.leaf,h⟩
open Classical in
theorem Run.step (hs:g.status=.running)(h:∀ w₁,Oth ty Wg M w w₁→∃ g' w' es,stepG P main g w₁=.go g' w' es∧Own1 o w₁ w'∧(∀ e∈es,ld=true∧EvI (more M w₁ w') (more o w₁ w') e) ∧
   Run P main ty Wg ld Stop (more M w₁ w') (more o w₁ w') g' w'): Run P main ty Wg ld Stop M o g w:=by
 have sk:∀ w₁,∃ tr,Oth ty Wg M w w₁→∃ g' w' es,stepG P main g w₁=.go g' w' es∧Own1 o w₁ w'∧(∀ e∈es,ld=true∧EvI (more M w₁ w') (more o w₁ w') e)∧RunT P main ty Wg ld Stop tr (more M w₁ w') (more o w₁ w') g' w':=fun w₁=>by
  by_cases hw:Oth ty Wg M w w₁
  ·obtain ⟨g',w',es,h1,h2,h3,tr,h4⟩:=h w₁ hw
   exact ⟨tr,fun _=>⟨g',w',es,h1,h2,h3,h4⟩⟩
  ·exact ⟨.leaf,fun hh=>absurd hh hw⟩
 obtain ⟨f,hf⟩:=Classical.axiomOfChoice sk
 exact ⟨.node f,.inr ⟨hs,hf⟩⟩
theorem Run.mono {Stop':(Nat→Prop)→(Nat→Prop)→Goroutine→World→Prop}(h:Run P main ty Wg ld Stop M o g w)(hS:∀ M o g w,Stop M o g w→Stop' M o g w): Run P main ty Wg ld Stop' M o g w:=by
 obtain ⟨tr,h⟩:=h
 refine ⟨tr,?_⟩
 induction tr generalizing M o g w with
 | leaf=>exact fun w₂ h₂=>hS _ _ _ _ (h w₂ h₂)
 | node f ih =>
   rcases h with h|⟨hs,h⟩
   ·exact .inl fun w₂ h₂=>hS _ _ _ _ (h w₂ h₂)
   ·exact .inr ⟨hs,fun w₂ h₂=>let ⟨g',w',es,k1,k2,k3,k4⟩:=h w₂ h₂;⟨g',w',es,k1,k2,k3,ih _ k4⟩⟩
theorem Run.bind {Stop':(Nat→Prop)→(Nat→Prop)→Goroutine→World→Prop}(h:Run P main ty Wg ld Stop M o g w)(hS:∀ M o g w,Stop M o g w→Run P main ty Wg ld Stop' M o g w): Run P main ty Wg ld Stop' M o g w:=by
 obtain ⟨tr,h⟩:=h
 induction tr generalizing M o g w with
 | leaf =>
   exact hS _ _ _ _ (h w (.refl M w))
 | node f ih =>
   rcases h with h|⟨hs,h⟩
   ·exact hS _ _ _ _ (h w (.refl M w))
   ·exact Run.step hs fun w₂ h₂=>let ⟨g',w',es,k1,k2,k3,k4⟩:=h w₂ h₂;⟨g',w',es,k1,k2,k3,ih _ k4⟩
theorem zgf {R:World→World→Prop}{D:World→World→Array Event→Prop}{S:Goroutine→World→Prop}(hR:∀ a b,Oth ty Wg M a b→R a b)(hD:∀ a b es,D a b es→Own1 o a b∧b.heap.size=a.heap.size∧∀ e∈es,ld=true∧EvI M o e): ∀ (n:Nat) (g:Goroutine) (w:World),Goes P main R D S n g w→Run P main ty Wg ld (fun M' o' g w=>M'=M∧o'=o∧S g w) M o g w:=by
 have same:∀ (K:Nat→Prop) (a b:World),b.heap.size=a.heap.size→more K a b=K:=fun K a b h=>by
  funext x
  have:¬ newB a b x:=fun ⟨h1,h2⟩=>by omega
  simp [more,this]
 intro n
 induction n with
 | zero=>exact fun g w h=>Run.stop fun w₁ h₁=>⟨rfl,rfl,h w₁ (hR _ _ h₁)⟩
 | succ n ih =>
   intro g w h
   rcases h with h|⟨hs,h⟩
   ·exact Run.stop fun w₁ h₁=>⟨rfl,rfl,h w₁ (hR _ _ h₁)⟩
   ·refine Run.step hs fun w₁ h₁=>?_
    have h2:=h w₁ (hR _ _ h₁)
    cases hg:stepG P main g w₁ with
    | go g' w' es =>
      rw [hg,goes_go] at h2
      obtain ⟨d1,d2,d3⟩:=hD _ _ _ h2.1
      refine ⟨g',w',es,rfl,d1,?_,?_⟩
      ·rw [same M _ _ d2,same o _ _ d2];exact d3
      ·rw [same M _ _ d2,same o _ _ d2];exact ih g' w' h2.2
    | _=>rw [hg] at h2;exact h2.elim
end
end
section
open Go.Conc Go.ConcN
open Go.ConcR (KK wgBlock WgAt stA smA rd wr mk Bk g_of_ofEvents)
def zdj:Loc→Option Nat
 | .cell a=>some a.block
 | .obj r=>some r
 | _=>none
theorem zx1 {l:Loc}{B b:Nat}(h:l.low B)(hb:zdj l=some b): b<B:=by
 cases l <;> simp [zdj] at hb <;> subst hb <;> exact h
def zet (Shun:Loc→Prop)(b:Nat): Prop:=∀ l,zdj l=some b→¬ Shun l
theorem znu {x:MemAct}{a:Touch}{B b:Nat}(h:x.low B)(ha:x.touch?=some a)(hb:zdj a.loc=some b): b<B:=by
 cases x with
 | access e=>simp only [MemAct.touch?,Option.some.injEq] at ha;subst ha;exact zx1 h hb
 | mark m=>cases m <;> simp [MemAct.touch?] at ha <;> subst ha <;> simp [zdj] at hb <;> subst hb <;> exact h
 | _=>simp [MemAct.touch?] at ha
structure TI (Shun:Loc→Prop)(Wg g0 J:Nat)(M o:Nat→Nat→Prop)(sz:Nat)(t:Trace): Prop where
 clean:∀ said,¬ Race said t
 kn:∀ j,j<J→∀ i a b,touchAt t i=some a→zdj a.loc=some b→M j b→(o j b∨a.write=true)→Knows t j i
 low:∀ op∈t,op.act.low sz
 quiet:Quiet (ShN Wg) t
 gs:∀ op∈t,op.g<J
 norel:NoRelease (stA Wg) t
 mem:∀ i a,touchAt t i=some a→a.loc.isMemory=true→Knows t 0 i∨((Shun a.loc∨ShN Wg a.loc)∧a.kind=.atomic)∨∃ k,g0≤k∧t.g? i=some k∧(a.kind=.atomic→ShN Wg a.loc)
 over:∀ i g,t.g? i=some g→g≠0→g<g0→t.counts i→∃ j,t.g? j=some 0∧HappensBefore t i j
structure Held (Wg J:Nat)(M o:Nat→Nat→Prop)(sz:Nat): Prop where
 sub:∀ j b,o j b→M j b
 apart:∀ i j,i<J→j<J→i≠j→∀ b,o i b→¬ M j b
 lt:∀ j b,M j b→b<sz
 noWg:∀ j,¬ M j Wg
 wg:Wg<sz
 out:∀ j,J≤j→∀ b,¬ M j b
section
variable {Shun:Loc→Prop} {Wg g0 J:Nat} {M o:Nat→Nat→Prop} {sz sz':Nat} {t u:Trace}
theorem zkm {said:Bool}(h:¬ Race said t)(hu:∀ op∈u,op.act.touch?=none): ¬ Race said (t++u):=by
 rintro ⟨i,j,hij,⟨a,b,ha,hb,hc⟩,n1,n2⟩
 have old:∀ {k:Nat} {x:Touch},((t++u).act? k).bind (·.touch?)=some x→(t.act? k).bind (·.touch?)=some x:=by
  intro k x hx
  obtain ⟨z,hz,hza⟩:=touch_of (t:=t++u) hx
  rcases getElem?_append_cases hz with ⟨_,hz'⟩|⟨_,hzu⟩
  ·simp [Trace.act?,hz',hza]
  ·rw [hu z hzu] at hza;cases hza
 exact h ⟨i,j,hij,⟨a,b,old ha,old hb,hc⟩,fun e=>n1 (hb_app u e),fun e=>n2 (hb_app u e)⟩
theorem g?_app {i g:Nat}(h:t.g? i=some g): (t++u).g? i=some g:=by
 obtain ⟨z,hz,hg⟩:=Option.map_eq_some_iff.1 h
 simp [Trace.g?,getElem?_append_old (u:=u) (lt_size_of_getElem? hz),hz,hg]
theorem zha (h:∀ i g,t.g? i=some g→g≠0→g<g0→t.counts i→∃ j,t.g? j=some 0∧HappensBefore t i j)(hu:∀ op∈u,op.g=0∨g0≤op.g∨op.act.touch?=none):
  ∀ i g,(t++u).g? i=some g→g≠0→g<g0→(t++u).counts i→∃ j,(t++u).g? j=some 0∧HappensBefore (t++u) i j:=by
 intro i g hg hne hlt hc
 obtain ⟨x,hx,hk⟩:=hc
 obtain ⟨op,hop,hox⟩:=touch_of hx
 rcases getElem?_append_cases hop with ⟨hi,hop'⟩|⟨_,hopu⟩
 ·have hg':t.g? i=some g:=by simpa [Trace.g?,getElem?_append_old hi] using hg
  obtain ⟨j,hj,hb⟩:=h i g hg' hne hlt ((counts_old hi).1 ⟨x,hx,hk⟩)
  exact ⟨j,g?_app hj,hb_app u hb⟩
 ·have hgo:op.g=g:=by simpa [Trace.g?,hop] using hg
  rcases hu op hopu with h0|h0|h0
  ·omega
  ·omega
  ·rw [h0] at hox;cases hox
theorem TI.mute (h:TI Shun Wg g0 J M o sz t)(hu:∀ op∈u,op.act.touch?=none∧op.g<J∧op.act.low sz∧op.act≠.mark (.release (stA Wg))): TI Shun Wg g0 J M o sz (t++u):=by
 have old:∀ {i:Nat} {a:Touch},touchAt (t++u) i=some a→touchAt t i=some a:=by
  intro i a ha
  obtain ⟨z,hz,hza⟩:=touch_of ha
  rcases getElem?_append_cases hz with ⟨_,hz'⟩|⟨_,hzu⟩
  ·rw [touchAt_of hz'];exact hza
  ·rw [(hu z hzu).1] at hza;cases hza
 refine ⟨fun said=>zkm (h.clean said) fun op hop=>(hu op hop).1,fun j hj i a b ha hb hM ho=>(h.kn j hj i a b (old ha) hb hM ho).app u,fun op hop=>(Array.mem_append.1 hop).elim (h.low op) (fun hop=>(hu op hop).2.2.1),
  h.quiet.app (fun op hop x hx _=>absurd ((hu op hop).1.symm.trans hx) (by simp)),fun op hop=>(Array.mem_append.1 hop).elim (h.gs op) (fun hop=>(hu op hop).2.1),h.norel.app (fun op hop=>(hu op hop).2.2.2),fun i a ha hm=>?_,
  zha h.over (fun op hop=>.inr (.inr (hu op hop).1))⟩
 rcases h.mem i a (old ha) hm with hk|hk|⟨k,hk,hg,hat⟩
 ·exact .inl (hk.app u)
 ·exact .inr (.inl hk)
 ·exact .inr (.inr ⟨k,hk,g?_app hg,hat⟩)
theorem TI.book (h:TI Shun Wg g0 J M o sz t)(hH:Held Wg J M o sz){i:Nat}(hi:i<J)(hu:∀ op∈u,op.g=i∧op.act.low sz∧op.act≠.mark (.release (stA Wg))∧∀ x,op.act.touch?=some x→ShN Wg x.loc∧x.kind≠.plain∧(x.kind=.said→i=0))(h0:i=0∨g0≤i): TI Shun Wg g0 J M o sz (t++u):=by
 have nw:∀ {k:Nat} {a:Touch},touchAt (t++u) k=some a→touchAt t k=some a∨∃ op∈u,(t++u)[k]?=some op∧op.act.touch?=some a:=by
  intro k a ha
  obtain ⟨z,hz,hza⟩:=touch_of ha
  rcases getElem?_append_cases hz with ⟨_,hz'⟩|⟨_,hzu⟩
  ·exact .inl (by rw [touchAt_of hz'];exact hza)
  ·exact .inr ⟨z,hzu,hz,hza⟩
 refine ⟨fun said=>noRace_append (h.clean said) (fun op hop=>(hu op hop).1) (fun k a ha op hop b hb hc=>?_),fun j hj k a b ha hb hM ho=>?_,fun op hop=>(Array.mem_append.1 hop).elim (h.low op) (fun hop=>(hu op hop).2.1),
  h.quiet.app (fun op hop x hx _=>?_),fun op hop=>(Array.mem_append.1 hop).elim (h.gs op) (fun hop=>(hu op hop).1 ▸ hi),h.norel.app (fun op hop=>(hu op hop).2.2.1),fun k a ha hm=>?_,
  zha h.over (fun op hop=>h0.elim (fun e=>.inl ((hu op hop).1.trans e)) (fun e=>.inr (.inl ((hu op hop).1 ▸ e))))⟩
 ·obtain ⟨k1,k2,k3⟩:=(hu op hop).2.2.2 b hb
  exact h.quiet.known k1 k2 k3 k a ha hc
 ·rcases nw ha with ha|⟨op,hop,_,hx⟩
  ·exact (h.kn j hj k a b ha hb hM ho).app u
  ·obtain ⟨x,e,hb2⟩:=((hu op hop).2.2.2 a hx).1
   rw [e] at hb
   simp only [zdj,Option.some.injEq] at hb
   exact absurd (by rw [← hb2,hb];exact hM) (hH.noWg j)
 ·obtain ⟨_,k2,k3⟩:=(hu op hop).2.2.2 x hx
  exact ⟨k2,fun e=>by rw [(hu op hop).1];exact k3 e⟩
 ·rcases nw ha with ha|⟨op,hop,hk,hx⟩
  ·rcases h.mem k a ha hm with hk|hk|⟨q,hq,hg,hat⟩
   ·exact .inl (hk.app u)
   ·exact .inr (.inl hk)
   ·exact .inr (.inr ⟨q,hq,g?_app hg,hat⟩)
  ·rcases h0 with rfl|h0
   ·have:=knows_own hk
    rw [(hu op hop).1] at this
    exact .inl this
   ·exact .inr (.inr ⟨i,h0,by simp [Trace.g?,hk,(hu op hop).1],fun _=>((hu op hop).2.2.2 a hx).1⟩)
def ChK (t:Trace)(c:Nat): Prop:=∀ i a,touchAt t i=some a→zdj a.loc=some c→Knows t 0 i∨a.kind=.atomic
theorem ChK.app {c:Nat}(h:ChK t c)(hu:∀ op∈u,∀ x,op.act.touch?=some x→zdj x.loc=some c→op.g=0∨x.kind=.atomic): ChK (t++u) c:=by
 intro i a ha hb
 obtain ⟨z,hz,hza⟩:=touch_of ha
 rcases getElem?_append_cases hz with ⟨_,hz'⟩|⟨_,hzu⟩
 ·exact (h i a (by rw [touchAt_of hz'];exact hza) hb).imp (·.app u) id
 ·rcases hu z hzu a hza hb with h0|h0
  ·have:=knows_own hz
   rw [h0] at this
   exact .inl this
  ·exact .inr h0
theorem z25 {M o:Nat→Prop}{e:Event}(h:EvI M o e){x:Touch}(hx:(MemAct.ofEvent e).touch?=some x){b:Nat}(hb:zdj x.loc=some b): M b:=by
 obtain ⟨loc,wr,sy⟩:=e
 cases loc with
 | cell a =>
   simp only [MemAct.ofEvent,MemAct.touch?,Option.some.injEq] at hx
   subst hx
   simp only [zdj,Option.some.injEq] at hb
   subst hb
   exact h.2.1
 | obj r =>
   have h1:sy=false:=h.1
   subst h1
   have hx:some (⟨.obj r,wr,.plain⟩:Touch)=some x:=by cases wr <;> exact hx
   cases hx
   simp only [zdj,Option.some.injEq] at hb
   subst hb
   exact h.2.1
 | output=>exact h.elim
 | goroutines=>exact h.elim
 | mark m=>cases m <;> first|exact h.elim|(simp [MemAct.ofEvent,MemAct.touch?] at hx)
theorem TI.close (h:TI Shun Wg g0 J M o sz t)(hJ:0<J){c:Nat}(hc:ChK t c)(hM:∀ j,¬ M j c)(hW:c≠Wg)(hlt:c<sz)(hu:∀ op∈u,op.g=0∧op.act.low sz∧op.act≠.mark (.release (stA Wg))∧∀ x,op.act.touch?=some x→x.loc=.obj c∧x.kind=.atomic): TI Shun Wg g0 J M o sz (t++u):=by
 have nw:∀ {k:Nat} {a:Touch},touchAt (t++u) k=some a→touchAt t k=some a∨∃ op∈u,(t++u)[k]?=some op∧op.act.touch?=some a:=by
  intro k a ha
  obtain ⟨z,hz,hza⟩:=touch_of ha
  rcases getElem?_append_cases hz with ⟨_,hz'⟩|⟨_,hzu⟩
  ·exact .inl (by rw [touchAt_of hz'];exact hza)
  ·exact .inr ⟨z,hzu,hz,hza⟩
 refine ⟨fun said=>noRace_append (h.clean said) (fun op hop=>(hu op hop).1) (fun k a ha op hop b hb hcf=>?_),fun j hj k a b ha hb hMb ho=>?_,fun op hop=>(Array.mem_append.1 hop).elim (h.low op) (fun hop=>(hu op hop).2.1),
  h.quiet.app (fun op hop x hx hS=>?_),fun op hop=>(Array.mem_append.1 hop).elim (h.gs op) (fun hop=>(hu op hop).1 ▸ hJ),h.norel.app (fun op hop=>(hu op hop).2.2.1),fun k a ha hm=>?_,
  zha h.over (fun op hop=>.inl (hu op hop).1)⟩
 ·obtain ⟨k1,k2⟩:=(hu op hop).2.2.2 b hb
  rcases hc k a ha (by rw [hcf.1,k1];rfl) with hk|hk
  ·exact hk
  ·rcases hcf.2.2.2 with x|x|⟨_,x,_⟩
   ·rw [hk] at x;cases x
   ·rw [k2] at x;cases x
   ·rw [hk] at x;cases x
 ·rcases nw ha with ha|⟨op,hop,_,hx⟩
  ·exact (h.kn j hj k a b ha hb hMb ho).app u
  ·obtain ⟨e,_⟩:=(hu op hop).2.2.2 a hx
   rw [e] at hb
   simp only [zdj,Option.some.injEq] at hb
   exact absurd (hb ▸ hMb) (hM j)
 ·obtain ⟨e,_⟩:=(hu op hop).2.2.2 x hx
  obtain ⟨ad,e2,_⟩:=hS
  rw [e] at e2;cases e2
 ·rcases nw ha with ha|⟨op,hop,hk,hx⟩
  ·rcases h.mem k a ha hm with hk|hk|⟨q,hq,hg,hat⟩
   ·exact .inl (hk.app u)
   ·exact .inr (.inl hk)
   ·exact .inr (.inr ⟨q,hq,g?_app hg,hat⟩)
  ·have:=knows_own hk
   rw [(hu op hop).1] at this
   exact .inl this
theorem zcu {M:Nat→Nat→Prop}{i j:Nat}(K:Nat→Prop): upd M i K j=if j=i then K else M j:=rfl
theorem TI.own (h:TI Shun Wg g0 J M o sz t)(hH:Held Wg J M o sz){i:Nat}(hi:i<J)(hs:sz≤sz')(h0:i=0∨g0≤i){fn:FuncId}{pos:String}{es:Array Event}(hes:∀ e∈es,EvI (fun b=>M i b∨(sz≤b∧b<sz')) (fun b=>o i b∨(sz≤b∧b<sz')) e):
  TI Shun Wg g0 J (upd M i fun b=>M i b∨(sz≤b∧b<sz')) (upd o i fun b=>o i b∨(sz≤b∧b<sz')) sz' (t++MemOp.ofEvents i fn pos es):=by
 have tch:∀ op∈MemOp.ofEvents i fn pos es,op.g=i∧op.act.low sz'∧op.act≠.mark (.release (stA Wg))∧∀ x,op.act.touch?=some x→(∃ b,zdj x.loc=some b∧(M i b∨(sz≤b∧b<sz'))∧(x.write=true→o i b∨(sz≤b∧b<sz')))∧x.kind≠.atomic:=by
  intro op hop
  rw [ofEvents_eq] at hop
  obtain ⟨e,he,rfl⟩:=Array.mem_map.1 hop
  have hE:=hes e he
  obtain ⟨loc,wr,sy⟩:=e
  unfold EvI at hE
  have lt:∀ b,(M i b∨(sz≤b∧b<sz'))→b<sz':=fun b hb=>hb.elim (fun k=>Nat.lt_of_lt_of_le (hH.lt i b k) hs) (·.2)
  cases loc with
  | cell a =>
    refine ⟨rfl,lt _ hE.2.1,by simp [MemAct.ofEvent],fun x hx=>?_⟩
    simp only [MemAct.ofEvent,MemAct.touch?,Option.some.injEq] at hx
    subst hx
    exact ⟨⟨_,rfl,hE.2.1,hE.2.2⟩,by simp [show sy=false from hE.1]⟩
  | obj r =>
    obtain ⟨h1,h2,h3⟩:=hE
    have h1:sy=false:=h1
    subst h1
    have l2:=lt _ h2
    refine ⟨rfl,by cases wr <;> exact l2,by cases wr <;> simp [MemAct.ofEvent],fun x hx=>?_⟩
    have hx:some (⟨.obj r,wr,.plain⟩:Touch)=some x:=by cases wr <;> exact hx
    cases hx
    exact ⟨⟨_,rfl,h2,h3⟩,by simp⟩
  | output=>exact hE.elim
  | goroutines=>exact hE.elim
  | mark m =>
    cases m <;> first
     | exact hE.elim
     | exact ⟨rfl,trivial,by simp [MemAct.ofEvent],fun x hx=>by simp [MemAct.ofEvent,MemAct.touch?] at hx⟩
 generalize MemOp.ofEvents i fn pos es=u at tch ⊢
 have nw:∀ {k:Nat} {a:Touch},touchAt (t++u) k=some a→touchAt t k=some a∨∃ op∈u,(t++u)[k]?=some op∧op.act.touch?=some a:=by
  intro k a ha
  obtain ⟨z,hz,hza⟩:=touch_of ha
  rcases getElem?_append_cases hz with ⟨_,hz'⟩|⟨_,hzu⟩
  ·exact .inl (by rw [touchAt_of hz'];exact hza)
  ·exact .inr ⟨z,hzu,hz,hza⟩
 have lowT:∀ {k:Nat} {a:Touch} {b:Nat},touchAt t k=some a→zdj a.loc=some b→b<sz:=by
  intro k a b ha hb
  obtain ⟨z,hz,hza⟩:=touch_of ha
  exact znu (h.low z (Array.mem_of_getElem? hz)) hza hb
 have wlt:=fun j b=>hH.lt j b
 refine ⟨fun said=>noRace_append (h.clean said) (fun op hop=>(tch op hop).1) (fun k a ha op hop b hb hc=>?_),fun j hj k a b ha hb hM ho=>?_,
  fun op hop=>(Array.mem_append.1 hop).elim (fun hp=>MemAct.low_mono hs (h.low op hp)) (fun hop=>(tch op hop).2.1),
  h.quiet.app (fun op hop x hx hS=>?_),fun op hop=>(Array.mem_append.1 hop).elim (h.gs op) (fun hop=>(tch op hop).1 ▸ hi),h.norel.app (fun op hop=>(tch op hop).2.2.1),fun k a ha hm=>?_,
  zha h.over (fun op hop=>h0.elim (fun e=>.inl ((tch op hop).1.trans e)) (fun e=>.inr (.inl ((tch op hop).1 ▸ e))))⟩
 ·obtain ⟨x,hx,hM,ho⟩:=((tch op hop).2.2.2 b hb).1
  have hax:zdj a.loc=some x:=by rw [hc.1];exact hx
  have hlt:=lowT ha hax
  have hM':M i x:=hM.resolve_right fun e=>by omega
  refine h.kn i hi k a x ha hax hM' ?_
  rcases hc.2.2.1 with hw|hw
  ·exact .inr hw
  ·exact .inl ((ho hw).resolve_right fun e=>by omega)
 ·rw [zcu] at hM ho
  rcases nw ha with ha|⟨op,hop,hk,hx⟩
  ·have hlt:=lowT ha hb
   by_cases e:j=i
   ·subst e
    rw [if_pos rfl] at hM ho
    exact (h.kn j hj k a b ha hb (hM.resolve_right fun e=>by omega) (ho.imp (fun x=>x.resolve_right fun e=>by omega) id)).app u
   ·rw [if_neg e] at hM ho
    exact (h.kn j hj k a b ha hb hM ho).app u
  ·obtain ⟨x,hx2,hM2,ho2⟩:=((tch op hop).2.2.2 a hx).1
   obtain rfl:b=x:=Option.some.inj (hb.symm.trans hx2)
   by_cases e:j=i
   ·subst e
    have:=knows_own hk
    rwa [(tch op hop).1] at this
   ·rw [if_neg e] at hM ho
    have hlt:=wlt j b hM
    have hM2:M i b:=hM2.resolve_right fun e=>by omega
    rcases ho with ho|ho
    ·exact absurd hM2 (hH.apart j i hj hi e b ho)
    ·exact absurd hM (hH.apart i j hi hj (Ne.symm e) b ((ho2 ho).resolve_right fun e=>by omega))
 ·obtain ⟨b,hb,hM,_⟩:=((tch op hop).2.2.2 x hx).1
  obtain ⟨ad,e,hW⟩:=hS
  rw [e] at hb
  simp only [zdj,Option.some.injEq] at hb
  have hWg:=hH.wg
  rcases hM with hM|hM
  ·exact absurd (by rw [← hW,hb];exact hM) (hH.noWg i)
  ·omega
 ·rcases nw ha with ha|⟨op,hop,hk,hx⟩
  ·rcases h.mem k a ha hm with hk|hk|⟨q,hq,hg,hat⟩
   ·exact .inl (hk.app u)
   ·exact .inr (.inl hk)
   ·exact .inr (.inr ⟨q,hq,g?_app hg,hat⟩)
  ·rcases h0 with rfl|h0
   ·have:=knows_own hk
    rw [(tch op hop).1] at this
    exact .inl this
   ·exact .inr (.inr ⟨i,h0,by simp [Trace.g?,hk,(tch op hop).1],fun e=>absurd e ((tch op hop).2.2.2 a hx).2⟩)
end
end
section
open Go.Conc Go.ConcN
open Go.ConcR (KK wgBlock WgAt stA smA rd wr mk Bk g_of_ofEvents)
section
variable {Shun:Loc→Prop} {Wg g0 J:Nat} {M o:Nat→Nat→Prop} {sz sz':Nat} {t u:Trace}
theorem TI.fork (h:TI Shun Wg g0 J M o sz t)(hJ:0<J){x y:MemOp}(hx:x.g=0∧x.act=.go J)(hy:y.g=J∧y.act=.start)(h0:Deaf t 0=0){Mk ok M0 o0:Nat→Prop}(k1:∀ b,Mk b→M 0 b)(k2:∀ b,ok b→o 0 b)(k3:∀ b,M0 b→M 0 b)(k4:∀ b,o0 b→o 0 b): TI Shun Wg g0 (J+1) (upd (upd M 0 M0) J Mk) (upd (upd o 0 o0) J ok) sz (t++#[x,y]):=by
 have hm:∀ op∈#[x,y],op=x∨op=y:=by intro op hop;simpa using hop
 have hmute:∀ op∈#[x,y],op.act.touch?=none:=by
  intro op hop
  rcases hm op hop with rfl|rfl
  ·rw [hx.2];rfl
  ·rw [hy.2];rfl
 have old:∀ {i:Nat} {a:Touch},touchAt (t++#[x,y]) i=some a→touchAt t i=some a:=by
  intro i a ha
  obtain ⟨z,hz,hza⟩:=touch_of ha
  rcases getElem?_append_cases hz with ⟨_,hz'⟩|⟨_,hzu⟩
  ·rw [touchAt_of hz'];exact hza
  ·rw [hmute z hzu] at hza;cases hza
 have hk:Deaf t J=0:=Deaf_absent fun i op hi e=>by have:=h.gs op (Array.mem_of_getElem? hi);omega
 refine ⟨fun said=>zkm (h.clean said) hmute,fun j hj i a b ha hb hM ho=>?_,fun op hop=>(Array.mem_append.1 hop).elim (h.low op) (fun hop=>?_),
  h.quiet.app (fun op hop z hz _=>absurd ((hmute op hop).symm.trans hz) (by simp)),fun op hop=>(Array.mem_append.1 hop).elim (fun hp=>Nat.lt_succ_of_lt (h.gs op hp)) (fun hop=>?_),h.norel.app (fun op hop=>?_),fun i a ha hmm=>?_,
  zha h.over (fun op hop=>.inr (.inr (hmute op hop)))⟩
 ·have ha:=old ha
  rw [zcu] at hM ho
  by_cases e:j=J
  ·subst e
   rw [if_pos rfl] at hM ho
   exact fork_knows hx hy h0 hk (h.kn 0 hJ i a b ha hb (k1 b hM) (ho.imp (k2 b) id))
  ·rw [if_neg e] at hM ho
   rw [zcu] at hM ho
   by_cases e0:j=0
   ·subst e0
    rw [if_pos rfl] at hM ho
    exact (h.kn 0 hJ i a b ha hb (k3 b hM) (ho.imp (k4 b) id)).app _
   ·rw [if_neg e0] at hM ho
    exact (h.kn j (by omega) i a b ha hb hM ho).app _
 ·rcases hm op hop with rfl|rfl
  ·rw [hx.2];trivial
  ·rw [hy.2];trivial
 ·rcases hm op hop with rfl|rfl
  ·rw [hx.1];omega
  ·rw [hy.1];omega
 ·rcases hm op hop with rfl|rfl
  ·rw [hx.2];simp
  ·rw [hy.2];simp
 ·rcases h.mem i a (old ha) hmm with hk|hk|⟨k,hk,hg,hat⟩
  ·exact .inl (hk.app _)
  ·exact .inr (.inl hk)
  ·exact .inr (.inr ⟨k,hk,g?_app hg,hat⟩)
theorem TI.past (h:TI Shun Wg g0 J M o sz t){q:Nat}(hq:t.act? q=some (.mark (.acquire (stA Wg))))(hg:t.g? q=some 0)(hh:t.heard q)(h0:Deaf t 0=0)(all:∀ k,g0≤k→k<J→∃ r,RelBy (stA Wg) t k r∧r<q)(hg0:0<g0): Go.Conc.Past (fun l=>Shun l∨ShN Wg l) sz t:=by
 have edge:∀ k r,RelBy (stA Wg) t k r→r<q→HappensBefore t r q:=fun k r hr hrq=>.single (.inr ⟨.marked hrq (.inr hr.act) hq (fun k _ _=>h.norel k),hr.heard,hh⟩)
 have ltJ:∀ i k,t.g? i=some k→k<J:=fun i k hk=>by
  obtain ⟨z,hz,rfl⟩:=Option.map_eq_some_iff.1 hk
  exact h.gs z (Array.mem_of_getElem? hz)
 have toq:∀ i,HappensBefore t i q→Knows t 0 i:=fun i hb=>by
  obtain ⟨z,hz,hz0⟩:=Option.map_eq_some_iff.1 hg
  exact ⟨q,z,hz,hz0,.inr hb⟩
 have upto:∀ i k r,t.g? i=some k→RelBy (stA Wg) t k r→i≤r→r<q→HappensBefore t i q:=fun i k r hi hr hle hrq=>by
  rcases Nat.lt_or_ge i r with hlt|hge
  ·exact .trans (.single (.inl ⟨hlt,k,hi,hr.g⟩)) (edge k r hr hrq)
  ·obtain rfl:i=r:=by omega
   exact edge k i hr hrq
 refine ⟨h.clean,fun i a ha hm=>?_,fun i g hgi hne hc=>?_,h0,h.low⟩
 ·rcases h.mem i a ha hm with hk|⟨hs,hk⟩|⟨k,hk,hgk,hat⟩
  ·exact .inl hk
  ·exact .inr ⟨hs,hk⟩
  ·obtain ⟨r,hr,hrq⟩:=all k hk (ltJ i k hgk)
   rcases Nat.lt_or_ge r i with hlt|hge
   ·have hnc:=hr.after i hlt hgk
    by_cases hka:a.kind=.atomic
    ·exact .inr ⟨.inr (hat hka),hka⟩
    ·exact absurd ⟨a,ha,hm,.inl hka⟩ hnc
   ·exact .inl (toq i (upto i k r hgk hr hge hrq))
 ·rcases Nat.lt_or_ge g g0 with hlt|hge
  ·exact h.over i g hgi hne hlt hc
  ·obtain ⟨r,hr,hrq⟩:=all g hge (ltJ i g hgi)
   have hle:i≤r:=Nat.le_of_not_lt fun hlt=>hr.after i hlt hgi hc
   exact ⟨q,hg,upto i g r hgi hr hle hrq⟩
end
end
section
open Go.Conc Go.ConcN
open Go.ConcR (KK wgBlock WgAt stA smA rd wr mk Bk g_of_ofEvents)
abbrev Sl:=Option Addr×Nat×Nat
def sl (x:Sl): Value:=.slice x.1 x.2.1 x.2.2
inductive Ans where
 | good (out k:Sl)
 | bad
def Ans.val (p:Nat): Ans→Value
 | .good out k=>.agg #[.int .i64 p,.bool true,sl out,sl k]
 | .bad=>.int .i64 p
def Ans.idx:Ans→Nat
 | .good ..=>0
 | .bad=>1
abbrev Kp:=(Nat→Prop)→(Nat→Prop)→Goroutine→World→Prop
def zP:Value:=.int .i64 0
structure zar where
 P:Program
 ty:TypeId
 Wg:Nat
 cG:Nat
 cB:Nat
 n:Nat
 N:Nat
 g0:Nat
 zG:Value
 Shun:Loc→Prop
 pl:Nat→List Nat
 A:Nat→Ans→(Nat→Prop)→World→Prop
def zar.ch (E:zar): Ans→Nat
 | .good ..=>E.cG
 | .bad=>E.cB
section
variable (E:zar)
def RunW (S:Kp): Kp:=Run E.P false E.ty E.Wg true S
def RunQ (S:Kp): Kp:=Run E.P false E.ty E.Wg false S
def RunM (S:Kp): Kp:=Run E.P true E.ty E.Wg true S
def WD4:Kp:=fun M o g w=>g.status=.running∧mayWake E.P g=true∧(WgAt E.ty E.Wg w 0 0→∃ g',stepG E.P false g w=.go g' (w.setCell (smA E.Wg) (.int .u32 1)) (semEvents (smA E.Wg))∧∃ q,QuitsD E.P q 1 g')
def WD3:Kp:=fun M o g w=>g.status=.running∧(WgAt E.ty E.Wg w 1 0→∃ g',stepG E.P false g w=.go g' (w.setCell (stA E.Wg) (.int .u64 0)) #[wr (stA E.Wg)]∧RunQ E (WD4 E) M o g' (w.setCell (stA E.Wg) (.int .u64 0)))
def WD2:Kp:=fun M o g w=>g.status=.running∧(WgAt E.ty E.Wg w 1 0→∃ g',stepG E.P false g w=.go g' w #[rd (stA E.Wg)]∧RunQ E (WD3 E) M o g' w)
def WD1:Kp:=fun M o g w=>g.status=.running∧∀ v wt:Nat,wt≤1→v<2147483647→WgAt E.ty E.Wg w ((v+1) * KK+wt) 0 →
 ∃ g',stepG E.P false g w=.go g' (w.setCell (stA E.Wg) (.int .u64 (v * KK+wt))) #[rd (stA E.Wg),wr (stA E.Wg)]∧((v=0∧wt=1)→RunQ E (WD2 E) M o g' (w.setCell (stA E.Wg) (.int .u64 (v * KK+wt))))∧(¬ (v=0∧wt=1)→∃ q,QuitsD E.P q 1 g')
def WK1:Kp:=fun M o g w=>g.status=.running∧∃ g',stepG E.P false g w=.go g' w #[mk .disable]∧RunQ E (WD1 E) M o g' w
def WR0:Kp:=fun M o g w=>g.status=.running∧∃ g',stepG E.P false g w=.go g' w #[mk (.releaseMerge (stA E.Wg))]∧RunQ E (WK1 E) M o g' w
def WAns (p:Nat)(Next:Kp): Kp:=fun M o g w=>g.status=.running∧∃ (a:Ans) (B M' o':Nat→Prop) (z:Value),(∀ b,B b→o b)∧(∀ b,M' b→M b)∧(∀ b,o' b→o b)∧(∀ b,o' b→M' b)∧(∀ b,M' b→¬ B b)∧E.A p a B w ∧
 stepG E.P false g w=.comm (core g) #[scase (E.ch a) (a.val p) z] true .send w #[]∧RunW E Next M' o' (Go.Conc.served (core g) undef) w
def z0y (c:Nat): List Nat→Kp
 | []=>fun M o g w=>stepG E.P false g w=.comm g #[rcase c zP] true (.recv true) w #[]∧RunW E (WR0 E) M o (Go.Conc.served g (recvd true zP false)) w
 | p :: l=>fun M o g w=>stepG E.P false g w=.comm g #[rcase c zP] true (.recv true) w #[]∧RunW E (WAns E p fun M o g w=>g.status=.running∧z0y c l M o (core g) w) M o (Go.Conc.served g (recvd true (.int .i64 p) true)) w
def zjj (c:Nat)(l:List Nat): Kp:=fun M o g w=>g.status=.running∧z0y E c l M o (core g) w
inductive zat where
 | rcv|again|park|wrk (p:Nat)|r0|k1|d1|d2|d3|d4|quit
structure Wk where
 kind:zat
 deaf:Nat
 todo:List Nat
 nb:Nat
 c:Nat
 closed:Bool
 tr:Tr
def zat.stage:zat→Nat
 | .rcv|.again|.park|.wrk _|.r0=>7
 | .k1=>6
 | .d1=>5
 | .d2=>4
 | .d3=>3
 | .d4=>2
 | .quit=>1
def zat.work:zat→List Nat
 | .wrk p=>[p]
 | _=>[]
def Wk.rank (x:Wk): Nat :=
 match x.kind with
 | .rcv=>3 * x.todo.length+13
 | .again=>11
 | .park=>3 * x.todo.length+12
 | .wrk _=>3 * x.todo.length+14
 | .r0=>7
 | .k1=>6
 | .d1=>5
 | .d2=>4
 | .d3=>3
 | .d4=>2
 | .quit=>1
inductive WSit:Wk→Kp
 | rcv {l:List Nat} {nb c:Nat} {cl:Bool} {tr:Tr} {M o:Nat→Prop} {g:Goroutine} {w:World}:RunT E.P false E.ty E.Wg true (zjj E c l) tr M o g w→WSit ⟨.rcv,0,l,nb,c,cl,tr⟩ M o g w
 | again {nb c:Nat} {tr:Tr} {M o:Nat→Prop} {g:Goroutine} {w:World}:RunT E.P false E.ty E.Wg true (zjj E c []) tr M o g w→WSit ⟨.again,0,[],nb,c,true,tr⟩ M o g w
 | park {l:List Nat} {c:Nat} {tr:Tr} {M o:Nat→Prop} {g:Goroutine} {w:World}:core g=g→(∀ w₁,Oth E.ty E.Wg M w w₁→z0y E c l M o g w₁)→WSit ⟨.park,0,l,0,c,false,tr⟩ M o (parked g #[rcase c zP] (.recv true)) w
 | wrk {p:Nat} {l:List Nat} {nb c:Nat} {cl:Bool} {tr:Tr} {M o:Nat→Prop} {g:Goroutine} {w:World}:RunT E.P false E.ty E.Wg true (WAns E p (zjj E c l)) tr M o g w→WSit ⟨.wrk p,0,l,nb,c,cl,tr⟩ M o g w
 | r0 {nb c:Nat} {tr:Tr} {M o:Nat→Prop} {g:Goroutine} {w:World}:RunT E.P false E.ty E.Wg true (WR0 E) tr M o g w→WSit ⟨.r0,0,[],nb,c,true,tr⟩ M o g w
 | k1 {nb c:Nat} {tr:Tr} {M o:Nat→Prop} {g:Goroutine} {w:World}:RunT E.P false E.ty E.Wg false (WK1 E) tr M o g w→WSit ⟨.k1,0,[],nb,c,true,tr⟩ M o g w
 | d1 {nb c:Nat} {tr:Tr} {M o:Nat→Prop} {g:Goroutine} {w:World}:RunT E.P false E.ty E.Wg false (WD1 E) tr M o g w→WSit ⟨.d1,1,[],nb,c,true,tr⟩ M o g w
 | d2 {nb c:Nat} {tr:Tr} {M o:Nat→Prop} {g:Goroutine} {w:World}:RunT E.P false E.ty E.Wg false (WD2 E) tr M o g w→WSit ⟨.d2,1,[],nb,c,true,tr⟩ M o g w
 | d3 {nb c:Nat} {tr:Tr} {M o:Nat→Prop} {g:Goroutine} {w:World}:RunT E.P false E.ty E.Wg false (WD3 E) tr M o g w→WSit ⟨.d3,1,[],nb,c,true,tr⟩ M o g w
 | d4 {nb c:Nat} {tr:Tr} {M o:Nat→Prop} {g:Goroutine} {w:World}:RunT E.P false E.ty E.Wg false (WD4 E) tr M o g w→WSit ⟨.d4,1,[],nb,c,true,tr⟩ M o g w
 | quit {q d nb c:Nat} {cl:Bool} {M o:Nat→Prop} {g:Goroutine} {w:World}:QuitsD E.P q d g→WSit ⟨.quit,d,[],nb,c,cl,zlj q⟩ M o g w
def MMk (m:Mark)(Next:Kp): Kp:=fun M o g w=>g.status=.running∧∃ g',stepG E.P true g w=.go g' w #[mk m]∧RunM E Next M o g' w
def MAdd (Next:Nat→Kp): Kp:=fun M o g w=>g.status=.running∧∀ v:Nat,v<2147483647→WgAt E.ty E.Wg w (v * KK) 0 →
 ∃ g',stepG E.P true g w=.go g' (w.setCell (stA E.Wg) (.int .u64 ((v+1) * KK))) #[rd (stA E.Wg),wr (stA E.Wg)]∧RunM E (Next v) M o g' (w.setCell (stA E.Wg) (.int .u64 ((v+1) * KK)))
def MGo (l:List Nat)(Next:Nat→Kp): Kp:=fun M o g w=>g.status=.running∧∃ (c:Nat) (g' child:Goroutine) (Mk ok M0 o0:Nat→Prop),stepG E.P true g w=.spawn g' child w #[]∧w.heap[c]?=some (.chan E.n #[] false 0 0 false)∧o c∧¬ Mk c∧¬ M0 c ∧
 (∀ b,Mk b→M b)∧(∀ b,ok b→o b)∧(∀ b,M0 b→M b)∧(∀ b,o0 b→o b)∧(∀ b,ok b→Mk b∧¬ M0 b)∧(∀ b,o0 b→M0 b∧¬ Mk b)∧RunW E (zjj E c l) Mk ok child w∧RunM E (Next c) M0 o0 g' w
def MSnd (c p:Nat)(Next:Kp): Kp:=fun M o g w=>g.status=.running∧∃ z,stepG E.P true g w=.comm (core g) #[scase c (.int .i64 p) z] true .send w #[]∧RunM E Next M o (Go.Conc.served (core g) undef) w
def MCls (c:Nat)(Next:Kp): Kp:=fun M o g w=>g.status=.running∧mayWake E.P g=true∧∀ buf s r,w.heap[c]?=some (.chan E.n buf false s r false) →
 ∃ g',stepG E.P true g w=.go g' (w.setChan c E.n buf true s r false) #[⟨.obj c,false,true⟩,⟨.obj c,true,true⟩]∧g'.status=.running∧RunM E Next M o g' (w.setChan c E.n buf true s r false)
def zbb:Array CommCase:=#[rcase E.cG E.zG,rcase E.cB zP]
def z00 (Next:Nat→Ans→Kp): Kp:=fun M o g w=>stepG E.P true g w=.comm g (zbb E) true .select w #[]∧∀ p a,p<E.n→RunM E (Next p a) M o (g.finishComm E.P (zbb E) .select a.idx (a.val p) true) w
def MSel (Next:Nat→Ans→Kp): Kp:=fun M o g w=>g.status=.running∧z00 E Next M o (core g) w
def zdi (c:Nat)(Next:Kp): List Nat→Kp
 | []=>MCls E c Next
 | p :: l=>MSnd E c p (zdi c Next l)
def said (v:Nat)(X:Kp): Kp:=if v=0 then MMk E (.read (smA E.Wg)) X else X
def zca (After:Kp): Nat→Nat→Kp
 | 0,_=>After
 | m+1,k=>MMk E .disable (MAdd E fun v=>said E v (MMk E .enable (MGo E (E.pl k) fun c=>zdi E c (zca After m (k+1)) (E.pl k))))
def zc2 (Fin:List (Nat×Ans)→Kp): Nat→List (Nat×Ans)→Kp
 | 0,got=>Fin got
 | r+1,got=>MSel E fun p a=>zc2 Fin r (got++[(p,a)])
section
variable (End Anch:Kp)
def MKe:Kp:=MMk E .enable (MMk E (.acquire (stA E.Wg)) End)
def MW4:Kp:=fun M o g w=>g.status=.running∧(WgAt E.ty E.Wg w 0 0→∃ g',stepG E.P true g w=.go g' w #[rd (stA E.Wg)]∧RunM E (MKe E End) M o g' w)
def MW3:Kp:=fun M o g w=>g.status=.running∧g.offers=none∧((∃ st,WgAt E.ty E.Wg w st 0)→stepG E.P true g w=.go { g with status:=.blocked } w #[]) ∧
 (WgAt E.ty E.Wg w 0 1→∃ g',stepG E.P true g w=.go g' (w.setCell (smA E.Wg) (.int .u32 0)) (semEvents (smA E.Wg))∧RunM E (MW4 E End) M o g' (w.setCell (smA E.Wg) (.int .u32 0)))
def MW2 (vs:Nat): Kp:=fun M o g w=>g.status=.running∧∀ v:Nat,v<2147483648→WgAt E.ty E.Wg w (v * KK) 0 →
 (v=vs→∃ g',stepG E.P true g w=.go g' (w.setCell (stA E.Wg) (.int .u64 (v * KK+1))) #[rd (stA E.Wg),wr (stA E.Wg)]∧RunM E (MMk E (.write (smA E.Wg)) (MW3 E End)) M o g' (w.setCell (stA E.Wg) (.int .u64 (v * KK+1)))) ∧
 (v≠vs→∃ g',stepG E.P true g w=.go g' w #[rd (stA E.Wg)]∧RunM E Anch M o g' w)
def MW1:Kp:=fun M o g w=>g.status=.running∧∀ v:Nat,v<2147483648→WgAt E.ty E.Wg w (v * KK) 0→∃ g',stepG E.P true g w=.go g' w #[rd (stA E.Wg)] ∧
 (v=0→RunM E (MKe E End) M o g' w)∧(v≠0→RunM E (MW2 E End Anch v) M o g' w)
end
inductive Pos where
 | kd (m k:Nat)|a1 (m k:Nat)|sa (m k:Nat)|ke (m k:Nat)|go (m k:Nat)|snd (m k c:Nat)(l:List Nat)|gat (r:Nat)|sel (r:Nat)
 | wkd|anch|w1|w2 (vs:Nat)|wsa|w3|blk|w4|wke|acq
def Pos.tag:Pos→CTag
 | .kd ..|.a1 ..|.snd ..|.gat _|.sel _|.wkd=>.sp 0 5
 | .sa ..|.ke ..|.go ..=>.sp 0 3
 | .anch=>.anch
 | .w1=>.w1
 | .w2 vs=>.w2 vs
 | .wsa|.w3=>.w3
 | .blk=>.blk
 | .w4=>.w4
 | .wke=>.ke
 | .acq=>.acq
def Pos.deaf:Pos→Nat
 | .kd ..|.go ..|.snd ..|.gat _|.sel _|.wkd|.acq=>0
 | _=>1
def Pos.rank (v:Nat)(p:Pos): Nat :=
 let G:=8 * (E.g0+E.N)+20
 let R:=3 * E.n+3+G
 let Q:=6 * E.n+60
 match p with
 | .kd m _=>m * Q+R+4 * E.n+40
 | .a1 m _=>m * Q+R+4 * E.n+39
 | .sa m _=>m * Q+R+4 * E.n+38
 | .ke m _=>m * Q+R+4 * E.n+37
 | .go m _=>m * Q+R+4 * E.n+36
 | .snd m _ _ l=>m * Q+R+l.length+1
 | .gat r=>G+3 * r+2
 | .sel r=>G+3 * r+1
 | .wkd=>G+1
 | .anch=>8 * v+9
 | .w1=>8 * v+8
 | .w2 vs=>8 * vs+7
 | .wsa=>6
 | .w3=>5
 | .blk=>5
 | .w4=>4
 | .wke=>3
 | .acq=>2
variable (End:List (Nat×Ans)→Kp) (Anch:List (Nat×Ans)→Kp)
def MFin (got:List (Nat×Ans)): Kp:=MMk E .disable (Anch got)
def MAft:Kp:=zc2 E (MFin E Anch) E.n []
inductive MSit:Pos→List (Nat×Ans)→Tr→Kp
 | kd {m k:Nat} {tr:Tr} {M o:Nat→Prop} {g:Goroutine} {w:World}:RunT E.P true E.ty E.Wg true (zca E (MAft E Anch) (m+1) k) tr M o g w→MSit (.kd m k) [] tr M o g w
 | a1 {m k:Nat} {tr:Tr} {M o:Nat→Prop} {g:Goroutine} {w:World}:RunT E.P true E.ty E.Wg true (MAdd E fun v=>said E v (MMk E .enable (MGo E (E.pl k) fun c=>zdi E c (zca E (MAft E Anch) m (k+1)) (E.pl k)))) tr M o g w→MSit (.a1 m k) [] tr M o g w
 | sa {m k:Nat} {tr:Tr} {M o:Nat→Prop} {g:Goroutine} {w:World}:RunT E.P true E.ty E.Wg true (MMk E (.read (smA E.Wg)) (MMk E .enable (MGo E (E.pl k) fun c=>zdi E c (zca E (MAft E Anch) m (k+1)) (E.pl k)))) tr M o g w→MSit (.sa m k) [] tr M o g w
 | ke {m k:Nat} {tr:Tr} {M o:Nat→Prop} {g:Goroutine} {w:World}:RunT E.P true E.ty E.Wg true (MMk E .enable (MGo E (E.pl k) fun c=>zdi E c (zca E (MAft E Anch) m (k+1)) (E.pl k))) tr M o g w→MSit (.ke m k) [] tr M o g w
 | go {m k:Nat} {tr:Tr} {M o:Nat→Prop} {g:Goroutine} {w:World}:RunT E.P true E.ty E.Wg true (MGo E (E.pl k) fun c=>zdi E c (zca E (MAft E Anch) m (k+1)) (E.pl k)) tr M o g w→MSit (.go m k) [] tr M o g w
 | snd {m k c:Nat} {l:List Nat} {tr:Tr} {M o:Nat→Prop} {g:Goroutine} {w:World}:RunT E.P true E.ty E.Wg true (zdi E c (zca E (MAft E Anch) m (k+1)) l) tr M o g w→MSit (.snd m k c l) [] tr M o g w
 | gat {r:Nat} {got:List (Nat×Ans)} {tr:Tr} {M o:Nat→Prop} {g:Goroutine} {w:World}:RunT E.P true E.ty E.Wg true (zc2 E (MFin E Anch) (r+1) got) tr M o g w→MSit (.gat (r+1)) got tr M o g w
 | sel {r:Nat} {got:List (Nat×Ans)} {tr:Tr} {M o:Nat→Prop} {g:Goroutine} {w:World}:core g=g→(∀ w₁,Oth E.ty E.Wg M w w₁→z00 E (fun p a=>zc2 E (MFin E Anch) r (got++[(p,a)])) M o g w₁) →
   MSit (.sel (r+1)) got tr M o (parked g (zbb E) .select) w
 | wkd {got:List (Nat×Ans)} {tr:Tr} {M o:Nat→Prop} {g:Goroutine} {w:World}:RunT E.P true E.ty E.Wg true (MFin E Anch got) tr M o g w→MSit .wkd got tr M o g w
 | anch {got:List (Nat×Ans)} {tr:Tr} {M o:Nat→Prop} {g:Goroutine} {w:World}:RunT E.P true E.ty E.Wg true (Anch got) tr M o g w→MSit .anch got tr M o g w
 | w1 {got:List (Nat×Ans)} {tr:Tr} {M o:Nat→Prop} {g:Goroutine} {w:World}:RunT E.P true E.ty E.Wg true (MW1 E (End got) (Anch got)) tr M o g w→MSit .w1 got tr M o g w
 | w2 {got:List (Nat×Ans)} {vs:Nat} {tr:Tr} {M o:Nat→Prop} {g:Goroutine} {w:World}:RunT E.P true E.ty E.Wg true (MW2 E (End got) (Anch got) vs) tr M o g w→MSit (.w2 vs) got tr M o g w
 | wsa {got:List (Nat×Ans)} {tr:Tr} {M o:Nat→Prop} {g:Goroutine} {w:World}:RunT E.P true E.ty E.Wg true (MMk E (.write (smA E.Wg)) (MW3 E (End got))) tr M o g w→MSit .wsa got tr M o g w
 | w3 {got:List (Nat×Ans)} {tr:Tr} {M o:Nat→Prop} {g:Goroutine} {w:World}:RunT E.P true E.ty E.Wg true (MW3 E (End got)) tr M o g w→MSit .w3 got tr M o g w
 | blk {got:List (Nat×Ans)} {tr:Tr} {M o:Nat→Prop} {g:Goroutine} {w:World}:(∀ w₁,Oth E.ty E.Wg M w w₁→MW3 E (End got) M o g w₁)→MSit .blk got tr M o { g with status:=.blocked } w
 | w4 {got:List (Nat×Ans)} {tr:Tr} {M o:Nat→Prop} {g:Goroutine} {w:World}:RunT E.P true E.ty E.Wg true (MW4 E (End got)) tr M o g w→MSit .w4 got tr M o g w
 | wke {got:List (Nat×Ans)} {tr:Tr} {M o:Nat→Prop} {g:Goroutine} {w:World}:RunT E.P true E.ty E.Wg true (MKe E (End got)) tr M o g w→MSit .wke got tr M o g w
 | acq {got:List (Nat×Ans)} {tr:Tr} {M o:Nat→Prop} {g:Goroutine} {w:World}:RunT E.P true E.ty E.Wg true (MMk E (.acquire (stA E.Wg)) (End got)) tr M o g w→MSit .acq got tr M o g w
end
end
section
open Go.Conc Go.ConcN
open Go.ConcR (KK wgBlock WgAt stA smA rd wr mk Bk g_of_ofEvents)
structure zaz where
 X:Nat→Wk
 M:Nat→Nat→Prop
 o:Nat→Nat→Prop
 pos:Pos
 got:List (Nat×Ans)
 trM:Tr
 bG:List (Nat×Ans)
 bB:List (Nat×Ans)
 B:Nat→Nat→Prop
def zaz.told (G:zaz): List (Nat×Ans):=G.bG++G.bB++G.got
def Wk.pend (x:Wk): List Nat:=x.kind.work++x.todo
def ints (l:List Nat): Array Value:=(l.map fun (p:Nat)=>Value.int .i64 p).toArray
def vals (l:List (Nat×Ans)): Array Value:=(l.map fun x=>x.2.val x.1).toArray
def Pos.done:Pos→Prop
 | .kd ..|.a1 ..|.sa ..|.ke ..|.go ..|.snd ..=>False
 | _=>True
def Pos.place (N:Nat)(J0:Nat): Pos→Prop
 | .kd m k|.a1 m k|.sa m k|.ke m k|.go m k=>k=J0∧k+m+1=N
 | .snd m k _ _=>k+1=J0∧J0+m=N
 | _=>J0=N
def Pos.want (n:Nat)(got:List (Nat×Ans)): Pos→Prop
 | .gat r|.sel r=>r+got.length=n
 | .kd ..|.a1 ..|.sa ..|.ke ..|.go ..|.snd ..=>got=[]
 | _=>got.length=n
section
variable (E:zar)
def Free (G:zaz)(sz c:Nat): Prop:=c<sz∧c≠E.Wg∧(∀ j,¬ G.M j c)∧∀ p,¬ G.B p c
structure SInv (G:zaz)(J:Nat)(w:World): Prop where
 place:G.pos.place E.N (J - E.g0)
 geJ:E.g0≤J
 chP:∀ i,E.g0≤i→i<J→∃ s r,w.heap[(G.X i).c]?=some (.chan E.n (ints ((G.X i).todo.take (G.X i).nb)) (G.X i).closed s r false)
 nb:∀ i,E.g0≤i→i<J→(G.X i).nb≤(G.X i).todo.length∧((G.X i).closed=true→(G.X i).nb=(G.X i).todo.length)
 shut:∀ i,E.g0≤i→i<J→(G.X i).closed=false→∃ m k l,G.pos=.snd m k (G.X i).c l∧i+1=J
 cur:∀ m k c l,G.pos=.snd m k c l→(G.X (J - 1)).c=c∧(G.X (J - 1)).closed=false∧l=(G.X (J - 1)).todo.drop (G.X (J - 1)).nb
 chG:∃ s r,w.heap[E.cG]?=some (.chan E.n (vals G.bG) false s r false)
 chB:∃ s r,w.heap[E.cB]?=some (.chan E.n (vals G.bB) false s r false)
 tyG:∀ x∈G.bG,x.2.idx=0
 tyB:∀ x∈G.bB,x.2.idx=1
 sel:∀ r,G.pos=.sel r→G.bG=[]∧G.bB=[]
 freeP:∀ i,E.g0≤i→i<J→Free E G w.heap.size (G.X i).c∧(G.X i).c≠E.cG∧(G.X i).c≠E.cB
 distinct:∀ i j,E.g0≤i→i<J→E.g0≤j→j<J→i≠j→(G.X i).c≠(G.X j).c
 freeG:Free E G w.heap.size E.cG
 freeB:Free E G w.heap.size E.cB
 neGB:E.cG≠E.cB
 ans:∀ x∈G.told,E.A x.1 x.2 (G.B x.1) w
 hB:∀ p b,G.B p b→b<w.heap.size∧b≠E.Wg∧(∀ j,j<J→¬ G.M j b)∧p∈G.told.map (·.1)
 hBB:∀ p q b,p≠q→G.B p b→¬ G.B q b
 cnt:∀ p,G.told.countP (·.1 == p)+sumTo E.N (fun k=>if E.g0+k<J then (G.X (E.g0+k)).pend.count p else (E.pl k).count p)=if p<E.n then 1 else 0
 len:G.told.length+sumTo E.N (fun k=>if E.g0+k<J then (G.X (E.g0+k)).pend.length else (E.pl k).length)=E.n
 want:G.pos.want E.n G.got
variable (End Anch:List (Nat×Ans)→Kp)
def zad (X:Nat→Wk)(i:Nat): WD:=⟨(X (i+1)).kind.stage,0,0⟩
structure PInv (G:zaz)(gs:Array Goroutine)(w:World)(t:Trace): Prop where
 pos0:0<E.g0
 few:E.N<2147483000
 main:∃ a,gs[0]?=some a∧MSit E End Anch G.pos G.got G.trM (G.M 0) (G.o 0) a w
 wk:∀ i,0<i→i<gs.size→∃ g,gs[i]?=some g∧WSit E (G.X i) (G.M i) (G.o i) g w
 held:Held E.Wg gs.size G.M G.o w.heap.size
 ti:TI E.Shun E.Wg E.g0 gs.size G.M G.o w.heap.size t
 deaf0:Deaf t 0=G.pos.deaf
 deafW:∀ i,0<i→i<gs.size→Deaf t i=(G.X i).deaf
 rel:∀ i,E.g0≤i→i<gs.size→(G.X i).kind.stage≤6→∃ r,RelBy (stA E.Wg) t i r
 wg:∃ st sm,WgAt E.ty E.Wg w st sm∧Go.ConcN.Mode (gs.size - 1) (zad G.X) G.pos.tag st sm
 old:∀ i,0<i→i<E.g0→(G.X i).kind.stage=1
 sh:SInv E G gs.size w
 stabA:∀ p a B w w₁,E.A p a B w→(∀ b,B b→w₁.heap[b]?=w.heap[b]?)→E.A p a B w₁
 ltG:∀ b,G.o 0 b→G.M 0 b
 chT:∀ j,E.g0≤j→j<gs.size→ChK t (G.X j).c
 clr:∀ b,G.M 0 b∨w.heap.size≤b→zet E.Shun b
def meas (G:zaz)(J:Nat): Meas :=
 (G.pos.rank E (Vc (J - 1) (zad G.X))+sumTo (J - 1) (fun i=>(G.X (i+1)).rank),(List.range (J - 1)).map (fun i=>(G.X (i+1)).tr),G.trM,if G.pos matches .blk then 0 else 1)
end
section
variable {E:zar}
theorem PInv.vc_le {End Anch:List (Nat×Ans)→Kp}{G:zaz}{gs:Array Goroutine}{w:World}{t:Trace}(h:PInv E End Anch G gs w t): Vc (gs.size - 1) (zad G.X)≤E.N:=by
 have hJ:gs.size≤E.g0+E.N:=by
  have:=h.sh.place
  have:=h.sh.geJ
  revert this ‹Pos.place _ _ _›
  cases G.pos <;> simp only [Pos.place] <;> omega
 have key:∀ (m:Nat),m+1≤gs.size→Vc m (zad G.X)≤m+1 - E.g0:=by
  intro m
  induction m with
  | zero=>intro _;exact Nat.zero_le _
  | succ m ih =>
    intro hm
    have h1:=ih (by omega)
    have e:Vc (m+1) (zad G.X)=Vc m (zad G.X)+cnt (zad G.X m):=rfl
    by_cases hlt:m+1<E.g0
    ·have:=h.old (m+1) (by omega) hlt
     have hc:cnt (zad G.X m)=0:=by simp [cnt,zad,this]
     omega
    ·have hc:cnt (zad G.X m)≤1:=by unfold cnt;split <;> omega
     omega
 have hp:=h.pos0
 rcases Nat.eq_zero_or_pos gs.size with h0|h0
 ·rw [h0];exact Nat.zero_le _
 ·have:=key (gs.size - 1) (by omega)
  omega
theorem RunT.splitA {P:Program}{main:Bool}{ty:TypeId}{Wg:Nat}{ld:Bool}{Stop:Kp}{tr:Tr}{M o:Nat→Prop}{g:Goroutine}{w:World}(h:RunT P main ty Wg ld Stop tr M o g w):
  (∀ w₁,Oth ty Wg M w w₁→Stop M o g w₁)∨∃ f,tr=.node f∧g.status=.running∧∃ g' w' es,stepG P main g w=.go g' w' es∧Own1 o w w'∧(∀ e∈es,ld=true∧EvI (more M w w') (more o w w') e)∧RunT P main ty Wg ld Stop (f w) (more M w w') (more o w w') g' w':=by
 cases tr with
 | leaf=>exact .inl h
 | node f =>
   rcases h with h|⟨hs,h⟩
   ·exact .inl h
   ·exact .inr ⟨f,rfl,hs,h w (.refl M w)⟩
theorem RunT.split {P:Program}{main:Bool}{ty:TypeId}{Wg:Nat}{ld:Bool}{Stop:Kp}{tr:Tr}{M o:Nat→Prop}{g:Goroutine}{w:World}(h:RunT P main ty Wg ld Stop tr M o g w):
  Stop M o g w∨∃ f,tr=.node f∧g.status=.running∧∃ g' w' es,stepG P main g w=.go g' w' es∧Own1 o w w'∧(∀ e∈es,ld=true∧EvI (more M w w') (more o w w') e)∧RunT P main ty Wg ld Stop (f w) (more M w w') (more o w w') g' w':=by
 cases tr with
 | leaf=>exact .inl (h w (.refl M w))
 | node f =>
   rcases h with h|⟨hs,h⟩
   ·exact .inl (h w (.refl M w))
   ·exact .inr ⟨f,rfl,hs,h w (.refl M w)⟩
theorem WSit.rely {x:Wk}{M o:Nat→Prop}{g:Goroutine}{w w₁:World}(h:WSit E x M o g w)(hr:Oth E.ty E.Wg M w w₁): WSit E x M o g w₁:=by
 cases h with
 | rcv h=>exact .rcv (h.rely hr)
 | again h=>exact .again (h.rely hr)
 | park e h=>exact .park e fun w₂ h₂=>h w₂ (hr.trans h₂)
 | wrk h=>exact .wrk (h.rely hr)
 | r0 h=>exact .r0 (h.rely hr)
 | k1 h=>exact .k1 (h.rely hr)
 | d1 h=>exact .d1 (h.rely hr)
 | d2 h=>exact .d2 (h.rely hr)
 | d3 h=>exact .d3 (h.rely hr)
 | d4 h=>exact .d4 (h.rely hr)
 | quit h=>exact .quit h
theorem MSit.rely {End Anch:List (Nat×Ans)→Kp}{p:Pos}{got:List (Nat×Ans)}{tr:Tr}{M o:Nat→Prop}{g:Goroutine}{w w₁:World}(h:MSit E End Anch p got tr M o g w)(hr:Oth E.ty E.Wg M w w₁): MSit E End Anch p got tr M o g w₁:=by
 cases h with
 | kd h=>exact .kd (h.rely hr)
 | a1 h=>exact .a1 (h.rely hr)
 | sa h=>exact .sa (h.rely hr)
 | ke h=>exact .ke (h.rely hr)
 | go h=>exact .go (h.rely hr)
 | snd h=>exact .snd (h.rely hr)
 | gat h=>exact .gat (h.rely hr)
 | sel e h=>exact .sel e fun w₂ h₂=>h w₂ (hr.trans h₂)
 | wkd h=>exact .wkd (h.rely hr)
 | anch h=>exact .anch (h.rely hr)
 | w1 h=>exact .w1 (h.rely hr)
 | w2 h=>exact .w2 (h.rely hr)
 | wsa h=>exact .wsa (h.rely hr)
 | w3 h=>exact .w3 (h.rely hr)
 | blk h=>exact .blk fun w₂ h₂=>h w₂ (hr.trans h₂)
 | w4 h=>exact .w4 (h.rely hr)
 | wke h=>exact .wke (h.rely hr)
 | acq h=>exact .acq (h.rely hr)
theorem WSit.status {x:Wk}{M o:Nat→Prop}{g:Goroutine}{w:World}(h:WSit E x M o g w): (g.status=.running∨g.status=.finished)∨(∃ g1,g=parked g1 #[rcase x.c zP] (.recv true)∧x.kind=.park∧x.closed=false):=by
 cases h with
 | rcv h=>exact .inl (.inl (h.running fun _ _ _ _ x=>x.1))
 | again h=>exact .inl (.inl (h.running fun _ _ _ _ x=>x.1))
 | park e h=>exact .inr ⟨_,rfl,rfl,rfl⟩
 | wrk h=>exact .inl (.inl (h.running fun _ _ _ _ x=>x.1))
 | r0 h=>exact .inl (.inl (h.running fun _ _ _ _ x=>x.1))
 | k1 h=>exact .inl (.inl (h.running fun _ _ _ _ x=>x.1))
 | d1 h=>exact .inl (.inl (h.running fun _ _ _ _ x=>x.1))
 | d2 h=>exact .inl (.inl (h.running fun _ _ _ _ x=>x.1))
 | d3 h=>exact .inl (.inl (h.running fun _ _ _ _ x=>x.1))
 | d4 h=>exact .inl (.inl (h.running fun _ _ _ _ x=>x.1))
 | quit h=>exact .inl h.status
theorem zdi.run' {A:Kp}{c:Nat}{l:List Nat}{M o:Nat→Prop}{g:Goroutine}{w:World}(h:zdi E c A l M o g w): g.status=.running:=by cases l <;> exact h.1
theorem MSit.status {End Anch:List (Nat×Ans)→Kp}(hAn:∀ got M o g w,Anch got M o g w→g.status=.running){p:Pos}{got:List (Nat×Ans)}{tr:Tr}{M o:Nat→Prop}{g:Goroutine}{w:World}(h:MSit E End Anch p got tr M o g w):
  (g.status=.running∧p≠.blk∧∀ r,p≠.sel r)∨(∃ g1 r,g=parked g1 (zbb E) .select∧p=.sel r)∨(g.status=.blocked∧g.offers=none∧p=.blk):=by
 cases h with
 | kd h=>exact .inl ⟨h.running fun _ _ _ _ x=>x.1,by simp,by simp⟩
 | a1 h=>exact .inl ⟨h.running fun _ _ _ _ x=>x.1,by simp,by simp⟩
 | sa h=>exact .inl ⟨h.running fun _ _ _ _ x=>x.1,by simp,by simp⟩
 | ke h=>exact .inl ⟨h.running fun _ _ _ _ x=>x.1,by simp,by simp⟩
 | go h=>exact .inl ⟨h.running fun _ _ _ _ x=>x.1,by simp,by simp⟩
 | snd h=>exact .inl ⟨h.running fun _ _ _ _ x=>zdi.run' x,by simp,by simp⟩
 | gat h=>exact .inl ⟨h.running fun _ _ _ _ x=>x.1,by simp,by simp⟩
 | sel e h=>exact .inr (.inl ⟨_,_,rfl,rfl⟩)
 | wkd h=>exact .inl ⟨h.running fun _ _ _ _ x=>x.1,by simp,by simp⟩
 | anch h=>exact .inl ⟨h.running (hAn _),by simp,by simp⟩
 | w1 h=>exact .inl ⟨h.running fun _ _ _ _ x=>x.1,by simp,by simp⟩
 | w2 h=>exact .inl ⟨h.running fun _ _ _ _ x=>x.1,by simp,by simp⟩
 | wsa h=>exact .inl ⟨h.running fun _ _ _ _ x=>x.1,by simp,by simp⟩
 | w3 h=>exact .inl ⟨h.running fun _ _ _ _ x=>x.1,by simp,by simp⟩
 | blk h=>exact .inr (.inr ⟨rfl,(h w (.refl _ w)).2.1,rfl⟩)
 | w4 h=>exact .inl ⟨h.running fun _ _ _ _ x=>x.1,by simp,by simp⟩
 | wke h=>exact .inl ⟨h.running fun _ _ _ _ x=>x.1,by simp,by simp⟩
 | acq h=>exact .inl ⟨h.running fun _ _ _ _ x=>x.1,by simp,by simp⟩
theorem WSit.woken {x:Wk}{M o:Nat→Prop}{g:Goroutine}{w w':World}(h:WSit E x M o g w)(hc:x.kind=.park→x.closed=false→∃ cap buf s r,w'.heap[x.c]?=some (.chan cap buf false s r false))(a a':Goroutine): woken E.P a a' w' g=g:=by
 rcases h.status with hs|⟨g1,rfl,hk,hcl⟩
 ·unfold Go.Conc.woken
  split
  ·exact again_running _ hs
  ·rfl
 ·obtain ⟨cap,buf,s,r,hc⟩:=hc hk hcl
  exact woken_recv_open a a' hc
theorem MSit.other {End Anch:List (Nat×Ans)→Kp}(hAn:∀ got M o g w,Anch got M o g w→g.status=.running){p:Pos}{got:List (Nat×Ans)}{tr:Tr}{M o:Nat→Prop}{g:Goroutine}{w w':World}(h:MSit E End Anch p got tr M o g w)(hr:Oth E.ty E.Wg M w w')(hG:∃ cap buf s r,w'.heap[E.cG]?=some (.chan cap buf false s r false))(hB:∃ cap buf s r,w'.heap[E.cB]?=some (.chan cap buf false s r false))(a a':Goroutine):
  ∃ p' tr',MSit E End Anch p' got tr' M o (Go.Conc.woken E.P a a' w' g) w'∧((p'=p∧tr'=tr)∨(p=.blk∧p'=.w3))∧(mayWake E.P a=true→a'.status=.running→p'≠.blk):=by
 have h':=h.rely hr
 rcases h'.status hAn with ⟨hs,hne,_⟩|⟨g1,r,rfl,rfl⟩|⟨hs,ho,rfl⟩
 ·refine ⟨p,tr,?_,.inl ⟨rfl,rfl⟩,fun _ _=>hne⟩
  have:Go.Conc.woken E.P a a' w' g=g:=by
   unfold Go.Conc.woken
   split
   ·exact again_running _ (.inl hs)
   ·rfl
  rw [this]
  exact h'
 ·refine ⟨_,tr,?_,.inl ⟨rfl,rfl⟩,fun _ _=>by simp⟩
  have:Go.Conc.woken E.P a a' w' (parked g1 (zbb E) .select)=parked g1 (zbb E) .select:=by
   unfold Go.Conc.woken
   split
   ·refine again_all_open fun cc hcc=>?_
    simp only [zbb,List.mem_toArray,List.mem_cons,List.not_mem_nil,or_false] at hcc
    rcases hcc with rfl|rfl
    ·obtain ⟨cap,buf,s,r,hc⟩:=hG
     exact ⟨_,_,cap,buf,s,r,false,rfl,hc⟩
    ·obtain ⟨cap,buf,s,r,hc⟩:=hB
     exact ⟨_,_,cap,buf,s,r,false,rfl,hc⟩
   ·rfl
  rw [this]
  exact h'
 ·by_cases hw:(mayWake E.P a && a'.status != .blocked && a'.status != .waiting)=true
  ·cases h' with
   | blk h' =>
     rename_i g0
     refine ⟨.w3,.leaf,?_,.inr ⟨rfl,rfl⟩,fun _ _=>by simp⟩
     have hg0:=h' w' (.refl _ w')
     have:Go.Conc.woken E.P a a' w' { g0 with status:=.blocked }=g0:=by
      unfold Go.Conc.woken
      rw [if_pos hw]
      obtain ⟨f,c,s,d,o⟩:=g0
      have e1:=hg0.1
      have e2:=hg0.2.1
      simp only at e1 e2
      subst e1 e2
      rfl
     rw [this]
     exact .w3 h'
  ·refine ⟨.blk,tr,?_,.inl ⟨rfl,rfl⟩,fun h1 h2=>absurd (by simp [h1,h2]) hw⟩
   have:Go.Conc.woken E.P a a' w' g=g:=by unfold Go.Conc.woken;rw [if_neg hw]
   rw [this]
   exact h'
end
end
section
open Go.Conc Go.ConcN
open Go.ConcR (KK wgBlock WgAt stA smA rd wr mk Bk g_of_ofEvents)
section
variable {E:zar} {End Anch:List (Nat×Ans)→Kp} {G:zaz} {gs:Array Goroutine} {w w':World} {t:Trace} {J:Nat} {sl:Option (Nat×Nat)}
theorem zv6 {M o:Nat→Nat→Prop}{Wg:Nat}{ty:TypeId}(hH:Held Wg J M o w.heap.size){i j:Nat}(hi:i<J)(hj:j<J)(hij:i≠j)(h:Own1 (o i) w w'): Oth ty Wg (M j) w w' :=
 ⟨fun b hb=>h.stay b (hH.lt j b hb) (fun ho=>hH.apart i j hi hj hij b ho hb),h.size,h.tape,h.os,h.out,fun ⟨st,sm,hl⟩=>⟨st,sm,hl.of_block (h.stay Wg hH.wg fun ho=>hH.noWg i (hH.sub i Wg ho))⟩⟩
theorem z31 {M:Nat→Prop}{Wg:Nat}{ty:TypeId}(hM:¬ M Wg){a:Addr}(ha:a.block=Wg){v:Value}{st sm:Int}(hl:WgAt ty Wg (w.setCell a v) st sm): Oth ty Wg M w (w.setCell a v):=by
 have hs:=aside_setCell w a v
 exact ⟨fun b hb=>hs.block b (by rw [ha];rintro rfl;exact hM hb),by rw [hs.size];exact Nat.le_refl _,hs.tape,hs.os,hs.output,fun _=>⟨st,sm,hl⟩⟩
theorem zag (w:World){c cap:Nat}{buf:Array Value}{cl:Bool}{s r:Nat}{tm:Bool}{b:Nat}(h:b≠c): (w.setChan c cap buf cl s r tm).heap[b]?=w.heap[b]?:=by
 show (w.heap.setIfInBounds c _)[b]?=_
 rw [Array.getElem?_setIfInBounds_ne (Ne.symm h)]
theorem za7 (w:World){c cap:Nat}{buf:Array Value}{cl:Bool}{s r:Nat}{tm:Bool}(h:c<w.heap.size): (w.setChan c cap buf cl s r tm).heap[c]?=some (.chan cap buf cl s r tm):=by
 show (w.heap.setIfInBounds c _)[c]?=_
 rw [Array.getElem?_setIfInBounds_self_of_lt h]
theorem zao (w:World){c cap:Nat}{buf:Array Value}{cl:Bool}{s r:Nat}{tm:Bool}: (w.setChan c cap buf cl s r tm).heap.size=w.heap.size:=by
 show (w.heap.setIfInBounds c _).size=_
 simp
theorem zek {M:Nat→Prop}{Wg:Nat}{ty:TypeId}{c cap:Nat}{buf:Array Value}{cl:Bool}{s r:Nat}{tm:Bool}(hM:¬ M c)(hW:c≠Wg): Oth ty Wg M w (w.setChan c cap buf cl s r tm) :=
 ⟨fun b hb=>zag w (by rintro rfl;exact hM hb),by rw [zao];exact Nat.le_refl _,rfl,rfl,rfl,fun ⟨st,sm,hl⟩=>⟨st,sm,hl.of_block (zag w (Ne.symm hW))⟩⟩
theorem SInv.move (h:SInv E G J w)(stab:∀ p a B w w₁,E.A p a B w→(∀ b,B b→w₁.heap[b]?=w.heap[b]?)→E.A p a B w₁){G':zaz}(hX:∀ i,(G'.X i).c=(G.X i).c∧(G'.X i).todo=(G.X i).todo∧(G'.X i).nb=(G.X i).nb∧(G'.X i).closed=(G.X i).closed∧(G'.X i).kind.work=(G.X i).kind.work)(hpl:G'.pos.place E.N (J - E.g0))(hsnd:∀ m k c l,G'.pos=.snd m k c l↔G.pos=.snd m k c l)(hsel:∀ r,G'.pos=.sel r→G.bG=[]∧G.bB=[])(hw:G'.pos.want E.n G'.got)(e1:G'.bG=G.bG)(e2:G'.bB=G.bB)(e3:G'.got=G.got)(e4:G'.B=G.B)(hM:∀ j b,G'.M j b→b<w.heap.size→G.M j b)(hsz:w.heap.size≤w'.heap.size)(hk:∀ b,b<w.heap.size→b≠E.Wg→(∀ j,j<J→¬ G.M j b)→w'.heap[b]?=w.heap[b]?): SInv E G' J w':=by
 have et:G'.told=G.told:=by unfold zaz.told;rw [e1,e2,e3]
 have ep:∀ i,(G'.X i).pend=(G.X i).pend:=fun i=>by unfold Wk.pend;rw [(hX i).2.2.2.2,(hX i).2.1]
 have fr:∀ c,Free E G w.heap.size c→Free E G' w'.heap.size c:=fun c hc=>⟨Nat.lt_of_lt_of_le hc.1 hsz,hc.2.1,fun j hj=>hc.2.2.1 j (hM j c hj hc.1),by rw [e4];exact hc.2.2.2⟩
 have kc:∀ c,Free E G w.heap.size c→w'.heap[c]?=w.heap[c]?:=fun c hc=>hk c hc.1 hc.2.1 fun j _=>hc.2.2.1 j
 refine ⟨hpl,h.geJ,fun i h1 h2=>?_,fun i h1 h2=>?_,fun i h1 h2 hc=>?_,fun m k c l hp=>?_,?_,?_,by rw [e1];exact h.tyG,by rw [e2];exact h.tyB,fun r hr=>by rw [e1,e2];exact hsel r hr,fun i h1 h2=>?_,fun i j h1 h2 h3 h4 hij=>?_,fr _ h.freeG,fr _ h.freeB,h.neGB,
  fun x hx=>?_,fun p b hb=>?_,by rw [e4];exact h.hBB,fun p=>?_,?_,hw⟩
 ·obtain ⟨a1,a2,a3,a4,a5⟩:=hX i
  rw [a1,a2,a3,a4,kc _ (h.freeP i h1 h2).1]
  exact h.chP i h1 h2
 ·obtain ⟨a1,a2,a3,a4,a5⟩:=hX i
  rw [a2,a3,a4]
  exact h.nb i h1 h2
 ·obtain ⟨a1,a2,a3,a4,a5⟩:=hX i
  rw [a4] at hc
  obtain ⟨m,k,l,hp,e⟩:=h.shut i h1 h2 hc
  exact ⟨m,k,l,by rw [a1];exact (hsnd _ _ _ _).2 hp,e⟩
 ·obtain ⟨a1,a2,a3,a4,a5⟩:=hX (J - 1)
  rw [a1,a2,a3,a4]
  exact h.cur m k c l ((hsnd _ _ _ _).1 hp)
 ·rw [kc _ h.freeG,e1];exact h.chG
 ·rw [kc _ h.freeB,e2];exact h.chB
 ·rw [(hX i).1]
  exact ⟨fr _ (h.freeP i h1 h2).1,(h.freeP i h1 h2).2⟩
 ·rw [(hX i).1,(hX j).1]
  exact h.distinct i j h1 h2 h3 h4 hij
 ·rw [et] at hx
  rw [e4]
  refine stab _ _ _ w w' (h.ans x hx) fun b hb=>?_
  obtain ⟨q1,q2,q3,_⟩:=h.hB _ b hb
  exact hk b q1 q2 q3
 ·rw [e4] at hb
  obtain ⟨q1,q2,q3,q4⟩:=h.hB p b hb
  exact ⟨Nat.lt_of_lt_of_le q1 hsz,q2,fun j hj hm=>q3 j hj (hM j b hm q1),by rw [et];exact q4⟩
 ·rw [et]
  simp only [ep]
  exact h.cnt p
 ·rw [et]
  simp only [ep]
  exact h.len
theorem Held.grow {Wg:Nat}{M o:Nat→Nat→Prop}(h:Held Wg J M o w.heap.size){i:Nat}(hi:i<J)(hs:w.heap.size≤w'.heap.size): Held Wg J (upd M i (more (M i) w w')) (upd o i (more (o i) w w')) w'.heap.size:=by
 refine ⟨fun j b hb=>?_,fun a c ha hc hac b hb hm=>?_,fun j b hb=>?_,fun j hb=>?_,Nat.lt_of_lt_of_le h.wg hs,fun j hj b hb=>by rw [zcu,if_neg (by omega)] at hb;exact h.out j hj b hb⟩
 ·rw [zcu] at hb ⊢
  by_cases e:j=i
  ·rw [if_pos e] at hb ⊢
   exact hb.imp (h.sub i b) id
  ·rw [if_neg e] at hb ⊢
   exact h.sub j b hb
 ·rw [zcu] at hb hm
  by_cases e1:a=i
  ·rw [if_pos e1,] at hb
   rw [if_neg (by rw [← e1];exact Ne.symm hac)] at hm
   rcases hb with hb|⟨hb,_⟩
   ·exact h.apart i c (e1 ▸ ha) hc (e1 ▸ hac) b hb hm
   ·have:=h.lt c b hm;omega
  ·rw [if_neg e1] at hb
   by_cases e2:c=i
   ·rw [if_pos e2] at hm
    rcases hm with hm|⟨hm,_⟩
    ·exact h.apart a i ha (e2 ▸ hc) (e2 ▸ hac) b hb hm
    ·have:=h.lt a b (h.sub a b hb);omega
   ·rw [if_neg e2] at hm
    exact h.apart a c ha hc hac b hb hm
 ·rw [zcu] at hb
  by_cases e:j=i
  ·rw [if_pos e] at hb
   rcases hb with hb|hb
   ·exact Nat.lt_of_lt_of_le (h.lt i b hb) hs
   ·exact hb.2
  ·rw [if_neg e] at hb
   exact Nat.lt_of_lt_of_le (h.lt j b hb) hs
 ·rw [zcu] at hb
  by_cases e:j=i
  ·rw [if_pos e] at hb
   rcases hb with hb|hb
   ·exact h.noWg i hb
   ·have:=h.wg;have:=hb.1;omega
  ·rw [if_neg e] at hb
   exact h.noWg j hb
def PI (E:zar)(End Anch:List (Nat×Ans)→Kp)(μ:Meas)(m:Machine)(t:Trace): Prop:=∃ G gs w sl,m=crowd gs w sl∧PInv E End Anch G gs w t∧μ=meas E G gs.size
theorem zut {X:Nat→Wk}{i n:Nat}(hi:0<i)(x:Wk): (List.range n).map (fun k=>(upd X i x (k+1)).tr)=((List.range n).map fun k=>(X (k+1)).tr).set (i - 1) x.tr:=by
 apply List.ext_getElem?
 intro k
 rw [List.getElem?_map,List.getElem?_set,List.getElem?_map,List.length_map,List.length_range]
 by_cases hk:k<n
 ·rw [List.getElem?_range hk]
  by_cases e:i - 1=k
  ·have:k+1=i:=by omega
   rw [if_pos e,if_pos (by omega),Option.map_some,this]
   simp [upd]
  ·have:k+1≠i:=by omega
   rw [if_neg e]
   simp [upd,this]
 ·rw [List.getElem?_eq_none (by simp;omega)]
  split
  ·split
   ·omega
   ·rfl
  ·rfl
theorem zoh {G G':zaz}{E:zar}{n i:Nat}(hi:0<i)(hn:i - 1<n - 1)(h1:G'.pos.rank E (Vc (n - 1) (zad G'.X))+sumTo (n - 1) (fun k=>(G'.X (k+1)).rank)=G.pos.rank E (Vc (n - 1) (zad G.X))+sumTo (n - 1) (fun k=>(G.X (k+1)).rank)){x:Wk}(hX:G'.X=upd G.X i x)(hs:Sub x.tr (G.X i).tr): Less (meas E G' n) (meas E G n):=by
 unfold meas
 rw [h1]
 refine Prod.Lex.right _ (Prod.Lex.left _ _ ?_)
 rw [hX,zut hi]
 refine zyt (b:=(G.X i).tr) ?_ hs
 rw [List.getElem?_map,List.getElem?_range hn,Option.map_some,show i - 1+1=i by omega]
theorem zke {E:zar}{p p':Pos}(h:p'=p∨(p=.blk∧p'=.w3))(v:Nat): p'.rank E v=p.rank E v:=by
 rcases h with rfl|⟨rfl,rfl⟩
 ·rfl
 ·rfl
theorem zxr {p p':Pos}(h:p'=p∨(p=.blk∧p'=.w3)): p'.deaf=p.deaf:=by
 rcases h with rfl|⟨rfl,rfl⟩ <;> rfl
end
end
section
open Go.Conc Go.ConcN
open Go.ConcR (KK wgBlock WgAt stA smA rd wr mk Bk g_of_ofEvents)
section
variable {E:zar} {End Anch:List (Nat×Ans)→Kp} {G:zaz} {gs:Array Goroutine} {w w':World} {t:Trace} {J:Nat} {sl:Option (Nat×Nat)}
theorem ztf {p p':Pos}(h:p'=p∨(p=.blk∧p'=.w3)){N J0:Nat}(hp:p.place N J0): p'.place N J0:=by
 rcases h with rfl|⟨rfl,rfl⟩
 ·exact hp
 ·exact hp
theorem zwo {p p':Pos}(h:p'=p∨(p=.blk∧p'=.w3)){n:Nat}{got:List (Nat×Ans)}(hp:p.want n got): p'.want n got:=by
 rcases h with rfl|⟨rfl,rfl⟩
 ·exact hp
 ·exact hp
theorem zzv {p p':Pos}(h:p'=p∨(p=.blk∧p'=.w3)){m k c:Nat}{l:List Nat}: p'=.snd m k c l↔p=.snd m k c l:=by
 rcases h with rfl|⟨rfl,rfl⟩
 ·exact Iff.rfl
 ·simp
theorem zzw {p p':Pos}(h:p'=p∨(p=.blk∧p'=.w3)){r:Nat}: p'=.sel r↔p=.sel r:=by
 rcases h with rfl|⟨rfl,rfl⟩
 ·exact Iff.rfl
 ·simp
theorem PInv.stepW (hAn:∀ got M o g w,Anch got M o g w→g.status=.running)(h:PInv E End Anch G gs w t){i:Nat}(hi0:0<i)(hi:i<gs.size){g g':Goroutine}{es:Array Event}(hg:gs[i]?=some g)(hst:stepG E.P false g w=.go g' w' es)(x':Wk)(M' o':Nat→Nat→Prop)(hX:x'.c=(G.X i).c∧x'.todo=(G.X i).todo∧x'.nb=(G.X i).nb∧x'.closed=(G.X i).closed∧x'.kind.work=(G.X i).kind.work)(hoth:∀ j,j<gs.size→j≠i→Oth E.ty E.Wg (G.M j) w w')(hM:∀ j,j≠i→M' j=G.M j∧o' j=G.o j)(hMi:∀ j b,M' j b→b<w.heap.size→G.M j b)(hsz:w.heap.size≤w'.heap.size)(hk:∀ b,b<w.heap.size→b≠E.Wg→(∀ j,j<gs.size→¬ G.M j b)→w'.heap[b]?=w.heap[b]?)(held':Held E.Wg gs.size M' o' w'.heap.size)(ti':TI E.Shun E.Wg E.g0 gs.size M' o' w'.heap.size (t++MemOp.ofEvents i g.frame.fn g.frame.place es))(hs':WSit E x' (M' i) (o' i) g' w')(hdeaf:deafBehind (G.X i).deaf es=x'.deaf)(hrel:E.g0≤i→x'.kind.stage≤6→∃ r,RelBy (stA E.Wg) (t++MemOp.ofEvents i g.frame.fn g.frame.place es) i r)(hwg:∀ p',(p'=G.pos∨(G.pos=.blk∧p'=.w3))→(mayWake E.P g=true→g'.status=.running→p'≠.blk)→∃ st sm,WgAt E.ty E.Wg w' st sm∧Go.ConcN.Mode (gs.size - 1) (zad (upd G.X i x')) p'.tag st sm)(hold:i<E.g0→x'.kind.stage=1)(hch:∀ j,E.g0≤j→j<gs.size→ChK (t++MemOp.ofEvents i g.frame.fn g.frame.place es) (G.X j).c):
  ∃ G' gs',runT E.P (crowd gs w sl) i=(.next (crowd gs' w' sl),MemOp.ofEvents i g.frame.fn g.frame.place es)∧gs'.size=gs.size∧PInv E End Anch G' gs' w' (t++MemOp.ofEvents i g.frame.fn g.frame.place es)∧G'.X=upd G.X i x' ∧
   ((G'.pos=G.pos∧G'.trM=G.trM)∨(G.pos=.blk∧G'.pos=.w3)):=by
 have hsh:=h.sh
 have free_keep:∀ c,Free E G w.heap.size c→w'.heap[c]?=w.heap[c]?:=fun c hc=>hk c hc.1 hc.2.1 fun j _=>hc.2.2.1 j
 obtain ⟨a,ha,hma⟩:=h.main
 obtain ⟨sG,rG,cG⟩:=hsh.chG
 obtain ⟨sB,rB,cB⟩:=hsh.chB
 obtain ⟨p',tr',hm',hp',hwk⟩:=hma.other hAn (hoth 0 (by omega) (by omega)) ⟨_,_,_,_,(free_keep _ hsh.freeG).trans cG⟩ ⟨_,_,_,_,(free_keep _ hsh.freeB).trans cB⟩ g g'
 have hlike:p'=G.pos∨(G.pos=.blk∧p'=.w3):=hp'.imp (·.1) id
 have hXall:∀ j,(upd G.X i x' j).c=(G.X j).c∧(upd G.X i x' j).todo=(G.X j).todo∧(upd G.X i x' j).nb=(G.X j).nb∧(upd G.X i x' j).closed=(G.X j).closed∧(upd G.X i x' j).kind.work=(G.X j).kind.work:=by
  intro j
  by_cases e:j=i
  ·subst e;rw [upd_same];exact hX
  ·rw [upd_ne G.X x' e];exact ⟨rfl,rfl,rfl,rfl,rfl⟩
 have e0:M' 0=G.M 0∧o' 0=G.o 0:=hM 0 (by omega)
 refine ⟨{ G with X:=upd G.X i x',M:=M',o:=o',pos:=p',trM:=tr' },(gs.map (woken E.P g g' w')).setIfInBounds i g',runT_crowd_go (P:=E.P) hg (by rw [show (i == 0)=false by simp;omega];exact hst),by simp,?_,rfl,hp'⟩
 have hsize:((gs.map (woken E.P g g' w')).setIfInBounds i g').size=gs.size:=by simp
 refine ⟨h.pos0,h.few,⟨_,by rw [get_map_set _ _ _ _ (by omega),ha];rfl,by show MSit E End Anch p' G.got tr' (M' 0) (o' 0) _ w';rw [e0.1,e0.2];exact hm'⟩,fun j hj0 hj=>?_,by rw [hsize];exact held',by rw [hsize];exact ti',
  by rw [Deaf_other t (by omega) _ g_of_ofEvents,h.deaf0];exact (zxr hlike).symm,fun j hj0 hj=>?_,fun j hj0 hj hs=>?_,by rw [hsize];exact hwg p' hlike hwk,fun j hj0 hj=>?_,?_,h.stabA,fun b hb=>held'.sub 0 b hb,fun j hj0 hj=>by rw [hsize] at hj;show ChK _ (upd G.X i x' j).c;rw [(hXall j).1];exact hch j hj0 hj,fun b hb=>h.clr b (hb.imp (fun k=>(by have k:M' 0 b:=k;rw [e0.1] at k;exact k)) (fun k=>Nat.le_trans hsz k))⟩
 ·rw [hsize] at hj
  by_cases e:j=i
  ·subst e
   exact ⟨g',get_map_set_same _ _ _ hi,by show WSit E (upd G.X j x' j) _ _ _ _;rw [upd_same];exact hs'⟩
  ·obtain ⟨y,hy,hsy⟩:=h.wk j hj0 hj
   have hy':WSit E (G.X j) (G.M j) (G.o j) y w':=hsy.rely (hoth j hj e)
   refine ⟨y,?_,?_⟩
   ·rw [get_map_set _ _ _ _ (Ne.symm e),hy,Option.map_some,hy'.woken]
    intro hk1 hc
    by_cases hj2:E.g0≤j
    ·obtain ⟨s,r,hch⟩:=hsh.chP j hj2 hj
     rw [hc] at hch
     exact ⟨_,_,s,r,(free_keep _ (hsh.freeP j hj2 hj).1).trans hch⟩
    ·have h1:=h.old j hj0 (by omega)
     rw [hk1] at h1
     cases h1
   ·show WSit E (upd G.X i x' j) (M' j) (o' j) y w'
    rw [upd_ne G.X x' e,(hM j e).1,(hM j e).2]
    exact hy'
 ·rw [hsize] at hj
  by_cases e:j=i
  ·subst e
   rw [Deaf_own,h.deafW j hj0 hj]
   show _=(upd G.X j x' j).deaf
   rw [upd_same];exact hdeaf
  ·rw [Deaf_other t (Ne.symm e) _ g_of_ofEvents,h.deafW j hj0 hj]
   show _=(upd G.X i x' j).deaf
   rw [upd_ne G.X x' e]
 ·rw [hsize] at hj
  by_cases e:j=i
  ·subst e
   have hs:(upd G.X j x' j).kind.stage≤6:=hs
   rw [upd_same] at hs
   exact hrel hj0 hs
  ·have hs:(upd G.X i x' j).kind.stage≤6:=hs
   rw [upd_ne G.X x' e] at hs
   obtain ⟨r,hr⟩:=h.rel j hj0 hj hs
   exact ⟨r,hr.appOther g_of_ofEvents (Ne.symm e)⟩
 ·show (upd G.X i x' j).kind.stage=1
  by_cases e:j=i
  ·subst e;rw [upd_same];exact hold hj
  ·rw [upd_ne G.X x' e];exact h.old j hj0 hj
 ·rw [hsize]
  exact hsh.move h.stabA hXall (ztf hlike hsh.place) (fun m k c l=>zzv hlike) (fun r hr=>hsh.sel r ((zzw hlike).1 hr)) (zwo hlike hsh.want) rfl rfl rfl rfl hMi hsz hk
end
end
section
open Go.Conc Go.ConcN
open Go.ConcR (KK wgBlock WgAt stA smA rd wr mk Bk g_of_ofEvents bk_of_mute ofEvent_loc_mark)
section
variable {E:zar} {End Anch:List (Nat×Ans)→Kp} {G:zaz} {gs:Array Goroutine} {w w':World} {t:Trace} {J:Nat} {sl:Option (Nat×Nat)}
theorem znt {α:Type}(X:Nat→α){i:Nat}(hi:0<i)(x:α): (fun k=>upd X i x (k+1))=upd (fun k=>X (k+1)) (i - 1) x:=by
 funext k
 unfold upd
 by_cases e:k+1=i
 ·rw [if_pos e,if_pos (by omega)]
 ·rw [if_neg e,if_neg (by omega)]
theorem zdw (X:Nat→Wk){i:Nat}(hi:0<i)(x:Wk): zad (upd X i x)=upd (zad X) (i - 1) ⟨x.kind.stage,0,0⟩:=by
 funext k
 unfold zad upd
 by_cases e:k+1=i
 ·rw [if_pos e,if_pos (by omega)]
 ·rw [if_neg e,if_neg (by omega)]
theorem zvu {E:zar}(p:Pos){v v':Nat}(h:v'≤v): p.rank E v'≤p.rank E v:=by
 cases p <;> simp only [Pos.rank] <;> omega
theorem zwp {G G':zaz}{n i:Nat}(hi:0<i)(hn:i - 1<n - 1)(hp:G'.pos=G.pos∨(G.pos=.blk∧G'.pos=.w3)){x:Wk}(hX:G'.X=upd G.X i x)(hr:x.rank<(G.X i).rank)(hc:cnt ⟨x.kind.stage,0,0⟩≤cnt ⟨(G.X i).kind.stage,0,0⟩):
  Less (meas E G' n) (meas E G n):=by
 refine Prod.Lex.left _ _ ?_
 have e1:sumTo (n - 1) (fun k=>(G'.X (k+1)).rank)+(G.X i).rank=sumTo (n - 1) (fun k=>(G.X (k+1)).rank)+x.rank:=by
  have:=sumTo_upd (fun k=>G.X (k+1)) x Wk.rank hn
  rw [show (G.X i)=(fun k=>G.X (k+1)) (i - 1) by show G.X i=G.X (i - 1+1);rw [show i - 1+1=i by omega]]
  rw [← this,hX]
  congr 1
  exact sumTo_congr fun k _=>by rw [← znt G.X hi x]
 have e2:Vc (n - 1) (zad G'.X)+cnt ⟨(G.X i).kind.stage,0,0⟩=Vc (n - 1) (zad G.X)+cnt ⟨x.kind.stage,0,0⟩:=by
  rw [hX,zdw _ hi]
  have:=Vc_upd (zad G.X) (⟨x.kind.stage,0,0⟩:WD) hn
  rw [show zad G.X (i - 1)=⟨(G.X i).kind.stage,0,0⟩ by show (⟨(G.X (i - 1+1)).kind.stage,0,0⟩:WD)=_;rw [show i - 1+1=i by omega]] at this
  exact this
 rw [zke hp]
 have:=zvu (E:=E) G.pos (v:=Vc (n - 1) (zad G.X)) (v':=Vc (n - 1) (zad G'.X)) (by omega)
 show _+_<_+_
 omega
theorem zdd {j:Nat}{D:Nat→WD}{p p':Pos}{st sm:Int}(h:p'=p∨(p=.blk∧p'=.w3))(hm:Go.ConcN.Mode j D p.tag st sm): Go.ConcN.Mode j D p'.tag st sm:=by
 rcases h with rfl|⟨rfl,rfl⟩
 ·exact hm
 ·generalize e:Pos.tag .blk=tg at hm
  cases hm with
  | opn h1 _ _=>subst e;exact h1.elim
  | reg h1 h2 h3=>exact .reg trivial h2 h3
  | last L h1 h2 h3 h4=>exact .last L trivial h2 h3 h4
  | sema _=>cases e
  | fin h1 _=>subst e;exact h1.elim
theorem zxj {M o:Nat→Prop}{e:Event}(h:EvI M o e): e.loc≠.mark .disable∧e.loc≠.mark .enable:=by
 unfold EvI at h
 split at h <;> simp_all
theorem PInv.idleW (hAn:∀ got M o g w,Anch got M o g w→g.status=.running)(h:PInv E End Anch G gs w t){i:Nat}(hi0:0<i)(hi:i<gs.size)(hi2:E.g0≤i){g g':Goroutine}{es:Array Event}(hg:gs[i]?=some g)(hst:stepG E.P false g w=.go g' w' es)(ho:Own1 (G.o i) w w'){ld:Bool}(hev:∀ e∈es,ld=true∧EvI (more (G.M i) w w') (more (G.o i) w w') e)(hld:ld=true→¬ (G.X i).kind.stage≤6){tr':Tr}(hsub:Sub tr' (G.X i).tr)(hs':WSit E { G.X i with tr:=tr' } (more (G.M i) w w') (more (G.o i) w w') g' w'):
  ∃ m' ops μ',runT E.P (crowd gs w sl) i=(.next m',ops)∧Less μ' (meas E G gs.size)∧PI E End Anch μ' m' (t++ops):=by
 have hdk:deafBehind (G.X i).deaf es=(G.X i).deaf:=deafBehind_idle (fun e he=>zxj (hev e he).2) _
 have hst2:(upd G.X i { G.X i with tr:=tr' } i).kind.stage=(G.X i).kind.stage:=by rw [upd_same]
 have hstg:zad (upd G.X i { G.X i with tr:=tr' })=zad G.X:=by
  rw [zdw _ hi0]
  funext k
  unfold upd zad
  split
  ·rename_i e;subst e;show (⟨(G.X i).kind.stage,0,0⟩:WD)=⟨(G.X (i - 1+1)).kind.stage,0,0⟩;rw [show i - 1+1=i by omega]
  ·rfl
 obtain ⟨st,sm,hW,hm⟩:=h.wg
 have hWo:¬ G.o i E.Wg:=fun hh=>h.held.noWg i (h.held.sub i _ hh)
 obtain ⟨G',gs',hr,hs,hP,hX,hpos⟩:=h.stepW (sl:=sl) hAn hi0 hi hg hst { G.X i with tr:=tr' } (upd G.M i (more (G.M i) w w')) (upd G.o i (more (G.o i) w w')) ⟨rfl,rfl,rfl,rfl,rfl⟩ (fun j hj hne=>zv6 h.held hi hj (Ne.symm hne) ho)
  (fun j hne=>⟨upd_ne _ _ hne,upd_ne _ _ hne⟩) (fun j b hb hlt=>by
   rw [zcu] at hb
   by_cases e:j=i
   ·rw [if_pos e] at hb;subst e;exact hb.resolve_right fun hn=>by have:=hn.1;omega
   ·rw [if_neg e] at hb;exact hb) ho.size (fun b hb hne hM=>ho.stay b hb fun hh=>hM i hi (h.held.sub i b hh)) (h.held.grow hi ho.size)
  (h.ti.own h.held hi ho.size (.inr hi2) fun e he=>(hev e he).2) (by rw [upd_same,upd_same];exact hs') hdk
  (fun h1 h2=>by
   have h2:(G.X i).kind.stage≤6:=h2
   have:es=#[]:=Array.eq_empty_iff_forall_not_mem.2 fun e he=>hld (hev e he).1 h2
   subst this
   obtain ⟨r,hr⟩:=h.rel i h1 hi h2
   exact ⟨r,by simpa [MemOp.ofEvents] using hr⟩)
  (fun p' hp _=>⟨st,sm,hW.of_block (ho.stay _ h.held.wg hWo),by rw [hstg];exact zdd hp hm⟩) (fun hlt=>by omega)
  (fun j hj0 hj=>(h.chT j hj0 hj).app fun op hop x hx hb=>by
   exfalso
   rw [ofEvents_eq] at hop
   obtain ⟨e,he,rfl⟩:=Array.mem_map.1 hop
   have hf:=(h.sh.freeP j hj0 hj).1
   rcases z25 (hev e he).2 hx hb with hm|hm
   ·exact hf.2.2.1 i hm
   ·have:=hm.1;have:=hf.1;omega)
 refine ⟨_,_,_,hr,?_,G',gs',w',sl,rfl,hP,rfl⟩
 rw [hs]
 refine zoh hi0 (by omega) ?_ hX hsub
 have hp:G'.pos=G.pos∨(G.pos=.blk∧G'.pos=.w3):=hpos.imp (·.1) id
 rw [zke hp,hX,hstg]
 congr 1
 exact sumTo_congr fun k _=>by
  unfold upd
  split
  ·rename_i e;subst e;rfl
  ·rfl
theorem PInv.bookW (hAn:∀ got M o g w,Anch got M o g w→g.status=.running)(h:PInv E End Anch G gs w t){i:Nat}(hi0:0<i)(hi:i<gs.size){g g':Goroutine}{es:Array Event}(hg:gs[i]?=some g)(hst:stepG E.P false g w=.go g' w' es)(x':Wk)(hX:x'.c=(G.X i).c∧x'.todo=(G.X i).todo∧x'.nb=(G.X i).nb∧x'.closed=(G.X i).closed∧x'.kind.work=(G.X i).kind.work)(hA:Aside E.Wg w w'){st' sm':Int}(hW':WgAt E.ty E.Wg w' st' sm')(hu:∀ op∈MemOp.ofEvents i g.frame.fn g.frame.place es,op.act.touch?=none∧op.act.low w.heap.size∧op.act≠.mark (.release (stA E.Wg))∨E.g0≤i∧op.act.low w.heap.size∧op.act≠.mark (.release (stA E.Wg))∧∀ x,op.act.touch?=some x→ShN E.Wg x.loc∧x.kind≠.plain∧x.kind≠.said)(hs':WSit E x' (G.M i) (G.o i) g' w')(hdeaf:deafBehind (G.X i).deaf es=x'.deaf)(hrel:E.g0≤i→x'.kind.stage≤6→∃ r,RelBy (stA E.Wg) (t++MemOp.ofEvents i g.frame.fn g.frame.place es) i r)(hwg:∀ p',(p'=G.pos∨(G.pos=.blk∧p'=.w3))→(mayWake E.P g=true→g'.status=.running→p'≠.blk)→Go.ConcN.Mode (gs.size - 1) (upd (zad G.X) (i - 1) ⟨x'.kind.stage,0,0⟩) p'.tag st' sm')(hold:i<E.g0→x'.kind.stage=1)(hless:(x'.rank<(G.X i).rank∧cnt ⟨x'.kind.stage,0,0⟩≤cnt ⟨(G.X i).kind.stage,0,0⟩)∨(x'={ G.X i with tr:=x'.tr,deaf:=x'.deaf }∧Sub x'.tr (G.X i).tr)):
  ∃ m' ops μ',runT E.P (crowd gs w sl) i=(.next m',ops)∧Less μ' (meas E G gs.size)∧PI E End Anch μ' m' (t++ops):=by
 have hsz:w'.heap.size=w.heap.size:=hA.size
 have hlt:∀ op∈MemOp.ofEvents i g.frame.fn g.frame.place es,op.g=i:=fun op hop=>g_of_ofEvents op hop
 obtain ⟨G',gs',hr,hs,hP,hXX,hpos⟩:=h.stepW (sl:=sl) hAn hi0 hi hg hst x' G.M G.o hX
  (fun j hj hne=>⟨fun b hb=>hA.block b (by rintro rfl;exact h.held.noWg j hb),by rw [hsz];exact Nat.le_refl _,hA.tape,hA.os,hA.output,fun _=>⟨_,_,hW'⟩⟩)
  (fun j hne=>⟨rfl,rfl⟩) (fun j b hb _=>hb) (by rw [hsz];exact Nat.le_refl _) (fun b _ hne _=>hA.block b hne) (by rw [hsz];exact h.held)
  (by
   rw [hsz]
   by_cases hall:∀ op∈MemOp.ofEvents i g.frame.fn g.frame.place es,op.act.touch?=none∧op.act.low w.heap.size∧op.act≠.mark (.release (stA E.Wg))
   ·exact h.ti.mute fun op hop=>⟨(hall op hop).1,by rw [hlt op hop];exact hi,(hall op hop).2⟩
   ·have hi2:E.g0≤i:=by
     apply Classical.byContradiction
     intro hn
     exact hall fun op hop=>(hu op hop).resolve_right fun hh=>hn hh.1
    refine h.ti.book h.held hi (fun op hop=>?_) (.inr hi2)
    rcases hu op hop with ⟨h1,h2,h3⟩|⟨_,h2,h3,h4⟩
    ·exact ⟨hlt op hop,h2,h3,fun x hx=>by rw [h1] at hx;cases hx⟩
    ·exact ⟨hlt op hop,h2,h3,fun x hx=>⟨(h4 x hx).1,(h4 x hx).2.1,fun e=>absurd e (h4 x hx).2.2⟩⟩)
  hs' hdeaf hrel (fun p' hp hw=>⟨st',sm',hW',by rw [zdw _ hi0];exact hwg p' hp hw⟩) hold
  (fun j hj0 hj=>(h.chT j hj0 hj).app fun op hop x hx hb=>by
   exfalso
   rcases hu op hop with ⟨h1,_⟩|⟨_,_,_,h4⟩
   ·rw [h1] at hx;cases hx
   ·obtain ⟨ad,e,hW2⟩:=(h4 x hx).1
    rw [e] at hb
    simp only [zdj,Option.some.injEq] at hb
    exact (h.sh.freeP j hj0 hj).1.2.1 (by rw [← hb,hW2]))
 have hp:G'.pos=G.pos∨(G.pos=.blk∧G'.pos=.w3):=hpos.imp (·.1) id
 refine ⟨_,_,_,hr,?_,G',gs',w',sl,rfl,hP,rfl⟩
 rw [hs]
 rcases hless with ⟨h1,h2⟩|⟨h1,h2⟩
 ·exact zwp hi0 (by omega) hp hXX h1 h2
 ·have hstg:zad (upd G.X i x')=zad G.X:=by
   rw [zdw _ hi0]
   funext k
   unfold upd zad
   split
   ·rename_i e;subst e;rw [h1];show (⟨(G.X i).kind.stage,0,0⟩:WD)=⟨(G.X (i - 1+1)).kind.stage,0,0⟩;rw [show i - 1+1=i by omega]
   ·rfl
  refine zoh hi0 (by omega) ?_ hXX h2
  rw [zke hp,hXX,hstg]
  congr 1
  exact sumTo_congr fun k _=>by
   unfold upd
   split
   ·rename_i e;rw [e,h1];rfl
   ·rfl
end
end
section
open Go.Conc Go.ConcN
open Go.ConcR (KK wgBlock WgAt stA smA rd wr mk Bk g_of_ofEvents bk_of_mute ofEvent_loc_mark)
section
variable {E:zar} {End Anch:List (Nat×Ans)→Kp} {G:zaz} {gs:Array Goroutine} {w w':World} {t:Trace} {J:Nat} {sl:Option (Nat×Nat)}
theorem zel {i:Nat}{fn:FuncId}{pos:String}{es:Array Event}{op:MemOp}(h:op∈MemOp.ofEvents i fn pos es): ∃ e∈es,op.act=.ofEvent e:=by
 rw [ofEvents_eq] at h
 obtain ⟨e,he,rfl⟩:=Array.mem_map.1 h
 exact ⟨e,he,rfl⟩
theorem zje {Wg sz g0 i:Nat}(hg:g0≤i)(hW:Wg<sz){fn:FuncId}{pos:String}{es:Array Event}(h:∀ e∈es,Bk Wg e):
  ∀ op∈MemOp.ofEvents i fn pos es,op.act.touch?=none∧op.act.low sz∧op.act≠.mark (.release (stA Wg))∨g0≤i∧op.act.low sz∧op.act≠.mark (.release (stA Wg))∧∀ x,op.act.touch?=some x→ShN Wg x.loc∧x.kind≠.plain∧x.kind≠.said:=by
 intro op hop
 obtain ⟨e,he,hact⟩:=zel hop
 rw [hact]
 rcases h e he with h1|h1|⟨a,x,rfl,ha⟩
 ·exact .inl ⟨by rw [ofEvent_loc_mark h1];rfl,by rw [ofEvent_loc_mark h1];trivial,by rw [ofEvent_loc_mark h1];simp⟩
 ·exact .inl ⟨by rw [ofEvent_loc_mark h1];rfl,by rw [ofEvent_loc_mark h1];trivial,by rw [ofEvent_loc_mark h1];simp⟩
 ·refine .inr ⟨hg,?_,?_,fun y hy=>?_⟩
  ·show a.block<sz
   rw [ha];exact hW
  ·simp [MemAct.ofEvent]
  ·simp only [MemAct.ofEvent,MemAct.touch?,Option.some.injEq] at hy
   subst hy
   exact ⟨⟨a,rfl,ha⟩,by simp,by simp⟩
theorem zgk {Wg:Nat}: ∀ e∈#[rd (stA Wg),wr (stA Wg)],Bk Wg e:=by
 intro e he
 simp at he
 rcases he with rfl|rfl <;> exact bk_cell _ _ rfl
theorem z27 {Wg:Nat}: ∀ jx e,(#[rd (stA Wg),wr (stA Wg)]:Array Event)[jx]?=some e→(MemAct.ofEvent e).touch?=none∨0<deafBehind 1 ((#[rd (stA Wg),wr (stA Wg)]:Array Event).extract 0 jx):=by
 intro jx e he
 match jx,he with
 | 0,_=>exact .inr (by simp [deafBehind])
 | 1,_=>exact .inr (by simp [deafBehind,rd])
 | jx+2,he=>simp at he
theorem z3j {p:Pos}(h:isW3 p.tag)(hn:p≠.blk): p.tag=.w3:=by
 cases p <;> first|rfl|exact h.elim|exact absurd rfl hn
set_option maxHeartbeats 1600000 in
theorem PInv.otherGo (hAn:∀ got M o g w,Anch got M o g w→g.status=.running)(h:PInv E End Anch G gs w t){i:Nat}(hi0:0<i)(hi:i<gs.size){g:Goroutine}(hg:gs[i]?=some g)(hrun:g.status=.running):
  (∃ m' ops μ',runT E.P (crowd gs w sl) i=(.next m',ops)∧Less μ' (meas E G gs.size)∧PI E End Anch μ' m' (t++ops)) ∨
  (E.g0≤i∧((G.X i).kind=.rcv∨((G.X i).kind=.again∧(G.X i).todo=[]∧(G.X i).closed=true))∧∀ w₁,Oth E.ty E.Wg (G.M i) w w₁→zjj E (G.X i).c (G.X i).todo (G.M i) (G.o i) g w₁) ∨
  (∃ p,E.g0≤i∧(G.X i).kind=.wrk p∧WAns E p (zjj E (G.X i).c (G.X i).todo) (G.M i) (G.o i) g w):=by
 obtain ⟨g1,hg1,hs⟩:=h.wk i hi0 hi
 obtain rfl:g=g1:=by rw [hg] at hg1;exact Option.some.inj hg1
 obtain ⟨st,sm,hW,hm⟩:=h.wg
 have hdk:=h.deafW i hi0 hi
 have hold:=h.old i hi0
 have hrelI:=h.rel i
 have hij:i - 1<gs.size - 1:=by omega
 have hD:zad G.X (i - 1)=⟨(G.X i).kind.stage,0,0⟩:=by show (⟨(G.X (i - 1+1)).kind.stage,0,0⟩:WD)=_;rw [show i - 1+1=i by omega]
 have hWl:=h.held.wg
 generalize hx:G.X i=x at hs hdk hold hrelI hD
 have g0i:x.kind.stage≠1→E.g0≤i:=fun hne=>by
  apply Classical.byContradiction
  intro hlt
  exact hne (hold (by omega))
 have bk:=fun {g':Goroutine} {w':World} {es:Array Event} (hst:stepG E.P false g w=.go g' w' es) (x':Wk)=>h.bookW (sl:=sl) hAn hi0 hi hg hst x'
 rw [hx] at bk
 have idle:=fun {g':Goroutine} {w':World} {es:Array Event} (h2:E.g0≤i) (hst:stepG E.P false g w=.go g' w' es)=>h.idleW (sl:=sl) hAn hi0 hi h2 hg hst
 rw [hx] at idle
 have opq:∀ D:Nat→WD,OpenSt (gs.size - 1) D→OpenSt (gs.size - 1) (upd D (i - 1) ⟨1,0,0⟩):=fun D h a ha=>by
  by_cases e:a=i - 1
  ·subst e;rw [upd_same];simp
  ·rw [upd_ne D _ e];exact h a ha
 cases hs with
 | rcv hr =>
   rcases hr.splitA with hstop|⟨f,rfl,_,g',w',es,hst,ho,hev,hn⟩
   ·exact .inr (.inl ⟨g0i (by simp [zat.stage]),.inl rfl,hstop⟩)
   ·exact .inl (idle (g0i (by simp [zat.stage])) hst ho hev (fun _=>by simp [zat.stage]) ⟨f,w,rfl,rfl⟩ (.rcv hn))
 | again hr =>
   rcases hr.splitA with hstop|⟨f,rfl,_,g',w',es,hst,ho,hev,hn⟩
   ·exact .inr (.inl ⟨g0i (by simp [zat.stage]),.inr ⟨rfl,rfl,rfl⟩,hstop⟩)
   ·exact .inl (idle (g0i (by simp [zat.stage])) hst ho hev (fun _=>by simp [zat.stage]) ⟨f,w,rfl,rfl⟩ (.again hn))
 | park e hc=>cases hrun
 | wrk hr =>
   rcases hr.split with hstop|⟨f,rfl,_,g',w',es,hst,ho,hev,hn⟩
   ·exact .inr (.inr ⟨_,g0i (by simp [zat.stage]),rfl,hstop⟩)
   ·exact .inl (idle (g0i (by simp [zat.stage])) hst ho hev (fun _=>by simp [zat.stage]) ⟨f,w,rfl,rfl⟩ (.wrk hn))
 | r0 hr =>
   left
   rcases hr.split with ⟨_,g',hst,tr',hk⟩|⟨f,rfl,_,g',w',es,hst,ho,hev,hn⟩
   ·refine bk hst ⟨.k1,0,[],_,_,true,tr'⟩ ⟨rfl,rfl,rfl,rfl,rfl⟩ (.refl E.Wg w) hW (fun op hop=>?_) (.k1 hk) rfl (fun h1 _=>⟨t.size,RelBy.new hdk _ _⟩)
     (fun p' hp _=>zdd hp (hm.counted hij (by rw [hD];simp [zat.stage]) (.inl rfl) 0 0)) (fun hlt=>absurd (g0i (by simp [zat.stage])) (by omega)) (.inl ⟨by simp [Wk.rank],by simp [cnt,zat.stage]⟩)
    obtain ⟨e,he,hact⟩:=zel hop
    simp at he
    subst he
    rw [hact]
    exact .inl ⟨rfl,hWl,by simp [Go.ConcR.mk,MemAct.ofEvent]⟩
   ·exact idle (g0i (by simp [zat.stage])) hst ho hev (fun _=>by simp [zat.stage]) ⟨f,w,rfl,rfl⟩ (.r0 hn)
 | k1 hr =>
   left
   have h2:=g0i (by simp [zat.stage])
   rcases hr.split with ⟨_,g',hst,tr',hk⟩|⟨f,rfl,_,g',w',es,hst,ho,hev,hn⟩
   ·have hb:∀ e∈#[Go.ConcR.mk .disable],Bk E.Wg e:=by intro e he;simp at he;subst he;exact .inl rfl
    refine bk hst ⟨.d1,1,[],_,_,true,tr'⟩ ⟨rfl,rfl,rfl,rfl,rfl⟩ (.refl E.Wg w) hW (zje h2 hWl hb) (.d1 hk) rfl (fun h1 _=>?_)
     (fun p' hp _=>zdd hp (hm.counted hij (by rw [hD];simp [zat.stage]) (.inr rfl) 0 0)) (fun hlt=>absurd h2 (by omega)) (.inl ⟨by simp [Wk.rank],by simp [cnt,zat.stage]⟩)
    obtain ⟨r,hr⟩:=hrelI h1 hi (by simp [zat.stage])
    exact ⟨r,hr.book hdk _ _ hb (by intro jx e he;exact .inl (by have:=Array.mem_of_getElem? he;simp at this;subst this;rfl))⟩
   ·exact idle h2 hst ho hev (fun e=>by cases e) ⟨f,w,rfl,rfl⟩ (.k1 hn)
 | d1 hr =>
   left
   have h2:=g0i (by simp [zat.stage])
   rcases hr.split with ⟨_,hall⟩|⟨f,rfl,_,g',w',es,hst,ho,hev,hn⟩
   ·have hc1:cnt (zad G.X (i - 1))=1:=by rw [hD];simp [cnt,zat.stage]
    have hV1:1≤Vc (gs.size - 1) (zad G.X):=by have:=le_sumTo (f:=fun x=>cnt (zad G.X x)) hij;simp only [Vc];omega
    have hVj:=h.vc_le
    have hfew:=h.few
    have hq0:cnt (⟨1,0,0⟩:WD)=0:=rfl
    have hVq:Vc (gs.size - 1) (upd (zad G.X) (i - 1) ⟨1,0,0⟩)+1=Vc (gs.size - 1) (zad G.X):=by
     have:=Vc_upd (zad G.X) (⟨1,0,0⟩:WD) hij
     omega
    have rel2:∃ r,RelBy (stA E.Wg) (t++MemOp.ofEvents i g.frame.fn g.frame.place #[rd (stA E.Wg),wr (stA E.Wg)]) i r:=by
     obtain ⟨r,hr⟩:=hrelI h2 hi (by simp [zat.stage])
     exact ⟨r,hr.book hdk _ _ zgk z27⟩
    generalize etag:G.pos.tag=tag at hm
    have like2:∀ {D:Nat→WD} {st sm:Int} {p':Pos},(p'=G.pos∨(G.pos=.blk∧p'=.w3))→Go.ConcN.Mode (gs.size - 1) D tag st sm→Go.ConcN.Mode (gs.size - 1) D p'.tag st sm:=fun hp hm=>zdd hp (by rw [etag];exact hm)
    have pend1:pend tag≤1:=by cases tag <;> simp only [pend] <;> (try split) <;> omega
    cases hm with
    | opn h1 h2' h3 =>
      obtain ⟨v,hv⟩:∃ v,Vc (gs.size - 1) (zad G.X)+pend tag=v+1:=⟨Vc (gs.size - 1) (zad G.X)+pend tag - 1,by omega⟩
      rw [hv] at hW
      have hw1:WgAt E.ty E.Wg w (((v:Nat)+1) * KK+((0:Nat):Int)) 0:=by simpa using hW
      obtain ⟨g',hst,_,hq⟩:=hall v 0 (by omega) (by omega) hw1
      obtain ⟨q,hq⟩:=hq (by omega)
      refine bk hst ⟨.quit,1,[],_,_,true,zlj q⟩ ⟨rfl,rfl,rfl,rfl,rfl⟩ (aside_setCell w (stA E.Wg) _) (hW.setSt _) (zje h2 hWl zgk) (.quit hq) rfl (fun _ _=>rel2)
       (fun p' hp _=>like2 hp ?_) (fun hlt=>absurd h2 (by omega)) (.inl ⟨by simp [Wk.rank],by simp [cnt,zat.stage]⟩)
      have e:((v:Nat):Int) * KK+((0:Nat):Int)=((Vc (gs.size - 1) (upd (zad G.X) (i - 1) ⟨1,0,0⟩)+pend tag:Nat):Int) * KK:=by
       rw [show Vc (gs.size - 1) (upd (zad G.X) (i - 1) ⟨1,0,0⟩)+pend tag=v by omega];simp
      rw [e]
      exact .opn h1 (opq _ h2') (fun vs ev=>by have:=h3 vs ev;simp only [zat.stage];omega)
    | reg h1 h2' h3 =>
      obtain ⟨v,hv⟩:∃ v,Vc (gs.size - 1) (zad G.X)=v+1:=⟨Vc (gs.size - 1) (zad G.X) - 1,by omega⟩
      rw [hv] at hW
      have hw1:WgAt E.ty E.Wg w (((v:Nat)+1) * KK+((1:Nat):Int)) 0:=by simpa using hW
      obtain ⟨g',hst,hl,hq⟩:=hall v 1 (by omega) (by omega) hw1
      by_cases hv0:v=0
      ·subst hv0
       obtain ⟨tr',hk⟩:=hl ⟨rfl,rfl⟩
       refine bk hst ⟨.d2,1,[],_,_,true,tr'⟩ ⟨rfl,rfl,rfl,rfl,rfl⟩ (aside_setCell w (stA E.Wg) _) (hW.setSt _) (zje h2 hWl zgk) (.d2 hk) rfl (fun _ _=>rel2)
        (fun p' hp _=>like2 hp ?_) (fun hlt=>absurd h2 (by omega)) (.inl ⟨by simp [Wk.rank],by simp [cnt,zat.stage]⟩)
       have hoth:∀ a,a<gs.size - 1→a≠i - 1→(zad G.X a).stage=1:=fun a ha e=>by
        have c0:=others_uncounted hij hv hc1 a ha e
        have:=h2' a ha
        simp only [cnt] at c0
        split at c0 <;> omega
       have:=Go.ConcN.Mode.last (j:=gs.size - 1) (D:=upd (zad G.X) (i - 1) ⟨4,0,0⟩) (tag:=tag) (i - 1) h1 hij (by rw [upd_same];simp) (fun a ha e=>by rw [upd_ne _ _ e];exact hoth a ha e)
       rw [upd_same] at this
       simpa [zat.stage] using this
      ·obtain ⟨q,hq⟩:=hq (by omega)
       refine bk hst ⟨.quit,1,[],_,_,true,zlj q⟩ ⟨rfl,rfl,rfl,rfl,rfl⟩ (aside_setCell w (stA E.Wg) _) (hW.setSt _) (zje h2 hWl zgk) (.quit hq) rfl (fun _ _=>rel2)
        (fun p' hp _=>like2 hp ?_) (fun hlt=>absurd h2 (by omega)) (.inl ⟨by simp [Wk.rank],by simp [cnt,zat.stage]⟩)
       have e:((v:Nat):Int) * KK+((1:Nat):Int)=((Vc (gs.size - 1) (upd (zad G.X) (i - 1) ⟨1,0,0⟩):Nat):Int) * KK+1:=by
        rw [show Vc (gs.size - 1) (upd (zad G.X) (i - 1) ⟨1,0,0⟩)=v by omega];simp
       rw [e]
       exact .reg h1 (opq _ h2') (by show 1≤Vc (gs.size - 1) (upd (zad G.X) (i - 1) ⟨1,0,0⟩);omega)
    | last L _ h2' h3 h4 =>
      by_cases e:i - 1=L
      ·subst e;rw [hD] at h3;simp [zat.stage] at h3
      ·have:=h4 (i - 1) hij e;rw [hD] at this;simp [zat.stage] at this
    | sema h2'=>have:=h2' (i - 1) hij;rw [hD] at this;simp [zat.stage] at this
    | fin _ h2'=>have:=h2' (i - 1) hij;rw [hD] at this;simp [zat.stage] at this
   ·exact idle h2 hst ho hev (fun e=>by cases e) ⟨f,w,rfl,rfl⟩ (.d1 hn)
 | d2 hr =>
   left
   have h2:=g0i (by simp [zat.stage])
   rcases hr.split with ⟨_,hx2⟩|⟨f,rfl,_,g',w',es,hst,ho,hev,hn⟩
   ·obtain ⟨hW3,hoth,rfl,rfl⟩:=hm.isLast hij (by rw [hD];simp [zat.stage])
    rw [hD] at hW
    obtain ⟨g',hst,tr',hk⟩:=hx2 (by simpa [zat.stage] using hW)
    have hb:∀ e∈#[rd (stA E.Wg)],Bk E.Wg e:=by intro e he;simp at he;subst he;exact bk_cell _ _ rfl
    refine bk hst ⟨.d3,1,[],_,_,true,tr'⟩ ⟨rfl,rfl,rfl,rfl,rfl⟩ (.refl E.Wg w) hW (zje h2 hWl hb) (.d3 hk) rfl (fun h1 _=>?_)
     (fun p' hp _=>zdd hp ?_) (fun hlt=>absurd h2 (by omega)) (.inl ⟨by simp [Wk.rank],by simp [cnt,zat.stage]⟩)
    ·obtain ⟨r,hr⟩:=hrelI h1 hi (by simp [zat.stage])
     exact ⟨r,hr.book hdk _ _ hb (by intro jx e he;match jx,he with|0,_=>exact .inr (by simp [deafBehind])|jx+1,he=>simp at he)⟩
    ·have:=Go.ConcN.Mode.last (j:=gs.size - 1) (D:=upd (zad G.X) (i - 1) ⟨3,0,0⟩) (tag:=G.pos.tag) (i - 1) hW3 hij (by rw [upd_same];simp) (fun a ha e=>by rw [upd_ne _ _ e];exact hoth a ha e)
     rw [upd_same] at this
     simpa [zat.stage] using this
   ·exact idle h2 hst ho hev (fun e=>by cases e) ⟨f,w,rfl,rfl⟩ (.d2 hn)
 | d3 hr =>
   left
   have h2:=g0i (by simp [zat.stage])
   rcases hr.split with ⟨_,hx2⟩|⟨f,rfl,_,g',w',es,hst,ho,hev,hn⟩
   ·obtain ⟨hW3,hoth,rfl,rfl⟩:=hm.isLast hij (by rw [hD];simp [zat.stage])
    rw [hD] at hW
    obtain ⟨g',hst,tr',hk⟩:=hx2 (by simpa [zat.stage] using hW)
    have hb:∀ e∈#[wr (stA E.Wg)],Bk E.Wg e:=by intro e he;simp at he;subst he;exact bk_cell _ _ rfl
    refine bk hst ⟨.d4,1,[],_,_,true,tr'⟩ ⟨rfl,rfl,rfl,rfl,rfl⟩ (aside_setCell w (stA E.Wg) _) (hW.setSt 0) (zje h2 hWl hb) (.d4 hk) rfl (fun h1 _=>?_)
     (fun p' hp _=>zdd hp ?_) (fun hlt=>absurd h2 (by omega)) (.inl ⟨by simp [Wk.rank],by simp [cnt,zat.stage]⟩)
    ·obtain ⟨r,hr⟩:=hrelI h1 hi (by simp [zat.stage])
     exact ⟨r,hr.book hdk _ _ hb (by intro jx e he;match jx,he with|0,_=>exact .inr (by simp [deafBehind])|jx+1,he=>simp at he)⟩
    ·have:=Go.ConcN.Mode.last (j:=gs.size - 1) (D:=upd (zad G.X) (i - 1) ⟨2,0,0⟩) (tag:=G.pos.tag) (i - 1) hW3 hij (by rw [upd_same];simp) (fun a ha e=>by rw [upd_ne _ _ e];exact hoth a ha e)
     rw [upd_same] at this
     simpa [zat.stage] using this
   ·exact idle h2 hst ho hev (fun e=>by cases e) ⟨f,w,rfl,rfl⟩ (.d3 hn)
 | d4 hr =>
   left
   have h2:=g0i (by simp [zat.stage])
   rcases hr.split with ⟨_,hmw,hx2⟩|⟨f,rfl,_,g',w',es,hst,ho,hev,hn⟩
   ·obtain ⟨hW3,hoth,rfl,rfl⟩:=hm.isLast hij (by rw [hD];simp [zat.stage])
    rw [hD] at hW
    obtain ⟨g',hst,q,hq⟩:=hx2 (by simpa [zat.stage] using hW)
    have hrun':g'.status=.running:=by
     cases q with
     | zero=>exact absurd hq.2 (by decide)
     | succ q=>exact hq.elim (fun x=>absurd x.2 (by decide)) (fun x=>x.1)
    have hb:∀ e∈semEvents (smA E.Wg),Bk E.Wg e:=bk_sem
    refine bk hst ⟨.quit,1,[],_,_,true,zlj q⟩ ⟨rfl,rfl,rfl,rfl,rfl⟩ (aside_setCell w (smA E.Wg) _) (hW.setSm 1) (zje h2 hWl hb) (.quit hq) (by simp [deafBehind,semEvents]) (fun h1 _=>?_)
     (fun p' hp hwk=>?_) (fun hlt=>absurd h2 (by omega)) (.inl ⟨by simp [Wk.rank],by simp [cnt,zat.stage]⟩)
    ·obtain ⟨r,hr⟩:=hrelI h1 hi (by simp [zat.stage])
     refine ⟨r,hr.book hdk _ _ hb fun jx e he=>?_⟩
     match jx,he with
     | 0,he=>simp [semEvents] at he;subst he;exact .inl rfl
     | 1,_=>exact .inr (by simp [deafBehind,semEvents])
     | 2,_=>exact .inr (by simp [deafBehind,semEvents])
     | 3,he=>simp [semEvents] at he;subst he;exact .inl rfl
     | jx+4,he=>simp [semEvents] at he
    ·have hnb:=hwk hmw hrun'
     have e3:p'.tag=.w3:=by
      rcases hp with rfl|⟨_,rfl⟩
      ·exact z3j hW3 hnb
      ·rfl
     rw [e3]
     simp only [zat.stage,if_true]
     exact .sema fun a ha=>by
      by_cases e:a=i - 1
      ·subst e;rw [upd_same]
      ·rw [upd_ne _ _ e];exact hoth a ha e
   ·exact idle h2 hst ho hev (fun e=>by cases e) ⟨f,w,rfl,rfl⟩ (.d4 hn)
 | quit hq =>
   left
   rename_i q d nb c cl
   cases q with
   | zero=>rw [hq.1] at hrun;cases hrun
   | succ q =>
     rcases hq with ⟨hf,_⟩|⟨_,g',es,hmute,hstep,hq⟩
     ·rw [hf] at hrun;cases hrun
     ·have hno:∀ jx e,es[jx]?=some e→(MemAct.ofEvent e).touch?=none∨0<deafBehind d (es.extract 0 jx):=fun jx e he=>.inl (touch_mute (hmute e (Array.mem_of_getElem? he)))
      refine bk (hstep w) ⟨.quit,deafBehind d es,[],nb,c,cl,zlj q⟩ ⟨rfl,rfl,rfl,rfl,rfl⟩ (.refl E.Wg w) hW (fun op hop=>?_) (.quit hq) rfl (fun h1 _=>?_)
       (fun p' hp _=>zdd hp ?_) (fun _=>rfl) (.inr ⟨rfl,⟨fun _=>zlj q,w,rfl,rfl⟩⟩)
      ·obtain ⟨e,he,hact⟩:=zel hop
       rw [hact]
       refine .inl ⟨touch_mute (hmute e he),low_mute (hmute e he) _,fun hh=>?_⟩
       have h1:=hmute e he
       obtain ⟨loc,wx,sx⟩:=e
       cases loc with
       | mark m=>cases m <;> simp [Event.mute,MemAct.ofEvent] at h1 hh
       | _=>simp [Event.mute] at h1
      ·obtain ⟨r,hr⟩:=hrelI h1 hi (by simp [zat.stage])
       exact ⟨r,hr.book (Wg:=E.Wg) hdk _ _ (fun e he=>bk_of_mute (hmute e he)) hno⟩
      ·have hsame:upd (zad G.X) (i - 1) ⟨1,0,0⟩=zad G.X:=by
        funext k
        unfold upd
        split
        ·rename_i e;subst e;exact hD.symm
        ·rfl
       show Go.ConcN.Mode (gs.size - 1) (upd (zad G.X) (i - 1) ⟨1,0,0⟩) G.pos.tag st sm
       rw [hsame]
       exact hm
end
end
section
open Go.Conc Go.ConcN
open Go.ConcR (KK wgBlock WgAt stA smA rd wr Bk g_of_ofEvents)
section
variable {E:zar} {End Anch:List (Nat×Ans)→Kp} {G:zaz} {gs:Array Goroutine} {w w':World} {t:Trace} {J:Nat} {sl:Option (Nat×Nat)}
theorem TI.shrink {Shun:Loc→Prop}{Wg g0:Nat}{M o M' o':Nat→Nat→Prop}{sz:Nat}(h:TI Shun Wg g0 J M o sz t)(hM:∀ j b,M' j b→M j b)(ho:∀ j b,o' j b→o j b): TI Shun Wg g0 J M' o' sz t :=
 ⟨h.clean,fun j hj i a b ha hb hm hor=>h.kn j hj i a b ha hb (hM j b hm) (hor.imp (ho j b) id),h.low,h.quiet,h.gs,h.norel,h.mem,h.over⟩
theorem Held.shrink {Wg:Nat}{M o M' o':Nat→Nat→Prop}{sz:Nat}(h:Held Wg J M o sz)(hM:∀ j b,M' j b→M j b)(ho:∀ j b,o' j b→o j b)(hs:∀ j b,o' j b→M' j b): Held Wg J M' o' sz :=
 ⟨hs,fun i j hi hj hij b hb hm=>h.apart i j hi hj hij b (ho i b hb) (hM j b hm),fun j b hb=>h.lt j b (hM j b hb),fun j hj=>h.noWg j (hM j _ hj),h.wg,fun j hj b hb=>h.out j hj b (hM j b hb)⟩
theorem zrq {φ:List Nat→Nat}{N g0 J i:Nat}(X:Nat→Wk)(pl:Nat→List Nat)(x:Wk)(h1:g0≤i)(h2:i<J)(h3:i - g0<N):
  sumTo N (fun k=>if g0+k<J then φ (upd X i x (g0+k)).pend else φ (pl k))+φ (X i).pend=sumTo N (fun k=>if g0+k<J then φ (X (g0+k)).pend else φ (pl k))+φ x.pend:=by
 have key:=sumTo_upd (fun k=>if g0+k<J then φ (X (g0+k)).pend else φ (pl k)) (φ x.pend) id h3
 simp only [id] at key
 rw [show g0+(i - g0)=i by omega,if_pos h2] at key
 rw [← key]
 congr 1
 refine sumTo_congr fun k _=>?_
 unfold upd
 by_cases e:k=i - g0
 ·rw [if_pos e,if_pos (by omega),if_pos (show g0+k=i by omega)]
 ·rw [if_neg e,if_neg (show ¬ g0+k=i by omega)]
theorem zy9 {p:Pos}{N J0:Nat}(h:p.place N J0): J0≤N:=by
 cases p <;> simp only [Pos.place] at h <;> omega
theorem SInv.lt (h:SInv E G J w){i:Nat}(h1:E.g0≤i)(h2:i<J): i - E.g0<E.N:=by
 have:=zy9 h.place
 omega
theorem SInv.turn (h:SInv E G J w)(stab:∀ p a B w w₁,E.A p a B w→(∀ b,B b→w₁.heap[b]?=w.heap[b]?)→E.A p a B w₁){G':zaz}(hsz:w'.heap.size=w.heap.size)(hMs:∀ j b,G'.M j b→G.M j b)(hc:∀ i,E.g0≤i→i<J→(G'.X i).c=(G.X i).c)(hk:∀ b,b≠E.cG→b≠E.cB→(∀ i,E.g0≤i→i<J→b≠(G.X i).c)→w'.heap[b]?=w.heap[b]?)(hB:∀ q b,G'.B q b→G.B q b∨((∃ i,G.M i b)∧∀ j,j<J→¬ G'.M j b))(hBt:∀ q b,G'.B q b→q∈G'.told.map (·.1))(hBB:∀ p q b,p≠q→G'.B p b→¬ G'.B q b)(hlt:∀ j b,G.M j b→b<w.heap.size∧b≠E.Wg)(hans:∀ x∈G'.told,(x∈G.told∧G'.B x.1=G.B x.1)∨E.A x.1 x.2 (G'.B x.1) w)(place:G'.pos.place E.N (J - E.g0))(chP:∀ i,E.g0≤i→i<J→∃ s r,w'.heap[(G'.X i).c]?=some (.chan E.n (ints ((G'.X i).todo.take (G'.X i).nb)) (G'.X i).closed s r false))(nb:∀ i,E.g0≤i→i<J→(G'.X i).nb≤(G'.X i).todo.length∧((G'.X i).closed=true→(G'.X i).nb=(G'.X i).todo.length))(shut:∀ i,E.g0≤i→i<J→(G'.X i).closed=false→∃ m k l,G'.pos=.snd m k (G'.X i).c l∧i+1=J)(cur:∀ m k c l,G'.pos=.snd m k c l→(G'.X (J - 1)).c=c∧(G'.X (J - 1)).closed=false∧l=(G'.X (J - 1)).todo.drop (G'.X (J - 1)).nb)(chG:∃ s r,w'.heap[E.cG]?=some (.chan E.n (vals G'.bG) false s r false))(chB:∃ s r,w'.heap[E.cB]?=some (.chan E.n (vals G'.bB) false s r false))(tyG:∀ x∈G'.bG,x.2.idx=0)(tyB:∀ x∈G'.bB,x.2.idx=1)(sel:∀ r,G'.pos=.sel r→G'.bG=[]∧G'.bB=[])(cnt:∀ p,G'.told.countP (·.1 == p)+sumTo E.N (fun k=>if E.g0+k<J then (G'.X (E.g0+k)).pend.count p else (E.pl k).count p)=if p<E.n then 1 else 0)(len:G'.told.length+sumTo E.N (fun k=>if E.g0+k<J then (G'.X (E.g0+k)).pend.length else (E.pl k).length)=E.n)(want:G'.pos.want E.n G'.got): SInv E G' J w':=by
 have fr:∀ c,Free E G w.heap.size c→Free E G' w'.heap.size c:=fun c hf=>⟨by rw [hsz];exact hf.1,hf.2.1,fun j hj=>hf.2.2.1 j (hMs j c hj),fun p hp=>(hB p c hp).elim (hf.2.2.2 p) fun ⟨⟨i,hi⟩,_⟩=>hf.2.2.1 i hi⟩
 have nch:∀ q b,G'.B q b→b≠E.cG∧b≠E.cB∧∀ i,E.g0≤i→i<J→b≠(G.X i).c:=fun q b hb=>by
  have key:∀ c,Free E G w.heap.size c→b≠c:=fun c hf e=>by
   subst e
   exact (hB q b hb).elim (hf.2.2.2 q) fun ⟨⟨i,hi⟩,_⟩=>hf.2.2.1 i hi
  exact ⟨key _ h.freeG,key _ h.freeB,fun i h1 h2=>key _ (h.freeP i h1 h2).1⟩
 refine ⟨place,h.geJ,chP,nb,shut,cur,chG,chB,tyG,tyB,sel,fun i h1 h2=>by rw [hc i h1 h2];exact ⟨fr _ (h.freeP i h1 h2).1,(h.freeP i h1 h2).2⟩,
  fun i j h1 h2 h3 h4 hij=>by rw [hc i h1 h2,hc j h3 h4];exact h.distinct i j h1 h2 h3 h4 hij,fr _ h.freeG,fr _ h.freeB,h.neGB,fun x hx=>?_,fun p b hb=>?_,hBB,cnt,len,want⟩
 ·have hA:E.A x.1 x.2 (G'.B x.1) w:=by
   rcases hans x hx with ⟨h1,h2⟩|h1
   ·rw [h2];exact h.ans x h1
   ·exact h1
  refine stab _ _ _ w w' hA fun b hb=>?_
  obtain ⟨k1,k2,k3⟩:=nch _ b hb
  exact hk b k1 k2 k3
 ·rcases hB p b hb with h1|⟨⟨i,h1⟩,h2⟩
  ·obtain ⟨q1,q2,q3,_⟩:=h.hB p b h1
   exact ⟨by rw [hsz];exact q1,q2,fun j hj hm=>q3 j hj (hMs j b hm),hBt p b hb⟩
  ·exact ⟨by rw [hsz];exact (hlt i b h1).1,(hlt i b h1).2,h2,hBt p b hb⟩
theorem PInv.offers (hAn:∀ got M o g w,Anch got M o g w→g.status=.running)(h:PInv E End Anch G gs w t){j:Nat}{g:Goroutine}(hg:gs[j]?=some g)(r:Nat):
  offersAt g r true=[]∧(offersAt g r false=[]∨(0<j∧(G.X j).kind=.park∧(G.X j).c=r∧∃ g1,g=parked g1 #[rcase r zP] (.recv true))∨(j=0∧∃ q g1,G.pos=.sel q∧g=parked g1 (zbb E) .select∧(r=E.cG∨r=E.cB))):=by
 have hj:j<gs.size:=(Array.getElem?_eq_some_iff.1 hg).1
 rcases Nat.eq_zero_or_pos j with rfl|hj0
 ·obtain ⟨a,ha,hm⟩:=h.main
  obtain rfl:a=g:=by rw [ha] at hg;exact Option.some.inj hg
  rcases hm.status hAn with ⟨hs,h1,h2⟩|⟨g1,q,rfl,hp⟩|⟨hs,ho,hp⟩
  ·exact ⟨offersAt_of_not_blocked (by rw [hs];simp) _ _,.inl (offersAt_of_not_blocked (by rw [hs];simp) _ _)⟩
  ·refine ⟨offersAt_parked_sends (fun cc hcc=>?_) _,?_⟩
   ·simp only [zbb,List.mem_toArray,List.mem_cons,List.not_mem_nil,or_false] at hcc
    rcases hcc with rfl|rfl <;> rfl
   ·by_cases e:r=E.cG∨r=E.cB
    ·exact .inr (.inr ⟨rfl,q,g1,hp,rfl,e⟩)
    ·refine .inl (offersAt_parked_off (fun cc hcc=>?_) _)
     simp only [zbb,List.mem_toArray,List.mem_cons,List.not_mem_nil,or_false] at hcc
     rcases hcc with rfl|rfl
     ·simp only [rcase,ne_eq,Value.chan.injEq,Option.some.injEq]
      exact fun x=>e (.inl x.symm)
     ·simp only [rcase,ne_eq,Value.chan.injEq,Option.some.injEq]
      exact fun x=>e (.inr x.symm)
  ·have:∀ b,offersAt a r b=[]:=fun b=>by unfold offersAt;rw [hs,ho]
   exact ⟨this _,.inl (this _)⟩
 ·obtain ⟨y,hy,hs⟩:=h.wk j hj0 hj
  obtain rfl:y=g:=by rw [hy] at hg;exact Option.some.inj hg
  rcases hs.status with hs'|⟨g1,rfl,hk,_⟩
  ·have hn:y.status≠.blocked:=by rcases hs' with e|e <;> rw [e] <;> simp
   exact ⟨offersAt_of_not_blocked hn _ _,.inl (offersAt_of_not_blocked hn _ _)⟩
  ·refine ⟨offersAt_parked_recv' _ _ _ _ _,?_⟩
   by_cases e:(G.X j).c=r
   ·exact .inr (.inl ⟨hj0,hk,e,g1,by rw [e]⟩)
   ·exact .inl (by rw [offersAt_parked_recv,if_neg e])
theorem PInv.noSend (hAn:∀ got M o g w,Anch got M o g w→g.status=.running)(h:PInv E End Anch G gs w t)(i r:Nat): partners (gs.setIfInBounds i ph) r true=[] :=
 partners_nil fun j g hg=>by
  rcases getElem?_stand gs i j g hg with ⟨_,rfl⟩|⟨_,hg⟩
  ·exact offersAt_ph _ _
  ·exact (h.offers hAn hg r).1
theorem PInv.noRecv (hAn:∀ got M o g w,Anch got M o g w→g.status=.running)(h:PInv E End Anch G gs w t)(i r:Nat)(hp:∀ j,j≠i→0<j→j<gs.size→(G.X j).kind=.park→(G.X j).c≠r)(h0:i≠0→(∃ q,G.pos=.sel q)→r≠E.cG∧r≠E.cB):
  partners (gs.setIfInBounds i ph) r false=[] :=
 partners_nil fun j g hg=>by
  rcases getElem?_stand gs i j g hg with ⟨_,rfl⟩|⟨hne,hg⟩
  ·exact offersAt_ph _ _
  ·rcases (h.offers hAn hg r).2 with h1|⟨h1,h2,h3,_⟩|⟨rfl,q,g1,h1,_,h2⟩
   ·exact h1
   ·exact absurd h3 (hp j hne h1 (Array.getElem?_eq_some_iff.1 hg).1 h2)
   ·have:=h0 (Ne.symm hne) ⟨q,h1⟩
    rcases h2 with h2|h2
    ·exact absurd h2 this.1
    ·exact absurd h2 this.2
end
end
end Go.Proofs.YtelgmbomkojmaaaDoor
