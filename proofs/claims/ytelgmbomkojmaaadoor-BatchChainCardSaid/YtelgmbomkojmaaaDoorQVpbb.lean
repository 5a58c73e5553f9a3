/- A pack: Vp. -/
import Derived.Test.YtelgmbomkojmaaaDoorQYaj
namespace Go.Proofs.YtelgmbomkojmaaaDoor
set_option linter.all false
set_option maxRecDepth 100000
section
open Go.Conc Go.ConcN
section
variable {P:Program} {Shun:Loc→Prop}
structure Frm (P:Program)(Shun:Loc→Prop)(B:Nat)(gs:Array Goroutine)(t:Trace): Prop where
 lv:∃ q,Leavers P t gs q
 past:Go.Conc.Past Shun B t
 gs:∀ op∈t,op.g<gs.size
theorem zwn {t u:Trace}{n:Nat}(h:∀ op∈t,op.g<n)(hu:∀ op∈u,op.g<n): ∀ op∈t++u,op.g<n:=fun op hop=>(Array.mem_append.1 hop).elim (h op) (hu op)
theorem z3c {K:World→Nat→Goroutine→World→Array Event→Prop}{a:Goroutine}{B:Nat}(hrun:a.status=.running):
  ∀ (S:Nat) (gs:Array Goroutine) (w:World) (sl:Option (Nat×Nat)) (t:Trace) (q:Nat→Nat),sumTo gs.size q=S→gs[0]?=some a→Leavers P t gs q→Go.Conc.Past Shun B t→(∀ op∈t,op.g<gs.size) →
   (∀ d,∃ a' w' es B',stepG P true a (w.at d)=.go a' w' es∧B≤B'∧(∀ e∈es,EvL Shun B' e)∧K (w.at d) B' a' w' es) →
   ∃ (N:Nat) (gs':Array Goroutine) (d:Nat) (a':Goroutine) (w':World) (es:Array Event) (B':Nat) (sl':Option (Nat×Nat)) (t':Trace),
    runNT P N (crowd gs w sl) t=(.next (crowd gs' w' sl'),t')∧gs'.size=gs.size∧gs'[0]?=some a'∧K (w.at d) B' a' w' es∧Frm P Shun B' gs' t':=by
 intro S
 induction S using Nat.strongRecOn with
 | _ S ih =>
   intro gs w sl t q hS h0 hL hP hgs hstep
   have haw:∀ g∈gs,awake g:=by
    intro g hg
    obtain ⟨i,hi,rfl⟩:=Array.mem_iff_getElem.1 hg
    rcases Nat.eq_zero_or_pos i with rfl|hpos
    ·have:gs[0]=a:=by simpa [Array.getElem?_eq_getElem hi] using h0
     rw [this];exact awake_of (.inl hrun)
    ·exact awake_of ((hL.old i _ hpos (Array.getElem?_eq_getElem hi)).status.elim .inl fun x=>.inr (.inr x))
   obtain ⟨i,g,d,sl',hi,hg,hst⟩:=crowd_pick (P:=P) (w:=w) (sl:=sl) haw ⟨0,a,h0,hrun⟩
   rcases Nat.eq_zero_or_pos i with rfl|hpos
   ·obtain rfl:g=a:=by rw [h0] at hi;exact (Option.some.inj hi).symm
    obtain ⟨a',w',es,B',hgo,hB,hev,hK⟩:=hstep d
    have hrunT:=runT_crowd_go (P:=P) (sl:=sl') (i:=0) hi (show stepG P (0 == 0) g (w.at d)=_ from hgo)
    have hlt:0<gs.size:=(Array.getElem?_eq_some_iff.1 h0).1
    refine ⟨1,(gs.map (woken P g a' w')).setIfInBounds 0 a',d,a',w',es,B',sl',t++MemOp.ofEvents 0 g.frame.fn g.frame.place es,by simp only [runNT,hst,hrunT],by simp,by simp [hlt],hK,⟨⟨q,fun j x hj hx=>?_,fun j hj=>?_⟩,(hP.mono hB).own hev,zwn (by simpa using hgs) (fun op hop=>by obtain ⟨e,_,rfl⟩:=Go.Conc.mem_ofEvents hop;simpa using hlt)⟩⟩
    ·have hne:0≠j:=by omega
     rw [Array.getElem?_setIfInBounds_ne hne,Array.getElem?_map] at hx
     obtain ⟨y,hy,rfl⟩:=Option.map_eq_some_iff.1 hx
     have hq:=hL.old j y hj hy
     rw [woken_quitsD hq,Deaf_other t (by omega) _ (fun op hop=>by obtain ⟨e,_,rfl⟩:=Go.Conc.mem_ofEvents hop;rfl)]
     exact hq
    ·rw [Deaf_other t (g':=0) (by simp at hj;omega) _ (fun op hop=>by obtain ⟨e,_,rfl⟩:=Go.Conc.mem_ofEvents hop;rfl)]
     exact hL.above j (by simpa using hj)
   ·have hq:=hL.old i g hpos hi
    have hi0:(i == 0)=false:=by simp;omega
    have hlt:i<gs.size:=(Array.getElem?_eq_some_iff.1 hi).1
    cases hqi:q i with
    | zero=>rw [hqi] at hq;rw [hq.1] at hg;cases hg
    | succ k =>
      rw [hqi] at hq
      rcases hq with ⟨hf,_⟩|⟨_,g',es,hm,hstp,hq'⟩
      ·rw [hf] at hg;cases hg
      have hrunT:=runT_crowd_go (P:=P) (sl:=sl') (i:=i) hi (by rw [hi0];exact hstp (w.at d))
      have hsz:((gs.map (woken P g g' (w.at d))).setIfInBounds i g').size=gs.size:=by simp
      have hsum:sumTo gs.size (upd q i k)+(k+1)=sumTo gs.size q+k:=by
       have:=sumTo_upd q k id hlt
       simpa [hqi] using this
      have hne:i≠0:=by omega
      have hL2:Leavers P (t++MemOp.ofEvents i g.frame.fn g.frame.place es) ((gs.map (woken P g g' (w.at d))).setIfInBounds i g') (upd q i k):=by
       refine ⟨fun j x hj hx=>?_,fun j hj=>?_⟩
       ·by_cases hji:i=j
        ·subst hji
         rw [Array.getElem?_setIfInBounds_self_of_lt (by simpa using hlt)] at hx
         obtain rfl:=Option.some.inj hx
         rw [upd_same,Deaf_own]
         exact hq'
        ·rw [Array.getElem?_setIfInBounds_ne hji,Array.getElem?_map] at hx
         obtain ⟨y,hy,rfl⟩:=Option.map_eq_some_iff.1 hx
         have hq2:=hL.old j y hj hy
         rw [upd_ne _ _ (Ne.symm hji),woken_quitsD hq2,Deaf_other t hji _ (fun op hop=>by obtain ⟨e,_,rfl⟩:=Go.Conc.mem_ofEvents hop;rfl)]
         exact hq2
       ·rw [hsz] at hj
        rw [Deaf_other t (g':=i) (by omega) _ (fun op hop=>by obtain ⟨e,_,rfl⟩:=Go.Conc.mem_ofEvents hop;rfl)]
        exact hL.above j hj
      obtain ⟨N,gs',d',a',w',es',B',sl'',t',k1,k2,k3,k4,k5⟩:=ih (sumTo gs.size (upd q i k)) (by omega) ((gs.map (woken P g g' (w.at d))).setIfInBounds i g') (w.at d) sl' _ (upd q i k) (by rw [hsz]) (by rw [Array.getElem?_setIfInBounds_ne hne,Array.getElem?_map,h0];simp [woken_run hrun]) hL2 (hP.appMute (by omega) (fun op hop=>by obtain ⟨e,_,rfl⟩:=Go.Conc.mem_ofEvents hop;rfl) (fun op hop=>by obtain ⟨e,he,rfl⟩:=Go.Conc.mem_ofEvents hop;exact touch_mute (hm e he)) (fun op hop=>by obtain ⟨e,he,rfl⟩:=Go.Conc.mem_ofEvents hop;exact low_mute (hm e he) _))
       (zwn (by simpa using hgs) (fun op hop=>by obtain ⟨e,_,rfl⟩:=Go.Conc.mem_ofEvents hop;simpa using hlt)) (fun d'=>hstep d')
      exact ⟨N+1,gs',d',a',w',es',B',sl'',t',by simp only [runNT,hst,hrunT];exact k1,k2.trans hsz,k3,k4,k5⟩
theorem Frm.step {K:World→Nat→Goroutine→World→Array Event→Prop}{a:Goroutine}{B:Nat}{gs:Array Goroutine}{t:Trace}(h:Frm P Shun B gs t)(hrun:a.status=.running)(h0:gs[0]?=some a)(w:World)(sl:Option (Nat×Nat))(hstep:∀ d,∃ a' w' es B',stepG P true a (w.at d)=.go a' w' es∧B≤B'∧(∀ e∈es,EvL Shun B' e)∧K (w.at d) B' a' w' es):
   ∃ (N:Nat) (gs':Array Goroutine) (d:Nat) (a':Goroutine) (w':World) (es:Array Event) (B':Nat) (sl':Option (Nat×Nat)) (t':Trace),
    runNT P N (crowd gs w sl) t=(.next (crowd gs' w' sl'),t')∧gs'.size=gs.size∧gs'[0]?=some a'∧K (w.at d) B' a' w' es∧Frm P Shun B' gs' t':=by
 obtain ⟨⟨q,hL⟩,hP,hg⟩:=h
 exact z3c hrun _ gs w sl t q rfl h0 hL hP hg hstep
theorem zxk {M o:Nat→Prop}{B:Nat}{e:Event}(h:EvI M o e)(hM:∀ b,M b→b<B∧zet Shun b): EvL Shun B e:=by
 obtain ⟨loc,wr,sy⟩:=e
 unfold EvI at h
 cases loc with
 | cell a =>
   refine ⟨fun x hx hs=>?_,by simp,by simp,(hM _ h.2.1).1⟩
   simp only [MemAct.ofEvent,MemAct.touch?,Option.some.injEq] at hx
   subst hx
   exact absurd hs ((hM _ h.2.1).2 _ rfl)
 | obj r =>
   obtain ⟨h1,h2,h3⟩:=h
   have h1:sy=false:=h1
   subst h1
   refine ⟨fun x hx hs=>?_,by simp,by simp,by cases wr <;> exact (hM _ h2).1⟩
   have hx:some (⟨.obj r,wr,.plain⟩:Touch)=some x:=by cases wr <;> exact hx
   cases hx
   exact absurd hs ((hM _ h2).2 _ rfl)
 | output=>exact h.elim
 | goroutines=>exact h.elim
 | mark m=>cases m <;> first|exact h.elim|exact ⟨fun x hx=>(by cases hx),by simp,by simp,trivial⟩
structure Went (M o:Nat→Prop)(w:World)(M' o':Nat→Prop)(w':World): Prop where
 own:Own1 o w w'
 mM:∀ b,M b→M' b
 mo:∀ b,o b→o' b
 newM:∀ b,M' b→M b∨w.heap.size≤b∧b<w'.heap.size
 newo:∀ b,o' b→o b∨w.heap.size≤b∧b<w'.heap.size
theorem Went.rfl' {M o:Nat→Prop}{w:World}: Went M o w M o w:=⟨.rfl',fun _ h=>h,fun _ h=>h,fun _ h=>.inl h,fun _ h=>.inl h⟩
theorem zmc {ty:TypeId}{Wg:Nat}{Stop:(Nat→Prop)→(Nat→Prop)→Goroutine→World→Prop}:
  ∀ (tr:Tr) (M o:Nat→Prop) (a:Goroutine) (w:World) (gs:Array Goroutine) (sl:Option (Nat×Nat)) (t:Trace),RunT P true ty Wg true Stop tr M o a w→gs[0]?=some a→Frm P Shun w.heap.size gs t →
   (∀ b,M b→b<w.heap.size∧zet Shun b)→(∀ b,w.heap.size≤b→zet Shun b)→(∀ b,o b→M b) →
   ∃ (N:Nat) (gs':Array Goroutine) (a':Goroutine) (w':World) (sl':Option (Nat×Nat)) (t':Trace) (M' o':Nat→Prop),
    runNT P N (crowd gs w sl) t=(.next (crowd gs' w' sl'),t')∧gs'.size=gs.size∧gs'[0]?=some a'∧Stop M' o' a' w'∧Frm P Shun w'.heap.size gs' t'∧Went M o w M' o' w':=by
 intro tr
 induction tr with
 | leaf =>
   intro M o a w gs sl t hR h0 hF hM hB ho
   exact ⟨0,gs,a,w,sl,t,M,o,rfl,rfl,h0,hR w (.refl _ _),hF,.rfl'⟩
 | node f ih =>
   intro M o a w gs sl t hR h0 hF hM hB ho
   rcases hR with hR|⟨hrun,hR⟩
   ·exact ⟨0,gs,a,w,sl,t,M,o,rfl,rfl,h0,hR w (.refl _ _),hF,.rfl'⟩
   obtain ⟨N,gs',d,a',w',es,B',sl',t',k1,k2,k3,⟨rfl,k4,k4b⟩,k5⟩:=hF.step (K:=fun w1 B' a' w' es=>B'=w'.heap.size∧Own1 o w1 w'∧RunT P true ty Wg true Stop (f w1) (more M w1 w') (more o w1 w') a' w') hrun h0 w sl (fun d=>by
    obtain ⟨a',w',es,h1,h2,h3,h4⟩:=hR (w.at d) (Oth.at _ _ _)
    refine ⟨a',w',es,_,h1,h2.size,fun e he=>zxk (h3 e he).2 (fun b hb=>?_),rfl,h2,h4⟩
    rcases hb with hb|hb
    ·exact ⟨Nat.lt_of_lt_of_le (hM b hb).1 h2.size,(hM b hb).2⟩
    ·exact ⟨hb.2,hB b hb.1⟩)
   have hz:(w.at d).heap.size=w.heap.size:=rfl
   obtain ⟨N2,gs2,a2,w2,sl2,t2,M2,o2,j1,j2,j3,j4,j5,j7⟩:=ih (w.at d) (more M (w.at d) w') (more o (w.at d) w') a' w' gs' sl' t' k4b k3 k5 (fun b hb=>by
     rcases hb with hb|hb
     ·exact ⟨Nat.lt_of_lt_of_le (hM b hb).1 k4.size,(hM b hb).2⟩
     ·exact ⟨hb.2,hB b hb.1⟩) (fun b hb=>hB b (Nat.le_trans k4.size hb)) (fun b hb=>hb.elim (fun h=>.inl (ho b h)) .inr)
   refine ⟨N+N2,gs2,a2,w2,sl2,t2,M2,o2,?_,j2.trans k2,j3,j4,j5,⟨⟨fun b hb hn=>?_,Nat.le_trans k4.size j7.own.size,j7.own.tape.trans k4.tape,j7.own.os.trans k4.os,j7.own.out.trans k4.out⟩,fun b hb=>j7.mM b (.inl hb),fun b hb=>j7.mo b (.inl hb),fun b hb=>?_,fun b hb=>?_⟩⟩
   ·rw [runNT_add,k1];exact j1
   ·have h1:=k4.stay b hb hn
    have h2:=j7.own.stay b (Nat.lt_of_lt_of_le hb k4.size) (fun h=>h.elim hn fun h=>by have:=h.1;rw [hz] at this;omega)
    exact h2.trans h1
   ·rcases j7.newM b hb with (h|h)|h
    ·exact .inl h
    ·exact .inr ⟨h.1,Nat.lt_of_lt_of_le h.2 j7.own.size⟩
    ·exact .inr ⟨Nat.le_trans k4.size h.1,h.2⟩
   ·rcases j7.newo b hb with (h|h)|h
    ·exact .inl h
    ·exact .inr ⟨h.1,Nat.lt_of_lt_of_le h.2 j7.own.size⟩
    ·exact .inr ⟨Nat.le_trans k4.size h.1,h.2⟩
theorem zqx {R:World→World→Prop}{D:World→World→Array Event→Prop}{Stop:Goroutine→World→Prop}{B:Nat}(hR:∀ (w:World) d,R w (w.at d))(hD:∀ w w' es,D w w' es→∀ e∈es,EvL Shun B e):
  ∀ (n:Nat) (a:Goroutine) (w:World) (gs:Array Goroutine) (sl:Option (Nat×Nat)) (t:Trace),Goes P true R D Stop n a w→gs[0]?=some a→Frm P Shun B gs t →
   ∃ (N:Nat) (gs':Array Goroutine) (a':Goroutine) (w':World) (sl':Option (Nat×Nat)) (t':Trace),runNT P N (crowd gs w sl) t=(.next (crowd gs' w' sl'),t')∧gs'.size=gs.size∧gs'[0]?=some a'∧Stop a' w'∧Frm P Shun B gs' t':=by
 intro n
 induction n with
 | zero =>
   intro a w gs sl t hG h0 hF
   exact ⟨0,gs,a,w,sl,t,rfl,rfl,h0,hG w (by have:=hR w w.drawn;exact this),hF⟩
 | succ n ih =>
   intro a w gs sl t hG h0 hF
   rcases hG with hG|⟨hrun,hG⟩
   ·exact ⟨0,gs,a,w,sl,t,rfl,rfl,h0,hG w (by have:=hR w w.drawn;exact this),hF⟩
   obtain ⟨N,gs',d,a',w',es,B',sl',t',k1,k2,k3,⟨rfl,k4⟩,k5⟩:=hF.step (K:=fun w1 B' a' w' es=>B'=B∧Goes P true R D Stop n a' w') hrun h0 w sl (fun d=>by
    have hs:=hG (w.at d) (hR w d)
    cases hgo:stepG P true a (w.at d) with
    | go a' w' es =>
      rw [hgo,goes_go] at hs
      exact ⟨a',w',es,_,rfl,Nat.le_refl _,hD _ _ _ hs.1,rfl,hs.2⟩
    | _=>rw [hgo] at hs;exact hs.elim)
   obtain ⟨N2,gs2,a2,w2,sl2,t2,j1,j2,j3,j4,j5⟩:=ih a' w' gs' sl' t' k4 k3 k5
   exact ⟨N+N2,gs2,a2,w2,sl2,t2,by rw [runNT_add,k1];exact j1,j2.trans k2,j3,j4,j5⟩
end
end
end Go.Proofs.YtelgmbomkojmaaaDoor
