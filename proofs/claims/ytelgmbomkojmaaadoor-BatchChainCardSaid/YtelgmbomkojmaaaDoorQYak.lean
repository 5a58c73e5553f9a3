/- A pack: Yk Yl Ym Yn Yo Yp Yq. -/
import Derived.Test.YtelgmbomkojmaaaDoorQYaj
namespace Go.Proofs.YtelgmbomkojmaaaDoor
set_option linter.all false
set_option maxRecDepth 100000
section
open Go.Conc Go.ConcN
open Go.ConcR (KK wgBlock WgAt stA smA rd wr Bk g_of_ofEvents)
section
variable {E:zar} {End Anch:List (Nat×Ans)→Kp} {G:zaz} {gs:Array Goroutine} {w w':World} {t u:Trace} {J:Nat} {sl:Option (Nat×Nat)}
theorem zlx {a:Addr}{k r:Nat}(h:RelBy a t k r)(hu:∀ op∈u,op.act.touch?=none): RelBy a (t++u) k r:=by
 refine h.app fun i hi _ hc=>?_
 obtain ⟨x,hx,_⟩:=hc
 obtain ⟨z,hz,hza⟩:=touch_of (t:=t++u) hx
 rcases getElem?_append_cases hz with ⟨hlt,_⟩|⟨_,hzu⟩
 ·omega
 ·rw [hu z hzu] at hza;cases hza
theorem zur {X:Nat→Wk}{i:Nat}{x':Wk}(h:x'.c=(X i).c): ∀ j,(upd X i x' j).c=(X j).c:=fun j=>by
 by_cases e:j=i
 ·subst e;rw [upd_same];exact h
 ·rw [upd_ne X x' e]
theorem PInv.commT (h:PInv E End Anch G gs w t){G':zaz}{gs':Array Goroutine}(hs:gs'.size=gs.size)(hsz:w'.heap.size=w.heap.size)(hWk:w'.heap[E.Wg]?=w.heap[E.Wg]?)(hMs:∀ j b,G'.M j b→G.M j b)(hos:∀ j b,G'.o j b→G.o j b)(hsub:∀ j b,G'.o j b→G'.M j b)(hti:TI E.Shun E.Wg E.g0 gs.size G.M G.o w.heap.size (t++u))(hmk:∀ op∈u,op.act≠.mark .disable∧op.act≠.mark .enable)(hrl:∀ i r,E.g0≤i→RelBy (stA E.Wg) t i r→RelBy (stA E.Wg) (t++u) i r)(hcc:∀ j,(G'.X j).c=(G.X j).c)(hch:∀ j,E.g0≤j→j<gs.size→ChK (t++u) (G.X j).c)(hmain:∃ a,gs'[0]?=some a∧MSit E End Anch G'.pos G'.got G'.trM (G'.M 0) (G'.o 0) a w')(hwk:∀ i,0<i→i<gs.size→∃ g,gs'[i]?=some g∧WSit E (G'.X i) (G'.M i) (G'.o i) g w')(hdeaf:G'.pos.deaf=G.pos.deaf)(hdw:∀ i,(G'.X i).deaf=(G.X i).deaf)(hstage:∀ i,(G'.X i).kind.stage=(G.X i).kind.stage)(hmode:∀ st sm,Go.ConcN.Mode (gs.size - 1) (zad G.X) G.pos.tag st sm→Go.ConcN.Mode (gs.size - 1) (zad G.X) G'.pos.tag st sm)(hsh:SInv E G' gs.size w'): PInv E End Anch G' gs' w' (t++u):=by
 have hst:zad G'.X=zad G.X:=by funext k;unfold zad;rw [hstage]
 obtain ⟨st,sm,hW,hm⟩:=h.wg
 have still:∀ g,Deaf (t++u) g=Deaf t g:=fun g=>Deaf_still t g u hmk
 refine ⟨h.pos0,h.few,hmain,fun i h0 h1=>hwk i h0 (by rwa [hs] at h1),by rw [hs,hsz];exact h.held.shrink hMs hos hsub,?_,by rw [still,h.deaf0,hdeaf],fun i h0 h1=>by rw [still,h.deafW i h0 (by rwa [hs] at h1),hdw],
  fun i h0 h1 h2=>?_,⟨st,sm,hW.of_block hWk,by rw [hs,hst];exact hmode _ _ hm⟩,fun i h0 h1=>by rw [hstage];exact h.old i h0 h1,by rw [hs];exact hsh,h.stabA,fun b hb=>hsub 0 b hb,fun j h0 h1=>by rw [hcc];exact hch j h0 (by rwa [hs] at h1),fun b hb=>h.clr b (hb.imp (hMs 0 b) (fun k=>by rw [hsz] at k;exact k))⟩
 ·rw [hs,hsz]
  exact hti.shrink hMs hos
 ·rw [hs] at h1
  rw [hstage] at h2
  obtain ⟨r,hr⟩:=h.rel i h0 h1 h2
  exact ⟨r,hrl i r h0 hr⟩
theorem PInv.comm (h:PInv E End Anch G gs w t){G':zaz}{gs':Array Goroutine}(hs:gs'.size=gs.size)(hsz:w'.heap.size=w.heap.size)(hWk:w'.heap[E.Wg]?=w.heap[E.Wg]?)(hMs:∀ j b,G'.M j b→G.M j b)(hos:∀ j b,G'.o j b→G.o j b)(hsub:∀ j b,G'.o j b→G'.M j b)(hu:∀ op∈u,op.act.touch?=none∧op.g<gs.size∧op.act.low w.heap.size∧op.act≠.mark (.release (stA E.Wg))∧op.act≠.mark .disable∧op.act≠.mark .enable)(hmain:∃ a,gs'[0]?=some a∧MSit E End Anch G'.pos G'.got G'.trM (G'.M 0) (G'.o 0) a w')(hwk:∀ i,0<i→i<gs.size→∃ g,gs'[i]?=some g∧WSit E (G'.X i) (G'.M i) (G'.o i) g w')(hcc:∀ j,(G'.X j).c=(G.X j).c)(hdeaf:G'.pos.deaf=G.pos.deaf)(hdw:∀ i,(G'.X i).deaf=(G.X i).deaf)(hstage:∀ i,(G'.X i).kind.stage=(G.X i).kind.stage)(hmode:∀ st sm,Go.ConcN.Mode (gs.size - 1) (zad G.X) G.pos.tag st sm→Go.ConcN.Mode (gs.size - 1) (zad G.X) G'.pos.tag st sm)(hsh:SInv E G' gs.size w'): PInv E End Anch G' gs' w' (t++u) :=
 h.commT hs hsz hWk hMs hos hsub (h.ti.mute fun op hop=>⟨(hu op hop).1,(hu op hop).2.1,(hu op hop).2.2.1,(hu op hop).2.2.2.1⟩) (fun op hop=>⟨(hu op hop).2.2.2.2.1,(hu op hop).2.2.2.2.2⟩) (fun i r _ hr=>zlx hr fun op hop=>(hu op hop).1) hcc
  (fun j h0 h1=>(h.chT j h0 h1).app fun op hop x hx _=>by rw [(hu op hop).1] at hx;cases hx) hmain hwk hdeaf hdw hstage hmode hsh
theorem zo2 (g:Goroutine): core (core g)=core g:=rfl
theorem znv {P:Program}{main:Bool}(g:Goroutine)(w:World): stepG P main g w=stepG P main (core g) w:=stepG_same rfl rfl rfl w
theorem zwx (p:Nat)(l:List Nat): ints (p :: l)=#[Value.int .i64 p]++ints l:=by simp [ints]
theorem zdn {G G':zaz}{n i:Nat}(hi:0<i)(hn:i - 1<n - 1){x:Wk}(hX:G'.X=upd G.X i x)(hst:x.kind.stage=(G.X i).kind.stage)(hr:G'.pos.rank E (Vc (n - 1) (zad G.X))+x.rank<G.pos.rank E (Vc (n - 1) (zad G.X))+(G.X i).rank): Less (meas E G' n) (meas E G n):=by
 refine Prod.Lex.left _ _ ?_
 have e1:sumTo (n - 1) (fun k=>(G'.X (k+1)).rank)+(G.X i).rank=sumTo (n - 1) (fun k=>(G.X (k+1)).rank)+x.rank:=by
  have:=sumTo_upd (fun k=>G.X (k+1)) x Wk.rank hn
  rw [show (G.X i)=(fun k=>G.X (k+1)) (i - 1) by show G.X i=G.X (i - 1+1);rw [show i - 1+1=i by omega]]
  rw [← this,hX]
  congr 1
  exact sumTo_congr fun k _=>by rw [← znt G.X hi x]
 have e2:zad G'.X=zad G.X:=by
  rw [hX,zdw _ hi]
  funext k
  unfold upd zad
  split
  ·rename_i e;subst e;rw [hst];show (⟨(G.X i).kind.stage,0,0⟩:WD)=⟨(G.X (i - 1+1)).kind.stage,0,0⟩;rw [show i - 1+1=i by omega]
  ·rfl
 rw [e2]
 show _+_<_+_
 omega
set_option maxHeartbeats 1600000 in
theorem PInv.recvW (hAn:∀ got M o g w,Anch got M o g w→g.status=.running)(h:PInv E End Anch G gs w t){i:Nat}(hi0:0<i)(hi:i<gs.size)(hi2:E.g0≤i){g:Goroutine}(hg:gs[i]?=some g)(hk:(G.X i).kind=.rcv∨((G.X i).kind=.again∧(G.X i).todo=[]∧(G.X i).closed=true))(hSA:∀ w₁,Oth E.ty E.Wg (G.M i) w w₁→zjj E (G.X i).c (G.X i).todo (G.M i) (G.o i) g w₁):
  ∃ m' ops μ',runT E.P (crowd gs w sl) i=(.next m',ops)∧Less μ' (meas E G gs.size)∧PI E End Anch μ' m' (t++ops):=by
 have hS:=hSA w (.refl _ w)
 have hsh:=h.sh
 obtain ⟨s,r,hch⟩:=hsh.chP i hi2 hi
 obtain ⟨hnb,hcl⟩:=hsh.nb i hi2 hi
 obtain ⟨hfree,hcG,hcB⟩:=hsh.freeP i hi2 hi
 have hrun:=hS.1
 have hcore:=hS.2
 have hstage:(G.X i).kind.stage=7:=by rcases hk with e|⟨e,_⟩ <;> rw [e] <;> rfl
 have hwork:(G.X i).kind.work=[]:=by rcases hk with e|⟨e,_⟩ <;> rw [e] <;> rfl
 have hlt:=hsh.lt hi2 hi
 have hlow:=fun j b (hb:G.M j b)=>(⟨h.held.lt j b hb,fun e=>h.held.noWg j (e ▸ hb)⟩:b<w.heap.size∧b≠E.Wg)
 have hdeafX:(G.X i).deaf=0:=by
  obtain ⟨y,hy,hsy⟩:=h.wk i hi0 hi
  generalize G.X i=x at hsy hk
  cases hsy <;> first|rfl|(rcases hk with e|⟨e,_⟩ <;> cases e)
 have main':∀ w',Oth E.ty E.Wg (G.M 0) w w'→∀ x,∃ a,(gs.setIfInBounds i x)[0]?=some a∧MSit E End Anch G.pos G.got G.trM (G.M 0) (G.o 0) a w':=fun w' ho x=>by
  obtain ⟨a,ha,hm⟩:=h.main
  exact ⟨a,by rw [Array.getElem?_setIfInBounds_ne (by omega)];exact ha,hm.rely ho⟩
 have others:∀ w',(∀ j,j<gs.size→Oth E.ty E.Wg (G.M j) w w')→∀ (g':Goroutine) (x':Wk),WSit E x' (G.M i) (G.o i) g' w'→∀ j,0<j→j<gs.size→∃ y,(gs.setIfInBounds i g')[j]?=some y∧WSit E (upd G.X i x' j) (G.M j) (G.o j) y w':=fun w' ho g' x' hs j hj0 hj=>by
  by_cases e:j=i
  ·subst e
   exact ⟨g',by rw [Array.getElem?_setIfInBounds_self_of_lt hj],by rw [upd_same];exact hs⟩
  ·obtain ⟨y,hy,hsy⟩:=h.wk j hj0 hj
   exact ⟨y,by rw [Array.getElem?_setIfInBounds_ne (Ne.symm e)];exact hy,by rw [upd_ne G.X x' e];exact hsy.rely (ho j hj)⟩
 have hfin:∀ (f:Bool) (k:Int) (v:Value) (ok:Bool),(core g).finishComm E.P #[rcase (G.X i).c zP] (.recv f) k v ok=Go.Conc.served (core g) (recvd f v ok):=fun f k v ok=>finishComm_recv _ _ _ _ _ _ _
 have stX:∀ x':Wk,x'.kind.stage=7→∀ j,(upd G.X i x' j).kind.stage=(G.X j).kind.stage:=fun x' hx j=>by
  by_cases e:j=i
  ·subst e;rw [upd_same,hx,hstage]
  ·rw [upd_ne G.X x' e]
 have dfX:∀ x':Wk,x'.deaf=0→∀ j,(upd G.X i x' j).deaf=(G.X j).deaf:=fun x' hx j=>by
  by_cases e:j=i
  ·subst e;rw [upd_same,hx,hdeafX]
  ·rw [upd_ne G.X x' e]
 have noS:=h.noSend hAn i (G.X i).c
 have hstep:stepG E.P (i == 0) g w=.comm (core g) #[rcase (G.X i).c zP] true (.recv true) w #[]:=by
  rw [show (i == 0)=false by simp;omega,znv]
  cases htd:(G.X i).todo with
  | nil=>rw [htd] at hcore;exact hcore.1
  | cons p l=>rw [htd] at hcore;exact hcore.1
 by_cases hb:0<(G.X i).nb
 ·
  cases htd:(G.X i).todo with
  | nil=>rw [htd] at hnb;simp at hnb;omega
  | cons p l =>
    rw [htd] at hcore hch hnb
    have hkr:(G.X i).kind=.rcv:=by
     rcases hk with e|⟨_,e,_⟩
     ·exact e
     ·rw [htd] at e;cases e
    obtain ⟨nb,hnbe⟩:∃ nb,(G.X i).nb=nb+1:=⟨(G.X i).nb - 1,by omega⟩
    rw [hnbe,List.take_succ_cons,zwx] at hch
    have hr:=crowd_recv_buf (P:=E.P) (sl:=sl) hg hstep hch (by simp;omega) noS
    have hv:(#[Value.int .i64 (p:Int)]++ints (l.take nb)).getD 0 undef=.int .i64 (p:Int):=by simp [Array.getD]
    have hx:(#[Value.int .i64 (p:Int)]++ints (l.take nb)).extract 1 (#[Value.int .i64 (p:Int)]++ints (l.take nb)).size=ints (l.take nb):=by simp
    rw [hv,hx,hfin] at hr
    obtain ⟨-,tr',hrun2⟩:=hcore
    let x':Wk:=⟨.wrk p,0,l,nb,(G.X i).c,(G.X i).closed,tr'⟩
    have hoth:∀ j,j<gs.size→Oth E.ty E.Wg (G.M j) w (w.setChan (G.X i).c E.n (ints (l.take nb)) (G.X i).closed s (r+1) false):=fun j _=>zek (hfree.2.2.1 j) hfree.2.1
    have hpend:∀ φ:List Nat→Nat,φ [p]+φ l=φ (p :: l)→φ x'.pend=φ (G.X i).pend:=fun φ _=>by unfold Wk.pend;rw [hwork,htd];rfl
    have hpe:x'.pend=(G.X i).pend:=by unfold Wk.pend;rw [hwork,htd];rfl
    have hpall:∀ j,(upd G.X i x' j).pend=(G.X j).pend:=fun j=>by
     by_cases e:j=i
     ·subst e;rw [upd_same];exact hpe
     ·rw [upd_ne G.X x' e]
    have hcx:∀ j,(upd G.X i x' j).c=(G.X j).c:=fun j=>by
     by_cases e:j=i
     ·subst e;rw [upd_same]
     ·rw [upd_ne G.X x' e]
    refine ⟨_,_,_,hr,?_,{ G with X:=upd G.X i x' },_,_,sl,rfl,?_,rfl⟩
    ·rw [show (gs.setIfInBounds i (Go.Conc.served (core g) (recvd true (.int .i64 (p:Int)) true))).size=gs.size by simp]
     refine zdn hi0 (by omega) rfl (by show 7=_;rw [hstage]) ?_
     have e1:x'.rank=3 * l.length+14:=rfl
     have e2:(G.X i).rank=3 * (p :: l).length+13:=by unfold Wk.rank;rw [hkr,htd]
     rw [e1,e2,List.length_cons]
     show G.pos.rank E _+_<_
     omega
    ·refine h.comm (G':={ G with X:=upd G.X i x' }) (by simp) (zao w) (zag w (Ne.symm hfree.2.1)) (fun _ _ hb=>hb) (fun _ _ hb=>hb) (fun j b hb=>h.held.sub j b hb) (fun op hop=>?_)
      (main' _ (hoth 0 (by omega)) _) (others _ hoth _ x' (.wrk (RunT.rely hrun2 (hoth i hi)))) hcx rfl (dfX x' rfl) (stX x' rfl) (fun _ _ hm=>hm) ?_
     ·simp only [MemOp.ofEvents,Array.mem_append] at hop
      rcases hop with hop|hop
      ·simp at hop
      ·simp only [List.mem_toArray,List.mem_cons,List.not_mem_nil,or_false] at hop
       rcases hop with rfl|rfl
       ·exact ⟨rfl,hi,hfree.1,by simp,by simp,by simp⟩
       ·exact ⟨rfl,hi,hfree.1,by simp,by simp,by simp⟩
     ·refine hsh.turn h.stabA (zao w) (fun _ _ hb=>hb) (fun j _ _=>hcx j) (fun b k1 k2 k3=>zag w (k3 i hi2 hi)) (fun q b hb=>.inl hb) (fun q b hb=>(hsh.hB q b hb).2.2.2) hsh.hBB hlow (fun x hx=>.inl ⟨hx,rfl⟩)
       hsh.place (fun j h1 h2=>?_) (fun j h1 h2=>?_) (fun j h1 h2 hc=>?_) (fun m k c l' hp=>?_) ?_ ?_ hsh.tyG hsh.tyB hsh.sel (fun q=>?_) ?_ hsh.want
      ·show ∃ s2 r2,(w.setChan (G.X i).c E.n (ints (l.take nb)) (G.X i).closed s (r+1) false).heap[(upd G.X i x' j).c]?=some (Obj.chan E.n (ints ((upd G.X i x' j).todo.take (upd G.X i x' j).nb)) (upd G.X i x' j).closed s2 r2 false)
       by_cases e:j=i
       ·subst e
        rw [upd_same]
        exact ⟨s,r+1,za7 w hfree.1⟩
       ·rw [upd_ne G.X x' e,zag w (hsh.distinct j i h1 h2 hi2 hi e)]
        exact hsh.chP j h1 h2
      ·show (upd G.X i x' j).nb≤(upd G.X i x' j).todo.length∧((upd G.X i x' j).closed=true→(upd G.X i x' j).nb=(upd G.X i x' j).todo.length)
       by_cases e:j=i
       ·subst e
        rw [upd_same]
        refine ⟨by show nb≤l.length;rw [List.length_cons] at hnb;omega,fun hc=>?_⟩
        have:=hcl hc
        rw [htd,hnbe,List.length_cons] at this
        show nb=l.length
        omega
       ·rw [upd_ne G.X x' e]
        exact hsh.nb j h1 h2
      ·have hc:(upd G.X i x' j).closed=false:=hc
       show ∃ m k l,G.pos=.snd m k (upd G.X i x' j).c l∧j+1=gs.size
       rw [hcx]
       refine hsh.shut j h1 h2 ?_
       by_cases e:j=i
       ·subst e;rw [upd_same] at hc;exact hc
       ·rw [upd_ne G.X x' e] at hc;exact hc
      ·obtain ⟨k1,k2,k3⟩:=hsh.cur m k c l' hp
       show (upd G.X i x' (gs.size - 1)).c=c∧(upd G.X i x' (gs.size - 1)).closed=false∧l'=(upd G.X i x' (gs.size - 1)).todo.drop (upd G.X i x' (gs.size - 1)).nb
       by_cases e:gs.size - 1=i
       ·rw [e] at k1 k2 k3 ⊢
        rw [upd_same]
        refine ⟨k1,k2,?_⟩
        rw [k3,htd,hnbe,List.drop_succ_cons]
       ·rw [upd_ne G.X x' e]
        exact ⟨k1,k2,k3⟩
      ·rw [zag w (Ne.symm hcG)];exact hsh.chG
      ·rw [zag w (Ne.symm hcB)];exact hsh.chB
      ·show G.told.countP _+sumTo E.N (fun k=>if E.g0+k<gs.size then (upd G.X i x' (E.g0+k)).pend.count q else (E.pl k).count q)=_
       simp only [hpall]
       exact hsh.cnt q
      ·show G.told.length+sumTo E.N (fun k=>if E.g0+k<gs.size then (upd G.X i x' (E.g0+k)).pend.length else (E.pl k).length)=_
       simp only [hpall]
       exact hsh.len
 ·have hb0:(G.X i).nb=0:=by omega
  rw [hb0,List.take_zero] at hch
  cases hclo:(G.X i).closed with
  | true =>
    have htd:(G.X i).todo=[]:=by
     have:=hcl hclo
     rw [hb0] at this
     exact List.length_eq_zero_iff.1 this.symm
    rw [htd] at hcore
    rw [hclo] at hch
    have hr:=crowd_recv_closed (P:=E.P) (sl:=sl) hg hstep hch noS
    rw [hfin] at hr
    obtain ⟨-,tr',hrun2⟩:=hcore
    let x':Wk:=⟨.r0,0,[],0,(G.X i).c,true,tr'⟩
    have hcx:∀ j,(upd G.X i x' j).c=(G.X j).c∧(upd G.X i x' j).todo=(G.X j).todo∧(upd G.X i x' j).nb=(G.X j).nb∧(upd G.X i x' j).closed=(G.X j).closed∧(upd G.X i x' j).kind.work=(G.X j).kind.work:=fun j=>by
     by_cases e:j=i
     ·subst e;rw [upd_same];exact ⟨rfl,htd.symm,hb0.symm,hclo.symm,hwork.symm⟩
     ·rw [upd_ne G.X x' e];exact ⟨rfl,rfl,rfl,rfl,rfl⟩
    refine ⟨_,_,_,hr,?_,{ G with X:=upd G.X i x' },_,_,sl,rfl,?_,rfl⟩
    ·rw [show (gs.setIfInBounds i (Go.Conc.served (core g) (recvd true zP false))).size=gs.size by simp]
     refine zdn hi0 (by omega) rfl (by show 7=_;rw [hstage]) ?_
     have e1:x'.rank=7:=rfl
     have e2:11≤(G.X i).rank:=by rcases hk with e|⟨e,_⟩ <;> (unfold Wk.rank;rw [e]) <;> simp
     rw [e1]
     show G.pos.rank E _+_<_
     omega
    ·refine h.comm (G':={ G with X:=upd G.X i x' }) (by simp) rfl rfl (fun _ _ hb=>hb) (fun _ _ hb=>hb) (fun j b hb=>h.held.sub j b hb) (fun op hop=>?_)
      (main' _ (.refl _ w) _) (others _ (fun j _=>.refl _ w) _ x' (.r0 hrun2)) (fun j=>(hcx j).1) rfl (dfX x' rfl) (stX x' rfl) (fun _ _ hm=>hm)
      (hsh.move h.stabA hcx hsh.place (fun _ _ _ _=>Iff.rfl) hsh.sel hsh.want rfl rfl rfl rfl (fun _ _ hb _=>hb) (Nat.le_refl _) (fun _ _ _ _=>rfl))
     simp only [MemOp.ofEvents,Array.mem_append] at hop
     rcases hop with hop|hop
     ·simp at hop
     ·simp only [List.mem_toArray,List.mem_cons,List.not_mem_nil,or_false] at hop
      subst hop
      exact ⟨rfl,hi,hfree.1,by simp,by simp,by simp⟩
  | false =>
    have hkr:(G.X i).kind=.rcv:=by
     rcases hk with e|⟨_,_,e⟩
     ·exact e
     ·rw [hclo] at e;cases e
    rw [hclo] at hch
    have hr:=crowd_waits (P:=E.P) (sl:=sl) hg hstep (fun cc hcc=>by
     have:cc=rcase (G.X i).c zP:=by simpa using hcc
     subst this
     exact ways_recv_none hch noS)
    let x':Wk:=⟨.park,0,(G.X i).todo,0,(G.X i).c,false,.leaf⟩
    have hcx:∀ j,(upd G.X i x' j).c=(G.X j).c∧(upd G.X i x' j).todo=(G.X j).todo∧(upd G.X i x' j).nb=(G.X j).nb∧(upd G.X i x' j).closed=(G.X j).closed∧(upd G.X i x' j).kind.work=(G.X j).kind.work:=fun j=>by
     by_cases e:j=i
     ·subst e;rw [upd_same];exact ⟨rfl,rfl,hb0.symm,hclo.symm,hwork.symm⟩
     ·rw [upd_ne G.X x' e];exact ⟨rfl,rfl,rfl,rfl,rfl⟩
    refine ⟨_,_,_,hr,?_,{ G with X:=upd G.X i x' },_,_,sl,rfl,?_,rfl⟩
    ·rw [show (gs.setIfInBounds i (parked (core g) #[rcase (G.X i).c zP] (.recv true))).size=gs.size by simp]
     refine zdn hi0 (by omega) rfl (by show 7=_;rw [hstage]) ?_
     have e1:x'.rank=3 * (G.X i).todo.length+12:=rfl
     have e2:(G.X i).rank=3 * (G.X i).todo.length+13:=by unfold Wk.rank;rw [hkr]
     rw [e1,e2]
     show G.pos.rank E _+_<_
     omega
    ·refine h.comm (G':={ G with X:=upd G.X i x' }) (by simp) rfl rfl (fun _ _ hb=>hb) (fun _ _ hb=>hb) (fun j b hb=>h.held.sub j b hb) (fun op hop=>?_)
      (main' _ (.refl _ w) _) (others _ (fun j _=>.refl _ w) _ x' (.park (zo2 g) ?_)) (fun j=>(hcx j).1) rfl (dfX x' rfl) (stX x' rfl) (fun _ _ hm=>hm)
      (hsh.move h.stabA hcx hsh.place (fun _ _ _ _=>Iff.rfl) hsh.sel hsh.want rfl rfl rfl rfl (fun _ _ hb _=>hb) (Nat.le_refl _) (fun _ _ _ _=>rfl))
     ·simp [MemOp.ofEvents] at hop
     ·exact fun w₁ h₁=>(hSA w₁ h₁).2
end
end
section
open Go.Conc Go.ConcN
open Go.ConcR (KK wgBlock WgAt stA smA rd wr Bk g_of_ofEvents)
def Ans.pick {α:Type}(a:Ans)(x y:α): α :=
 match a with
 | .good ..=>x
 | .bad=>y
section
variable {E:zar} {End Anch:List (Nat×Ans)→Kp} {G:zaz} {gs:Array Goroutine} {w w':World} {t u:Trace} {J:Nat} {sl:Option (Nat×Nat)}
theorem zo1 {p:Nat}{l:List (Nat×Ans)}(h:l.countP (·.1 == p)=0): ∀ x∈l,x.1≠p:=fun x hx e=>by
 have:=List.countP_pos_iff (p:=fun (x:Nat×Ans)=>x.1 == p) (l:=l).2 ⟨x,hx,by simp [e]⟩
 omega
theorem SInv.inHand (h:SInv E G J w){i p:Nat}(h1:E.g0≤i)(h2:i<J)(hp:p∈(G.X i).pend): p<E.n∧(∀ x∈G.told,x.1≠p)∧G.told.length<E.n:=by
 have hl:=h.lt h1 h2
 have hc:1≤(G.X i).pend.count p:=List.count_pos_iff.2 hp
 have hs:=le_sumTo (f:=fun k=>if E.g0+k<J then (G.X (E.g0+k)).pend.count p else (E.pl k).count p) hl
 simp only [show E.g0+(i - E.g0)=i by omega,if_pos h2] at hs
 have hcnt:=h.cnt p
 have hlen:=h.len
 have hs2:=le_sumTo (f:=fun k=>if E.g0+k<J then (G.X (E.g0+k)).pend.length else (E.pl k).length) hl
 simp only [show E.g0+(i - E.g0)=i by omega,if_pos h2] at hs2
 have hl1:1≤(G.X i).pend.length:=List.length_pos_of_mem hp
 refine ⟨?_,zo1 ?_,by omega⟩
 ·apply Classical.byContradiction
  intro hn
  rw [if_neg hn] at hcnt
  omega
 ·split at hcnt <;> omega
theorem SInv.answer (h:SInv E G J w)(stab:∀ p a B w w₁,E.A p a B w→(∀ b,B b→w₁.heap[b]?=w.heap[b]?)→E.A p a B w₁)(hlow:∀ j b,G.M j b→b<w.heap.size∧b≠E.Wg)(hap:∀ a c,a<J→c<J→a≠c→∀ b,G.o a b→¬ G.M c b){i p:Nat}{a:Ans}(h1:E.g0≤i)(h2:i<J)(hk:(G.X i).kind=.wrk p){B M' o':Nat→Prop}(hB:∀ b,B b→G.o i b)(hBM:∀ b,B b→G.M i b)(hM:∀ b,M' b→G.M i b)(hMB:∀ b,M' b→¬ B b)(hA:E.A p a B w){tr' trM':Tr}{pos':Pos}{got' bG' bB':List (Nat×Ans)}(hc:∀ q,(bG'++bB'++got').countP (·.1 == q)=G.told.countP (·.1 == q)+if p == q then 1 else 0)(hl:(bG'++bB'++got').length=G.told.length+1)(hm:∀ x,x∈bG'++bB'++got'↔x∈G.told∨x=(p,a))(hpl:pos'.place E.N (J - E.g0))(hsnd:∀ m k c l,pos'=.snd m k c l↔G.pos=.snd m k c l)(hsel:∀ r,pos'=.sel r→bG'=[]∧bB'=[])(hw:pos'.want E.n got')(tyG:∀ x∈bG',x.2.idx=0)(tyB:∀ x∈bB',x.2.idx=1)(hsz:w'.heap.size=w.heap.size)(hkp:∀ b,b≠E.cG→b≠E.cB→w'.heap[b]?=w.heap[b]?)(chG:∃ s r,w'.heap[E.cG]?=some (.chan E.n (vals bG') false s r false))(chB:∃ s r,w'.heap[E.cB]?=some (.chan E.n (vals bB') false s r false)):
  SInv E { G with X:=upd G.X i ⟨.rcv,0,(G.X i).todo,(G.X i).nb,(G.X i).c,(G.X i).closed,tr'⟩,M:=upd G.M i M',o:=upd G.o i o',B:=upd G.B p B,bG:=bG',bB:=bB',got:=got',pos:=pos',trM:=trM' } J w':=by
 generalize hx:(⟨.rcv,0,(G.X i).todo,(G.X i).nb,(G.X i).c,(G.X i).closed,tr'⟩:Wk)=x'
 have e1:x'.c=(G.X i).c:=by rw [← hx]
 have e2:x'.todo=(G.X i).todo:=by rw [← hx]
 have e3:x'.nb=(G.X i).nb:=by rw [← hx]
 have e4:x'.closed=(G.X i).closed:=by rw [← hx]
 have hX:∀ j,(upd G.X i x' j).c=(G.X j).c∧(upd G.X i x' j).todo=(G.X j).todo∧(upd G.X i x' j).nb=(G.X j).nb∧(upd G.X i x' j).closed=(G.X j).closed:=fun j=>by
  by_cases e:j=i
  ·subst e;rw [upd_same];exact ⟨e1,e2,e3,e4⟩
  ·rw [upd_ne G.X x' e];exact ⟨rfl,rfl,rfl,rfl⟩
 have hpe:(G.X i).pend=p :: x'.pend:=by rw [← hx];unfold Wk.pend;rw [hk];rfl
 obtain ⟨hpn,hpt,_⟩:=h.inHand h1 h2 (p:=p) (by rw [hpe];simp)
 have hlt:=h.lt h1 h2
 have hBq:∀ q b,upd G.B p B q b→(q=p∧B b)∨(q≠p∧G.B q b):=fun q b hb=>by
  by_cases e:q=p
  ·subst e;rw [upd_same] at hb;exact .inl ⟨rfl,hb⟩
  ·rw [upd_ne G.B B e] at hb;exact .inr ⟨e,hb⟩
 have hMs:∀ j b,upd G.M i M' j b→G.M j b:=fun j b hb=>by
  by_cases e:j=i
  ·subst e;rw [upd_same] at hb;exact hM b hb
  ·rw [upd_ne G.M M' e] at hb;exact hb
 refine h.turn stab hsz hMs (fun j _ _=>(hX j).1) (fun b k1 k2 _=>hkp b k1 k2) (fun q b hb=>?_) (fun q b hb=>?_) (fun q q' b hne hb hb'=>?_) hlow (fun x hx=>?_) hpl
  (fun j g1 g2=>?_) (fun j g1 g2=>?_) (fun j g1 g2 hcl=>?_) (fun m k c l hp=>?_) chG chB tyG tyB hsel (fun q=>?_) ?_ hw
 ·rcases hBq q b hb with ⟨_,g1⟩|⟨_,g1⟩
  ·refine .inr ⟨⟨i,hBM b g1⟩,fun j hj hm=>?_⟩
   by_cases e:j=i
   ·subst e
    have hm2:upd G.M j M' j b:=hm
    rw [upd_same] at hm2
    exact hMB b hm2 g1
   ·exact hap i j h2 hj (Ne.symm e) b (hB b g1) (hMs j b hm)
  ·exact .inl g1
 ·rcases hBq q b hb with ⟨rfl,hb⟩|⟨_,hb⟩
  ·exact List.mem_map.2 ⟨(q,a),(hm _).2 (.inr rfl),rfl⟩
  ·obtain ⟨y,hy,e⟩:=List.mem_map.1 (h.hB q b hb).2.2.2
   exact List.mem_map.2 ⟨y,(hm _).2 (.inl hy),e⟩
 ·rcases hBq q b hb with ⟨r1,g1⟩|⟨r1,g1⟩ <;> rcases hBq q' b hb' with ⟨r2,g2⟩|⟨r2,g2⟩
  ·exact hne (r1.trans r2.symm)
  ·exact (h.hB q' b g2).2.2.1 i h2 (hBM b g1)
  ·exact (h.hB q b g1).2.2.1 i h2 (hBM b g2)
  ·exact h.hBB q q' b hne g1 g2
 ·rcases (hm x).1 hx with hx|rfl
  ·exact .inl ⟨hx,upd_ne G.B B (hpt x hx)⟩
  ·refine .inr ?_
   show E.A p a (upd G.B p B p) w
   rw [upd_same];exact hA
 ·show ∃ s2 r2,w'.heap[(upd G.X i x' j).c]?=some (Obj.chan E.n (ints ((upd G.X i x' j).todo.take (upd G.X i x' j).nb)) (upd G.X i x' j).closed s2 r2 false)
  obtain ⟨k1,k2,k3,k4⟩:=hX j
  rw [k1,k2,k3,k4,hkp _ (h.freeP j g1 g2).2.1 (h.freeP j g1 g2).2.2]
  exact h.chP j g1 g2
 ·show (upd G.X i x' j).nb≤(upd G.X i x' j).todo.length∧((upd G.X i x' j).closed=true→(upd G.X i x' j).nb=(upd G.X i x' j).todo.length)
  obtain ⟨k1,k2,k3,k4⟩:=hX j
  rw [k2,k3,k4]
  exact h.nb j g1 g2
 ·have hcl:(upd G.X i x' j).closed=false:=hcl
  show ∃ m k l,pos'=.snd m k (upd G.X i x' j).c l∧j+1=J
  obtain ⟨k1,k2,k3,k4⟩:=hX j
  rw [k4] at hcl
  obtain ⟨m,k,l,q1,q2⟩:=h.shut j g1 g2 hcl
  exact ⟨m,k,l,by rw [k1];exact (hsnd _ _ _ _).2 q1,q2⟩
 ·show (upd G.X i x' (J - 1)).c=c∧(upd G.X i x' (J - 1)).closed=false∧l=(upd G.X i x' (J - 1)).todo.drop (upd G.X i x' (J - 1)).nb
  obtain ⟨k1,k2,k3,k4⟩:=hX (J - 1)
  rw [k1,k2,k3,k4]
  exact h.cur m k c l ((hsnd _ _ _ _).1 hp)
 ·have key:=zrq (φ:=fun l=>l.count q) G.X E.pl x' h1 h2 hlt
  simp only [hpe,List.count_cons] at key
  have h0:=h.cnt q
  have h3:=hc q
  show (bG'++bB'++got').countP _+sumTo E.N (fun k=>if E.g0+k<J then (upd G.X i x' (E.g0+k)).pend.count q else (E.pl k).count q)=_
  rw [← h0,h3]
  omega
 ·have key:=zrq (φ:=List.length) G.X E.pl x' h1 h2 hlt
  simp only [hpe,List.length_cons] at key
  have h0:=h.len
  show (bG'++bB'++got').length+sumTo E.N (fun k=>if E.g0+k<J then (upd G.X i x' (E.g0+k)).pend.length else (E.pl k).length)=_
  rw [hl]
  omega
theorem zuq (l:List (Nat×Ans))(p:Nat)(a:Ans): (vals l).push (a.val p)=vals (l++[(p,a)]):=by simp [vals]
set_option maxHeartbeats 1600000 in
theorem PInv.ansW (hAn:∀ got M o g w,Anch got M o g w→g.status=.running)(h:PInv E End Anch G gs w t){i p:Nat}(hi0:0<i)(hi:i<gs.size)(hi2:E.g0≤i){g:Goroutine}(hg:gs[i]?=some g)(hk:(G.X i).kind=.wrk p)(hS:WAns E p (zjj E (G.X i).c (G.X i).todo) (G.M i) (G.o i) g w):
  ∃ m' ops μ',runT E.P (crowd gs w sl) i=(.next m',ops)∧Less μ' (meas E G gs.size)∧PI E End Anch μ' m' (t++ops):=by
 have hsh:=h.sh
 obtain ⟨hrun,a,B,M',o',z,q1,q2,q3,q4,q5,hA,hst,tr',hrun2⟩:=hS
 have hstep:stepG E.P (i == 0) g w=.comm (core g) #[scase (E.ch a) (a.val p) z] true .send w #[]:=by rw [show (i == 0)=false by simp;omega];exact hst
 have hpe:p∈(G.X i).pend:=by unfold Wk.pend;rw [hk];simp [zat.work]
 obtain ⟨hpn,hpt,hlen⟩:=hsh.inHand hi2 hi hpe
 have hstage:(G.X i).kind.stage=7:=by rw [hk];rfl
 have hdeafX:(G.X i).deaf=0:=by
  obtain ⟨y,hy,hsy⟩:=h.wk i hi0 hi
  generalize G.X i=x at hsy hk
  cases hsy <;> first|rfl|(cases hk;done)
 have hlow:=fun j b (hb:G.M j b)=>(⟨h.held.lt j b hb,fun e=>h.held.noWg j (e ▸ hb)⟩:b<w.heap.size∧b≠E.Wg)
 have hchf:Free E G w.heap.size (E.ch a):=by cases a <;> first|exact hsh.freeG|exact hsh.freeB
 have hfin:∀ (k:Int) (v:Value) (ok:Bool),(core g).finishComm E.P #[scase (E.ch a) (a.val p) z] .send k v ok=Go.Conc.served (core g) undef:=fun k v ok=>finishComm_send _ _ _ _ _ _
 let x':Wk:=⟨.rcv,0,(G.X i).todo,(G.X i).nb,(G.X i).c,(G.X i).closed,tr'⟩
 have stX:∀ j,(upd G.X i x' j).kind.stage=(G.X j).kind.stage:=fun j=>by
  by_cases e:j=i
  ·subst e;rw [upd_same,hstage];rfl
  ·rw [upd_ne G.X x' e]
 have dfX:∀ j,(upd G.X i x' j).deaf=(G.X j).deaf:=fun j=>by
  by_cases e:j=i
  ·subst e;rw [upd_same,hdeafX]
  ·rw [upd_ne G.X x' e]
 have hMs:∀ j b,upd G.M i M' j b→G.M j b:=fun j b hb=>by
  by_cases e:j=i
  ·subst e;rw [upd_same] at hb;exact q2 b hb
  ·rw [upd_ne G.M M' e] at hb;exact hb
 have hos:∀ j b,upd G.o i o' j b→G.o j b:=fun j b hb=>by
  by_cases e:j=i
  ·subst e;rw [upd_same] at hb;exact q3 b hb
  ·rw [upd_ne G.o o' e] at hb;exact hb
 have hsub:∀ j b,upd G.o i o' j b→upd G.M i M' j b:=fun j b hb=>by
  by_cases e:j=i
  ·subst e;rw [upd_same] at hb ⊢;exact q4 b hb
  ·rw [upd_ne G.o o' e] at hb;rw [upd_ne G.M M' e];exact h.held.sub j b hb
 have hM0:upd G.M i M' 0=G.M 0∧upd G.o i o' 0=G.o 0:=⟨upd_ne _ _ (by omega),upd_ne _ _ (by omega)⟩
 have others:∀ (gs':Array Goroutine) (w':World),(∀ j,j<gs.size→Oth E.ty E.Wg (G.M j) w w')→gs'[i]?=some (Go.Conc.served (core g) undef)→(∀ j,0<j→j≠i→gs'[j]?=gs[j]?) →
   ∀ j,0<j→j<gs.size→∃ y,gs'[j]?=some y∧WSit E (upd G.X i x' j) (upd G.M i M' j) (upd G.o i o' j) y w':=fun gs' w' ho hgi hgo j hj0 hj=>by
  by_cases e:j=i
  ·subst e
   exact ⟨_,hgi,by rw [upd_same,upd_same,upd_same];exact .rcv (RunT.rely hrun2 ((ho j hj).weak q2))⟩
  ·obtain ⟨y,hy,hsy⟩:=h.wk j hj0 hj
   exact ⟨y,by rw [hgo j hj0 e];exact hy,by rw [upd_ne G.X x' e,upd_ne G.M M' e,upd_ne G.o o' e];exact hsy.rely (ho j hj)⟩
 have hr1:x'.rank+1=(G.X i).rank:=by
  have:x'.rank=3 * (G.X i).todo.length+13:=rfl
  rw [this]
  unfold Wk.rank
  rw [hk]
 have mute:∀ (s r cap:Nat) (j:Nat) (f1 f2:FuncId) (p1 p2:String),j<gs.size→∀ op∈MemOp.ofEvents i g.frame.fn g.frame.place #[]++#[({ g:=i,fn:=f1,pos:=p1,act:=.send (E.ch a) s }:MemOp),{ g:=j,fn:=f2,pos:=p2,act:=.recv (E.ch a) r cap },
    { g:=i,fn:=f1,pos:=p1,act:=.sendDone (E.ch a) s },{ g:=j,fn:=f2,pos:=p2,act:=.recvDone (E.ch a) r }],
   op.act.touch?=none∧op.g<gs.size∧op.act.low w.heap.size∧op.act≠.mark (.release (stA E.Wg))∧op.act≠.mark .disable∧op.act≠.mark .enable:=fun s r cap j f1 f2 p1 p2 hj op hop=>by
  simp only [MemOp.ofEvents,Array.mem_append] at hop
  rcases hop with hop|hop
  ·simp at hop
  ·simp only [List.mem_toArray,List.mem_cons,List.not_mem_nil,or_false] at hop
   rcases hop with rfl|rfl|rfl|rfl
   ·exact ⟨rfl,hi,hchf.1,by simp,by simp,by simp⟩
   ·exact ⟨rfl,hj,hchf.1,by simp,by simp,by simp⟩
   ·exact ⟨rfl,hi,hchf.1,by simp,by simp,by simp⟩
   ·exact ⟨rfl,hj,hchf.1,by simp,by simp,by simp⟩
 have mute2:∀ (s:Nat) (f1:FuncId) (p1:String),∀ op∈MemOp.ofEvents i g.frame.fn g.frame.place #[]++#[({ g:=i,fn:=f1,pos:=p1,act:=.send (E.ch a) s }:MemOp),{ g:=i,fn:=f1,pos:=p1,act:=.sendDone (E.ch a) s }],
   op.act.touch?=none∧op.g<gs.size∧op.act.low w.heap.size∧op.act≠.mark (.release (stA E.Wg))∧op.act≠.mark .disable∧op.act≠.mark .enable:=fun s f1 p1 op hop=>by
  simp only [MemOp.ofEvents,Array.mem_append] at hop
  rcases hop with hop|hop
  ·simp at hop
  ·simp only [List.mem_toArray,List.mem_cons,List.not_mem_nil,or_false] at hop
   rcases hop with rfl|rfl
   ·exact ⟨rfl,hi,hchf.1,by simp,by simp,by simp⟩
   ·exact ⟨rfl,hi,hchf.1,by simp,by simp,by simp⟩
 by_cases hsel:∃ q,G.pos=.sel q
 ·
  obtain ⟨q,hq⟩:=hsel
  obtain ⟨hbG,hbB⟩:=hsh.sel q hq
  obtain ⟨a0,ha0,hm⟩:=h.main
  have hwant:=hsh.want
  rw [hq] at hm hwant
  generalize G.trM=trM0 at hm
  generalize hgot:G.got=got0 at hm hwant
  cases hm with
  | sel hcore hC =>
    rename_i r gj
    obtain ⟨s,rr,hch⟩:∃ s rr,w.heap[E.ch a]?=some (.chan E.n #[] false s rr false):=by
     cases a with
     | good=>obtain ⟨s,rr,hc⟩:=hsh.chG;rw [hbG] at hc;exact ⟨s,rr,hc⟩
     | bad=>obtain ⟨s,rr,hc⟩:=hsh.chB;rw [hbB] at hc;exact ⟨s,rr,hc⟩
    have hkc:∃ zz,(zbb E)[a.idx]?=some (rcase (E.ch a) zz):=by cases a <;> exact ⟨_,rfl⟩
    obtain ⟨zz,hkc⟩:=hkc
    have hoff:offersAt (parked gj (zbb E) .select) (E.ch a) false=[a.idx]:=by
     refine offersAt_parked_at hkc fun m cc hne hcc=>?_
     have hne2:=hsh.neGB
     cases a with
     | good =>
       match m,hcc with
       | 0,_=>exact absurd rfl hne
       | 1,hcc =>
         cases hcc
         intro e
         have e2:Value.chan (some E.cB)=.chan (some E.cG):=e
         exact hne2 (by simpa using e2.symm)
       | m+2,hcc=>simp [zbb] at hcc
     | bad =>
       match m,hcc with
       | 0,hcc =>
         cases hcc
         intro e
         have e2:Value.chan (some E.cG)=.chan (some E.cB):=e
         exact hne2 (by simpa using e2)
       | 1,_=>exact absurd rfl hne
       | m+2,hcc=>simp [zbb] at hcc
    have hpart:partners (gs.setIfInBounds i ph) (E.ch a) false=[(0,a.idx)]:=by
     rw [partners_one (j:=0) (stand_get (by omega) ha0) (fun k x hk0 hx=>?_),hoff]
     ·rfl
     ·rcases getElem?_stand gs i k x hx with ⟨_,rfl⟩|⟨_,hx⟩
      ·exact offersAt_ph _ _
      ·rcases (h.offers hAn hx (E.ch a)).2 with h1|⟨h1,h2,h3,_⟩|⟨h1,_⟩
       ·exact h1
       ·have hk7:E.g0≤k:=by
         apply Classical.byContradiction
         intro hlt
         have:=h.old k h1 (by omega)
         rw [h2] at this;cases this
        have:=(hsh.freeP k hk7 (Array.getElem?_eq_some_iff.1 hx).1).2
        cases a with
        | good=>exact absurd h3 this.1
        | bad=>exact absurd h3 this.2
       ·exact absurd h1 hk0
    have hr:=crowd_send_meets_sel (P:=E.P) (sl:=sl) hg hstep hch (by omega) ha0 hkc hpart
    rw [hfin] at hr
    have hoth:∀ j,j<gs.size→Oth E.ty E.Wg (G.M j) w (w.setChan (E.ch a) E.n #[] false (s+1) (rr+1) false):=fun j _=>zek (hchf.2.2.1 j) hchf.2.1
    obtain ⟨hcm,hnext⟩:=hC _ (hoth 0 (by omega))
    obtain ⟨trM',hgath⟩:=hnext p a hpn
    obtain ⟨pos',hms,hpl,hsnd,hse,hwt,hdf,htg,hrk⟩:∃ pos',MSit E End Anch pos' (got0++[(p,a)]) trM' (G.M 0) (G.o 0) (gj.finishComm E.P (zbb E) .select a.idx (a.val p) true) (w.setChan (E.ch a) E.n #[] false (s+1) (rr+1) false)∧pos'.place E.N (gs.size - E.g0) ∧
      (∀ m k c l,pos'=.snd m k c l↔G.pos=.snd m k c l)∧(∀ r,pos'≠.sel r)∧pos'.want E.n (got0++[(p,a)])∧pos'.deaf=0∧pos'.tag=.sp 0 5∧∀ v,pos'.rank E v<G.pos.rank E v:=by
     have hplace:=hsh.place
     rw [hq] at hplace
     cases r with
     | zero =>
       refine ⟨.wkd,.wkd hgath,hplace,fun m k c l=>by rw [hq];simp,fun r=>by simp,?_,rfl,rfl,fun v=>by rw [hq];simp only [Pos.rank];omega⟩
       simp only [Pos.want] at hwant ⊢
       simp;omega
     | succ r =>
       refine ⟨.gat (r+1),.gat hgath,hplace,fun m k c l=>by rw [hq];simp,fun r=>by simp,?_,rfl,rfl,fun v=>by rw [hq];simp only [Pos.rank];omega⟩
       simp only [Pos.want] at hwant ⊢
       simp;omega
    refine ⟨_,_,_,hr,?_,{ G with X:=upd G.X i x',M:=upd G.M i M',o:=upd G.o i o',B:=upd G.B p B,bG:=[],bB:=[],got:=got0++[(p,a)],pos:=pos',trM:=trM' },_,_,sl,rfl,?_,rfl⟩
    ·rw [show ((gs.setIfInBounds 0 (gj.finishComm E.P (zbb E) .select a.idx (a.val p) true)).setIfInBounds i (Go.Conc.served (core g) undef)).size=gs.size by simp]
     refine zdn hi0 (by omega) rfl (by show 7=_;rw [hstage]) ?_
     have:=hrk (Vc (gs.size - 1) (zad G.X))
     show pos'.rank E _+x'.rank<_
     omega
    ·refine h.comm (G':={ G with X:=upd G.X i x',M:=upd G.M i M',o:=upd G.o i o',B:=upd G.B p B,bG:=[],bB:=[],got:=got0++[(p,a)],pos:=pos',trM:=trM' }) (by simp) (zao w) (zag w (Ne.symm hchf.2.1)) hMs hos hsub
      (mute _ _ _ 0 _ _ _ _ (by omega)) ⟨gj.finishComm E.P (zbb E) .select a.idx (a.val p) true,?_,?_⟩ (others _ _ hoth ?_ ?_) (zur rfl) ?_ dfX stX (fun st sm hmm=>?_) ?_
     ·rw [Array.getElem?_setIfInBounds_ne (by omega),Array.getElem?_setIfInBounds_self_of_lt (by omega)]
     ·show MSit E End Anch pos' (got0++[(p,a)]) trM' (upd G.M i M' 0) (upd G.o i o' 0) _ _
      rw [hM0.1,hM0.2];exact hms
     ·rw [Array.getElem?_setIfInBounds_self_of_lt (by simpa using hi)]
     ·intro j hj0 hne
      rw [Array.getElem?_setIfInBounds_ne (Ne.symm hne),Array.getElem?_setIfInBounds_ne (by omega)]
     ·show pos'.deaf=G.pos.deaf
      rw [hdf,hq];rfl
     ·show Go.ConcN.Mode _ _ pos'.tag _ _
      rw [htg]
      rw [hq] at hmm
      exact hmm
     ·refine hsh.answer h.stabA hlow h.held.apart hi2 hi hk q1 (fun b hb=>h.held.sub i b (q1 b hb)) q2 q5 hA (fun q=>?_) ?_ (fun x=>?_) hpl hsnd (fun r hr=>absurd hr (hse r)) hwt (fun x hx=>by cases hx) (fun x hx=>by cases hx) (zao w)
       (fun b k1 k2=>zag w (by cases a <;> first|exact k1|exact k2)) ?_ ?_
      ·unfold zaz.told;rw [hbG,hbB,hgot];simp [List.countP_cons]
      ·unfold zaz.told;rw [hbG,hbB,hgot];simp
      ·unfold zaz.told;rw [hbG,hbB,hgot];simp
      ·cases a with
       | good=>exact ⟨_,_,za7 w hchf.1⟩
       | bad=>rw [zag w (c:=E.ch .bad) (b:=E.cG) hsh.neGB];have:=hsh.chG;rw [hbG] at this;exact this
      ·cases a with
       | good out k=>rw [zag w (c:=E.ch (.good out k)) (b:=E.cB) (Ne.symm hsh.neGB)];have:=hsh.chB;rw [hbB] at this;exact this
       | bad=>exact ⟨_,_,za7 w hchf.1⟩
 ·
  have hpart:partners (gs.setIfInBounds i ph) (E.ch a) false=[]:=h.noRecv hAn i _ (fun j _ hj0 hj hkj=>by
   have hk7:E.g0≤j:=by
    apply Classical.byContradiction
    intro hlt
    have:=h.old j hj0 (by omega)
    rw [hkj] at this;cases this
   have:=(hsh.freeP j hk7 hj).2
   cases a with
   | good=>exact this.1
   | bad=>exact this.2) (fun _ hq=>absurd hq hsel)
  obtain ⟨bX,s,rr,hch,hbX⟩:∃ bX s rr,w.heap[E.ch a]?=some (.chan E.n (vals bX) false s rr false)∧bX.length≤G.told.length∧bX=a.pick G.bG G.bB:=by
   cases a with
   | good=>obtain ⟨s,rr,hc⟩:=hsh.chG;exact ⟨G.bG,s,rr,hc,by unfold zaz.told;simp only [List.length_append];omega,rfl⟩
   | bad=>obtain ⟨s,rr,hc⟩:=hsh.chB;exact ⟨G.bB,s,rr,hc,by unfold zaz.told;simp only [List.length_append];omega,rfl⟩
  have hr:=crowd_send_room (P:=E.P) (sl:=sl) hg hstep hch (by simp only [vals,List.size_toArray,List.length_map];omega) hpart
  rw [hfin,zuq] at hr
  have hoth:∀ j,j<gs.size→Oth E.ty E.Wg (G.M j) w (w.setChan (E.ch a) E.n (vals (bX++[(p,a)])) false (s+1) rr false):=fun j _=>zek (hchf.2.2.1 j) hchf.2.1
  obtain ⟨bG',bB',hbe,hch1,hch2,hmem⟩:∃ bG' bB',((∀ q,(bG'++bB'++G.got).countP (fun x=>x.1 == q)=G.told.countP (fun x=>x.1 == q)+if p == q then 1 else 0)∧(bG'++bB'++G.got).length=G.told.length+1∧(∀ x∈bG',x.2.idx=0)∧∀ x∈bB',x.2.idx=1) ∧
    (∃ s2 r2,(w.setChan (E.ch a) E.n (vals (bX++[(p,a)])) false (s+1) rr false).heap[E.cG]?=some (.chan E.n (vals bG') false s2 r2 false))∧(∃ s2 r2,(w.setChan (E.ch a) E.n (vals (bX++[(p,a)])) false (s+1) rr false).heap[E.cB]?=some (.chan E.n (vals bB') false s2 r2 false)) ∧
    ∀ x,x∈bG'++bB'++G.got↔x∈G.told∨x=(p,a):=by
   obtain ⟨_,rfl⟩:=hbX
   cases a with
   | good out k =>
     refine ⟨G.bG++[(p,.good out k)],G.bB,⟨fun q=>?_,?_,?_,hsh.tyB⟩,⟨_,_,za7 w hchf.1⟩,?_,fun x=>?_⟩
     ·unfold zaz.told;simp only [List.countP_append,List.countP_cons,List.countP_nil];omega
     ·unfold zaz.told;simp;omega
     ·intro x hx
      rcases List.mem_append.1 hx with hx|hx
      ·exact hsh.tyG x hx
      ·simp at hx;subst hx;rfl
     ·rw [zag w (c:=E.ch (.good out k)) (b:=E.cB) (Ne.symm hsh.neGB)];exact hsh.chB
     ·unfold zaz.told;simp only [List.mem_append,List.mem_cons,List.not_mem_nil,or_false]
      exact ⟨fun hh=>hh.elim (fun h1=>h1.elim (fun h2=>h2.elim (fun a=>.inl (.inl (.inl a))) .inr) (fun a=>.inl (.inl (.inr a)))) (fun a=>.inl (.inr a)),fun hh=>hh.elim (fun h1=>h1.elim (fun h2=>h2.elim (fun a=>.inl (.inl (.inl a))) (fun a=>.inl (.inr a))) .inr) (fun a=>.inl (.inl (.inr a)))⟩
   | bad =>
     refine ⟨G.bG,G.bB++[(p,.bad)],⟨fun q=>?_,?_,hsh.tyG,?_⟩,?_,⟨_,_,za7 w hchf.1⟩,fun x=>?_⟩
     ·unfold zaz.told;simp only [List.countP_append,List.countP_cons,List.countP_nil];omega
     ·unfold zaz.told;simp;omega
     ·intro x hx
      rcases List.mem_append.1 hx with hx|hx
      ·exact hsh.tyB x hx
      ·simp at hx;subst hx;rfl
     ·rw [zag w (c:=E.ch .bad) (b:=E.cG) hsh.neGB];exact hsh.chG
     ·unfold zaz.told;simp only [List.mem_append,List.mem_cons,List.not_mem_nil,or_false]
      exact ⟨fun hh=>hh.elim (fun h1=>h1.elim (fun a=>.inl (.inl (.inl a))) (fun h2=>h2.elim (fun a=>.inl (.inl (.inr a))) .inr)) (fun a=>.inl (.inr a)),fun hh=>hh.elim (fun h1=>h1.elim (fun h2=>h2.elim (fun a=>.inl (.inl a)) (fun a=>.inl (.inr (.inl a)))) .inr) (fun a=>.inl (.inr (.inr a)))⟩
  obtain ⟨a0,ha0,hm⟩:=h.main
  refine ⟨_,_,_,hr,?_,{ G with X:=upd G.X i x',M:=upd G.M i M',o:=upd G.o i o',B:=upd G.B p B,bG:=bG',bB:=bB' },_,_,sl,rfl,?_,rfl⟩
  ·rw [show (gs.setIfInBounds i (Go.Conc.served (core g) undef)).size=gs.size by simp]
   refine zdn hi0 (by omega) rfl (by show 7=_;rw [hstage]) ?_
   show G.pos.rank E _+x'.rank<_
   omega
  ·refine h.comm (G':={ G with X:=upd G.X i x',M:=upd G.M i M',o:=upd G.o i o',B:=upd G.B p B,bG:=bG',bB:=bB' }) (by simp) (zao w) (zag w (Ne.symm hchf.2.1)) hMs hos hsub
    (mute2 _ _ _) ⟨a0,?_,?_⟩ (others _ _ hoth ?_ ?_) (zur rfl) rfl dfX stX (fun st sm hmm=>hmm) ?_
   ·rw [Array.getElem?_setIfInBounds_ne (by omega)];exact ha0
   ·show MSit E End Anch G.pos G.got G.trM (upd G.M i M' 0) (upd G.o i o' 0) _ _
    rw [hM0.1,hM0.2];exact hm.rely (hoth 0 (by omega))
   ·rw [Array.getElem?_setIfInBounds_self_of_lt hi]
   ·intro j hj0 hne
    rw [Array.getElem?_setIfInBounds_ne (Ne.symm hne)]
   ·exact hsh.answer (trM':=G.trM) (pos':=G.pos) (got':=G.got) h.stabA hlow h.held.apart hi2 hi hk q1 (fun b hb=>h.held.sub i b (q1 b hb)) q2 q5 hA hbe.1 hbe.2.1 hmem hsh.place (fun _ _ _ _=>Iff.rfl) (fun r hr=>absurd ⟨r,hr⟩ hsel) hsh.want hbe.2.2.1 hbe.2.2.2 (zao w)
     (fun b k1 k2=>zag w (by cases a <;> first|exact k1|exact k2)) hch1 hch2
end
end
section
open Go.Conc Go.ConcN
open Go.ConcR (KK wgBlock WgAt stA smA rd wr Bk g_of_ofEvents ofEvent_loc_mark)
section
variable {E:zar} {End Anch:List (Nat×Ans)→Kp} {G:zaz} {gs:Array Goroutine} {w w':World} {t u:Trace} {J:Nat} {sl:Option (Nat×Nat)}
theorem PInv.step0 (h:PInv E End Anch G gs w t){a a':Goroutine}{es:Array Event}(ha:gs[0]?=some a)(hst:stepG E.P true a w=.go a' w' es){pos':Pos}{trM':Tr}{M' o':Nat→Nat→Prop}(hoth:∀ j,0<j→j<gs.size→Oth E.ty E.Wg (G.M j) w w')(hM:∀ j,j≠0→M' j=G.M j∧o' j=G.o j)(hMi:∀ j b,M' j b→b<w.heap.size→G.M j b)(hsz:w.heap.size≤w'.heap.size)(hk:∀ b,b<w.heap.size→b≠E.Wg→(∀ j,j<gs.size→¬ G.M j b)→w'.heap[b]?=w.heap[b]?)(held':Held E.Wg gs.size M' o' w'.heap.size)(ti':TI E.Shun E.Wg E.g0 gs.size M' o' w'.heap.size (t++MemOp.ofEvents 0 a.frame.fn a.frame.place es))(hm':MSit E End Anch pos' G.got trM' (M' 0) (o' 0) a' w')(hdeaf:deafBehind G.pos.deaf es=pos'.deaf)(hwg:∃ st sm,WgAt E.ty E.Wg w' st sm∧Go.ConcN.Mode (gs.size - 1) (zad G.X) pos'.tag st sm)(hpl:pos'.place E.N (gs.size - E.g0))(hsnd:∀ m k c l,pos'=.snd m k c l↔G.pos=.snd m k c l)(hsel:∀ r,pos'=.sel r→G.bG=[]∧G.bB=[])(hw:pos'.want E.n G.got)(hch:∀ j,E.g0≤j→j<gs.size→ChK (t++MemOp.ofEvents 0 a.frame.fn a.frame.place es) (G.X j).c):
  ∃ gs',runT E.P (crowd gs w sl) 0=(.next (crowd gs' w' sl),MemOp.ofEvents 0 a.frame.fn a.frame.place es)∧gs'.size=gs.size ∧
   PInv E End Anch { G with M:=M',o:=o',pos:=pos',trM:=trM' } gs' w' (t++MemOp.ofEvents 0 a.frame.fn a.frame.place es):=by
 have hsh:=h.sh
 have free_keep:∀ c,Free E G w.heap.size c→w'.heap[c]?=w.heap[c]?:=fun c hc=>hk c hc.1 hc.2.1 fun j _=>hc.2.2.1 j
 have h0:0<gs.size:=(Array.getElem?_eq_some_iff.1 ha).1
 refine ⟨(gs.map (woken E.P a a' w')).setIfInBounds 0 a',runT_crowd_go (P:=E.P) ha hst,by simp,?_⟩
 have hsize:((gs.map (woken E.P a a' w')).setIfInBounds 0 a').size=gs.size:=by simp
 refine ⟨h.pos0,h.few,⟨a',get_map_set_same _ _ _ h0,hm'⟩,fun j hj0 hj=>?_,by rw [hsize];exact held',by rw [hsize];exact ti',?_,fun j hj0 hj=>?_,fun j hj0 hj hs=>?_,by rw [hsize];exact hwg,fun j hj0 hj=>h.old j hj0 hj,?_,h.stabA,fun b hb=>held'.sub 0 b hb,fun j hj0 hj=>hch j hj0 (by rwa [hsize] at hj),fun b hb=>hb.elim (fun k=>(Nat.lt_or_ge b w.heap.size).elim (fun hl=>h.clr b (.inl (hMi 0 b k hl))) (fun hl=>h.clr b (.inr hl))) (fun k=>h.clr b (.inr (Nat.le_trans hsz k)))⟩
 ·rw [hsize] at hj
  obtain ⟨y,hy,hsy⟩:=h.wk j hj0 hj
  have hy':WSit E (G.X j) (G.M j) (G.o j) y w':=hsy.rely (hoth j hj0 hj)
  refine ⟨y,?_,?_⟩
  ·rw [get_map_set _ _ _ _ (by omega),hy,Option.map_some,hy'.woken]
   intro hk1 hc
   by_cases hj2:E.g0≤j
   ·obtain ⟨s,r,hch⟩:=hsh.chP j hj2 hj
    rw [hc] at hch
    exact ⟨_,_,s,r,(free_keep _ (hsh.freeP j hj2 hj).1).trans hch⟩
   ·have h1:=h.old j hj0 (by omega)
    rw [hk1] at h1
    cases h1
  ·show WSit E (G.X j) (M' j) (o' j) y w'
   rw [(hM j (by omega)).1,(hM j (by omega)).2]
   exact hy'
 ·show Deaf _ 0=pos'.deaf
  rw [Deaf_own,h.deaf0,hdeaf]
 ·rw [hsize] at hj
  rw [Deaf_other t (by omega) _ g_of_ofEvents]
  exact h.deafW j hj0 hj
 ·rw [hsize] at hj
  obtain ⟨r,hr⟩:=h.rel j hj0 hj hs
  have:=h.pos0
  exact ⟨r,hr.appOther g_of_ofEvents (by omega)⟩
 ·rw [hsize]
  exact hsh.move h.stabA (fun _=>⟨rfl,rfl,rfl,rfl,rfl⟩) hpl hsnd hsel hw rfl rfl rfl rfl hMi hsz hk
theorem PInv.book0 (h:PInv E End Anch G gs w t){a a':Goroutine}{es:Array Event}(ha:gs[0]?=some a)(hst:stepG E.P true a w=.go a' w' es){pos':Pos}{trM':Tr}(hA:Aside E.Wg w w')(hu:∀ op∈MemOp.ofEvents 0 a.frame.fn a.frame.place es,op.act.low w.heap.size∧op.act≠.mark (.release (stA E.Wg))∧∀ x,op.act.touch?=some x→ShN E.Wg x.loc∧x.kind≠.plain)(hm':MSit E End Anch pos' G.got trM' (G.M 0) (G.o 0) a' w')(hdeaf:deafBehind G.pos.deaf es=pos'.deaf)(hwg:∃ st sm,WgAt E.ty E.Wg w' st sm∧Go.ConcN.Mode (gs.size - 1) (zad G.X) pos'.tag st sm)(hpl:pos'.place E.N (gs.size - E.g0))(hsnd:∀ m k c l,pos'=.snd m k c l↔G.pos=.snd m k c l)(hsel:∀ r,pos'=.sel r→G.bG=[]∧G.bB=[])(hw:pos'.want E.n G.got)(hless:pos'.rank E (Vc (gs.size - 1) (zad G.X))<G.pos.rank E (Vc (gs.size - 1) (zad G.X))):
  ∃ m' ops μ',runT E.P (crowd gs w sl) 0=(.next m',ops)∧Less μ' (meas E G gs.size)∧μ'.1<(meas E G gs.size).1∧PI E End Anch μ' m' (t++ops):=by
 have hsz:w'.heap.size=w.heap.size:=hA.size
 have h0:0<gs.size:=(Array.getElem?_eq_some_iff.1 ha).1
 obtain ⟨st,sm,hW',hmo⟩:=hwg
 obtain ⟨gs',hr,hs,hP⟩:=h.step0 (sl:=sl) ha hst (pos':=pos') (trM':=trM') (M':=G.M) (o':=G.o)
  (fun j hj0 hj=>⟨fun b hb=>hA.block b (by rintro rfl;exact h.held.noWg j hb),by rw [hsz];exact Nat.le_refl _,hA.tape,hA.os,hA.output,fun _=>⟨_,_,hW'⟩⟩) (fun _ _=>⟨rfl,rfl⟩) (fun _ _ hb _=>hb) (by rw [hsz];exact Nat.le_refl _) (fun b _ hne _=>hA.block b hne) (by rw [hsz];exact h.held)
  (by rw [hsz];exact h.ti.book h.held h0 (fun op hop=>⟨g_of_ofEvents op hop,(hu op hop).1,(hu op hop).2.1,fun x hx=>⟨((hu op hop).2.2 x hx).1,((hu op hop).2.2 x hx).2,fun _=>rfl⟩⟩) (.inl rfl)) hm' hdeaf ⟨st,sm,hW',hmo⟩ hpl hsnd hsel hw (fun j hj0 hj=>(h.chT j hj0 hj).app fun op hop x hx _=>.inl (g_of_ofEvents op hop))
 have hl:(pos'.rank E (Vc (gs.size - 1) (zad G.X))+sumTo (gs.size - 1) (fun i=>(G.X (i+1)).rank))<G.pos.rank E (Vc (gs.size - 1) (zad G.X))+sumTo (gs.size - 1) (fun i=>(G.X (i+1)).rank):=by omega
 exact ⟨_,_,_,hr,by rw [hs];exact Prod.Lex.left _ _ hl,by rw [hs];exact hl,_,gs',w',sl,rfl,hP,rfl⟩
theorem zzn {M:Nat→Nat→Prop}{b:Nat}{j i:Nat}(hb:upd M i (more (M i) w w') j b)(hlt:b<w.heap.size): M j b:=by
 rw [zcu] at hb
 by_cases e:j=i
 ·rw [if_pos e] at hb;subst e;exact hb.resolve_right fun hn=>by have:=hn.1;omega
 ·rw [if_neg e] at hb;exact hb
theorem PInv.idle0 (h:PInv E End Anch G gs w t){a a':Goroutine}{es:Array Event}(ha:gs[0]?=some a)(hst:stepG E.P true a w=.go a' w' es)(ho:Own1 (G.o 0) w w'){ld:Bool}(hev:∀ e∈es,ld=true∧EvI (more (G.M 0) w w') (more (G.o 0) w w') e){tr':Tr}(hsub:Sub tr' G.trM)(hm':MSit E End Anch G.pos G.got tr' (more (G.M 0) w w') (more (G.o 0) w w') a' w')(hnb:G.pos≠.blk):
  ∃ m' ops μ',runT E.P (crowd gs w sl) 0=(.next m',ops)∧Less μ' (meas E G gs.size)∧PI E End Anch μ' m' (t++ops):=by
 have h0:0<gs.size:=(Array.getElem?_eq_some_iff.1 ha).1
 obtain ⟨st,sm,hW,hmo⟩:=h.wg
 have hWo:¬ G.o 0 E.Wg:=fun hh=>h.held.noWg 0 (h.held.sub 0 _ hh)
 obtain ⟨gs',hr,hs,hP⟩:=h.step0 (sl:=sl) ha hst (pos':=G.pos) (trM':=tr') (M':=upd G.M 0 (more (G.M 0) w w')) (o':=upd G.o 0 (more (G.o 0) w w')) (fun j hj0 hj=>zv6 h.held h0 hj (by omega) ho)
  (fun j hne=>⟨upd_ne _ _ hne,upd_ne _ _ hne⟩) (fun j b hb hlt=>zzn hb hlt) ho.size (fun b hb hne hM=>ho.stay b hb fun hh=>hM 0 h0 (h.held.sub 0 b hh)) (h.held.grow h0 ho.size)
  (h.ti.own h.held h0 ho.size (.inl rfl) fun e he=>(hev e he).2) (by rw [upd_same,upd_same];exact hm') (deafBehind_idle (fun e he=>zxj (hev e he).2) _) ⟨st,sm,hW.of_block (ho.stay _ h.held.wg hWo),hmo⟩ h.sh.place (fun _ _ _ _=>Iff.rfl) h.sh.sel h.sh.want (fun j hj0 hj=>(h.chT j hj0 hj).app fun op hop x hx _=>.inl (g_of_ofEvents op hop))
 refine ⟨_,_,_,hr,?_,_,gs',w',sl,rfl,hP,rfl⟩
 rw [hs]
 exact Prod.Lex.right _ (Prod.Lex.right _ (Prod.Lex.left _ _ hsub))
theorem z2q {a b:Meas}(h:Less a b): a.1≤b.1:=by
 cases h with
 | left _ _ h=>exact Nat.le_of_lt h
 | right _ h=>exact Nat.le_refl _
theorem zd3 {a b:Meas}(h:a.1<b.1): Less a b:=by
 obtain ⟨a1,a2⟩:=a
 obtain ⟨b1,b2⟩:=b
 exact Prod.Lex.left _ _ h
theorem zrz {Wg sz:Nat}(hW:Wg<sz){m:Mark}(hm:m=.disable∨m=.enable∨m=.acquire (stA Wg)∨m=.read (smA Wg)∨m=.write (smA Wg)){fn:FuncId}{pos:String}:
  ∀ op∈MemOp.ofEvents 0 fn pos #[Go.ConcR.mk m],op.act.low sz∧op.act≠.mark (.release (stA Wg))∧∀ x,op.act.touch?=some x→ShN Wg x.loc∧x.kind≠.plain:=by
 intro op hop
 obtain ⟨e,he,hact⟩:=zel hop
 simp at he
 subst he
 rw [hact]
 rcases hm with rfl|rfl|rfl|rfl|rfl
 ·exact ⟨trivial,by simp [Go.ConcR.mk,MemAct.ofEvent],fun x hx=>by simp [Go.ConcR.mk,MemAct.ofEvent,MemAct.touch?] at hx⟩
 ·exact ⟨trivial,by simp [Go.ConcR.mk,MemAct.ofEvent],fun x hx=>by simp [Go.ConcR.mk,MemAct.ofEvent,MemAct.touch?] at hx⟩
 ·exact ⟨hW,by simp [Go.ConcR.mk,MemAct.ofEvent],fun x hx=>by simp [Go.ConcR.mk,MemAct.ofEvent,MemAct.touch?] at hx⟩
 ·refine ⟨hW,by simp [Go.ConcR.mk,MemAct.ofEvent],fun x hx=>?_⟩
  simp only [Go.ConcR.mk,MemAct.ofEvent,MemAct.touch?,Option.some.injEq] at hx
  subst hx
  exact ⟨⟨_,rfl,rfl⟩,by simp⟩
 ·refine ⟨hW,by simp [Go.ConcR.mk,MemAct.ofEvent],fun x hx=>?_⟩
  simp only [Go.ConcR.mk,MemAct.ofEvent,MemAct.touch?,Option.some.injEq] at hx
  subst hx
  exact ⟨⟨_,rfl,rfl⟩,by simp⟩
theorem zcv {Wg sz:Nat}(hW:Wg<sz){fn:FuncId}{pos:String}{es:Array Event}(h:∀ e∈es,Bk Wg e):
  ∀ op∈MemOp.ofEvents 0 fn pos es,op.act.low sz∧op.act≠.mark (.release (stA Wg))∧∀ x,op.act.touch?=some x→ShN Wg x.loc∧x.kind≠.plain:=by
 intro op hop
 rcases zje (g0:=0) (Nat.le_refl 0) hW h op hop with ⟨h1,h2,h3⟩|⟨_,h2,h3,h4⟩
 ·exact ⟨h2,h3,fun x hx=>by rw [h1] at hx;cases hx⟩
 ·exact ⟨h2,h3,fun x hx=>⟨(h4 x hx).1,(h4 x hx).2.1⟩⟩
end
end
section
open Go.Conc Go.ConcN
open Go.ConcR (KK wgBlock WgAt stA smA rd wr Bk g_of_ofEvents ofEvent_loc_mark)
section
variable {E:zar} {End Anch:List (Nat×Ans)→Kp} {G:zaz} {gs:Array Goroutine} {w w':World} {t u:Trace} {J:Nat} {sl:Option (Nat×Nat)}
theorem zoe {j:Nat}{D:Nat→WD}{tag tag':CTag}{st sm:Int}(h:isOpen tag)(h':isOpen tag')(hp:pend tag'=pend tag)(hw:∀ vs,tag'≠.w2 vs)(hm:Go.ConcN.Mode j D tag st sm): Go.ConcN.Mode j D tag' st sm:=by
 cases hm with
 | opn h1 h2 h3=>rw [← hp];exact .opn h' h2 (fun vs e=>absurd e (hw vs))
 | reg h1 _ _=>cases tag <;> first|exact h.elim|exact h1.elim
 | last L h1 _ _ _=>cases tag <;> first|exact h.elim|exact h1.elim
 | sema _=>exact h.elim
 | fin h1 _=>cases tag <;> first|exact h.elim|exact h1.elim
theorem zhg {j:Nat}{D:Nat→WD}{tag:CTag}{st sm:Int}(h:isOpen tag)(hm:Go.ConcN.Mode j D tag st sm): st=((Vc j D+pend tag:Nat):Int) * KK∧sm=0∧OpenSt j D∧(∀ vs,tag=.w2 vs→Vc j D≤vs∧1≤vs):=by
 cases hm with
 | opn h1 h2 h3=>exact ⟨rfl,rfl,h2,h3⟩
 | reg h1 _ _=>cases tag <;> first|exact h.elim|exact h1.elim
 | last L h1 _ _ _=>cases tag <;> first|exact h.elim|exact h1.elim
 | sema _=>exact h.elim
 | fin h1 _=>cases tag <;> first|exact h.elim|exact h1.elim
theorem zyd {j:Nat}{D:Nat→WD}(h:Vc j D=0)(ho:OpenSt j D): AllQuit j D:=fun i hi=>by
 have h1:=le_sumTo (f:=fun x=>cnt (D x)) hi
 have h2:=ho i hi
 simp only [Vc] at h
 have h3:cnt (D i)=0:=by omega
 simp only [cnt] at h3
 split at h3 <;> omega
set_option maxHeartbeats 3200000 in
theorem PInv.mainGo (hAn:∀ got M o g w,Anch got M o g w→g.status=.running)(hAnW:∀ got M o g w,Anch got M o g w→RunM E (MW1 E (End got) (Anch got)) M o g w)(h:PInv E End Anch G gs w t){a:Goroutine}(ha:gs[0]?=some a)(hrun:a.status=.running):
  (∃ m' ops μ',runT E.P (crowd gs w sl) 0=(.next m',ops)∧Less μ' (meas E G gs.size)∧PI E End Anch μ' m' (t++ops)) ∨
  (∃ m k,G.pos=.go m k∧G.got=[]∧MGo E (E.pl k) (fun c=>zdi E c (zca E (MAft E Anch) m (k+1)) (E.pl k)) (G.M 0) (G.o 0) a w) ∨
  (∃ m k c l,G.pos=.snd m k c l∧G.got=[]∧zdi E c (zca E (MAft E Anch) m (k+1)) l (G.M 0) (G.o 0) a w) ∨
  (∃ r,G.pos=.gat (r+1)∧∀ w₁,Oth E.ty E.Wg (G.M 0) w w₁→zc2 E (MFin E Anch) (r+1) G.got (G.M 0) (G.o 0) a w₁) ∨
  (G.pos=.acq∧MMk E (.acquire (stA E.Wg)) (End G.got) (G.M 0) (G.o 0) a w):=by
 obtain ⟨a0,ha0,hm⟩:=h.main
 obtain rfl:a=a0:=by rw [ha] at ha0;exact Option.some.inj ha0
 have h0:0<gs.size:=(Array.getElem?_eq_some_iff.1 ha).1
 obtain ⟨st,sm,hW,hmo⟩:=h.wg
 have hWl:=h.held.wg
 have hVj:=h.vc_le
 have hfew:=h.few
 have hplace:=h.sh.place
 have hwant:=h.sh.want
 have hpos0:=h.pos0
 have hgeJ:=h.sh.geJ
 have book:=fun {a':Goroutine} {w':World} {es:Array Event} (hst:stepG E.P true a w=.go a' w' es) {pos':Pos} {trM':Tr}=>h.book0 (sl:=sl) ha hst (pos':=pos') (trM':=trM')
 have idle:=fun {a':Goroutine} {w':World} {es:Array Event} (hst:stepG E.P true a w=.go a' w' es)=>h.idle0 (sl:=sl) ha hst
 generalize hp:G.pos=p at hm hmo hplace hwant book idle
 generalize hg:G.got=got at hm hwant book idle
 generalize htr:G.trM=tr0 at hm idle
 have low:∀ {β:Type} {f:Meas→β} ,True:=fun {_ _}=>trivial
 have out:∀ {X:Prop},(∃ m' ops μ',runT E.P (crowd gs w sl) 0=(.next m',ops)∧Less μ' (meas E G gs.size)∧μ'.1<(meas E G gs.size).1∧PI E End Anch μ' m' (t++ops))→(∃ m' ops μ',runT E.P (crowd gs w sl) 0=(.next m',ops)∧Less μ' (meas E G gs.size)∧PI E End Anch μ' m' (t++ops))∨X:=fun ⟨m',ops,μ',h1,h2,_,h4⟩=>.inl ⟨m',ops,μ',h1,h2,h4⟩
 have mark:∀ {m:Mark} {N:Kp} {pos':Pos},MMk E m N (G.M 0) (G.o 0) a w→(m=.disable∨m=.enable∨m=.acquire (stA E.Wg)∨m=.read (smA E.Wg)∨m=.write (smA E.Wg))→(∀ a' tr',RunT E.P true E.ty E.Wg true N tr' (G.M 0) (G.o 0) a' w→MSit E End Anch pos' got tr' (G.M 0) (G.o 0) a' w) →
   deafBehind p.deaf #[Go.ConcR.mk m]=pos'.deaf→(∃ st sm,WgAt E.ty E.Wg w st sm∧Go.ConcN.Mode (gs.size - 1) (zad G.X) pos'.tag st sm)→pos'.place E.N (gs.size - E.g0)→(∀ m k c l,pos'=.snd m k c l↔p=.snd m k c l)→(∀ r,pos'≠.sel r)→pos'.want E.n got →
   pos'.rank E (Vc (gs.size - 1) (zad G.X))<p.rank E (Vc (gs.size - 1) (zad G.X)) →
   ∃ m' ops μ',runT E.P (crowd gs w sl) 0=(.next m',ops)∧Less μ' (meas E G gs.size)∧μ'.1<(meas E G gs.size).1∧PI E End Anch μ' m' (t++ops):=by
  intro m N pos' ⟨_,a',hst,tr',hn⟩ hmk hms hd hwg hpl hsnd hsel hw hr
  exact book hst (pos':=pos') (trM':=tr') (.refl E.Wg w) (zrz hWl hmk) (hms a' tr' hn) hd hwg hpl hsnd (fun r e=>absurd e (hsel r)) hw hr
 cases hm with
 | kd hr =>
   rename_i m k
   rcases hr.split with hS|⟨f,rfl,_,a',w',es,hst,ho,hev,hn⟩
   ·exact out (mark (pos':=.a1 m k) hS (.inl rfl) (fun a' tr' hn=>.a1 hn) rfl ⟨st,sm,hW,hmo⟩ hplace (fun _ _ _ _=>by simp) (by simp) hwant (by simp only [Pos.rank];omega))
   ·exact .inl (idle hst ho hev ⟨f,w,rfl,rfl⟩ (.kd hn) (by simp))
 | a1 hr =>
   rename_i m k
   rcases hr.split with ⟨_,hS⟩|⟨f,rfl,_,a',w',es,hst,ho,hev,hn⟩
   ·obtain ⟨rfl,rfl,hop,_⟩:=zhg (show isOpen (Pos.tag (.a1 m k)) from trivial) hmo
    have hpd:pend (Pos.tag (.a1 m k))=0:=rfl
    rw [hpd,Nat.add_zero] at hW
    obtain ⟨a',hst,hn⟩:=hS (Vc (gs.size - 1) (zad G.X)) (by omega) hW
    have hWn:=hW.setSt (((Vc (gs.size - 1) (zad G.X):Nat)+1:Int) * KK)
    have hmode:∀ tag',isOpen tag'→pend tag'=1→(∀ vs,tag'≠.w2 vs)→Go.ConcN.Mode (gs.size - 1) (zad G.X) tag' (((Vc (gs.size - 1) (zad G.X):Nat)+1:Int) * KK) 0:=fun tag' h1 h2 h3=>by
     have e:(((Vc (gs.size - 1) (zad G.X):Nat)+1:Int) * KK)=((Vc (gs.size - 1) (zad G.X)+pend tag':Nat):Int) * KK:=by rw [h2];simp
     rw [e]
     exact .opn h1 hop (fun vs e=>absurd e (h3 vs))
    unfold said at hn
    dsimp only at hn
    by_cases hv:Vc (gs.size - 1) (zad G.X)=0
    ·rw [if_pos hv] at hn
     obtain ⟨tr',hn⟩:=hn
     exact out (book hst (pos':=.sa m k) (trM':=tr') (aside_setCell w (stA E.Wg) _) (zcv hWl zgk) (.sa hn) rfl ⟨_,_,hWn,hmode _ trivial rfl (by simp [Pos.tag])⟩ hplace (fun _ _ _ _=>by simp) (by simp) hwant (by simp only [Pos.rank];omega))
    ·rw [if_neg hv] at hn
     obtain ⟨tr',hn⟩:=hn
     exact out (book hst (pos':=.ke m k) (trM':=tr') (aside_setCell w (stA E.Wg) _) (zcv hWl zgk) (.ke hn) rfl ⟨_,_,hWn,hmode _ trivial rfl (by simp [Pos.tag])⟩ hplace (fun _ _ _ _=>by simp) (by simp) hwant (by simp only [Pos.rank];omega))
   ·exact .inl (idle hst ho hev ⟨f,w,rfl,rfl⟩ (.a1 hn) (by simp))
 | sa hr =>
   rename_i m k
   rcases hr.split with hS|⟨f,rfl,_,a',w',es,hst,ho,hev,hn⟩
   ·exact out (mark (pos':=.ke m k) hS (.inr (.inr (.inr (.inl rfl)))) (fun a' tr' hn=>.ke hn) rfl ⟨st,sm,hW,hmo⟩ hplace (fun _ _ _ _=>by simp) (by simp) hwant (by simp only [Pos.rank];omega))
   ·exact .inl (idle hst ho hev ⟨f,w,rfl,rfl⟩ (.sa hn) (by simp))
 | ke hr =>
   rename_i m k
   rcases hr.split with hS|⟨f,rfl,_,a',w',es,hst,ho,hev,hn⟩
   ·exact out (mark (pos':=.go m k) hS (.inr (.inl rfl)) (fun a' tr' hn=>.go hn) rfl ⟨st,sm,hW,hmo⟩ hplace (fun _ _ _ _=>by simp) (by simp) hwant (by simp only [Pos.rank];omega))
   ·exact .inl (idle hst ho hev ⟨f,w,rfl,rfl⟩ (.ke hn) (by simp))
 | go hr =>
   rename_i m k
   rcases hr.split with hS|⟨f,rfl,_,a',w',es,hst,ho,hev,hn⟩
   ·exact .inr (.inl ⟨m,k,rfl,rfl,hS⟩)
   ·exact .inl (idle hst ho hev ⟨f,w,rfl,rfl⟩ (.go hn) (by simp))
 | snd hr =>
   rename_i m k c l
   rcases hr.split with hS|⟨f,rfl,_,a',w',es,hst,ho,hev,hn⟩
   ·exact .inr (.inr (.inl ⟨m,k,c,l,rfl,rfl,hS⟩))
   ·exact .inl (idle hst ho hev ⟨f,w,rfl,rfl⟩ (.snd hn) (by simp))
 | gat hr =>
   rename_i r
   rcases hr.splitA with hS|⟨f,rfl,_,a',w',es,hst,ho,hev,hn⟩
   ·exact .inr (.inr (.inr (.inl ⟨r,rfl,hS⟩)))
   ·exact .inl (idle hst ho hev ⟨f,w,rfl,rfl⟩ (.gat hn) (by simp))
 | sel hc hS=>cases hrun
 | wkd hr =>
   rcases hr.split with hS|⟨f,rfl,_,a',w',es,hst,ho,hev,hn⟩
   ·exact out (mark (pos':=.anch) hS (.inl rfl) (fun a' tr' hn=>.anch hn) rfl ⟨st,sm,hW,zoe (show isOpen (Pos.tag .wkd) from trivial) (show isOpen (Pos.tag .anch) from trivial) rfl (by simp [Pos.tag]) hmo⟩ hplace (fun _ _ _ _=>by simp) (by simp) hwant
     (by simp only [Pos.rank];simp only [Pos.place] at hplace;omega))
   ·exact .inl (idle hst ho hev ⟨f,w,rfl,rfl⟩ (.wkd hn) (by simp))
 | anch hr =>
   have key:∀ tr',RunT E.P true E.ty E.Wg true (MW1 E (End got) (Anch got)) tr' (G.M 0) (G.o 0) a w→(∃ m' ops μ',runT E.P (crowd gs w sl) 0=(.next m',ops)∧Less μ' (meas E G gs.size)∧PI E End Anch μ' m' (t++ops)):=by
    intro tr' hr'
    let G1:zaz:={ G with pos:=.w1,trM:=tr' }
    have hP1:PInv E End Anch G1 gs w t:=by
     refine ⟨h.pos0,h.few,⟨a,ha,by show MSit E End Anch .w1 G.got tr' _ _ _ _;rw [hg];exact .w1 hr'⟩,h.wk,h.held,h.ti,by rw [h.deaf0,hp];rfl,h.deafW,h.rel,⟨st,sm,hW,zoe (show isOpen (Pos.tag .anch) from trivial) (show isOpen (Pos.tag .w1) from trivial) rfl (by simp [Pos.tag]) hmo⟩,h.old,?_,h.stabA,h.ltG,h.chT,h.clr⟩
     exact h.sh.move h.stabA (fun _=>⟨rfl,rfl,rfl,rfl,rfl⟩) hplace (fun m k c l=>by rw [hp];simp [G1]) (fun r e=>by cases e) (by show Pos.want E.n G.got .w1;rw [hg];exact hwant) rfl rfl rfl rfl (fun _ _ hb _=>hb) (Nat.le_refl _) (fun _ _ _ _=>rfl)
    have hlt:(meas E G1 gs.size).1<(meas E G gs.size).1:=by
     show Pos.rank E (Vc (gs.size - 1) (zad G.X)) .w1+sumTo (gs.size - 1) (fun i=>(G.X (i+1)).rank)<G.pos.rank E (Vc (gs.size - 1) (zad G.X))+sumTo (gs.size - 1) (fun i=>(G.X (i+1)).rank)
     rw [hp]
     simp only [Pos.rank]
     omega
    have fin1:∀ {X:Prop},(∃ m' ops μ',runT E.P (crowd gs w sl) 0=(.next m',ops)∧Less μ' (meas E G1 gs.size)∧PI E End Anch μ' m' (t++ops))→(∃ m' ops μ',runT E.P (crowd gs w sl) 0=(.next m',ops)∧Less μ' (meas E G gs.size)∧PI E End Anch μ' m' (t++ops)):=fun ⟨m',ops,μ',h1,h2,h3⟩ =>
     ⟨m',ops,μ',h1,zd3 (Nat.lt_of_le_of_lt (z2q h2) hlt),h3⟩
    refine fin1 (X:=True) ?_
    rcases hr'.split with ⟨_,hS⟩|⟨f,rfl,_,a',w',es,hst,ho,hev,hn⟩
    ·obtain ⟨rfl,rfl,hop,_⟩:=zhg (show isOpen (Pos.tag .anch) from trivial) hmo
     have hpd:pend (Pos.tag .anch)=0:=rfl
     rw [hpd,Nat.add_zero] at hW
     obtain ⟨a',hst,hz,hnz⟩:=hS (Vc (gs.size - 1) (zad G.X)) (by omega) hW
     have hb:∀ e∈#[rd (stA E.Wg)],Bk E.Wg e:=by intro e he;simp at he;subst he;exact bk_cell _ _ rfl
     by_cases hv:Vc (gs.size - 1) (zad G.X)=0
     ·obtain ⟨tr2,hn⟩:=hz hv
      have hW0:WgAt E.ty E.Wg w 0 0:=by rw [hv] at hW;simpa using hW
      obtain ⟨m',ops,μ',k1,k2,_,k4⟩:=hP1.book0 (sl:=sl) ha hst (pos':=.wke) (trM':=tr2) (.refl E.Wg w) (zcv hWl hb) (by show MSit E End Anch .wke G.got tr2 _ _ _ _;rw [hg];exact .wke hn) rfl ⟨0,0,hW0,.fin trivial (zyd hv hop)⟩ hplace (fun _ _ _ _=>by simp [G1]) (by simp) (by show Pos.want E.n G.got .wke;rw [hg];exact hwant)
       (by simp only [Pos.rank,G1];omega)
      exact ⟨m',ops,μ',k1,k2,k4⟩
     ·obtain ⟨tr2,hn⟩:=hnz hv
      have hmode:Go.ConcN.Mode (gs.size - 1) (zad G.X) (.w2 (Vc (gs.size - 1) (zad G.X))) ((Vc (gs.size - 1) (zad G.X):Nat) * KK) 0:=by
       have:=Go.ConcN.Mode.opn (j:=gs.size - 1) (D:=zad G.X) (tag:=.w2 (Vc (gs.size - 1) (zad G.X))) trivial hop (fun vs e=>by cases e;exact ⟨Nat.le_refl _,by omega⟩)
       simpa [pend] using this
      obtain ⟨m',ops,μ',k1,k2,_,k4⟩:=hP1.book0 (sl:=sl) ha hst (pos':=.w2 (Vc (gs.size - 1) (zad G.X))) (trM':=tr2) (.refl E.Wg w) (zcv hWl hb) (by show MSit E End Anch _ G.got tr2 _ _ _ _;rw [hg];exact .w2 hn) rfl ⟨_,_,hW,hmode⟩ hplace (fun _ _ _ _=>by simp [G1]) (by simp) (by show Pos.want E.n G.got (.w2 _);rw [hg];exact hwant)
       (by simp only [Pos.rank,G1];omega)
      exact ⟨m',ops,μ',k1,k2,k4⟩
    ·exact hP1.idle0 (sl:=sl) ha hst ho hev ⟨f,w,rfl,rfl⟩ (by show MSit E End Anch .w1 G.got _ _ _ _ _;rw [hg];exact .w1 hn) (by simp [G1])
   rcases hr.split with hS|⟨f,rfl,_,a',w',es,hst,ho,hev,hn⟩
   ·obtain ⟨tr',hr'⟩:=hAnW _ _ _ _ _ hS
    exact .inl (key tr' hr')
   ·exact .inl (idle hst ho hev ⟨f,w,rfl,rfl⟩ (.anch hn) (by simp))
 | w1 hr =>
   rcases hr.split with ⟨_,hS⟩|⟨f,rfl,_,a',w',es,hst,ho,hev,hn⟩
   ·obtain ⟨rfl,rfl,hop,_⟩:=zhg (show isOpen (Pos.tag .w1) from trivial) hmo
    have hpd:pend (Pos.tag .w1)=0:=rfl
    rw [hpd,Nat.add_zero] at hW
    obtain ⟨a',hst,hz,hnz⟩:=hS (Vc (gs.size - 1) (zad G.X)) (by omega) hW
    have hb:∀ e∈#[rd (stA E.Wg)],Bk E.Wg e:=by intro e he;simp at he;subst he;exact bk_cell _ _ rfl
    by_cases hv:Vc (gs.size - 1) (zad G.X)=0
    ·obtain ⟨tr2,hn⟩:=hz hv
     have hW0:WgAt E.ty E.Wg w 0 0:=by rw [hv] at hW;simpa using hW
     exact out (book hst (pos':=.wke) (trM':=tr2) (.refl E.Wg w) (zcv hWl hb) (.wke hn) rfl ⟨0,0,hW0,.fin trivial (zyd hv hop)⟩ hplace (fun _ _ _ _=>by simp) (by simp) hwant (by simp only [Pos.rank];omega))
    ·obtain ⟨tr2,hn⟩:=hnz hv
     have hmode:Go.ConcN.Mode (gs.size - 1) (zad G.X) (.w2 (Vc (gs.size - 1) (zad G.X))) ((Vc (gs.size - 1) (zad G.X):Nat) * KK) 0:=by
      have:=Go.ConcN.Mode.opn (j:=gs.size - 1) (D:=zad G.X) (tag:=.w2 (Vc (gs.size - 1) (zad G.X))) trivial hop (fun vs e=>by cases e;exact ⟨Nat.le_refl _,by omega⟩)
      simpa [pend] using this
     exact out (book hst (pos':=.w2 (Vc (gs.size - 1) (zad G.X))) (trM':=tr2) (.refl E.Wg w) (zcv hWl hb) (.w2 hn) rfl ⟨_,_,hW,hmode⟩ hplace (fun _ _ _ _=>by simp) (by simp) hwant (by simp only [Pos.rank];omega))
   ·exact .inl (idle hst ho hev ⟨f,w,rfl,rfl⟩ (.w1 hn) (by simp))
 | w2 hr =>
   rename_i vs
   rcases hr.split with ⟨_,hS⟩|⟨f,rfl,_,a',w',es,hst,ho,hev,hn⟩
   ·obtain ⟨rfl,rfl,hop,hvs⟩:=zhg (show isOpen (Pos.tag (.w2 vs)) from trivial) hmo
    have hpd:pend (Pos.tag (.w2 vs))=0:=rfl
    rw [hpd,Nat.add_zero] at hW
    obtain ⟨v1,v2⟩:=hvs vs rfl
    obtain ⟨hhit,hmiss⟩:=hS (Vc (gs.size - 1) (zad G.X)) (by omega) hW
    by_cases hv:Vc (gs.size - 1) (zad G.X)=vs
    ·obtain ⟨a',hst,tr2,hn⟩:=hhit hv
     exact out (book hst (pos':=.wsa) (trM':=tr2) (aside_setCell w (stA E.Wg) _) (zcv hWl zgk) (.wsa hn) rfl ⟨_,_,hW.setSt _,.reg trivial hop (by omega)⟩ hplace (fun _ _ _ _=>by simp) (by simp) hwant (by simp only [Pos.rank];omega))
    ·obtain ⟨a',hst,tr2,hn⟩:=hmiss hv
     have hb:∀ e∈#[rd (stA E.Wg)],Bk E.Wg e:=by intro e he;simp at he;subst he;exact bk_cell _ _ rfl
     have hmode:Go.ConcN.Mode (gs.size - 1) (zad G.X) .anch ((Vc (gs.size - 1) (zad G.X):Nat) * KK) 0:=by
      have:=Go.ConcN.Mode.opn (j:=gs.size - 1) (D:=zad G.X) (tag:=.anch) trivial hop (fun vs e=>by cases e)
      simpa [pend] using this
     exact out (book hst (pos':=.anch) (trM':=tr2) (.refl E.Wg w) (zcv hWl hb) (.anch hn) rfl ⟨_,_,hW,hmode⟩ hplace (fun _ _ _ _=>by simp) (by simp) hwant (by simp only [Pos.rank];omega))
   ·exact .inl (idle hst ho hev ⟨f,w,rfl,rfl⟩ (.w2 hn) (by simp))
 | wsa hr =>
   rcases hr.split with hS|⟨f,rfl,_,a',w',es,hst,ho,hev,hn⟩
   ·exact out (mark (pos':=.w3) hS (.inr (.inr (.inr (.inr rfl)))) (fun a' tr' hn=>.w3 hn) rfl ⟨st,sm,hW,hmo⟩ hplace (fun _ _ _ _=>by simp) (by simp) hwant (by simp only [Pos.rank];omega))
   ·exact .inl (idle hst ho hev ⟨f,w,rfl,rfl⟩ (.wsa hn) (by simp))
 | w3 hr =>
   rcases hr.splitA with hSA|⟨f,rfl,_,a',w',es,hst,ho,hev,hn⟩
   ·obtain ⟨_,hoff,hblk,hpass⟩:=hSA w (.refl _ w)
    generalize etg:Pos.tag .w3=tg at hmo
    have wait:Go.ConcN.Mode (gs.size - 1) (zad G.X) .blk st sm→sm=0→(∃ m' ops μ',runT E.P (crowd gs w sl) 0=(.next m',ops)∧Less μ' (meas E G gs.size)∧PI E End Anch μ' m' (t++ops)):=fun hmb hs0=>by
     subst hs0
     have hst:=hblk ⟨st,hW⟩
     obtain ⟨gs',hr',hs',hP⟩:=h.step0 (sl:=sl) ha hst (pos':=.blk) (trM':=G.trM) (M':=G.M) (o':=G.o) (fun j _ _=>.refl _ w) (fun _ _=>⟨rfl,rfl⟩) (fun _ _ hb _=>hb) (Nat.le_refl _) (fun _ _ _ _=>rfl) h.held
      (h.ti.mute fun op hop=>by simp [MemOp.ofEvents] at hop) (by rw [hg];exact .blk hSA) (by rw [hp];rfl) ⟨st,0,hW,hmb⟩ hplace (fun _ _ _ _=>by rw [hp];simp) (by simp) (by rw [hg];exact hwant) (fun j hj0 hj=>(h.chT j hj0 hj).app fun op hop x hx _=>.inl (g_of_ofEvents op hop))
     refine ⟨_,_,_,hr',?_,_,gs',w,sl,rfl,hP,rfl⟩
     rw [hs']
     unfold meas
     rw [hp]
     exact Prod.Lex.right _ (Prod.Lex.right _ (Prod.Lex.right _ (show (0:Nat)<1 by decide)))
    cases hmo with
    | opn h1 _ _=>rw [← etg] at h1;exact h1.elim
    | reg h1 h2 h3=>exact .inl (wait (.reg trivial h2 h3) rfl)
    | last L h1 h2 h3 h4=>exact .inl (wait (.last L trivial h2 h3 h4) rfl)
    | sema hq =>
      obtain ⟨a',hst,tr2,hn⟩:=hpass hW
      exact out (book hst (pos':=.w4) (trM':=tr2) (aside_setCell w (smA E.Wg) _) (zcv hWl bk_sem) (.w4 hn) (by simp [deafBehind,semEvents,Pos.deaf]) ⟨_,_,hW.setSm 0,.fin trivial hq⟩ hplace (fun _ _ _ _=>by simp) (by simp) hwant (by simp only [Pos.rank];omega))
    | fin h1 _=>rw [← etg] at h1;exact h1.elim
   ·exact .inl (idle hst ho hev ⟨f,w,rfl,rfl⟩ (.w3 hn) (by simp))
 | blk hS=>cases hrun
 | w4 hr =>
   rcases hr.split with ⟨_,hS⟩|⟨f,rfl,_,a',w',es,hst,ho,hev,hn⟩
   ·generalize etg:Pos.tag .w4=tg at hmo
    cases hmo with
    | opn h1 _ _=>rw [← etg] at h1;exact h1.elim
    | reg h1 h2 h3=>rw [← etg] at h1;exact h1.elim
    | last L h1 h2 h3 h4=>rw [← etg] at h1;exact h1.elim
    | sema hq=>cases etg
    | fin h1 hq =>
      obtain ⟨a',hst,tr2,hn⟩:=hS hW
      have hb:∀ e∈#[rd (stA E.Wg)],Bk E.Wg e:=by intro e he;simp at he;subst he;exact bk_cell _ _ rfl
      exact out (book hst (pos':=.wke) (trM':=tr2) (.refl E.Wg w) (zcv hWl hb) (.wke hn) rfl ⟨_,_,hW,.fin trivial hq⟩ hplace (fun _ _ _ _=>by simp) (by simp) hwant (by simp only [Pos.rank];omega))
   ·exact .inl (idle hst ho hev ⟨f,w,rfl,rfl⟩ (.w4 hn) (by simp))
 | wke hr =>
   rcases hr.split with hS|⟨f,rfl,_,a',w',es,hst,ho,hev,hn⟩
   ·refine out (mark (pos':=.acq) hS (.inr (.inl rfl)) (fun a' tr' hn=>.acq hn) rfl ⟨st,sm,hW,?_⟩ hplace (fun _ _ _ _=>by simp) (by simp) hwant (by simp only [Pos.rank];omega))
    generalize etg:Pos.tag .wke=tg at hmo
    cases hmo with
    | opn h1 _ _=>rw [← etg] at h1;exact h1.elim
    | reg h1 h2 h3=>rw [← etg] at h1;exact h1.elim
    | last L h1 h2 h3 h4=>rw [← etg] at h1;exact h1.elim
    | sema hq=>cases etg
    | fin h1 hq=>exact .fin trivial hq
   ·exact .inl (idle hst ho hev ⟨f,w,rfl,rfl⟩ (.wke hn) (by simp))
 | acq hr =>
   rcases hr.split with hS|⟨f,rfl,_,a',w',es,hst,ho,hev,hn⟩
   ·exact .inr (.inr (.inr (.inr ⟨rfl,hS⟩)))
   ·exact .inl (idle hst ho hev ⟨f,w,rfl,rfl⟩ (.acq hn) (by simp))
end
end
section
open Go.Conc Go.ConcN
open Go.ConcR (KK wgBlock WgAt stA smA rd wr Bk g_of_ofEvents ofEvent_loc_mark)
section
variable {E:zar} {End Anch:List (Nat×Ans)→Kp} {G:zaz} {gs:Array Goroutine} {w w':World} {t u:Trace} {J:Nat} {sl:Option (Nat×Nat)}
theorem WSit.nb' {x:Wk}{M o:Nat→Prop}{g:Goroutine}{w:World}(h:WSit E x M o g w)(hk:x.kind≠.park)(k:Nat): WSit E { x with nb:=k } M o g w:=by
 cases h with
 | rcv h=>exact .rcv h
 | again h=>exact .again h
 | park e h=>exact absurd rfl hk
 | wrk h=>exact .wrk h
 | r0 h=>exact .r0 h
 | k1 h=>exact .k1 h
 | d1 h=>exact .d1 h
 | d2 h=>exact .d2 h
 | d3 h=>exact .d3 h
 | d4 h=>exact .d4 h
 | quit h=>exact .quit h
theorem WSit.closed' {x:Wk}{M o:Nat→Prop}{g:Goroutine}{w:World}(h:WSit E x M o g w)(hk:x.kind≠.park): WSit E { x with closed:=true } M o g w:=by
 cases h with
 | rcv h=>exact .rcv h
 | again h=>exact .again h
 | park e h=>exact absurd rfl hk
 | wrk h=>exact .wrk h
 | r0 h=>exact .r0 h
 | k1 h=>exact .k1 h
 | d1 h=>exact .d1 h
 | d2 h=>exact .d2 h
 | d3 h=>exact .d3 h
 | d4 h=>exact .d4 h
 | quit h=>exact .quit h
theorem zkg {x:Wk}{M o:Nat→Prop}{g:Goroutine}{w:World}(h:WSit E x M o g w)(hk:x.kind=.park): x.deaf=0∧x.nb=0∧x.closed=false∧∃ g1,g=parked g1 #[rcase x.c zP] (.recv true)∧core g1=g1∧∀ w₁,Oth E.ty E.Wg M w w₁→z0y E x.c x.todo M o g1 w₁:=by
 cases h with
 | park e h=>exact ⟨rfl,rfl,rfl,_,rfl,e,h⟩
 | _=>cases hk
theorem zww {l r:List Nat}{p k:Nat}(h:p :: r=l.drop k): (ints (l.take k)).push (.int .i64 p)=ints (l.take (k+1))∧r=l.drop (k+1)∧k<l.length:=by
 have hk:k<l.length:=by
  apply Classical.byContradiction
  intro hn
  rw [List.drop_of_length_le (by omega)] at h
  cases h
 have h2:=List.drop_eq_getElem_cons hk
 rw [← h] at h2
 obtain ⟨rfl,rfl⟩:=List.cons.inj h2
 refine ⟨?_,rfl,hk⟩
 rw [List.take_succ_eq_append_getElem hk]
 unfold ints
 rw [List.map_append,List.push_toArray]
 rfl
set_option maxHeartbeats 1600000 in
theorem PInv.snd0 (hAn:∀ got M o g w,Anch got M o g w→g.status=.running)(h:PInv E End Anch G gs w t){a:Goroutine}(ha:gs[0]?=some a){m k c p:Nat}{l:List Nat}(hpos:G.pos=.snd m k c (p :: l))(hgot:G.got=[])(hS:MSnd E c p (zdi E c (zca E (MAft E Anch) m (k+1)) l) (G.M 0) (G.o 0) a w):
  ∃ m' ops μ',runT E.P (crowd gs w sl) 0=(.next m',ops)∧Less μ' (meas E G gs.size)∧PI E End Anch μ' m' (t++ops):=by
 have hsh:=h.sh
 obtain ⟨hrun,z,hst,tr',hnext⟩:=hS
 obtain ⟨c1,c2,c3⟩:=hsh.cur m k c _ hpos
 have hplace:=hsh.place
 rw [hpos] at hplace
 have hgeJ:=hsh.geJ
 have hpos0:=h.pos0
 obtain ⟨i,hie⟩:∃ i,i=gs.size - 1:=⟨_,rfl⟩
 rw [← hie] at c1 c2 c3
 have hJ:E.g0≤i∧i<gs.size:=by simp only [Pos.place] at hplace;omega
 obtain ⟨hi2,hi⟩:=hJ
 have hi0:0<i:=by omega
 obtain ⟨s,r,hch⟩:=hsh.chP i hi2 hi
 obtain ⟨hfree,hcG,hcB⟩:=hsh.freeP i hi2 hi
 rw [c1,c2] at hch
 rw [c1] at hfree hcG hcB
 obtain ⟨hpush,hdrop,hlt⟩:=zww c3
 have hl:=hsh.lt hi2 hi
 have hlow:=fun j b (hb:G.M j b)=>(⟨h.held.lt j b hb,fun e=>h.held.noWg j (e ▸ hb)⟩:b<w.heap.size∧b≠E.Wg)
 have hstep:stepG E.P (0 == 0) a w=.comm (core a) #[scase c (.int .i64 p) z] true .send w #[]:=hst
 have hfin:∀ (k:Int) (v:Value) (ok:Bool),(core a).finishComm E.P #[scase c (.int .i64 p) z] .send k v ok=Go.Conc.served (core a) undef:=fun k v ok=>finishComm_send _ _ _ _ _ _
 have hlen:(G.X i).todo.length≤E.n:=by
  have hs2:=le_sumTo (f:=fun k=>if E.g0+k<gs.size then (G.X (E.g0+k)).pend.length else (E.pl k).length) hl
  simp only [show E.g0+(i - E.g0)=i by omega,if_pos hi] at hs2
  have:=hsh.len
  have:(G.X i).todo.length≤(G.X i).pend.length:=by unfold Wk.pend;simp
  omega
 obtain ⟨y,hy,hsy⟩:=h.wk i hi0 hi
 have hoth:∀ (buf:Array Value) (s r:Nat),∀ j,j<gs.size→Oth E.ty E.Wg (G.M j) w (w.setChan c E.n buf false s r false):=fun buf s r j _=>zek (hfree.2.2.1 j) hfree.2.1
 have sinv:∀ (x':Wk) (tr2:Tr) (buf:Array Value) (s2 r2:Nat),x'.c=c→x'.closed=false→buf=ints (x'.todo.take x'.nb)→l=x'.todo.drop x'.nb→x'.nb≤x'.todo.length→x'.pend=(G.X i).pend →
   SInv E { G with X:=upd G.X i x',pos:=.snd m k c l,trM:=tr2 } gs.size (w.setChan c E.n buf false s2 r2 false):=by
  intro x' tr2 buf s2 r2 x1 x2 x3 x4 x5 x6
  have hcx:∀ j,(upd G.X i x' j).c=(G.X j).c:=fun j=>by
   by_cases e:j=i
   ·subst e;rw [upd_same,x1,c1]
   ·rw [upd_ne G.X x' e]
  have hpall:∀ j,(upd G.X i x' j).pend=(G.X j).pend:=fun j=>by
   by_cases e:j=i
   ·subst e;rw [upd_same,x6]
   ·rw [upd_ne G.X x' e]
  refine hsh.turn h.stabA (zao w) (fun _ _ hb=>hb) (fun j _ _=>hcx j) (fun b k1 k2 k3=>zag w (by have:=k3 i hi2 hi;rwa [c1] at this)) (fun q b hb=>.inl hb) (fun q b hb=>(hsh.hB q b hb).2.2.2) hsh.hBB hlow (fun x hx=>.inl ⟨hx,rfl⟩)
   hplace (fun j h1 h2=>?_) (fun j h1 h2=>?_) (fun j h1 h2 hc=>?_) (fun m' k' c' l' hp=>?_) ?_ ?_ hsh.tyG hsh.tyB (fun r hr=>by cases hr) (fun q=>?_) ?_ hgot
  ·show ∃ s3 r3,(w.setChan c E.n buf false s2 r2 false).heap[(upd G.X i x' j).c]?=some (Obj.chan E.n (ints ((upd G.X i x' j).todo.take (upd G.X i x' j).nb)) (upd G.X i x' j).closed s3 r3 false)
   by_cases e:j=i
   ·subst e
    rw [upd_same,x1,x2,← x3]
    exact ⟨s2,r2,za7 w hfree.1⟩
   ·have hne:=hsh.distinct j i h1 h2 hi2 hi e
    rw [c1] at hne
    rw [upd_ne G.X x' e,zag w hne]
    exact hsh.chP j h1 h2
  ·show (upd G.X i x' j).nb≤(upd G.X i x' j).todo.length∧((upd G.X i x' j).closed=true→(upd G.X i x' j).nb=(upd G.X i x' j).todo.length)
   by_cases e:j=i
   ·subst e
    rw [upd_same]
    exact ⟨x5,fun hc=>by rw [x2] at hc;cases hc⟩
   ·rw [upd_ne G.X x' e]
    exact hsh.nb j h1 h2
  ·have hc:(upd G.X i x' j).closed=false:=hc
   show ∃ m' k' l',Pos.snd m k c l=.snd m' k' (upd G.X i x' j).c l'∧j+1=gs.size
   by_cases e:j=i
   ·subst e
    exact ⟨m,k,l,by rw [upd_same,x1],by omega⟩
   ·rw [upd_ne G.X x' e] at hc
    obtain ⟨_,_,_,_,q⟩:=hsh.shut j h1 h2 hc
    omega
  ·have hp:Pos.snd m k c l=.snd m' k' c' l':=hp
   cases hp
   show (upd G.X i x' (gs.size - 1)).c=c∧(upd G.X i x' (gs.size - 1)).closed=false∧l=(upd G.X i x' (gs.size - 1)).todo.drop (upd G.X i x' (gs.size - 1)).nb
   rw [← hie,upd_same]
   exact ⟨x1,x2,x4⟩
  ·rw [zag w (Ne.symm hcG)];exact hsh.chG
  ·rw [zag w (Ne.symm hcB)];exact hsh.chB
  ·show G.told.countP _+sumTo E.N (fun k=>if E.g0+k<gs.size then (upd G.X i x' (E.g0+k)).pend.count q else (E.pl k).count q)=_
   simp only [hpall]
   exact hsh.cnt q
  ·show G.told.length+sumTo E.N (fun k=>if E.g0+k<gs.size then (upd G.X i x' (E.g0+k)).pend.length else (E.pl k).length)=_
   simp only [hpall]
   exact hsh.len
 by_cases hk:(G.X i).kind=.park
 ·
  obtain ⟨hd0,hnb0,hcl0,g1,rfl,hg1,hcore⟩:=zkg hsy hk
  have htd:(G.X i).todo=p :: l:=by rw [hnb0,List.drop_zero] at c3;exact c3.symm
  rw [hnb0,List.take_zero] at hch
  rw [c1] at hy
  have hpart:partners (gs.setIfInBounds 0 ph) c false=[(i,0)]:=by
   rw [partners_one (stand_get (by omega) hy) (fun q x hq hx=>?_),offersAt_parked_recv,if_pos rfl]
   ·rfl
   ·rcases getElem?_stand gs 0 q x hx with ⟨_,rfl⟩|⟨hq0,hx⟩
    ·exact offersAt_ph _ _
    ·rcases (h.offers hAn hx c).2 with h1|⟨h1,h2,h3,_⟩|⟨h1,_⟩
     ·exact h1
     ·have hq7:E.g0≤q:=by
       apply Classical.byContradiction
       intro hlt
       have:=h.old q h1 (by omega)
       rw [h2] at this;cases this
      have:=hsh.distinct q i hq7 (Array.getElem?_eq_some_iff.1 hx).1 hi2 hi hq
      rw [c1] at this
      exact absurd h3 this
     ·exact absurd h1 hq0
  have hr:=crowd_send_meets (P:=E.P) (sl:=sl) ha hstep hch (by omega) hy hpart
  rw [hfin,finishComm_recv] at hr
  have hc2:=hcore w (.refl _ w)
  rw [htd,c1] at hc2
  obtain ⟨-,tr2,hrun2⟩:=hc2
  let x':Wk:=⟨.wrk p,0,l,0,c,false,tr2⟩
  refine ⟨_,_,_,hr,?_,{ G with X:=upd G.X i x',pos:=.snd m k c l,trM:=tr' },_,_,sl,rfl,?_,rfl⟩
  ·rw [show ((gs.setIfInBounds i (Go.Conc.served g1 (recvd true (.int .i64 (p:Int)) true))).setIfInBounds 0 (Go.Conc.served (core a) undef)).size=gs.size by simp]
   refine zdn hi0 (by omega) rfl (by rw [hk];rfl) ?_
   have e1:x'.rank=3 * l.length+14:=rfl
   have e2:(G.X i).rank=3 * (p :: l).length+12:=by unfold Wk.rank;rw [hk,htd]
   rw [e1,e2,List.length_cons,hpos]
   simp only [Pos.rank,List.length_cons]
   omega
  ·refine h.comm (G':={ G with X:=upd G.X i x',pos:=.snd m k c l,trM:=tr' }) (by simp) (zao w) (zag w (Ne.symm hfree.2.1)) (fun _ _ hb=>hb) (fun _ _ hb=>hb) (fun j b hb=>h.held.sub j b hb) (fun op hop=>?_)
    ⟨Go.Conc.served (core a) undef,by rw [Array.getElem?_setIfInBounds_self_of_lt (by simp;omega)],?_⟩ (fun j hj0 hj=>?_) (zur (by first|rfl|exact c1|exact c1.symm)) (by rw [hpos];rfl) (fun j=>?_) (fun j=>?_) (fun st sm hm=>by rw [hpos] at hm;exact hm) (sinv x' tr' _ _ _ rfl rfl (by simp [x',ints]) (by simp [x']) (by simp [x']) (by unfold Wk.pend;rw [hk,htd];rfl))
   ·simp only [MemOp.ofEvents,Array.mem_append] at hop
    rcases hop with hop|hop
    ·simp at hop
    ·simp only [List.mem_toArray,List.mem_cons,List.not_mem_nil,or_false] at hop
     rcases hop with rfl|rfl|rfl|rfl
     ·exact ⟨rfl,show 0<gs.size by omega,hfree.1,by simp,by simp,by simp⟩
     ·exact ⟨rfl,hi,hfree.1,by simp,by simp,by simp⟩
     ·exact ⟨rfl,show 0<gs.size by omega,hfree.1,by simp,by simp,by simp⟩
     ·exact ⟨rfl,hi,hfree.1,by simp,by simp,by simp⟩
   ·show MSit E End Anch (.snd m k c l) G.got tr' _ _ _ _
    rw [hgot]
    exact .snd (RunT.rely hnext (hoth _ _ _ 0 (by omega)))
   ·by_cases e:j=i
    ·subst e
     refine ⟨Go.Conc.served g1 (recvd true (.int .i64 (p:Int)) true),?_,?_⟩
     ·rw [Array.getElem?_setIfInBounds_ne (by omega),Array.getElem?_setIfInBounds_self_of_lt hi]
     ·show WSit E (upd G.X j x' j) _ _ _ _
      rw [upd_same]
      exact .wrk (RunT.rely hrun2 (hoth _ _ _ j hi))
    ·obtain ⟨y,hy,hsy⟩:=h.wk j hj0 hj
     refine ⟨y,by rw [Array.getElem?_setIfInBounds_ne (by omega),Array.getElem?_setIfInBounds_ne (Ne.symm e)];exact hy,?_⟩
     show WSit E (upd G.X i x' j) _ _ _ _
     rw [upd_ne G.X x' e]
     exact hsy.rely (hoth _ _ _ j hj)
   ·show (upd G.X i x' j).deaf=_
    by_cases e:j=i
    ·subst e;rw [upd_same,hd0]
    ·rw [upd_ne G.X x' e]
   ·show (upd G.X i x' j).kind.stage=_
    by_cases e:j=i
    ·subst e;rw [upd_same,hk];rfl
    ·rw [upd_ne G.X x' e]
 ·
  have hpart:partners (gs.setIfInBounds 0 ph) c false=[]:=h.noRecv hAn 0 c (fun j _ hj0 hj hkj=>by
   have hk7:E.g0≤j:=by
    apply Classical.byContradiction
    intro hlt
    have:=h.old j hj0 (by omega)
    rw [hkj] at this;cases this
   have hne:j≠i:=fun e=>hk (e ▸ hkj)
   have:=hsh.distinct j i hk7 hj hi2 hi hne
   rwa [c1] at this) (fun hne=>absurd rfl hne)
  have hr:=crowd_send_room (P:=E.P) (sl:=sl) ha hstep hch (by simp only [ints,List.size_toArray,List.length_map,List.length_take];omega) hpart
  rw [hfin,hpush] at hr
  let x':Wk:={ G.X i with nb:=(G.X i).nb+1 }
  refine ⟨_,_,_,hr,?_,{ G with X:=upd G.X i x',pos:=.snd m k c l,trM:=tr' },_,_,sl,rfl,?_,rfl⟩
  ·rw [show (gs.setIfInBounds 0 (Go.Conc.served (core a) undef)).size=gs.size by simp]
   refine zdn hi0 (by omega) rfl rfl ?_
   have e1:x'.rank=(G.X i).rank:=rfl
   rw [e1,hpos]
   simp only [Pos.rank,List.length_cons]
   omega
  ·refine h.comm (G':={ G with X:=upd G.X i x',pos:=.snd m k c l,trM:=tr' }) (by simp) (zao w) (zag w (Ne.symm hfree.2.1)) (fun _ _ hb=>hb) (fun _ _ hb=>hb) (fun j b hb=>h.held.sub j b hb) (fun op hop=>?_)
    ⟨Go.Conc.served (core a) undef,by rw [Array.getElem?_setIfInBounds_self_of_lt (by omega)],?_⟩ (fun j hj0 hj=>?_) (zur (by first|rfl|exact c1|exact c1.symm)) (by rw [hpos];rfl) (fun j=>?_) (fun j=>?_) (fun st sm hm=>by rw [hpos] at hm;exact hm) (sinv x' tr' _ _ _ c1 c2 rfl hdrop (by show (G.X i).nb+1≤(G.X i).todo.length;omega) rfl)
   ·simp only [MemOp.ofEvents,Array.mem_append] at hop
    rcases hop with hop|hop
    ·simp at hop
    ·simp only [List.mem_toArray,List.mem_cons,List.not_mem_nil,or_false] at hop
     rcases hop with rfl|rfl
     ·exact ⟨rfl,show 0<gs.size by omega,hfree.1,by simp,by simp,by simp⟩
     ·exact ⟨rfl,show 0<gs.size by omega,hfree.1,by simp,by simp,by simp⟩
   ·show MSit E End Anch (.snd m k c l) G.got tr' _ _ _ _
    rw [hgot]
    exact .snd (RunT.rely hnext (hoth _ _ _ 0 (by omega)))
   ·obtain ⟨y2,hy2,hsy2⟩:=h.wk j hj0 hj
    refine ⟨y2,by rw [Array.getElem?_setIfInBounds_ne (by omega)];exact hy2,?_⟩
    show WSit E (upd G.X i x' j) _ _ _ _
    by_cases e:j=i
    ·subst e;rw [upd_same];exact (hsy2.rely (hoth _ _ _ j hj)).nb' hk _
    ·rw [upd_ne G.X x' e];exact hsy2.rely (hoth _ _ _ j hj)
   ·show (upd G.X i x' j).deaf=_
    by_cases e:j=i
    ·subst e;rw [upd_same]
    ·rw [upd_ne G.X x' e]
   ·show (upd G.X i x' j).kind.stage=_
    by_cases e:j=i
    ·subst e;rw [upd_same]
    ·rw [upd_ne G.X x' e]
end
end
section
open Go.Conc Go.ConcN
open Go.ConcR (KK wgBlock WgAt stA smA rd wr Bk g_of_ofEvents ofEvent_loc_mark)
section
variable {E:zar} {End Anch:List (Nat×Ans)→Kp} {G:zaz} {gs:Array Goroutine} {w w':World} {t u:Trace} {J:Nat} {sl:Option (Nat×Nat)}
theorem zzm {m k:Nat}{tr:Tr}{M o:Nat→Prop}{g:Goroutine}{w:World}{J0:Nat}(h:RunT E.P true E.ty E.Wg true (zca E (MAft E Anch) m (k+1)) tr M o g w)(hpl:k+1=J0∧J0+m=E.N):
  ∃ pos',MSit E End Anch pos' [] tr M o g w∧pos'.place E.N J0∧(∀ m k c l,pos'≠.snd m k c l)∧(∀ r,pos'≠.sel r)∧pos'.want E.n []∧pos'.deaf=0∧pos'.tag=.sp 0 5∧∀ v,pos'.rank E v<Pos.rank E v (.snd m k 0 []):=by
 cases m with
 | zero =>
   by_cases hn:E.n=0
   ·refine ⟨.wkd,.wkd ?_,?_,by simp,by simp,?_,rfl,rfl,fun v=>?_⟩
    ·have h:RunT E.P true E.ty E.Wg true (zc2 E (MFin E Anch) E.n []) tr M o g w:=h
     rw [hn] at h
     exact h
    ·show J0=E.N
     omega
    ·show ([]:List (Nat×Ans)).length=E.n
     simp [hn]
    ·simp only [Pos.rank,List.length_nil];omega
   ·obtain ⟨r,hr⟩:∃ r,E.n=r+1:=⟨E.n - 1,by omega⟩
    refine ⟨.gat (r+1),.gat ?_,?_,by simp,by simp,?_,rfl,rfl,fun v=>?_⟩
    ·have h:RunT E.P true E.ty E.Wg true (zc2 E (MFin E Anch) E.n []) tr M o g w:=h
     rw [hr] at h
     exact h
    ·show J0=E.N
     omega
    ·show r+1+([]:List (Nat×Ans)).length=E.n
     simp [hr]
    ·simp only [Pos.rank,List.length_nil];omega
 | succ m =>
   refine ⟨.kd m (k+1),.kd h,?_,by simp,by simp,rfl,rfl,rfl,fun v=>?_⟩
   ·show k+1=J0∧k+1+m+1=E.N
    omega
   ·simp only [Pos.rank,List.length_nil,Nat.succ_mul];omega
set_option maxHeartbeats 1600000 in
theorem PInv.cls0 (hAn:∀ got M o g w,Anch got M o g w→g.status=.running)(h:PInv E End Anch G gs w t){a:Goroutine}(ha:gs[0]?=some a){m k c:Nat}(hpos:G.pos=.snd m k c [])(hgot:G.got=[])(hS:MCls E c (zca E (MAft E Anch) m (k+1)) (G.M 0) (G.o 0) a w):
  ∃ m' ops μ',runT E.P (crowd gs w sl) 0=(.next m',ops)∧Less μ' (meas E G gs.size)∧PI E End Anch μ' m' (t++ops):=by
 have hsh:=h.sh
 obtain ⟨hrun,hmw,hall⟩:=hS
 obtain ⟨c1,c2,c3⟩:=hsh.cur m k c _ hpos
 have hplace:=hsh.place
 rw [hpos] at hplace
 have hgeJ:=hsh.geJ
 have hpos0:=h.pos0
 obtain ⟨i,hie⟩:∃ i,i=gs.size - 1:=⟨_,rfl⟩
 rw [← hie] at c1 c2 c3
 have hJ:E.g0≤i∧i<gs.size:=by simp only [Pos.place] at hplace;omega
 obtain ⟨hi2,hi⟩:=hJ
 have hi0:0<i:=by omega
 obtain ⟨s,r,hch⟩:=hsh.chP i hi2 hi
 obtain ⟨hfree,hcG,hcB⟩:=hsh.freeP i hi2 hi
 rw [c1,c2] at hch
 rw [c1] at hfree hcG hcB
 have hnb:(G.X i).nb=(G.X i).todo.length:=by
  have h1:=(hsh.nb i hi2 hi).1
  have h2:(G.X i).todo.length≤(G.X i).nb:=by
   have:=congrArg List.length c3
   simp at this
   omega
  omega
 have hl:=hsh.lt hi2 hi
 have hlow:=fun j b (hb:G.M j b)=>(⟨h.held.lt j b hb,fun e=>h.held.noWg j (e ▸ hb)⟩:b<w.heap.size∧b≠E.Wg)
 obtain ⟨a',hst,hrun',tr',hnext⟩:=hall _ s r hch
 have hr:=runT_crowd_go (P:=E.P) (sl:=sl) (i:=0) ha hst
 have hoth:∀ j,j<gs.size→Oth E.ty E.Wg (G.M j) w (w.setChan c E.n (ints ((G.X i).todo.take (G.X i).nb)) true s r false):=fun j _=>zek (hfree.2.2.1 j) hfree.2.1
 obtain ⟨pos',hms,hpl',hsnd',hsel',hwant',hdf',htag',hrk'⟩:=zzm (End:=End) hnext hplace
 obtain ⟨y,hy,hsy⟩:=h.wk i hi0 hi
 obtain ⟨x',hx'⟩:∃ x':Wk,x'={ G.X i with closed:=true,kind:=(if (G.X i).kind matches .park then .again else (G.X i).kind) }:=⟨_,rfl⟩
 have x1:x'.c=c:=by rw [hx'];exact c1
 have x2:x'.closed=true:=by rw [hx']
 have x3:x'.todo=(G.X i).todo:=by rw [hx']
 have x4:x'.nb=(G.X i).nb:=by rw [hx']
 have x5:x'.deaf=(G.X i).deaf:=by rw [hx']
 have x6:x'.kind.stage=(G.X i).kind.stage:=by rw [hx'];cases (G.X i).kind <;> rfl
 have x7:x'.pend=(G.X i).pend:=by rw [hx'];unfold Wk.pend;simp only [];cases (G.X i).kind <;> rfl
 have hw2:woken E.P a a' (w.setChan c E.n (ints ((G.X i).todo.take (G.X i).nb)) true s r false)=(·.again (w.setChan c E.n (ints ((G.X i).todo.take (G.X i).nb)) true s r false)):=by
  funext z
  unfold Go.Conc.woken
  rw [if_pos (by simp [hmw,hrun'])]
 have hwk:∃ y',((gs.map (woken E.P a a' (w.setChan c E.n (ints ((G.X i).todo.take (G.X i).nb)) true s r false))).setIfInBounds 0 a')[i]?=some y'∧WSit E x' (G.M i) (G.o i) y' (w.setChan c E.n (ints ((G.X i).todo.take (G.X i).nb)) true s r false):=by
  rw [get_map_set _ _ _ _ (by omega),hy,Option.map_some]
  refine ⟨_,rfl,?_⟩
  by_cases hk:(G.X i).kind=.park
  ·obtain ⟨hd0,hnb0,hcl0,g1,rfl,hg1,hcore⟩:=zkg hsy hk
   rw [c1] at hcore ⊢
   have htd:(G.X i).todo=[]:=by rw [hnb0] at hnb;exact List.length_eq_zero_iff.1 hnb.symm
   rw [hw2]
   have hag:=again_recv_closed (g:=g1) (z:=zP) (sh:=.recv true) (za7 w (cap:=E.n) (buf:=ints ((G.X i).todo.take (G.X i).nb)) (cl:=true) (s:=s) (r:=r) (tm:=false) hfree.1)
   show WSit E x' _ _ ((parked g1 #[rcase c zP] (.recv true)).again _) _
   rw [hag]
   have hx2:x'=⟨.again,0,[],0,c,true,(G.X i).tr⟩:=by
    rw [hx',hk]
    show (⟨.again,(G.X i).deaf,(G.X i).todo,(G.X i).nb,(G.X i).c,true,(G.X i).tr⟩:Wk)=_
    rw [hd0,htd,hnb0,c1]
   rw [hx2]
   refine .again ?_
   have hst2:∀ w₁,Oth E.ty E.Wg (G.M i) (w.setChan c E.n (ints ((G.X i).todo.take (G.X i).nb)) true s r false) w₁→zjj E c [] (G.M i) (G.o i) { parked g1 #[rcase c zP] (.recv true) with status:=.running } w₁:=fun w₁ h₁=>by
    refine ⟨rfl,?_⟩
    have:=hcore w₁ ((hoth i hi).trans h₁)
    rw [htd] at this
    have e:core { parked g1 #[rcase c zP] (.recv true) with status:=.running }=g1:=by
     rw [← hg1];rfl
    rw [e]
    exact this
   cases (G.X i).tr with
   | leaf=>exact hst2
   | node f=>exact .inl hst2
  ·have:=(hsy.rely (hoth i hi)).woken (w':=w.setChan c E.n (ints ((G.X i).todo.take (G.X i).nb)) true s r false) (fun hk2=>absurd hk2 hk) a a'
   rw [this]
   have hx2:x'={ G.X i with closed:=true }:=by
    have e:(if (G.X i).kind matches .park then zat.again else (G.X i).kind)=(G.X i).kind:=by
     generalize (G.X i).kind=q at hk
     cases q <;> first|rfl|exact absurd rfl hk
    rw [hx']
    show (⟨if (G.X i).kind matches .park then zat.again else (G.X i).kind,(G.X i).deaf,(G.X i).todo,(G.X i).nb,(G.X i).c,true,(G.X i).tr⟩:Wk)=_
    rw [e]
   rw [hx2]
   exact (hsy.rely (hoth i hi)).closed' hk
 refine ⟨_,_,_,hr,?_,{ G with X:=upd G.X i x',pos:=pos',trM:=tr' },_,_,sl,rfl,?_,rfl⟩
 ·rw [show ((gs.map (woken E.P a a' (w.setChan c E.n (ints ((G.X i).todo.take (G.X i).nb)) true s r false))).setIfInBounds 0 a').size=gs.size by simp]
  refine zdn hi0 (by omega) rfl x6 ?_
  have e1:x'.rank≤(G.X i).rank:=by
   rw [hx']
   unfold Wk.rank
   simp only []
   cases (G.X i).kind <;> simp <;> omega
  have e2:=hrk' (Vc (gs.size - 1) (zad G.X))
  rw [hpos]
  show pos'.rank E _+x'.rank<Pos.rank E _ (.snd m k c [])+_
  have e3:Pos.rank E (Vc (gs.size - 1) (zad G.X)) (.snd m k 0 [])=Pos.rank E (Vc (gs.size - 1) (zad G.X)) (.snd m k c []):=rfl
  omega
 ·have h0':0<gs.size:=by omega
  refine h.commT (G':={ G with X:=upd G.X i x',pos:=pos',trM:=tr' }) (by simp) (zao w) (zag w (Ne.symm hfree.2.1)) (fun _ _ hb=>hb) (fun _ _ hb=>hb) (fun j b hb=>h.held.sub j b hb) (h.ti.close h0' (c:=c) (by have:=h.chT i hi2 hi;rwa [c1] at this) hfree.2.2.1 hfree.2.1 hfree.1 fun op hop=>?_) (fun op hop=>?_) (fun j r hj hr=>hr.appOther (g_of_ofEvents (g:=0)) (by omega)) (zur (x1.trans c1.symm)) (fun j hj0 hj=>(h.chT j hj0 hj).app fun op hop x hx _=>.inl (g_of_ofEvents op hop))
   ⟨a',get_map_set_same _ _ _ (by omega),?_⟩ (fun j hj0 hj=>?_) (by rw [hpos];exact hdf') (fun j=>?_) (fun j=>?_) (fun st sm hm=>by rw [hpos] at hm;show Go.ConcN.Mode _ _ pos'.tag _ _;rw [htag'];exact hm) ?_
  ·obtain ⟨e,he,hact⟩:=zel hop
   have hg0:=g_of_ofEvents op hop
   simp at he
   rcases he with rfl|rfl
   ·rw [hact]
    exact ⟨hg0,hfree.1,by simp [MemAct.ofEvent],fun x hx=>by
     simp only [MemAct.ofEvent,MemAct.touch?,Option.some.injEq] at hx
     subst hx
     exact ⟨rfl,rfl⟩⟩
   ·rw [hact]
    exact ⟨hg0,hfree.1,by simp [MemAct.ofEvent],fun x hx=>by simp [MemAct.ofEvent,MemAct.touch?] at hx⟩
  ·obtain ⟨e,he,hact⟩:=zel hop
   simp at he
   rw [hact]
   rcases he with rfl|rfl <;> exact ⟨by simp [MemAct.ofEvent],by simp [MemAct.ofEvent]⟩
  ·show MSit E End Anch pos' G.got tr' _ _ _ _
   rw [hgot]
   exact hms
  ·by_cases e:j=i
   ·subst e
    obtain ⟨y',hy',hs'⟩:=hwk
    refine ⟨y',hy',?_⟩
    show WSit E (upd G.X j x' j) _ _ _ _
    rw [upd_same]
    exact hs'
   ·obtain ⟨y2,hy2,hsy2⟩:=h.wk j hj0 hj
    have hs3:=hsy2.rely (hoth j hj)
    refine ⟨y2,?_,?_⟩
    ·rw [get_map_set _ _ _ _ (by omega),hy2,Option.map_some,hs3.woken]
     intro hk1 hc
     exfalso
     have hj7:E.g0≤j:=by
      apply Classical.byContradiction
      intro hlt
      have:=h.old j hj0 (by omega)
      rw [hk1] at this;cases this
     obtain ⟨_,_,_,_,q⟩:=hsh.shut j hj7 hj hc
     omega
    ·show WSit E (upd G.X i x' j) _ _ _ _
     rw [upd_ne G.X x' e]
     exact hs3
  ·show (upd G.X i x' j).deaf=_
   by_cases e:j=i
   ·subst e;rw [upd_same,x5]
   ·rw [upd_ne G.X x' e]
  ·show (upd G.X i x' j).kind.stage=_
   by_cases e:j=i
   ·subst e;rw [upd_same,x6]
   ·rw [upd_ne G.X x' e]
  ·have hcx:∀ j,(upd G.X i x' j).c=(G.X j).c:=fun j=>by
    by_cases e:j=i
    ·subst e;rw [upd_same,x1,c1]
    ·rw [upd_ne G.X x' e]
   have hpall:∀ j,(upd G.X i x' j).pend=(G.X j).pend:=fun j=>by
    by_cases e:j=i
    ·subst e;rw [upd_same,x7]
    ·rw [upd_ne G.X x' e]
   refine hsh.turn h.stabA (zao w) (fun _ _ hb=>hb) (fun j _ _=>hcx j) (fun b k1 k2 k3=>zag w (by have:=k3 i hi2 hi;rwa [c1] at this)) (fun q b hb=>.inl hb) (fun q b hb=>(hsh.hB q b hb).2.2.2) hsh.hBB hlow (fun x hx=>.inl ⟨hx,rfl⟩)
    hpl' (fun j h1 h2=>?_) (fun j h1 h2=>?_) (fun j h1 h2 hc=>?_) (fun m' k' c' l' hp=>absurd hp (hsnd' _ _ _ _)) ?_ ?_ hsh.tyG hsh.tyB (fun r hr=>absurd hr (hsel' r)) (fun q=>?_) ?_ (by show pos'.want E.n G.got;rw [hgot];exact hwant')
   ·show ∃ s3 r3,(w.setChan c E.n (ints ((G.X i).todo.take (G.X i).nb)) true s r false).heap[(upd G.X i x' j).c]?=some (Obj.chan E.n (ints ((upd G.X i x' j).todo.take (upd G.X i x' j).nb)) (upd G.X i x' j).closed s3 r3 false)
    by_cases e:j=i
    ·subst e
     rw [upd_same,x1,x2,x3,x4]
     exact ⟨s,r,za7 w hfree.1⟩
    ·have hne:=hsh.distinct j i h1 h2 hi2 hi e
     rw [c1] at hne
     rw [upd_ne G.X x' e,zag w hne]
     exact hsh.chP j h1 h2
   ·show (upd G.X i x' j).nb≤(upd G.X i x' j).todo.length∧((upd G.X i x' j).closed=true→(upd G.X i x' j).nb=(upd G.X i x' j).todo.length)
    by_cases e:j=i
    ·subst e
     rw [upd_same,x3,x4]
     exact ⟨by omega,fun _=>hnb⟩
    ·rw [upd_ne G.X x' e]
     exact hsh.nb j h1 h2
   ·have hc:(upd G.X i x' j).closed=false:=hc
    by_cases e:j=i
    ·subst e
     rw [upd_same,x2] at hc;cases hc
    ·rw [upd_ne G.X x' e] at hc
     obtain ⟨_,_,_,_,q⟩:=hsh.shut j h1 h2 hc
     omega
   ·rw [zag w (Ne.symm hcG)];exact hsh.chG
   ·rw [zag w (Ne.symm hcB)];exact hsh.chB
   ·show G.told.countP _+sumTo E.N (fun k=>if E.g0+k<gs.size then (upd G.X i x' (E.g0+k)).pend.count q else (E.pl k).count q)=_
    simp only [hpall]
    exact hsh.cnt q
   ·show G.told.length+sumTo E.N (fun k=>if E.g0+k<gs.size then (upd G.X i x' (E.g0+k)).pend.length else (E.pl k).length)=_
    simp only [hpall]
    exact hsh.len
end
end
section
open Go.Conc Go.ConcN
open Go.ConcR (KK wgBlock WgAt stA smA rd wr Bk g_of_ofEvents ofEvent_loc_mark)
section
variable {E:zar} {End Anch:List (Nat×Ans)→Kp} {G:zaz} {gs:Array Goroutine} {w w':World} {t u:Trace} {J:Nat} {sl:Option (Nat×Nat)}
set_option maxHeartbeats 1600000 in
theorem PInv.go0 (hpl:∀ k,(E.pl k).length≤E.n)(h:PInv E End Anch G gs w t){a:Goroutine}(ha:gs[0]?=some a){m k:Nat}(hpos:G.pos=.go m k)(hgot:G.got=[])(hS:MGo E (E.pl k) (fun c=>zdi E c (zca E (MAft E Anch) m (k+1)) (E.pl k)) (G.M 0) (G.o 0) a w):
  ∃ m' ops μ',runT E.P (crowd gs w sl) 0=(.next m',ops)∧Less μ' (meas E G gs.size)∧PI E End Anch μ' m' (t++ops):=by
 have hsh:=h.sh
 have hplace:=hsh.place
 rw [hpos] at hplace
 have hgeJ:=hsh.geJ
 have hpos0:=h.pos0
 obtain ⟨hk1,hk2⟩:k=gs.size - E.g0∧k+m+1=E.N:=hplace
 have h0:0<gs.size:=by omega
 obtain ⟨hrun,c,g',child,Mk,ok,M0,o0,hst,hch,hoc,hMkc,hM0c,s1,s2,s3,s4,s5,s6,⟨trW,hchild⟩,trM',hnext⟩:=hS
 have hr:=runT_crowd_spawn (P:=E.P) (sl:=sl) (i:=0) ha hst
 obtain ⟨J,hJ⟩:∃ J,J=gs.size:=⟨_,rfl⟩
 have hMc:=h.held.sub 0 c hoc
 have hclt:=h.held.lt 0 c hMc
 have hcW:c≠E.Wg:=fun e=>h.held.noWg 0 (e ▸ hMc)
 let x':Wk:=⟨.rcv,0,E.pl k,0,c,false,trW⟩
 let G':zaz:={ G with X:=upd G.X J x',M:=upd (upd G.M 0 M0) J Mk,o:=upd (upd G.o 0 o0) J ok,pos:=.snd m k c (E.pl k),trM:=trM' }
 have hops:((MemOp.ofEvents 0 a.frame.fn a.frame.place #[]).push { g:=0,fn:=a.frame.fn,pos:=a.frame.place,act:=.go gs.size }).push { g:=gs.size,fn:=child.frame.fn,pos:=a.frame.place,act:=.start } =
   (#[{ g:=0,fn:=a.frame.fn,pos:=a.frame.place,act:=.go gs.size },{ g:=gs.size,fn:=child.frame.fn,pos:=a.frame.place,act:=.start }]:Array MemOp):=by simp [MemOp.ofEvents]
 rw [hops] at hr
 generalize hx:({ g:=0,fn:=a.frame.fn,pos:=a.frame.place,act:=.go gs.size }:MemOp)=x at hr
 generalize hy:({ g:=gs.size,fn:=child.frame.fn,pos:=a.frame.place,act:=.start }:MemOp)=y at hr
 have hx2:x.g=0∧x.act=.go gs.size:=by rw [← hx];exact ⟨rfl,rfl⟩
 have hy2:y.g=gs.size∧y.act=.start:=by rw [← hy];exact ⟨rfl,rfl⟩
 have hm2:∀ op∈#[x,y],op=x∨op=y:=by intro op hop;simpa using hop
 have hd0:Deaf t 0=0:=by rw [h.deaf0,hpos];rfl
 have hstill:∀ op∈#[x,y],op.act≠.mark .disable∧op.act≠.mark .enable:=fun op hop=>by
  rcases hm2 op hop with rfl|rfl
  ·rw [hx2.2];exact ⟨by simp,by simp⟩
  ·rw [hy2.2];exact ⟨by simp,by simp⟩
 have hmute:∀ op∈#[x,y],op.act.touch?=none:=fun op hop=>by
  rcases hm2 op hop with rfl|rfl
  ·rw [hx2.2];rfl
  ·rw [hy2.2];rfl
 have hXj:∀ j,j<gs.size→G'.X j=G.X j:=fun j hj=>upd_ne _ _ (by omega)
 have hXJ:G'.X gs.size=x':=by show upd G.X J x' gs.size=_;rw [← hJ,upd_same]
 have hMj:∀ j,0<j→j<gs.size→G'.M j=G.M j∧G'.o j=G.o j:=fun j h1 h2=>⟨by show upd (upd G.M 0 M0) J Mk j=_;rw [upd_ne _ _ (by omega),upd_ne _ _ (by omega)],by show upd (upd G.o 0 o0) J ok j=_;rw [upd_ne _ _ (by omega),upd_ne _ _ (by omega)]⟩
 have hM0':G'.M 0=M0∧G'.o 0=o0:=⟨by show upd (upd G.M 0 M0) J Mk 0=_;rw [upd_ne _ _ (by omega),upd_same],by show upd (upd G.o 0 o0) J ok 0=_;rw [upd_ne _ _ (by omega),upd_same]⟩
 have hMJ:G'.M gs.size=Mk∧G'.o gs.size=ok:=⟨by show upd (upd G.M 0 M0) J Mk gs.size=_;rw [← hJ,upd_same],by show upd (upd G.o 0 o0) J ok gs.size=_;rw [← hJ,upd_same]⟩
 have hMall:∀ j b,G'.M j b→(j≠0∧j≠gs.size∧G.M j b)∨(j=0∧M0 b)∨(j=gs.size∧Mk b):=fun j b hb=>by
  by_cases e1:j=gs.size
  ·subst e1;rw [hMJ.1] at hb;exact .inr (.inr ⟨rfl,hb⟩)
  ·by_cases e2:j=0
   ·subst e2;rw [hM0'.1] at hb;exact .inr (.inl ⟨rfl,hb⟩)
   ·have:G'.M j=G.M j:=by show upd (upd G.M 0 M0) J Mk j=_;rw [upd_ne _ _ (by omega),upd_ne _ _ e2]
    rw [this] at hb;exact .inl ⟨e2,e1,hb⟩
 have hoall:∀ j b,G'.o j b→(j≠0∧j≠gs.size∧G.o j b)∨(j=0∧o0 b)∨(j=gs.size∧ok b):=fun j b hb=>by
  by_cases e1:j=gs.size
  ·subst e1;rw [hMJ.2] at hb;exact .inr (.inr ⟨rfl,hb⟩)
  ·by_cases e2:j=0
   ·subst e2;rw [hM0'.2] at hb;exact .inr (.inl ⟨rfl,hb⟩)
   ·have:G'.o j=G.o j:=by show upd (upd G.o 0 o0) J ok j=_;rw [upd_ne _ _ (by omega),upd_ne _ _ e2]
    rw [this] at hb;exact .inl ⟨e2,e1,hb⟩
 have hMold:∀ j b,G'.M j b→∃ i,(i<gs.size∨i=j)∧G.M i b:=fun j b hb=>by
  rcases hMall j b hb with ⟨_,_,h1⟩|⟨_,h1⟩|⟨_,h1⟩
  ·exact ⟨j,.inr rfl,h1⟩
  ·exact ⟨0,.inl h0,s3 b h1⟩
  ·exact ⟨0,.inl h0,s1 b h1⟩
 have hheld:Held E.Wg (gs.size+1) G'.M G'.o w.heap.size:=by
  refine ⟨fun j b hb=>?_,fun i j hi hj hij b hb hm=>?_,fun j b hb=>?_,fun j hb=>?_,h.held.wg,fun j hj b hb=>?_⟩
  ·rcases hoall j b hb with ⟨e1,e2,h1⟩|⟨rfl,h1⟩|⟨rfl,h1⟩
   ·have:G'.M j=G.M j:=by show upd (upd G.M 0 M0) J Mk j=_;rw [upd_ne _ _ (by omega),upd_ne _ _ e1]
    rw [this];exact h.held.sub j b h1
   ·rw [hM0'.1];exact (s6 b h1).1
   ·rw [hMJ.1];exact (s5 b h1).1
  ·rcases hoall i b hb with ⟨e1,e2,h1⟩|⟨rfl,h1⟩|⟨rfl,h1⟩ <;> rcases hMall j b hm with ⟨e3,e4,h2⟩|⟨rfl,h2⟩|⟨rfl,h2⟩
   ·exact h.held.apart i j (by omega) (by omega) hij b h1 h2
   ·exact h.held.apart i 0 (by omega) h0 e1 b h1 (s3 b h2)
   ·exact h.held.apart i 0 (by omega) h0 e1 b h1 (s1 b h2)
   ·exact h.held.apart 0 j h0 (by omega) (Ne.symm e3) b (s4 b h1) h2
   ·exact hij rfl
   ·exact (s6 b h1).2 h2
   ·exact h.held.apart 0 j h0 (by omega) (Ne.symm e3) b (s2 b h1) h2
   ·exact (s5 b h1).2 h2
   ·exact hij rfl
  ·obtain ⟨i,_,hi⟩:=hMold j b hb
   exact h.held.lt i b hi
  ·obtain ⟨i,_,hi⟩:=hMold j _ hb
   exact h.held.noWg i hi
  ·rcases hMall j b hb with ⟨_,_,h1⟩|⟨e,_⟩|⟨e,_⟩
   ·exact h.held.out j (by omega) b h1
   ·omega
   ·omega
 have fr:∀ d,Free E G w.heap.size d→Free E G' w.heap.size d:=fun d hd=>⟨hd.1,hd.2.1,fun j hj=>by obtain ⟨i,_,hi⟩:=hMold j d hj;exact hd.2.2.1 i hi,hd.2.2.2⟩
 have hcne:∀ d,Free E G w.heap.size d→c≠d:=fun d hd e=>hd.2.2.1 0 (e ▸ hMc)
 have hcfree:Free E G' w.heap.size c:=by
  refine ⟨hclt,hcW,fun j hj=>?_,fun p hp=>(h.sh.hB p c hp).2.2.1 0 h0 hMc⟩
  rcases hMall j c hj with ⟨e1,e2,h1⟩|⟨rfl,h1⟩|⟨rfl,h1⟩
  ·by_cases hjl:j<gs.size
   ·exact h.held.apart 0 j h0 hjl (Ne.symm e1) c hoc h1
   ·exact h.held.out j (by omega) c h1
  ·exact hM0c h1
  ·exact hMkc h1
 have hVc:Vc gs.size (zad G'.X)=Vc (gs.size - 1) (zad G.X)+1:=by
  obtain ⟨q,hq⟩:∃ q,gs.size=q+1:=⟨gs.size - 1,by omega⟩
  rw [hq]
  unfold Vc
  rw [sumTo]
  have e1:sumTo q (fun i=>cnt (zad G'.X i))=sumTo q fun i=>cnt (zad G.X i):=sumTo_congr fun i hi=>by unfold zad;rw [hXj _ (by omega)]
  rw [e1,show q+1 - 1=q by omega]
  congr 1
  show cnt ⟨(G'.X (q+1)).kind.stage,0,0⟩=1
  rw [← hq,hXJ]
  rfl
 refine ⟨_,_,_,hr,?_,G',_,w,sl,rfl,?_,rfl⟩
 ·refine zd3 ?_
  rw [show ((gs.setIfInBounds 0 g').push child).size=gs.size+1 by simp]
  show Pos.rank E (Vc (gs.size+1 - 1) (zad G'.X)) (.snd m k c (E.pl k))+sumTo (gs.size+1 - 1) (fun i=>(G'.X (i+1)).rank)<G.pos.rank E (Vc (gs.size - 1) (zad G.X))+sumTo (gs.size - 1) (fun i=>(G.X (i+1)).rank)
  have e2:sumTo (gs.size+1 - 1) (fun i=>(G'.X (i+1)).rank)=sumTo (gs.size - 1) (fun i=>(G.X (i+1)).rank)+(3 * (E.pl k).length+13):=by
   obtain ⟨q,hq⟩:∃ q,gs.size=q+1:=⟨gs.size - 1,by omega⟩
   rw [hq,show q+1+1 - 1=q+1 by omega,show q+1 - 1=q by omega,sumTo]
   have e1:sumTo q (fun i=>(G'.X (i+1)).rank)=sumTo q fun i=>(G.X (i+1)).rank:=sumTo_congr fun i hi=>by rw [hXj _ (by omega)]
   rw [e1,← hq,hXJ]
   rfl
  rw [e2,hpos]
  have:=hpl k
  simp only [Pos.rank]
  omega
 ·have hsize:((gs.setIfInBounds 0 g').push child).size=gs.size+1:=by simp
  refine ⟨hpos0,h.few,⟨g',?_,?_⟩,fun j hj0 hj=>?_,by rw [hsize];exact hheld,?_,?_,fun j hj0 hj=>?_,fun j hj0 hj hs=>?_,?_,fun j hj0 hj=>?_,?_,h.stabA,fun b hb=>by rw [hM0'.2] at hb;rw [hM0'.1];exact (s6 b hb).1,fun j hj0 hj=>?_,fun b hb=>h.clr b (hb.imp (fun k=>by rw [hM0'.1] at k;exact s3 b k) id)⟩
  ·rw [Array.getElem?_push_lt (by simp;omega),← Array.getElem?_eq_getElem,Array.getElem?_setIfInBounds_self_of_lt h0]
  ·rw [hM0'.1,hM0'.2]
   show MSit E End Anch (.snd m k c (E.pl k)) G.got trM' _ _ _ _
   rw [hgot]
   exact .snd hnext
  ·rw [hsize] at hj
   rcases Nat.lt_or_ge j gs.size with hlt|hge
   ·obtain ⟨y2,hy2',hsy⟩:=h.wk j hj0 hlt
    refine ⟨y2,?_,?_⟩
    ·rw [Array.getElem?_push_lt (by simp;omega),← Array.getElem?_eq_getElem,Array.getElem?_setIfInBounds_ne (by omega)]
     exact hy2'
    ·rw [hXj j hlt,(hMj j hj0 hlt).1,(hMj j hj0 hlt).2]
     exact hsy
   ·obtain rfl:j=gs.size:=by omega
    refine ⟨child,?_,?_⟩
    ·have:=Array.getElem?_push_size (xs:=gs.setIfInBounds 0 g') (x:=child)
     rwa [show (gs.setIfInBounds 0 g').size=gs.size by simp] at this
    ·rw [hXJ,hMJ.1,hMJ.2]
     exact .rcv hchild
  ·rw [hsize]
   have:=h.ti.fork h0 hx2 hy2 hd0 (Mk:=Mk) (ok:=ok) (M0:=M0) (o0:=o0) s1 s2 s3 s4
   rw [← hJ] at this ⊢
   exact this
  ·rw [Deaf_still t 0 _ hstill,hd0]
   rfl
  ·rw [hsize] at hj
   rw [Deaf_still t j _ hstill]
   rcases Nat.lt_or_ge j gs.size with hlt|hge
   ·rw [h.deafW j hj0 hlt,hXj j hlt]
   ·obtain rfl:j=gs.size:=by omega
    rw [hXJ]
    exact Deaf_absent fun i op hi e=>by have:=h.ti.gs op (Array.mem_of_getElem? hi);omega
  ·rw [hsize] at hj
   rcases Nat.lt_or_ge j gs.size with hlt|hge
   ·rw [hXj j hlt] at hs
    obtain ⟨r,hr⟩:=h.rel j hj0 hlt hs
    exact ⟨r,zlx hr hmute⟩
   ·obtain rfl:j=gs.size:=by omega
    rw [hXJ] at hs
    exact absurd (show (7:Nat)≤6 from hs) (by decide)
  ·rw [hsize]
   obtain ⟨st,sm,hW,hmo⟩:=h.wg
   rw [hpos] at hmo
   obtain ⟨rfl,rfl,hop,_⟩:=zhg (show isOpen (Pos.tag (.go m k)) from trivial) hmo
   refine ⟨_,_,hW,?_⟩
   show Go.ConcN.Mode gs.size (zad G'.X) (.sp 0 5) _ _
   have e:((Vc (gs.size - 1) (zad G.X)+pend (Pos.tag (.go m k)):Nat):Int) * KK=((Vc gs.size (zad G'.X)+pend (.sp 0 5):Nat):Int) * KK:=by
    rw [hVc];rfl
   rw [e]
   refine .opn trivial (fun i hi=>?_) (fun vs e=>by cases e)
   rcases Nat.lt_or_ge i (gs.size - 1) with hlt|hge
   ·have:=hop i hlt
    unfold zad at this ⊢
    rw [hXj _ (by omega)]
    exact this
   ·have e:i+1=gs.size:=by omega
    unfold zad
    rw [e,hXJ]
    exact .inl rfl
  ·rw [hXj j (by omega)]
   exact h.old j hj0 hj
  ·rw [hsize]
   have hif:∀ (φ:List Nat→Nat) (q:Nat),(if E.g0+q<gs.size+1 then φ (G'.X (E.g0+q)).pend else φ (E.pl q))=if E.g0+q<gs.size then φ (G.X (E.g0+q)).pend else φ (E.pl q):=fun φ q=>by
    rcases Nat.lt_trichotomy (E.g0+q) gs.size with h1|h1|h1
    ·rw [if_pos (by omega),if_pos h1,hXj _ h1]
    ·rw [if_pos (by omega),if_neg (by omega),h1,hXJ]
     have:q=k:=by omega
     subst this
     rfl
    ·rw [if_neg (by omega),if_neg (by omega)]
   refine ⟨?_,by omega,fun j h1 h2=>?_,fun j h1 h2=>?_,fun j h1 h2 hc=>?_,fun m' k' c' l' hp=>?_,hsh.chG,hsh.chB,hsh.tyG,hsh.tyB,(fun r hr=>by cases hr),fun j h1 h2=>?_,fun i j h1 h2 h3 h4 hij=>?_,fr _ hsh.freeG,fr _ hsh.freeB,hsh.neGB,
    hsh.ans,fun p b hb=>?_,hsh.hBB,fun q=>?_,?_,hgot⟩
   ·show k+1=gs.size+1 - E.g0∧gs.size+1 - E.g0+m=E.N
    omega
   ·rcases Nat.lt_or_ge j gs.size with hlt|hge
    ·rw [hXj j hlt];exact hsh.chP j h1 hlt
    ·obtain rfl:j=gs.size:=by omega
     rw [hXJ]
     exact ⟨0,0,hch⟩
   ·rcases Nat.lt_or_ge j gs.size with hlt|hge
    ·rw [hXj j hlt];exact hsh.nb j h1 hlt
    ·obtain rfl:j=gs.size:=by omega
     rw [hXJ]
     exact ⟨Nat.zero_le _,fun hc=>by cases hc⟩
   ·rcases Nat.lt_or_ge j gs.size with hlt|hge
    ·rw [hXj j hlt] at hc
     obtain ⟨_,_,_,q,_⟩:=hsh.shut j h1 hlt hc
     rw [hpos] at q;cases q
    ·obtain rfl:j=gs.size:=by omega
     exact ⟨m,k,E.pl k,by rw [hXJ],rfl⟩
   ·have hp:Pos.snd m k c (E.pl k)=.snd m' k' c' l':=hp
    cases hp
    rw [show gs.size+1 - 1=gs.size by omega,hXJ]
    exact ⟨rfl,rfl,rfl⟩
   ·rcases Nat.lt_or_ge j gs.size with hlt|hge
    ·rw [hXj j hlt];exact ⟨fr _ (hsh.freeP j h1 hlt).1,(hsh.freeP j h1 hlt).2⟩
    ·obtain rfl:j=gs.size:=by omega
     rw [hXJ]
     exact ⟨hcfree,hcne _ hsh.freeG,hcne _ hsh.freeB⟩
   ·rcases Nat.lt_or_ge i gs.size with hi|hi <;> rcases Nat.lt_or_ge j gs.size with hj|hj
    ·rw [hXj i hi,hXj j hj];exact hsh.distinct i j h1 hi h3 hj hij
    ·obtain rfl:j=gs.size:=by omega
     rw [hXj i hi,hXJ]
     exact Ne.symm (hcne _ (hsh.freeP i h1 hi).1)
    ·obtain rfl:i=gs.size:=by omega
     rw [hXj j hj,hXJ]
     exact hcne _ (hsh.freeP j h3 hj).1
    ·omega
   ·obtain ⟨q1,q2,q3,q4⟩:=hsh.hB p b hb
    refine ⟨q1,q2,fun j hj hm=>?_,q4⟩
    rcases hMall j b hm with ⟨e1,e2,h1⟩|⟨rfl,h1⟩|⟨rfl,h1⟩
    ·exact q3 j (by omega) h1
    ·exact q3 0 h0 (s3 b h1)
    ·exact q3 0 h0 (s1 b h1)
   ·show G.told.countP _+sumTo E.N (fun q2=>if E.g0+q2<gs.size+1 then (G'.X (E.g0+q2)).pend.count q else (E.pl q2).count q)=_
    simp only [hif (fun l=>l.count q)]
    exact hsh.cnt q
   ·show G.told.length+sumTo E.N (fun q2=>if E.g0+q2<gs.size+1 then (G'.X (E.g0+q2)).pend.length else (E.pl q2).length)=_
    simp only [hif List.length]
    exact hsh.len
  ·rw [hsize] at hj
   rcases Nat.lt_or_ge j gs.size with hlt|hge
   ·rw [hXj j hlt]
    exact (h.chT j hj0 hlt).app fun op hop x hx _=>by rw [hmute op hop] at hx;cases hx
   ·obtain rfl:j=gs.size:=by omega
    rw [hXJ]
    exact ChK.app (fun i a ha hb=>.inl (h.ti.kn 0 h0 i a c ha hb hMc (.inl hoc))) fun op hop x hx _=>by rw [hmute op hop] at hx;cases hx
end
end
end Go.Proofs.YtelgmbomkojmaaaDoor
