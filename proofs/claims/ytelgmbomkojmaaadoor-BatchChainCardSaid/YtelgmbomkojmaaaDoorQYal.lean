/- A pack: Yr Ys. -/
import Derived.Test.YtelgmbomkojmaaaDoorQYak
namespace Go.Proofs.YtelgmbomkojmaaaDoor
set_option linter.all false
set_option maxRecDepth 100000
section
open Go.Conc Go.ConcN
open Go.ConcR (KK wgBlock WgAt stA smA rd wr Bk g_of_ofEvents ofEvent_loc_mark)
section
variable {E:zar} {End Anch:List (Nat×Ans)→Kp} {G:zaz} {gs:Array Goroutine} {w w' w₁:World} {t u:Trace} {J:Nat} {sl:Option (Nat×Nat)}
theorem zt6 {P:Program}{i:Nat}{g g₂:Goroutine}{c c' cap cap' s s' r r':Nat}{z z':Value}{buf buf':Array Value}{closed closed' tm tm':Bool}{es:Array Event}{shape:CommShape}{blocking:Bool}(hi:gs[i]?=some g)(h:stepG P (i == 0) g w=.comm g₂ #[rcase c z,rcase c' z'] blocking shape w₁ es)(hc:w₁.heap[c]?=some (.chan cap buf closed s r tm))(hc':w₁.heap[c']?=some (.chan cap' buf' closed' s' r' tm'))(hb:0<buf.size)(hb':0<buf'.size)(hp:partners (gs.setIfInBounds i ph) c true=[])(hp':partners (gs.setIfInBounds i ph) c' true=[]):
  (runT P (crowd gs w sl) i=(.next (crowd (gs.setIfInBounds i (g₂.finishComm P #[rcase c z,rcase c' z'] shape (0:Nat) (buf.getD 0 undef) true)) (w₁.drew.setChan c cap (buf.extract 1 buf.size) closed s (r+1) tm) sl),
   MemOp.ofEvents i g.frame.fn g.frame.place es++#[{ g:=i,fn:=g₂.frame.fn,pos:=g₂.frame.place,act:=.recv c r cap },{ g:=i,fn:=g₂.frame.fn,pos:=g₂.frame.place,act:=.recvDone c r }])) ∨
  (runT P (crowd gs w sl) i=(.next (crowd (gs.setIfInBounds i (g₂.finishComm P #[rcase c z,rcase c' z'] shape (1:Nat) (buf'.getD 0 undef) true)) (w₁.drew.setChan c' cap' (buf'.extract 1 buf'.size) closed' s' (r'+1) tm') sl),
   MemOp.ofEvents i g.frame.fn g.frame.place es++#[{ g:=i,fn:=g₂.frame.fn,pos:=g₂.frame.place,act:=.recv c' r' cap' },{ g:=i,fn:=g₂.frame.fn,pos:=g₂.frame.place,act:=.recvDone c' r' }])):=by
 have hw:ways w₁ (gs.setIfInBounds i ph) (rcase c z)=[.buffer]:=by simp [ways,rcase,hc,hb]
 have hw':ways w₁ (gs.setIfInBounds i ph) (rcase c' z')=[.buffer]:=by simp [ways,rcase,hc',hb']
 have hcd:w₁.drew.heap[c]?=some (.chan cap buf closed s r tm):=hc
 have hcd':w₁.drew.heap[c']?=some (.chan cap' buf' closed' s' r' tm'):=hc'
 have hcut:(Question.select 2).cut (w₁.tape w₁.drawn (.select 2))=0∨(Question.select 2).cut (w₁.tape w₁.drawn (.select 2))=1:=by
  simp only [Question.cut]
  omega
 have hready:(((#[rcase c z,rcase c' z']:Array CommCase).zipIdx.toList.map fun (x,k)=>(k,x,ways w₁ (gs.setIfInBounds i ph) x)).filter fun (_,_,ws)=>!ws.isEmpty)=[(0,rcase c z,[.buffer]),(1,rcase c' z',[.buffer])]:=by
  simp [Array.zipIdx,hw,hw']
 rw [runT_crowd_comm hi h]
 unfold communicate
 simp only [hready]
 rw [if_neg]
 ·rcases hcut with e|e
  ·left
   simp [choose,Sem.run,Question.forced,bind,Sem.bind,pure,e,rcase,hcd,hp,World.setChan,crowd]
  ·right
   simp [choose,Sem.run,Question.forced,bind,Sem.bind,pure,e,rcase,hcd',hp',World.setChan,crowd]
 ·rw [Bool.not_eq_true]
  refine any_ill fun cc hcc=>?_
  simp only [List.mem_toArray,List.mem_cons,List.not_mem_nil,or_false] at hcc
  rcases hcc with rfl|rfl
  ·exact made_recv z hc
  ·exact made_recv z' hc'
theorem PInv.at (h:PInv E End Anch G gs w t)(d:Nat): PInv E End Anch G gs (w.at d) t:=by
 obtain ⟨a,ha,hm⟩:=h.main
 obtain ⟨st,sm,hW,hmo⟩:=h.wg
 exact ⟨h.pos0,h.few,⟨a,ha,hm.rely (.at _ w d)⟩,fun i h0 h1=>let ⟨y,hy,hs⟩:=h.wk i h0 h1;⟨y,hy,hs.rely (.at _ w d)⟩,h.held,h.ti,h.deaf0,h.deafW,h.rel,⟨st,sm,hW,hmo⟩,h.old,
  h.sh.move h.stabA (fun _=>⟨rfl,rfl,rfl,rfl,rfl⟩) h.sh.place (fun _ _ _ _=>Iff.rfl) h.sh.sel h.sh.want rfl rfl rfl rfl (fun _ _ hb _=>hb) (Nat.le_refl _) (fun _ _ _ _=>rfl),h.stabA,h.ltG,h.chT,h.clr⟩
theorem z0d {r:Nat}{got':List (Nat×Ans)}{tr:Tr}{M o:Nat→Prop}{g:Goroutine}{w:World}{J0:Nat}(h:RunT E.P true E.ty E.Wg true (zc2 E (MFin E Anch) r got') tr M o g w)(hpl:J0=E.N)(hw:r+got'.length=E.n):
  ∃ pos',MSit E End Anch pos' got' tr M o g w∧pos'.place E.N J0∧(∀ m k c l,pos'≠.snd m k c l)∧(∀ r,pos'≠.sel r)∧pos'.want E.n got'∧pos'.deaf=0∧pos'.tag=.sp 0 5∧∀ v,pos'.rank E v<Pos.rank E v (.gat (r+1)):=by
 cases r with
 | zero=>exact ⟨.wkd,.wkd h,hpl,by simp,by simp,by simp only [Pos.want];omega,rfl,rfl,fun v=>by simp only [Pos.rank];omega⟩
 | succ r=>exact ⟨.gat (r+1),.gat h,hpl,by simp,by simp,hw,rfl,rfl,fun v=>by simp only [Pos.rank];omega⟩
theorem zm9 (l:List (Nat×Ans))(p:Nat)(a:Ans): (vals ((p,a) :: l)).getD 0 undef=a.val p∧(vals ((p,a) :: l)).extract 1 (vals ((p,a) :: l)).size=vals l∧0<(vals ((p,a) :: l)).size:=by
 refine ⟨by simp [vals,Array.getD],?_,by simp [vals]⟩
 simp only [vals,List.map_cons,List.size_toArray,List.length_cons,List.length_map]
 simp
 exact List.take_of_length_le (by simp)
set_option maxHeartbeats 1600000 in
theorem PInv.took (h:PInv E End Anch G gs w t){a:Goroutine}{r:Nat}(hpos:G.pos=.gat (r+1))(hC:z00 E (fun p a=>zc2 E (MFin E Anch) r (G.got++[(p,a)])) (G.M 0) (G.o 0) (core a) w){p:Nat}{an:Ans}{bG' bB':List (Nat×Ans)}(hm:(p,an)∈G.told)(hc:∀ q,(bG'++bB'++(G.got++[(p,an)])).countP (·.1 == q)=G.told.countP (·.1 == q))(hl:(bG'++bB'++(G.got++[(p,an)])).length=G.told.length)(hmm:∀ x,x∈bG'++bB'++(G.got++[(p,an)])↔x∈G.told)(tyG:∀ x∈bG',x.2.idx=0)(tyB:∀ x∈bB',x.2.idx=1){buf:Array Value}{s r2:Nat}(chG:∃ s2 r3,(w.setChan (E.ch an) E.n buf false s r2 false).heap[E.cG]?=some (.chan E.n (vals bG') false s2 r3 false))(chB:∃ s2 r3,(w.setChan (E.ch an) E.n buf false s r2 false).heap[E.cB]?=some (.chan E.n (vals bB') false s2 r3 false)){u:Trace}(hu:∀ op∈u,op.act.touch?=none∧op.g<gs.size∧op.act.low w.heap.size∧op.act≠.mark (.release (stA E.Wg))∧op.act≠.mark .disable∧op.act≠.mark .enable):
  ∃ G',PInv E End Anch G' (gs.setIfInBounds 0 ((core a).finishComm E.P (zbb E) .select an.idx (an.val p) true)) (w.setChan (E.ch an) E.n buf false s r2 false) (t++u)∧Less (meas E G' gs.size) (meas E G gs.size):=by
 have hsh:=h.sh
 have hplace:=hsh.place
 have hwant:=hsh.want
 rw [hpos] at hplace hwant
 have hgeJ:=hsh.geJ
 have hpos0:=h.pos0
 have hchf:Free E G w.heap.size (E.ch an):=by cases an <;> first|exact hsh.freeG|exact hsh.freeB
 have hlow:=fun j b (hb:G.M j b)=>(⟨h.held.lt j b hb,fun e=>h.held.noWg j (e ▸ hb)⟩:b<w.heap.size∧b≠E.Wg)
 have hpn:p<E.n:=by
  have h1:=hsh.cnt p
  have h2:0<G.told.countP (·.1 == p):=List.countP_pos_iff.2 ⟨(p,an),hm,by simp⟩
  apply Classical.byContradiction
  intro hn
  rw [if_neg hn] at h1
  omega
 obtain ⟨tr',hg⟩:=hC.2 p an hpn
 have hoth:∀ j,j<gs.size→Oth E.ty E.Wg (G.M j) w (w.setChan (E.ch an) E.n buf false s r2 false):=fun j _=>zek (hchf.2.2.1 j) hchf.2.1
 obtain ⟨pos',hms,hpl,hsnd,hse,hwt,hdf,htg,hrk⟩:=z0d (End:=End) (RunT.rely hg (hoth 0 (by omega))) hplace (by simp only [Pos.want] at hwant;simp;omega)
 refine ⟨{ G with bG:=bG',bB:=bB',got:=G.got++[(p,an)],pos:=pos',trM:=tr' },?_,?_⟩
 ·refine h.comm (G':={ G with bG:=bG',bB:=bB',got:=G.got++[(p,an)],pos:=pos',trM:=tr' }) (by simp) (zao w) (zag w (Ne.symm hchf.2.1)) (fun _ _ hb=>hb) (fun _ _ hb=>hb) (fun j b hb=>h.held.sub j b hb) hu
   ⟨_,by rw [Array.getElem?_setIfInBounds_self_of_lt (by omega)],hms⟩ (fun j hj0 hj=>?_) (fun _=>rfl) (by rw [hpos];exact hdf) (fun _=>rfl) (fun _=>rfl) (fun st sm hmo=>by rw [hpos] at hmo;show Go.ConcN.Mode _ _ pos'.tag _ _;rw [htg];exact hmo) ?_
  ·obtain ⟨y,hy,hsy⟩:=h.wk j hj0 hj
   exact ⟨y,by rw [Array.getElem?_setIfInBounds_ne (by omega)];exact hy,hsy.rely (hoth j hj)⟩
  ·refine hsh.turn h.stabA (zao w) (fun _ _ hb=>hb) (fun j _ _=>rfl) (fun b k1 k2 _=>zag w (by cases an <;> first|exact k1|exact k2)) (fun q b hb=>.inl hb) (fun q b hb=>?_) hsh.hBB hlow (fun x hx=>.inl ⟨(hmm x).1 hx,rfl⟩)
    hpl (fun j h1 h2=>?_) hsh.nb (fun j h1 h2 hcl=>?_) (fun m k c l hp=>absurd hp (hsnd _ _ _ _)) chG chB tyG tyB (fun r hr=>absurd hr (hse r)) (fun q=>?_) ?_ hwt
   ·obtain ⟨y,hy,e⟩:=List.mem_map.1 (hsh.hB q b hb).2.2.2
    exact List.mem_map.2 ⟨y,(hmm _).2 hy,e⟩
   ·rw [zag w (by have:=(hsh.freeP j h1 h2).2;cases an <;> first|exact this.1|exact this.2)]
    exact hsh.chP j h1 h2
   ·obtain ⟨_,_,_,q,_⟩:=hsh.shut j h1 h2 hcl
    rw [hpos] at q;cases q
   ·have:=hsh.cnt q
    rw [← hc q] at this
    exact this
   ·have:=hsh.len
    rw [← hl] at this
    exact this
 ·refine zd3 ?_
  have:=hrk (Vc (gs.size - 1) (zad G.X))
  show pos'.rank E (Vc (gs.size - 1) (zad G.X))+sumTo (gs.size - 1) (fun i=>(G.X (i+1)).rank)<G.pos.rank E (Vc (gs.size - 1) (zad G.X))+sumTo (gs.size - 1) (fun i=>(G.X (i+1)).rank)
  rw [hpos]
  omega
set_option maxHeartbeats 1600000 in
theorem PInv.gat0 (hAn:∀ got M o g w,Anch got M o g w→g.status=.running)(h:PInv E End Anch G gs w t){a:Goroutine}(ha:gs[0]?=some a){r:Nat}(hpos:G.pos=.gat (r+1))(hSA:∀ w₁,Oth E.ty E.Wg (G.M 0) w w₁→zc2 E (MFin E Anch) (r+1) G.got (G.M 0) (G.o 0) a w₁):
  ∃ m' ops μ',runT E.P (crowd gs w sl) 0=(.next m',ops)∧Less μ' (meas E G gs.size)∧PI E End Anch μ' m' (t++ops):=by
 have hsh:=h.sh
 have hwant:=hsh.want
 have hplace:=hsh.place
 rw [hpos] at hwant hplace
 have hgeJ:=hsh.geJ
 have hpos0:=h.pos0
 have hC:∀ w₁,Oth E.ty E.Wg (G.M 0) w w₁→z00 E (fun p a=>zc2 E (MFin E Anch) r (G.got++[(p,a)])) (G.M 0) (G.o 0) (core a) w₁:=fun w₁ h₁=>(hSA w₁ h₁).2
 have hC0:=hC w (.refl _ w)
 have hstep:stepG E.P (0 == 0) a w=.comm (core a) (zbb E) true .select w #[]:=by
  show stepG E.P true a w=_
  rw [znv];exact hC0.1
 obtain ⟨sG,rG,hcG⟩:=hsh.chG
 obtain ⟨sB,rB,hcB⟩:=hsh.chB
 have nG:=h.noSend hAn 0 E.cG
 have nB:=h.noSend hAn 0 E.cB
 have mute:∀ (d:Nat) (an:Ans) (x:Nat) (cap:Nat),∀ op∈MemOp.ofEvents 0 a.frame.fn a.frame.place #[]++#[({ g:=0,fn:=(core a).frame.fn,pos:=(core a).frame.place,act:=.recv (E.ch an) x cap }:MemOp),{ g:=0,fn:=(core a).frame.fn,pos:=(core a).frame.place,act:=.recvDone (E.ch an) x }],
   op.act.touch?=none∧op.g<gs.size∧op.act.low w.heap.size∧op.act≠.mark (.release (stA E.Wg))∧op.act≠.mark .disable∧op.act≠.mark .enable:=fun d an x cap op hop=>by
  have hchf:Free E G w.heap.size (E.ch an):=by cases an <;> first|exact hsh.freeG|exact hsh.freeB
  simp only [MemOp.ofEvents,Array.mem_append] at hop
  rcases hop with hop|hop
  ·simp at hop
  ·simp only [List.mem_toArray,List.mem_cons,List.not_mem_nil,or_false] at hop
   rcases hop with rfl|rfl
   ·exact ⟨rfl,show 0<gs.size by omega,hchf.1,by simp,by simp,by simp⟩
   ·exact ⟨rfl,show 0<gs.size by omega,hchf.1,by simp,by simp,by simp⟩
 have size0:∀ x:Goroutine,(gs.setIfInBounds 0 x).size=gs.size:=fun x=>by simp
 have fromG:∀ (w2:World) {p:Nat} {an:Ans} {l:List (Nat×Ans)},w2.heap=w.heap→G.bG=(p,an) :: l→PInv E End Anch G gs w2 t→Oth E.ty E.Wg (G.M 0) w w2→∃ G',PInv E End Anch G' (gs.setIfInBounds 0 ((core a).finishComm E.P (zbb E) .select (0:Nat) (an.val p) true)) (w2.setChan E.cG E.n (vals l) false sG (rG+1) false)
   (t++(MemOp.ofEvents 0 a.frame.fn a.frame.place #[]++#[({ g:=0,fn:=(core a).frame.fn,pos:=(core a).frame.place,act:=.recv E.cG rG E.n }:MemOp),{ g:=0,fn:=(core a).frame.fn,pos:=(core a).frame.place,act:=.recvDone E.cG rG }]))∧Less (meas E G' gs.size) (meas E G gs.size):=by
  intro w2 p an l hw2 hbG h2 ho
  have hty:=hsh.tyG (p,an) (by rw [hbG];simp)
  cases an with
  | bad=>cases hty
  | good out k =>
    exact h2.took (an:=.good out k) hpos (hC w2 ho) (bG':=l) (bB':=G.bB) (by unfold zaz.told;rw [hbG];simp) (fun q=>by unfold zaz.told;rw [hbG];simp only [List.countP_append,List.countP_cons,List.countP_nil];omega)
     (by unfold zaz.told;rw [hbG];simp only [List.length_append,List.length_cons,List.length_nil];omega)
     (fun x=>by
      unfold zaz.told;rw [hbG];simp only [List.mem_append,List.mem_cons,List.not_mem_nil,or_false]
      exact ⟨fun hh=>hh.elim (fun h1=>h1.elim (fun a=>.inl (.inl (.inr a))) (fun a=>.inl (.inr a))) (fun h1=>h1.elim .inr (fun a=>.inl (.inl (.inl a)))),
       fun hh=>hh.elim (fun h1=>h1.elim (fun h2=>h2.elim (fun a=>.inr (.inr a)) (fun a=>.inl (.inl a))) (fun a=>.inl (.inr a))) (fun a=>.inr (.inl a))⟩)
     (fun x hx=>hsh.tyG x (by rw [hbG];exact List.mem_cons_of_mem _ hx)) hsh.tyB (buf:=vals l) (s:=sG) (r2:=rG+1) ⟨_,_,za7 w2 (by rw [hw2];exact hsh.freeG.1)⟩
     ⟨_,_,by rw [zag w2 (c:=E.ch (.good out k)) (b:=E.cB) (Ne.symm hsh.neGB),hw2];exact hcB⟩ (by rw [hw2];exact mute 0 (.good out k) rG E.n)
 have fromB:∀ (w2:World) {p:Nat} {an:Ans} {l:List (Nat×Ans)},w2.heap=w.heap→G.bB=(p,an) :: l→PInv E End Anch G gs w2 t→Oth E.ty E.Wg (G.M 0) w w2→∃ G',PInv E End Anch G' (gs.setIfInBounds 0 ((core a).finishComm E.P (zbb E) .select (1:Nat) (an.val p) true)) (w2.setChan E.cB E.n (vals l) false sB (rB+1) false)
   (t++(MemOp.ofEvents 0 a.frame.fn a.frame.place #[]++#[({ g:=0,fn:=(core a).frame.fn,pos:=(core a).frame.place,act:=.recv E.cB rB E.n }:MemOp),{ g:=0,fn:=(core a).frame.fn,pos:=(core a).frame.place,act:=.recvDone E.cB rB }]))∧Less (meas E G' gs.size) (meas E G gs.size):=by
  intro w2 p an l hw2 hbB h2 ho
  have hty:=hsh.tyB (p,an) (by rw [hbB];simp)
  cases an with
  | good out k=>cases hty
  | bad =>
    exact h2.took (an:=.bad) hpos (hC w2 ho) (bG':=G.bG) (bB':=l) (by unfold zaz.told;rw [hbB];simp) (fun q=>by unfold zaz.told;rw [hbB];simp only [List.countP_append,List.countP_cons,List.countP_nil];omega)
     (by unfold zaz.told;rw [hbB];simp only [List.length_append,List.length_cons,List.length_nil];omega)
     (fun x=>by
      unfold zaz.told;rw [hbB];simp only [List.mem_append,List.mem_cons,List.not_mem_nil,or_false]
      exact ⟨fun hh=>hh.elim (fun h1=>h1.elim (fun a=>.inl (.inl a)) (fun a=>.inl (.inr (.inr a)))) (fun h1=>h1.elim .inr (fun a=>.inl (.inr (.inl a)))),
       fun hh=>hh.elim (fun h1=>h1.elim (fun a=>.inl (.inl a)) (fun h2=>h2.elim (fun a=>.inr (.inr a)) (fun a=>.inl (.inr a)))) (fun a=>.inr (.inl a))⟩)
     hsh.tyG (fun x hx=>hsh.tyB x (by rw [hbB];exact List.mem_cons_of_mem _ hx)) (buf:=vals l) (s:=sB) (r2:=rB+1)
     ⟨_,_,by rw [zag w2 (c:=E.ch .bad) (b:=E.cG) hsh.neGB,hw2];exact hcG⟩ ⟨_,_,za7 w2 (by rw [hw2];exact hsh.freeB.1)⟩ (by rw [hw2];exact mute 0 .bad rB E.n)
 have fin:∀ {gs':Array Goroutine} {w':World} {u:Trace},gs'.size=gs.size→runT E.P (crowd gs w sl) 0=(.next (crowd gs' w' sl),u)→(∃ G',PInv E End Anch G' gs' w' (t++u)∧Less (meas E G' gs.size) (meas E G gs.size)) →
   ∃ m' ops μ',runT E.P (crowd gs w sl) 0=(.next m',ops)∧Less μ' (meas E G gs.size)∧PI E End Anch μ' m' (t++ops):=fun hs hr ⟨G',hP,hl⟩=>⟨_,_,_,hr,by rw [← hs] at hl ⊢;exact hl,G',_,_,sl,rfl,hP,rfl⟩
 have hcs:zbb E=#[rcase E.cG E.zG,rcase E.cB zP]:=rfl
 cases hbG:G.bG with
 | nil =>
   rw [hbG] at hcG
   have noG:NoWays w (gs.setIfInBounds 0 ph) (rcase E.cG E.zG):=ways_recv_none hcG nG
   cases hbB:G.bB with
   | nil =>
     rw [hbB] at hcB
     have noB:NoWays w (gs.setIfInBounds 0 ph) (rcase E.cB zP):=ways_recv_none hcB nB
     have hr:=crowd_waits (P:=E.P) (sl:=sl) ha hstep (fun cc hcc=>by
      simp only [hcs,List.mem_toArray,List.mem_cons,List.not_mem_nil,or_false] at hcc
      rcases hcc with rfl|rfl
      ·exact noG
      ·exact noB)
     refine fin (size0 _) hr ⟨{ G with pos:=.sel (r+1) },?_,zd3 ?_⟩
     ·refine h.comm (G':={ G with pos:=.sel (r+1) }) (by simp) rfl rfl (fun _ _ hb=>hb) (fun _ _ hb=>hb) (fun j b hb=>h.held.sub j b hb) (fun op hop=>by simp [MemOp.ofEvents] at hop)
       ⟨_,by rw [Array.getElem?_setIfInBounds_self_of_lt (by omega)],.sel (zo2 a) hC⟩ (fun j hj0 hj=>?_) (fun _=>rfl) (by rw [hpos];rfl) (fun _=>rfl) (fun _=>rfl) (fun st sm hmo=>by rw [hpos] at hmo;exact hmo)
       (hsh.move h.stabA (fun _=>⟨rfl,rfl,rfl,rfl,rfl⟩) hplace (fun m k c l=>by rw [hpos];simp) (fun _ _=>⟨hbG,hbB⟩) hwant rfl rfl rfl rfl (fun _ _ hb _=>hb) (Nat.le_refl _) (fun _ _ _ _=>rfl))
      obtain ⟨y,hy,hsy⟩:=h.wk j hj0 hj
      exact ⟨y,by rw [Array.getElem?_setIfInBounds_ne (by omega)];exact hy,hsy⟩
     ·show Pos.rank E (Vc (gs.size - 1) (zad G.X)) (.sel (r+1))+sumTo (gs.size - 1) (fun i=>(G.X (i+1)).rank)<G.pos.rank E (Vc (gs.size - 1) (zad G.X))+sumTo (gs.size - 1) (fun i=>(G.X (i+1)).rank)
      rw [hpos]
      simp only [Pos.rank]
      omega
   | cons x l =>
     obtain ⟨p,an⟩:=x
     rw [hbB] at hcB
     obtain ⟨e1,e2,e3⟩:=zm9 l p an
     have hr:=crowd_sel_recv_buf (P:=E.P) (sl:=sl) (k:=1) (z:=zP) ha hstep (by rfl) (fun m c' hne hm=>by
      match m,hm with
      | 0,hm=>cases hm;exact noG
      | 1,_=>exact absurd rfl hne
      | m+2,hm=>simp [zbb] at hm) hcB e3 nB
     rw [e1,e2] at hr
     exact fin (size0 _) hr (fromB w rfl hbB h (.refl _ w))
 | cons x l =>
   obtain ⟨p,an⟩:=x
   rw [hbG] at hcG
   obtain ⟨e1,e2,e3⟩:=zm9 l p an
   cases hbB:G.bB with
   | nil =>
     rw [hbB] at hcB
     have noB:NoWays w (gs.setIfInBounds 0 ph) (rcase E.cB zP):=ways_recv_none hcB nB
     have hr:=crowd_sel_recv_buf (P:=E.P) (sl:=sl) (k:=0) (z:=E.zG) ha hstep (by rfl) (fun m c' hne hm=>by
      match m,hm with
      | 0,_=>exact absurd rfl hne
      | 1,hm=>cases hm;exact noB
      | m+2,hm=>simp [zbb] at hm) hcG e3 nG
     rw [e1,e2] at hr
     exact fin (size0 _) hr (fromG w rfl hbG h (.refl _ w))
   | cons x2 l2 =>
     obtain ⟨p2,an2⟩:=x2
     rw [hbB] at hcB
     obtain ⟨f1,f2,f3⟩:=zm9 l2 p2 an2
     rcases zt6 (P:=E.P) (sl:=sl) ha hstep hcG hcB e3 f3 nG nB with hr|hr
     ·rw [e1,e2] at hr
      exact fin (size0 _) hr (fromG w.drew rfl hbG (h.at (w.drawn+1)) (.at _ w (w.drawn+1)))
     ·rw [f1,f2] at hr
      exact fin (size0 _) hr (fromB w.drew rfl hbB (h.at (w.drawn+1)) (.at _ w (w.drawn+1)))
end
end
section
open Go.Conc Go.ConcN
open Go.ConcR (KK wgBlock WgAt stA smA rd wr Bk g_of_ofEvents ofEvent_loc_mark)
section
variable {E:zar} {End Anch:List (Nat×Ans)→Kp} {G:zaz} {gs:Array Goroutine} {w w' w₁:World} {t u:Trace} {J:Nat} {sl:Option (Nat×Nat)}
def zug (E:zar)(End:List (Nat×Ans)→Kp)(m:Machine)(t:Trace): Prop :=
 ∃ G gs w sl q a,m=crowd gs w sl∧gs.size=E.g0+E.N∧gs[0]?=some a∧RunM E (End G.got) (G.M 0) (G.o 0) a w∧Leavers E.P t gs q∧Go.Conc.Past (fun l=>E.Shun l∨ShN E.Wg l) w.heap.size t∧SInv E G gs.size w∧Held E.Wg gs.size G.M G.o w.heap.size∧G.got.length=E.n∧(∀ op∈t,op.g<gs.size)∧(∀ b,G.M 0 b∨w.heap.size≤b→zet E.Shun b)
theorem zj0 {f:Nat→Nat}: ∀ {n:Nat},0<sumTo n f→∃ k,k<n∧0<f k
 | n+1,h=>by
   rw [sumTo] at h
   by_cases h1:0<f n
   ·exact ⟨n,by omega,h1⟩
   ·obtain ⟨k,hk,hf⟩:=zj0 (n:=n) (f:=f) (by omega)
    exact ⟨k,by omega,hf⟩
theorem WSit.runs {x:Wk}{M o:Nat→Prop}{g:Goroutine}{w:World}(h:WSit E x M o g w)(hk:x.kind≠.park)(hs:1<x.kind.stage): g.status=.running:=by
 cases h with
 | rcv h=>exact h.running fun _ _ _ _ x=>x.1
 | again h=>exact h.running fun _ _ _ _ x=>x.1
 | park e h=>exact absurd rfl hk
 | wrk h=>exact h.running fun _ _ _ _ x=>x.1
 | r0 h=>exact h.running fun _ _ _ _ x=>x.1
 | k1 h=>exact h.running fun _ _ _ _ x=>x.1
 | d1 h=>exact h.running fun _ _ _ _ x=>x.1
 | d2 h=>exact h.running fun _ _ _ _ x=>x.1
 | d3 h=>exact h.running fun _ _ _ _ x=>x.1
 | d4 h=>exact h.running fun _ _ _ _ x=>x.1
 | quit h=>exact absurd hs (by simp [zat.stage])
theorem WSit.pend_stage {x:Wk}{M o:Nat→Prop}{g:Goroutine}{w:World}(h:WSit E x M o g w)(hp:0<x.pend.length): x.kind.stage=7:=by
 cases h <;> first|rfl|(simp [Wk.pend,zat.work] at hp)
theorem WSit.park_open {x:Wk}{M o:Nat→Prop}{g:Goroutine}{w:World}(h:WSit E x M o g w)(hk:x.kind=.park): x.closed=false:=(zkg h hk).2.2.1
theorem PInv.alive (hAn:∀ got M o g w,Anch got M o g w→g.status=.running)(h:PInv E End Anch G gs w t): ∃ (i:Nat) (g:Goroutine),gs[i]?=some g∧g.status=.running:=by
 obtain ⟨a,ha,hm⟩:=h.main
 have hsh:=h.sh
 have hpos0:=h.pos0
 have hgeJ:=hsh.geJ
 have open_only:∀ i,0<i→i<gs.size→E.g0≤i→(∀ m k c l,G.pos≠.snd m k c l)→(G.X i).kind≠.park:=fun i hi0 hi hi2 hns hk=>by
  obtain ⟨y,hy,hsy⟩:=h.wk i hi0 hi
  obtain ⟨m,k,l,e,_⟩:=hsh.shut i hi2 hi (hsy.park_open hk)
  exact hns _ _ _ _ e
 have new_of:∀ i,0<i→(G.X i).kind.stage≠1→E.g0≤i:=fun i hi0 hne=>by
  apply Classical.byContradiction
  intro hlt
  exact hne (h.old i hi0 (by omega))
 rcases hm.status hAn with ⟨hs,_,_⟩|⟨g1,r,rfl,hp⟩|⟨hs,ho,hp⟩
 ·exact ⟨0,a,ha,hs⟩
 ·obtain ⟨hbG,hbB⟩:=hsh.sel r hp
  have hwant:=hsh.want
  have hplace:=hsh.place
  rw [hp] at hwant hplace hm
  have hr1:0<r:=by
   generalize G.got=got at hm
   generalize G.trM=tr at hm
   generalize hpp:Pos.sel r=pp at hm
   generalize parked g1 (zbb E) .select=gg at hm
   cases hm <;> cases hpp
   omega
  have hlen:=hsh.len
  have htold:G.told=G.got:=by unfold zaz.told;rw [hbG,hbB];rfl
  rw [htold] at hlen
  simp only [Pos.want] at hwant
  simp only [Pos.place] at hplace
  obtain ⟨k,hk,hf⟩:=zj0 (n:=E.N) (f:=fun k=>if E.g0+k<gs.size then (G.X (E.g0+k)).pend.length else (E.pl k).length) (by omega)
  have hi:E.g0+k<gs.size:=by omega
  simp only [if_pos hi] at hf
  obtain ⟨y,hy,hsy⟩:=h.wk (E.g0+k) (by omega) hi
  exact ⟨_,y,hy,hsy.runs (open_only _ (by omega) hi (by omega) (fun m k c l=>by rw [hp];simp)) (by rw [hsy.pend_stage hf];decide)⟩
 ·obtain ⟨st,sm,hW,hmo⟩:=h.wg
  rw [hp] at hmo
  have run_of:∀ q,q<gs.size - 1→1<(zad G.X q).stage→∃ (i:Nat) (g:Goroutine),gs[i]?=some g∧g.status=.running:=fun q hq hst=>by
   have hst:1<(G.X (q+1)).kind.stage:=hst
   obtain ⟨y,hy,hsy⟩:=h.wk (q+1) (by omega) (by omega)
   exact ⟨_,y,hy,hsy.runs (open_only _ (by omega) (by omega) (new_of _ (by omega) (by omega)) (fun m k c l=>by rw [hp];simp)) hst⟩
  generalize etg:Pos.tag .blk=tg at hmo
  cases hmo with
  | opn h1 _ _=>rw [← etg] at h1;exact h1.elim
  | reg h1 h2 h3 =>
    obtain ⟨q,hq,hf⟩:=zj0 (n:=gs.size - 1) (f:=fun i=>cnt (zad G.X i)) h3
    refine run_of q hq ?_
    simp only [cnt] at hf
    split at hf <;> omega
  | last L h1 h2 h3 h4=>exact run_of L h2 (by omega)
  | sema _=>cases etg
  | fin h1 _=>rw [← etg] at h1;exact h1.elim
theorem PInv.awake' (hAn:∀ got M o g w,Anch got M o g w→g.status=.running)(h:PInv E End Anch G gs w t): ∀ g∈gs,awake g:=by
 intro g hg
 obtain ⟨i,hi,rfl⟩:=Array.mem_iff_getElem.1 hg
 intro q hq
 rcases Nat.eq_zero_or_pos i with rfl|hi0
 ·obtain ⟨a,ha,hm⟩:=h.main
  rw [Array.getElem?_eq_getElem hi] at ha
  cases ha
  rcases hm.status hAn with ⟨hs,_,_⟩|⟨g1,r,e,_⟩|⟨hs,_,_⟩
  ·rw [hs] at hq;cases hq
  ·rw [e] at hq;cases hq
  ·rw [hs] at hq;cases hq
 ·obtain ⟨y,hy,hsy⟩:=h.wk i hi0 hi
  rw [Array.getElem?_eq_getElem hi] at hy
  cases hy
  rcases hsy.status with (hs|hs)|⟨g1,e,_⟩
  ·rw [hs] at hq;cases hq
  ·rw [hs] at hq;cases hq
  ·rw [e] at hq;cases hq
theorem z18 {x:Wk}{M o:Nat→Prop}{g:Goroutine}{w:World}(h:WSit E x M o g w)(hs:x.kind.stage=1): ∃ q,QuitsD E.P q x.deaf g:=by
 cases h with
 | quit h=>exact ⟨_,h⟩
 | _=>cases hs
open Classical in
theorem PInv.acq0 (hAn:∀ got M o g w,Anch got M o g w→g.status=.running)(h:PInv E End Anch G gs w t){a:Goroutine}(ha:gs[0]?=some a)(hpos:G.pos=.acq)(hS:MMk E (.acquire (stA E.Wg)) (End G.got) (G.M 0) (G.o 0) a w):
  ∃ m' ops,runT E.P (crowd gs w sl) 0=(.next m',ops)∧zug E End m' (t++ops):=by
 obtain ⟨hrun,a',hst,hn⟩:=hS
 have h0:0<gs.size:=(Array.getElem?_eq_some_iff.1 ha).1
 have hpos0:=h.pos0
 have hgeJ:=h.sh.geJ
 have hplace:=h.sh.place
 have hwant:=h.sh.want
 rw [hpos] at hplace hwant
 simp only [Pos.place] at hplace
 simp only [Pos.want] at hwant
 obtain ⟨st,sm,hW,hmo⟩:=h.wg
 have hall:∀ i,0<i→i<gs.size→(G.X i).kind.stage=1:=by
  rw [hpos] at hmo
  generalize etg:Pos.tag .acq=tg at hmo
  cases hmo with
  | opn h1 _ _=>rw [← etg] at h1;exact h1.elim
  | reg h1 h2 h3=>rw [← etg] at h1;exact h1.elim
  | last L h1 h2 h3 h4=>rw [← etg] at h1;exact h1.elim
  | sema _=>cases etg
  | fin h1 hq=>exact fun i hi0 hi=>by have:=hq (i - 1) (by omega);unfold zad at this;rwa [show i - 1+1=i by omega] at this
 have hr:=runT_crowd_go (P:=E.P) (sl:=sl) (i:=0) ha hst
 have hd0:Deaf t 0=0:=by rw [h.deaf0,hpos];rfl
 have hops:MemOp.ofEvents 0 a.frame.fn a.frame.place #[Go.ConcR.mk (.acquire (stA E.Wg))]=#[{ g:=0,fn:=a.frame.fn,pos:=a.frame.place,act:=.mark (.acquire (stA E.Wg)) }]:=by rw [ofEvents_eq];simp [Go.ConcR.ofEvent_mk]
 have hmo2:=zrz (sz:=w.heap.size) h.held.wg (m:=.acquire (stA E.Wg)) (.inr (.inr (.inl rfl))) (fn:=a.frame.fn) (pos:=a.frame.place)
 have hti:=h.ti.book h.held h0 (fun op hop=>⟨g_of_ofEvents op hop,(hmo2 op hop).1,(hmo2 op hop).2.1,fun x hx=>⟨((hmo2 op hop).2.2 x hx).1,((hmo2 op hop).2.2 x hx).2,fun _=>rfl⟩⟩) (.inl rfl)
 have hdeaf:∀ g,Deaf (t++MemOp.ofEvents 0 a.frame.fn a.frame.place #[Go.ConcR.mk (.acquire (stA E.Wg))]) g=Deaf t g:=fun g=>Deaf_still t g _ fun op hop=>by
  obtain ⟨e,he,hact⟩:=zel hop
  simp at he
  subst he
  rw [hact]
  exact ⟨by simp [Go.ConcR.mk,MemAct.ofEvent],by simp [Go.ConcR.mk,MemAct.ofEvent]⟩
 refine ⟨_,_,hr,G,(gs.map (woken E.P a a' w)).setIfInBounds 0 a',w,sl,fun i=>if h:∃ q,∀ g,gs[i]?=some g→QuitsD E.P q (Deaf t i) g then h.choose else 0,a',rfl,by simp;omega,get_map_set_same _ _ _ h0,hn,⟨fun i g hi0 hg=>?_,fun j hj=>?_⟩,?_,by simpa using h.sh,by simpa using h.held,hwant,by simpa using hti.gs,h.clr⟩
 ·rw [get_map_set _ _ _ _ (by omega)] at hg
  obtain ⟨y,hy,rfl⟩:=Option.map_eq_some_iff.1 hg
  have hi:=(Array.getElem?_eq_some_iff.1 hy).1
  obtain ⟨y2,hy2,hsy⟩:=h.wk i hi0 hi
  obtain rfl:y=y2:=by rw [hy] at hy2;exact Option.some.inj hy2
  have hx:=hall i hi0 hi
  obtain ⟨q,hq⟩:=z18 hsy hx
  rw [hsy.woken (w':=w) (fun hk _=>by rw [hk] at hx;cases hx),hdeaf]
  have hex:∃ q,∀ g,gs[i]?=some g→QuitsD E.P q (Deaf t i) g:=⟨q,fun g hg=>by rw [hy] at hg;cases hg;rw [h.deafW i hi0 hi];exact hq⟩
  show QuitsD E.P (if h:∃ q,∀ g,gs[i]?=some g→QuitsD E.P q (Deaf t i) g then h.choose else 0) _ _
  rw [dif_pos hex]
  exact hex.choose_spec y hy
 ·have hj:gs.size≤j:=by simpa using hj
  exact Deaf_absent fun i op hi e=>by have:=hti.gs op (Array.mem_of_getElem? hi);omega
 ·refine hti.past (q:=t.size) ?_ ?_ ?_ (by rw [hdeaf];exact hd0) (fun k h1 h2=>?_) hpos0
  ·rw [hops,act?_of (op:={ g:=0,fn:=a.frame.fn,pos:=a.frame.place,act:=.mark (.acquire (stA E.Wg)) })]
   simp
  ·rw [hops];simp [Trace.g?]
  ·rw [hops]
   exact ⟨0,by simp [Trace.g?],by rw [deaf_old (Nat.le_refl _)];exact hd0⟩
  ·obtain ⟨r,hr⟩:=h.rel k h1 h2 (by rw [hall k (by omega) h2];decide)
   exact ⟨r,hr.appOther g_of_ofEvents (by omega),lt_of_act? hr.act⟩
theorem z5s (hpl:∀ k,(E.pl k).length≤E.n)(hAn:∀ got M o g w,Anch got M o g w→g.status=.running)(hAnW:∀ got M o g w,Anch got M o g w→RunM E (MW1 E (End got) (Anch got)) M o g w)(h:PInv E End Anch G gs w t): ∃ K m' t',runNT E.P K (crowd gs w sl) t=(.next m',t')∧zug E End m' t':=by
 refine z3q (P:=E.P) (Inv:=fun μ m t=>PI E End Anch μ m t∨(μ=(0,[],.leaf,0)∧zug E End m t)) (Goal:=zug E End) (fun μ m t hI=>?_) (meas E G gs.size) (crowd gs w sl) t (.inl ⟨G,gs,w,sl,rfl,h,rfl⟩)
 rcases hI with ⟨G,gs,w,sl,rfl,h,rfl⟩|⟨_,hF⟩
 ·refine .inr ?_
  obtain ⟨i,g,d,sl',hg,hrun,hst⟩:=crowd_pick (P:=E.P) (w:=w) (sl:=sl) (h.awake' hAn) (h.alive hAn)
  rw [hst]
  have h:=h.at d
  have lift:(∃ m' ops μ',runT E.P (crowd gs (w.at d) sl') i=(.next m',ops)∧Less μ' (meas E G gs.size)∧PI E End Anch μ' m' (t++ops)) →
    ∃ m' ops μ',runT E.P (crowd gs (w.at d) sl') i=(.next m',ops)∧Less μ' (meas E G gs.size)∧(PI E End Anch μ' m' (t++ops)∨(μ'=(0,[],.leaf,0)∧zug E End m' (t++ops))):=fun ⟨m',ops,μ',k1,k2,k3⟩=>⟨m',ops,μ',k1,k2,.inl k3⟩
  rcases Nat.eq_zero_or_pos i with rfl|hi0
  ·rcases h.mainGo (sl:=sl') hAn hAnW hg hrun with hh|⟨m,k,hp,hgot,hS⟩|⟨m,k,c,l,hp,hgot,hS⟩|⟨r,hp,hS⟩|⟨hp,hS⟩
   ·exact lift hh
   ·exact lift (h.go0 (sl:=sl') hpl hg hp hgot hS)
   ·cases l with
    | nil=>exact lift (h.cls0 (sl:=sl') hAn hg hp hgot hS)
    | cons p l=>exact lift (h.snd0 (sl:=sl') hAn hg hp hgot hS)
   ·exact lift (h.gat0 (sl:=sl') hAn hg hp hS)
   ·obtain ⟨m',ops,k1,k2⟩:=h.acq0 (sl:=sl') hAn hg hp hS
    refine ⟨m',ops,(0,[],.leaf,0),k1,zd3 ?_,.inr ⟨rfl,k2⟩⟩
    show 0<G.pos.rank E _+_
    rw [hp]
    simp only [Pos.rank]
    omega
  ·have hi:i<gs.size:=(Array.getElem?_eq_some_iff.1 hg).1
   rcases h.otherGo (sl:=sl') hAn hi0 hi hg hrun with hh|⟨h2,hk,hS⟩|⟨p,h2,hk,hS⟩
   ·exact lift hh
   ·exact lift (h.recvW (sl:=sl') hAn hi0 hi h2 hg hk hS)
   ·exact lift (h.ansW (sl:=sl') hAn hi0 hi h2 hg hk hS)
 ·exact .inl hF
end
end
end Go.Proofs.YtelgmbomkojmaaaDoor
