/- A pack: Vr. -/
import Derived.Test.YtelgmbomkojmaaaDoorQVqbc
namespace Go.Proofs.YtelgmbomkojmaaaDoor
set_option linter.all false
set_option maxRecDepth 100000
section
open Go.Conc Go.ConcN Go.ConcN.Gen Go.RowKit Go.Conc.Lib Go.ConcR.Gen
open Go.ConcR (KK wgBlock WgAt stA smA rd wr Payload DC0)
theorem zi3 (n p:Nat): ∀ (m j:Nat),n - j≤m→(zbu n j).count p=if j≤p∧p<n∧(p - j) % 4=0 then 1 else 0
 | m,j,h=>by
   by_cases hj:j<n
   ·rw [zgx hj,List.count_cons]
    cases m with
    | zero=>omega
    | succ m =>
      rw [zi3 n p m (j+4) (by omega)]
      by_cases he:j=p
      ·subst he
       have h1:¬ (j+4≤j∧j<n∧(j - (j+4)) % 4=0):=by omega
       have h2:j≤j∧j<n∧(j - j) % 4=0:=by omega
       rw [if_neg h1,if_pos h2];simp
      ·have h0:(j == p)=false:=by simpa using he
       rw [h0]
       simp only [Bool.false_eq_true,if_false,Nat.add_zero]
       by_cases h1:j+4≤p∧p<n∧(p - (j+4)) % 4=0
       ·rw [if_pos h1,if_pos (by omega)]
       ·rw [if_neg h1,if_neg (by omega)]
   ·rw [zgy hj,if_neg (by omega)];rfl
theorem zeb (n:Nat): ∀ (m j:Nat),n - j≤m→(zbu n j).length=(n - j+3) / 4
 | m,j,h=>by
   by_cases hj:j<n
   ·rw [zgx hj]
    cases m with
    | zero=>omega
    | succ m=>rw [List.length_cons,zeb n m (j+4) (by omega)];omega
   ·rw [zgy hj];simp;omega
theorem zu0 (n p:Nat): sumTo (min 4 n) (fun k=>(zbu n k).count p)=if p<n then 1 else 0:=by
 have e:∀ k,(zbu n k).count p=if k≤p∧p<n∧(p - k) % 4=0 then 1 else 0:=fun k=>zi3 n p _ k (Nat.le_refl _)
 simp only [e]
 have key:∀ N,N≤4→N≤n→(N=4∨N=n)→sumTo N (fun k=>if k≤p∧p<n∧(p - k) % 4=0 then 1 else 0)=if p<n then 1 else 0:=by
  intro N h4 hn ho
  have:N=0∨N=1∨N=2∨N=3∨N=4:=by omega
  rcases this with rfl|rfl|rfl|rfl|rfl <;> simp only [sumTo] <;> (repeat' split) <;> omega
 exact key _ (by omega) (by omega) (by omega)
theorem zst (n:Nat): sumTo (min 4 n) (fun k=>(zbu n k).length)=n:=by
 have e:∀ k,(zbu n k).length=(n - k+3) / 4:=fun k=>zeb n _ k (Nat.le_refl _)
 simp only [e]
 have key:∀ N,N≤4→N≤n→(N=4∨N=n)→sumTo N (fun k=>(n - k+3) / 4)=n:=by
  intro N h4 hn ho
  have:N=0∨N=1∨N=2∨N=3∨N=4:=by omega
  rcases this with rfl|rfl|rfl|rfl|rfl <;> simp only [sumTo] <;> omega
 exact key _ (by omega) (by omega) (by omega)
noncomputable def EOf (Wg cG cB n g0:Nat)(Shun:Loc→Prop)(A:Nat→Ans→(Nat→Prop)→World→Prop): zar:={ P:=Tryd.prog,ty:=76,Wg:=Wg,cG:=cG,cB:=cB,n:=n,N:=min 4 n,g0:=g0,zG:=zAns,Shun:=Shun,pl:=zbu n,A:=A }
def yOf (cG cB n cap:Nat)(vS:Value)(hop hops:Int)(ad:Option Addr)(bR oR:Nat)(part:Nat→Value): WIn:={ c:=0,cB:=cB,cG:=cG,n:=n,cap:=cap,server:=vS,hop:=hop,hops:=hops,ad:=ad,bR:=bR,oR:=oR,part:=part }
def MiOf (K:Nat→Prop)(s:SBx)(b:Nat): Prop:=K b∨b=s.b4∨b=s.b5∨b=s.b6∨b=s.b7∨b=s.b9∨b=s.b10
theorem zig {f:Nat→Nat}: ∀ {n:Nat},(∀ k,k<n→f k=0)→sumTo n f=0
 | 0,_=>rfl
 | n+1,h=>by
   have h1:sumTo n f=0:=zig fun k hk=>h k (Nat.lt_succ_of_lt hk)
   have h2:=h n (Nat.lt_succ_self n)
   show sumTo n f+f n=0
   omega
theorem zta {t:Trace}{i:Nat}{x:MemAct}(h:t.act? i=some x): ∃ op∈t,op.act=x:=by
 unfold Trace.act? at h
 obtain ⟨op,h1,h2⟩:=Option.map_eq_some_iff.1 h
 exact ⟨op,Array.mem_of_getElem? h1,h2⟩
theorem zwm {l:Loc}{b:Nat}(h:zdj l=some b): l.isMemory=true:=by cases l <;> first|rfl|cases h
section
variable {K M:Nat→Prop} {w0:World} {cs:List Frame}
set_option maxHeartbeats 1000000 in
theorem z3m {Shun:Loc→Prop}{w:World}{gs:Array Goroutine}{t:Trace}{s:SBx}{vS:Value}{hop hops:Int}{ad:Option Addr}{n cap cG cB Wg bR oR:Nat}{part:Nat→Value}{T:Array Value}{a0 a1 a2 a3:Value}{Ap:Nat→Ans→(Nat→Prop)→World→Prop}(sl:Option (Nat×Nat))(hn64:n≤64)(hF:Frm Tryd.prog Shun Wg gs t)(hK:BKn K w0 ((Wg,.cells #[.int .u64 0,.int .u32 0] 76) :: LB s vS hop hops ad n cap cG cB) M w)(h0:gs[0]?=some (zdq T cs))(hT:∀ E:zar,E.Wg=Wg→IsH E s a0 a1 a2 a3 (min 4 n) 0 T)(hlt:∀ b,K b→b<w0.heap.size)(hcl:∀ b,K b→zet Shun b)(hfresh:∀ b,w0.heap.size≤b→zet Shun b)(hst:∀ p a B w w₁,Ap p a B w→(∀ b,B b→w₁.heap[b]?=w.heap[b]?)→Ap p a B w₁)(hA:0<n→ad=some ⟨bR,oR,none⟩)(hR:0<n→K bR)(hpart:∀ p,p<n→w0.cell? ⟨bR,oR+p,none⟩=some (part p))(hPe:zk9 (EOf Wg cG cB n gs.size Shun Ap) s (yOf cG cB n cap vS hop hops ad bR oR part) (MiOf K s) w):
  ∃ Kn m' t',runNT Tryd.prog Kn (crowd gs w sl) t=(.next m',t')∧zug (EOf Wg cG cB n gs.size Shun Ap) (EndR (EOf Wg cG cB n gs.size Shun Ap) s (yOf cG cB n cap vS hop hops ad bR oR part) (MiOf K s) w a0 a1 a2 a3 (min 4 n) cs) m' t':=by
 have hgs:0<gs.size:=(Array.getElem?_eq_some_iff.1 h0).1
 generalize hE:EOf Wg cG cB n gs.size Shun Ap=E at hPe ⊢
 generalize hy:yOf cG cB n cap vS hop hops ad bR oR part=y at hPe ⊢
 have eP:E.P=Tryd.prog:=by rw [← hE];rfl
 have eT:E.ty=link.tWg:=by rw [← hE];rfl
 have eW:E.Wg=Wg:=by rw [← hE];rfl
 have eG:E.cG=cG:=by rw [← hE];rfl
 have eB:E.cB=cB:=by rw [← hE];rfl
 have en:E.n=n:=by rw [← hE];rfl
 have eN:E.N=min 4 n:=by rw [← hE];rfl
 have eg:E.g0=gs.size:=by rw [← hE];rfl
 have ez:E.zG=zAns:=by rw [← hE];rfl
 have eS:E.Shun=Shun:=by rw [← hE];rfl
 have ep:E.pl=zbu n:=by rw [← hE];rfl
 have eA:E.A=Ap:=by rw [← hE];rfl
 have fn:y.n=n:=by rw [← hy];rfl
 have fG:y.cG=cG:=by rw [← hy];rfl
 have fB:y.cB=cB:=by rw [← hy];rfl
 have gW:=hK.get 0 rfl
 have g10:=hK.get 1 rfl
 have gB:=hK.get 2 rfl
 have g9:=hK.get 3 rfl
 have gG:=hK.get 4 rfl
 have g7:=hK.get 5 rfl
 have g6:=hK.get 6 rfl
 have g5:=hK.get 7 rfl
 have g4:=hK.get 8 rfl
 dsimp only at gW g10 gB g9 gG g7 g6 g5 g4
 have hMiM:∀ b,MiOf K s b→M b:=fun b hb=>by
  rcases hb with hb|rfl|rfl|rfl|rfl|rfl|rfl
  ·exact hK.sub b hb
  ·exact g4.1
  ·exact g5.1
  ·exact g6.1
  ·exact g7.1
  ·exact g9.1
  ·exact g10.1
 have hMl:∀ b,MiOf K s b→b<w.heap.size:=fun b hb=>hK.low b (hMiM b hb)
 have hnn:¬ MiOf K s Wg∧¬ MiOf K s cG∧¬ MiOf K s cB∧cG≠Wg∧cB≠Wg∧cG≠cB:=by
  have hnd:=hK.nodup
  simp only [LB,List.map_cons,List.map_nil,List.nodup_cons,List.mem_cons,List.not_mem_nil,or_false,not_or] at hnd
  obtain ⟨⟨n1,n2,n3,n4,n5,n6,n7,n8⟩,⟨n9,n10,n11,n12,n13,n14,n15⟩,⟨n16,n17,n18,n19,n20,n21⟩,⟨n22,n23,n24,n25,n26⟩,⟨n27,n28,n29,n30⟩,-⟩:=hnd
  have notMi:∀ q,w0.heap.size≤q→q≠s.b4→q≠s.b5→q≠s.b6→q≠s.b7→q≠s.b9→q≠s.b10→¬ MiOf K s q:=fun q hq h4 h5 h6 h7 h9 h10 hb=>by
   rcases hb with hb|hb|hb|hb|hb|hb|hb
   ·exact absurd (hlt q hb) (Nat.not_lt.2 hq)
   ·exact h4 hb
   ·exact h5 hb
   ·exact h6 hb
   ·exact h7 hb
   ·exact h9 hb
   ·exact h10 hb
  exact ⟨notMi Wg gW.2.2 n8 n7 n6 n5 n3 n1,notMi cG gG.2.2 n30 n29 n28 n27 (Ne.symm n22) (Ne.symm n11),notMi cB gB.2.2 n21 n20 n19 n18 n16 (Ne.symm n9),Ne.symm n4,Ne.symm n2,Ne.symm n17⟩
 obtain ⟨hMW,hMG,hMB,neGW,neBW,neGB⟩:=hnn
 have hMcl:∀ b,MiOf K s b→zet Shun b:=fun b hb=>by
  rcases hb with hb|rfl|rfl|rfl|rfl|rfl|rfl
  ·exact hcl b hb
  ·exact hfresh _ g4.2.2
  ·exact hfresh _ g5.2.2
  ·exact hfresh _ g6.2.2
  ·exact hfresh _ g7.2.2
  ·exact hfresh _ g9.2.2
  ·exact hfresh _ g10.2.2
 have hWat:WgAt E.ty E.Wg w 0 0:=by rw [eT,eW];exact gW.2.1
 have hSF:SFct s y (MiOf K s) w:=by
  rw [← hy]
  refine ⟨.inr (.inl rfl),.inr (.inr (.inl rfl)),.inr (.inr (.inr (.inl rfl))),.inr (.inr (.inr (.inr (.inl rfl)))),.inr (.inr (.inr (.inr (.inr (.inl rfl))))),.inr (.inr (.inr (.inr (.inr (.inr rfl))))),fun h=>.inl (hR h),hK.cell 8 rfl,hK.cell 7 rfl,hK.cell 6 rfl,hK.cell 5 rfl,hA,hK.cell 3 rfl,hK.cell 1 rfl,fun p hp=>?_⟩
  have hp:p<n:=hp
  have e1:w.heap[bR]?=w0.heap[bR]?:=hK.keep bR (hR (by omega))
  show w.cell? ⟨bR,oR+p,none⟩=some (part p)
  rw [← hpart p hp]
  unfold World.cell?
  dsimp only
  rw [e1]
 have hSK:SKn E s y (MiOf K s) w w:=⟨⟨.refl _ _,0,0,hWat⟩,hSF⟩
 have hst':∀ p a B w w₁,E.A p a B w→(∀ b,B b→w₁.heap[b]?=w.heap[b]?)→E.A p a B w₁:=by rw [eA];exact hst
 have hrun:=zvo (After:=MAft E (fun got=>zi0 E link (EndR E s y (MiOf K s) w a0 a1 a2 a3 (min 4 n) cs got))) (cs:=cs) (a0:=a0) (a1:=a1) (a2:=a2) (a3:=a3) (N:=min 4 n) (s:=s) (y:=y) (Mi:=MiOf K s) (w0:=w) eP eT (en.trans fn.symm) (fG.trans eG.symm) (fB.trans eB.symm) (by rw [fn];exact hn64) (by omega) hMl (fun k=>by rw [ep,fn]) hst' hPe
  (fun M T w' h1 h2 h3 h4 h5=>z43 eP eT (en.trans fn.symm) (fG.trans eG.symm) (fB.trans eB.symm) ez (by rw [en];exact hn64) hMl h1 h2 h4 w' h3 h5) (min 4 n) 0 (by omega) (MiOf K s) T w (fun b hb=>hb) (by rw [eW];exact hMW) hMl (hT E eW) hSK
 obtain ⟨tr,htr⟩:=hrun
 obtain ⟨⟨q,hL⟩,hPa,hgl⟩:=hF
 have H:WgLib E.P link:=eP ▸ zup
 have hpos:∃ p:Pos,MSit E (EndR E s y (MiOf K s) w a0 a1 a2 a3 (min 4 n) cs) (fun got=>zi0 E link (EndR E s y (MiOf K s) w a0 a1 a2 a3 (min 4 n) cs got)) p [] tr (MiOf K s) (fun _=>False) (zdq T cs) w ∧
   p.place E.N 0∧(∀ m k c l,p≠.snd m k c l)∧(∀ r,p≠.sel r)∧p.want E.n []∧p.deaf=0∧p.tag=.sp 0 5:=by
  rcases Nat.eq_zero_or_pos n with hz|hz
  ·refine ⟨.wkd,.wkd ?_,by rw [eN,hz];rfl,by simp,by simp,by rw [en,hz];rfl,rfl,rfl⟩
   have e0:min 4 n=0:=by omega
   rw [e0] at htr ⊢
   have e1:MAft E (fun got=>zi0 E link (EndR E s y (MiOf K s) w a0 a1 a2 a3 0 cs got))=MFin E (fun got=>zi0 E link (EndR E s y (MiOf K s) w a0 a1 a2 a3 0 cs got)) []:=by
    unfold MAft
    rw [en,hz]
    rfl
   have htr:RunT E.P true E.ty E.Wg true (MAft E (fun got=>zi0 E link (EndR E s y (MiOf K s) w a0 a1 a2 a3 0 cs got))) tr (MiOf K s) (fun _=>False) (zdq T cs) w:=htr
   rw [e1] at htr
   exact htr
  ·obtain ⟨m,hm⟩:∃ m,min 4 n=m+1:=⟨min 4 n - 1,by omega⟩
   refine ⟨.kd m 0,.kd ?_,by rw [eN,hm];exact ⟨rfl,by omega⟩,by simp,by simp,rfl,rfl,rfl⟩
   have e1:RunT E.P true E.ty E.Wg true (zca E (MAft E (fun got=>zi0 E link (EndR E s y (MiOf K s) w a0 a1 a2 a3 (min 4 n) cs got))) (m+1) 0) tr (MiOf K s) (fun _=>False) (zdq T cs) w:=by rw [← hm];exact htr
   exact e1
 obtain ⟨p,hm,hplace,hsnd,hsel,hwant,hdeaf,htag⟩:=hpos
 have eJ:gs.size - E.g0=0:=by rw [eg];omega
 have lowW:∀ op∈t,∀ x,op.act.touch?=some x→∀ b,zdj x.loc=some b→b<Wg:=fun op hop x hx b hb=>znu (hPa.seen op hop) hx hb
 rw [← eP]
 refine z5s (E:=E) (End:=EndR E s y (MiOf K s) w a0 a1 a2 a3 (min 4 n) cs) (Anch:=fun got=>zi0 E link (EndR E s y (MiOf K s) w a0 a1 a2 a3 (min 4 n) cs got)) (G:={ X:=fun i=>⟨.quit,Deaf t i,[],0,0,true,zlj (q i)⟩,M:=fun j b=>j=0∧MiOf K s b,o:=fun _ _=>False,pos:=p,got:=[],trM:=tr,bG:=[],bB:=[],B:=fun _ _=>False })
  (fun k=>by rw [ep,en,zeb n _ k (Nat.le_refl _)];omega) (fun got M o g w h=>h.running) (fun got M o g w h=>zsm H eT g w h) ?_
 refine ⟨by rw [eg];exact hgs,by rw [eN];omega,⟨_,h0,?_⟩,fun i hi0 hi=>?_,⟨fun j b h=>h.elim,fun i j _ _ _ b h=>h.elim,fun j b h=>hMl b h.2,fun j h=>hMW (eW ▸ h.2),eW ▸ hK.low _ gW.1,fun j hj b h=>by have:=h.1;omega⟩,?_,hPa.hears.trans hdeaf.symm,fun i _ _=>rfl,fun i h1 h2=>by rw [eg] at h1;omega,⟨0,0,hWat,?_⟩,fun i _ _=>rfl,?_,hst',fun b h=>h.elim,fun j h1 h2=>by rw [eg] at h1;omega,fun b hb=>by rw [eS];exact hb.elim (fun k=>hMcl b k.2) (fun k=>hfresh b (Nat.le_trans hK.size k))⟩
 ·have e1:(fun b=>(0:Nat)=0∧MiOf K s b)=MiOf K s:=by funext b;simp
  show MSit E _ _ p [] tr (fun b=>(0:Nat)=0∧MiOf K s b) (fun _=>False) (zdq T cs) w
  rw [e1]
  exact hm
 ·have hg:=Array.getElem?_eq_getElem hi
  exact ⟨_,hg,.quit (eP ▸ hL.old i _ hi0 hg)⟩
 ·refine ⟨hPa.clean,fun j hj i a b ha hb hM _=>?_,fun op hop=>Go.MemAct.low_mono (Nat.le_of_lt (hK.low _ gW.1)) (hPa.seen op hop),fun i op x hi hx hs=>?_,hgl,fun i hi=>?_,fun i a ha hm=>?_,fun i g hi hg0 hlt' hc=>hPa.over i g hi hg0 hc⟩
  ·obtain ⟨rfl,hMb⟩:=hM
   rcases hPa.known i a ha (zwm hb) with h|⟨h,_⟩
   ·exact h
   ·exact absurd h (hMcl b hMb a.loc hb)
  ·obtain ⟨ad,e1,e2⟩:=hs
   have:=lowW op (Array.mem_of_getElem? hi) x hx ad.block (by rw [e1];rfl)
   rw [e2,eW] at this
   omega
  ·obtain ⟨op,hop,e⟩:=zta hi
   have:=hPa.seen op hop
   rw [e] at this
   have:E.Wg<Wg:=this
   omega
  ·rcases hPa.known i a ha hm with h|⟨h,hk⟩
   ·exact .inl h
   ·exact .inr (.inl ⟨.inl (by rw [eS];exact h),hk⟩)
 ·have hc0:∀ (D:Nat→WD) (m:Nat),(∀ i,(D i).stage=1)→Vc m D=0:=fun D m h=>zig fun k _=>by simp [cnt,h k]
  have hm1:=Go.ConcN.Mode.opn (j:=gs.size - 1) (D:=fun i=>(⟨1,0,0⟩:WD)) (tag:=CTag.sp 0 5) trivial (fun i _=>.inr (.inr (.inr rfl))) (fun vs e=>by cases e)
  rw [hc0 _ _ (fun i=>rfl)] at hm1
  show Go.ConcN.Mode (gs.size - 1) _ p.tag 0 0
  rw [htag]
  simp [pend] at hm1
  exact hm1
 ·refine ⟨by rw [eJ];exact hplace,by rw [eg];exact Nat.le_refl _,fun i h1 h2=>by rw [eg] at h1;omega,fun i h1 h2=>by rw [eg] at h1;omega,fun i h1 h2=>by rw [eg] at h1;omega,fun m k c l e=>absurd e (hsnd m k c l),⟨0,0,by rw [eG,en];exact gG.2.1⟩,⟨0,0,by rw [eB,en];exact gB.2.1⟩,fun x hx=>(by cases hx),fun x hx=>(by cases hx),fun r e=>absurd e (hsel r),fun i h1 h2=>by rw [eg] at h1;omega,fun i j h1 h2=>by rw [eg] at h1;omega,
   ⟨by rw [eG];exact hK.low _ gG.1,by rw [eG,eW];exact neGW,fun j h=>hMG (eG ▸ h.2),fun _ h=>h⟩,⟨by rw [eB];exact hK.low _ gB.1,by rw [eB,eW];exact neBW,fun j h=>hMB (eB ▸ h.2),fun _ h=>h⟩,by rw [eG,eB];exact neGB,fun x hx=>(by cases hx),fun p b h=>h.elim,fun p q b _ h=>h.elim,fun p=>?_,?_,hwant⟩
  ·show 0+sumTo E.N _=_
   have:(fun k=>if E.g0+k<gs.size then (Wk.pend ⟨.quit,Deaf t (E.g0+k),[],0,0,true,zlj (q (E.g0+k))⟩).count p else (E.pl k).count p)=fun k=>(zbu n k).count p:=by
    funext k
    rw [if_neg (by omega),ep]
   rw [this,Nat.zero_add,eN,en,zu0]
  ·show 0+sumTo E.N _=_
   have:(fun k=>if E.g0+k<gs.size then (Wk.pend ⟨.quit,Deaf t (E.g0+k),[],0,0,true,zlj (q (E.g0+k))⟩).length else (E.pl k).length)=fun k=>(zbu n k).length:=by
    funext k
    rw [if_neg (by omega),ep]
   rw [this,Nat.zero_add,eN,en,zst]
end
end
end Go.Proofs.YtelgmbomkojmaaaDoor
