/- A pack: Vs. -/
import Derived.Test.YtelgmbomkojmaaaDoorQVrbd
namespace Go.Proofs.YtelgmbomkojmaaaDoor
set_option linter.all false
set_option maxRecDepth 100000
section
open Go.Conc Go.ConcN Go.ConcN.Gen Go.RowKit Go.Conc.Lib Go.ConcR.Gen
open Go.ConcR (KK wgBlock WgAt stA smA rd wr Payload DC0)
theorem zfz {f:Nat→Nat}: ∀ {n:Nat},sumTo n f=0→∀ k,k<n→f k=0
 | 0,_,k,hk=>absurd hk (Nat.not_lt_zero k)
 | n+1,h,k,hk=>by
   have h:sumTo n f+f n=0:=h
   rcases Nat.lt_succ_iff_lt_or_eq.1 hk with hk|rfl
   ·exact zfz (by omega) k hk
   ·omega
structure znm (K:Nat→Prop)(Shun:Loc→Prop)(w0:World)(n:Nat)(Ap:Nat→Ans→(Nat→Prop)→World→Prop)(a0 a1 a2 a3:Value)(T:Array Value)(got:List (Nat×Ans))(Wg bA:Nat)(Bp:Nat→Nat→Prop)(w:World): Prop where
 slots:∃ (E:zar) (s:SBx),E.n=n∧IsO E s a0 a1 a2 a3 (min 4 n) bA T
 keep:∀ b,K b→w.heap[b]?=w0.heap[b]?
 size:w0.heap.size≤w.heap.size
 tape:w.tape=w0.tape
 os:w.os=w0.os
 out:w.output=w0.output
 row:w.heap[bA]?=some (.cells (zbc n got) 54 (0,0))
 newA:¬ K bA
 bigA:w0.heap.size≤bA
 wgA:bA≠Wg
 wg:w0.heap.size≤Wg∧Wg<w.heap.size
 len:got.length=n
 cnt:∀ p,got.countP (·.1 == p)=if p<n then 1 else 0
 ans:∀ x∈got,Ap x.1 x.2 (Bp x.1) w
 newB:∀ p b,Bp p b→b<w.heap.size∧b≠Wg∧b≠bA∧¬ K b
 apart:∀ p q b,p≠q→Bp p b→¬ Bp q b
section
variable {K:Nat→Prop} {w0:World} {cs:List Frame}
theorem zzf {Shun:Loc→Prop}{gs:Array Goroutine}{t:Trace}{aS:Option Addr}{nS cS:Nat}{hop hops:Int}{ad:Option Addr}{n cap bR oR:Nat}{part:Nat→Value}{Ap:Nat→Ans→(Nat→Prop)→World→Prop}(sl:Option (Nat×Nat))(hn64:n≤64)(hF:Frm Tryd.prog Shun w0.heap.size gs t)(h0:gs[0]?=some (G (Frame.enter Tryd.prog 19 #[.slice aS nS cS,.int .i64 hop,.int .i64 hops,.slice ad n cap] .normal) cs))(hlt:∀ b,K b→b<w0.heap.size)(hcl:∀ b,K b→zet Shun b)(hfresh:∀ b,w0.heap.size≤b→zet Shun b)(hst:∀ p a B w w₁,Ap p a B w→(∀ b,B b→w₁.heap[b]?=w.heap[b]?)→Ap p a B w₁)(hA:0<n→ad=some ⟨bR,oR,none⟩)(hR:0<n→K bR)(hpart:∀ p,p<n→w0.cell? ⟨bR,oR+p,none⟩=some (part p))(hPe:∀ (Wg cG cB g0:Nat) (s:SBx) (w:World),(∀ b,K b→w.heap[b]?=w0.heap[b]?)→w0.heap.size≤w.heap.size→zk9 (EOf Wg cG cB n g0 Shun Ap) s (yOf cG cB n cap (.slice aS nS cS) hop hops ad bR oR part) (MiOf K s) w):
  ∃ Kn gs' w' sl' t' Wg bA T got Bp,runNT Tryd.prog Kn (crowd gs w0 sl) t=(.next (crowd gs' w' sl'),t')∧gs'[0]?=some (zx6 T cs)∧Frm Tryd.prog (fun l=>Shun l∨ShN Wg l) w'.heap.size gs' t' ∧
   znm K Shun w0 n Ap (.slice aS nS cS) (.int .i64 hop) (.int .i64 hops) (.slice ad n cap) T got Wg bA Bp w':=by
 obtain ⟨tr1,htr1⟩:=z4v (K:=K) (o:=fun _=>False) (cs:=cs) (aS:=aS) (nS:=nS) (cS:=cS) (hop:=hop) (hops:=hops) (ad:=ad) (n:=n) (cap:=cap) hn64 w0 hlt
 obtain ⟨N1,gs1,a1,w1,sl1,t1,M1,o1,r1,z1,k1,⟨s,cG,cB,e1,hK1⟩,hF1,hW1⟩:=zmc tr1 K (fun _=>False) _ w0 gs sl t htr1 h0 hF (fun b hb=>⟨hlt b hb,hcl b hb⟩) hfresh (fun b h=>h.elim)
 subst e1
 obtain ⟨N2,gs2,d,a2,w2,es2,B2,sl2,t2,r2,z2,k2,⟨e2,e3,e4⟩,hF2⟩:=hF1.step (K:=fun wd B' a' w' es=>B'=w1.heap.size∧a'=atWg (TB s (.slice aS nS cS) (.int .i64 hop) (.int .i64 hops) (.slice ad n cap) (.slice ad n cap) cG cB n (.pointer (some ⟨w1.heap.size,0,none⟩))) [] cs∧w'=wd.alloc (.cells #[.int .u64 0,.int .u32 0] 76)) rfl k1 w1 sl1 (fun d=>by
  obtain ⟨es,h1,h2⟩:=z36 (cs:=cs) s (.slice aS nS cS) (.int .i64 hop) (.int .i64 hops) (.slice ad n cap) (.slice ad n cap) cG cB n (w1.at d)
  exact ⟨_,_,es,_,h1,Nat.le_refl _,fun e he=>(h2 e he).elim,rfl,rfl,rfl⟩)
 subst e2 e3
 have hK2:BKn K w0 ((w1.heap.size,.cells #[.int .u64 0,.int .u32 0] 76) :: LB s (.slice aS nS cS) hop hops ad n cap cG cB) (fun b=>M1 b∨b=w1.heap.size) w2:=by
  rw [e4]
  exact (hK1.rely (ty:=0) (Wg:=0) (Oth.at M1 w1 d)).alloc _
 clear e4
 obtain ⟨N3,gs3,a3,w3,sl3,t3,r3,z3,k3,⟨⟨T,e5,hT⟩,hK3⟩,hF3⟩:=zqx (P:=Tryd.prog) (Shun:=Shun) (B:=w1.heap.size) (fun w d=>Oth.at _ w d) (fun w w' es hd e he=>zxk (hd.2 e he).2 (fun b hb=>by
   subst hb
   have h7:=hK1.get 4 rfl
   exact ⟨hK1.low _ h7.1,hfresh _ h7.2.2⟩)) 30 _ w2 gs2 sl2 t2 (z5z (cs:=cs) (Wg:=w1.heap.size) (a0:=.slice aS nS cS) (a1:=.int .i64 hop) (a2:=.int .i64 hops) hn64 rfl w2 hK2) k2 hF2
 subst e5
 obtain ⟨N4,m4,t4,r4,G,gs4,w4,sl4,q4,a4,rfl,z4,k4,⟨tr5,htr5⟩,hL4,hP4,hS4,hH4,hlen4,hgs4,hclr4⟩:=z3m sl3 hn64 hF3 hK3 k3 hT hlt hcl hfresh hst hA hR hpart (hPe w1.heap.size cG cB gs3.size s w3 hK3.keep hK3.size)
 have hcl4:∀ b,(G.M 0 b∨w4.heap.size≤b)→b≠w1.heap.size→zet (fun l=>Shun l∨ShN w1.heap.size l) b:=fun b hb hne l hl hs=>by
  rcases hs with hs|⟨x,rfl,hx⟩
  ·exact hclr4 b hb l hl hs
  ·have:x.block=b:=by simpa [zdj] using hl
   omega
 obtain ⟨N5,gs5,a5,w5,sl5,t5,M5,o5,r5,z5,k5,⟨bA,T5,e6,hO,hMi,hMA,hMi5,hbA,hG5⟩,hF5,hW5⟩:=zmc (Shun:=fun l=>Shun l∨ShN w1.heap.size l) tr5 (G.M 0) (G.o 0) a4 w4 gs4 sl4 t4 htr5 k4 ⟨⟨q4,hL4⟩,hP4,hgs4⟩
  (fun b hb=>⟨hH4.lt 0 b hb,hcl4 b (.inl hb) (fun e=>hH4.noWg 0 (e ▸ hb))⟩) (fun b hb=>hcl4 b (.inr hb) (fun e=>by have:=hH4.wg;have:w1.heap.size<w4.heap.size:=this;omega)) (hH4.sub 0)
 subst e6
 obtain ⟨hS5,hlow5,hrow⟩:=hG5
 have hKn:=hS5.1.1
 have hlen:G.told.length+sumTo (min 4 n) (fun k=>if gs3.size+k<gs4.size then (G.X (gs3.size+k)).pend.length else (zbu n k).length)=n:=hS4.len
 have hlg:G.got.length=n:=hlen4
 have htl:G.told.length=(G.bG++G.bB).length+G.got.length:=by unfold zaz.told;rw [List.length_append]
 have hnil:G.bG++G.bB=[]:=List.length_eq_zero_iff.1 (by omega)
 have hz0:sumTo (min 4 n) (fun k=>if gs3.size+k<gs4.size then (G.X (gs3.size+k)).pend.length else (zbu n k).length)=0:=by omega
 have htold:G.told=G.got:=by unfold zaz.told;rw [hnil];rfl
 have hcnt:∀ p,G.got.countP (·.1 == p)=if p<n then 1 else 0:=fun p=>by
  have h:=hS4.cnt p
  rw [htold] at h
  have hz:sumTo (min 4 n) (fun k=>if gs3.size+k<gs4.size then (G.X (gs3.size+k)).pend.count p else (zbu n k).count p)=0:=zig fun k hk=>by
   have:=zfz hz0 k hk
   split at this
   ·rename_i hlt;rw [if_pos hlt,List.length_eq_zero_iff.1 this];rfl
   ·rename_i hlt;rw [if_neg hlt,List.length_eq_zero_iff.1 this];rfl
  have h:G.got.countP (·.1 == p)+sumTo (min 4 n) (fun k=>if gs3.size+k<gs4.size then (G.X (gs3.size+k)).pend.count p else (zbu n k).count p)=if p<n then 1 else 0:=h
  omega
 have hB0:∀ p b,G.B p b→b<w4.heap.size∧b≠w1.heap.size∧¬ G.M 0 b:=fun p b hb=>by
  obtain ⟨h1,h2,h3,_⟩:=hS4.hB p b hb
  exact ⟨h1,h2,h3 0 (by have:=(Array.getElem?_eq_some_iff.1 k4).1;exact this)⟩
 have hB5:∀ p b,G.B p b→¬ M5 b:=fun p b hb h=>by
  obtain ⟨h1,h2,h3⟩:=hB0 p b hb
  rcases hW5.newM b h with k|k
  ·exact h3 k
  ·omega
 have hWlt:w1.heap.size<w4.heap.size:=hH4.wg
 refine ⟨N1+(N2+(N3+(N4+N5))),gs5,w5,sl5,t5,w1.heap.size,bA,T5,G.got,G.B,?_,k5,hF5,⟨⟨_,s,rfl,hO⟩,fun b hb=>(hKn.keep b (.inl hb)).trans (hK3.keep b hb),Nat.le_trans hK3.size hKn.size,hKn.tape.trans hK3.tape,hKn.os.trans hK3.os,hKn.out.trans hK3.out,hrow,fun h=>hMi (.inl h),Nat.le_trans hK3.size hbA,fun e=>?_,⟨hK1.size,Nat.lt_of_lt_of_le hWlt hW5.own.size⟩,hlg,hcnt,fun x hx=>?_,fun p b hb=>⟨Nat.lt_of_lt_of_le (hB0 p b hb).1 hW5.own.size,(hB0 p b hb).2.1,fun e=>hB5 p b hb (e ▸ hMA),fun h=>hB5 p b hb (hMi5 b (.inl h))⟩,hS4.hBB⟩⟩
 ·rw [runNT_add,r1]
  show runNT Tryd.prog (N2+(N3+(N4+N5))) (crowd gs1 w1 sl1) t1=_
  rw [runNT_add,r2]
  show runNT Tryd.prog (N3+(N4+N5)) (crowd gs2 w2 sl2) t2=_
  rw [runNT_add,r3]
  show runNT Tryd.prog (N4+N5) (crowd gs3 w3 sl3) t3=_
  rw [runNT_add,r4]
  exact r5
 ·rcases hW5.newM bA hMA with h|h
  ·exact hH4.noWg 0 (show G.M 0 w1.heap.size from e ▸ h)
  ·omega
 ·have h:=hS4.ans x (by rw [htold];exact hx)
  exact hst _ _ _ _ _ h fun b hb=>hW5.own.stay b (hB0 _ b hb).1 fun ho=>(hB0 _ b hb).2.2 (hH4.sub 0 b ho)
end
end
end Go.Proofs.YtelgmbomkojmaaaDoor
