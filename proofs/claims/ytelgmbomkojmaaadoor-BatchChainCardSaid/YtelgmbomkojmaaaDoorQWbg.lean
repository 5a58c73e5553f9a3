/- A pack: Wn Wo Wp Wq Wr Ws Wt Wu Wv. -/
import Derived.Test.YtelgmbomkojmaaaDoorQWbf
import Derived.Test.YtelgmbomkojmaaaDoorQLaa
import Derived.Conc.LeavingOf
namespace Go.Proofs.YtelgmbomkojmaaaDoor
set_option linter.all false
set_option maxRecDepth 100000
open Exts (ext stop anyOk gapOk)
section
open Go.Conc Go.ConcN Go.ConcN.Gen Go.RowKit Go.Conc.Lib Go.ConcR.Gen
section
variable {P:Program} {Gl:Frame→List Frame→World→Prop} {cs:List Frame} {w:World}
theorem zys {fr:Frame}{b:Frame}{a:Act}{ops:Array Oper}{i:Nat}{rest:List Nat}{k:List Item}{oi:Oper}{fn:Func}{v:Value}(hcs:(b.at a (.inRegion ops (i :: rest) :: k) :: cs)≠[door P])(ho:ops[i]?=some oi)(hm:fr.mode=.returning)(hd:fr.defers=[])(hk:fr.kind=.normal)(hf:P.funcs[fr.fn]?=some fn)(hr:(results fn fr.tmps).run P w=.ok v w∧(results fn fr.tmps).events P w #[]=#[])(h:To P Gl (b.at (a.put oi.dst v) (.inRegion ops rest :: k)) cs w): To P Gl fr (b.at a (.inRegion ops (i :: rest) :: k) :: cs) w:=by
 refine zab hcs ?_
 have hfin:(b.at a (.inRegion ops (i :: rest) :: k)).finish v=b.at (a.put oi.dst v) (.inRegion ops rest :: k):=by rw [Frame.finish_at,ho];rfl
 have e:stepG P true (G fr (b.at a (.inRegion ops (i :: rest) :: k) :: cs)) w=.go (G (b.at (a.put oi.dst v) (.inRegion ops rest :: k)) cs) w #[]:=by
  rw [← hfin]
  simp [G,stepG,unwind,doReturn,hm,hd,hk,hf,hr.1,hr.2,seen,GStep.after]
 rw [e,goes_go]
 exact ⟨_,_,rfl,h⟩
theorem zuu {b:Frame}{a:Act}{ops:Array Oper}{i:Nat}{rest:List Nat}{k:List Item}{oi:Oper}{w':World}(hcs:cs≠[door P])(ho:ops[i]?=some oi)(hw:Region.wanted oi (yielded ops a.tmps)=true)(hk:b.kind≠.early)(hr:(execOp a.eval oi).run P w=.ok .skip w')(h:To P Gl (b.at (a.put oi.dst undef) (.inRegion ops rest :: k)) cs w'): To P Gl (b.at a (.inRegion ops (i :: rest) :: k)) cs w:=by
 refine zab hcs ?_
 rw [stepG_none ho hw hk hr]
 simp only [goes_go]
 exact ⟨_,_,rfl,h⟩
end
theorem zl3 {P:Program}{v:Value}{w w1:World}{t e:TypeId}{a:Option Addr}{n c:Nat}{k:IntKind}{i:Int}(h:(Instr.indexAt t (.slice a n c) (.int k i)).run P w=.ok v w1)(hu:P.underlying t=some (.slice e))(hs:∀ w,(sizeOf e).run P w=.ok 4 w):
  ∃ ad,a=some ad∧v=.pointer (some (ad.add (i.toNat * 4)))∧w1=w:=by
 unfold Instr.indexAt at h
 cases a with
 | none =>
   exfalso
   simp [asIntOf,run_underlying hu,zhf] at h
 | some ad =>
   by_cases hi:0≤i∧i<n
   ·simp [asIntOf,run_underlying hu,hi,hs] at h
    obtain ⟨rfl,rfl⟩:=h
    exact ⟨ad,rfl,rfl,rfl⟩
   ·exfalso
    simp [asIntOf,run_underlying hu,hi,zhf] at h
theorem z06 (w:World): (sizeOf 54).run Lead.prog w=.ok 4 w:=by
 rw [Lead.sizeOf]
 obtain ⟨i,hi,hs⟩:=Option.map_eq_some_iff.1 (show (Tryd.prog.info? 54).map (·.size)=some 4 by kernel_rfl)
 simp [sizeOf,typeInfo,hi,hs]
theorem zzz {v:Value}{w w1:World}{n:Nat}(h:(Instr.makeSlice 49 (.int .i64 n) (.int .i64 n)).run Lead.prog w=.ok v w1)(hn:n≤64): v=.slice (some ⟨w.heap.size,0,none⟩) n n∧w1=w.alloc (.cells (zbc n []) 54):=by
 obtain ⟨i54,hi54,hb54⟩:=Option.map_eq_some_iff.1 (show (Lead.prog.info? 54).map (fun i=>(i.bytes,i.size,i.zero))=some (64,4,some zAns) by kernel_rfl)
 simp only [Prod.mk.injEq] at hb54
 obtain ⟨hb,hs,hz⟩:=hb54
 rw [run_make (P:=Lead.prog) w 49 54 i54 zAns (Lead.of Tryd.underlying49) hi54 hz .i64 .i64 n n (by omega) (by omega) (by rw [hb];omega) (by omega)] at h
 have hcel:madeCells zAns.cells ((n:Int).toNat * i54.size)=zbc n []:=by rw [hs,zn6,Int.toNat_natCast];rfl
 rw [hcel,Int.toNat_natCast] at h
 cases h
 exact ⟨rfl,rfl⟩
structure Done (y:PIn)(aC:Nat→Ans)(Bp:Nat→Nat→Prop)(wc2:World)(k:Nat)(gotL:List (Nat×Ans))(fl:List Nat)(wl':World): Prop where
 map:gotL.map (·.1)=List.range k
 part:∀ p,p<k→∃ (s:Nat) (nwc:List Nat) (x1 k1 x2 k2:Sl) (e:Int),Pair y p s nwc wl' wc2 x1 k1 x2 k2∧y.z+1≤s∧s+nwc.length≤wl'.heap.size∧(∀ i,i<nwc.length→fl[s - (y.z+1)+i]?=nwc[i]?)∧aC p=(if e=0 then .good x2 k2 else .bad)∧(p,if e=0 then Ans.good x1 k1 else .bad)∈gotL
 seg:∀ j,j<fl.length→∃ p,p<k∧∃ (s:Nat) (nwc:List Nat) (x1 k1 x2 k2:Sl),Pair y p s nwc wl' wc2 x1 k1 x2 k2∧y.z+1≤s∧s≤y.z+1+j∧y.z+1+j<s+nwc.length∧s+nwc.length≤wl'.heap.size∧(∀ i,i<nwc.length→fl[s - (y.z+1)+i]?=nwc[i]?)
 own:∀ q∈fl,∃ p,p<k∧Bp p q∧y.zc≤q
 nodup:fl.Nodup
 size:wl'.heap.size=y.z+1+fl.length
theorem Pair.keep {y:PIn}{p s:Nat}{nwc:List Nat}{wl1 wl2 wc2:World}{x1 k1 x2 k2:Sl}(h:Pair y p s nwc wl1 wc2 x1 k1 x2 k2)(hk:∀ b,s≤b→b<s+nwc.length→wl2.heap[b]?=wl1.heap[b]?): Pair y p s nwc wl2 wc2 x1 k1 x2 k2:=by
 obtain ⟨M1,M2,w2,x,k,h1,h2,h3,h4,h5,h6⟩:=h
 refine ⟨M1,M2,w2,x,k,fun i q hq=>?_,h2,h3,h4,h5,h6⟩
 obtain ⟨o,o',q1,q2,q3⟩:=h1 i q hq
 have hm:=List.mem_range'_1.1 (List.mem_of_getElem? hq)
 exact ⟨o,o',q1,(hk q hm.1 hm.2).trans q2,q3⟩
theorem Done.keep {y:PIn}{aC:Nat→Ans}{Bp:Nat→Nat→Prop}{wc2:World}{k:Nat}{gotL:List (Nat×Ans)}{fl:List Nat}{wl1 wl2:World}(h:Done y aC Bp wc2 k gotL fl wl1)(hk:∀ b,y.z<b→b<wl1.heap.size→wl2.heap[b]?=wl1.heap[b]?)(hs:wl2.heap.size=wl1.heap.size): Done y aC Bp wc2 k gotL fl wl2:=by
 refine ⟨h.map,fun p hp=>?_,fun j hj=>?_,h.own,h.nodup,hs.trans h.size⟩
 ·obtain ⟨s,nwc,x1,k1,x2,k2,e,q1,q2,q3,q4⟩:=h.part p hp
  exact ⟨s,nwc,x1,k1,x2,k2,e,q1.keep (fun b h1 h2=>hk b (by omega) (by omega)),q2,by rw [hs];exact q3,q4⟩
 ·obtain ⟨p,hp,s,nwc,x1,k1,x2,k2,q1,q2,q3,q4,q5,q6⟩:=h.seg j hj
  exact ⟨p,hp,s,nwc,x1,k1,x2,k2,q1.keep (fun b h1 h2=>hk b (by omega) (by omega)),q2,q3,q4,by rw [hs];exact q5,q6⟩
theorem Done.add {y:PIn}{aC:Nat→Ans}{Bp:Nat→Nat→Prop}{wc2:World}{k:Nat}{gotL:List (Nat×Ans)}{fl:List Nat}{wl1 wl2:World}(h:Done y aC Bp wc2 k gotL fl wl1){nwc:List Nat}{x1 k1 x2 k2:Sl}{e:Int}(hp:Pair y k wl1.heap.size nwc wl2 wc2 x1 k1 x2 k2)(hs:wl2.heap.size=wl1.heap.size+nwc.length)(hk:∀ b,b<wl1.heap.size→wl2.heap[b]?=wl1.heap[b]?)(hn:nwc.Nodup)(ho:∀ q∈nwc,Bp k q∧y.zc≤q)(hap:∀ p q b,p≠q→Bp p b→¬ Bp q b)(ha:aC k=(if e=0 then .good x2 k2 else .bad)):
  Done y aC Bp wc2 (k+1) (gotL++[(k,if e=0 then Ans.good x1 k1 else .bad)]) (fl++nwc) wl2:=by
 have hsz:=h.size
 refine ⟨by rw [List.map_append,h.map,List.range_succ];rfl,fun p hp2=>?_,fun j hj=>?_,fun q hq=>?_,?_,by rw [hs,hsz,List.length_append];omega⟩
 ·rcases Nat.lt_or_ge p k with hlt|hge
  ·obtain ⟨s,nwc',a1,b1,a2,b2,e',q1,q2,q3,q4,q5,q6⟩:=h.part p hlt
   refine ⟨s,nwc',a1,b1,a2,b2,e',q1.keep (fun b h1 h2=>hk b (by omega)),q2,by omega,fun i hi=>?_,q5,List.mem_append_left _ q6⟩
   rw [List.getElem?_append_left (by omega)]
   exact q4 i hi
  ·have:p=k:=by omega
   subst this
   refine ⟨wl1.heap.size,nwc,x1,k1,x2,k2,e,hp,by omega,by omega,fun i hi=>?_,ha,List.mem_append_right _ (by simp)⟩
   rw [List.getElem?_append_right (by omega)]
   congr 1
   omega
 ·rcases Nat.lt_or_ge j fl.length with hlt|hge
  ·obtain ⟨p,hp2,s,nwc',a1,b1,a2,b2,q1,q2,q3,q4,q5,q6⟩:=h.seg j hlt
   refine ⟨p,by omega,s,nwc',a1,b1,a2,b2,q1.keep (fun b h1 h2=>hk b (by omega)),q2,q3,q4,by omega,fun i hi=>?_⟩
   rw [List.getElem?_append_left (by omega)]
   exact q6 i hi
  ·rw [List.length_append] at hj
   refine ⟨k,by omega,wl1.heap.size,nwc,x1,k1,x2,k2,hp,by omega,by omega,by omega,by omega,fun i hi=>?_⟩
   rw [List.getElem?_append_right (by omega)]
   congr 1
   omega
 ·rcases List.mem_append.1 hq with hq|hq
  ·obtain ⟨p,q1,q2⟩:=h.own q hq
   exact ⟨p,by omega,q2⟩
  ·exact ⟨k,by omega,ho q hq⟩
 ·rw [List.nodup_append]
  refine ⟨h.nodup,hn,fun a ha1 b hb1 hab=>?_⟩
  subst hab
  obtain ⟨p,q1,q2,_⟩:=h.own a ha1
  exact hap p k a (by omega) q2 (ho a hb1).1
section
variable {X2:Exts} {B:Bas} {nw:List Nat} {wl wc:World} {Gl:Frame→List Frame→World→Prop} {cs:List Frame}
noncomputable def zx5 (T:Array Value): Frame:=(base 19).at ⟨T,[]⟩ [.code Lead.round,.inLoop Lead.round,.inBlock 1,.code (.seq Lead.r9 Lead.tail)]
set_option maxHeartbeats 8000000 in
theorem zq5 {n:Nat}{y:PIn}(h:zcd X2 B nw wl wc n y)(hcs:cs≠[door Lead.prog])(hcs0:cs≠[])(hn:n≤64){adl:Option Addr}{capl:Nat}{aC:Nat→Ans}{Bp:Nat→Nat→Prop}{wc2:World}(hap:∀ p q b,p≠q→Bp p b→¬ Bp q b)(hpt:∀ p,p<n→∃ ad,adl=some ad∧ad.spot=none∧wl.cell? ⟨ad.block,ad.off+p,none⟩=some (sl (y.ptL p)))(hC:∀ p,p<n→Came y p (aC p) (Bp p) wc2)(hF:∀ (gotL:List (Nat×Ans)) (fl:List Nat) (wl':World),Done y aC Bp wc2 n gotL fl wl'→(∀ b,b<y.z→wl'.heap[b]?=wl.heap[b]?)→wl'.heap[y.z]?=some (.cells (zbc n gotL) 54 (0,0))→To Lead.prog Gl ((base 19).at ⟨#[sl y.svL,.int .i64 y.hop,.int .i64 y.hops,.slice adl n capl,undef,undef,undef,undef,.slice none 0 0,undef,undef,undef,undef,undef,undef,.slice (some ⟨y.z,0,none⟩) n n,undef,undef,undef,undef,undef,undef,undef,undef,undef,undef,undef,undef,undef,.bool false,undef,undef,undef,undef,undef,undef,undef,undef,undef,undef,(if n=0 then undef else .bool false),undef,undef,undef,undef,undef,undef,undef,undef,undef,undef,undef,undef,undef,undef,undef,undef,undef,undef,undef,undef,undef,undef,undef,undef,undef,undef],[]⟩ [.code Lead.tail]) cs wl'):
  ∀ (m k:Nat) (gotL:List (Nat×Ans)) (fl:List Nat) (wl':World) (v22 v23 v24 v26 v29 v30 v31 v32 v33 v34 v35:Value),k+m=n→Done y aC Bp wc2 k gotL fl wl'→(∀ b,b<y.z→wl'.heap[b]?=wl.heap[b]?)→wl'.heap[y.z]?=some (.cells (zbc n gotL) 54 (0,0)) →
   To Lead.prog Gl (zx5 #[sl y.svL,.int .i64 y.hop,.int .i64 y.hops,.slice adl n capl,undef,undef,undef,undef,.slice none 0 0,undef,undef,undef,undef,undef,undef,.slice (some ⟨y.z,0,none⟩) n n,undef,undef,undef,undef,undef,undef,v22,v23,v24,.int .i64 n,v26,undef,.int .i64 k,v29,v30,v31,v32,v33,v34,v35,undef,undef,undef,undef,(if k=0 then undef else .bool false),undef,undef,undef,undef,undef,undef,undef,undef,undef,undef,undef,undef,undef,undef,undef,undef,undef,undef,undef,undef,undef,undef,undef,undef,undef,undef]) cs wl'
 | 0,k,gotL,fl,wl',v22,v23,v24,v26,v29,v30,v31,v32,v33,v34,v35,hk,hD,hkeep,hrow=>by
   obtain rfl:k=n:=by omega
   have hh:=hF gotL fl wl' hD hkeep hrow
   clear hF
   generalize (if k=0 then undef else Value.bool false)=v40 at hh ⊢
   simp only [zx5,Lead.round,Lead.r2,Lead.r9]
   have hnn:¬ (k:Int)<(k:Int):=by omega
   refine zab hcs ?_
   rw [stepG_seq]
   simp only [goes_go]
   refine ⟨_,_,rfl,?_⟩
   refine zab hcs ?_
   rw [stepG_region]
   simp only [goes_go,List.size_toArray,List.length_cons,List.length_nil,Nat.reduceAdd,Nat.zero_add,List.range,List.range.loop]
   refine ⟨_,_,rfl,?_⟩
   refine zab hcs ?_
   refine goes_oper_k rfl rfl (by k_ne) (fun Kx hKx=>?_)
   go_simp
   refine hKx _ _ ⟨_,_,rfl,?_⟩
   clear hKx Kx
   refine zab hcs ?_
   rw [stepG_region_end]
   simp only [goes_go]
   refine ⟨_,_,rfl,?_⟩
   refine zab hcs ?_
   rw [stepG_seq]
   simp only [goes_go]
   refine ⟨_,_,rfl,?_⟩
   refine zab hcs ?_
   rw [stepG_cond (t:=false) (by first|rfl|(simp [Act.eval];omega))]
   simp only [goes_go,if_true,if_false,Bool.false_eq_true,↓reduceIte]
   refine ⟨_,_,rfl,?_⟩
   refine zab hcs ?_
   refine goes_exit rfl ⟨_,_,rfl,?_⟩
   refine zab hcs ?_
   rw [stepG_seq]
   simp only [goes_go]
   refine ⟨_,_,rfl,?_⟩
   refine zab hcs ?_
   rw [stepG_region]
   simp only [goes_go,List.size_toArray,List.length_cons,List.length_nil,Nat.reduceAdd,Nat.zero_add,List.range,List.range.loop]
   refine ⟨_,_,rfl,?_⟩
   refine zab hcs ?_
   refine goes_oper_k rfl rfl (by k_ne) (fun Kx hKx=>?_)
   go_simp
   refine hKx _ _ ⟨_,_,rfl,?_⟩
   clear hKx Kx
   refine zab hcs ?_
   refine goes_oper_k rfl rfl (by k_ne) (fun Kx hKx=>?_)
   go_simp
   refine hKx _ _ ⟨_,_,rfl,?_⟩
   clear hKx Kx
   refine zab hcs ?_
   refine goes_oper_k rfl rfl (by k_ne) (fun Kx hKx=>?_)
   go_simp
   refine hKx _ _ ⟨_,_,rfl,?_⟩
   clear hKx Kx
   refine zab hcs ?_
   refine goes_oper_k rfl rfl (by k_ne) (fun Kx hKx=>?_)
   go_simp
   refine hKx _ _ ⟨_,_,rfl,?_⟩
   clear hKx Kx
   refine zab hcs ?_
   refine goes_oper_k rfl rfl (by k_ne) (fun Kx hKx=>?_)
   go_simp
   refine hKx _ _ ⟨_,_,rfl,?_⟩
   clear hKx Kx
   refine zab hcs ?_
   refine goes_oper_k rfl rfl (by k_ne) (fun Kx hKx=>?_)
   go_simp
   refine hKx _ _ ⟨_,_,rfl,?_⟩
   clear hKx Kx
   refine zab hcs ?_
   refine goes_oper_k rfl rfl (by k_ne) (fun Kx hKx=>?_)
   go_simp
   refine hKx _ _ ⟨_,_,rfl,?_⟩
   clear hKx Kx
   refine zab hcs ?_
   refine goes_oper_k rfl rfl (by k_ne) (fun Kx hKx=>?_)
   go_simp
   refine hKx _ _ ⟨_,_,rfl,?_⟩
   clear hKx Kx
   refine zab hcs ?_
   refine goes_oper_k rfl rfl (by k_ne) (fun Kx hKx=>?_)
   go_simp
   refine hKx _ _ ⟨_,_,rfl,?_⟩
   clear hKx Kx
   refine zab hcs ?_
   refine goes_oper_k rfl rfl (by k_ne) (fun Kx hKx=>?_)
   go_simp
   refine hKx _ _ ⟨_,_,rfl,?_⟩
   clear hKx Kx
   refine zab hcs ?_
   refine goes_oper_k rfl rfl (by k_ne) (fun Kx hKx=>?_)
   go_simp
   refine hKx _ _ ⟨_,_,rfl,?_⟩
   clear hKx Kx
   refine zab hcs ?_
   refine goes_oper_k rfl rfl (by k_ne) (fun Kx hKx=>?_)
   go_simp
   refine hKx _ _ ⟨_,_,rfl,?_⟩
   clear hKx Kx
   refine zab hcs ?_
   refine goes_oper_k rfl rfl (by k_ne) (fun Kx hKx=>?_)
   go_simp
   refine hKx _ _ ⟨_,_,rfl,?_⟩
   clear hKx Kx
   refine zab hcs ?_
   rw [stepG_region_end]
   simp only [goes_go]
   refine ⟨_,_,rfl,?_⟩
   exact hh
 | m+1,k,gotL,fl,wl',v22,v23,v24,v26,v29,v30,v31,v32,v33,v34,v35,hk,hD,hkeep,hrow=>by
   have hlt:(k:Int)<(n:Int):=by omega
   have ih:=zq5 h hcs hcs0 hn hap hpt hC hF m (k+1)
   clear hF
   rw [if_neg (Nat.succ_ne_zero k)] at ih
   generalize (if k=0 then undef else Value.bool false)=v40
   simp only [zx5,Lead.round,Lead.r2,Lead.r3,Lead.r4,Lead.r5,Lead.r6,Lead.r7,Lead.r8] at ih ⊢
   have hwk:IntKind.i64.wrap ((k:Int)+1)=((k+1:Nat):Int):=by rw [IntKind.wrap_i64];omega
   refine zab hcs ?_
   rw [stepG_seq]
   simp only [goes_go]
   refine ⟨_,_,rfl,?_⟩
   refine zab hcs ?_
   rw [stepG_region]
   simp only [goes_go,List.size_toArray,List.length_cons,List.length_nil,Nat.reduceAdd,Nat.zero_add,List.range,List.range.loop]
   refine ⟨_,_,rfl,?_⟩
   refine zab hcs ?_
   refine goes_oper_k rfl rfl (by k_ne) (fun Kx hKx=>?_)
   go_simp
   refine hKx _ _ ⟨_,_,rfl,?_⟩
   clear hKx Kx
   refine zab hcs ?_
   rw [stepG_region_end]
   simp only [goes_go]
   refine ⟨_,_,rfl,?_⟩
   refine zab hcs ?_
   rw [stepG_seq]
   simp only [goes_go]
   refine ⟨_,_,rfl,?_⟩
   refine zab hcs ?_
   rw [stepG_cond (t:=true) (by first|rfl|(simp [Act.eval];omega))]
   simp only [goes_go,if_true,if_false,Bool.false_eq_true,↓reduceIte]
   refine ⟨_,_,rfl,?_⟩
   refine zab hcs ?_
   rw [stepG_skip]
   simp only [goes_go]
   refine ⟨_,_,rfl,?_⟩
   refine zab hcs ?_
   rw [stepG_seq]
   simp only [goes_go]
   refine ⟨_,_,rfl,?_⟩
   refine zab hcs ?_
   rw [stepG_region]
   simp only [goes_go,List.size_toArray,List.length_cons,List.length_nil,Nat.reduceAdd,Nat.zero_add,List.range,List.range.loop]
   refine ⟨_,_,rfl,?_⟩
   refine zgb hcs (i:=0) (by simp only [List.getElem?_toArray,List.getElem?_cons_succ,List.getElem?_cons_zero];rfl) (by rfl) (by k_ne) (s:=Instr.indexAt 22 (.slice adl n capl) (.int .i64 k)) rfl (fun vx wx hx=>?_)
   obtain ⟨ad,rfl,rfl,rfl⟩:=zks hx (Lead.of Tryd.underlying22) z07
   clear hx
   walk_nrm
   obtain ⟨ad2,e2,hsp,hcell⟩:=hpt k (by omega)
   cases e2
   rw [Int.toNat_natCast,zh8 hsp]
   have hadz:ad.block<y.z:=by rw [h.z];exact za5 (a:=⟨ad.block,ad.off+k,none⟩) hcell
   have hcell2:wx.cell? ⟨ad.block,ad.off+k,none⟩=some (sl (y.ptL k)):=by
    rw [← hcell]
    unfold World.cell?
    dsimp only
    rw [hkeep _ hadz]
   refine zgb hcs (i:=1) (by simp only [List.getElem?_toArray,List.getElem?_cons_succ,List.getElem?_cons_zero];rfl) (by rfl) (by k_ne) (s:=Instr.loadAt 33 (.pointer (some ⟨ad.block,ad.off+k,none⟩))) rfl (fun vx wx hx=>?_)
   obtain ⟨hcell3,rfl⟩:=zm8 hx (Lead.of Tryd.underlying33) rfl (fun h=>by rw [hcell2] at h;cases h)
   clear hx
   walk_nrm
   rw [hcell2] at hcell3
   cases hcell3
   refine zab hcs ?_
   rw [stepG_region_end]
   simp only [goes_go]
   refine ⟨_,_,rfl,?_⟩
   refine zab hcs ?_
   rw [stepG_seq]
   simp only [goes_go]
   refine ⟨_,_,rfl,?_⟩
   refine zab hcs ?_
   rw [stepG_region]
   simp only [goes_go,List.size_toArray,List.length_cons,List.length_nil,Nat.reduceAdd,Nat.zero_add,List.range,List.range.loop]
   refine ⟨_,_,rfl,?_⟩
   refine zpg (i:=0) hcs (by simp only [List.getElem?_toArray,List.getElem?_cons_succ,List.getElem?_cons_zero];rfl) (by rfl) (by k_ne) rfl Lead.func15 (by kernel_rfl) rfl ?_
   walk_nrm
   have hcs2:∀ (f:Frame),(f :: cs)≠[door Lead.prog]:=fun f e=>by simp only [List.cons.injEq] at e;exact hcs0 e.2
   refine z17 h (p:=k) (by omega) hkeep (by rw [hD.size];omega) (List.cons_ne_nil _ _) (hcs2 _) (hC k (by omega)) (fun fr2 wl2 x1 k1 x2 k2 e nwc hQ hs2 hk2 hPr hnd hon haa=>?_)
   obtain ⟨q1,q2,q3,q4,q5,q6,q7⟩:=hQ
   have hres:=z16 Lead.prog fr2.tmps wl2 #[]
   rw [q5,q6,q7] at hres
   refine zys (i:=0) (hcs2 _) (by simp only [List.getElem?_toArray,List.getElem?_cons_succ,List.getElem?_cons_zero];rfl) q2 q3 q4 (by rw [q1];exact Lead.func15) hres ?_
   have hD2:=hD.add hPr hs2 hk2 hnd hon hap haa
   have hkeep2:∀ b,b<y.z→wl2.heap[b]?=wl.heap[b]?:=fun b hb=>(hk2 b (by rw [hD.size];omega)).trans (hkeep b hb)
   have hrow2:wl2.heap[y.z]?=some (.cells (zbc n gotL) 54 (0,0)):=(hk2 y.z (by rw [hD.size];omega)).trans hrow
   clear hk2 hPr hnd hon haa hs2 hrow hD hkeep hres
   walk_nrm
   refine zab hcs ?_
   rw [stepG_region_end]
   simp only [goes_go]
   refine ⟨_,_,rfl,?_⟩
   refine zab hcs ?_
   rw [stepG_seq]
   simp only [goes_go]
   refine ⟨_,_,rfl,?_⟩
   refine zab hcs ?_
   rw [stepG_region]
   simp only [goes_go,List.size_toArray,List.length_cons,List.length_nil,Nat.reduceAdd,Nat.zero_add,List.range,List.range.loop]
   refine ⟨_,_,rfl,?_⟩
   refine zab hcs ?_
   refine goes_oper_k rfl rfl (by k_ne) (fun Kx hKx=>?_)
   go_simp
   refine hKx _ _ ⟨_,_,rfl,?_⟩
   clear hKx Kx
   refine zab hcs ?_
   refine goes_oper_k rfl rfl (by k_ne) (fun Kx hKx=>?_)
   go_simp
   refine hKx _ _ ⟨_,_,rfl,?_⟩
   clear hKx Kx
   refine zab hcs ?_
   refine goes_oper_k rfl rfl (by k_ne) (fun Kx hKx=>?_)
   go_simp
   refine hKx _ _ ⟨_,_,rfl,?_⟩
   clear hKx Kx
   refine zab hcs ?_
   refine goes_oper_k rfl rfl (by k_ne) (fun Kx hKx=>?_)
   go_simp
   refine hKx _ _ ⟨_,_,rfl,?_⟩
   clear hKx Kx
   refine zab hcs ?_
   rw [stepG_region_end]
   simp only [goes_go]
   refine ⟨_,_,rfl,?_⟩
   refine zab hcs ?_
   rw [stepG_seq]
   simp only [goes_go]
   refine ⟨_,_,rfl,?_⟩
   by_cases he:e=0
   case pos =>
    rw [if_pos he] at hD2
    refine zab hcs ?_
    rw [stepG_cond (t:=false) (by first|rfl|(simp [Act.eval];omega))]
    simp only [goes_go,if_true,if_false,Bool.false_eq_true,↓reduceIte]
    refine ⟨_,_,rfl,?_⟩
    refine zab hcs ?_
    rw [stepG_region]
    simp only [goes_go,List.size_toArray,List.length_cons,List.length_nil,Nat.reduceAdd,Nat.zero_add,List.range,List.range.loop]
    refine ⟨_,_,rfl,?_⟩
    have hbd:∀ w,(Instr.build 54 #[(0,.int .i64 k),(1,.bool true),(2,sl x1),(3,sl k1)]).run Lead.prog w=.ok (.agg #[.int .i64 k,.bool true,sl x1,sl k1]) w:=fun w=>run_build w 54 _ _ (by kernel_rfl)
    refine zab hcs ?_
    refine goes_oper_k rfl rfl (by k_ne) (fun Kx hKx=>?_)
    go_simp
    refine hKx _ _ ⟨_,_,rfl,?_⟩
    clear hKx Kx
    refine zgb hcs (i:=1) (by simp only [List.getElem?_toArray,List.getElem?_cons_succ,List.getElem?_cons_zero];rfl) (by rfl) (by k_ne) (s:=Instr.indexAt 49 (.slice (some ⟨y.z,0,none⟩) n n) (.int .i64 k)) rfl (fun vx wx hx=>?_)
    obtain ⟨ad4,e4,rfl,rfl⟩:=zl3 hx (Lead.of Tryd.underlying49) z06
    clear hx
    walk_nrm
    cases e4
    rw [Int.toNat_natCast,zh8 rfl]
    dsimp only
    rw [Nat.zero_add]
    refine zuu hcs (i:=2) (by simp only [List.getElem?_toArray,List.getElem?_cons_succ,List.getElem?_cons_zero];rfl) (by rfl) (by k_ne) (zgj rfl (g:=y.z) (o:=k * 4) (cs:=#[.int .i64 k,.bool true,sl x1,sl k1]) rfl rfl (by kernel_rfl) (by simp [Value.oneCell',sl]) hrow2 (by rw [zcr];simp;omega)).1 ?_
    walk_nrm
    refine zab hcs ?_
    rw [stepG_region_end]
    simp only [goes_go]
    refine ⟨_,_,rfl,?_⟩
    refine zab hcs ?_
    rw [stepG_region]
    simp only [goes_go,List.size_toArray,List.length_cons,List.length_nil,Nat.reduceAdd,Nat.zero_add,List.range,List.range.loop]
    refine ⟨_,_,rfl,?_⟩
    refine zab hcs ?_
    refine goes_oper_k rfl rfl (by k_ne) (fun Kx hKx=>?_)
    go_simp
    refine hKx _ _ ⟨_,_,rfl,?_⟩
    clear hKx Kx
    refine zab hcs ?_
    refine goes_oper_k rfl rfl (by k_ne) (fun Kx hKx=>?_)
    go_simp
    refine hKx _ _ ⟨_,_,rfl,?_⟩
    clear hKx Kx
    refine zab hcs ?_
    refine goes_oper_k rfl rfl (by k_ne) (fun Kx hKx=>?_)
    go_simp
    refine hKx _ _ ⟨_,_,rfl,?_⟩
    clear hKx Kx
    refine zab hcs ?_
    rw [stepG_region_end]
    simp only [goes_go]
    refine ⟨_,_,rfl,?_⟩
    refine zab hcs ?_
    rw [stepG_inLoop]
    simp only [goes_go]
    refine ⟨_,_,rfl,?_⟩
    have hrow3:(wx.setRow y.z (putC (zbc n gotL) (k * 4) (#[.int .i64 k,.bool true,sl x1,sl k1]:Array Value).toList)).heap[y.z]?=some (.cells (zbc n (gotL++[(k,.good x1 k1)])) 54 (0,0)):=by
     rw [zfl]
     exact setRow_heap _ _ _ _ _ _ hrow2
    exact ih (gotL++[(k,.good x1 k1)]) (fl++nwc) _ _ _ _ _ _ _ _ _ _ _ _ (by omega) (hD2.keep (fun b h1 h2=>setRow_other _ _ _ _ (by omega)) (by simp)) (fun b hb=>(setRow_other _ _ _ _ (by omega)).trans (hkeep2 b hb)) hrow3
   case neg =>
    rw [if_neg he] at hD2
    refine zab hcs ?_
    rw [stepG_cond (t:=true) (by first|rfl|(simp [Act.eval];omega))]
    simp only [goes_go,if_true,if_false,Bool.false_eq_true,↓reduceIte]
    refine ⟨_,_,rfl,?_⟩
    refine zab hcs ?_
    rw [stepG_region]
    simp only [goes_go,List.size_toArray,List.length_cons,List.length_nil,Nat.reduceAdd,Nat.zero_add,List.range,List.range.loop]
    refine ⟨_,_,rfl,?_⟩
    have hbd:∀ w,(Instr.build 54 #[(0,.int .i64 k)]).run Lead.prog w=.ok (.agg #[.int .i64 k,.bool false,.slice none 0 0,.slice none 0 0]) w:=fun w=>run_build w 54 _ _ (by kernel_rfl)
    refine zab hcs ?_
    refine goes_oper_k rfl rfl (by k_ne) (fun Kx hKx=>?_)
    go_simp
    refine hKx _ _ ⟨_,_,rfl,?_⟩
    clear hKx Kx
    refine zgb hcs (i:=1) (by simp only [List.getElem?_toArray,List.getElem?_cons_succ,List.getElem?_cons_zero];rfl) (by rfl) (by k_ne) (s:=Instr.indexAt 49 (.slice (some ⟨y.z,0,none⟩) n n) (.int .i64 k)) rfl (fun vx wx hx=>?_)
    obtain ⟨ad4,e4,rfl,rfl⟩:=zl3 hx (Lead.of Tryd.underlying49) z06
    clear hx
    walk_nrm
    cases e4
    rw [Int.toNat_natCast,zh8 rfl]
    dsimp only
    rw [Nat.zero_add]
    refine zuu hcs (i:=2) (by simp only [List.getElem?_toArray,List.getElem?_cons_succ,List.getElem?_cons_zero];rfl) (by rfl) (by k_ne) (zgj rfl (g:=y.z) (o:=k * 4) (cs:=#[.int .i64 k,.bool false,.slice none 0 0,.slice none 0 0]) rfl rfl (by kernel_rfl) (by simp [Value.oneCell',sl]) hrow2 (by rw [zcr];simp;omega)).1 ?_
    walk_nrm
    refine zab hcs ?_
    rw [stepG_region_end]
    simp only [goes_go]
    refine ⟨_,_,rfl,?_⟩
    refine zab hcs ?_
    rw [stepG_region]
    simp only [goes_go,List.size_toArray,List.length_cons,List.length_nil,Nat.reduceAdd,Nat.zero_add,List.range,List.range.loop]
    refine ⟨_,_,rfl,?_⟩
    refine zab hcs ?_
    refine goes_oper_k rfl rfl (by k_ne) (fun Kx hKx=>?_)
    go_simp
    refine hKx _ _ ⟨_,_,rfl,?_⟩
    clear hKx Kx
    refine zab hcs ?_
    refine goes_oper_k rfl rfl (by k_ne) (fun Kx hKx=>?_)
    go_simp
    refine hKx _ _ ⟨_,_,rfl,?_⟩
    clear hKx Kx
    refine zab hcs ?_
    refine goes_oper_k rfl rfl (by k_ne) (fun Kx hKx=>?_)
    go_simp
    refine hKx _ _ ⟨_,_,rfl,?_⟩
    clear hKx Kx
    refine zab hcs ?_
    rw [stepG_region_end]
    simp only [goes_go]
    refine ⟨_,_,rfl,?_⟩
    refine zab hcs ?_
    rw [stepG_inLoop]
    simp only [goes_go]
    refine ⟨_,_,rfl,?_⟩
    have hrow3:(wx.setRow y.z (putC (zbc n gotL) (k * 4) (#[.int .i64 k,.bool false,.slice none 0 0,.slice none 0 0]:Array Value).toList)).heap[y.z]?=some (.cells (zbc n (gotL++[(k,.bad)])) 54 (0,0)):=by
     rw [zfl]
     exact setRow_heap _ _ _ _ _ _ hrow2
    exact ih (gotL++[(k,.bad)]) (fl++nwc) _ _ _ _ _ _ _ _ _ _ _ _ (by omega) (hD2.keep (fun b h1 h2=>setRow_other _ _ _ _ (by omega)) (by simp)) (fun b hb=>(setRow_other _ _ _ _ (by omega)).trans (hkeep2 b hb)) hrow3
theorem z5c {n:Nat}{y:PIn}(h:zcd X2 B nw wl wc n y)(hcs:cs≠[door Lead.prog])(hcs0:cs≠[])(hn:n≤64){adl:Option Addr}{capl:Nat}{aC:Nat→Ans}{Bp:Nat→Nat→Prop}{wc2:World}(hap:∀ p q b,p≠q→Bp p b→¬ Bp q b)(hpt:∀ p,p<n→∃ ad,adl=some ad∧ad.spot=none∧wl.cell? ⟨ad.block,ad.off+p,none⟩=some (sl (y.ptL p)))(hC:∀ p,p<n→Came y p (aC p) (Bp p) wc2)(hF:∀ (gotL:List (Nat×Ans)) (fl:List Nat) (wl':World),Done y aC Bp wc2 n gotL fl wl'→(∀ b,b<y.z→wl'.heap[b]?=wl.heap[b]?)→wl'.heap[y.z]?=some (.cells (zbc n gotL) 54 (0,0))→To Lead.prog Gl ((base 19).at ⟨#[sl y.svL,.int .i64 y.hop,.int .i64 y.hops,.slice adl n capl,undef,undef,undef,undef,.slice none 0 0,undef,undef,undef,undef,undef,undef,.slice (some ⟨y.z,0,none⟩) n n,undef,undef,undef,undef,undef,undef,undef,undef,undef,undef,undef,undef,undef,.bool false,undef,undef,undef,undef,undef,undef,undef,undef,undef,undef,(if n=0 then undef else .bool false),undef,undef,undef,undef,undef,undef,undef,undef,undef,undef,undef,undef,undef,undef,undef,undef,undef,undef,undef,undef,undef,undef,undef,undef,undef,undef],[]⟩ [.code Lead.tail]) cs wl')(v22 v23 v29 v35:Value): To Lead.prog Gl ((base 19).at ⟨#[sl y.svL,.int .i64 y.hop,.int .i64 y.hops,.slice adl n capl,undef,undef,undef,undef,.slice none 0 0,undef,undef,undef,undef,undef,undef,.slice none 0 0,undef,undef,undef,undef,undef,undef,v22,v23,.slice none 0 0,.int .i64 y.svL.2.1,.int .i64 n,undef,.int .i64 n,.bool false,.bool false,.bool false,undef,undef,undef,v35,undef,undef,undef,undef,undef,undef,undef,undef,undef,undef,undef,undef,undef,undef,undef,undef,undef,undef,undef,undef,undef,undef,undef,undef,undef,undef,undef,undef,undef,undef,undef],[]⟩ [.code Lead.work]) cs wl:=by
 have hL:=zq5 h hcs hcs0 hn hap hpt hC hF n 0 [] []
 clear hF
 simp only [Lead.work,Lead.r1]
 refine zab hcs ?_
 rw [stepG_seq]
 simp only [goes_go]
 refine ⟨_,_,rfl,?_⟩
 refine zab hcs ?_
 rw [stepG_region]
 simp only [goes_go,List.size_toArray,List.length_cons,List.length_nil,Nat.reduceAdd,Nat.zero_add,List.range,List.range.loop]
 refine ⟨_,_,rfl,?_⟩
 refine zab hcs ?_
 refine goes_oper_k rfl rfl (by k_ne) (fun Kx hKx=>?_)
 go_simp
 refine hKx _ _ ⟨_,_,rfl,?_⟩
 clear hKx Kx
 refine zgb hcs (i:=1) (by simp only [List.getElem?_toArray,List.getElem?_cons_succ,List.getElem?_cons_zero];rfl) (by rfl) (by k_ne) (s:=Instr.makeSlice 49 (.int .i64 n) (.int .i64 n)) rfl (fun vx wx hx=>?_)
 obtain ⟨rfl,rfl⟩:=zzz hx (by omega)
 clear hx
 walk_nrm
 obtain ⟨w1,hw1⟩:∃ w1,wl.alloc (.cells (zbc n []) 54)=w1:=⟨_,rfl⟩
 have hD:Done y aC Bp wc2 0 [] [] w1:=by
  rw [← hw1]
  exact ⟨rfl,fun p hp=>absurd hp (Nat.not_lt_zero p),fun j hj=>absurd hj (Nat.not_lt_zero j),fun q hq=>absurd hq List.not_mem_nil,List.nodup_nil,by rw [World.size_alloc,h.z];rfl⟩
 have hk1:∀ b,b<y.z→w1.heap[b]?=wl.heap[b]?:=fun b hb=>by rw [← hw1];exact Below.heap_alloc _ _ _ (by rw [← h.z];exact hb)
 have hr1:w1.heap[y.z]?=some (.cells (zbc n []) 54 (0,0)):=by rw [← hw1,h.z];exact heap_alloc_new _ _
 rw [hw1,← h.z]
 clear hw1
 refine zab hcs ?_
 refine goes_oper_k rfl rfl (by k_ne) (fun Kx hKx=>?_)
 go_simp
 refine hKx _ _ ⟨_,_,rfl,?_⟩
 clear hKx Kx
 refine zab hcs ?_
 refine goes_oper_k rfl rfl (by k_ne) (fun Kx hKx=>?_)
 go_simp
 refine hKx _ _ ⟨_,_,rfl,?_⟩
 clear hKx Kx
 refine zab hcs ?_
 rw [stepG_region_end]
 simp only [goes_go]
 refine ⟨_,_,rfl,?_⟩
 refine zab hcs ?_
 rw [stepG_seq]
 simp only [goes_go]
 refine ⟨_,_,rfl,?_⟩
 refine zab hcs ?_
 rw [stepG_block]
 simp only [goes_go]
 refine ⟨_,_,rfl,?_⟩
 refine zab hcs ?_
 rw [stepG_loop]
 simp only [goes_go]
 refine ⟨_,_,rfl,?_⟩
 exact hL w1 _ _ _ _ _ _ _ _ _ _ _ (by omega) hD hk1 hr1
end
end
section
open Go.Conc Go.ConcN Go.ConcN.Gen Go.RowKit Go.Conc.Lib Go.ConcR.Gen
section
variable {X2:Exts} {B:Bas} {nw:List Nat} {wl wc:World}
theorem zun {vl vc:Sl}{bs:List Int}(h:zfe X2 B nw wl vl vc bs){x d y e:Nat}(h1:zb7 vl bs=some (x,d))(h2:zb7 vc bs=some (y,e)): ∃ q,cor B nw x=some (y,q)∧e=d+q:=by
 unfold zb7 at h1 h2
 split at h1
 ·cases h1
 rename_i hne
 rw [if_neg hne] at h2
 have hr:=h.rel
 obtain ⟨av,n,c⟩:=vl
 obtain ⟨av',n',c'⟩:=vc
 unfold sl at hr
 dsimp only at hr h1 h2
 cases hr with
 | nils=>cases h1
 | gap a' _=>cases h1
 | slice a a' _ _ har =>
   obtain ⟨_,b',q,k1,rfl⟩:=har
   simp only [Option.map_some,Option.some.injEq,Prod.mk.injEq] at h1 h2
   obtain ⟨rfl,rfl⟩:=h1
   obtain ⟨rfl,rfl⟩:=h2
   exact ⟨q,k1,rfl⟩
theorem zq6 {n:Nat}{y:PIn}(h:zcd X2 B nw wl wc n y){p:Nat}(hp:p<n){M1 M2 s bA:Nat}{nwc fl:List Nat}(hs:y.z+1≤s)(hfl:∀ i,i<nwc.length→fl[s - (y.z+1)+i]?=nwc[i]?):
  Tri (cor (y.basL p M1) (List.range' s nwc.length)) (cor (y.bas p M2) nwc) (cor B (nw++bA :: fl)):=by
 intro b x d yy e h1 h2
 have hzN:y.z=B.N+nw.length:=h.z.trans h.rel.size
 rcases Nat.lt_or_ge b (y.z+2) with hb|hb
 ·rw [zbs (by show b<y.z+2;exact hb)] at h1 h2
  have h1:zcl y.z (fun b=>if (y.σ b).isSome then some (b,0) else none) (zb7 y.svL y.sb) (zb7 (y.ptL p) (y.pb p)) b=some (x,d):=h1
  have h2:zcl y.z y.σ (zb7 y.svC y.sb) (zb7 (y.ptC p) (y.pb p)) b=some (yy,e):=h2
  unfold zcl at h1 h2
  by_cases c1:b<y.z
  ·rw [if_pos c1] at h1 h2
   have hc:cor B nw b=some (yy,e):=by rw [h.σ] at h2;dsimp only at h2;rwa [if_pos c1] at h2
   dsimp only at h1
   rw [if_pos (by rw [h2];rfl)] at h1
   cases h1
   exact ⟨e,za1 hc,by omega⟩
  ·rw [if_neg c1] at h1 h2
   by_cases c2:b=y.z
   ·rw [if_pos c2] at h1 h2
    obtain ⟨q,k1,k2⟩:=zun h.sv h1 h2
    exact ⟨q,za1 k1,k2⟩
   ·rw [if_neg c2] at h1 h2
    rw [if_pos (by omega)] at h1 h2
    obtain ⟨q,k1,k2⟩:=zun (h.pt p hp) h1 h2
    exact ⟨q,za1 k1,k2⟩
 ·obtain ⟨i,rfl⟩:∃ i,b=y.z+2+i:=⟨b - (y.z+2),by omega⟩
  have e1:cor (y.basL p M1) (List.range' s nwc.length) (y.z+2+i)=((List.range' s nwc.length)[i]?).map fun k=>(k,0):=zcj (B:=y.basL p M1)
  have e2:cor (y.bas p M2) nwc (y.z+2+i)=(nwc[i]?).map fun k=>(k,0):=zcj (B:=y.bas p M2)
  rw [e1] at h1
  rw [e2] at h2
  obtain ⟨k1,q1,q2⟩:=Option.map_eq_some_iff.1 h1
  obtain ⟨k2,q3,q4⟩:=Option.map_eq_some_iff.1 h2
  cases q2
  cases q4
  have hi:=(List.getElem?_eq_some_iff.1 q3).1
  rw [List.getElem?_range' (by omega)] at q1
  cases q1
  refine ⟨0,?_,rfl⟩
  have e3:s+1 * i=B.N+(nw.length+1+(s - (y.z+1)+i)):=by omega
  rw [e3,zcj,List.getElem?_append_right (by omega),show nw.length+1+(s - (y.z+1)+i) - nw.length=(s - (y.z+1)+i)+1 by omega,List.getElem?_cons_succ,hfl i hi,q3]
  rfl
theorem z1c (x:Operand): @okA E0 x=@okA E1 x:=by cases x <;> rfl
theorem z2d (P:Program)(cv:Bool)(o:Op): @okOp E0 P cv o=@okOp E1 P cv o:=by
 have e:@okA E0=@okA E1:=funext z1c
 cases o <;> first
  | rfl
  | (simp only [okOp,e];done)
  | (simp only [okOp,zkj,e];rfl)
theorem z5v (c:Code)(h:@zam E0 Lead.prog false c=true): @zam E1 Lead.prog false c=true:=by
 have e:@okA E0=@okA E1:=funext z1c
 have e2:@okOp E0 Lead.prog false=@okOp E1 Lead.prog false:=funext (z2d _ _)
 have:∀ c,@zam E0 Lead.prog false c=@zam E1 Lead.prog false c:=fun c=>by
  induction c <;> simp_all [zam]
 rw [← this]
 exact h
theorem zy7 {n:Nat}{y:PIn}(hX:znl X2)(h:zcd X2 B nw wl wc n y){aC:Nat→Ans}{Bp:Nat→Nat→Prop}{wc2 wl':World}{gotL got:List (Nat×Ans)}{fl:List Nat}{bA:Nat}(hD:Done y aC Bp wc2 n gotL fl wl')(hcnt:∀ p,got.countP (·.1 == p)=if p<n then 1 else 0)(haC:∀ x∈got,aC x.1=x.2): @RRel X2 (cor B (nw++bA :: fl)) (zbc n gotL) (zbc n got):=by
 refine ⟨by rw [zcr,zcr],fun m u v hu hv=>?_⟩
 have hm:=(Array.getElem?_eq_some_iff.1 hu).1
 rw [zcr] at hm
 obtain ⟨p,j,hj,rfl⟩:∃ p j,j<4∧m=p * 4+j:=⟨m / 4,m % 4,Nat.mod_lt _ (by omega),by omega⟩
 have hp:p<n:=by omega
 obtain ⟨s,nwc,x1,k1,x2,k2,e,hPr,q2,q3,q4,q5,q6⟩:=hD.part p hp
 have hcL:gotL.countP (·.1 == p)≤1:=by
  have e1:gotL.countP (·.1 == p)=(gotL.map (·.1)).count p:=by rw [List.count,List.countP_map];rfl
  rw [e1,hD.map]
  exact List.nodup_iff_count.1 List.nodup_range p
 have hnL:∀ x∈gotL,x.1<n:=fun x hx=>by
  have:x.1∈gotL.map (·.1):=List.mem_map_of_mem hx
  rw [hD.map] at this
  exact List.mem_range.1 this
 have hnC:∀ x∈got,x.1<n:=fun x hx=>by
  refine Decidable.byContradiction fun hge=>?_
  have h0:=hcnt x.1
  rw [if_neg hge] at h0
  exact (List.countP_eq_zero.1 h0 x hx) (by simp)
 have hin:(p,aC p)∈got:=by
  have h1:=hcnt p
  rw [if_pos hp] at h1
  obtain ⟨x,hx,hxp⟩:=List.countP_pos_iff.1 (show 0<got.countP (·.1 == p) by omega)
  have e1:x.1=p:=by simpa using hxp
  have e2:=haC x hx
  rw [e1] at e2
  have:x=(p,aC p):=by rw [e2,← e1]
  exact this ▸ hx
 have hCC:got.countP (·.1 == p)≤1:=by rw [hcnt p,if_pos hp];exact Nat.le_refl _
 have hT:=zq6 (M1:=hPr.choose) (M2:=hPr.choose_spec.choose) (bA:=bA) h hp q2 q4
 obtain ⟨w2,x,k,n1,n2,r1,r2,r3,r4⟩:=hPr.choose_spec.choose_spec
 have rx:=zpf hT hX r1 r2
 have rk:=zpf hT hX r3 r4
 rw [q5] at hin
 have atL:=fun j v hj=>zrk n gotL q6 hcL hnL j v hj
 have atC:=fun j v hj=>zrk n got hin hCC hnC j v hj
 clear hT n1 n2 r1 r2 r3 r4
 have pair:∀ {v1 v2:Value},@VRel X2 (cor B (nw++bA :: fl)) v1 v2→∀ {aL aC2:Ans},(∀ (j:Nat) v,(aL.four p)[j]?=some v→(zbc n gotL)[p * 4+j]?=some v)→(∀ (j:Nat) v,(aC2.four p)[j]?=some v→(zbc n got)[p * 4+j]?=some v)→(aL.four p)[j]?=some v1→(aC2.four p)[j]?=some v2→@VRel X2 (cor B (nw++bA :: fl)) u v:=by
  intro v1 v2 hr aL aC2 f1 f2 g1 g2
  have t1:=f1 _ _ g1
  have t2:=f2 _ _ g2
  rw [hu] at t1
  rw [hv] at t2
  cases t1
  cases t2
  exact hr
 by_cases he:e=0
 ·simp only [if_pos he] at atL atC
  have hj':j=0∨j=1∨j=2∨j=3:=by omega
  rcases hj' with rfl|rfl|rfl|rfl
  ·exact pair (@VRel.int X2 _ .i64 p) atL atC rfl rfl
  ·exact pair (@VRel.bool X2 _ true) atL atC rfl rfl
  ·exact pair rx atL atC rfl rfl
  ·exact pair rk atL atC rfl rfl
 ·simp only [if_neg he] at atL atC
  have hj':j=0∨j=1∨j=2∨j=3:=by omega
  rcases hj' with rfl|rfl|rfl|rfl
  ·exact pair (@VRel.int X2 _ .i64 p) atL atC rfl rfl
  ·exact pair (@VRel.bool X2 _ false) atL atC rfl rfl
  ·exact pair (@VRel.nils X2 _ 0 0) atL atC rfl rfl
  ·exact pair (@VRel.nils X2 _ 0 0) atL atC rfl rfl
theorem z0x {n:Nat}{y:PIn}(hX:znl X2)(h:zcd X2 B nw wl wc n y)(hcode:∀ c,@zam E1 Lead.prog false c=true→B.code c){K:Nat→Prop}(hKi:∀ b,Img B nw b→K b)(hKm:∀ b,b<B.M→K b){Shun:Loc→Prop}{a0 a1 a2 a3:Value}{T:Array Value}{got gotL:List (Nat×Ans)}{Wg bA:Nat}{Bp:Nat→Nat→Prop}{w' wl':World}{fl:List Nat}{aC:Nat→Ans}(hG:znm K Shun wc n (Came y) a0 a1 a2 a3 T got Wg bA Bp w')(hD:Done y aC Bp w' n gotL fl wl')(hkeep:∀ b,b<y.z→wl'.heap[b]?=wl.heap[b]?)(hrow:wl'.heap[y.z]?=some (.cells (zbc n gotL) 54 (0,0)))(haC:∀ x∈got,aC x.1=x.2){t:Tape}(ht:∀ k q,t (wl'.drawn+k) q=w'.tape (w'.drawn+k) q): @WRel X2 B (nw++bA :: fl) (relay wl' t) w':=by
 have hzN:y.z=B.N+nw.length:=h.z.trans h.rel.size
 have hMc:=h.rel.msize
 have hsz:=hG.size
 have hbA:bA<w'.heap.size:=(Array.getElem?_eq_some_iff.1 hG.row).1
 have hbig:=hG.bigA
 have hwI:∀ k∈nw,K k:=fun k hk=>by
  obtain ⟨i,hi⟩:=List.getElem?_of_mem hk
  exact hKi k ⟨B.N+i,0,by rw [zcj,hi];rfl⟩
 have hfl:∀ q∈fl,q<w'.heap.size∧q≠bA∧¬ K q∧y.zc≤q:=fun q hq=>by
  obtain ⟨p,_,k1,k2⟩:=hD.own q hq
  obtain ⟨m1,m2,m3,m4⟩:=hG.newB p q k1
  exact ⟨m1,m3,m4,k2⟩
 have hzc:=h.zc
 refine @WRel.mk X2 B _ _ _ ?_ (by omega) (fun k hk=>?_) ?_ h.rel.lowOld (fun b b' d hb hB=>?_) (fun i k hk=>?_) ht (fun e=>?_)
 ·show wl'.heap.size=_
  rw [hD.size,hzN,List.length_append,List.length_cons]
  omega
 ·rcases List.mem_append.1 hk with hk|hk
  ·have:=h.rel.inNew k hk
   omega
  ·rcases List.mem_cons.1 hk with rfl|hk
   ·omega
   ·have:=hfl k hk
    omega
 ·rw [List.nodup_append]
  refine ⟨h.rel.nodup,List.nodup_cons.2 ⟨fun hm=>(hfl bA hm).2.1 rfl,hD.nodup⟩,fun a ha b hb hab=>?_⟩
  subst hab
  rcases List.mem_cons.1 hb with rfl|hb
  ·exact hG.newA (hwI _ ha)
  ·exact (hfl a hb).2.2.1 (hwI a ha)
 ·obtain ⟨o,o',k1,k2,k3⟩:=h.rel.old b b' d hb hB
  exact ⟨o,o',(hkeep b (by omega)).trans k1,(hG.keep b' (hKi b' ⟨b,d,by rw [zbs hb];exact hB⟩)).trans k2,@ORel.up X2 B nw _ _ _ _ _ _ k3⟩
 ·rcases Nat.lt_or_ge i nw.length with hi|hi
  ·rw [List.getElem?_append_left hi] at hk
   obtain ⟨o,o',k1,k2,k3⟩:=h.rel.new i k hk
   exact ⟨o,o',(hkeep _ (by omega)).trans k1,(hG.keep k (hwI k (List.mem_of_getElem? hk))).trans k2,@NRel.up X2 B nw _ _ _ k3⟩
  ·rw [List.getElem?_append_right hi] at hk
   obtain ⟨m,rfl⟩:∃ m,i=nw.length+m:=⟨i - nw.length,by omega⟩
   rw [Nat.add_sub_cancel_left] at hk
   cases m with
   | zero =>
     rw [List.getElem?_cons_zero] at hk
     cases hk
     refine ⟨_,_,?_,hG.row,@NRel.cells X2 _ _ _ _ _ _ (zy7 hX h hD hG.cnt haC)⟩
     show wl'.heap[B.N+(nw.length+0)]?=_
     rw [show B.N+(nw.length+0)=y.z by omega]
     exact hrow
   | succ j =>
     rw [List.getElem?_cons_succ] at hk
     obtain ⟨p,hp,s,nwc,x1,k1,x2,k2,hPr,q2,q3,q4,q5,q6⟩:=hD.seg j (List.getElem?_eq_some_iff.1 hk).1
     have hT:=zq6 (M1:=hPr.choose) (M2:=hPr.choose_spec.choose) (bA:=bA) h hp q2 q6
     obtain ⟨w2,x,kk,n1,n2,r1,r2,r3,r4⟩:=hPr.choose_spec.choose_spec
     obtain ⟨i',hi'⟩:∃ i',y.z+1+j=s+i':=⟨y.z+1+j - s,by omega⟩
     have hil:i'<nwc.length:=by omega
     have hc:nwc[i']?=some k:=by
      rw [← q6 i' hil,show s - (y.z+1)+i'=j by omega]
      exact hk
     obtain ⟨o,o1,u1,u2,u3⟩:=n1 i' (s+i') (by rw [List.getElem?_range' (by omega)];simp)
     obtain ⟨o',o2,v1,v2,v3⟩:=n2 i' k hc
     have u1:w2.heap[y.z+2+i']?=some o:=u1
     have v1:w2.heap[y.z+2+i']?=some o':=v1
     rw [u1] at v1
     cases v1
     refine ⟨o1,o2,?_,v2,z1p hT hX (fun c hc=>hcode c (z5v c hc)) u3 v3⟩
     show wl'.heap[B.N+(nw.length+(j+1))]?=_
     rw [show B.N+(nw.length+(j+1))=s+i' by omega]
     exact u2
 ·rcases h.rel.calm e with g|⟨b,c,e,m,g1,g2,g3⟩
  ·exact .inl fun k hk=>(hG.keep k (hKm k hk)).trans (g k hk)
  ·exact .inr ⟨b,c,e,m,g1,(hkeep b (by omega)).trans g2,g3⟩
end
end
section
open Go.Conc Go.ConcN Go.ConcN.Gen Go.RowKit Go.Conc.Lib Go.ConcR.Gen
inductive All2 {α:Type}(R:α→α→Prop): List α→List α→Prop
 | nil:All2 R [] []
 | cons {a b:α} {l m:List α} (h:R a b) (t:All2 R l m):All2 R (a :: l) (b :: m)
theorem All2.at {α:Type}{R:α→α→Prop}{l m:List α}(h:All2 R l m): l.length=m.length∧∀ (i:Nat) a b,l[i]?=some a→m[i]?=some b→R a b:=by
 induction h with
 | nil=>exact ⟨rfl,fun i a b h=>by cases h⟩
 | cons h t ih =>
   refine ⟨by rw [List.length_cons,List.length_cons,ih.1],fun i a b ha hb=>?_⟩
   cases i with
   | zero=>cases ha;cases hb;exact h
   | succ i=>exact ih.2 i a b ha hb
section
variable {X2:Exts} {σ:Nat→Option (Nat×Nat)}
theorem zy6 {l m:List Value}(h:All2 (@VRel X2 σ) l m): @RRel X2 σ l.toArray m.toArray :=
 ⟨h.at.1,fun i v v' hv hv'=>h.at.2 i v v' (by simpa using hv) (by simpa using hv')⟩
theorem zjs (ha:X2.anyOk=true){v:Value}(h:Tame v): @VRel X2 σ undef v:=by
 rcases h with h|rfl
 ·refine @VRel.any X2 _ v ?_ ha
  revert h
  cases v <;> intro h <;> first
   | rfl
   | (cases h)
 ·exact @VRel.tuple X2 _ #[] #[] rfl (fun i v v' hv=>by cases hv)
set_option maxHeartbeats 2000000 in
theorem zsr (ha:X2.anyOk=true){n z bA:Nat}{E:zar}{s:SBx}{x0 x1 x2 x3 a0 a1 a2 a3:Value}{T:Array Value}(hn:E.n=n)(h:IsO E s a0 a1 a2 a3 (min 4 n) bA T)(hz:σ z=some (bA,0))(r0:@VRel X2 σ x0 a0)(r1:@VRel X2 σ x1 a1)(r2:@VRel X2 σ x2 a2)(r3:@VRel X2 σ x3 a3):
  @RRel X2 σ #[x0,x1,x2,x3,undef,undef,undef,undef,.slice none 0 0,undef,undef,undef,undef,undef,undef,.slice (some ⟨z,0,none⟩) n n,undef,undef,undef,undef,undef,undef,undef,undef,undef,undef,undef,undef,undef,.bool false,undef,undef,undef,undef,undef,undef,undef,undef,undef,undef,(if n=0 then undef else .bool false),undef,undef,undef,undef,undef,undef,undef,undef,undef,undef,undef,undef,undef,undef,undef,undef,undef,undef,undef,undef,undef,undef,undef,undef,undef,undef] T:=by
 obtain ⟨v12,v13,v14,v19,v20,v21,v22,v23,v24,v25,v26,v30,v31,v32,v33,v34,v35,v36,v37,v38,v39,v41,v42,v43,v44,v45,v46,v47,v48,v49,v50,v51,v52,rfl,hT⟩:=h
 simp only [List.forall_mem_cons] at hT
 obtain ⟨t12,t13,t14,t19,t20,t21,t22,t23,t24,t25,t26,t30,t31,t32,t33,t34,t35,t36,t37,t38,t39,t41,t42,t43,t44,t45,t46,t47,t48,t49,t50,t51,t52,_⟩:=hT
 rw [hn]
 have h15:@VRel X2 σ (.slice (some ⟨z,0,none⟩) n n) (.slice (some ⟨bA,0,none⟩) n n):=@VRel.slice X2 _ _ _ _ _ ⟨rfl,bA,0,hz,rfl⟩
 have h40:@VRel X2 σ (if n=0 then undef else .bool false) (if min 4 n=0 then undef else .bool false):=by
  by_cases h:n=0
  ·rw [if_pos h,if_pos (by omega)]
   exact zjs ha (.inr rfl)
  ·rw [if_neg h,if_neg (by omega)]
   exact @VRel.bool X2 _ _
 generalize (if n=0 then undef else Value.bool false)=u40 at h40 ⊢
 generalize (if min 4 n=0 then undef else Value.bool false)=w40 at h40 ⊢
 refine zy6 ?_
 repeat (refine .cons (by first
  | assumption
  | exact zjs ha (by assumption)
  | exact zjs ha (.inl rfl)
  | exact zjs ha (.inr rfl)
  | exact @VRel.nils X2 _ 0 0
  | exact @VRel.bool X2 _ false) ?_)
 exact .nil
end
theorem z1s:tl18=Lead.tail:=by rfl
theorem z1r {X2:Exts}{B:Bas}{σ:Nat→Option (Nat×Nat)}(ha:X2.anyOk=true)(hx:X2.ext 19=false)(hok:@zam X2 Lead.prog B.cv Lead.tail=true){T T':Array Value}(h:@RRel X2 σ T T'):
  @zbp X2 Lead.prog B σ ((base 19).at ⟨T,[]⟩ [.code Lead.tail]) ((base 19).at ⟨T',[]⟩ [.code tl18]):=by
 rw [z1s]
 exact @zbp.mk X2 Lead.prog B σ _ _ rfl h (@zgr.cons X2 _ _ _ _ _ _ _ (@IRel.code X2 _ _ _ Lead.tail hok) (@zgr.nil X2 _ _ _)) (zff.nil) (.inl ⟨rfl,rfl⟩) ⟨rfl,rfl⟩ (zpa.none) hx
end
section
open Go.Conc Go.ConcN Go.ConcN.Gen Go.RowKit Go.Conc.Lib Go.ConcR.Gen
structure Lock (B:Bas)(nw:List Nat)(wc:World)(Shun:Loc→Prop): Prop where
 img:∀ b,Img B nw b∨b<B.M→zet Shun b
 fresh:∀ b,wc.heap.size≤b→zet Shun b
structure Same (B:Bas)(wS wc:World): Prop where
 os:wc.os=wS.os
 out:wc.output=wS.output
def zyh (X2:Exts)(B:Bas)(base:List Frame)(m0:Machine)(t0:Trace)(wS:World)(fr:Frame)(cs:List Frame)(wl:World): Prop :=
 ∃ (N:Nat) (gs:Array Goroutine) (wc:World) (sl:Option (Nat×Nat)) (t:Trace) (Shun:Loc→Prop) (nw:List Nat) (fr':Frame) (cs':List Frame),
  runNT Tryd.prog N m0 t0=(.next (crowd gs wc sl),t)∧gs[0]?=some (G fr' cs')∧Frm Tryd.prog Shun wc.heap.size gs t∧Lock B nw wc Shun∧@WRel X2 B nw wl wc∧@zbp X2 Lead.prog B (cor B nw) fr fr'∧@zbl X2 Lead.prog B (cor B nw) base cs cs'∧Same B wS wc
theorem zxg {p:Nat}{a:Ans}: ∀ (got:List (Nat×Ans)),(p,a)∈got→got.countP (·.1 == p)≤1→got.find? (·.1 == p)=some (p,a)
 | [],h,_=>by cases h
 | x :: l,h,hc=>by
   rw [List.countP_cons] at hc
   rw [List.find?_cons]
   by_cases hx:(x.1 == p)=true
   ·rw [hx]
    rw [if_pos hx] at hc
    rcases List.mem_cons.1 h with rfl|h
    ·rfl
    ·exact absurd (List.countP_eq_zero.1 (by omega:l.countP (·.1 == p)=0) _ h) (by simp)
   ·have hx':(x.1 == p)=false:=by simpa using hx
    rw [hx']
    rw [if_neg hx] at hc
    rcases List.mem_cons.1 h with rfl|h
    ·exact absurd (by simp:((p,a).1 == p)=true) hx
    ·exact zxg l h (by omega)
theorem zxd {a:Array Value}(h:a.size=4): ∃ x0 x1 x2 x3,a=#[x0,x1,x2,x3]:=by
 obtain ⟨l⟩:=a
 match l,h with
 | [x0,x1,x2,x3],_=>exact ⟨x0,x1,x2,x3,rfl⟩
section
variable {X2:Exts} {B:Bas} {nw:List Nat} {wl wc:World} {cs:List Frame}
theorem z1v (hX:znl X2)(ha:X2.anyOk=true)(hx19:X2.ext 19=false)(hok:@zam X2 Lead.prog B.cv Lead.tail=true)(hB:z04 B)(hcode:∀ c,@zam E1 Lead.prog false c=true→B.code c){base:List Frame}{m0:Machine}{t0:Trace}{wS:World}{a a':Array Value}(h4:a.size=4)(hr:@RRel X2 (cor B nw) a a')(hcs:cs≠[door Lead.prog])(hcs0:cs≠[]){N:Nat}{gs:Array Goroutine}{sl0:Option (Nat×Nat)}{t:Trace}{Shun:Loc→Prop}{cs':List Frame}(hrun:runNT Tryd.prog N m0 t0=(.next (crowd gs wc sl0),t))(h0:gs[0]?=some (G (Frame.enter Tryd.prog 19 a' .normal) cs'))(hF:Frm Tryd.prog Shun wc.heap.size gs t)(hL:Lock B nw wc Shun)(hW:@WRel X2 B nw wl wc)(hc:@zbl X2 Lead.prog B (cor B nw) base cs cs')(hS:Same B wS wc): To Lead.prog (zyh X2 B base m0 t0 wS) (Frame.enter Lead.prog 19 a .normal) cs wl:=by
 obtain ⟨x0,x1,x2,x3,rfl⟩:=zxd h4
 obtain ⟨y0,y1,y2,y3,rfl⟩:=zxd (hr.1 ▸ h4)
 have r0:=hr.2 0 x0 y0 rfl rfl
 have r1:=hr.2 1 x1 y1 rfl rfl
 have r2:=hr.2 2 x2 y2 rfl rfl
 have r3:=hr.2 3 x3 y3 rfl rfl
 refine z5y hcs hcs0 (z2z hW) ⟨y0,r0⟩ ⟨y3,r3⟩ (fun svL sb hop hops adl n capl ptL pb v22 v23 v29 v35 hG=>?_)
 have hn:=hG.n64
 obtain ⟨y,adc,bR,oR,hE,rfl,rfl,rfl,rfl,rfl,rfl,e0,e1,e2,e3,hA,hIm,hcells⟩:=z0m hB hW r0 r1 r2 r3 hG
 have g0:=hG.e0
 have g1:=hG.e1
 have g2:=hG.e2
 have g3:=hG.e3
 subst g0 g1 g2 g3 e0 e1 e2 e3
 have hMc:=hW.msize
 obtain ⟨Kn,gs',w',sl2,t',Wg,bA,T,got,Bp,hrun2,h02,hF2,hGa⟩:=z30 hE hn sl0 hF h0 (K:=fun b=>Img B nw b∨b<B.M) (fun b h=>.inl h) (fun b h=>h.elim (fun ⟨_,_,h⟩=>(hE.img h).2) (fun h=>by omega)) hL.img hL.fresh hA hIm hcells
 obtain ⟨aC,haC⟩:∃ aC:Nat→Ans,∀ x∈got,aC x.1=x.2:=⟨fun p=>((got.find? (·.1 == p)).map (·.2)).getD .bad,fun x hx=>by
  have hc1:got.countP (·.1 == x.1)≤1:=by
   rw [hGa.cnt]
   split <;> omega
  show ((got.find? (·.1 == x.1)).map (·.2)).getD .bad=x.2
  rw [zxg (a:=x.2) got hx hc1]
  rfl⟩
 have hC:∀ p,p<n→Came y p (aC p) (Bp p) w':=fun p hp=>by
  have h1:=hGa.cnt p
  rw [if_pos hp] at h1
  obtain ⟨x,hx,hxp⟩:=List.countP_pos_iff.1 (show 0<got.countP (·.1 == p) by omega)
  have ep:x.1=p:=by simpa using hxp
  have h2:=hGa.ans x hx
  rw [← haC x hx,ep] at h2
  exact h2
 refine z5c hE hcs hcs0 hn hGa.apart (fun p hp=>?_) hC (fun gotL fl wl' hD hkeep hrow=>?_) v22 v23 v29 v35
 ·obtain ⟨ad,q1,q2,q3,_⟩:=hG.pt p hp
  exact ⟨ad,q1,q2,q3⟩
 ·have hW2:=z0x hX hE hcode (K:=fun b=>Img B nw b∨b<B.M) (fun b h=>.inl h) (fun b h=>.inr h) hGa hD hkeep hrow haC (t:=zia wl' w') (fun k q=>zh9 wl' w' k 0 q)
  have hz:cor B (nw++bA :: fl) y.z=some (bA,0):=by
   rw [show y.z=B.N+(nw.length+0) by rw [hE.z,hW.size];rfl,zcj,List.getElem?_append_right (by omega),Nat.add_sub_cancel_left]
   rfl
  obtain ⟨E,s,hEn,hO⟩:=hGa.slots
  have hT:=zsr ha hEn hO hz (@VRel.up X2 B nw (bA :: fl) _ _ r0) (@VRel.up X2 B nw (bA :: fl) _ _ r1) (@VRel.up X2 B nw (bA :: fl) _ _ r2) (@VRel.up X2 B nw (bA :: fl) _ _ r3)
  have hszw:=hGa.size
  have clr:∀ b,zet Shun b→b≠Wg→zet (fun l=>Shun l∨ShN Wg l) b:=fun b hb hne l hl hs=>by
   rcases hs with hs|hs
   ·exact hb l hl hs
   ·obtain ⟨x,rfl,hx⟩:=hs
    have:x.block=b:=by simpa [zdj] using hl
    exact hne (this.symm.trans hx)
  refine .goal (zia wl' w') (zcs wl' w') ⟨N+Kn,gs',w',sl2,t',_,nw++bA :: fl,_,_,runNT_then hrun hrun2,h02,hF2,⟨fun b hb=>?_,fun b hb=>?_⟩,hW2,z1r ha hx19 hok hT,@zbl.up X2 Lead.prog B nw _ base _ _ hc,⟨hGa.os.trans hS.os,hGa.out.trans hS.out⟩⟩
  ·have hlow:∀ b,Img B nw b∨b<B.M→zet (fun l=>Shun l∨ShN Wg l) b:=fun b hb=>clr b (hL.img b hb) (fun e=>by
    have h1:=hGa.wg.1
    have h2:b<wc.heap.size:=hb.elim (fun ⟨_,_,h⟩=>(hE.img h).2) (fun h=>by omega)
    omega)
   rcases hb with ⟨b0,d,hb⟩|hb
   ·rcases Nat.lt_or_ge b0 B.N with hlt|hge
    ·exact hlow b (.inl ⟨b0,d,by rw [zbs hlt] at hb ⊢;exact hb⟩)
    ·obtain ⟨i,rfl⟩:∃ i,b0=B.N+i:=⟨b0 - B.N,by omega⟩
     rw [zcj] at hb
     obtain ⟨k,hk,ek⟩:=Option.map_eq_some_iff.1 hb
     cases ek
     rcases List.mem_append.1 (List.mem_of_getElem? hk) with hm|hm
     ·obtain ⟨j,hj⟩:=List.getElem?_of_mem hm
      exact hlow b (.inl ⟨B.N+j,0,by rw [zcj,hj];rfl⟩)
     ·rcases List.mem_cons.1 hm with rfl|hm
      ·exact clr _ (hL.fresh _ hGa.bigA) hGa.wgA
      ·obtain ⟨p,_,k1,k2⟩:=hD.own b hm
       exact clr _ (hL.fresh _ (by rw [← hE.zc];exact k2)) (hGa.newB p b k1).2.1
   ·exact hlow b (.inr hb)
  ·have h1:=hGa.wg.2
   exact clr b (hL.fresh b (by omega)) (by omega)
end
end
section
open Go.Conc Go.ConcN Go.ConcN.Gen Go.RowKit Go.Conc.Lib Go.ConcR.Gen
theorem zw2 {B:Bas}{nw xs:List Nat}{b:Nat}(h:Img B (nw++xs) b): Img B nw b∨b∈xs:=by
 letI:Exts:=E1
 obtain ⟨b0,d,hb⟩:=h
 rcases Nat.lt_or_ge b0 B.N with hlt|hge
 ·exact .inl ⟨b0,d,by rw [zbs hlt] at hb ⊢;exact hb⟩
 ·obtain ⟨i,rfl⟩:∃ i,b0=B.N+i:=⟨b0 - B.N,by omega⟩
  rw [zcj] at hb
  obtain ⟨k,hk,ek⟩:=Option.map_eq_some_iff.1 hb
  cases ek
  rcases List.mem_append.1 (List.mem_of_getElem? hk) with hm|hm
  ·obtain ⟨j,hj⟩:=List.getElem?_of_mem hm
   exact .inl ⟨B.N+j,0,by rw [zcj,hj];rfl⟩
  ·exact .inr hm
theorem Lock.next {B:Bas}{nw xt:List Nat}{wc w':World}{Shun:Loc→Prop}(h:Lock B nw wc Shun)(hk:Kept B nw xt wc w'): Lock B (nw++xt) w' Shun :=
 ⟨fun b hb=>hb.elim (fun hi=>(zw2 hi).elim (fun hi=>h.img b (.inl hi)) (fun hm=>h.fresh b (@Kept.fresh E1 _ _ _ _ _ hk b hm))) (fun hm=>h.img b (.inr hm)),fun b hb=>h.fresh b (by have:=hk.sz;omega)⟩
section
variable {X2 X3:Exts} {B:Bas}
theorem z4b {nw:List Nat}{wl wc:World}(hW:@WRel X2 B nw wl wc){b:Nat}(h:Img B nw b): b<wc.heap.size:=by
 obtain ⟨b0,d,hb⟩:=h
 obtain ⟨o,o',h1,h2,_⟩:=@WRel.block X2 B nw wl wc hW b0 b d hb
 exact (Array.getElem?_eq_some_iff.1 h2).1
theorem z4f {nw:List Nat}{Shun:Loc→Prop}{M:Nat}{e:Event}(h:EvOk B nw e)(hM:∀ b,Img B nw b→b<M∧zet Shun b): EvL Shun M e:=by
 refine zxk (M:=Img B nw) (o:=fun _=>True) ?_ hM
 obtain ⟨loc,wr,sy⟩:=e
 cases loc with
 | cell a=>obtain ⟨g1,g2,b,d,g3⟩:=h;exact ⟨g1,⟨b,d,g3⟩,fun _=>trivial⟩
 | obj r=>obtain ⟨g1,g2,b,d,g3⟩:=h;exact ⟨g1,⟨b,d,g3⟩,fun _=>trivial⟩
 | output=>exact h
 | goroutines=>exact h
 | mark m=>cases m <;> exact h
theorem WRel.atd {nw:List Nat}{w wb wc wd:World}(h:@WRel X2 B nw w wc)(hb:wb.heap=w.heap)(hd:wd.heap=wc.heap): @WRel X2 B nw (Proofs.YtelgmbomkojmaaaDoor.relay wb (zia wb wd)) wd:=by
 letI:Exts:=X2
 exact @WRel.mk X2 B nw _ _ (by show wb.heap.size=_;rw [hb];exact h.size) (by rw [hd];exact h.msize) (fun k hk=>by rw [hd];exact h.inNew k hk) h.nodup h.lowOld (fun b b' d hlt hB=>by show ∃ o o',wb.heap[b]?=some o∧_;rw [hb,hd];exact h.old b b' d hlt hB) (fun i k hk=>by show ∃ o o',wb.heap[B.N+i]?=some o∧_;rw [hb,hd];exact h.new i k hk) (fun k q=>zh9 wb wd k 0 q) (fun e=>by show _∨∃ b c e m,b<B.N∧wb.heap[b]?=_∧_;rw [hb,hd];exact h.calm e)
theorem zvk {nw xt:List Nat}{wl wc w' wS:World}(hW:@WRel X2 B nw wl wc)(hK:Kept B nw xt wc w')(hS:Same B wS wc): Same B wS w':=by
 exact ⟨hK.os.trans hS.os,hK.out.trans hS.out⟩
theorem zzt (F:@zb3 X2 Lead.prog Tryd.prog B)(hx3:∀ f,X3.ext f=false→X2.ext f=false)(hX:znl X2)(ha:X2.anyOk=true)(hx19:X2.ext 19=false)(hok:@zam X2 Lead.prog B.cv Lead.tail=true)(hB:z04 B)(hcode:∀ c,@zam E1 Lead.prog false c=true→B.code c){base:List Frame}{m0:Machine}{t0:Trace}{wS:World}{Q:Frame→World→Prop}{fr:Frame}{cs:List Frame}{wl:World}(hT:@Term X3 Lead.prog Q fr cs wl):
  To Lead.prog (zyh X2 B base m0 t0 wS) fr cs wl→∃ fr2 w2 T t,Q fr2 (relay w2 T)∧zyh X2 B base m0 t0 wS fr2 [door Lead.prog] (relay w2 t):=by
 letI:Exts:=X3
 induction hT with
 | done fr w T hpT hq =>
   intro hTo
   cases hTo with
   | goal t ht hg=>exact ⟨fr,w,T,t,hq,hg⟩
   | step hcs=>exact absurd rfl hcs
 | step fr cs w fr1 cs1 w1 es h hcalm hx hn ih =>
   intro hTo
   cases hTo with
   | step hcs t ht hn'=>exact ih t ht (hn' _ _ _ _ (h t ht) (hcalm t ht))
   | goal t ht hg =>
     obtain ⟨N,gs,wc,sl,tr,Shun,nw,fr',cs',hrun,h0,hF,hL,hW,hfr,hc,hS⟩:=hg
     obtain ⟨N2,gs2,d,a2,w2,es2,B2,sl2,tr2,hrun2,hsz2,h02,⟨t',ht',xt,fr1',cs1',rfl,hB2,hW2,hTop,hc2,hK⟩,hF2⟩:=hF.step (K:=fun wd B' a' w' _=>∃ t',Past w.drawn t' w.tape∧∃ xt fr1' cs1',a'=G fr1' cs1'∧B'=w'.heap.size∧@WRel X2 B (nw++xt) (w1 t') w'∧@zye X2 Lead.prog Tryd.prog B (cor B (nw++xt)) (fr1 t') fr1' (cs1 t')∧@zbl X2 Lead.prog B (cor B (nw++xt)) base (cs1 t') cs1'∧Kept B nw xt wc w')
      rfl h0 wc sl (fun d=>by
       have hWd:@WRel X2 B nw (relay w (zia w (wc.at d))) (wc.at d):=WRel.atd (wb:=w) (wd:=wc.at d) hW rfl rfl
       have hp:=zcs w (wc.at d)
       obtain ⟨xt,fr1',cs1',w1',l,k1,k2,k3,k4,k5,k6⟩:=@zg1 X2 Lead.prog Tryd.prog B _ F base cs cs' fr fr' _ _ _ hWd hfr hc true none .running _ _ _ (h _ hp) (hcalm _ hp) (hx3 _ (hx _ hp))
       have hKd:Kept B nw xt wc w1':=⟨k5.os,k5.out,k5.tp,k5.sz,k5.seq,k5.stay⟩
       refine ⟨_,w1',l,w1'.heap.size,k1,by have:=hKd.sz;omega,fun e he=>z4f (k6 e he) (fun b hb=>⟨z4b k2 hb,(hL.next hKd).img b (.inl hb)⟩),_,hp,xt,fr1',cs1',rfl,rfl,k2,k3,k4,hKd⟩)
     subst hB2
     have hL2:=hL.next hK
     have hS2:Same B wS w2:=zvk hW hK hS
     refine ih t' ht' ?_
     rcases hTop with hfr2|⟨f,a,a',hf,⟨h4,rfl⟩,hne,e1,e2,hr⟩
     ·exact .goal (w1 t').tape (fun _ _ _=>rfl) ⟨N+N2,gs2,w2,sl2,tr2,Shun,nw++xt,fr1',cs1',runNT_then hrun hrun2,h02,hF2,hL2,hW2,hfr2,hc2,hS2⟩
     ·rw [e1]
      subst e2
      refine z1v hX ha hx19 hok hB hcode h4 hr hne (fun e=>?_) (runNT_then hrun hrun2) h02 hF2 hL2 hW2 hc2 hS2
      rw [e] at hc2
      cases hc2
end
end
section
open Go.Conc Go.ConcN Go.ConcN.Gen Go.RowKit Go.Conc.Lib Go.ConcR.Gen
def zdl:List FuncId:=[3,4,5,6,7,8,9,10,11,12,13,14,15,16,17,18,19,20,21,22,23,24,25,26,27,28,32,34,35,36,37,38,39,40,41,42,43,62,63,64,65,66,67,68,74,75,76,77,78,79,80,81,82,83,84]
def zkd:List FuncId:=zdl.filter fun f=>!(f == 19 || f == 32)
@[reducible] def E2:Exts:={ ext:=fun f=>!(zdl.contains f),stop:=fun f=>f == 19 || f == 32,anyOk:=true,gapOk:=true }
@[reducible] def E3:Exts:={ ext:=fun f=>!(zdl.contains f),stop:=fun _=>false,anyOk:=false,gapOk:=false }
set_option maxHeartbeats 4000000 in
theorem zwr:ztu E2 Lead.prog true zkd=true:=by decide +kernel
set_option maxHeartbeats 4000000 in
theorem zkq:ztu E3 Lead.prog true zdl=true:=by decide +kernel
theorem z1q:@zam E2 Lead.prog true Lead.tail=true:=by decide +kernel
end
section
open Go.Conc Go.ConcN Go.ConcN.Gen Go.RowKit Go.Conc.Lib Go.ConcR.Gen
def BasB (X:Exts)(N M:Nat)(old:Nat→Option (Nat×Nat))(was:Nat→Option Obj): Bas:={ N:=N,M:=M,old:=old,cv:=true,was:=was,G:=1,bad:=badT,good:=fun b=>b == 0,code:=fun c=>@zam X Lead.prog true c=true,tab:=fun c=>ze7 c∧∀ j,j<64→c[j]?=some (.int .u32 (kc.getD j 0)) }
theorem zkw (f:FuncId)(h:E3.ext f=false): zdl.contains f=true:=by
 have h:(!(zdl.contains f))=false:=h
 simpa using h
theorem zw1 (f:FuncId)(h:E2.ext f=false)(hs:E2.stop f=false): zkd.contains f=true∧f≠19∧f≠32:=by
 have h:(!(zdl.contains f))=false:=h
 have hs:(f == 19 || f == 32)=false:=hs
 have h1:f∈zdl:=by simpa using h
 simp only [Bool.or_eq_false_iff,beq_eq_false_iff_ne,ne_eq] at hs
 refine ⟨?_,hs.1,hs.2⟩
 have:f∈zkd:=List.mem_filter.2 ⟨h1,by simp [hs.1,hs.2]⟩
 simpa using this
theorem z3z (N M:Nat)(old:Nat→Option (Nat×Nat))(was:Nat→Option Obj)(hN:0<N)(h0:old 0=some (0,0)): @zb3 E2 Lead.prog Tryd.prog (BasB E2 N M old was):=by
 refine @zb3.mk E2 Lead.prog Tryd.prog (BasB E2 N M old was) (@Prog.mk E2 Lead.prog Tryd.prog (BasB E2 N M old was) (@Fit.mk Lead.prog Tryd.prog (BasB E2 N M old was) zl2 gsz.symm zk6 hN (fun b hb=>?_)) (fun f fn hf hx=>?_) ⟨hN,h0⟩) (fun c=>Iff.rfl) (fun f fn c hf hc hx hs=>?_) ?_ zhq zfp
 ·have hb:b<1:=hb
  have:b=0:=by omega
  subst this
  rfl
 ·have:=zl6 zkq hf (zkw f hx)
  exact ⟨this.1,this.2.1⟩
 ·obtain ⟨k1,k2,k3⟩:=zw1 f hx hs
  exact ⟨(zl6 zwr hf k1).2.2 c hc,fn,by rw [← Lead.funcs_ne k2 k3];exact hf,hc⟩
 ·show (!(zdl.contains Lead.prog.funcs.size))=true
  rw [zkr]
  rfl
theorem z3y (N M:Nat)(old:Nat→Option (Nat×Nat))(was:Nat→Option Obj)(hN:0<N)(h0:old 0=some (0,0)): @zb3 E3 Lead.prog Lead.prog (BasB E3 N M old was):=by
 refine @zb3.mk E3 Lead.prog Lead.prog (BasB E3 N M old was) (@Prog.mk E3 Lead.prog Lead.prog (BasB E3 N M old was) (@Fit.mk Lead.prog Lead.prog (BasB E3 N M old was) ⟨rfl,fun f=>rfl⟩ gsz.symm zk6 hN (fun b hb=>?_)) (fun f fn hf hx=>?_) ⟨hN,h0⟩) (fun c=>Iff.rfl) (fun f fn c hf hc hx hs=>?_) ?_ zhq zfp
 ·have hb:b<1:=hb
  have:b=0:=by omega
  subst this
  rfl
 ·have:=zl6 zkq hf (zkw f hx)
  exact ⟨this.1,this.2.1⟩
 ·exact ⟨(zl6 zkq hf (zkw f hx)).2.2 c hc,fn,hf,hc⟩
 ·show (!(zdl.contains Lead.prog.funcs.size))=true
  rw [zkr]
  rfl
theorem zs3:zda.all (fun f=>zkd.contains f)=true:=by decide
theorem znq:znl E2:=by
 have key:∀ f,E1.ext f=false→zkd.contains f=true:=fun f h=>by
  have h:(!(zda.contains f))=false:=h
  exact List.all_eq_true.1 zs3 f (by simpa using h)
 refine ⟨fun f h=>?_,fun f h=>?_,?_⟩
 ·have h1:f∈zkd:=by simpa using key f h
  have h2:=(List.mem_filter.1 h1).1
  show (!(zdl.contains f))=false
  simpa using h2
 ·have h1:f∈zkd:=by simpa using key f h
  have h2:=(List.mem_filter.1 h1).2
  show (f == 19 || f == 32)=false
  simpa using h2
 ·rfl
theorem zmd {α:Type}{p q:α→Bool}(h:∀ x,p x=true→q x=true)(a:Array α)(ha:a.all p=true): a.all q=true:=by
 rw [Array.all_eq_true] at ha ⊢
 exact fun i hi=>h _ (ha i hi)
theorem zqc {α:Type}{p q:α→Bool}(h:∀ x,p x=true→q x=true)(a:Option α)(ha:a.all p=true): a.all q=true:=by
 cases a with
 | none=>rfl
 | some x=>exact h x ha
theorem zbe (x:Operand)(h:@okA E1 x=true): @okA E2 x=true:=by
 cases x with
 | func f =>
   have h:(!(E1.ext f) && !(E1.stop f))=true:=h
   simp only [Bool.and_eq_true,Bool.not_eq_true'] at h
   show (!(E2.ext f) && !(E2.stop f))=true
   rw [znq.ext f h.1,znq.stop f h.1]
   rfl
 | _=>exact h
theorem z2e (f:Fn)(h:@okFn E1 f=true): @okFn E2 f=true:=by
 cases f with
 | func f =>
   have h:(!(E1.ext f) && !(E1.stop f))=true:=h
   simp only [Bool.and_eq_true,Bool.not_eq_true'] at h
   show (!(E2.ext f) && !(E2.stop f))=true
   rw [znq.ext f h.1,znq.stop f h.1]
   rfl
 | _=>exact h
theorem zwb (c:Call)(h:@zkj E1 Lead.prog c=true): @zkj E2 Lead.prog c=true:=by
 unfold zkj at h ⊢
 rw [Bool.and_eq_true] at h ⊢
 refine ⟨zmd zbe _ h.1,?_⟩
 have h2:=h.2
 split at h2
 ·rename_i e;rw [e] at *;exact h2
 ·rename_i g e
  rw [Bool.or_eq_true] at h2 ⊢
  rcases h2 with h2|h2
  ·exact .inl (zbe _ h2)
  ·exact absurd h2 (by simp)
 ·exact zbe _ h2
 ·cases h2
theorem zxs (P:Program)(s d:TypeId)(h:zma P false s d=true): zma P true s d=true:=by
 unfold zma at h ⊢
 split at h <;> first
  | (simp_all;done)
  | cases h
theorem z2c (o:Op)(h:@okOp E1 Lead.prog false o=true): @okOp E2 Lead.prog true o=true:=by
 cases o <;> dsimp only [okOp] at h ⊢ <;> first
  | cases h;done
  | exact zbe _ h
  | exact zwb _ h
  | exact h
  | skip
 all_goals try simp only [Bool.and_eq_true] at h ⊢
 case pick c a b=>exact ⟨⟨zbe _ h.1.1,zbe _ h.1.2⟩,zbe _ h.2⟩
 case build t p=>exact ⟨h.1,zmd (fun x hx=>zbe _ hx) _ h.2⟩
 case buildSlice t n p=>exact ⟨h.1,zmd (fun x hx=>zbe _ hx) _ h.2⟩
 case store t a x=>exact ⟨zbe _ h.1,zbe _ h.2⟩
 case binOp op t x y t2=>exact ⟨⟨h.1.1,zbe _ h.1.2⟩,zbe _ h.2⟩
 case convert s d x=>exact ⟨zxs _ _ _ h.1,zbe _ h.2⟩
 case makeFunc f x c=>exact ⟨⟨z2e _ h.1.1,zmd zbe _ h.1.2⟩,zmd zbe _ h.2⟩
 case makeSlice t l c=>exact ⟨⟨h.1.1,zbe _ h.1.2⟩,zbe _ h.2⟩
 case slice t x lo hi mx=>exact ⟨⟨⟨zbe _ h.1.1.1,zqc zbe _ h.1.1.2⟩,zqc zbe _ h.1.2⟩,zqc zbe _ h.2⟩
 case fieldAddr s x f=>exact ⟨h.1,zbe _ h.2⟩
 case indexAddr t x i=>exact ⟨zbe _ h.1,zbe _ h.2⟩
 case index t x i=>exact ⟨zbe _ h.1,zbe _ h.2⟩
theorem z5u (c:Code)(h:@zam E1 Lead.prog false c=true): @zam E2 Lead.prog true c=true:=by
 induction c with
 | region n ops d =>
   unfold zam at h ⊢
   exact zmd (fun o ho=>z2c _ ho) _ h
 | seq a b iha ihb =>
   unfold zam at h ⊢
   rw [Bool.and_eq_true] at h ⊢
   exact ⟨iha h.1,ihb h.2⟩
 | cond c a b iha ihb =>
   unfold zam at h ⊢
   simp only [Bool.and_eq_true] at h ⊢
   exact ⟨⟨zbe _ h.1.1,iha h.1.2⟩,ihb h.2⟩
 | block id b ih=>unfold zam at h ⊢;exact ih h
 | loop b ih=>unfold zam at h ⊢;exact ih h
 | scope b ih=>unfold zam at h ⊢;exact ih h
 | rangeFunc f ps a b iha ihb =>
   unfold zam at h ⊢
   simp only [Bool.and_eq_true] at h ⊢
   exact ⟨⟨zbe _ h.1.1,iha h.1.2⟩,ihb h.2⟩
 | _=>rfl
theorem z3d (N M:Nat)(old:Nat→Option (Nat×Nat))(was:Nat→Option Obj)(hN:0<N)(h0:old 0=some (0,0)): z04 (BasB E2 N M old was):=⟨hN,rfl,h0,fun c h=>h⟩
end
section
open Go.Conc Go.ConcN Go.ConcN.Gen Go.RowKit Go.Conc.Lib Go.ConcR.Gen
theorem z0o {X2:Exts}{B:Bas}{f k:Nat}{fn:Func}(hf:Tryd.prog.funcs[f]?=some fn)(hr:fn.results=#[.tmp k])(hni:Tryd.prog.inits.idxOf? f=none){m0:Machine}{wS wl:World}{fr:Frame}(F:@zb3 X2 Lead.prog Tryd.prog B)(hR:zyh X2 B [] m0 #[] wS fr [door Lead.prog] wl)(hfn:fr.fn=f)(hm:fr.mode=.returning)(hd:fr.defers=[])(hv:fr.tmps.getD k undef=.bool true)(hcv:B.cv=true)(hwas:∀ b,b<B.M→B.was b=wS.heap[b]?)(hmark:∀ b,b<B.N→∀ c e m,wl.heap[b]?=some (.cells c e (0,m))→m≤c.size){Post:Value→World→Prop}(hp:∀ w',w'.os=wS.os→w'.output=wS.output→wS.heap.size=B.M→B.M≤w'.heap.size→(∀ b,b<B.M→w'.heap[b]?=wS.heap[b]?)→Post (.bool true) w')(hM:wS.heap.size=B.M):
  ∃ M last o w' t',runNT Tryd.prog (M+1) m0 #[]=(.ended o w',t')∧Go.runN Tryd.prog M m0=.next last∧step Tryd.prog last=.ended o w'∧Conc.Good Tryd.prog Post last o w' t':=by
 obtain ⟨N,gs,wc,sl,t,Shun,nw,fr',cs',hrun,h0,hF,hL,hW,hfr,hc,hS⟩:=hR
 letI:Exts:=X2
 obtain rfl:=hc.door F
 obtain ⟨⟨q,hlv⟩,hP,hg⟩:=hF
 have e1:fr'.fn=f:=by rw [← hfr.fn];exact hfn
 have e2:fr'.mode=.returning:=by
  rcases hfr.mode with ⟨h1,_⟩|⟨_,h2⟩
  ·rw [hm] at h1;cases h1
  ·exact h2
 have e3:fr'.defers=[]:=by
  have:=hfr.defers
  rw [hd] at this
  generalize fr'.defers=l at this ⊢
  cases this
  rfl
 have e4:fr'.kind=.normal:=hfr.kind.2
 have e5:fr'.tmps.getD k undef=.bool true:=by
  have:=hfr.tmps.getD (@VRel.undef_ X2 (cor B nw)) k
  rw [show fr.tmps.getD k (.tuple #[])=.bool true from hv] at this
  change fr'.tmps.getD k (.tuple #[])=_
  generalize fr'.tmps.getD k (.tuple #[])=v at this ⊢
  cases this
  rfl
 have hres:∀ w,(results fn fr'.tmps).run Tryd.prog w=.ok (.bool true) w:=fun w=>by
  unfold results
  rw [hr,← e5]
  simp [Array.mapM_eq_mapM_toList,go_sem]
 have hres2:∀ w,(results fn fr'.tmps).runT Tryd.prog w #[]=(.ok (.bool true) w,#[]):=fun w=>by
  unfold results
  rw [hr,← e5]
  simp [Array.mapM_eq_mapM_toList,go_sem]
 have hold:∀ b,b<B.M→wc.heap[b]?=wS.heap[b]?:=fun b hb=>by
  rcases hW.calm hcv with g|⟨b0,c,e,m,g1,g2,g3⟩
  ·exact (g b hb).trans (hwas b hb)
  ·have:=hmark b0 g1 c e m g2;omega
 have hend:Goes Tryd.prog true AtRel (fun _ _ es=>∀ e∈es,EvL Shun wc.heap.size e) (AtEnd Tryd.prog Shun wc.heap.size Post) 0 (G fr' []) wc:=by
  refine fun w₁ h₁=>?_
  obtain ⟨d,rfl⟩:=h₁
  refine ⟨rfl,.bool true,#[],?_,fun e he=>by simp at he,hp _ hS.os hS.out hM hW.msize hold⟩
  simp only [G,stepG,unwind,doReturn,e1,e2,e3,e4,hf,hres,hni,Option.map_some,Bool.not_true,Bool.false_eq_true,if_false]
  rw [hres2]
  simp [seen,GStep.after]
 obtain ⟨K,last,o,w',t',r1,r2,r3,r4⟩:=beside_ends (P:=Tryd.prog) (Post:=Post) (sl:=sl) (t:=t) (fun _ _ _ h=>h) h0 hlv hP hend
 refine ⟨N+K,last,o,w',t',?_,?_,r3,r4⟩
 ·rw [Nat.add_assoc,runNT_add,hrun];exact r1
 ·rw [runN_add,← runNT_fst Tryd.prog _ _ #[],hrun];exact r2
structure Win where
 b:Nat
 d:Nat
 c:Array Value
def oldW (ws:List Win)(b:Nat): Option (Nat×Nat):=if b=0 then some (0,0) else (ws[b - 1]?).map fun x=>(x.b,x.d)
def oldI (n b:Nat): Option (Nat×Nat):=if b<n then some (b,0) else none
def zmo (W:World): Obj:=match W.heap[0]? with|some (Obj.cells c e _)=>Obj.cells c e (0,c.size)|_=>Obj.cells #[] badT (0,0)
def z2x (o:Obj)(ws:List Win): Array Obj:=(o :: ws.map fun x=>Obj.cells x.c badT (0,x.c.size)).toArray
def za6 (W:World)(ws:List Win): World:={ W with heap:=z2x (zmo W) ws }
def zok (W:World): Prop:=∃ c e fr,W.heap[0]?=some (.cells c e fr)∧ze7 c∧∀ j,j<64→c[j]?=some (.int .u32 (kc.getD j 0))
structure zsh (W:World)(ws:List Win): Prop where
 tab:zok W
 win:∀ x∈ws,∃ c' e fr,W.heap[x.b]?=some (.cells c' e fr)∧∀ (i:Nat) v,x.c[i]?=some v→∃ v',c'[i+x.d]?=some v'∧@VRel E2 (oldW ws) v v'
 own:∀ x∈ws,∀ (i:Nat) v,x.c[i]?=some v→@VRel E3 (oldI (1+ws.length)) v v
section
variable {W:World} {ws:List Win}
theorem zef:(za6 W ws).heap.size=1+ws.length:=by simp [za6,z2x];omega
theorem zcp:(za6 W ws).heap[0]?=some (zmo W):=rfl
theorem zb8 (i:Nat): (za6 W ws).heap[i+1]?=(ws[i]?).map fun x=>Obj.cells x.c badT (0,x.c.size):=by simp [za6,z2x]
theorem zsq (h:zok W)(t:Tape): Tidy (relay (za6 W ws) t):=fun b l hl=>by
 exfalso
 have hl:(za6 W ws).heap[b]?=_:=hl
 cases b with
 | zero =>
   rw [zcp] at hl
   obtain ⟨c,e,fr,h1,_⟩:=h
   unfold zmo at hl
   rw [h1] at hl
   cases hl
 | succ i =>
   rw [zb8] at hl
   obtain ⟨x,_,e⟩:=Option.map_eq_some_iff.1 hl
   cases e
theorem zsb {B:Bas}{b:Nat}(h:¬ b<B.N): cor B [] b=none:=by
 unfold cor
 rw [if_neg h]
 rfl
theorem cor2 (X:Exts)(M:Nat)(was:Nat→Option Obj): cor (BasB X (1+ws.length) M (oldW ws) was) []=oldW ws:=by
 funext b
 by_cases hb:b<1+ws.length
 ·exact if_pos hb
 ·rw [zsb hb]
  unfold oldW
  rw [if_neg (by omega),List.getElem?_eq_none (by omega)]
  rfl
theorem cor3 (X:Exts)(n M:Nat)(was:Nat→Option Obj): cor (BasB X n M (oldI n) was) []=oldI n:=by
 funext b
 by_cases hb:b<n
 ·exact if_pos hb
 ·rw [zsb hb]
  unfold oldI
  rw [if_neg hb]
theorem rel2 (h:zsh W ws): @WRel E2 (BasB E2 (1+ws.length) W.heap.size (oldW ws) fun k=>W.heap[k]?) [] (za6 W ws) W:=by
 have hwin:∀ b b' d,(oldW ws) b=some (b',d)→(b=0∧b'=0∧d=0)∨∃ i x,b=i+1∧ws[i]?=some x∧b'=x.b∧d=x.d:=fun b b' d hb=>by
  unfold oldW at hb
  split at hb
  ·cases hb;exact .inl ⟨by assumption,rfl,rfl⟩
  ·obtain ⟨x,hx,e⟩:=Option.map_eq_some_iff.1 hb
   cases e
   exact .inr ⟨b - 1,x,by omega,hx,rfl,rfl⟩
 obtain ⟨c0,e0,fr0,t1,t2,t3⟩:=h.tab
 refine @WRel.mk E2 (BasB E2 (1+ws.length) W.heap.size (oldW ws) fun k=>W.heap[k]?) [] (za6 W ws) W (by rw [zef];rfl) (Nat.le_refl _) (fun k hk=>by cases hk) List.nodup_nil (fun b b' d hb hB=>?_) (fun b b' d hb hB=>?_) (fun i k hk=>by cases hk) (fun k q=>rfl) (fun _=>.inl fun k _=>rfl)
 ·rcases hwin b b' d hB with ⟨_,rfl,_⟩|⟨i,x,_,hx,rfl,_⟩
  ·exact (Array.getElem?_eq_some_iff.1 t1).1
  ·obtain ⟨c',e,fr,k1,_⟩:=h.win x (List.mem_of_getElem? hx)
   exact (Array.getElem?_eq_some_iff.1 k1).1
 ·rw [cor2]
  rcases hwin b b' d hB with ⟨rfl,rfl,rfl⟩|⟨i,x,rfl,hx,rfl,rfl⟩
  ·refine ⟨_,_,zcp,t1,?_⟩
   have:zmo W=.cells c0 e0 (0,c0.size):=by unfold zmo;rw [t1]
   rw [this]
   refine @ORel.cells E2 _ _ _ _ _ c0 c0 e0 e0 (0,c0.size) fr0 rfl (Nat.le_refl _) (.inl ⟨rfl,rfl,rfl,rfl,rfl,t2,t3⟩) (fun i v hv=>?_)
   obtain ⟨k,n,rfl⟩:=t2 i v hv
   exact ⟨_,hv,@VRel.int E2 _ k n⟩
  ·obtain ⟨c',e,fr,k1,k2⟩:=h.win x (List.mem_of_getElem? hx)
   refine ⟨_,_,by rw [zb8,hx];rfl,k1,?_⟩
   exact @ORel.cells E2 _ _ _ _ _ x.c c' badT e (0,x.c.size) fr rfl (Nat.le_refl _) (.inr ⟨by show ((i+1) == 0)=false;simp,by show 1≤i+1;omega,rfl⟩) (fun j v hv=>k2 j v hv)
theorem rel3 (h:zsh W ws): @WRel E3 (BasB E3 (1+ws.length) (1+ws.length) (oldI (1+ws.length)) fun k=>(za6 W ws).heap[k]?) [] (za6 W ws) (za6 W ws):=by
 obtain ⟨c0,e0,fr0,t1,t2,t3⟩:=h.tab
 have hI:∀ b b' d,oldI (1+ws.length) b=some (b',d)→b<1+ws.length∧b'=b∧d=0:=fun b b' d hb=>by
  unfold oldI at hb
  split at hb
  ·cases hb;exact ⟨by assumption,rfl,rfl⟩
  ·cases hb
 refine @WRel.mk E3 (BasB E3 (1+ws.length) (1+ws.length) (oldI (1+ws.length)) fun k=>(za6 W ws).heap[k]?) [] (za6 W ws) (za6 W ws) (by rw [zef];rfl) (by rw [zef];exact Nat.le_refl _) (fun k hk=>by cases hk) List.nodup_nil (fun b b' d hb hB=>?_) (fun b b' d hb hB=>?_) (fun i k hk=>by cases hk) (fun k q=>rfl) (fun _=>.inl fun k _=>rfl)
 ·obtain ⟨h1,rfl,_⟩:=hI b b' d hB
  exact h1
 ·rw [cor3]
  obtain ⟨h1,rfl,rfl⟩:=hI b b' d hB
  cases b' with
  | zero =>
    refine ⟨_,_,zcp,zcp,?_⟩
    have:zmo W=.cells c0 e0 (0,c0.size):=by unfold zmo;rw [t1]
    rw [this]
    refine @ORel.cells E3 _ _ _ _ _ c0 c0 e0 e0 (0,c0.size) (0,c0.size) rfl (Nat.le_refl _) (.inl ⟨rfl,rfl,rfl,rfl,rfl,t2,t3⟩) (fun i v hv=>?_)
    obtain ⟨k,n,rfl⟩:=t2 i v hv
    exact ⟨_,hv,@VRel.int E3 _ k n⟩
  | succ i =>
    have hi:i<ws.length:=by omega
    have hx:ws[i]?=some ws[i]:=List.getElem?_eq_getElem hi
    refine ⟨_,_,by rw [zb8,hx];rfl,by rw [zb8,hx];rfl,?_⟩
    exact @ORel.cells E3 _ _ _ _ _ _ _ badT badT (0,ws[i].c.size) _ rfl (Nat.le_refl _) (.inr ⟨by show ((i+1) == 0)=false;simp,by show 1≤i+1;omega,rfl⟩) (fun j v hv=>⟨v,hv,h.own _ (List.mem_of_getElem? hx) j v hv⟩)
theorem res1 {P:Program}{fn:Func}{k:Nat}(hr:fn.results=#[.tmp k])(t:Array Value)(w:World): (results fn t).run P w=.ok (t.getD k undef) w:=by
 unfold results
 rw [hr]
 simp [Array.mapM_eq_mapM_toList,go_sem]
theorem z4s {f k:Nat}{fn:Func}(hf:Tryd.prog.funcs[f]?=some fn)(hfL:Lead.prog.funcs[f]?=some fn)(hr:fn.results=#[.tmp k])(hni:Tryd.prog.inits.idxOf? f=none)(he:zdl.contains f=true)(h19:(f == 19 || f == 32)=false)(hS:zsh W ws){args argsL:Array Value}(ha:@RRel E2 (oldW ws) argsL args)(ha3:@RRel E3 (oldI (1+ws.length)) argsL argsL)(hcalls:∀ w,w.heap=(za6 W ws).heap→Calls Lead.prog f argsL w (Yes w)){Post:Value→World→Prop}(hp:∀ w',w'.os=W.os→w'.output=W.output→W.heap.size≤w'.heap.size→(∀ b,b<W.heap.size→w'.heap[b]?=W.heap[b]?)→Post (.bool true) w'):
  ∃ M last o w' t',runNT Tryd.prog (M+1) (solo (G (Frame.enter Tryd.prog f args .normal) []) W) #[]=(.ended o w',t')∧Go.runN Tryd.prog M (solo (G (Frame.enter Tryd.prog f args .normal) []) W)=.next last∧step Tryd.prog last=.ended o w'∧Conc.Good Tryd.prog Post last o w' t':=by
 have he2:E2.ext f=false:=by show (!(zdl.contains f))=false;rw [he];rfl
 have he3:E3.ext f=false:=he2
 have F2:=z3z (1+ws.length) W.heap.size (oldW ws) (fun k=>W.heap[k]?) (by omega) rfl
 have F3:=z3y (1+ws.length) (1+ws.length) (oldI (1+ws.length)) (fun k=>(za6 W ws).heap[k]?) (by omega) (by unfold oldI;rw [if_pos (by omega)])
 have hr2:=rel2 hS
 have hr3:=rel3 hS
 have ends:Ends Lead.prog (fun fr w=>fr.fn=f∧fr.mode=.returning∧fr.defers=[]∧fr.tmps.getD k undef=.bool true∧∀ b,b<1+ws.length→w.heap[b]?=(za6 W ws).heap[b]?) ⟨Frame.enter Lead.prog f argsL .normal,[door Lead.prog],za6 W ws⟩:=fun T _=>by
  obtain ⟨e,w',fr,⟨rfl,hb⟩,⟨n,hc⟩,hfn,h1,h2,h3,fn',h4,h5⟩:=hcalls (relay (za6 W ws) T) rfl [door Lead.prog]
  rw [hfn,hfL] at h4
  cases h4
  rw [res1 hr] at h5
  simp only [Result.ok.injEq] at h5
  refine ⟨n,fr,w',hc,fun ch he=>(by rw [h1] at he;cases he),hfn,h1,h2,h5.1,fun b hlt=>?_⟩
  exact hb.block b (by show b<(za6 W ws).heap.size;rw [zef];exact hlt)
 have hT:=@zux E3 Lead.prog Lead.prog _ F3 (fun _=>rfl) [] _ ⟨Frame.enter Lead.prog f argsL .normal,[door Lead.prog],za6 W ws⟩
  ⟨zsq hS.tab (za6 W ws).tape,[],_,[],za6 W ws,hr3,@zfa E3 Lead.prog Lead.prog _ F3 _ f he3 rfl _ _ (by rw [cor3];exact ha3),@zbl.base E3 Lead.prog _ _ []⟩ ends
 have hTo:To Lead.prog (zyh E2 (BasB E2 (1+ws.length) W.heap.size (oldW ws) fun k=>W.heap[k]?) [] (solo (G (Frame.enter Tryd.prog f args .normal) []) W) #[] W) (Frame.enter Lead.prog f argsL .normal) [door Lead.prog] (za6 W ws):=by
  refine .goal (za6 W ws).tape (fun _ _ _=>rfl) ⟨0,#[G (Frame.enter Tryd.prog f args .normal) []],W,none,#[],fun _=>False,[],Frame.enter Tryd.prog f args .normal,[],rfl,rfl,⟨⟨_,leavers_one _ _⟩,past_nil.mono (Nat.zero_le _),by simp⟩,⟨fun b _ l _ h=>h,fun b _ l _ h=>h⟩,hr2,?_,@zbl.base E2 Lead.prog _ _ [],⟨rfl,rfl⟩⟩
  exact @zfa E2 Lead.prog Tryd.prog _ F2 _ f he2 h19 _ _ (by rw [cor2];exact ha)
 obtain ⟨fr2,w2,T,t,⟨q1,q2,q3,q4,q5⟩,hR⟩:=zzt (X3:=E3) F2 (fun f h=>h) znq rfl rfl z1q (z3d _ _ _ _ (by omega) rfl) z5u hT hTo
 have q5:∀ b,b<1+ws.length→w2.heap[b]?=(za6 W ws).heap[b]?:=q5
 refine z0o hf hr hni F2 hR q1 q2 q3 q4 rfl (fun b _=>rfl) (fun b hb c e m hc=>?_) (fun w' h1 h2 _ h3 h4=>hp w' h1 h2 h3 h4) rfl
 have hc:w2.heap[b]?=_:=hc
 rw [q5 b hb] at hc
 cases b with
 | zero =>
   rw [zcp] at hc
   obtain ⟨c0,e0,fr0,t1,_⟩:=hS.tab
   unfold zmo at hc
   rw [t1] at hc
   cases hc
   exact Nat.le_refl _
 | succ i =>
   rw [zb8] at hc
   obtain ⟨x,_,e⟩:=Option.map_eq_some_iff.1 hc
   cases e
   exact Nat.le_refl _
end
end
section
open Go.ChangeShapes Go.WideShapes Go.ChangeAt Go.RowKit Go.Conc
theorem zpi {W:World}(h:laidMetH Tryd.prog zoj W): zok W:=by
 have hK:=z2f h
 rw [MakeChecks.laidMetH_plain _ _ _ (by kernel_rfl)] at h
 obtain ⟨ps,⟨g0,t0,cs0,f0,p0,q0,hg0,ht0,hv0,hd0,hrest⟩,_⟩:=h
 obtain rfl:=Option.some.inj (gK.symm.trans hg0)
 obtain rfl:=Option.some.inj (tK.symm.trans ht0)
 obtain ⟨xs,m1,rfl,hx1,hlen,hn3,hel⟩:=DataW.trod_array Tryd.underlying124 hd0
 have c1:Tryd.prog.cellsOf 74=1:=by kernel_rfl
 have c64:Tryd.prog.cellsOf 124=64:=by kernel_rfl
 have hsz:cs0.size=64:=by
  rw [c64] at hlen
  simpa using hlen
 unfold World.var? at hv0
 rw [hg0] at hv0
 simp only [Option.bind_some] at hv0
 obtain ⟨e,fr,hh⟩:∃ e fr,W.heap[0]?=some (Obj.cells cs0 e fr):=by
  split at hv0
  ·rename_i c e fr hh
   cases hv0
   exact ⟨e,fr,hh⟩
  ·cases hv0
 have key:∀ j,j<64→cs0[j]?=some (.int .u32 (kc.getD j 0)):=fun j hj=>by
  have:=hK j hj
  unfold World.cell? at this
  have hh':W.heap[(0:Nat)]?=some (Obj.cells cs0 e fr):=hh
  rw [hh'] at this
  exact this
 exact ⟨cs0,e,fr,hh,fun i v hv=>by
  have hi:=(Array.getElem?_eq_some_iff.1 hv).1
  rw [key i (by omega)] at hv
  cases hv
  exact ⟨_,_,rfl⟩,key⟩
def Lone (W:World)(args:Array Value)(f:FuncId): Prop:=∃ ws argsL,zsh W ws∧@RRel E2 (oldW ws) argsL args∧@RRel E3 (oldI (1+ws.length)) argsL argsL∧∀ w,w.heap=(za6 W ws).heap→Calls Lead.prog f argsL w (Yes w)
section
variable {H:Type} {enc:TypeId×Value→H}
theorem ztg {os:Os}{f k:Nat}{fn:Func}{s:ChangeSpec}(started:os.Started)(hni:Tryd.prog.inits.idxOf? f=none)(hfn:Tryd.prog.funcs[f]?=some fn)(hfL:Lead.prog.funcs[f]?=some fn)(hr:fn.results=#[.tmp k])(he:zdl.contains f=true)(h19:(f == 19 || f == 32)=false)(witness:∃ (w:World) (tape:Tape) (i:Input),w.os=os∧(w.forCall tape i).Shaped Tryd.prog∧i.vars=[]∧Input.okWide Tryd.prog (w.forCall tape i) .any w.heap.size f i ∧
   ((s.pre enc Tryd.prog fn [] false (w.forCall tape i).memory i.args∧laidMetH Tryd.prog zoj (w.forCall tape i).memory)∧sizedMet enc Tryd.prog fn (OpenSpec.ofChange s) false (w.forCall tape i).memory i.args)∧({}:Assume).holds Tryd.prog (lone (Frame.enter Tryd.prog f i.args .normal) [] (w.forCall tape i)))(hv:s.vars=[])(hres:fn.resultTypes=#[4])(hpar:(fn.params.toList.all fun t=>Tryd.prog.readableRec t && decide (t<Tryd.prog.types.size))=true)(hspec:∀ ds:List (DataW H),ds.length=fn.params.toList.length→s.fn H (ds++[])={ results:=[.lit (.bool true)],args:=ds })(walk:∀ (W:World) (base:Nat) (args:Array Value) (ds:List (DataW H)) (p:List MemPlace),(∀ (j:Nat) t v,fn.params[j]?=some t→args[j]?=some v→Value.okWide Tryd.prog W .any base t v) →
   DataW.TrodAll enc Tryd.prog W 0 (fun _=>true) true fn.params.toList args.toList ds p→(∀ x∈p,x.block<W.heap.size) →
   (DataW.weightsEach Tryd.prog fn.params.toList ds).all (·≤reachBytes)=true→zok W→Lone W args f):
  ReturnsInLeavingWide {} Tryd.checked os f .any (fun w args=>(s.pre enc Tryd.prog fn [] false w args∧laidMetH Tryd.prog zoj w)∧sizedMet enc Tryd.prog fn (OpenSpec.ofChange s) false w args) (s.post enc Tryd.prog fn false true false false):=by
 refine returnsInLeavingWide_of_good own started witness ?_
 intro w tape i _ _ _ hok hpre hholds
 obtain ⟨_,_,_,fn',hfn',_,_,_,_,hval⟩:=hok
 have e:fn'=fn:=Option.some.inj (hfn'.symm.trans hfn)
 subst e
 obtain ⟨⟨⟨ds,gs,before,hW0,hc⟩,hx⟩,hz⟩:=hpre
 have hW:=DataW.Whole.of_heap (w':=w.forCall tape i) (by rfl) hW0
 have hL:laidMetH Tryd.prog zoj (w.forCall tape i):=hx.of_heap (by rfl)
 have hz:=hz.weights hW0
 change ((DataW.weightsEach Tryd.prog (fn'.params.toList++s.plain.varTypes Tryd.prog) (ds++gs)).all _)=true at hz
 generalize w.forCall tape i=W at hW hL hval ⊢
 generalize i.args=args at hW hval ⊢
 have hW':=hW
 have hlt:∀ x∈before,x.block<W.heap.size:=fun x hx=>hW.lt x hx
 obtain ⟨p,q,hA,hV,rfl,hfz,hnd⟩:=hW
 rw [hv] at hV
 have hgs:gs=[]∧q=[]:=by
  cases gs with
  | nil=>exact ⟨rfl,hV⟩
  | cons _ _=>exact hV.elim
 obtain ⟨rfl,rfl⟩:=hgs
 have hvt:s.plain.varTypes Tryd.prog=[]:=by simp [ChangeSpec.plain,DataSpec.varTypes,hv]
 rw [hvt,List.append_nil,List.append_nil] at hz
 rw [List.append_nil] at hlt
 obtain ⟨ws,argsL,h1,h2,h3,h4⟩:=walk W w.heap.size args ds p hval hA hlt hz (zpi hL)
 refine z4s hfn hfL hr hni he h19 h1 h2 h3 h4 (fun w' k1 k2 k3 k4=>?_)
 have hb:Below W.heap.size W (relay w' W.tape):=⟨k1,rfl,k2,k3,k4⟩
 have hlen:ds.length=fn'.params.toList.length:=zjy hA
 have hsp:=hspec ds hlen
 have post:s.post enc Tryd.prog fn' false true false false W args (.bool true) (relay w' W.tape):=by
  refine ⟨ds,[],_,[],p,[],hW',?_,?_,?_,hb.frame _,fun h=>by cases h⟩
  ·rw [hsp,hres]
   exact trodAll_mk1 (shut_bool Tryd.underlying4 _)
  ·rw [hsp]
   exact zgz z2r hb hpar hA hlt
  ·rw [hsp,hv]
   rfl
 have h5:=ChangeSpec.post_blind post
 exact h5
end
end
end Go.Proofs.YtelgmbomkojmaaaDoor
