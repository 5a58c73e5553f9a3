/- A pack: Wa Wb Wc Wd We Wf Wg Wh Wi Wj Wk Wl Wm. -/
import Derived.Test.YtelgmbomkojmaaaDoorQVfar
import Derived.Test.YtelgmbomkojmaaaDoorQLaa
import Derived.Test.YtelgmbomkojmaaaDoorQVsbe
import Derived.Test.YtelgmbomkojmaaaDoorQLad
import Derived.Test.YtelgmbomkojmaaaDoorQVnaz
import Derived.Test.YtelgmbomkojmaaaDoorQZag
namespace Go.Proofs.YtelgmbomkojmaaaDoor
set_option linter.all false
set_option maxRecDepth 100000
open Exts (ext stop anyOk gapOk)
section
def badT:TypeId:=1000000
theorem gsz:Lead.prog.globals.size=1:=by kernel_rfl
theorem zk6:Lead.prog.info? badT=none:=by kernel_rfl
def skel (b:Nat)(o:Obj): Obj:=if b=0 then o else match o with|.number a l=>.number a l|_=>.cells #[] badT (0,0)
def zb0 (h:Array Obj)(sv pt:Array Value): Array Obj:=(h.mapIdx skel)++#[.cells sv badT (0,sv.size),.cells pt badT (0,pt.size)]
theorem zh7 (h:Array Obj)(sv pt:Array Value): (zb0 h sv pt).size=h.size+2:=by simp [zb0]
theorem zgn {h:Array Obj}{sv pt:Array Value}{b:Nat}{o:Obj}(hb:h[b]?=some o): (zb0 h sv pt)[b]?=some (skel b o):=by
 have hlt:=(Array.getElem?_eq_some_iff.1 hb).1
 unfold zb0
 rw [Array.getElem?_append_left (by simpa using hlt),Array.getElem?_mapIdx,hb]
 rfl
theorem zgl (h:Array Obj)(sv pt:Array Value): (zb0 h sv pt)[h.size]?=some (.cells sv badT (0,sv.size)):=by
 unfold zb0
 rw [Array.getElem?_append_right (by simp)]
 simp
theorem zgm (h:Array Obj)(sv pt:Array Value): (zb0 h sv pt)[h.size+1]?=some (.cells pt badT (0,pt.size)):=by
 unfold zb0
 rw [Array.getElem?_append_right (by simp)]
 simp
def zcl (z:Nat)(σ:Nat→Option (Nat×Nat))(sv pt:Option (Nat×Nat))(b:Nat): Option (Nat×Nat):=if b<z then σ b else if b=z then sv else if b=z+1 then pt else none
def ze7 (c:Array Value): Prop:=∀ (i:Nat) v,c[i]?=some v→∃ k n,v=.int k n
def zd9 (X:Exts)(z M:Nat)(σ:Nat→Option (Nat×Nat))(sv pt:Option (Nat×Nat)): Bas:={ N:=z+2,M:=M,old:=zcl z σ sv pt,cv:=false,was:=fun _=>none,G:=1,bad:=badT,good:=fun b=>b == 0,code:=fun c=>@zam X Lead.prog false c=true,tab:=ze7 }
section
variable {X1 X2:Exts} {B:Bas} {nw:List Nat} {wl wc w':World}
theorem zfi {σ:Nat→Option (Nat×Nat)}{k:IntKind}{n:Int}{v':Value}(h:@VRel X2 σ (.int k n) v'): v'=.int k n:=by cases h;rfl
def zme (w':World)(x:Option (Nat×Nat))(c:Array Value)(M:Nat): Prop:=∀ b d,x=some (b,d)→b<M∧∃ c' e fr,w'.heap[b]?=some (.cells c' e fr)∧∀ (i:Nat) v,c[i]?=some v→c'[i+d]?=some v
theorem z0u (hW:@WRel X2 B nw wl wc)(hG:0<B.N)(hg0:B.good 0=true)(h00:B.old 0=some (0,0))(htab:∀ c,B.tab c→ze7 c)(hkeep:∀ b b' d,cor B nw b=some (b',d)→b'<w'.heap.size∧w'.heap[b']?=wc.heap[b']?){sv pt:Option (Nat×Nat)}{cs cp:Array Value}(hs:zme w' sv cs w'.heap.size)(hp:zme w' pt cp w'.heap.size)(is:ze7 cs)(ip:ze7 cp)(z:Nat)(hz:z=wl.heap.size):
  @WRel X1 (zd9 X1 z w'.heap.size (fun b=>if b<z then cor B nw b else none) sv pt) [] { w' with heap:=zb0 wl.heap cs cp } w':=by
 subst hz
 have win:∀ (c:Array Value) (x:Option (Nat×Nat)) (q b' d:Nat),ze7 c→zme w' x c w'.heap.size→x=some (b',d)→q≠0→∃ o',w'.heap[b']?=some o'∧@ORel X1 (zd9 X1 wl.heap.size w'.heap.size (fun b=>if b<wl.heap.size then cor B nw b else none) sv pt) (cor (zd9 X1 wl.heap.size w'.heap.size (fun b=>if b<wl.heap.size then cor B nw b else none) sv pt) []) q b' d (.cells c badT (0,c.size)) o':=by
  intro c x q b' d hi hx e hq
  obtain ⟨h1,c',e',fr,h2,h3⟩:=hx b' d e
  refine ⟨_,h2,@ORel.cells X1 _ _ _ _ _ c c' badT e' (0,c.size) fr rfl (Nat.le_refl _) (.inr ⟨by simpa [zd9] using hq,by show 1≤q;omega,rfl⟩) (fun i v hv=>?_)⟩
  obtain ⟨k,n,rfl⟩:=hi i v hv
  exact ⟨_,h3 i _ hv,@VRel.int X1 _ k n⟩
 refine @WRel.mk X1 (zd9 X1 wl.heap.size w'.heap.size (fun b=>if b<wl.heap.size then cor B nw b else none) sv pt) [] { w' with heap:=zb0 wl.heap cs cp } w' (by rw [zh7];rfl) (Nat.le_refl _) (fun k hk=>(by cases hk)) List.nodup_nil (fun b b' d hb hB=>?_) (fun b b' d hb hB=>?_) (fun i k hk=>(by cases hk)) (fun k q=>rfl) (fun h=>(by cases h))
 ·have hB:zcl wl.heap.size (fun b=>if b<wl.heap.size then cor B nw b else none) sv pt b=some (b',d):=hB
  unfold zcl at hB
  split at hB
  ·rename_i hlt
   dsimp only at hB
   rw [if_pos hlt] at hB
   exact (hkeep b b' d hB).1
  ·split at hB
   ·exact (hs b' d hB).1
   ·split at hB
    ·exact (hp b' d hB).1
    ·cases hB
 ·replace hB:zcl wl.heap.size (fun b=>if b<wl.heap.size then cor B nw b else none) sv pt b=some (b',d):=hB
  unfold zcl at hB
  split at hB
  ·rename_i hlt
   dsimp only at hB
   rw [if_pos hlt] at hB
   obtain ⟨o,o',h1,h2,h3⟩:=@WRel.block X2 B nw wl wc hW b b' d hB
   have h2':w'.heap[b']?=some o':=(hkeep b b' d hB).2.trans h2
   refine ⟨skel b o,o',zgn h1,h2',?_⟩
   by_cases hb0:b=0
   ·subst hb0
    rw [show cor B nw 0=B.old 0 from if_pos hG,h00] at hB
    cases hB
    rcases h3 with ⟨_,h3⟩|⟨i,hi,_⟩
    ·cases h3 with
     | cells c c' e e' fr fr' k0 k1 kg kc =>
       rcases kg with ⟨_,_,_,rfl,ksz,kt⟩|⟨kg,_⟩
       ·refine @ORel.cells X1 _ _ _ _ _ c c' e e fr fr' k0 k1 (.inl ⟨rfl,rfl,rfl,rfl,ksz,htab c kt⟩) (fun i v hv=>?_)
        obtain ⟨v',hv',hr⟩:=kc i v hv
        obtain ⟨k,n,rfl⟩:=htab c kt i v hv
        rw [zfi hr] at hv'
        exact ⟨_,hv',@VRel.int X1 _ k n⟩
       ·rw [hg0] at kg;cases kg
     | dull fr o' hk hg=>rw [hg0] at hg;exact absurd hg.1 (by simp)
     | num a a' l h hg=>rw [hg0] at hg;exact absurd hg.1 (by simp)
    ·omega
   ·have hg:(zd9 X1 wl.heap.size w'.heap.size (fun b=>if b<wl.heap.size then cor B nw b else none) sv pt).good b=false∧1≤b:=⟨by simpa [zd9] using hb0,by omega⟩
    have dull:∀ o',zl8 o'=true→@ORel X1 (zd9 X1 wl.heap.size w'.heap.size (fun b=>if b<wl.heap.size then cor B nw b else none) sv pt) (cor (zd9 X1 wl.heap.size w'.heap.size (fun b=>if b<wl.heap.size then cor B nw b else none) sv pt) []) b b' d (.cells #[] badT (0,0)) o':=fun o' hk=>@ORel.dull X1 (zd9 X1 wl.heap.size w'.heap.size (fun b=>if b<wl.heap.size then cor B nw b else none) sv pt) _ _ _ _ (0,0) o' hk hg rfl
    have num:∀ a a' l,@ARel (cor B nw) a a'→@ORel X1 (zd9 X1 wl.heap.size w'.heap.size (fun b=>if b<wl.heap.size then cor B nw b else none) sv pt) (cor (zd9 X1 wl.heap.size w'.heap.size (fun b=>if b<wl.heap.size then cor B nw b else none) sv pt) []) b b' d (.number a l) (.number a' l):=fun a a' l ha=>by
     obtain ⟨e1,q,dq,e2,e3⟩:=ha
     refine @ORel.num X1 _ _ _ _ _ a a' l ⟨e1,q,dq,?_,e3⟩ hg rfl
     obtain ⟨oq,_,hq,_⟩:=@WRel.block X2 B nw wl wc hW a.block q dq e2
     have hl:a.block<wl.heap.size:=(Array.getElem?_eq_some_iff.1 hq).1
     rw [zbs (by show a.block<wl.heap.size+2;omega)]
     show zcl wl.heap.size (fun b=>if b<wl.heap.size then cor B nw b else none) sv pt a.block=_
     unfold zcl
     rw [if_pos hl]
     dsimp only
     rw [if_pos hl]
     exact e2
    unfold skel
    rw [if_neg hb0]
    rcases h3 with ⟨_,h3⟩|⟨i,hi,_,_,h3⟩
    ·cases h3 with
     | cells=>exact dull _ rfl
     | dull _ _ hk=>exact dull _ hk
     | num a a' l h=>exact num a a' l h
    ·cases h3 with
     | cells=>exact dull _ rfl
     | loop=>exact dull _ rfl
     | defNone=>exact dull _ rfl
     | defNil=>exact dull _ rfl
     | number a a' l h=>exact num a a' l h
  ·split at hB
   ·subst b
    obtain ⟨o',h1,h2⟩:=win cs sv wl.heap.size b' d is hs hB (by have:0<wl.heap.size:=(by rw [hW.size];omega);omega)
    exact ⟨_,o',zgl _ _ _,h1,h2⟩
   ·split at hB
    ·subst b
     obtain ⟨o',h1,h2⟩:=win cp pt (wl.heap.size+1) b' d ip hp hB (by omega)
     exact ⟨_,o',zgm _ _ _,h1,h2⟩
    ·cases hB
end
end
section
def zda:List FuncId:=[15,22,23,24,25,36,37,38,39,40,41,43,63,64,65,66,67,68,74,75,76,77,78,79,80,81,82,83,84]
@[reducible] def E1:Exts:={ ext:=fun f=>!(zda.contains f),stop:=fun _=>false,anyOk:=false,gapOk:=true }
@[reducible] def E0:Exts:={ ext:=fun f=>!(zda.contains f),stop:=fun _=>false,anyOk:=false,gapOk:=false }
theorem zl2:zbt Lead.prog Tryd.prog:=⟨rfl,fun f=>by
 by_cases h:f=19
 ·subst h
  rw [Lead.func19,Tryd.func19]
  rfl
 ·by_cases h2:f=32
  ·subst h2
   rw [Lead.func32,Tryd.func32]
   rfl
  ·rw [Lead.funcs_ne h h2]⟩
def ztu (X:Exts)(P:Program)(cv:Bool)(l:List FuncId): Bool:=l.all fun f=>match P.funcs[f]? with
 | some fn=>fn.body.isSome && !(fn.name == "runtime.NumGoroutine") && (match fn.body with|some c=>@zam X P cv c|none=>true)
 | none=>true
theorem zti:ztu E1 Lead.prog false zda=true:=by decide +kernel
theorem zqk:ztu E0 Lead.prog false zda=true:=by decide +kernel
theorem zl6 {X:Exts}{P:Program}{cv:Bool}{l:List FuncId}(h:ztu X P cv l=true){f:FuncId}{fn:Func}(hf:P.funcs[f]?=some fn)(hl:l.contains f=true):
  fn.body.isSome=true∧(fn.name == "runtime.NumGoroutine")=false∧∀ c,fn.body=some c→@zam X P cv c=true:=by
 have h1:=List.all_eq_true.1 h f (by simpa using hl)
 rw [hf] at h1
 simp only [Bool.and_eq_true] at h1
 refine ⟨h1.1.1,by simpa using h1.1.2,fun c hc=>?_⟩
 have:=h1.2
 rw [hc] at this
 exact this
def z2g (P:Program): Bool:=P.funcs.toList.all fun f=>match f.body with|some c=>(readies c).isEmpty|none=>true
theorem zoi:z2g Lead.prog=true:=by decide +kernel
theorem zhq (g:FuncId): Lead.prog.stepOf g=none:=by
 unfold Program.stepOf
 rw [Array.findIdx?_eq_none_iff]
 intro f hf
 have h:=List.all_eq_true.1 (show Lead.prog.funcs.toList.all _=true from zoi) f (by simpa using hf)
 cases hb:f.body with
 | none=>rfl
 | some c =>
   rw [hb] at h
   have h:(readies c).isEmpty=true:=h
   rw [List.isEmpty_iff] at h
   simp [h]
theorem zfp:Lead.prog.follows .staticDataAhead=true:=by kernel_rfl
theorem zkr:Lead.prog.funcs.size=105:=by kernel_rfl
theorem z1a (X:Exts)(hX:∀ f,X.ext f=!(zda.contains f))(hF:ztu X Lead.prog false zda=true)(P':Program)(hA:zbt Lead.prog P')(hb:∀ f fn c,Lead.prog.funcs[f]?=some fn→fn.body=some c→zda.contains f=true→∃ fn',P'.funcs[f]?=some fn'∧fn'.body=some c)(z M:Nat)(σ:Nat→Option (Nat×Nat))(sv pt:Option (Nat×Nat))(hz:0<z)(h0:σ 0=some (0,0)): @zb3 X Lead.prog P' (zd9 X z M σ sv pt):=by
 have in15:∀ f,X.ext f=false→zda.contains f=true:=fun f h=>by
  rw [hX] at h
  simpa using h
 refine @zb3.mk X Lead.prog P' (zd9 X z M σ sv pt) (@Prog.mk X Lead.prog P' (zd9 X z M σ sv pt) (@Fit.mk Lead.prog P' (zd9 X z M σ sv pt) hA gsz.symm zk6 (by show 1≤z+2;omega) (fun b hb=>?_)) (fun f fn hf hx=>?_) ⟨by show 0<z+2;omega,?_⟩) (fun c=>Iff.rfl) (fun f fn c hf hc hx _=>?_) ?_ zhq zfp
 ·have hb:b<1:=hb
  have:b=0:=by omega
  subst this
  rfl
 ·have:=zl6 hF hf (in15 f hx)
  exact ⟨this.1,this.2.1⟩
 ·show zcl z σ sv pt 0=_
  unfold zcl
  rw [if_pos hz]
  exact h0
 ·exact ⟨(zl6 hF hf (in15 f hx)).2.2 c hc,hb f fn c hf hc (in15 f hx)⟩
 ·rw [hX,zkr]
  rfl
theorem z3p (f:FuncId)(fn:Func)(c:Code)(hf:Lead.prog.funcs[f]?=some fn)(hc:fn.body=some c)(h:zda.contains f=true): ∃ fn',Tryd.prog.funcs[f]?=some fn'∧fn'.body=some c:=by
 have h1:f≠19:=fun e=>by subst e;revert h;decide
 have h2:f≠32:=fun e=>by subst e;revert h;decide
 exact ⟨fn,by rw [← Lead.funcs_ne h1 h2];exact hf,hc⟩
end
section
open Go.Conc Go.ConcN Go.ConcN.Gen Go.RowKit Go.Conc.Lib Go.ConcR.Gen
open Go.ConcR (KK wgBlock WgAt stA smA rd wr Payload DC0)
theorem z16 (P:Program)(t:Array Value)(w:World)(es:Array Event): (results Tryd.f15 t).run P w=.ok (.tuple #[t.getD 8 undef,t.getD 9 undef,t.getD 10 undef]) w∧(results Tryd.f15 t).events P w es=es:=by
 unfold results
 rw [Tryd.results15]
 constructor <;> simp [Array.mapM_eq_mapM_toList,go_sem] <;> rfl
theorem zze (A D:Option Addr)(n c m d:Nat)(hop hops:Int)(server b:List Int)(w:World)(hn:server.length=n)(hm:b.length=m)(hbn:n≤4000)(hmd:m≤d)(hx:Rd w A (nums .u8 server))(hy:Rd w D (nums .u8 b))(hb:Byt b)(hK:za2 w):
  Calls Lead.prog 15 #[.slice A n c,.int .i64 hop,.int .i64 hops,.slice D m d] w (fun e _=>∃ (x k:Sl) (z:Int),e=.returned (.tuple #[sl x,sl k,.int .i64 z])):=by
 by_cases hz:zds server hop hops b=0
 ·exact (zrr A D n c m d hop hops server b w hn hm hbn hmd hx hy hb hK hz).mono fun e w' h=>by
   obtain ⟨A',B',c',d',h,_⟩:=h
   exact ⟨(A',_,c'),(B',_,d'),0,h⟩
 ·exact (zv0 A D n c m d hop hops server b w hn hm hbn hmd hx hy hb hK hz).mono fun e w' h=>⟨(none,0,0),(none,0,0),_,h.1⟩
def Q15 (x k:Sl)(e:Int)(fr:Frame): Prop:=fr.fn=15∧fr.mode=.returning∧fr.defers=[]∧fr.kind=.normal∧fr.tmps.getD 8 undef=sl x∧fr.tmps.getD 9 undef=sl k∧fr.tmps.getD 10 undef=.int .i64 e
def Q15' (fr:Frame)(_:World): Prop:=∃ x k e,Q15 x k e fr
theorem z4h {args:Array Value}{w:World}(h:∀ T,Calls Lead.prog 15 args (relay w T) (fun e _=>∃ (x k:Sl) (z:Int),e=.returned (.tuple #[sl x,sl k,.int .i64 z]))): Ends Lead.prog Q15' ⟨Frame.enter Lead.prog 15 args .normal,[door Lead.prog],w⟩:=fun T _=>by
 obtain ⟨e,w',fr,⟨x,k,z,rfl⟩,⟨n,hc⟩,hf,h1,h2,h3,fn,h4,h5⟩:=h T [door Lead.prog]
 refine ⟨n,fr,w',hc,fun ch he=>(by rw [h1] at he;cases he),x,k,z,hf,h1,h2,h3,?_⟩
 rw [hf,Lead.func15] at h4
 cases h4
 rw [(z16 Lead.prog fr.tmps w' #[]).1] at h5
 simp only [Result.ok.injEq,Value.tuple.injEq,Array.mk.injEq,List.cons.injEq,and_true] at h5
 exact h5
def zem (bs:List Int): Array Value:=(nums .u8 bs).toArray
theorem zfq (bs:List Int): ze7 (zem bs):=fun i v h=>by
 unfold zem nums at h
 simp only [List.getElem?_toArray,List.getElem?_map] at h
 obtain ⟨n,_,rfl⟩:=Option.map_eq_some_iff.1 h
 exact ⟨_,_,rfl⟩
structure zfe (X:Exts)(B:Bas)(nw:List Nat)(wl:World)(vl vc:Sl)(bs:List Int): Prop where
 rel:@VRel X (cor B nw) (sl vl) (sl vc)
 len:bs.length=vl.2.1
 cap:bs.length≤vl.2.2
 byt:Byt bs
 cells:∀ i,i<bs.length→∃ a,vl.1=some a∧a.spot=none∧wl.cell? ⟨a.block,a.off+i,none⟩=some (.int .u8 (bs.getD i 0))
def zcm (q:Nat)(vl:Sl)(bs:List Int): Sl:=if bs=[] then vl else (some ⟨q,0,none⟩,vl.2)
def zb7 (vc:Sl)(bs:List Int): Option (Nat×Nat):=if bs=[] then none else vc.1.map fun a=>(a.block,a.off)
section
variable {X2:Exts} {B:Bas} {nw:List Nat} {wl wc w':World} {vl vc:Sl} {bs:List Int}
theorem zfe.two (h:zfe X2 B nw wl vl vc bs): vl.2=vc.2:=by
 obtain ⟨a,n,c⟩:=vl
 obtain ⟨a',n',c'⟩:=vc
 have:=h.rel
 unfold sl at this
 dsimp only at this
 cases this <;> rfl
theorem zfe.at_ (h:zfe X2 B nw wl vl vc bs)(hW:@WRel X2 B nw wl wc)(hne:bs≠[]): ∃ a b' d,vl.1=some a∧a.spot=none∧cor B nw a.block=some (b',d)∧vc.1=some ⟨b',a.off+d,none⟩ ∧
  ∀ i,i<bs.length→wc.cell? ⟨b',a.off+d+i,none⟩=some (.int .u8 (bs.getD i 0)):=by
 obtain ⟨a,ha,hsp,hc0⟩:=h.cells 0 (by cases bs;exact absurd rfl hne;simp)
 have hr:=h.rel
 obtain ⟨av,n,c⟩:=vl
 obtain ⟨av',n',c'⟩:=vc
 dsimp only at ha
 subst ha
 unfold sl at hr
 dsimp only at hr
 cases hr with
 | slice _ a' _ _ har =>
   have har0:=har
   obtain ⟨_,b',d,hcor,rfl⟩:=har
   refine ⟨a,b',d,rfl,hsp,hcor,rfl,fun i hi=>?_⟩
   obtain ⟨a2,e2,_,hci⟩:=h.cells i hi
   cases e2
   obtain ⟨v',hv',hrel⟩:=@WRel.cell X2 B nw wl wc hW ⟨a.block,a.off+i,none⟩ ⟨b',a.off+i+d,none⟩ ⟨rfl,b',d,hcor,rfl⟩ _ hci
   rw [zfi hrel] at hv'
   rw [show a.off+d+i=a.off+i+d by omega]
   exact hv'
theorem zfe.win (h:zfe X2 B nw wl vl vc bs)(hW:@WRel X2 B nw wl wc)(hkeep:∀ b b' d,cor B nw b=some (b',d)→b'<w'.heap.size∧w'.heap[b']?=wc.heap[b']?): zme w' (zb7 vc bs) (zem bs) w'.heap.size:=by
 intro b d hb
 unfold zb7 at hb
 split at hb
 ·cases hb
 rename_i hne
 obtain ⟨a,b',dd,h1,h2,h3,h4,h5⟩:=h.at_ hW hne
 rw [h4] at hb
 simp only [Option.map_some,Option.some.injEq,Prod.mk.injEq] at hb
 obtain ⟨rfl,rfl⟩:=hb
 obtain ⟨k1,k2⟩:=hkeep _ _ _ h3
 have hpos:0<bs.length:=List.length_pos_iff.2 hne
 have h0:=h5 0 hpos
 have key:∃ c' e fr,wc.heap[b']?=some (.cells c' e fr):=by
  unfold World.cell? at h0
  dsimp only at h0
  cases ho:wc.heap[b']? with
  | none=>rw [ho] at h0;cases h0
  | some o =>
    rw [ho] at h0
    cases o <;> first
     | exact ⟨_,_,_,rfl⟩
     | cases h0
 obtain ⟨c',e,fr,hc'⟩:=key
 refine ⟨k1,c',e,fr,k2.trans hc',fun i v hv=>?_⟩
 unfold zem nums at hv
 simp only [List.getElem?_toArray,List.getElem?_map] at hv
 obtain ⟨x,hx,rfl⟩:=Option.map_eq_some_iff.1 hv
 have hi:=(List.getElem?_eq_some_iff.1 hx).1
 have:=h5 i hi
 unfold World.cell? at this
 rw [hc'] at this
 dsimp only at this
 rw [show i+(a.off+dd)=a.off+dd+i by omega]
 simpa [List.getD,hx] using this
theorem zfe.base (h:zfe X2 B nw wl vl vc bs)(hW:@WRel X2 B nw wl wc){σ:Nat→Option (Nat×Nat)}{q:Nat}(hlt:∀ b x,cor B nw b=some x→σ b=some x)(hq:bs≠[]→σ q=zb7 vc bs): @VRel E1 σ (sl (zcm q vl bs)) (sl vc):=by
 unfold zcm
 by_cases hne:bs=[]
 ·rw [if_pos hne]
  have hr:=h.rel
  obtain ⟨av,n,c⟩:=vl
  obtain ⟨av',n',c'⟩:=vc
  unfold sl at hr ⊢
  dsimp only at hr ⊢
  cases hr with
  | nils=>exact @VRel.nils E1 _ _ _
  | gap a' _=>exact @VRel.gap E1 _ a' rfl
  | slice a a' _ _ har =>
    obtain ⟨h1,b',d,h2,h3⟩:=har
    exact @VRel.slice E1 _ a a' _ _ ⟨h1,b',d,hlt _ _ h2,h3⟩
 ·rw [if_neg hne]
  obtain ⟨a,b',dd,h1,h2,h3,h4,h5⟩:=h.at_ hW hne
  have e2:=h.two
  have hw:σ q=some (b',a.off+dd):=by rw [hq hne];unfold zb7;rw [if_neg hne,h4];rfl
  obtain ⟨av,n,c⟩:=vl
  obtain ⟨av',n',c'⟩:=vc
  dsimp only at h4 e2
  subst h4
  cases e2
  exact @VRel.slice E1 _ ⟨q,0,none⟩ ⟨b',a.off+dd,none⟩ _ _ ⟨rfl,b',a.off+dd,hw,by simp⟩
theorem zvs {wb:World}{q:Nat}(vl:Sl)(hq:wb.heap[q]?=some (.cells (zem bs) badT (0,(zem bs).size))): Rd wb (zcm q vl bs).1 (nums .u8 bs):=by
 unfold zcm
 by_cases hne:bs=[]
 ·subst hne;exact .inl rfl
 ·rw [if_neg hne]
  refine .inr ⟨q,0,rfl,(Array.getElem?_eq_some_iff.1 hq).1,fun i v hv=>?_⟩
  unfold World.cell?
  rw [hq]
  simpa [zem] using hv
end
end
section
open Go.Conc Go.ConcN Go.ConcN.Gen Go.RowKit Go.Conc.Lib Go.ConcR.Gen
open Go.ConcR (KK wgBlock WgAt stA smA rd wr Payload DC0)
structure PIn where
 z:Nat
 σ:Nat→Option (Nat×Nat)
 hl:Array Obj
 svL:Sl
 svC:Sl
 sb:List Int
 hop:Int
 hops:Int
 ptL:Nat→Sl
 ptC:Nat→Sl
 pb:Nat→List Int
 zc:Nat
def PIn.bas (y:PIn)(p M:Nat): Bas:=zd9 E1 y.z M y.σ (zb7 y.svC y.sb) (zb7 (y.ptC p) (y.pb p))
def PIn.heap (y:PIn)(p:Nat): Array Obj:=zb0 y.hl (zem y.sb) (zem (y.pb p))
def PIn.args (y:PIn)(p:Nat): Array Value:=#[sl (zcm y.z y.svL y.sb),.int .i64 y.hop,.int .i64 y.hops,sl (zcm (y.z+1) (y.ptL p) (y.pb p))]
def zyj (X:Exts)(B:Bas)(nw:List Nat)(w w':World): Prop:=∀ i k,nw[i]?=some k→∃ o o',w.heap[B.N+i]?=some o∧w'.heap[k]?=some o'∧@NRel X B (cor B nw) o o'
def Came (y:PIn)(p:Nat)(a:Ans)(S:Nat→Prop)(w':World): Prop:=∃ (M:Nat) (wb:World) (nw2:List Nat) (fr2:Frame) (w2:World) (x k x' k':Sl) (e:Int),wb.heap=y.heap p ∧
 @zlk E1 Lead.prog (Frame.enter Lead.prog 15 (y.args p) .normal) [door Lead.prog] wb fr2 [door Lead.prog] w2∧Q15 x k e fr2∧w2.heap.size=y.z+2+nw2.length∧nw2.Nodup∧(∀ q∈nw2,S q)∧(∀ b,S b→y.zc≤b) ∧
 zyj E1 (y.bas p M) nw2 w2 w'∧@VRel E1 (cor (y.bas p M) nw2) (sl x) (sl x')∧@VRel E1 (cor (y.bas p M) nw2) (sl k) (sl k')∧a=if e=0 then .good x' k' else .bad
theorem zxx (y:PIn): ∀ p a S w w₁,Came y p a S w→(∀ b,S b→w₁.heap[b]?=w.heap[b]?)→Came y p a S w₁:=fun p a S w w₁ h hk=>by
 obtain ⟨M,wb,nw2,fr2,w2,x,k,x',k',e,h1,h2,h3,h4,h5,h6,h7,h8,h9,h10,h11⟩:=h
 exact ⟨M,wb,nw2,fr2,w2,x,k,x',k',e,h1,h2,h3,h4,h5,h6,h7,fun i q hq=>by
  obtain ⟨o,o',k1,k2,k3⟩:=h8 i q hq
  exact ⟨o,o',k1,(hk q (h6 q (List.mem_of_getElem? hq))).trans k2,k3⟩,h9,h10,h11⟩
section
variable {X2:Exts} {B:Bas} {nw:List Nat} {wl wc:World}
structure zcd (X2:Exts)(B:Bas)(nw:List Nat)(wl wc:World)(n:Nat)(y:PIn): Prop where
 rel:@WRel X2 B nw wl wc
 N:0<B.N
 good0:B.good 0=true
 old0:B.old 0=some (0,0)
 tab:∀ c,B.tab c→ze7 c∧∀ j,j<64→c[j]?=some (.int .u32 (kc.getD j 0))
 z:y.z=wl.heap.size
 σ:y.σ=fun b=>if b<y.z then cor B nw b else none
 hl:y.hl=wl.heap
 zc:y.zc=wc.heap.size
 sv:zfe X2 B nw wl y.svL y.svC y.sb
 few:y.sb.length≤4000
 pt:∀ p,p<n→zfe X2 B nw wl (y.ptL p) (y.ptC p) (y.pb p)
def Img (B:Bas)(nw:List Nat)(b':Nat): Prop:=∃ b d,cor B nw b=some (b',d)
theorem zcd.img {n:Nat}{y:PIn}(h:zcd X2 B nw wl wc n y){b b' d:Nat}(hc:cor B nw b=some (b',d)): b<wl.heap.size∧b'<wc.heap.size:=by
 obtain ⟨o,o',h1,h2,_⟩:=@WRel.block X2 B nw wl wc h.rel b b' d hc
 exact ⟨(Array.getElem?_eq_some_iff.1 h1).1,(Array.getElem?_eq_some_iff.1 h2).1⟩
theorem zcd.sig0 {n:Nat}{y:PIn}(h:zcd X2 B nw wl wc n y): 0<y.z∧y.σ 0=some (0,0):=by
 have hz:0<y.z:=by rw [h.z,h.rel.size];have:=h.N;omega
 refine ⟨hz,?_⟩
 rw [h.σ]
 dsimp only
 rw [if_pos hz,zbs h.N]
 exact h.old0
theorem zcd.sig {n:Nat}{y:PIn}(h:zcd X2 B nw wl wc n y){p M b:Nat}{x:Nat×Nat}(hc:cor B nw b=some x): cor (y.bas p M) [] b=some x:=by
 have hb:b<y.z:=by rw [h.z];exact (h.img (b':=x.1) (d:=x.2) hc).1
 rw [zbs (by show b<y.z+2;omega)]
 show zcl y.z y.σ _ _ b=_
 unfold zcl
 rw [if_pos hb,h.σ]
 dsimp only
 rw [if_pos hb]
 exact hc
theorem zcd.old {n:Nat}{y:PIn}(h:zcd X2 B nw wl wc n y){p M:Nat}(hp:p<n){w':World}(hkeep:∀ b b' d,cor B nw b=some (b',d)→b'<w'.heap.size∧w'.heap[b']?=wc.heap[b']?){b b' d:Nat}(hc:cor (y.bas p M) [] b=some (b',d)): Img B nw b':=by
 have hb:b<y.z+2:=by
  rcases Nat.lt_or_ge b (y.z+2) with hl|hl
  ·exact hl
  ·unfold cor at hc
   rw [if_neg (by show ¬ b<y.z+2;omega)] at hc
   cases hc
 rw [zbs hb] at hc
 have hc:zcl y.z y.σ (zb7 y.svC y.sb) (zb7 (y.ptC p) (y.pb p)) b=some (b',d):=hc
 have win:∀ {vl vc:Sl} {bs:List Int},zfe X2 B nw wl vl vc bs→zb7 vc bs=some (b',d)→Img B nw b':=fun {vl vc bs} hs hw=>by
  unfold zb7 at hw
  split at hw
  ·cases hw
  rename_i hne
  obtain ⟨a,q,dd,h1,h2,h3,h4,_⟩:=hs.at_ h.rel hne
  rw [h4] at hw
  simp only [Option.map_some,Option.some.injEq,Prod.mk.injEq] at hw
  exact ⟨_,_,hw.1 ▸ h3⟩
 unfold zcl at hc
 split at hc
 ·rename_i hlt
  rw [h.σ] at hc
  dsimp only at hc
  rw [if_pos hlt] at hc
  exact ⟨b,d,hc⟩
 ·split at hc
  ·exact win h.sv hc
  ·split at hc
   ·exact win (h.pt p hp) hc
   ·cases hc
theorem zcd.base {n:Nat}{y:PIn}(h:zcd X2 B nw wl wc n y){p:Nat}(hp:p<n){w':World}(hkeep:∀ b b' d,cor B nw b=some (b',d)→b'<w'.heap.size∧w'.heap[b']?=wc.heap[b']?):
  @WRel E1 (y.bas p w'.heap.size) [] { w' with heap:=y.heap p } w':=by
 have hb:=z0u (X1:=E1) h.rel h.N h.good0 h.old0 (fun c hc=>(h.tab c hc).1) hkeep (h.sv.win h.rel hkeep) ((h.pt p hp).win h.rel hkeep) (zfq y.sb) (zfq (y.pb p)) y.z h.z
 unfold PIn.bas PIn.heap
 rw [h.σ,h.hl]
 exact hb
theorem zcd.konst {n:Nat}{y:PIn}(h:zcd X2 B nw wl wc n y){wb:World}{p:Nat}(hb:wb.heap=y.heap p): za2 wb:=fun j hj=>by
 obtain ⟨o,o',h1,h2,h3⟩:=h.rel.old 0 0 0 h.N h.old0
 cases h3 with
 | cells c c' e e' fr fr' k0 k1 kg kc =>
   rcases kg with ⟨_,_,_,_,_,kt⟩|⟨kg,_⟩
   ·have h1':wb.heap[0]?=some (.cells c e fr):=by
     rw [hb]
     unfold PIn.heap
     rw [h.hl]
     exact zgn h1
    show wb.cell? ⟨0,j,none⟩=_
    unfold World.cell?
    rw [h1']
    exact (h.tab c kt).2 j hj
   ·rw [h.good0] at kg;cases kg
 | dull fr o' hk hg=>rw [h.good0] at hg;exact absurd hg.1 (by simp)
 | num a a' l h' hg=>rw [h.good0] at hg;exact absurd hg.1 (by simp)
theorem zcd.calls {n:Nat}{y:PIn}(h:zcd X2 B nw wl wc n y){wb:World}{p:Nat}(hp:p<n)(hb:wb.heap=y.heap p): Calls Lead.prog 15 (y.args p) wb (fun e _=>∃ (x k:Sl) (z:Int),e=.returned (.tuple #[sl x,sl k,.int .i64 z])):=by
 have hs:=h.sv
 have hpt:=h.pt p hp
 have q1:wb.heap[y.z]?=some (.cells (zem y.sb) badT (0,(zem y.sb).size)):=by rw [hb,h.z];unfold PIn.heap;rw [h.hl];exact zgl _ _ _
 have q2:wb.heap[y.z+1]?=some (.cells (zem (y.pb p)) badT (0,(zem (y.pb p)).size)):=by rw [hb,h.z];unfold PIn.heap;rw [h.hl];exact zgm _ _ _
 have e1:(zcm y.z y.svL y.sb).2=y.svL.2:=by unfold zcm;split <;> rfl
 have e2:(zcm (y.z+1) (y.ptL p) (y.pb p)).2=(y.ptL p).2:=by unfold zcm;split <;> rfl
 have:=zze (zcm y.z y.svL y.sb).1 (zcm (y.z+1) (y.ptL p) (y.pb p)).1 (zcm y.z y.svL y.sb).2.1 (zcm y.z y.svL y.sb).2.2 (zcm (y.z+1) (y.ptL p) (y.pb p)).2.1 (zcm (y.z+1) (y.ptL p) (y.pb p)).2.2 y.hop y.hops y.sb (y.pb p) wb
  (by rw [e1];exact hs.len) (by rw [e2];exact hpt.len) (by rw [e1,← hs.len];exact h.few) (by rw [e2];rw [← hpt.len];exact hpt.cap) (zvs y.svL q1) (zvs (y.ptL p) q2) hpt.byt (h.konst hb)
 exact this
theorem zcd.tidy {n:Nat}{y:PIn}(h:zcd X2 B nw wl wc n y){wb:World}{p:Nat}(hb:wb.heap=y.heap p): Tidy wb:=fun b l hl=>by
 exfalso
 rw [hb] at hl
 unfold PIn.heap zb0 at hl
 rw [h.hl] at hl
 rw [Array.getElem?_append] at hl
 split at hl
 ·rw [Array.getElem?_mapIdx] at hl
  obtain ⟨o,ho,e⟩:=Option.map_eq_some_iff.1 hl
  unfold skel at e
  split at e
  ·rename_i hb0
   subst hb0
   obtain ⟨o1,o2,h1,h2,h3⟩:=h.rel.old 0 0 0 h.N h.old0
   rw [h1] at ho
   cases ho
   subst e
   cases h3
  ·split at e <;> cases e
 ·rename_i hge
  generalize b - (Array.mapIdx skel wl.heap).size=q at hl
  match q with
  | 0=>cases hl
  | 1=>cases hl
  | q+2=>simp at hl
end
end
section
open Go.Conc Go.ConcN Go.ConcN.Gen Go.RowKit Go.Conc.Lib Go.ConcR.Gen
open Go.ConcR (KK wgBlock WgAt stA smA rd wr Payload DC0)
theorem zga {X:Exts}{σ:Nat→Option (Nat×Nat)}{x:Sl}{v':Value}(h:@VRel X σ (sl x) v'): ∃ x',v'=sl x':=by
 obtain ⟨a,n,c⟩:=x
 unfold sl at h
 dsimp only at h
 cases h with
 | nils=>exact ⟨(none,n,c),rfl⟩
 | gap a' _=>exact ⟨(some a',0,0),rfl⟩
 | slice a a' _ _ h=>exact ⟨(some a',n,c),rfl⟩
theorem z3r {X:Exts}{σ:Nat→Option (Nat×Nat)}{a b c d a' b' c' d':Value}(h1:@VRel X σ a a')(h2:@VRel X σ b b')(h3:@VRel X σ c c')(h4:@VRel X σ d d'): @RRel X σ #[a,b,c,d] #[a',b',c',d'] :=
 ⟨rfl,fun i v v' hv hv'=>by
  match i with
  | 0=>cases hv;cases hv';exact h1
  | 1=>cases hv;cases hv';exact h2
  | 2=>cases hv;cases hv';exact h3
  | 3=>cases hv;cases hv';exact h4
  | i+4=>simp at hv⟩
section
variable {X2:Exts} {B:Bas} {nw:List Nat} {wl wc:World}
theorem zcd.peelAll {n:Nat}{y:PIn}(h:zcd X2 B nw wl wc n y){Shun:Loc→Prop}{cap bR oR:Nat}{ad:Option Addr}{K:Nat→Prop}(hKi:∀ b,Img B nw b→K b)(Wg cG cB g0:Nat)(s:SBx)(w:World)(hk:∀ b,K b→w.heap[b]?=wc.heap[b]?)(hsz:wc.heap.size≤w.heap.size):
  zk9 (EOf Wg cG cB n g0 Shun (Came y)) s (yOf cG cB n cap (sl y.svC) y.hop y.hops ad bR oR (fun p=>sl (y.ptC p))) (MiOf K s) w:=by
 intro c bP M' w1 hMi hKn hMW hMl p hp cs w2 hW2
 have hp:p<n:=hp
 have hkeep:∀ b b' d,cor B nw b=some (b',d)→b'<w2.heap.size∧w2.heap[b']?=wc.heap[b']?:=fun b b' d hc=>by
  have hi:K b':=hKi b' ⟨b,d,hc⟩
  have h1:=hW2.1.1.keep b' (hMi b' (.inl hi))
  have h2:=hKn.1.keep b' (.inl hi)
  refine ⟨?_,h1.trans (h2.trans (hk b' hi))⟩
  have:=(h.img hc).2
  have:=hKn.1.size
  have:=hW2.1.1.size
  omega
 have hbase:=h.base hp hkeep
 have F:@zb3 E1 Lead.prog Tryd.prog (y.bas p w2.heap.size):=z1a E1 (fun _=>rfl) zti Tryd.prog zl2 z3p y.z _ y.σ _ _ h.sig0.1 h.sig0.2
 have hargs:@RRel E1 (cor (y.bas p w2.heap.size) []) (y.args p) #[sl y.svC,.int .i64 y.hop,.int .i64 y.hops,sl (y.ptC p)]:=by
  refine z3r (h.sv.base h.rel (fun b x hb=>h.sig hb) (fun hne=>?_)) (@VRel.int E1 _ _ _) (@VRel.int E1 _ _ _) ((h.pt p hp).base h.rel (fun b x hb=>h.sig hb) (fun hne=>?_))
  ·rw [zbs (by show y.z<y.z+2;omega)]
   show zcl y.z y.σ _ _ y.z=_
   unfold zcl
   rw [if_neg (Nat.lt_irrefl _),if_pos rfl]
  ·rw [zbs (by show y.z+1<y.z+2;omega)]
   show zcl y.z y.σ _ _ (y.z+1)=_
   unfold zcl
   rw [if_neg (by omega),if_neg (by omega),if_pos rfl]
 have hfr:=@zfa E1 Lead.prog Tryd.prog (y.bas p w2.heap.size) F (cor (y.bas p w2.heap.size) []) 15 rfl rfl _ _ hargs
 have hcs:=@zbl.base E1 Lead.prog (y.bas p w2.heap.size) (cor (y.bas p w2.heap.size) []) cs
 have hT:=@zux E1 Lead.prog Tryd.prog (y.bas p w2.heap.size) F (fun _=>rfl) cs Q15' ⟨Frame.enter Lead.prog 15 (y.args p) .normal,[door Lead.prog],{ w2 with heap:=y.heap p }⟩ ⟨h.tidy rfl,[],_,cs,w2,hbase,hfr,hcs⟩ (z4h fun T=>h.calls (wb:=relay { w2 with heap:=y.heap p } T) hp rfl)
 obtain ⟨st,sm,hWg⟩:=hW2.1.2
 have hWlt:Wg<w2.heap.size:=(Array.getElem?_eq_some_iff.1 (show w2.heap[Wg]?=_ from hWg)).1
 have hMl2:∀ b,M' b→b<w2.heap.size:=fun b hb=>Nat.lt_of_lt_of_le (hMl b hb) hW2.1.1.size
 refine @z4e E1 Lead.prog Tryd.prog (y.bas p w2.heap.size) F (fun _=>rfl) rfl false 76 Wg cs Q15' (fun fr w T hq=>hq) _ M' _ _ _ hT [] _ cs w2 M' (fun _=>False) hbase hfr hcs (fun b b' d hc=>hMi b' (.inl (hKi b' (h.old hp hkeep hc)))) (fun k hk=>(by cases hk)) (fun b hb=>⟨hb,fun h=>h,hMl2 b hb⟩) ⟨fun h=>h,hWlt⟩ (fun nw2 fr2 w3 fr2' w3' S hTr hQ hWR hFr hS hnw hcor hO=>?_)
 letI:Exts:=E1
 obtain ⟨x,k,e,q1,q2,q3,q4,q5,q6,q7⟩:=hQ
 have v8:=hFr.tmps.getD (@VRel.undef_ E1 (cor (y.bas p w2.heap.size) nw2)) 8
 have v9:=hFr.tmps.getD (@VRel.undef_ E1 (cor (y.bas p w2.heap.size) nw2)) 9
 have v10:=hFr.tmps.getD (@VRel.undef_ E1 (cor (y.bas p w2.heap.size) nw2)) 10
 have u8:@VRel E1 (cor (y.bas p w2.heap.size) nw2) (sl x) (fr2'.tmps.getD 8 undef):=by rw [← q5];exact v8
 have u9:@VRel E1 (cor (y.bas p w2.heap.size) nw2) (sl k) (fr2'.tmps.getD 9 undef):=by rw [← q6];exact v9
 have u10:@VRel E1 (cor (y.bas p w2.heap.size) nw2) (.int .i64 e) (fr2'.tmps.getD 10 undef):=by rw [← q7];exact v10
 obtain ⟨x',e8⟩:=zga u8
 obtain ⟨k',e9⟩:=zga u9
 have e10:=zfi u10
 rw [e8] at u8
 rw [e9] at u9
 have hd:fr2'.defers=[]:=by
  have:=hFr.defers
  rw [q3] at this
  generalize fr2'.defers=l at this ⊢
  cases this
  rfl
 have hm:fr2'.mode=.returning:=by
  rcases hFr.mode with ⟨h1,_⟩|⟨_,h2⟩
  ·rw [q2] at h1;cases h1
  ·exact h2
 have hfn:Tryd.prog.funcs[fr2'.fn]?=some Tryd.f15:=by rw [← hFr.fn,q1];exact Tryd.func15
 refine ⟨S,fr2',rfl,by funext b;simp,hS,rfl,hO,x'.1,x'.2.1,x'.2.2,k'.1,k'.2.1,k'.2.2,e,Tryd.f15,hm,hd,hFr.kind.2,hfn,fun w=>?_,?_⟩
 ·have hr:=z16 Tryd.prog fr2'.tmps w #[]
  rw [e8,e9,e10] at hr
  exact hr
 ·refine ⟨w2.heap.size,{ w2 with heap:=y.heap p },nw2,fr2,w3,x,k,x',k',e,rfl,hTr,⟨q1,q2,q3,q4,q5,q6,q7⟩,hWR.size,hWR.nodup,fun q hq=>(hnw q hq).elim (fun h=>(by cases h)) id,fun b hb=>?_,fun i q hq=>hWR.new i q hq,u8,u9,rfl⟩
  have:=hS b hb
  have:=hKn.1.size
  have:=hW2.1.1.size
  rw [h.zc]
  omega
end
end
section
open Go.Conc Go.ConcN
section
variable [Exts] {P:Program} {Q:Frame→World→Prop}
end
section
variable {P:Program} {Gl:Frame→List Frame→World→Prop} {fr:Frame} {cs:List Frame} {w:World}
theorem z6d {fr fr':Frame}{cs cs':List Frame}(h:G fr cs=G fr' cs'): fr=fr'∧cs=cs':=by
 unfold G at h
 simp only [Goroutine.mk.injEq] at h
 exact ⟨h.1,h.2.1⟩
theorem zab (hcs:cs≠[door P])(h:(stepG P true (G fr cs) w).goes fun g' w' _=>∃ fr' cs',g'=G fr' cs'∧To P Gl fr' cs' w'): To P Gl fr cs w:=by
 refine .step hcs w.tape (fun _ _ _=>rfl) fun fr1 cs1 w1 es hst _=>?_
 rw [show stepG P true (G fr cs) w=.go (G fr1 cs1) w1 es from hst,goes_go] at h
 obtain ⟨fr',cs',hg,hT⟩:=h
 obtain ⟨rfl,rfl⟩:=z6d hg
 exact hT
theorem zpg {b:Frame}{a:Act}{ops:Array Oper}{i:Nat}{rest:List Nat}{k:List Item}{oi:Oper}{f:FuncId}{fn:Func}{args:Array Operand}{ats:Array TypeId}(hcs:cs≠[door P])(ho:ops[i]?=some oi)(hw:Region.wanted oi (yielded ops a.tmps)=true)(hk:b.kind≠.early)(hop:oi.op=.call { callee:=.value (.func f),args,argTypes:=ats })(hf:P.funcs[f]?=some fn)(hname:(fn.name == "runtime.NumGoroutine")=false)(hb:fn.body.isNone=false)(h:To P Gl (Frame.enter P f (args.map a.eval) .normal) (b.at a (.inRegion ops (i :: rest) :: k) :: cs) w): To P Gl (b.at a (.inRegion ops (i :: rest) :: k)) cs w:=by
 refine zab hcs ?_
 rw [stepG_enter ho hw hk (run_call_body hop hf hname hb)]
 simp only [goes_go]
 exact ⟨_,_,rfl,h⟩
theorem z0a {fr1:Frame}{cs1:List Frame}{w w1 w2:World}{es e2:Array Event}{s:Sem Next}{hh:Halt}(hx:s.runT Lead.prog w #[]=(.halt hh w2,e2))(h:stepG.apply Lead.prog true fr cs none s w=.go { frame:=fr1,callers:=cs1,status:=.running,dying:=none } w1 es): ¬ Calm fr1:=by
 letI:Exts:=E1
 intro hp
 unfold stepG.apply at h
 simp only [if_true,hx] at h
 obtain ⟨e',h,-⟩:=zbi h
 cases hh with
 | panic v =>
   simp only [GStep.go.injEq,Goroutine.mk.injEq] at h
   obtain ⟨⟨rfl,-⟩,-⟩:=h
   obtain ⟨ch,hch⟩:=zcc fr [{ v,recovered:=false }]
   exact hp ch hch
 | goexit =>
   simp only [GStep.go.injEq,Goroutine.mk.injEq] at h
   obtain ⟨⟨rfl,-⟩,-⟩:=h
   obtain ⟨ch,hch⟩:=zcc fr [goexitEntry]
   exact hp ch hch
 | fatal m=>exact zjc rfl h
 | throw m=>simp [endThrow,dieOf] at h
 | unsupported u =>
   cases u with
   | initOrder g =>
     unfold early at h
     rw [zfp] at h
     simp only [Bool.not_true,Bool.false_eq_true,if_false,zhq] at h
     cases h
   | _=>cases h
 | _=>simp at h
theorem zni {ts:Array TypeId}{x:Operand}{a:Act}{oi:Oper}(ho:oi.op=.call { callee:=.builtin .cap,args:=#[x],argTypes:=ts }): execOp a.eval oi=(do pure (.value (← Builtin.cap_ ts oi.type #[a.eval x]))):=by
 unfold execOp
 rw [ho]
 simp [resolve,invoke,builtin]
theorem zgb {b:Frame}{a:Act}{ops:Array Oper}{i:Nat}{rest:List Nat}{k:List Item}{oi:Oper}{s:Sem Value}(hcs:cs≠[door Lead.prog])(ho:ops[i]?=some oi)(hw:Region.wanted oi (yielded ops a.tmps)=true)(hk:b.kind≠.early)(hop:execOp a.eval oi=(do pure (.value (← s))))(h:∀ v w1,s.run Lead.prog w=.ok v w1→To Lead.prog Gl (b.at (a.put oi.dst v) (.inRegion ops rest :: k)) cs w1): To Lead.prog Gl (b.at a (.inRegion ops (i :: rest) :: k)) cs w:=by
 letI:Exts:=E1
 refine .step hcs w.tape (fun _ _ _=>rfl) fun fr1 cs1 w1 es hst hcalm=>?_
 have hst:stepG Lead.prog true (G (b.at a (.inRegion ops (i :: rest) :: k)) cs) w=.go { frame:=fr1,callers:=cs1,status:=.running,dying:=none } w1 es:=hst
 have hb:(execOp a.eval oi).runT Lead.prog w #[]=match s.runT Lead.prog w #[] with
   | (.ok v w1,e1)=>(.ok (.value v) w1,e1)
   | (.halt h w1,e1)=>(.halt h w1,e1):=by
  rw [hop]
  have:=zan Lead.prog s (fun v=>Sem.pure (Next.value v)) w #[]
  refine this.trans ?_
  match s.runT Lead.prog w #[] with
  | (.ok v w1,e1)=>rfl
  | (.halt h w1,e1)=>rfl
 match hs:s.runT Lead.prog w #[] with
 | (.ok v w2,e2) =>
   rw [hs] at hb
   have hr:(execOp a.eval oi).run Lead.prog w=.ok (.value v) w2:=by
    have:=Sem.runT_fst Lead.prog (execOp a.eval oi) w #[]
    rw [hb] at this
    exact this.symm
   rw [stepG_value ho hw hk hr] at hst
   simp only [GStep.go.injEq,G,Goroutine.mk.injEq] at hst
   obtain ⟨⟨rfl,rfl,-⟩,rfl,-⟩:=hst
   exact h v w2 (by have:=Sem.runT_fst Lead.prog s w #[];rw [hs] at this;exact this.symm)
 | (.halt hh w2,e2) =>
   rw [hs] at hb
   rw [stepG_oper ho hw] at hst
   exact absurd hcalm (z0a hb hst)
end
end
section
open Go.Conc Go.ConcN Go.ConcN.Gen Go.RowKit Go.Conc.Lib Go.ConcR.Gen
section
variable {P:Program} {w w1:World} {v x:Value}
theorem zqn {t ty e:TypeId}(h:(Builtin.cap_ #[t] ty #[x]).run P w=.ok v w1)(hu:P.underlying t=some (.slice e)): ∃ a n c,x=.slice a n c∧v=.int .i64 c∧w1=w:=by
 unfold Builtin.cap_ at h
 simp only [List.getElem?_toArray,List.getElem?_cons_zero,Sem.run_bind,run_underlying hu w,Result.andThen_ok] at h
 cases x <;> first
  | (simp only [goInt,Sem.run_pure,Result.ok.injEq] at h
     obtain ⟨rfl,rfl⟩:=h
     exact ⟨_,_,_,rfl,rfl,rfl⟩)
  | (exfalso;simp [stuck] at h;done)
theorem zg5 {t:TypeId}{p q:Operand}{a b:Value}: (eqGuard .lss t p q a b).run P w=.ok () w:=by
 unfold eqGuard
 simp
theorem zwv {t:TypeId}{p q:Operand}{k:IntKind}{n:Int}(h:(do eqGuard .lss t p q x (.int k n);binOp .lss t x (.int k n):Sem Value).run P w=.ok v w1): ∃ m,x=.int k m∧v=.bool (decide (m<n))∧w1=w:=by
 rw [Sem.run_bind,zg5,Result.andThen_ok] at h
 cases x <;> first
  | (exfalso;simp [binOp,stuck,unsupported] at h;done)
  | skip
 rename_i k' m
 unfold binOp at h
 dsimp only at h
 by_cases hk:k'=k
 ·subst hk
  simp [Op.intCmp] at h
  obtain ⟨rfl,rfl⟩:=h
  exact ⟨m,rfl,rfl,rfl⟩
 ·exfalso
  simp [hk,stuck] at h
theorem zz0 {t:TypeId}{p q:Operand}{k:IntKind}{n:Int}(h:(do eqGuard .lss t p q (.int k n) x;binOp .lss t (.int k n) x:Sem Value).run P w=.ok v w1): ∃ m,x=.int k m∧v=.bool (decide (n<m))∧w1=w:=by
 rw [Sem.run_bind,zg5,Result.andThen_ok] at h
 cases x <;> first
  | (exfalso;simp [binOp,stuck,unsupported] at h;done)
  | skip
 rename_i k' m
 unfold binOp at h
 dsimp only at h
 by_cases hk:k=k'
 ·subst hk
  simp [Op.intCmp] at h
  obtain ⟨rfl,rfl⟩:=h
  exact ⟨m,rfl,rfl,rfl⟩
 ·exfalso
  simp [hk,stuck] at h
theorem zhf (k:IntKind)(i n:Int)(c:BoundsCode): (boundsPanic k i n c:Sem Value).run P w≠.ok v w1:=fun h=>by
 letI:Exts:=⟨fun _=>false,fun _=>false,false,false⟩
 obtain ⟨hh,w2,e2,e,_⟩:=zd1 (α:=Value) k i n c P w #[]
 have:=Sem.runT_fst P (boundsPanic k i n c:Sem Value) w #[]
 rw [e,h] at this
 cases this
theorem zks {t e:TypeId}{a:Option Addr}{n c:Nat}{k:IntKind}{i:Int}(h:(Instr.indexAt t (.slice a n c) (.int k i)).run P w=.ok v w1)(hu:P.underlying t=some (.slice e))(hs:∀ w,(sizeOf e).run P w=.ok 1 w):
  ∃ ad,a=some ad∧v=.pointer (some (ad.add i.toNat))∧w1=w:=by
 unfold Instr.indexAt at h
 cases a with
 | none =>
   exfalso
   simp [asIntOf,run_underlying hu,zhf] at h
 | some ad =>
   by_cases hi:0≤i∧i<n
   ·simp [asIntOf,run_underlying hu,hi,hs] at h
    obtain ⟨rfl,rfl⟩:=h
    exact ⟨ad,rfl,rfl,rfl⟩
   ·exfalso
    simp [asIntOf,run_underlying hu,hi,zhf] at h
theorem zm8 {t:TypeId}{d:TypeDesc}{ad:Addr}(h:(Instr.loadAt t (.pointer (some ad))).run P w=.ok v w1)(hu:P.underlying t=some d)(hd:(match d with|.struct _|.array _ _=>true|_=>false)=false)(hfar:w.cell? ad=none→∃ e,w.farLoad P ad false=.error e): w.cell? ad=some v∧w1=w:=by
 unfold Instr.loadAt loadVar at h
 have hagg:(isAgg t).run P w=.ok false w:=by
  unfold isAgg
  rw [Sem.run_bind,run_underlying hu w]
  cases d <;> simp_all
 simp only [Instr.sureAddr,Sem.run_bind,Sem.run_pure,Result.andThen_ok,hagg,Bool.false_eq_true,if_false] at h
 cases hc:w.cell? ad with
 | some u =>
   simp [hc] at h
   obtain ⟨rfl,rfl⟩:=h
   exact ⟨rfl,rfl⟩
 | none =>
   exfalso
   obtain ⟨e,he⟩:=hfar hc
   unfold load at h
   simp [Sem.run,hc,he,show (Mode.plain == Mode.atomic)=false from rfl] at h
end
end
section
open Go.Conc Go.ConcN Go.ConcN.Gen Go.RowKit Go.Conc.Lib Go.ConcR.Gen
theorem zxm (x y z:Value): Frame.enter Lead.prog 32 #[x,y,z] .normal=(base 32).at ⟨#[x,y,z,undef,undef,undef,undef,undef,undef,undef,undef,undef,undef,undef,undef,undef,undef,undef,undef,undef,undef,undef,undef,undef,undef,undef,undef,undef,undef,undef,undef,undef,undef,undef,undef],[]⟩ [.code Lead.chk]:=(enter_at _ Lead.func32 (c:=Lead.chk) rfl).trans (by kernel_rfl)
theorem z5g (w:World): (sizeOf 5).run Lead.prog w=.ok 1 w:=by
 rw [Lead.sizeOf]
 obtain ⟨i,hi,hs⟩:=Option.map_eq_some_iff.1 (show (Tryd.prog.info? 5).map (·.size)=some 1 by kernel_rfl)
 simp [sizeOf,typeInfo,hi,hs]
def Near (w:World)(x:Value): Prop:=∀ a n c,x=.slice (some a) n c→a.spot=none∧∀ i,w.cell? ⟨a.block,i,none⟩=none→∃ e,w.farLoad Lead.prog ⟨a.block,i,none⟩ false=.error e
structure IsBs (w:World)(s:Sl)(bs:List Int): Prop where
 len:bs.length=s.2.1
 cap:bs.length≤s.2.2
 byt:Byt bs
 cells:∀ i,i<bs.length→∃ a,s.1=some a∧a.spot=none∧w.cell? ⟨a.block,a.off+i,none⟩=some (.int .u8 (bs.getD i 0))
theorem zh8 {a:Addr}(h:a.spot=none)(i:Nat): a.add i=⟨a.block,a.off+i,none⟩:=by
 obtain ⟨b,o,s⟩:=a
 subst h
 unfold Addr.add
 simp
section
variable {Gl:Frame→List Frame→World→Prop} {cs:List Frame} {w:World}
theorem zdv {why:String}{b:Frame}{a:Act}{k:List Item}(hcs:cs≠[door Lead.prog]): To Lead.prog Gl (b.at a (.code (.refuse why) :: k)) cs w:=by
 refine .step hcs w.tape (fun _ _ _=>rfl) fun fr1 cs1 w1 es hst _=>?_
 exfalso
 have hst:stepG Lead.prog true (G (b.at a (.code (.refuse why) :: k)) cs) w=.go (G fr1 cs1) w1 es:=hst
 simp [G,stepG,stepG.exec,Frame.at] at hst
noncomputable def z3e (T:Array Value)(cs:List Frame): Frame:=(base 32).at ⟨T,[]⟩ [.code Lead.each,.inLoop Lead.each,.inBlock 0,.code .ret]
set_option maxHeartbeats 4000000 in
theorem zxv (hcs:cs≠[door Lead.prog]){a:Option Addr}{n c:Nat}(hn:n≤c)(hbig:(n:Int)<9223372036854775807)(hnear:Near w (.slice a n c))(h:∀ (bs:List Int) (T:Array Value),IsBs w (a,n,c) bs→T.size=35→T.getD 6 undef=.slice none 0 0→To Lead.prog Gl ((base 32).at ⟨T,[]⟩ [.code .ret]) cs w):
  ∀ (m k:Nat) (bs:List Int) (v8 v9 v10 v11 v12 v13:Value),k+m=n→bs.length=k→Byt bs→(∀ i,i<bs.length→∃ ad,a=some ad∧ad.spot=none∧w.cell? ⟨ad.block,ad.off+i,none⟩=some (.int .u8 (bs.getD i 0))) →
   To Lead.prog Gl (z3e #[.slice a n c,.int .i64 0,.int .i64 0,.int .i64 n,.int .i64 c,.bool false,.slice none 0 0,.int .i64 k,v8,v9,v10,v11,v12,v13,.bool false,undef,undef,undef,undef,undef,undef,undef,undef,undef,undef,undef,undef,undef,undef,undef,undef,undef,undef,undef,undef] cs) cs w
 | 0,k,bs,v8,v9,v10,v11,v12,v13,hk,hl,hb,hc=>by
   obtain rfl:k=n:=by omega
   simp only [z3e,Lead.each,Lead.k2,Lead.no]
   have hnn:¬ (k:Int)<(k:Int):=by omega
   refine zab hcs ?_
   rw [stepG_seq]
   simp only [goes_go]
   refine ⟨_,_,rfl,?_⟩
   refine zab hcs ?_
   rw [stepG_region]
   simp only [goes_go,List.size_toArray,List.length_cons,List.length_nil,Nat.reduceAdd,Nat.zero_add,List.range,List.range.loop]
   refine ⟨_,_,rfl,?_⟩
   refine zab hcs ?_
   refine goes_oper_k rfl rfl (by k_ne) (fun Kx hKx=>?_)
   go_simp
   refine hKx _ _ ⟨_,_,rfl,?_⟩
   clear hKx Kx
   refine zab hcs ?_
   rw [stepG_region_end]
   simp only [goes_go]
   refine ⟨_,_,rfl,?_⟩
   refine zab hcs ?_
   rw [stepG_seq]
   simp only [goes_go]
   refine ⟨_,_,rfl,?_⟩
   refine zab hcs ?_
   rw [stepG_cond (t:=false) (by first|rfl|(simp [Act.eval];omega))]
   simp only [goes_go,if_true,if_false,Bool.false_eq_true,↓reduceIte]
   refine ⟨_,_,rfl,?_⟩
   refine zab hcs ?_
   refine goes_exit rfl ⟨_,_,rfl,?_⟩
   exact h bs _ ⟨hl,by rw [hl];exact hn,hb,hc⟩ rfl rfl
 | m+1,k,bs,v8,v9,v10,v11,v12,v13,hk,hl,hb,hc=>by
   have hlt:(k:Int)<(n:Int):=by omega
   have ih:=zxv hcs hn hbig hnear h m (k+1)
   simp only [z3e,Lead.each,Lead.k2,Lead.k3,Lead.k4,Lead.no] at ih ⊢
   have hwk:IntKind.i64.wrap ((k:Int)+1)=((k+1:Nat):Int):=by rw [IntKind.wrap_i64];omega
   refine zab hcs ?_
   rw [stepG_seq]
   simp only [goes_go]
   refine ⟨_,_,rfl,?_⟩
   refine zab hcs ?_
   rw [stepG_region]
   simp only [goes_go,List.size_toArray,List.length_cons,List.length_nil,Nat.reduceAdd,Nat.zero_add,List.range,List.range.loop]
   refine ⟨_,_,rfl,?_⟩
   refine zab hcs ?_
   refine goes_oper_k rfl rfl (by k_ne) (fun Kx hKx=>?_)
   go_simp
   refine hKx _ _ ⟨_,_,rfl,?_⟩
   clear hKx Kx
   refine zab hcs ?_
   rw [stepG_region_end]
   simp only [goes_go]
   refine ⟨_,_,rfl,?_⟩
   refine zab hcs ?_
   rw [stepG_seq]
   simp only [goes_go]
   refine ⟨_,_,rfl,?_⟩
   refine zab hcs ?_
   rw [stepG_cond (t:=true) (by first|rfl|(simp [Act.eval];omega))]
   simp only [goes_go,if_true,if_false,Bool.false_eq_true,↓reduceIte]
   refine ⟨_,_,rfl,?_⟩
   refine zab hcs ?_
   rw [stepG_skip]
   simp only [goes_go]
   refine ⟨_,_,rfl,?_⟩
   refine zab hcs ?_
   rw [stepG_seq]
   simp only [goes_go]
   refine ⟨_,_,rfl,?_⟩
   refine zab hcs ?_
   rw [stepG_region]
   simp only [goes_go,List.size_toArray,List.length_cons,List.length_nil,Nat.reduceAdd,Nat.zero_add,List.range,List.range.loop]
   refine ⟨_,_,rfl,?_⟩
   refine zgb hcs (i:=0) (by simp only [List.getElem?_toArray,List.getElem?_cons_succ,List.getElem?_cons_zero];rfl) (by rfl) (by k_ne) (s:=Instr.indexAt 33 (.slice a n c) (.int .i64 k)) rfl (fun vx wx hx=>?_)
   obtain ⟨ad,rfl,rfl,rfl⟩:=zks hx (Lead.of Tryd.underlying33) z5g
   clear hx
   walk_nrm
   obtain ⟨hsp,hfar⟩:=hnear ad n c rfl
   rw [Int.toNat_natCast,zh8 hsp]
   refine zgb hcs (i:=1) (by simp only [List.getElem?_toArray,List.getElem?_cons_succ,List.getElem?_cons_zero];rfl) (by rfl) (by k_ne) (s:=Instr.loadAt 5 (.pointer (some ⟨ad.block,ad.off+k,none⟩))) rfl (fun vx wx hx=>?_)
   obtain ⟨hcell,rfl⟩:=zm8 hx (Lead.of Tryd.underlying5) rfl (hfar _)
   clear hx
   walk_nrm
   refine zgb hcs (i:=2) (by simp only [List.getElem?_toArray,List.getElem?_cons_succ,List.getElem?_cons_zero];rfl) (by rfl) (by k_ne) (s:=(do eqGuard .lss 5 (.const (.int .u8 (-1))) (.tmp 10) (.int .u8 (-1)) vx;binOp .lss 5 (.int .u8 (-1)) vx)) rfl (fun vy wx hx=>?_)
   obtain ⟨q,rfl,rfl,rfl⟩:=zz0 hx
   clear hx
   walk_nrm
   refine zab hcs ?_
   refine goes_oper_k rfl rfl (by k_ne) (fun Kx hKx=>?_)
   go_simp
   refine hKx _ _ ⟨_,_,rfl,?_⟩
   clear hKx Kx
   refine zab hcs ?_
   rw [stepG_region_end]
   simp only [goes_go]
   refine ⟨_,_,rfl,?_⟩
   refine zab hcs ?_
   rw [stepG_seq]
   simp only [goes_go]
   refine ⟨_,_,rfl,?_⟩
   by_cases h1:(-1:Int)<q
   case neg =>
    refine zab hcs ?_
    rw [stepG_cond (t:=false) (by first|rfl|(simp [Act.eval];omega))]
    simp only [goes_go,if_true,if_false,Bool.false_eq_true,↓reduceIte]
    refine ⟨_,_,rfl,?_⟩
    exact zdv hcs
   refine zab hcs ?_
   rw [stepG_cond (t:=true) (by first|rfl|(simp [Act.eval];omega))]
   simp only [goes_go,if_true,if_false,Bool.false_eq_true,↓reduceIte]
   refine ⟨_,_,rfl,?_⟩
   refine zab hcs ?_
   rw [stepG_skip]
   simp only [goes_go]
   refine ⟨_,_,rfl,?_⟩
   refine zab hcs ?_
   rw [stepG_seq]
   simp only [goes_go]
   refine ⟨_,_,rfl,?_⟩
   by_cases h2:q<256
   case neg =>
    refine zab hcs ?_
    rw [stepG_cond (t:=false) (by first|rfl|(simp [Act.eval];omega))]
    simp only [goes_go,if_true,if_false,Bool.false_eq_true,↓reduceIte]
    refine ⟨_,_,rfl,?_⟩
    exact zdv hcs
   refine zab hcs ?_
   rw [stepG_cond (t:=true) (by first|rfl|(simp [Act.eval];omega))]
   simp only [goes_go,if_true,if_false,Bool.false_eq_true,↓reduceIte]
   refine ⟨_,_,rfl,?_⟩
   refine zab hcs ?_
   rw [stepG_skip]
   simp only [goes_go]
   refine ⟨_,_,rfl,?_⟩
   refine zab hcs ?_
   rw [stepG_region]
   simp only [goes_go,List.size_toArray,List.length_cons,List.length_nil,Nat.reduceAdd,Nat.zero_add,List.range,List.range.loop]
   refine ⟨_,_,rfl,?_⟩
   refine zab hcs ?_
   refine goes_oper_k rfl rfl (by k_ne) (fun Kx hKx=>?_)
   go_simp
   refine hKx _ _ ⟨_,_,rfl,?_⟩
   clear hKx Kx
   refine zab hcs ?_
   refine goes_oper_k rfl rfl (by k_ne) (fun Kx hKx=>?_)
   go_simp
   refine hKx _ _ ⟨_,_,rfl,?_⟩
   clear hKx Kx
   refine zab hcs ?_
   rw [stepG_region_end]
   simp only [goes_go]
   refine ⟨_,_,rfl,?_⟩
   refine zab hcs ?_
   rw [stepG_inLoop]
   simp only [goes_go]
   refine ⟨_,_,rfl,?_⟩
   rw [show (k:Int)+1=((k+1:Nat):Int) by omega]
   refine ih (bs++[q]) _ _ _ _ _ _ (by omega) (by simp [hl]) (fun x hx=>?_) (fun i hi=>?_)
   ·rcases List.mem_append.1 hx with hx|hx
    ·exact hb x hx
    ·simp only [List.mem_singleton] at hx;subst hx;omega
   ·rcases Nat.lt_or_ge i bs.length with hi2|hi2
    ·obtain ⟨ad',e1,e2,e3⟩:=hc i hi2
     exact ⟨ad',e1,e2,by rw [e3];simp [List.getD,List.getElem?_append_left hi2]⟩
    ·have:i=bs.length:=by simp at hi;omega
     subst this
     exact ⟨ad,rfl,hsp,by rw [hl,hcell];simp [List.getD,hl]⟩
set_option maxHeartbeats 4000000 in
theorem chkT {x:Value}{b₀:Frame}{a₀:Act}{ops₀:Array Oper}{i₀:Nat}{rest₀:List Nat}{k₀:List Item}(hcs0:cs≠[])(hnear:Near w x)(h:∀ (s:Sl) (bs:List Int),x=sl s→IsBs w s bs→To Lead.prog Gl (b₀.at (a₀.put ((ops₀[i₀]?).bind (·.dst)) (.slice none 0 0)) (.inRegion ops₀ rest₀ :: k₀)) cs w):
  To Lead.prog Gl (Frame.enter Lead.prog 32 #[x,.int .i64 0,.int .i64 0] .normal) (b₀.at a₀ (.inRegion ops₀ (i₀ :: rest₀) :: k₀) :: cs) w:=by
 have hcs:(b₀.at a₀ (.inRegion ops₀ (i₀ :: rest₀) :: k₀) :: cs)≠[door Lead.prog]:=fun e=>by simp only [List.cons.injEq] at e;exact hcs0 e.2
 rw [zxm]
 have ze6:∀ (s:Sl) (bs:List Int) (T:Array Value),x=sl s→IsBs w s bs→T.size=35→T.getD 6 undef=.slice none 0 0→To Lead.prog Gl ((base 32).at ⟨T,[]⟩ [.code .ret]) (b₀.at a₀ (.inRegion ops₀ (i₀ :: rest₀) :: k₀) :: cs) w:=fun s bs T e1 e2 e3 e4=>by
  have r:=h s bs e1 e2
  refine zab hcs ?_
  rw [stepG_ret']
  simp only [goes_go]
  refine ⟨_,_,rfl,?_⟩
  refine zab hcs (goes_leave1 rfl rfl Lead.func32 Lead.results32 ⟨_,_,rfl,?_⟩)
  dsimp only
  rw [e4]
  exact r
 simp only [Lead.chk,Lead.k0,Lead.k1,Lead.no]
 refine zab hcs ?_
 rw [stepG_seq]
 simp only [goes_go]
 refine ⟨_,_,rfl,?_⟩
 refine zab hcs ?_
 rw [stepG_region]
 simp only [goes_go,List.size_toArray,List.length_cons,List.length_nil,Nat.reduceAdd,Nat.zero_add,List.range,List.range.loop]
 refine ⟨_,_,rfl,?_⟩
 refine zab hcs ?_
 refine goes_oper_k rfl rfl (by k_ne) (fun Kx hKx=>?_)
 go_simp
 refine hKx _ _ ⟨_,_,rfl,?_⟩
 clear hKx Kx
 refine zgb hcs (i:=1) (by simp only [List.getElem?_toArray,List.getElem?_cons_succ,List.getElem?_cons_zero];rfl) (by rfl) (by k_ne) (s:=Builtin.cap_ #[33] 3 #[x]) (zni (x:=.tmp 0) rfl) (fun vx wx hx=>?_)
 obtain ⟨a,n,c,rfl,rfl,rfl⟩:=zqn hx (Lead.of Tryd.underlying33)
 clear hx
 walk_nrm
 refine zab hcs ?_
 refine goes_oper_k rfl rfl (by k_ne) (fun Kx hKx=>?_)
 go_simp
 refine hKx _ _ ⟨_,_,rfl,?_⟩
 clear hKx Kx
 refine zab hcs ?_
 refine goes_oper_k rfl rfl (by k_ne) (fun Kx hKx=>?_)
 go_simp
 refine hKx _ _ ⟨_,_,rfl,?_⟩
 clear hKx Kx
 refine zab hcs ?_
 refine goes_oper_k rfl rfl (by k_ne) (fun Kx hKx=>?_)
 go_simp
 refine hKx _ _ ⟨_,_,rfl,?_⟩
 clear hKx Kx
 refine zab hcs ?_
 rw [stepG_region_end]
 simp only [goes_go]
 refine ⟨_,_,rfl,?_⟩
 refine zab hcs ?_
 rw [stepG_seq]
 simp only [goes_go]
 refine ⟨_,_,rfl,?_⟩
 by_cases h1:(c:Int)<(n:Int)
 case pos =>
  refine zab hcs ?_
  rw [stepG_cond (t:=true) (by first|rfl|(simp [Act.eval];omega))]
  simp only [goes_go,if_true,if_false,Bool.false_eq_true,↓reduceIte]
  refine ⟨_,_,rfl,?_⟩
  exact zdv hcs
 refine zab hcs ?_
 rw [stepG_cond (t:=false) (by first|rfl|(simp [Act.eval];omega))]
 simp only [goes_go,if_true,if_false,Bool.false_eq_true,↓reduceIte]
 refine ⟨_,_,rfl,?_⟩
 refine zab hcs ?_
 rw [stepG_skip]
 simp only [goes_go]
 refine ⟨_,_,rfl,?_⟩
 refine zab hcs ?_
 rw [stepG_seq]
 simp only [goes_go]
 refine ⟨_,_,rfl,?_⟩
 by_cases h2:1000000<(n:Int)
 case pos =>
  refine zab hcs ?_
  rw [stepG_cond (t:=true) (by first|rfl|(simp [Act.eval];omega))]
  simp only [goes_go,if_true,if_false,Bool.false_eq_true,↓reduceIte]
  refine ⟨_,_,rfl,?_⟩
  exact zdv hcs
 refine zab hcs ?_
 rw [stepG_cond (t:=false) (by first|rfl|(simp [Act.eval];omega))]
 simp only [goes_go,if_true,if_false,Bool.false_eq_true,↓reduceIte]
 refine ⟨_,_,rfl,?_⟩
 refine zab hcs ?_
 rw [stepG_skip]
 simp only [goes_go]
 refine ⟨_,_,rfl,?_⟩
 refine zab hcs ?_
 rw [stepG_seq]
 simp only [goes_go]
 refine ⟨_,_,rfl,?_⟩
 refine zab hcs ?_
 rw [stepG_region]
 simp only [goes_go,List.size_toArray,List.length_cons,List.length_nil,Nat.reduceAdd,Nat.zero_add,List.range,List.range.loop]
 refine ⟨_,_,rfl,?_⟩
 refine zab hcs ?_
 refine goes_oper_k rfl rfl (by k_ne) (fun Kx hKx=>?_)
 go_simp
 refine hKx _ _ ⟨_,_,rfl,?_⟩
 clear hKx Kx
 refine zab hcs ?_
 rw [stepG_region_end]
 simp only [goes_go]
 refine ⟨_,_,rfl,?_⟩
 refine zab hcs ?_
 rw [stepG_seq]
 simp only [goes_go]
 refine ⟨_,_,rfl,?_⟩
 refine zab hcs ?_
 rw [stepG_block]
 simp only [goes_go]
 refine ⟨_,_,rfl,?_⟩
 refine zab hcs ?_
 rw [stepG_loop]
 simp only [goes_go]
 refine ⟨_,_,rfl,?_⟩
 rw [show decide (c<n)=false from decide_eq_false (by omega)]
 exact zxv hcs (by omega) (by omega) hnear (fun bs T h1 h2 h3=>ze6 (a,n,c) bs T rfl h1 h2 h3) n 0 [] _ _ _ _ _ _ (by omega) rfl (fun x hx=>by cases hx) (fun i hi=>absurd hi (by simp))
end
end
section
open Go.Conc Go.ConcN Go.ConcN.Gen Go.RowKit Go.Conc.Lib Go.ConcR.Gen
theorem zt2 (a b c d:Value): Frame.enter Lead.prog 19 #[a,b,c,d] .normal=(base 19).at ⟨#[a,b,c,d,undef,undef,undef,undef,undef,undef,undef,undef,undef,undef,undef,undef,undef,undef,undef,undef,undef,undef,undef,undef,undef,undef,undef,undef,undef,undef,undef,undef,undef,undef,undef,undef,undef,undef,undef,undef,undef,undef,undef,undef,undef,undef,undef,undef,undef,undef,undef,undef,undef,undef,undef,undef,undef,undef,undef,undef,undef,undef,undef,undef,undef,undef,undef],[]⟩ [.code Lead.body]:=(enter_at _ Lead.func19 (c:=Lead.body) rfl).trans (by kernel_rfl)
theorem z07 (w:World): (sizeOf 33).run Lead.prog w=.ok 1 w:=by
 rw [Lead.sizeOf]
 obtain ⟨i,hi,hs⟩:=Option.map_eq_some_iff.1 (show (Tryd.prog.info? 33).map (·.size)=some 1 by kernel_rfl)
 simp [sizeOf,typeInfo,hi,hs]
def Rch (w:World)(R:Value→Prop): Prop:=∀ x,R x→Near w x∧∀ a n c i v,x=.slice (some a) n c→w.cell? ⟨a.block,i,none⟩=some v→R v
structure z5a (w:World)(R:Value→Prop)(x0 x1 x2 x3:Value)(svL:Sl)(sb:List Int)(hop hops:Int)(adl:Option Addr)(n capl:Nat)(ptL:Nat→Sl)(pb:Nat→List Int): Prop where
 e0:x0=sl svL
 e1:x1=.int .i64 hop
 e2:x2=.int .i64 hops
 e3:x3=.slice adl n capl
 sv:IsBs w svL sb
 few:sb.length≤4000
 n64:n≤64
 pt:∀ p,p<n→∃ ad,adl=some ad∧ad.spot=none∧w.cell? ⟨ad.block,ad.off+p,none⟩=some (sl (ptL p))∧IsBs w (ptL p) (pb p)
section
variable {Gl:Frame→List Frame→World→Prop} {cs:List Frame} {w:World} {R:Value→Prop}
noncomputable def zx7 (T:Array Value): Frame:=(base 19).at ⟨T,[]⟩ [.code Lead.look,.inLoop Lead.look,.inBlock 0,.code Lead.work]
set_option maxHeartbeats 4000000 in
theorem zr0 (hcs:cs≠[door Lead.prog])(hcs0:cs≠[]){svL:Sl}{hop hops:Int}{adl:Option Addr}{n capl:Nat}(hn:n≤64)(hR:Rch w R)(h3:R (.slice adl n capl))(h:∀ (ptL:Nat→Sl) (pb:Nat→List Int) (v22 v23 v29 v35:Value),(∀ p,p<n→∃ ad,adl=some ad∧ad.spot=none∧w.cell? ⟨ad.block,ad.off+p,none⟩=some (sl (ptL p))∧IsBs w (ptL p) (pb p)) →
   To Lead.prog Gl ((base 19).at ⟨#[sl svL,.int .i64 hop,.int .i64 hops,.slice adl n capl,undef,undef,undef,undef,.slice none 0 0,undef,undef,undef,undef,undef,undef,.slice none 0 0,undef,undef,undef,undef,undef,undef,v22,v23,.slice none 0 0,.int .i64 svL.2.1,.int .i64 n,undef,.int .i64 n,.bool false,.bool false,.bool false,undef,undef,undef,v35,undef,undef,undef,undef,undef,undef,undef,undef,undef,undef,undef,undef,undef,undef,undef,undef,undef,undef,undef,undef,undef,undef,undef,undef,undef,undef,undef,undef,undef,undef,undef],[]⟩ [.code Lead.work]) cs w):
  ∀ (m k:Nat) (ptL:Nat→Sl) (pb:Nat→List Int) (v22 v23 v29 v35:Value),k+m=n→(∀ p,p<k→∃ ad,adl=some ad∧ad.spot=none∧w.cell? ⟨ad.block,ad.off+p,none⟩=some (sl (ptL p))∧IsBs w (ptL p) (pb p)) →
   To Lead.prog Gl (zx7 #[sl svL,.int .i64 hop,.int .i64 hops,.slice adl n capl,undef,undef,undef,undef,.slice none 0 0,undef,undef,undef,undef,undef,undef,.slice none 0 0,undef,undef,undef,undef,undef,undef,v22,v23,.slice none 0 0,.int .i64 svL.2.1,.int .i64 n,undef,.int .i64 k,v29,.bool false,.bool false,undef,undef,undef,v35,undef,undef,undef,undef,undef,undef,undef,undef,undef,undef,undef,undef,undef,undef,undef,undef,undef,undef,undef,undef,undef,undef,undef,undef,undef,undef,undef,undef,undef,undef,undef]) cs w
 | 0,k,ptL,pb,v22,v23,v29,v35,hk,hp=>by
   obtain rfl:k=n:=by omega
   have hh:=h ptL pb v22 v23 v29 v35 hp
   clear h
   simp only [zx7,Lead.look,Lead.q3,Lead.no]
   have hnn:¬ (k:Int)<(k:Int):=by omega
   refine zab hcs ?_
   rw [stepG_seq]
   simp only [goes_go]
   refine ⟨_,_,rfl,?_⟩
   refine zab hcs ?_
   rw [stepG_region]
   simp only [goes_go,List.size_toArray,List.length_cons,List.length_nil,Nat.reduceAdd,Nat.zero_add,List.range,List.range.loop]
   refine ⟨_,_,rfl,?_⟩
   refine zab hcs ?_
   refine goes_oper_k rfl rfl (by k_ne) (fun Kx hKx=>?_)
   go_simp
   refine hKx _ _ ⟨_,_,rfl,?_⟩
   clear hKx Kx
   refine zab hcs ?_
   rw [stepG_region_end]
   simp only [goes_go]
   refine ⟨_,_,rfl,?_⟩
   refine zab hcs ?_
   rw [stepG_seq]
   simp only [goes_go]
   refine ⟨_,_,rfl,?_⟩
   refine zab hcs ?_
   rw [stepG_cond (t:=false) (by first|rfl|(simp [Act.eval];omega))]
   simp only [goes_go,if_true,if_false,Bool.false_eq_true,↓reduceIte]
   refine ⟨_,_,rfl,?_⟩
   refine zab hcs ?_
   refine goes_exit rfl ⟨_,_,rfl,?_⟩
   exact hh
 | m+1,k,ptL,pb,v22,v23,v29,v35,hk,hp=>by
   have hlt:(k:Int)<(n:Int):=by omega
   have ih:=zr0 hcs hcs0 hn hR h3 h m (k+1)
   clear h
   simp only [zx7,Lead.look,Lead.q3,Lead.q4,Lead.q5,Lead.q6,Lead.no] at ih ⊢
   have hwk:IntKind.i64.wrap ((k:Int)+1)=((k+1:Nat):Int):=by rw [IntKind.wrap_i64];omega
   refine zab hcs ?_
   rw [stepG_seq]
   simp only [goes_go]
   refine ⟨_,_,rfl,?_⟩
   refine zab hcs ?_
   rw [stepG_region]
   simp only [goes_go,List.size_toArray,List.length_cons,List.length_nil,Nat.reduceAdd,Nat.zero_add,List.range,List.range.loop]
   refine ⟨_,_,rfl,?_⟩
   refine zab hcs ?_
   refine goes_oper_k rfl rfl (by k_ne) (fun Kx hKx=>?_)
   go_simp
   refine hKx _ _ ⟨_,_,rfl,?_⟩
   clear hKx Kx
   refine zab hcs ?_
   rw [stepG_region_end]
   simp only [goes_go]
   refine ⟨_,_,rfl,?_⟩
   refine zab hcs ?_
   rw [stepG_seq]
   simp only [goes_go]
   refine ⟨_,_,rfl,?_⟩
   refine zab hcs ?_
   rw [stepG_cond (t:=true) (by first|rfl|(simp [Act.eval];omega))]
   simp only [goes_go,if_true,if_false,Bool.false_eq_true,↓reduceIte]
   refine ⟨_,_,rfl,?_⟩
   refine zab hcs ?_
   rw [stepG_skip]
   simp only [goes_go]
   refine ⟨_,_,rfl,?_⟩
   refine zab hcs ?_
   rw [stepG_seq]
   simp only [goes_go]
   refine ⟨_,_,rfl,?_⟩
   refine zab hcs ?_
   rw [stepG_region]
   simp only [goes_go,List.size_toArray,List.length_cons,List.length_nil,Nat.reduceAdd,Nat.zero_add,List.range,List.range.loop]
   refine ⟨_,_,rfl,?_⟩
   refine zgb hcs (i:=0) (by simp only [List.getElem?_toArray,List.getElem?_cons_succ,List.getElem?_cons_zero];rfl) (by rfl) (by k_ne) (s:=Instr.indexAt 22 (.slice adl n capl) (.int .i64 k)) rfl (fun vx wx hx=>?_)
   obtain ⟨ad,rfl,rfl,rfl⟩:=zks hx (Lead.of Tryd.underlying22) z07
   clear hx
   walk_nrm
   obtain ⟨hnr,hcl⟩:=hR _ h3
   obtain ⟨hsp,hfar⟩:=hnr ad n capl rfl
   rw [Int.toNat_natCast,zh8 hsp]
   refine zgb hcs (i:=1) (by simp only [List.getElem?_toArray,List.getElem?_cons_succ,List.getElem?_cons_zero];rfl) (by rfl) (by k_ne) (s:=Instr.loadAt 33 (.pointer (some ⟨ad.block,ad.off+k,none⟩))) rfl (fun vx wx hx=>?_)
   obtain ⟨hcell,rfl⟩:=zm8 hx (Lead.of Tryd.underlying33) rfl (hfar _)
   clear hx
   walk_nrm
   have hRv:R vx:=hcl ad n capl (ad.off+k) vx rfl hcell
   refine zab hcs ?_
   rw [stepG_region_end]
   simp only [goes_go]
   refine ⟨_,_,rfl,?_⟩
   refine zab hcs ?_
   rw [stepG_seq]
   simp only [goes_go]
   refine ⟨_,_,rfl,?_⟩
   refine zab hcs ?_
   rw [stepG_region]
   simp only [goes_go,List.size_toArray,List.length_cons,List.length_nil,Nat.reduceAdd,Nat.zero_add,List.range,List.range.loop]
   refine ⟨_,_,rfl,?_⟩
   refine zpg (i:=0) hcs (by simp only [List.getElem?_toArray,List.getElem?_cons_zero];rfl) (by rfl) (by k_ne) rfl Lead.func32 (by kernel_rfl) rfl ?_
   walk_nrm
   refine chkT hcs0 (hR vx hRv).1 (fun s bs es hb=>?_)
   subst es
   walk_nrm
   refine zab hcs ?_
   rw [stepG_region_end]
   simp only [goes_go]
   refine ⟨_,_,rfl,?_⟩
   refine zab hcs ?_
   rw [stepG_region]
   simp only [goes_go,List.size_toArray,List.length_cons,List.length_nil,Nat.reduceAdd,Nat.zero_add,List.range,List.range.loop]
   refine ⟨_,_,rfl,?_⟩
   refine zab hcs ?_
   refine goes_oper_k rfl rfl (by k_ne) (fun Kx hKx=>?_)
   go_simp
   refine hKx _ _ ⟨_,_,rfl,?_⟩
   clear hKx Kx
   refine zab hcs ?_
   refine goes_oper_k rfl rfl (by k_ne) (fun Kx hKx=>?_)
   go_simp
   refine hKx _ _ ⟨_,_,rfl,?_⟩
   clear hKx Kx
   refine zab hcs ?_
   rw [stepG_region_end]
   simp only [goes_go]
   refine ⟨_,_,rfl,?_⟩
   refine zab hcs ?_
   rw [stepG_inLoop]
   simp only [goes_go]
   refine ⟨_,_,rfl,?_⟩
   rw [show (k:Int)+1=((k+1:Nat):Int) by omega]
   refine ih (fun p=>if p=k then s else ptL p) (fun p=>if p=k then bs else pb p) _ _ _ _ (by omega) (fun p hp2=>?_)
   rcases Nat.lt_or_ge p k with hlt2|hge
   ·obtain ⟨ad2,q1,q2,q3,q4⟩:=hp p hlt2
    have hne:p≠k:=by omega
    exact ⟨ad2,q1,q2,by rw [if_neg hne];exact q3,by rw [if_neg hne,if_neg hne];exact q4⟩
   ·have:p=k:=by omega
    subst this
    exact ⟨ad,rfl,hsp,by rw [if_pos rfl];exact hcell,by rw [if_pos rfl,if_pos rfl];exact hb⟩
set_option maxHeartbeats 4000000 in
theorem z5y (hcs:cs≠[door Lead.prog])(hcs0:cs≠[]){x0 x1 x2 x3:Value}(hR:Rch w R)(h0:R x0)(h3:R x3)(h:∀ (svL:Sl) (sb:List Int) (hop hops:Int) (adl:Option Addr) (n capl:Nat) (ptL:Nat→Sl) (pb:Nat→List Int) (v22 v23 v29 v35:Value),z5a w R x0 x1 x2 x3 svL sb hop hops adl n capl ptL pb →
   To Lead.prog Gl ((base 19).at ⟨#[sl svL,.int .i64 hop,.int .i64 hops,.slice adl n capl,undef,undef,undef,undef,.slice none 0 0,undef,undef,undef,undef,undef,undef,.slice none 0 0,undef,undef,undef,undef,undef,undef,v22,v23,.slice none 0 0,.int .i64 svL.2.1,.int .i64 n,undef,.int .i64 n,.bool false,.bool false,.bool false,undef,undef,undef,v35,undef,undef,undef,undef,undef,undef,undef,undef,undef,undef,undef,undef,undef,undef,undef,undef,undef,undef,undef,undef,undef,undef,undef,undef,undef,undef,undef,undef,undef,undef,undef],[]⟩ [.code Lead.work]) cs w):
  To Lead.prog Gl (Frame.enter Lead.prog 19 #[x0,x1,x2,x3] .normal) cs w:=by
 rw [zt2]
 simp only [Lead.body,Lead.q0,Lead.q1,Lead.q2,Lead.no]
 refine zab hcs ?_
 rw [stepG_seq]
 simp only [goes_go]
 refine ⟨_,_,rfl,?_⟩
 refine zab hcs ?_
 rw [stepG_region]
 simp only [goes_go,List.size_toArray,List.length_cons,List.length_nil,Nat.reduceAdd,Nat.zero_add,List.range,List.range.loop]
 refine ⟨_,_,rfl,?_⟩
 refine zab hcs ?_
 refine goes_oper_k rfl rfl (by k_ne) (fun Kx hKx=>?_)
 go_simp
 refine hKx _ _ ⟨_,_,rfl,?_⟩
 clear hKx Kx
 refine zab hcs ?_
 refine goes_oper_k rfl rfl (by k_ne) (fun Kx hKx=>?_)
 go_simp
 refine hKx _ _ ⟨_,_,rfl,?_⟩
 clear hKx Kx
 refine zgb hcs (i:=2) (by simp only [List.getElem?_toArray,List.getElem?_cons_succ,List.getElem?_cons_zero];rfl) (by rfl) (by k_ne) (s:=(do eqGuard .lss 3 (.tmp 1) (.const (.int .i64 0)) x1 (.int .i64 0);binOp .lss 3 x1 (.int .i64 0))) rfl (fun vx wx hx=>?_)
 obtain ⟨hop,rfl,rfl,rfl⟩:=zwv hx
 clear hx
 walk_nrm
 refine zgb hcs (i:=3) (by simp only [List.getElem?_toArray,List.getElem?_cons_succ,List.getElem?_cons_zero];rfl) (by rfl) (by k_ne) (s:=(do eqGuard .lss 3 (.tmp 2) (.const (.int .i64 0)) x2 (.int .i64 0);binOp .lss 3 x2 (.int .i64 0))) rfl (fun vx wx hx=>?_)
 obtain ⟨hops,rfl,rfl,rfl⟩:=zwv hx
 clear hx
 walk_nrm
 refine zgb hcs (i:=4) (by simp only [List.getElem?_toArray,List.getElem?_cons_succ,List.getElem?_cons_zero];rfl) (by rfl) (by k_ne) (s:=Builtin.cap_ #[33] 3 #[x0]) (zni (x:=.tmp 0) rfl) (fun vx wx hx=>?_)
 obtain ⟨a,nS,cS,rfl,rfl,rfl⟩:=zqn hx (Lead.of Tryd.underlying33)
 clear hx
 walk_nrm
 refine zab hcs ?_
 refine goes_oper_k rfl rfl (by k_ne) (fun Kx hKx=>?_)
 go_simp
 refine hKx _ _ ⟨_,_,rfl,?_⟩
 clear hKx Kx
 refine zab hcs ?_
 refine goes_oper_k rfl rfl (by k_ne) (fun Kx hKx=>?_)
 go_simp
 refine hKx _ _ ⟨_,_,rfl,?_⟩
 clear hKx Kx
 refine zgb hcs (i:=7) (by simp only [List.getElem?_toArray,List.getElem?_cons_succ,List.getElem?_cons_zero];rfl) (by rfl) (by k_ne) (s:=Builtin.cap_ #[22] 3 #[x3]) (zni (x:=.tmp 3) rfl) (fun vx wx hx=>?_)
 obtain ⟨adl,n,capl,rfl,rfl,rfl⟩:=zqn hx (Lead.of Tryd.underlying22)
 clear hx
 walk_nrm
 refine zab hcs ?_
 refine goes_oper_k rfl rfl (by k_ne) (fun Kx hKx=>?_)
 go_simp
 refine hKx _ _ ⟨_,_,rfl,?_⟩
 clear hKx Kx
 refine zab hcs ?_
 refine goes_oper_k rfl rfl (by k_ne) (fun Kx hKx=>?_)
 go_simp
 refine hKx _ _ ⟨_,_,rfl,?_⟩
 clear hKx Kx
 refine zab hcs ?_
 rw [stepG_region_end]
 simp only [goes_go]
 refine ⟨_,_,rfl,?_⟩
 refine zab hcs ?_
 rw [stepG_seq]
 simp only [goes_go]
 refine ⟨_,_,rfl,?_⟩
 by_cases h1:4000<(nS:Int)
 case pos =>
  refine zab hcs ?_
  rw [stepG_cond (t:=true) (by first|rfl|(simp [Act.eval];omega))]
  simp only [goes_go,if_true,if_false,Bool.false_eq_true,↓reduceIte]
  refine ⟨_,_,rfl,?_⟩
  exact zdv hcs
 refine zab hcs ?_
 rw [stepG_cond (t:=false) (by first|rfl|(simp [Act.eval];omega))]
 simp only [goes_go,if_true,if_false,Bool.false_eq_true,↓reduceIte]
 refine ⟨_,_,rfl,?_⟩
 refine zab hcs ?_
 rw [stepG_skip]
 simp only [goes_go]
 refine ⟨_,_,rfl,?_⟩
 refine zab hcs ?_
 rw [stepG_seq]
 simp only [goes_go]
 refine ⟨_,_,rfl,?_⟩
 by_cases h2:64<(n:Int)
 case pos =>
  refine zab hcs ?_
  rw [stepG_cond (t:=true) (by first|rfl|(simp [Act.eval];omega))]
  simp only [goes_go,if_true,if_false,Bool.false_eq_true,↓reduceIte]
  refine ⟨_,_,rfl,?_⟩
  exact zdv hcs
 refine zab hcs ?_
 rw [stepG_cond (t:=false) (by first|rfl|(simp [Act.eval];omega))]
 simp only [goes_go,if_true,if_false,Bool.false_eq_true,↓reduceIte]
 refine ⟨_,_,rfl,?_⟩
 refine zab hcs ?_
 rw [stepG_skip]
 simp only [goes_go]
 refine ⟨_,_,rfl,?_⟩
 refine zab hcs ?_
 rw [stepG_seq]
 simp only [goes_go]
 refine ⟨_,_,rfl,?_⟩
 refine zab hcs ?_
 rw [stepG_region]
 simp only [goes_go,List.size_toArray,List.length_cons,List.length_nil,Nat.reduceAdd,Nat.zero_add,List.range,List.range.loop]
 refine ⟨_,_,rfl,?_⟩
 refine zpg (i:=0) hcs (by simp only [List.getElem?_toArray,List.getElem?_cons_zero];rfl) (by rfl) (by k_ne) rfl Lead.func32 (by kernel_rfl) rfl ?_
 walk_nrm
 refine chkT hcs0 (hR _ h0).1 (fun s bs es hb=>?_)
 obtain ⟨sa,sn,sc⟩:=s
 unfold sl at es
 simp only [Value.slice.injEq] at es
 obtain ⟨rfl,rfl,rfl⟩:=es
 walk_nrm
 refine zab hcs ?_
 rw [stepG_region_end]
 simp only [goes_go]
 refine ⟨_,_,rfl,?_⟩
 refine zab hcs ?_
 rw [stepG_seq]
 simp only [goes_go]
 refine ⟨_,_,rfl,?_⟩
 refine zab hcs ?_
 rw [stepG_region]
 simp only [goes_go,List.size_toArray,List.length_cons,List.length_nil,Nat.reduceAdd,Nat.zero_add,List.range,List.range.loop]
 refine ⟨_,_,rfl,?_⟩
 refine zab hcs ?_
 refine goes_oper_k rfl rfl (by k_ne) (fun Kx hKx=>?_)
 go_simp
 refine hKx _ _ ⟨_,_,rfl,?_⟩
 clear hKx Kx
 refine zab hcs ?_
 rw [stepG_region_end]
 simp only [goes_go]
 refine ⟨_,_,rfl,?_⟩
 refine zab hcs ?_
 rw [stepG_seq]
 simp only [goes_go]
 refine ⟨_,_,rfl,?_⟩
 refine zab hcs ?_
 rw [stepG_block]
 simp only [goes_go]
 refine ⟨_,_,rfl,?_⟩
 refine zab hcs ?_
 rw [stepG_loop]
 simp only [goes_go]
 refine ⟨_,_,rfl,?_⟩
 try rw [show decide (4000<nS)=false from decide_eq_false (by omega)]
 try rw [show decide (64<n)=false from decide_eq_false (by omega)]
 refine zr0 (svL:=(a,nS,cS)) (hop:=hop) (hops:=hops) (adl:=adl) (n:=n) (capl:=capl) hcs hcs0 (by omega) hR h3 (fun ptL pb v22 v23 v29 v35 hp=>h (a,nS,cS) bs hop hops adl n capl ptL pb v22 v23 v29 v35 ⟨rfl,rfl,rfl,rfl,hb,by have:=hb.len;dsimp only at this;omega,by omega,hp⟩) n 0 (fun _=>(none,0,0)) (fun _=>[]) undef (.bool (decide (hop<0))) (.int .i64 capl) undef (by omega) (fun p hp=>absurd hp (Nat.not_lt_zero p))
end
end
section
open Go.Conc Go.ConcN Go.ConcN.Gen Go.RowKit Go.Conc.Lib Go.ConcR.Gen
section
variable {X2:Exts} {B:Bas} {nw:List Nat} {wl wc:World}
def Has (X2:Exts)(B:Bas)(nw:List Nat)(x:Value): Prop:=∃ x',@VRel X2 (cor B nw) x x'
theorem z2z (hW:@WRel X2 B nw wl wc): Rch wl (Has X2 B nw):=fun x hx=>by
 obtain ⟨x',hx⟩:=hx
 refine ⟨fun a n c e=>?_,fun a n c i v e hc=>?_⟩
 ·subst e
  cases hx with
  | slice _ a' _ _ h =>
    obtain ⟨h1,b',d,h2,h3⟩:=h
    exact ⟨h1,fun i _=>by
     obtain ⟨e,he,_⟩:=@WRel.noFar X2 B nw wl wc hW ⟨a.block,i,none⟩ ⟨b',i+d,none⟩ ⟨rfl,b',d,h2,rfl⟩ Lead.prog false
     exact ⟨e,he⟩⟩
 ·subst e
  cases hx with
  | slice _ a' _ _ h =>
    obtain ⟨h1,b',d,h2,h3⟩:=h
    obtain ⟨v',_,hv⟩:=@WRel.cell X2 B nw wl wc hW ⟨a.block,i,none⟩ ⟨b',i+d,none⟩ ⟨rfl,b',d,h2,rfl⟩ v hc
    exact ⟨v',hv⟩
structure z04 (B:Bas): Prop where
 N:0<B.N
 good0:B.good 0=true
 old0:B.old 0=some (0,0)
 tab:∀ c,B.tab c→ze7 c∧∀ j,j<64→c[j]?=some (.int .u32 (kc.getD j 0))
open Classical in
theorem z0m (hB:z04 B)(hW:@WRel X2 B nw wl wc){x0 x1 x2 x3 y0 y1 y2 y3:Value}(h0:@VRel X2 (cor B nw) x0 y0)(h1:@VRel X2 (cor B nw) x1 y1)(h2:@VRel X2 (cor B nw) x2 y2)(h3:@VRel X2 (cor B nw) x3 y3){svL:Sl}{sb:List Int}{hop hops:Int}{adl:Option Addr}{n capl:Nat}{ptL:Nat→Sl}{pb:Nat→List Int}(hG:z5a wl (Has X2 B nw) x0 x1 x2 x3 svL sb hop hops adl n capl ptL pb):
  ∃ (y:PIn) (adc:Option Addr) (bR oR:Nat),zcd X2 B nw wl wc n y∧y.svL=svL∧y.sb=sb∧y.hop=hop∧y.hops=hops∧y.ptL=ptL∧y.pb=pb∧y0=sl y.svC∧y1=.int .i64 y.hop∧y2=.int .i64 y.hops∧y3=.slice adc n capl ∧
   (0<n→adc=some ⟨bR,oR,none⟩)∧(0<n→Img B nw bR)∧∀ p,p<n→wc.cell? ⟨bR,oR+p,none⟩=some (sl (y.ptC p)):=by
 obtain ⟨rfl,rfl,rfl,rfl,hsv,hfew,hn,hpt⟩:=hG
 obtain ⟨svC,rfl⟩:=zga h0
 obtain rfl:=zfi h1
 obtain rfl:=zfi h2
 obtain ⟨⟨adc,nc,cc⟩,rfl⟩:=zga (x:=(adl,n,capl)) h3
 have e3:nc=n∧cc=capl:=by
  unfold sl at h3
  cases h3 <;> exact ⟨rfl,rfl⟩
 obtain ⟨rfl,rfl⟩:=e3
 have hsl:∀ {vl:Sl} {bs:List Int} {vc:Sl},IsBs wl vl bs→@VRel X2 (cor B nw) (sl vl) (sl vc)→zfe X2 B nw wl vl vc bs:=fun hb hr=>⟨hr,hb.len,hb.cap,hb.byt,hb.cells⟩
 rcases Nat.eq_zero_or_pos nc with hz|hz
 ·subst hz
  refine ⟨{ z:=wl.heap.size,σ:=fun b=>if b<wl.heap.size then cor B nw b else none,hl:=wl.heap,svL:=svL,svC:=svC,sb:=sb,hop:=hop,hops:=hops,ptL:=ptL,ptC:=fun _=>(none,0,0),pb:=pb,zc:=wc.heap.size },adc,0,0,
   ⟨hW,hB.N,hB.good0,hB.old0,hB.tab,rfl,rfl,rfl,rfl,hsl hsv h0,hfew,fun p hp=>absurd hp (Nat.not_lt_zero p)⟩,rfl,rfl,rfl,rfl,rfl,rfl,rfl,rfl,rfl,rfl,fun h=>absurd h (Nat.lt_irrefl 0),fun h=>absurd h (Nat.lt_irrefl 0),fun p hp=>absurd hp (Nat.not_lt_zero p)⟩
 ·obtain ⟨ad,rfl,hsp,_⟩:=hpt 0 hz
  unfold sl at h3
  dsimp only at h3
  have hadc:∃ b' d,cor B nw ad.block=some (b',d)∧adc=some ⟨b',ad.off+d,none⟩:=by
   cases h3 with
   | slice _ a' _ _ h =>
     obtain ⟨_,b',d,q1,q2⟩:=h
     exact ⟨b',d,q1,by rw [q2]⟩
  obtain ⟨b',d,hcor,rfl⟩:=hadc
  have hcell:∀ p,p<nc→∃ s,wc.cell? ⟨b',ad.off+d+p,none⟩=some (sl s)∧@VRel X2 (cor B nw) (sl (ptL p)) (sl s):=fun p hp=>by
   obtain ⟨ad2,q1,_,q3,_⟩:=hpt p hp
   cases q1
   obtain ⟨v',hv',hr⟩:=@WRel.cell X2 B nw wl wc hW ⟨ad.block,ad.off+p,none⟩ ⟨b',ad.off+p+d,none⟩ ⟨rfl,b',d,hcor,rfl⟩ _ q3
   obtain ⟨s,rfl⟩:=zga hr
   exact ⟨s,by rw [show ad.off+d+p=ad.off+p+d by omega];exact hv',hr⟩
  refine ⟨{ z:=wl.heap.size,σ:=fun b=>if b<wl.heap.size then cor B nw b else none,hl:=wl.heap,svL:=svL,svC:=svC,sb:=sb,hop:=hop,hops:=hops,ptL:=ptL,ptC:=fun p=>if h:∃ s,wc.cell? ⟨b',ad.off+d+p,none⟩=some (sl s)∧@VRel X2 (cor B nw) (sl (ptL p)) (sl s) then h.choose else (none,0,0),pb:=pb,zc:=wc.heap.size },_,b',ad.off+d,
   ⟨hW,hB.N,hB.good0,hB.old0,hB.tab,rfl,rfl,rfl,rfl,hsl hsv h0,hfew,fun p hp=>?_⟩,rfl,rfl,rfl,rfl,rfl,rfl,rfl,rfl,rfl,rfl,fun _=>rfl,fun _=>⟨ad.block,d,hcor⟩,fun p hp=>?_⟩
  ·have hex:=hcell p hp
   obtain ⟨_,_,_,_,q4⟩:=hpt p hp
   refine hsl q4 ?_
   dsimp only
   rw [dif_pos hex]
   exact hex.choose_spec.2
  ·have hex:=hcell p hp
   dsimp only
   rw [dif_pos hex]
   exact hex.choose_spec.1
theorem z30 {n:Nat}{y:PIn}(hE:zcd X2 B nw wl wc n y)(hn:n≤64){Shun:Loc→Prop}{gs:Array Goroutine}{t:Trace}{cs:List Frame}{adc:Option Addr}{capl bR oR:Nat}(sl':Option (Nat×Nat))(hF:Frm Tryd.prog Shun wc.heap.size gs t)(h0:gs[0]?=some (G (Frame.enter Tryd.prog 19 #[sl y.svC,.int .i64 y.hop,.int .i64 y.hops,.slice adc n capl] .normal) cs)){K:Nat→Prop}(hKi:∀ b,Img B nw b→K b)(hKl:∀ b,K b→b<wc.heap.size)(hcl:∀ b,K b→zet Shun b)(hfresh:∀ b,wc.heap.size≤b→zet Shun b)(hA:0<n→adc=some ⟨bR,oR,none⟩)(hR:0<n→Img B nw bR)(hpart:∀ p,p<n→wc.cell? ⟨bR,oR+p,none⟩=some (sl (y.ptC p))):
  ∃ Kn gs' w' sl2 t' Wg bA T got Bp,runNT Tryd.prog Kn (crowd gs wc sl') t=(.next (crowd gs' w' sl2),t')∧gs'[0]?=some (zx6 T cs)∧Frm Tryd.prog (fun l=>Shun l∨ShN Wg l) w'.heap.size gs' t' ∧
   znm K Shun wc n (Came y) (sl y.svC) (.int .i64 y.hop) (.int .i64 y.hops) (.slice adc n capl) T got Wg bA Bp w' :=
 zzf (K:=K) (w0:=wc) (cs:=cs) (Ap:=Came y) (part:=fun p=>sl (y.ptC p)) sl' hn hF h0 hKl hcl hfresh (zxx y) hA (fun h=>hKi _ (hR h)) hpart (fun Wg cG cB g0 s w hk hsz=>hE.peelAll hKi Wg cG cB g0 s w hk hsz)
end
end
section
def Tri (σ1 σ2 σ3:Nat→Option (Nat×Nat)): Prop:=∀ b x d y e,σ1 b=some (x,d)→σ2 b=some (y,e)→∃ q,σ3 x=some (y,q)∧e=d+q
structure znl (X2:Exts): Prop where
 ext:∀ f,E1.ext f=false→X2.ext f=false
 stop:∀ f,E1.ext f=false→X2.stop f=false
 gap:X2.gapOk=true
section
variable {X2:Exts} {σ1 σ2 σ3:Nat→Option (Nat×Nat)}
theorem zmm (hT:Tri σ1 σ2 σ3){a a1 a2:Addr}(h1:ARel σ1 a a1)(h2:ARel σ2 a a2): ARel σ3 a1 a2:=by
 obtain ⟨_,x,d,p1,rfl⟩:=h1
 obtain ⟨_,y,e,p2,rfl⟩:=h2
 obtain ⟨q,p3,rfl⟩:=hT _ _ _ _ _ p1 p2
 exact ⟨rfl,y,q,p3,by rw [Nat.add_assoc]⟩
theorem z3k (hT:Tri σ1 σ2 σ3)(hW:znl X2){f f1 f2:Fn}(h1:@ziz E0 σ1 f f1)(h2:@ziz E1 σ2 f f2): @ziz X2 σ3 f1 f2:=by
 cases h1 with
 | func f hf hs =>
   cases h2 with
   | func _ hf2 hs2=>exact @ziz.func X2 _ f (hW.ext f hf) (hW.stop f hf)
 | yield l l1 h =>
   cases h2 with
   | yield _ l2 h' =>
     obtain ⟨q,p3,e⟩:=hT _ _ _ _ _ h h'
     have:q=0:=by omega
     subst this
     exact @ziz.yield X2 _ _ _ p3
theorem zpf (hT:Tri σ1 σ2 σ3)(hW:znl X2){v v1:Value}(h1:@VRel E0 σ1 v v1): ∀ {v2},@VRel E1 σ2 v v2→@VRel X2 σ3 v1 v2:=by
 induction h1 with
 | bool b=>intro v2 h2;cases h2;exact @VRel.bool X2 _ _
 | int k n=>intro v2 h2;cases h2;exact @VRel.int X2 _ _ _
 | string s=>intro v2 h2;cases h2;exact @VRel.string X2 _ _
 | nilp=>intro v2 h2;cases h2;exact @VRel.nilp X2 _
 | ptr a a1 h=>intro v2 h2;cases h2 with|ptr _ a2 h'=>exact @VRel.ptr X2 _ _ _ (zmm hT h h')
 | nils n c =>
   intro v2 h2
   cases h2 with
   | nils=>exact @VRel.nils X2 _ _ _
   | gap a' _=>exact @VRel.gap X2 _ a' hW.gap
 | slice a a1 n c h=>intro v2 h2;cases h2 with|slice _ a2 _ _ h'=>exact @VRel.slice X2 _ _ _ _ _ (zmm hT h h')
 | nilFunc=>intro v2 h2;cases h2;exact @VRel.nilFunc X2 _
 | nilIface=>intro v2 h2;cases h2;exact @VRel.nilIface X2 _
 | func f f1 x x1 c c1 h hx hc ex ec ihx ihc =>
   intro v2 h2
   cases h2 with
   | func _ f2 _ x2 _ c2 h' hx' hc' ex' ec' =>
     refine @VRel.func X2 _ _ _ _ _ _ _ (z3k hT hW h h') (hx.symm.trans hx') (hc.symm.trans hc') (fun i u1 u2 k1 k2=>?_) (fun i u1 u2 k1 k2=>?_)
     ·have hi:=(Array.getElem?_eq_some_iff.1 k1).1
      have h0:x[i]?=some x[i]:=Array.getElem?_eq_getElem (by omega)
      exact ihx i _ _ h0 k1 (ex' i _ _ h0 k2)
     ·have hi:=(Array.getElem?_eq_some_iff.1 k1).1
      have h0:c[i]?=some c[i]:=Array.getElem?_eq_getElem (by omega)
      exact ihc i _ _ h0 k1 (ec' i _ _ h0 k2)
 | iface t v v1 h ih=>intro v2 h2;cases h2 with|iface _ _ v2 h'=>exact @VRel.iface X2 _ _ _ _ (ih h')
 | agg c c1 hc ec ih =>
   intro v2 h2
   cases h2 with
   | agg _ c2 hc' ec' =>
     refine @VRel.agg X2 _ _ _ (hc.symm.trans hc') (fun i u1 u2 k1 k2=>?_)
     have hi:=(Array.getElem?_eq_some_iff.1 k1).1
     have h0:c[i]?=some c[i]:=Array.getElem?_eq_getElem (by omega)
     exact ih i _ _ h0 k1 (ec' i _ _ h0 k2)
 | tuple c c1 hc ec ih =>
   intro v2 h2
   cases h2 with
   | tuple _ c2 hc' ec' =>
     refine @VRel.tuple X2 _ _ _ (hc.symm.trans hc') (fun i u1 u2 k1 k2=>?_)
     have hi:=(Array.getElem?_eq_some_iff.1 k1).1
     have h0:c[i]?=some c[i]:=Array.getElem?_eq_getElem (by omega)
     exact ih i _ _ h0 k1 (ec' i _ _ h0 k2)
   | any v' ho ha=>cases ha
 | any v' ho ha=>cases ha
 | gap a' hg=>cases hg
theorem zus (hT:Tri σ1 σ2 σ3)(hW:znl X2){c c1 c2:Array Value}(h1:@RRel E0 σ1 c c1)(h2:@RRel E1 σ2 c c2): @RRel X2 σ3 c1 c2 :=
 ⟨h1.1.symm.trans h2.1,fun i u1 u2 k1 k2=>by
  have hi:=(Array.getElem?_eq_some_iff.1 k1).1
  have hs:=h1.1
  have h0:c[i]?=some c[i]:=Array.getElem?_eq_getElem (by omega)
  exact zpf hT hW (h1.2 i _ _ h0 k1) (h2.2 i _ _ h0 k2)⟩
theorem z1p (hT:Tri σ1 σ2 σ3)(hW:znl X2){B1 B2 B3:Bas}(hcode:∀ c,B1.code c→B3.code c){o o1 o2:Obj}(h1:@NRel E0 B1 σ1 o o1)(h2:@NRel E1 B2 σ2 o o2): @NRel X2 B3 σ3 o1 o2:=by
 cases h1 with
 | cells c c1 e fr h=>cases h2 with|cells _ c2 _ _ h'=>exact @NRel.cells X2 _ _ _ _ _ _ (zus hT hW h h')
 | loop l l1 h =>
   cases h2 with
   | loop _ l2 h' =>
     obtain ⟨s1,s2,s3,s4,s5,s6,s7,s8,s9,s10,s11,s12⟩:=h
     obtain ⟨r1,r2,r3,r4,r5,r6,r7,r8,r9,r10,r11,r12⟩:=h'
     refine @NRel.loop X2 _ _ _ _ (@LRel.mk X2 _ _ _ _ (s1.symm.trans r1) (s2.symm.trans r2) (s3.symm.trans r3) (zus hT hW s4 r4) (s5.symm.trans r5) (s6.symm.trans r6) (s7.symm.trans r7) ?_ (s6 ▸ hcode _ s9) (s7 ▸ hcode _ s10) (fun c hc=>hcode _ (s11 c (s2.trans hc))) (s3 ▸ hW.ext _ s12))
     obtain ⟨q,p3,e⟩:=hT _ _ _ _ _ s8 r8
     have:q=0:=by omega
     subst this
     exact p3
 | defNone=>cases h2;exact @NRel.defNone X2 _ _
 | defNil=>cases h2;exact @NRel.defNil X2 _ _
 | number a a1 l h=>cases h2 with|number _ a2 _ h'=>exact @NRel.number X2 _ _ _ _ _ (zmm hT h h')
end
end
section
open Go.Conc Go.ConcN Go.ConcN.Gen Go.RowKit Go.Conc.Lib Go.ConcR.Gen
theorem zyr {P:Program}{fr fr2:Frame}{cs cs2:List Frame}{w w2:World}(h:@zlk E1 P fr cs w fr2 cs2 w2): @zlk E0 P fr cs w fr2 cs2 w2:=by
 induction h with
 | refl fr cs w t ht=>exact @zlk.refl E0 P fr cs w t ht
 | step t es ht h hc hx n ih=>exact @zlk.step E0 P _ _ _ _ _ _ _ _ _ t es ht h hc hx ih
def PIn.basL (y:PIn)(p M:Nat): Bas:=zd9 E0 y.z M (fun b=>if (y.σ b).isSome then some (b,0) else none) (zb7 y.svL y.sb) (zb7 (y.ptL p) (y.pb p))
section
variable {X2:Exts} {B:Bas} {nw:List Nat} {wl wc:World}
theorem zfe.winL {vl vc:Sl}{bs:List Int}(h:zfe X2 B nw wl vl vc bs){z:Nat}(hz:z=wl.heap.size){wl':World}(hkeep:∀ b,b<z→wl'.heap[b]?=wl.heap[b]?)(hsz:z≤wl'.heap.size): zme wl' (zb7 vl bs) (zem bs) wl'.heap.size:=by
 intro b d hb
 unfold zb7 at hb
 split at hb
 ·cases hb
 rename_i hne
 have hpos:0<bs.length:=List.length_pos_iff.2 hne
 obtain ⟨a,ha,hsp,hc0⟩:=h.cells 0 hpos
 rw [ha] at hb
 simp only [Option.map_some,Option.some.injEq,Prod.mk.injEq] at hb
 obtain ⟨rfl,rfl⟩:=hb
 have hlt:a.block<wl.heap.size:=za5 (a:=⟨a.block,a.off+0,none⟩) hc0
 have key:∃ c' e fr,wl.heap[a.block]?=some (.cells c' e fr):=by
  unfold World.cell? at hc0
  dsimp only at hc0
  cases ho:wl.heap[a.block]? with
  | none=>rw [ho] at hc0;cases hc0
  | some o =>
    rw [ho] at hc0
    cases o <;> first
     | exact ⟨_,_,_,rfl⟩
     | cases hc0
 obtain ⟨c',e,fr,hc'⟩:=key
 refine ⟨by omega,c',e,fr,(hkeep _ (by omega)).trans hc',fun i v hv=>?_⟩
 unfold zem nums at hv
 simp only [List.getElem?_toArray,List.getElem?_map] at hv
 obtain ⟨x,hx,rfl⟩:=Option.map_eq_some_iff.1 hv
 have hi:=(List.getElem?_eq_some_iff.1 hx).1
 obtain ⟨a2,e2,_,hci⟩:=h.cells i hi
 rw [ha] at e2
 cases e2
 unfold World.cell? at hci
 rw [hc'] at hci
 dsimp only at hci
 rw [show i+a.off=a.off+i by omega]
 simpa [List.getD,hx] using hci
theorem zfe.baseL {vl vc:Sl}{bs:List Int}(h:zfe X2 B nw wl vl vc bs){σ:Nat→Option (Nat×Nat)}{q:Nat}(hlt:∀ b x,cor B nw b=some x→σ b=some (b,0))(hq:bs≠[]→σ q=zb7 vl bs): @VRel E0 σ (sl (zcm q vl bs)) (sl vl):=by
 unfold zcm
 by_cases hne:bs=[]
 ·rw [if_pos hne]
  have hr:=h.rel
  obtain ⟨av,n,c⟩:=vl
  obtain ⟨av',n',c'⟩:=vc
  unfold sl at hr ⊢
  dsimp only at hr ⊢
  cases hr with
  | nils=>exact @VRel.nils E0 _ _ _
  | gap a' _=>exact @VRel.nils E0 _ _ _
  | slice a a' _ _ har =>
    obtain ⟨h1,b',d,h2,h3⟩:=har
    refine @VRel.slice E0 _ a a _ _ ⟨h1,a.block,0,hlt _ _ h2,?_⟩
    obtain ⟨x1,x2,x3⟩:=a
    dsimp only at h1
    subst h1
    rfl
 ·rw [if_neg hne]
  have hpos:0<bs.length:=List.length_pos_iff.2 hne
  obtain ⟨a,ha,hsp,hc0⟩:=h.cells 0 hpos
  have hw:σ q=some (a.block,a.off):=by rw [hq hne];unfold zb7;rw [if_neg hne,ha];rfl
  obtain ⟨av,n,c⟩:=vl
  dsimp only at ha
  subst ha
  refine @VRel.slice E0 _ ⟨q,0,none⟩ a _ _ ⟨rfl,a.block,a.off,hw,?_⟩
  obtain ⟨x1,x2,x3⟩:=a
  dsimp only at hsp
  subst hsp
  simp
theorem zcd.sigL {n:Nat}{y:PIn}(h:zcd X2 B nw wl wc n y){p M b:Nat}{x:Nat×Nat}(hc:cor B nw b=some x): cor (y.basL p M) [] b=some (b,0):=by
 have hb:b<y.z:=by rw [h.z];exact (h.img (b':=x.1) (d:=x.2) hc).1
 rw [zbs (by show b<y.z+2;omega)]
 show zcl y.z (fun b=>if (y.σ b).isSome then some (b,0) else none) _ _ b=_
 have hs:y.σ b=some x:=by rw [h.σ];dsimp only;rw [if_pos hb];exact hc
 unfold zcl
 rw [if_pos hb]
 dsimp only
 rw [if_pos (by rw [hs];rfl)]
theorem zcd.relL {n:Nat}{y:PIn}(h:zcd X2 B nw wl wc n y){p:Nat}(hp:p<n){wl':World}(hkeep:∀ b,b<y.z→wl'.heap[b]?=wl.heap[b]?)(hsz:y.z≤wl'.heap.size):
  @WRel E0 (y.basL p wl'.heap.size) [] { wl' with heap:=y.heap p } wl':=by
 have hz:=h.z
 have hheap:y.heap p=zb0 wl.heap (zem y.sb) (zem (y.pb p)):=by unfold PIn.heap;rw [h.hl]
 have hσ:∀ b,b<y.z→y.σ b=cor B nw b:=fun b hb=>by rw [h.σ];dsimp only;rw [if_pos hb]
 have win:∀ (c:Array Value) (x:Option (Nat×Nat)) (q b' d:Nat),ze7 c→zme wl' x c wl'.heap.size→x=some (b',d)→q≠0→∃ o',wl'.heap[b']?=some o'∧@ORel E0 (y.basL p wl'.heap.size) (cor (y.basL p wl'.heap.size) []) q b' d (.cells c badT (0,c.size)) o':=by
  intro c x q b' d hi hx e hq
  obtain ⟨h1,c',e',fr,h2,h3⟩:=hx b' d e
  refine ⟨_,h2,@ORel.cells E0 _ _ _ _ _ c c' badT e' (0,c.size) fr rfl (Nat.le_refl _) (.inr ⟨by simpa [PIn.basL,zd9] using hq,by show 1≤q;omega,rfl⟩) (fun i v hv=>?_)⟩
  obtain ⟨k,n,rfl⟩:=hi i v hv
  exact ⟨_,h3 i _ hv,@VRel.int E0 _ k n⟩
 have hs:=h.sv.winL hz hkeep hsz
 have hpw:=(h.pt p hp).winL hz hkeep hsz
 have olds:∀ b b' d,(y.basL p wl'.heap.size).old b=some (b',d)→(b<y.z∧b'=b∧d=0∧∃ x,cor B nw b=some x)∨(b=y.z∧zb7 y.svL y.sb=some (b',d))∨(b=y.z+1∧zb7 (y.ptL p) (y.pb p)=some (b',d)):=by
  intro b b' d hB
  have hB:zcl y.z (fun b=>if (y.σ b).isSome then some (b,0) else none) (zb7 y.svL y.sb) (zb7 (y.ptL p) (y.pb p)) b=some (b',d):=hB
  unfold zcl at hB
  split at hB
  ·rename_i hlt
   dsimp only at hB
   split at hB
   ·rename_i hsome
    cases hB
    rw [hσ b hlt] at hsome
    exact .inl ⟨hlt,rfl,rfl,Option.isSome_iff_exists.1 hsome⟩
   ·cases hB
  ·split at hB
   ·rename_i e;exact .inr (.inl ⟨e,hB⟩)
   ·split at hB
    ·rename_i e;exact .inr (.inr ⟨e,hB⟩)
    ·cases hB
 refine @WRel.mk E0 (y.basL p wl'.heap.size) [] { wl' with heap:=y.heap p } wl' (by rw [hheap,zh7,← hz];rfl) (Nat.le_refl _) (fun k hk=>(by cases hk)) List.nodup_nil (fun b b' d hb hB=>?_) (fun b b' d hb hB=>?_) (fun i k hk=>(by cases hk)) (fun k q=>rfl) (fun h=>(by cases h))
 ·rcases olds b b' d hB with ⟨h1,rfl,_⟩|⟨_,h1⟩|⟨_,h1⟩
  ·show _<wl'.heap.size;omega
  ·exact (hs b' d h1).1
  ·exact (hpw b' d h1).1
 ·show ∃ o o',(y.heap p)[b]?=some o∧wl'.heap[b']?=some o'∧_
  rw [hheap]
  rcases olds b b' d hB with ⟨hlt,rfl,rfl,x,hx⟩|⟨rfl,h1⟩|⟨rfl,h1⟩
  ·obtain ⟨o,o',k1,k2,k3⟩:=@WRel.block X2 B nw wl wc h.rel b' x.1 x.2 hx
   have k1':wl'.heap[b']?=some o:=(hkeep b' hlt).trans k1
   refine ⟨skel b' o,o,zgn k1,k1',?_⟩
   by_cases hb0:b'=0
   ·subst hb0
    rw [show cor B nw 0=B.old 0 from if_pos h.N,h.old0] at hx
    cases hx
    rcases k3 with ⟨_,k3⟩|⟨i,hi,_⟩
    ·cases k3 with
     | cells c c' e e' fr fr' q0 q1 kg kc =>
       rcases kg with ⟨_,_,_,rfl,ksz,kt⟩|⟨kg,_⟩
       ·refine @ORel.cells E0 _ _ _ _ _ c c e e fr fr q0 q1 (.inl ⟨rfl,rfl,rfl,rfl,rfl,(h.tab c kt).1⟩) (fun i v hv=>?_)
        obtain ⟨k,n,rfl⟩:=(h.tab c kt).1 i v hv
        exact ⟨_,hv,@VRel.int E0 _ k n⟩
       ·rw [h.good0] at kg;cases kg
     | dull fr o' hk hg=>rw [h.good0] at hg;exact absurd hg.1 (by simp)
     | num a a' l h' hg=>rw [h.good0] at hg;exact absurd hg.1 (by simp)
    ·have:=h.N;omega
   ·have hg:(y.basL p wl'.heap.size).good b'=false∧1≤b':=⟨by simpa [PIn.basL,zd9] using hb0,by omega⟩
    have dull:∀ o',zl8 o'=true→@ORel E0 (y.basL p wl'.heap.size) (cor (y.basL p wl'.heap.size) []) b' b' 0 (.cells #[] badT (0,0)) o':=fun o' hk=>@ORel.dull E0 (y.basL p wl'.heap.size) _ _ _ _ (0,0) o' hk hg rfl
    have num:∀ a a' l,@ARel (cor B nw) a a'→@ORel E0 (y.basL p wl'.heap.size) (cor (y.basL p wl'.heap.size) []) b' b' 0 (.number a l) (.number a l):=fun a a' l ha=>by
     obtain ⟨e1,q,dq,e2,e3⟩:=ha
     refine @ORel.num E0 _ _ _ _ _ a a l ⟨e1,a.block,0,h.sigL e2,?_⟩ hg rfl
     obtain ⟨x1,x2,x3⟩:=a
     dsimp only at e1
     subst e1
     rfl
    unfold skel
    rw [if_neg hb0]
    rcases k3 with ⟨_,k3⟩|⟨i,hi,_,_,k3⟩
    ·cases k3 with
     | cells=>exact dull _ rfl
     | dull _ _ hk=>exact dull _ rfl
     | num a a' l h=>exact num a a' l h
    ·cases k3 with
     | cells=>exact dull _ rfl
     | loop=>exact dull _ rfl
     | defNone=>exact dull _ rfl
     | defNil=>exact dull _ rfl
     | number a a' l h=>exact num a a' l h
  ·obtain ⟨o',k1,k2⟩:=win (zem y.sb) _ y.z b' d (zfq _) hs h1 (by have:=h.sig0.1;omega)
   exact ⟨_,o',by rw [hz];exact zgl _ _ _,k1,k2⟩
  ·obtain ⟨o',k1,k2⟩:=win (zem (y.pb p)) _ (y.z+1) b' d (zfq _) hpw h1 (by omega)
   exact ⟨_,o',by rw [hz];exact zgm _ _ _,k1,k2⟩
theorem WRel.swap [Exts]{B:Bas}{nw:List Nat}{w w' wb:World}(h:WRel B nw w w')(hb:wb.heap=w.heap)(hc:B.cv=false): WRel B nw wb (Proofs.YtelgmbomkojmaaaDoor.relay w' (zia w' wb)) :=
 ⟨by rw [hb];exact h.size,h.msize,h.inNew,h.nodup,h.lowOld,fun b b' d h1 h2=>by rw [hb];exact h.old b b' d h1 h2,fun i k hk=>by rw [hb];exact h.new i k hk,fun k q=>(zh9 w' wb k 0 q).symm,fun e=>by rw [hc] at e;cases e⟩
end
end
section
open Go.Conc Go.ConcN Go.ConcN.Gen Go.RowKit Go.Conc.Lib Go.ConcR.Gen
def Pair (y:PIn)(p s:Nat)(nwc:List Nat)(wl2 wc2:World)(x1 k1 x2 k2:Sl): Prop:=∃ (M1 M2:Nat) (w2:World) (x k:Sl),zyj E0 (y.basL p M1) (List.range' s nwc.length) w2 wl2∧zyj E1 (y.bas p M2) nwc w2 wc2 ∧
 @VRel E0 (cor (y.basL p M1) (List.range' s nwc.length)) (sl x) (sl x1)∧@VRel E1 (cor (y.bas p M2) nwc) (sl x) (sl x2)∧@VRel E0 (cor (y.basL p M1) (List.range' s nwc.length)) (sl k) (sl k1)∧@VRel E1 (cor (y.bas p M2) nwc) (sl k) (sl k2)
section
variable {X2:Exts} {B:Bas} {nw:List Nat} {wl wc:World} {Gl:Frame→List Frame→World→Prop}
theorem z17 {n:Nat}{y:PIn}(h:zcd X2 B nw wl wc n y){p:Nat}(hp:p<n){wl' wc2:World}(hkeep:∀ b,b<y.z→wl'.heap[b]?=wl.heap[b]?)(hsz:y.z≤wl'.heap.size){cs2:List Frame}(hb:cs2≠[])(hb1:cs2≠[door Lead.prog]){a:Ans}{S:Nat→Prop}(hC:Came y p a S wc2)(K:∀ (fr2:Frame) (wl2:World) (x1 k1 x2 k2:Sl) (e:Int) (nwc:List Nat),Q15 x1 k1 e fr2→wl2.heap.size=wl'.heap.size+nwc.length→(∀ b,b<wl'.heap.size→wl2.heap[b]?=wl'.heap[b]?)→Pair y p wl'.heap.size nwc wl2 wc2 x1 k1 x2 k2→nwc.Nodup→(∀ q∈nwc,S q∧y.zc≤q)→a=(if e=0 then .good x2 k2 else .bad)→To Lead.prog Gl fr2 cs2 wl2):
  To Lead.prog Gl (Frame.enter Lead.prog 15 #[sl y.svL,.int .i64 y.hop,.int .i64 y.hops,sl (y.ptL p)] .normal) cs2 wl':=by
 obtain ⟨M,wb,nw2,fr2,w2,x,k,x',k',e,hwb,hTr,hQ,hsize,hnod,hS,hzc,hNew,hv,hk,ha⟩:=hC
 have hW0:=h.relL hp hkeep hsz
 have hW1:=@WRel.swap E0 _ _ _ _ wb hW0 hwb rfl
 have h0:(fun b=>if (y.σ b).isSome then some (b,0) else none) 0=some (0,0):=by
  dsimp only
  rw [if_pos (by rw [h.sig0.2];rfl)]
 have F:@zb3 E0 Lead.prog Lead.prog (y.basL p wl'.heap.size):=z1a E0 (fun _=>rfl) zqk Lead.prog (zbt.rfl' _) (fun f fn c hf hc _=>⟨fn,hf,hc⟩) y.z _ _ _ _ h.sig0.1 h0
 have hargs:@RRel E0 (cor (y.basL p wl'.heap.size) []) (y.args p) #[sl y.svL,.int .i64 y.hop,.int .i64 y.hops,sl (y.ptL p)]:=by
  refine z3r (h.sv.baseL (fun b x hb=>h.sigL hb) (fun hne=>?_)) (@VRel.int E0 _ _ _) (@VRel.int E0 _ _ _) ((h.pt p hp).baseL (fun b x hb=>h.sigL hb) (fun hne=>?_))
  ·rw [zbs (by show y.z<y.z+2;omega)]
   show zcl y.z (fun b=>if (y.σ b).isSome then some (b,0) else none) (zb7 y.svL y.sb) (zb7 (y.ptL p) (y.pb p)) y.z=_
   unfold zcl
   rw [if_neg (Nat.lt_irrefl _),if_pos rfl]
  ·rw [zbs (by show y.z+1<y.z+2;omega)]
   show zcl y.z (fun b=>if (y.σ b).isSome then some (b,0) else none) (zb7 y.svL y.sb) (zb7 (y.ptL p) (y.pb p)) (y.z+1)=_
   unfold zcl
   rw [if_neg (by omega),if_neg (by omega),if_pos rfl]
 have hfr:=@zfa E0 Lead.prog Lead.prog (y.basL p wl'.heap.size) F (cor (y.basL p wl'.heap.size) []) 15 rfl rfl _ _ hargs
 have hcs:=@zbl.base E0 Lead.prog (y.basL p wl'.heap.size) (cor (y.basL p wl'.heap.size) []) cs2
 refine To.lay (zcs wl' wb) ?_
 refine @z3x E0 Lead.prog Lead.prog (y.basL p wl'.heap.size) F (fun _=>rfl) cs2 hb hb1 Gl _ _ _ _ _ _ (zyr hTr) [] _ cs2 _ hW1 hfr hcs (fun xt fr2' cs2' w2' q1 q2 q3 q4=>?_)
 letI:Exts:=E0
 have ecs:cs2'=cs2:=zbl.door F q3
 subst ecs
 rw [List.nil_append] at q1 q2 q3
 have hlen:xt.length=nw2.length:=by
  have:=q1.size
  rw [hsize] at this
  have e:(y.basL p wl'.heap.size).N=y.z+2:=rfl
  omega
 have hseq:xt=List.range' wl'.heap.size nw2.length:=by
  have:=q4.seq
  rw [hlen] at this
  exact this
 obtain ⟨q15,r2,r3,r4,r5,r6,r7⟩:=hQ
 have v8:=q2.tmps.getD (@VRel.undef_ E0 (cor (y.basL p wl'.heap.size) xt)) 8
 have v9:=q2.tmps.getD (@VRel.undef_ E0 (cor (y.basL p wl'.heap.size) xt)) 9
 have v10:=q2.tmps.getD (@VRel.undef_ E0 (cor (y.basL p wl'.heap.size) xt)) 10
 have u8:@VRel E0 (cor (y.basL p wl'.heap.size) xt) (sl x) (fr2'.tmps.getD 8 undef):=by rw [← r5];exact v8
 have u9:@VRel E0 (cor (y.basL p wl'.heap.size) xt) (sl k) (fr2'.tmps.getD 9 undef):=by rw [← r6];exact v9
 have u10:@VRel E0 (cor (y.basL p wl'.heap.size) xt) (.int .i64 e) (fr2'.tmps.getD 10 undef):=by rw [← r7];exact v10
 obtain ⟨x1,e8⟩:=zga u8
 obtain ⟨k1,e9⟩:=zga u9
 have e10:=zfi u10
 rw [e8] at u8
 rw [e9] at u9
 have hd:fr2'.defers=[]:=by
  have:=q2.defers
  rw [r3] at this
  generalize fr2'.defers=l at this ⊢
  cases this
  rfl
 have hm:fr2'.mode=.returning:=by
  rcases q2.mode with ⟨h1,_⟩|⟨_,h2⟩
  ·rw [r2] at h1;cases h1
  ·exact h2
 refine K fr2' w2' x1 k1 x' k' e nw2 ⟨by rw [← q2.fn,q15],hm,hd,q2.kind.2,e8,e9,e10⟩ ?_ (fun b hb=>?_) ?_ hnod (fun q hq=>⟨hS q hq,hzc q (hS q hq)⟩) ha
 ·have:=q4.sz
  rw [hlen] at this
  exact this
 ·exact q4.stay b hb (fun hm=>by cases hm) (.inl rfl)
 ·refine ⟨wl'.heap.size,M,w2,x,k,?_,hNew,?_,hv,?_,hk⟩
  ·rw [← hseq]
   exact fun i q hq=>q1.new i q hq
  ·rw [← hseq];exact u8
  ·rw [← hseq];exact u9
end
end
end Go.Proofs.YtelgmbomkojmaaaDoor
