/- A pack: Za Zb Zc Zd Ze Zf. -/
import Derived.Calls
import Derived.Laws.Sem
namespace Go.Proofs.YtelgmbomkojmaaaDoor
set_option linter.all false
set_option maxRecDepth 100000
section
structure Bas where
 N:Nat
 M:Nat
 old:Nat→Option (Nat×Nat)
 cv:Bool
 was:Nat→Option Obj
 G:Nat
 bad:TypeId
 good:Nat→Bool
 code:Code→Prop
 tab:Array Value→Prop
class Exts where
 ext:FuncId→Bool
 stop:FuncId→Bool
 anyOk:Bool
 gapOk:Bool
open Exts (ext stop anyOk gapOk)
variable [Exts]
def cor (B:Bas)(nw:List Nat)(b:Nat): Option (Nat×Nat) :=
 if b<B.N then B.old b else (nw[b - B.N]?).map fun k=>(k,0)
theorem za1 {B:Bas}{nw xt:List Nat}{b:Nat}{x:Nat×Nat}(h:cor B nw b=some x): cor B (nw++xt) b=some x:=by
 unfold cor at h ⊢
 split at h
 ·rw [if_pos (by assumption)];exact h
 ·rw [if_neg (by assumption)]
  obtain ⟨k,hk,rfl⟩:=Option.map_eq_some_iff.1 h
  have hl:b - B.N<nw.length:=(List.getElem?_eq_some_iff.1 hk).1
  rw [List.getElem?_append_left hl,hk]
  rfl
def ARel (σ:Nat→Option (Nat×Nat))(a a':Addr): Prop:=a.spot=none∧∃ b' d,σ a.block=some (b',d)∧a'=⟨b',a.off+d,none⟩
inductive ziz (σ:Nat→Option (Nat×Nat)): Fn→Fn→Prop
 | func (f:FuncId) (hf:ext f=false) (hs:stop f=false):ziz σ (.func f) (.func f)
 | yield (l l':Nat) (h:σ l=some (l',0)):ziz σ (.yield l) (.yield l')
def oddV:Value→Bool
 | .int ..|.pointer _|.slice ..|.func ..|.nilFunc|.chan _=>true
 | _=>false
inductive VRel (σ:Nat→Option (Nat×Nat)): Value→Value→Prop
 | bool (b:Bool):VRel σ (.bool b) (.bool b)
 | int (k:IntKind) (n:Int):VRel σ (.int k n) (.int k n)
 | string (s:ByteArray):VRel σ (.string s) (.string s)
 | nilp:VRel σ (.pointer none) (.pointer none)
 | ptr (a a':Addr) (h:ARel σ a a'):VRel σ (.pointer (some a)) (.pointer (some a'))
 | nils (n c:Nat):VRel σ (.slice none n c) (.slice none n c)
 | slice (a a':Addr) (n c:Nat) (h:ARel σ a a'):VRel σ (.slice (some a) n c) (.slice (some a') n c)
 | nilFunc:VRel σ .nilFunc .nilFunc
 | nilIface:VRel σ .nilIface .nilIface
 | func (f f':Fn) (x x' c c':Array Value) (h:ziz σ f f') (hx:x.size=x'.size) (hc:c.size=c'.size)
   (ex:∀ (i:Nat) v v',x[i]?=some v→x'[i]?=some v'→VRel σ v v') (ec:∀ (i:Nat) v v',c[i]?=some v→c'[i]?=some v'→VRel σ v v'):VRel σ (.func f x c) (.func f' x' c')
 | iface (t:TypeId) (v v':Value) (h:VRel σ v v'):VRel σ (.iface t v) (.iface t v')
 | agg (c c':Array Value) (hc:c.size=c'.size) (ec:∀ (i:Nat) v v',c[i]?=some v→c'[i]?=some v'→VRel σ v v'):VRel σ (.agg c) (.agg c')
 | tuple (c c':Array Value) (hc:c.size=c'.size) (ec:∀ (i:Nat) v v',c[i]?=some v→c'[i]?=some v'→VRel σ v v'):VRel σ (.tuple c) (.tuple c')
 | any (v':Value) (h:oddV v'=true) (ha:anyOk=true):VRel σ (.tuple #[]) v'
 | gap (a':Addr) (hg:gapOk=true):VRel σ (.slice none 0 0) (.slice (some a') 0 0)
def RRel (σ:Nat→Option (Nat×Nat))(c c':Array Value): Prop:=c.size=c'.size∧∀ (i:Nat) v v',c[i]?=some v→c'[i]?=some v'→VRel σ v v'
section
variable {B:Bas} {nw xt:List Nat}
theorem ARel.up {a a':Addr}(h:ARel (cor B nw) a a'): ARel (cor B (nw++xt)) a a':=⟨h.1,let ⟨b',d,h1,h2⟩:=h.2;⟨b',d,za1 h1,h2⟩⟩
theorem ziz.up {f f':Fn}(h:ziz (cor B nw) f f'): ziz (cor B (nw++xt)) f f':=by
 cases h with
 | func f hf hs=>exact .func f hf hs
 | yield l l' h=>exact .yield l l' (za1 h)
theorem VRel.up {v v':Value}(h:VRel (cor B nw) v v'): VRel (cor B (nw++xt)) v v':=by
 induction h with
 | bool b=>exact .bool b
 | int k n=>exact .int k n
 | string s=>exact .string s
 | nilp=>exact .nilp
 | ptr a a' h=>exact .ptr a a' h.up
 | nils n c=>exact .nils n c
 | slice a a' n c h=>exact .slice a a' n c h.up
 | nilFunc=>exact .nilFunc
 | nilIface=>exact .nilIface
 | func f f' x x' c c' h hx hc ex ec ihx ihc=>exact .func f f' x x' c c' h.up hx hc ihx ihc
 | iface t v v' h ih=>exact .iface t v v' ih
 | agg c c' hc ec ih=>exact .agg c c' hc ih
 | tuple c c' hc ec ih=>exact .tuple c c' hc ih
 | any v' h ha=>exact .any v' h ha
 | gap a' h=>exact .gap a' h
theorem RRel.up {c c':Array Value}(h:RRel (cor B nw) c c'): RRel (cor B (nw++xt)) c c':=⟨h.1,fun i v v' h1 h2=>(h.2 i v v' h1 h2).up⟩
end
section
variable {σ:Nat→Option (Nat×Nat)}
theorem RRel.get {c c':Array Value}(h:RRel σ c c'){i:Nat}{v:Value}(hv:c[i]?=some v): ∃ v',c'[i]?=some v'∧VRel σ v v':=by
 have hi:i<c'.size:=by rw [← h.1];exact (Array.getElem?_eq_some_iff.1 hv).1
 exact ⟨c'[i],Array.getElem?_eq_getElem hi,h.2 i v _ hv (Array.getElem?_eq_getElem hi)⟩
theorem RRel.nil:RRel σ #[] #[]:=⟨rfl,fun i v v' h=>by simp at h⟩
theorem RRel.push {c c':Array Value}{x x':Value}(h:RRel σ c c')(hx:VRel σ x x'): RRel σ (c.push x) (c'.push x'):=by
 refine ⟨by simp [h.1],fun i v v' h1 h2=>?_⟩
 rw [Array.getElem?_push] at h1 h2
 rw [h.1] at h1
 split at h1
 ·rw [if_pos (by assumption)] at h2
  cases h1;cases h2;exact hx
 ·rw [if_neg (by assumption)] at h2
  exact h.2 i v v' h1 h2
theorem RRel.one {x x':Value}(hx:VRel σ x x'): RRel σ #[x] #[x']:=RRel.nil.push hx
theorem RRel.set {c c':Array Value}{x x':Value}(h:RRel σ c c')(hx:VRel σ x x')(j:Nat): RRel σ (c.setIfInBounds j x) (c'.setIfInBounds j x'):=by
 refine ⟨by simp [h.1],fun i v v' h1 h2=>?_⟩
 rw [Array.getElem?_setIfInBounds] at h1 h2
 rw [h.1] at h1
 split at h1
 ·rw [if_pos (by assumption)] at h2
  split at h1
  ·rw [if_pos (by assumption)] at h2;cases h1;cases h2;exact hx
  ·cases h1
 ·rw [if_neg (by assumption)] at h2
  exact h.2 i v v' h1 h2
theorem RRel.append {c c' e e':Array Value}(h:RRel σ c c')(h2:RRel σ e e'): RRel σ (c++e) (c'++e'):=by
 refine ⟨by simp [h.1,h2.1],fun i v v' h3 h4=>?_⟩
 rw [Array.getElem?_append] at h3 h4
 rw [h.1] at h3
 split at h3
 ·rw [if_pos (by assumption)] at h4;exact h.2 i v v' h3 h4
 ·rw [if_neg (by assumption)] at h4;exact h2.2 _ v v' h3 h4
theorem RRel.getD {c c':Array Value}(h:RRel σ c c'){x x':Value}(hx:VRel σ x x')(i:Nat): VRel σ (c.getD i x) (c'.getD i x'):=by
 by_cases hi:i<c.size
 ·have hi':i<c'.size:=by rw [← h.1];exact hi
  have:=h.2 i c[i] c'[i] (Array.getElem?_eq_getElem hi) (Array.getElem?_eq_getElem hi')
  simpa [Array.getD,hi,hi'] using this
 ·have hi':¬ i<c'.size:=by rw [← h.1];exact hi
  simpa [Array.getD,hi,hi'] using hx
theorem VRel.undef_:VRel σ (.tuple #[]) (.tuple #[]):=.tuple _ _ rfl (fun i v v' h=>by simp at h)
theorem VRel.cells {v v':Value}(h:VRel σ v v'): RRel σ v.cells v'.cells:=by
 cases h with
 | agg c c' hc ec=>exact ⟨hc,ec⟩
 | bool b=>exact RRel.one (.bool b)
 | int k n=>exact RRel.one (.int k n)
 | string s=>exact RRel.one (.string s)
 | nilp=>exact RRel.one .nilp
 | ptr a a' h=>exact RRel.one (.ptr a a' h)
 | nils n c=>exact RRel.one (.nils n c)
 | slice a a' n c h=>exact RRel.one (.slice a a' n c h)
 | nilFunc=>exact RRel.one .nilFunc
 | nilIface=>exact RRel.one .nilIface
 | func f f' x x' c c' h hx hc ex ec=>exact RRel.one (.func f f' x x' c c' h hx hc ex ec)
 | iface t v v' h=>exact RRel.one (.iface t v v' h)
 | tuple c c' hc ec=>exact RRel.one (.tuple c c' hc ec)
 | any v' h ha =>
   have:v'.cells=#[v']:=by cases v' <;> first|rfl|cases h
   rw [this]
   exact RRel.one (.any v' h ha)
 | gap a' h=>exact RRel.one (.gap a' h)
theorem ARel.add {a a':Addr}(h:ARel σ a a')(n:Nat): ARel σ (a.add n) (a'.add n):=by
 obtain ⟨h1,b',d,h2,rfl⟩:=h
 unfold Addr.add
 by_cases hn:n=0
 ·rw [if_pos hn,if_pos hn];exact ⟨h1,b',d,h2,rfl⟩
 ·rw [if_neg hn,if_neg hn]
  exact ⟨rfl,b',d,h2,by simp;omega⟩
end
structure LRel (B:Bas)(σ:Nat→Option (Nat×Nat))(l l':Loop): Prop where
 state:l.state=l'.state
 pending:l.pending=l'.pending
 fn:l.fn=l'.fn
 tmps:RRel σ l.tmps l'.tmps
 params:l.params=l'.params
 assign:l.assign=l'.assign
 body:l.body=l'.body
 defers:σ l.defers=some (l'.defers,0)
 okA:B.code l.assign
 okB:B.code l.body
 okP:∀ c,l.pending=some c→B.code c
 okF:ext l.fn=false
inductive NRel (B:Bas)(σ:Nat→Option (Nat×Nat)): Obj→Obj→Prop
 | cells (c c':Array Value) (e:TypeId) (fr:Nat×Nat) (h:RRel σ c c'):NRel B σ (.cells c e fr) (.cells c' e fr)
 | loop (l l':Loop) (h:LRel B σ l l'):NRel B σ (.loop l) (.loop l')
 | defNone:NRel B σ (.deferred none) (.deferred none)
 | defNil:NRel B σ (.deferred (some [])) (.deferred (some []))
 | number (a a':Addr) (l:Bool) (h:ARel σ a a'):NRel B σ (.number a l) (.number a' l)
def zl8:Obj→Bool
 | .cells ..|.loop _|.deferred _=>true
 | _=>false
inductive ORel (B:Bas)(σ:Nat→Option (Nat×Nat))(b b' d:Nat): Obj→Obj→Prop
 | cells (c c':Array Value) (e e':TypeId) (fr fr':Nat×Nat) (h0:fr.1=0) (h1:c.size≤fr.2) (hg:(B.good b=true∧b'=b∧d=0∧e=e'∧c.size=c'.size∧B.tab c)∨(B.good b=false∧B.G≤b∧e=B.bad))
   (h:∀ (i:Nat) v,c[i]?=some v→∃ v',c'[i+d]?=some v'∧VRel σ v v'):ORel B σ b b' d (.cells c e fr) (.cells c' e' fr')
 | dull (fr:Nat×Nat) (o':Obj) (hk:zl8 o'=true) (hg:B.good b=false∧B.G≤b) (hcv:B.cv=false):ORel B σ b b' d (.cells #[] B.bad fr) o'
 | num (a a':Addr) (l:Bool) (h:ARel σ a a') (hg:B.good b=false∧B.G≤b) (hcv:B.cv=false):ORel B σ b b' d (.number a l) (.number a' l)
structure WRel (B:Bas)(nw:List Nat)(w w':World): Prop where
 size:w.heap.size=B.N+nw.length
 msize:B.M≤w'.heap.size
 inNew:∀ k∈nw,B.M≤k∧k<w'.heap.size
 nodup:nw.Nodup
 lowOld:∀ b b' d,b<B.N→B.old b=some (b',d)→b'<B.M
 old:∀ b b' d,b<B.N→B.old b=some (b',d)→∃ o o',w.heap[b]?=some o∧w'.heap[b']?=some o'∧ORel B (cor B nw) b b' d o o'
 new:∀ i k,nw[i]?=some k→∃ o o',w.heap[B.N+i]?=some o∧w'.heap[k]?=some o'∧NRel B (cor B nw) o o'
 tape:∀ k q,w.tape (w.drawn+k) q=w'.tape (w'.drawn+k) q
 calm:B.cv=true→(∀ k,k<B.M→w'.heap[k]?=B.was k)∨∃ (b:Nat) (c:Array Value) (e:TypeId) (m:Nat),b<B.N∧w.heap[b]?=some (.cells c e (0,m))∧c.size<m
theorem LRel.up {B:Bas}{nw xt:List Nat}{l l':Loop}(h:LRel B (cor B nw) l l'): LRel B (cor B (nw++xt)) l l':=⟨h.state,h.pending,h.fn,h.tmps.up,h.params,h.assign,h.body,za1 h.defers,h.okA,h.okB,h.okP,h.okF⟩
theorem NRel.up {B:Bas}{nw xt:List Nat}{o o':Obj}(h:NRel B (cor B nw) o o'): NRel B (cor B (nw++xt)) o o':=by
 cases h with
 | cells c c' e fr h=>exact .cells c c' e fr h.up
 | loop l l' h=>exact .loop l l' h.up
 | defNone=>exact .defNone
 | defNil=>exact .defNil
 | number a a' l h=>exact .number a a' l h.up
theorem ORel.up {B:Bas}{nw xt:List Nat}{b b' d:Nat}{o o':Obj}(h:ORel B (cor B nw) b b' d o o'): ORel B (cor B (nw++xt)) b b' d o o':=by
 cases h with
 | cells c c' e e' fr fr' h0 h1 hg h=>exact .cells c c' e e' fr fr' h0 h1 hg (fun i v hv=>let ⟨v',h2,h3⟩:=h i v hv;⟨v',h2,h3.up⟩)
 | dull fr o' hk hg hcv=>exact .dull fr o' hk hg hcv
 | num a a' l h hg hcv=>exact .num a a' l h.up hg hcv
structure Kept (B:Bas)(nw xt:List Nat)(w w₁:World): Prop where
 os:w₁.os=w.os
 out:w₁.output=w.output
 tp:w₁.tape=w.tape
 sz:w₁.heap.size=w.heap.size+xt.length
 seq:xt=List.range' w.heap.size xt.length
 stay:∀ k,k<w.heap.size→k ∉ nw→(B.cv=false∨B.M≤k)→w₁.heap[k]?=w.heap[k]?
theorem Kept.rfl' {B:Bas}{nw:List Nat}{w:World}: Kept B nw [] w w:=⟨rfl,rfl,rfl,rfl,rfl,fun k h1 h2 h3=>rfl⟩
theorem Kept.fresh {B:Bas}{nw xt:List Nat}{w w₁:World}(h:Kept B nw xt w w₁): ∀ k∈xt,w.heap.size≤k:=fun k hk=>by
 rw [h.seq] at hk
 exact (List.mem_range'_1.1 hk).1
theorem Kept.trans {B:Bas}{nw e1 e2:List Nat}{w w1 w2:World}(h:Kept B nw e1 w w1)(h2:Kept B (nw++e1) e2 w1 w2): Kept B nw (e1++e2) w w2:=by
 refine ⟨h2.os.trans h.os,h2.out.trans h.out,h2.tp.trans h.tp,by rw [h2.sz,h.sz,List.length_append];omega,?_,fun k hk hn hL=>?_⟩
 ·rw [List.length_append,← List.range'_append_1,← h.seq,← h.sz,← h2.seq]
 ·have hk1:k<w1.heap.size:=by rw [h.sz];omega
  refine (h2.stay k hk1 (fun h3=>?_) hL).trans (h.stay k hk hn hL)
  rcases List.mem_append.1 h3 with h4|h4
  ·exact hn h4
  ·have:=h.fresh k h4;omega
def EvOk (B:Bas)(nw:List Nat)(e:Event): Prop :=
 match e.loc with
 | .cell a=>e.sync=false∧(e.write=true→a.block∈nw)∧∃ b d,cor B nw b=some (a.block,d)
 | .obj r=>e.sync=false∧(e.write=true→r∈nw)∧∃ b d,cor B nw b=some (r,d)
 | .mark .noRoom=>True
 | .mark (.extern _)=>True
 | _=>False
theorem EvOk.up {B:Bas}{nw xt:List Nat}{e:Event}(h:EvOk B nw e): EvOk B (nw++xt) e:=by
 obtain ⟨loc,wr,sy⟩:=e
 cases loc with
 | cell a=>obtain ⟨h1,h2,b,d,h3⟩:=h;exact ⟨h1,fun hw=>List.mem_append_left _ (h2 hw),b,d,za1 h3⟩
 | obj r=>obtain ⟨h1,h2,b,d,h3⟩:=h;exact ⟨h1,fun hw=>List.mem_append_left _ (h2 hw),b,d,za1 h3⟩
 | output=>exact h
 | goroutines=>exact h
 | mark m=>cases m <;> exact h
def HOk:Halt→Prop
 | .panic _|.stuck _=>True
 | .unsupported (.initOrder _)=>False
 | .unsupported _=>True
 | _=>False
def Tidy (w:World): Prop:=∀ (b:Nat) l,w.heap[b]?=some (.deferred (some l))→l=[]
def Fine {α:Type}: Result α→Prop
 | .ok _ w=>Tidy w
 | .halt h w=>HOk h∧Tidy w
def relay (w:World)(t:Tape): World:={ w with tape:=t }
def zno (a b:Nat)(t t':Tape): Prop:=∀ p q,a≤p→p<b→t p q=t' p q
def SimL {α:Type}(P:Program)(B:Bas)(nw:List Nat)(s:Sem α): Prop:=∀ (w w':World) (es:Array Event) a w1 e1,WRel B nw w w'→s.runT P w es=(.ok a w1,e1) →
 w.drawn≤w1.drawn∧w1.tape=w.tape∧∀ t',zno w.drawn w1.drawn w.tape t'→s.runT P (relay w t') es=(.ok a (relay w1 t'),e1)
def SimH {α:Type}(P:Program)(B:Bas)(nw:List Nat)(s:Sem α): Prop:=∀ (w w':World) (es:Array Event),WRel B nw w w'→Tidy w→Fine (s.runT P w es).1
def zyf {α β:Type}(P P':Program)(B:Bas)(nw:List Nat)(s:Sem α)(s':Sem β)(R:List Nat→α→β→Prop): Prop :=
 ∀ (w w':World) (es es':Array Event) a w1 e1,WRel B nw w w'→s.runT P w es=(.ok a w1,e1) →
  ∃ xt b w1' l,s'.runT P' w' es'=(.ok b w1',es'++l)∧WRel B (nw++xt) w1 w1'∧R (nw++xt) a b∧Kept B nw xt w' w1'∧∀ e∈l,EvOk B (nw++xt) e
def Sim {α β:Type}(P P':Program)(B:Bas)(nw:List Nat)(s:Sem α)(s':Sem β)(R:List Nat→α→β→Prop): Prop:=zyf P P' B nw s s' R∧SimH P B nw s∧SimL P B nw s
theorem zan {α β:Type}(P:Program)(s:Sem α)(k:α→Sem β)(w:World)(es:Array Event):
  (s.bind k).runT P w es=match s.runT P w es with
   | (.ok a w1,e1)=>(k a).runT P w1 e1
   | (.halt h w1,e1)=>(.halt h w1,e1):=by
 induction s generalizing w es with
 | pure a=>rfl
 | load m a f ih =>
   simp only [Sem.bind,Sem.runT]
   split
   ·exact ih _ _ _
   ·split
    ·exact ih _ _ _
    ·rfl
 | store m a v f ih =>
   cases v <;> simp only [Sem.bind,Sem.runT] <;> (try rfl) <;> split <;> (try split) <;> first|exact ih _ _|rfl
 | new o f ih=>exact ih _ _ _
 | shape r f ih=>exact ih _ _ _
 | freeze a n f ih=>exact ih _ _
 | frozen a f ih=>exact ih _ _ _
 | getObj r f ih =>
   simp only [Sem.bind,Sem.runT]
   split <;> first|exact ih _ _ _|rfl
 | setObj r o f ih =>
   simp only [Sem.bind,Sem.runT]
   split <;> first|exact ih _ _|rfl
 | choose q f ih =>
   simp only [Sem.bind,Sem.runT]
   split <;> exact ih _ _ _
 | sys c f ih=>exact ih _ _ _
 | program f ih=>exact ih _ _ _
 | mark m f ih=>exact ih _ _
 | halt h=>rfl
section
variable {α β γ δ:Type} {P P':Program} {B:Bas} {nw:List Nat}
theorem Sim.pure {a:α}{b:β}{R:List Nat→α→β→Prop}(h:R nw a b): Sim P P' B nw (Sem.pure a) (Sem.pure b) R:=by
 refine ⟨?_,fun w w' es hw ht=>ht,fun w w' es a w1 e1 hw hr=>by cases hr;exact ⟨Nat.le_refl _,rfl,fun t' _=>rfl⟩⟩
 intro w w' es es' a1 w1 e1 hw hr
 simp only [Sem.runT,Prod.mk.injEq,Result.ok.injEq] at hr
 obtain ⟨⟨rfl,rfl⟩,rfl⟩:=hr
 exact ⟨[],b,w',#[],by simp [Sem.runT],by simpa using hw,by simpa using h,.rfl',fun e he=>by simp at he⟩
theorem Sim.halt {h:Halt}{s':Sem β}{R:List Nat→α→β→Prop}(hh:HOk h:=by trivial): Sim P P' B nw (Sem.halt h) s' R:=by
 refine ⟨?_,fun w w' es hw ht=>⟨hh,ht⟩,fun w w' es a w1 e1 hw hr=>by cases hr⟩
 intro w w' es es' a1 w1 e1 hw hr
 simp [Sem.runT] at hr
theorem zyf.bind {s:Sem α}{s':Sem β}{k:α→Sem γ}{k':β→Sem δ}{R:List Nat→α→β→Prop}{R':List Nat→γ→δ→Prop}(h:zyf P P' B nw s s' R)(hk:∀ xt a b,R (nw++xt) a b→zyf P P' B (nw++xt) (k a) (k' b) R'): zyf P P' B nw (s.bind k) (s'.bind k') R':=by
 intro w w' es es' c w2 e2 hw hr
 rw [zan] at hr
 generalize hs:s.runT P w es=x at hr
 match x,hr with
 | (.ok a w1,e1),hr =>
   obtain ⟨x1,b,w1',l1,r1,hw1,hR,hk1,he1⟩:=h w w' es es' a w1 e1 hw hs
   obtain ⟨x2,d,w2',l2,r2,hw2,hR2,hk2,he2⟩:=hk x1 a b hR w1 w1' e1 (es'++l1) c w2 e2 hw1 hr
   refine ⟨x1++x2,d,w2',l1++l2,?_,by rw [← List.append_assoc];exact hw2,by rw [← List.append_assoc];exact hR2,hk1.trans hk2,fun e he=>?_⟩
   ·rw [zan,r1,← Array.append_assoc];exact r2
   ·rw [← List.append_assoc]
    rcases Array.mem_append.1 he with h3|h3
    ·exact (he1 e h3).up
    ·exact he2 e h3
theorem Sim.bind {s:Sem α}{s':Sem β}{k:α→Sem γ}{k':β→Sem δ}{R:List Nat→α→β→Prop}{R':List Nat→γ→δ→Prop}(h:Sim P P' B nw s s' R)(hk:∀ xt a b,R (nw++xt) a b→Sim P P' B (nw++xt) (k a) (k' b) R'): Sim P P' B nw (s.bind k) (s'.bind k') R':=by
 refine ⟨h.1.bind fun xt a b hR=>(hk xt a b hR).1,fun w w' es hw ht=>?_,fun w w' es c w2 e2 hw hr=>?_⟩
 ·rw [zan]
  have h1:=h.2.1 w w' es hw ht
  match hs:s.runT P w es with
  | (.ok a w1,e1) =>
    rw [hs] at h1
    obtain ⟨x1,b,w1',l1,r1,hw1,hR,_⟩:=h.1 w w' es #[] a w1 e1 hw hs
    exact (hk x1 a b hR).2.1 w1 w1' e1 hw1 h1
  | (.halt hh w1,e1) =>
    rw [hs] at h1
    exact h1
 ·rw [zan] at hr
  match hs:s.runT P w es with
  | (.ok a w1,e1) =>
    rw [hs] at hr
    obtain ⟨x1,b,w1',l1,r1,hw1,hR,_⟩:=h.1 w w' es #[] a w1 e1 hw hs
    obtain ⟨g1,g2,g3⟩:=h.2.2 w w' es a w1 e1 hw hs
    obtain ⟨k1,k2,k3⟩:=(hk x1 a b hR).2.2 w1 w1' e1 c w2 e2 hw1 hr
    refine ⟨Nat.le_trans g1 k1,k2.trans g2,fun t' ht=>?_⟩
    rw [zan,g3 t' fun p q hp hq=>ht p q hp (Nat.lt_of_lt_of_le hq k1)]
    exact k3 t' fun p q hp hq=>by rw [g2];exact ht p q (Nat.le_trans g1 hp) hq
  | (.halt hh w1,e1) =>
    rw [hs] at hr
    cases hr
theorem Sim.mono {s:Sem α}{s':Sem β}{R R':List Nat→α→β→Prop}(h:Sim P P' B nw s s' R)(hR:∀ xt a b,R (nw++xt) a b→R' (nw++xt) a b): Sim P P' B nw s s' R':=by
 refine ⟨?_,h.2⟩
 intro w w' es es' a w1 e1 hw hr
 obtain ⟨x,b,w1',l,r,hw1,hR1,hk,he⟩:=h.1 w w' es es' a w1 e1 hw hr
 exact ⟨x,b,w1',l,r,hw1,hR x a b hR1,hk,he⟩
theorem Sim.program {k:Program→Sem α}{k':Program→Sem β}{R:List Nat→α→β→Prop}(h:Sim P P' B nw (k P) (k' P') R): Sim P P' B nw (Sem.program k) (Sem.program k') R:=by
 refine ⟨?_,fun w w' es hw ht=>h.2.1 w w' es hw ht,fun w w' es a w1 e1 hw hr=>h.2.2 w w' es a w1 e1 hw hr⟩
 intro w w' es es' a w1 e1 hw hr
 exact h.1 w w' es es' a w1 e1 hw (by simpa [Sem.runT] using hr)
end
end
section
variable [Exts]
section
variable {B:Bas} {nw:List Nat} {w w':World}
theorem zbs {b:Nat}(h:b<B.N): cor B nw b=B.old b:=by unfold cor;rw [if_pos h]
theorem zcj {i:Nat}: cor B nw (B.N+i)=(nw[i]?).map fun k=>(k,0):=by
 unfold cor;rw [if_neg (by omega),Nat.add_sub_cancel_left]
theorem WRel.block (h:WRel B nw w w'){b b' d:Nat}(hc:cor B nw b=some (b',d)):
  ∃ o o',w.heap[b]?=some o∧w'.heap[b']?=some o'∧((b<B.N∧ORel B (cor B nw) b b' d o o')∨(∃ i,b=B.N+i∧d=0∧nw[i]?=some b'∧NRel B (cor B nw) o o')):=by
 by_cases hb:b<B.N
 ·rw [zbs hb] at hc
  obtain ⟨o,o',h1,h2,h3⟩:=h.old b b' d hb hc
  exact ⟨o,o',h1,h2,.inl ⟨hb,h3⟩⟩
 ·obtain ⟨i,rfl⟩:∃ i,b=B.N+i:=⟨b - B.N,by omega⟩
  rw [zcj] at hc
  obtain ⟨k,hk,he⟩:=Option.map_eq_some_iff.1 hc
  cases he
  obtain ⟨o,o',h1,h2,h3⟩:=h.new i b' hk
  exact ⟨o,o',h1,h2,.inr ⟨i,rfl,rfl,hk,h3⟩⟩
theorem zbn {b i:Nat}{c:Array Value}{e:TypeId}{fr:Nat×Nat}(h:w.heap[b]?=some (.cells c e fr)): w.cell? ⟨b,i,none⟩=c[i]?:=by simp [World.cell?,h]
theorem WRel.cell (h:WRel B nw w w'){a a':Addr}(ha:ARel (cor B nw) a a'){v:Value}(hv:w.cell? a=some v): ∃ v',w'.cell? a'=some v'∧VRel (cor B nw) v v':=by
 obtain ⟨b,o,sp⟩:=a
 obtain ⟨hsp,b',d,hc,rfl⟩:=ha
 simp only at hsp hc
 subst hsp
 obtain ⟨ob,ob',h1,h2,h3⟩:=h.block hc
 rcases h3 with ⟨_,h3⟩|⟨i,_,rfl,_,h3⟩
 ·cases h3 with
  | cells c c' e e' fr fr' h0 hs hg hcell =>
    rw [zbn h1] at hv
    obtain ⟨v',hv',hr⟩:=hcell o v hv
    exact ⟨v',by rw [zbn h2];exact hv',hr⟩
  | dull=>rw [zbn h1] at hv;simp at hv
  | num=>simp [World.cell?,h1] at hv
 ·cases h3 with
  | cells c c' e fr hcell =>
    rw [zbn h1] at hv
    obtain ⟨v',hv',hr⟩:=hcell.get hv
    exact ⟨v',by rw [zbn h2];exact hv',hr⟩
  | loop l l' hl=>simp [World.cell?,h1] at hv
  | defNone=>simp [World.cell?,h1] at hv
  | defNil=>simp [World.cell?,h1] at hv
  | number=>simp [World.cell?,h1] at hv
theorem WRel.noFar (h:WRel B nw w w'){a a':Addr}(ha:ARel (cor B nw) a a')(P:Program)(at_:Bool): ∃ e,w.farLoad P a at_=.error e∧HOk e:=by
 obtain ⟨b,o,sp⟩:=a
 obtain ⟨hsp,b',d,hc,rfl⟩:=ha
 obtain ⟨ob,ob',h1,h2,h3⟩:=h.block hc
 unfold World.farLoad
 simp only at h1
 rcases h3 with ⟨_,h3⟩|⟨i,_,rfl,_,h3⟩ <;> cases h3 <;> simp only [h1] <;> exact ⟨_,rfl,by unfold World.noCell;simp only [h1];trivial⟩
theorem WRel.noFarS (h:WRel B nw w w'){a a':Addr}(ha:ARel (cor B nw) a a')(P:Program)(v:Value)(at_:Bool): ∃ e,w.farStore P a v at_=.error e∧HOk e:=by
 obtain ⟨b,o,sp⟩:=a
 obtain ⟨hsp,b',d,hc,rfl⟩:=ha
 obtain ⟨ob,ob',h1,h2,h3⟩:=h.block hc
 unfold World.farStore
 simp only at h1
 rcases h3 with ⟨_,h3⟩|⟨i,_,rfl,_,h3⟩ <;> cases h3 <;> simp only [h1] <;> exact ⟨_,rfl,by unfold World.noCell;simp only [h1];trivial⟩
end
section
variable {α β:Type} {P P':Program} {B:Bas} {nw:List Nat}
theorem ARel.evRead {a a':Addr}(ha:ARel (cor B nw) a a'): EvOk B nw ⟨.cell a',false,false⟩:=by
 obtain ⟨_,b',d,hc,rfl⟩:=ha
 exact ⟨rfl,fun h=>(by cases h),a.block,d,hc⟩
theorem zrd {a a':Addr}(ha:ARel (cor B nw) a a'): Sim P P' B nw (load a) (load a') (fun n v v'=>VRel (cor B n) v v'):=by
 refine ⟨?_,fun w w' es hw ht=>?_,fun w w' es u w1 e1 hw hr=>?_⟩
 case refine_2 =>
  unfold load
  simp only [Sem.runT]
  cases hc:w.cell? a with
  | none =>
    obtain ⟨e,he,hh⟩:=hw.noFar ha P (Mode.plain == Mode.atomic)
    simp only [he]
    exact ⟨hh,ht⟩
  | some u=>exact ht
 case refine_3 =>
  unfold load at hr ⊢
  simp only [Sem.runT] at hr ⊢
  cases hc:w.cell? a with
  | none =>
    obtain ⟨e,he,hh⟩:=hw.noFar ha P (Mode.plain == Mode.atomic)
    rw [hc] at hr
    simp only [he] at hr
    cases hr
  | some v =>
    rw [hc] at hr
    cases hr
    refine ⟨Nat.le_refl _,rfl,fun t' _=>?_⟩
    rw [show (relay w t').cell? a=some u from hc]
 intro w w' es es' v w1 e1 hw hr
 unfold load at hr ⊢
 simp only [Sem.runT] at hr ⊢
 cases hc:w.cell? a with
 | none =>
   rw [hc] at hr
   obtain ⟨e,he,_⟩:=hw.noFar ha P (Mode.plain == Mode.atomic)
   simp only [he] at hr
   simp at hr
 | some u =>
   rw [hc] at hr
   simp only [Prod.mk.injEq,Result.ok.injEq] at hr
   obtain ⟨⟨rfl,rfl⟩,rfl⟩:=hr
   obtain ⟨u',hu',hR⟩:=hw.cell ha hc
   rw [hu']
   refine ⟨[],u',w',#[⟨.cell a',false,false⟩],by simp;rfl,by simpa using hw,by simpa using hR,.rfl',fun e he=>?_⟩
   simp at he
   subst he
   simpa using ha.evRead
theorem zb9 (w:World){b i:Nat}(v:Value){k:Nat}(h:b≠k): (w.setCell ⟨b,i,none⟩ v).heap[k]?=w.heap[k]?:=by
 simp [World.setCell,Array.getElem?_modify,h]
theorem zf5 (w:World){b i:Nat}(v:Value){c:Array Value}{e:TypeId}{f:Nat×Nat}(h:w.heap[b]?=some (.cells c e f)): (w.setCell ⟨b,i,none⟩ v).heap[b]?=some (.cells (c.setIfInBounds i v) e f):=by
 simp [World.setCell,Array.getElem?_modify,h]
theorem za8 (w:World){b i:Nat}(v:Value){o:Obj}(h:w.heap[b]?=some o)(hn:∀ c e f,o≠.cells c e f): (w.setCell ⟨b,i,none⟩ v).heap[b]?=some o:=by
 cases o <;> first|(exact absurd rfl (hn _ _ _))|simp [World.setCell,Array.getElem?_modify,h]
theorem zhe {l:List Nat}(h:l.Nodup){i j k:Nat}(hi:l[i]?=some k)(hj:l[j]?=some k): i=j:=by
 obtain ⟨h1,e1⟩:=List.getElem?_eq_some_iff.1 hi
 obtain ⟨h2,e2⟩:=List.getElem?_eq_some_iff.1 hj
 exact (List.getElem_inj h).1 (e1.trans e2.symm)
theorem WRel.store {w w':World}(hw:WRel B nw w w'){b o:Nat}{i k:Nat}(hb:b=B.N+i)(hk:nw[i]?=some k){v v':Value}(hv:VRel (cor B nw) v v'):
  WRel B nw (w.setCell ⟨b,o,none⟩ v) (w'.setCell ⟨k,o,none⟩ v'):=by
 subst hb
 have hkM:=(hw.inNew k (List.mem_of_getElem? hk)).1
 refine ⟨by simp [World.setCell];exact hw.size,by simp [World.setCell];exact hw.msize,fun x hx=>by simp [World.setCell];exact hw.inNew x hx,hw.nodup,hw.lowOld,fun b b' d hb hc=>?_,fun j x hx=>?_,hw.tape,fun hcv=>?_⟩
 ·obtain ⟨o1,o1',h1,h2,h3⟩:=hw.old b b' d hb hc
  have:=hw.lowOld b b' d hb hc
  refine ⟨o1,o1',?_,?_,h3⟩
  ·rw [zb9 _ _ (by omega)];exact h1
  ·rw [zb9 _ _ (by omega)];exact h2
 ·obtain ⟨o1,o1',h1,h2,h3⟩:=hw.new j x hx
  by_cases hj:i=j
  ·subst hj
   obtain rfl:k=x:=by rw [hk] at hx;cases hx;rfl
   cases h3 with
   | cells c c' e fr hr=>exact ⟨_,_,zf5 _ _ h1,zf5 _ _ h2,.cells _ _ e fr (hr.set hv o)⟩
   | loop l l' hl=>exact ⟨_,_,za8 _ _ h1 (by simp),za8 _ _ h2 (by simp),.loop l l' hl⟩
   | defNone=>exact ⟨_,_,za8 _ _ h1 (by simp),za8 _ _ h2 (by simp),.defNone⟩
   | defNil=>exact ⟨_,_,za8 _ _ h1 (by simp),za8 _ _ h2 (by simp),.defNil⟩
   | number a a' l h=>exact ⟨_,_,za8 _ _ h1 (by simp),za8 _ _ h2 (by simp),.number a a' l h⟩
  ·have hne:k≠x:=fun e=>hj (zhe hw.nodup hk (by rw [e];exact hx))
   refine ⟨o1,o1',?_,?_,h3⟩
   ·rw [zb9 _ _ (by omega)];exact h1
   ·rw [zb9 _ _ hne];exact h2
 ·rcases hw.calm hcv with h|⟨b,c,e,m,h1,h2,h3⟩
  ·exact .inl fun x hx=>by rw [zb9 _ _ (by omega)];exact h x hx
  ·exact .inr ⟨b,c,e,m,h1,by rw [zb9 _ _ (by omega)];exact h2,h3⟩
theorem zu9 {a a':Addr}{v v':Value}(ha:ARel (cor B nw) a a')(hv:VRel (cor B nw) v v'): Sim P P' B nw (store a v) (store a' v') (fun n _ _=>True):=by
 refine ⟨?_,fun w w' es hw ht=>?_,fun w w' es u w1 e1 hw hr=>?_⟩
 case refine_3 =>
  have e0:∀ (y:Value),(∀ c,y≠.agg c)→(∀ c,y≠.tuple c)→∀ (Q:Program) (W:World) (A:Addr) (E:Array Event),(Sem.store Mode.plain A y (.pure ())).runT Q W E=match W.cell? A with
    | some _=>if W.frozen? A then (.halt (.unsupported (.unsafePointer "a write to bytes that a string shares")) W,E) else (.ok () (W.setCell A y),E.push ⟨.cell A,true,false⟩)
    | none=>match W.farStore Q A y false with
      | .ok (w,touched)=>(.ok () w,E++touched.toArray.map (⟨.cell ·,true,false⟩))
      | .error h=>(.halt h W,E):=by
   intro y m1 m2 Q W A E
   cases y <;> first|(exact absurd rfl (m1 _))|(exact absurd rfl (m2 _))|rfl
  unfold store at hr ⊢
  by_cases n1:∃ c,v=.agg c
  ·obtain ⟨c,rfl⟩:=n1;cases hr
  by_cases n2:∃ c,v=.tuple c
  ·obtain ⟨c,rfl⟩:=n2;cases hr
  rw [e0 v (fun c e=>n1 ⟨c,e⟩) (fun c e=>n2 ⟨c,e⟩)] at hr
  cases hcl:w.cell? a with
  | none =>
    obtain ⟨e,he,hh⟩:=hw.noFarS ha P v false
    rw [hcl] at hr
    simp only [he] at hr
    cases hr
  | some y =>
    rw [hcl] at hr
    dsimp only [] at hr
    split at hr
    ·cases hr
    ·rename_i hfz
     cases hr
     refine ⟨Nat.le_refl _,rfl,fun t' _=>?_⟩
     rw [e0 v (fun c e=>n1 ⟨c,e⟩) (fun c e=>n2 ⟨c,e⟩),show (relay w t').cell? a=some y from hcl]
     dsimp only []
     rw [if_neg (show ¬ (relay w t').frozen? a=true from hfz)]
     rfl
 case refine_2 =>
  have e0:∀ (y:Value),(∀ c,y≠.agg c)→(∀ c,y≠.tuple c)→∀ (Q:Program) (W:World) (A:Addr) (E:Array Event),(Sem.store Mode.plain A y (.pure ())).runT Q W E=match W.cell? A with
    | some _=>if W.frozen? A then (.halt (.unsupported (.unsafePointer "a write to bytes that a string shares")) W,E) else (.ok () (W.setCell A y),E.push ⟨.cell A,true,false⟩)
    | none=>match W.farStore Q A y false with
      | .ok (w,touched)=>(.ok () w,E++touched.toArray.map (⟨.cell ·,true,false⟩))
      | .error h=>(.halt h W,E):=by
   intro y m1 m2 Q W A E
   cases y <;> first|(exact absurd rfl (m1 _))|(exact absurd rfl (m2 _))|rfl
  unfold store
  by_cases n1:∃ c,v=.agg c
  ·obtain ⟨c,rfl⟩:=n1;exact ⟨trivial,ht⟩
  by_cases n2:∃ c,v=.tuple c
  ·obtain ⟨c,rfl⟩:=n2;exact ⟨trivial,ht⟩
  rw [e0 v (fun c e=>n1 ⟨c,e⟩) (fun c e=>n2 ⟨c,e⟩)]
  cases hcl:w.cell? a with
  | none =>
    obtain ⟨e,he,hh⟩:=hw.noFarS ha P v false
    simp only [he]
    exact ⟨hh,ht⟩
  | some y =>
    dsimp only []
    split
    ·exact ⟨trivial,ht⟩
    ·intro b l hb
     simp only [World.setCell,Array.getElem?_modify] at hb
     split at hb
     ·obtain ⟨o,ho,e⟩:=Option.map_eq_some_iff.1 hb
      cases o <;> first|cases e|skip
      exact ht _ _ ho
     ·exact ht _ _ hb
 intro w w' es es' u w1 e1 hw hr
 obtain ⟨b,o,sp⟩:=a
 have ha':=ha
 obtain ⟨hsp,b',d,hc,rfl⟩:=ha
 simp only at hsp hc
 subst hsp
 have key:∀ (x x':Value),VRel (cor B nw) x x'→(∀ c,x≠.agg c)→(∀ c,x≠.tuple c)→(Sem.store Mode.plain ⟨b,o,none⟩ x (.pure ())).runT P w es=(.ok u w1,e1) →
   ∃ xt b1 w1' l,(Sem.store Mode.plain ⟨b',o+d,none⟩ x' (.pure ())).runT P' w' es'=(.ok b1 w1',es'++l)∧WRel B (nw++xt) w1 w1'∧True∧Kept B nw xt w' w1'∧∀ e∈l,EvOk B (nw++xt) e:=by
  intro x x' hx n1 n2 hr
  have e0:∀ (y:Value),(∀ c,y≠.agg c)→(∀ c,y≠.tuple c)→∀ (Q:Program) (W:World) (A:Addr) (E:Array Event),(Sem.store Mode.plain A y (.pure ())).runT Q W E=match W.cell? A with
    | some _=>if W.frozen? A then (.halt (.unsupported (.unsafePointer "a write to bytes that a string shares")) W,E) else (.ok () (W.setCell A y),E.push ⟨.cell A,true,false⟩)
    | none=>match W.farStore Q A y false with
      | .ok (w,touched)=>(.ok () w,E++touched.toArray.map (⟨.cell ·,true,false⟩))
      | .error h=>(.halt h W,E):=by
   intro y m1 m2 Q W A E
   cases y <;> first|(exact absurd rfl (m1 _))|(exact absurd rfl (m2 _))|rfl
  have n1':∀ c,x'≠.agg c:=fun c e=>by subst e;cases hx <;> first|exact n1 _ rfl|exact n2 _ rfl
  have n2':∀ c,x'≠.tuple c:=fun c e=>by subst e;cases hx <;> exact n2 _ rfl
  rw [e0 x n1 n2] at hr
  rw [e0 x' n1' n2']
  cases hcl:w.cell? ⟨b,o,none⟩ with
  | none =>
    rw [hcl] at hr
    obtain ⟨e,he,_⟩:=hw.noFarS ha' P x false
    simp only [he] at hr
    simp at hr
  | some y =>
    rw [hcl] at hr
    simp only at hr
    split at hr
    ·simp at hr
    rename_i hfz
    simp only [Prod.mk.injEq,Result.ok.injEq] at hr
    obtain ⟨⟨_,rfl⟩,rfl⟩:=hr
    obtain ⟨y',hy',_⟩:=hw.cell ha' hcl
    obtain ⟨ob,ob',h1,h2,h3⟩:=hw.block hc
    rcases h3 with ⟨hb,h3⟩|⟨i,hbi,rfl,hni,h3⟩
    ·exfalso
     cases h3 with
     | cells c c' e e' fr fr' h0 hs hg hcell =>
       rw [zbn h1] at hcl
       have hlt:=(Array.getElem?_eq_some_iff.1 hcl).1
       apply hfz
       obtain ⟨f1,f2⟩:=fr
       simp only at h0 hs
       simp [World.frozen?,h1,h0]
       omega
     | dull=>rw [zbn h1] at hcl;simp at hcl
     | num=>simp [World.cell?,h1] at hcl
    ·have hfz':w'.frozen? ⟨b',o,none⟩=false:=by
      cases h3 with
      | cells c c' e fr hr =>
        simp only [World.frozen?,h1] at hfz
        simp only [World.frozen?,h2]
        simpa using hfz
      | loop l l' hl=>simp [World.cell?,h1] at hcl
      | defNone=>simp [World.cell?,h1] at hcl
      | defNil=>simp [World.cell?,h1] at hcl
      | number=>simp [World.cell?,h1] at hcl
     rw [hy']
     simp only [hfz',Bool.false_eq_true,if_false,Nat.add_zero]
     refine ⟨[],(),w'.setCell ⟨b',o,none⟩ x',#[⟨.cell ⟨b',o,none⟩,true,false⟩],by simp,?_,trivial,?_,fun e he=>?_⟩
     ·rw [List.append_nil];exact hw.store hbi hni hx
     ·refine ⟨rfl,rfl,rfl,by simp [World.setCell],rfl,fun k hk hn _=>?_⟩
      exact zb9 _ _ (fun e=>hn (by rw [← e];exact List.mem_of_getElem? hni))
     ·simp at he
      subst he
      refine ⟨rfl,fun _=>by rw [List.append_nil];exact List.mem_of_getElem? hni,b,0,by rw [List.append_nil];exact hc⟩
 unfold store at hr ⊢
 by_cases n1:∃ c,v=.agg c
 ·obtain ⟨c,rfl⟩:=n1;simp [Sem.runT] at hr
 by_cases n2:∃ c,v=.tuple c
 ·obtain ⟨c,rfl⟩:=n2;simp [Sem.runT] at hr
 exact key v v' hv (fun c e=>n1 ⟨c,e⟩) (fun c e=>n2 ⟨c,e⟩) hr
theorem zms {o o':Obj}(h:∀ k,NRel B (cor B (nw++[k])) o o'): Sim P P' B nw (newObj o) (newObj o') (fun n r r'=>cor B n r=some (r',0)):=by
 refine ⟨?_,fun w w' es hw ht=>?_,fun w w' es u w1 e1 hw hr=>by cases hr;exact ⟨Nat.le_refl _,rfl,fun t' _=>rfl⟩⟩
 case refine_2 =>
  intro b l hb
  simp only [newObj,Sem.runT] at hb
  rw [Array.getElem?_push] at hb
  split at hb
  ·cases hb
   have:=h 0
   cases this
   rfl
  ·exact ht _ _ hb
 intro w w' es es' r w1 e1 hw hr
 unfold newObj at hr ⊢
 simp only [Sem.runT,Prod.mk.injEq,Result.ok.injEq] at hr ⊢
 obtain ⟨⟨rfl,rfl⟩,rfl⟩:=hr
 have hcor:cor B (nw++[w'.heap.size]) w.heap.size=some (w'.heap.size,0):=by
  rw [hw.size,zcj];simp
 refine ⟨[w'.heap.size],w'.heap.size,_,#[],⟨⟨rfl,rfl⟩,by simp⟩,?_,hcor,?_,fun e he=>by simp at he⟩
 ·refine ⟨by simp [hw.size];omega,by simp;have:=hw.msize;omega,fun k hk=>?_,?_,hw.lowOld,fun b b' d hb hc=>?_,fun i k hk=>?_,hw.tape,fun hcv=>?_⟩
  ·simp
   rcases List.mem_append.1 hk with h1|h1
   ·have:=hw.inNew k h1;exact ⟨this.1,by omega⟩
   ·simp at h1;subst h1;exact ⟨hw.msize,by omega⟩
  ·rw [List.nodup_append]
   refine ⟨hw.nodup,by simp,fun x hx y hy=>?_⟩
   simp at hy
   subst hy
   have:=(hw.inNew x hx).2
   omega
  ·obtain ⟨o1,o1',h1,h2,h3⟩:=hw.old b b' d hb hc
   have l1:=(Array.getElem?_eq_some_iff.1 h1).1
   have l2:=(Array.getElem?_eq_some_iff.1 h2).1
   refine ⟨o1,o1',?_,?_,h3.up⟩
   ·rw [Array.getElem?_push,if_neg (by omega)];exact h1
   ·rw [Array.getElem?_push,if_neg (by omega)];exact h2
  ·rw [List.getElem?_append] at hk
   split at hk
   ·obtain ⟨o1,o1',h1,h2,h3⟩:=hw.new i k hk
    have l1:=(Array.getElem?_eq_some_iff.1 h1).1
    have l2:=(Array.getElem?_eq_some_iff.1 h2).1
    refine ⟨o1,o1',?_,?_,h3.up⟩
    ·rw [Array.getElem?_push,if_neg (by omega)];exact h1
    ·rw [Array.getElem?_push,if_neg (by omega)];exact h2
   ·rename_i hge
    have hi:i=nw.length:=by
     rcases Nat.lt_or_ge (i - nw.length) 1 with h1|h1
     ·omega
     ·rw [List.getElem?_eq_none (by simpa using h1)] at hk;cases hk
    subst hi
    simp at hk
    subst hk
    refine ⟨o,o',?_,?_,h _⟩
    ·rw [Array.getElem?_push,if_pos hw.size.symm]
    ·rw [Array.getElem?_push,if_pos rfl]
  ·rcases hw.calm hcv with h1|⟨b,c,e,m,h1,h2,h3⟩
   ·refine .inl fun x hx=>?_
    have:=hw.msize
    rw [Array.getElem?_push,if_neg (by omega)];exact h1 x hx
   ·have l1:=(Array.getElem?_eq_some_iff.1 h2).1
    exact .inr ⟨b,c,e,m,h1,by rw [Array.getElem?_push,if_neg (by omega)];exact h2,h3⟩
 ·refine ⟨rfl,rfl,rfl,by simp,rfl,fun k hk hn _=>?_⟩
  rw [Array.getElem?_push,if_neg (by omega)]
theorem zcb (q:Question): Sim P P' B nw (choose q) (choose q) (fun _ n n'=>n=n'):=by
 refine ⟨?_,fun w w' es hw ht=>?_,fun w w' es u w1 e1 hw hr=>?_⟩
 case refine_3 =>
  unfold choose at hr ⊢
  simp only [Sem.runT] at hr ⊢
  split at hr
  ·rename_i hf
   cases hr
   exact ⟨Nat.le_refl _,rfl,fun t' _=>by rw [if_pos hf]⟩
  ·rename_i hf
   cases hr
   refine ⟨Nat.le_succ _,rfl,fun t' ht=>?_⟩
   rw [if_neg hf]
   have e:(relay w t').tape (relay w t').drawn q=w.tape w.drawn q:=(ht _ _ (Nat.le_refl _) (Nat.lt_succ_self _)).symm
   rw [e]
   rfl
 case refine_2 =>
  unfold choose
  simp only [Sem.runT]
  split <;> exact ht
 intro w w' es es' r w1 e1 hw hr
 unfold choose at hr ⊢
 simp only [Sem.runT] at hr ⊢
 by_cases hf:q.forced=true
 ·rw [if_pos hf] at hr
  rw [if_pos hf]
  simp only [Prod.mk.injEq,Result.ok.injEq] at hr
  obtain ⟨⟨rfl,rfl⟩,rfl⟩:=hr
  exact ⟨[],0,w',#[],by simp,by simpa using hw,rfl,.rfl',fun e he=>by simp at he⟩
 ·rw [if_neg hf] at hr
  rw [if_neg hf]
  simp only [Prod.mk.injEq,Result.ok.injEq] at hr
  obtain ⟨⟨rfl,rfl⟩,rfl⟩:=hr
  have ht:w.tape w.drawn q=w'.tape w'.drawn q:=by simpa using hw.tape 0 q
  refine ⟨[],q.cut (w'.tape w'.drawn q),{ w' with drawn:=w'.drawn+1 },#[],by simp,?_,by rw [ht],⟨rfl,rfl,rfl,rfl,rfl,fun k _ _ _=>rfl⟩,fun e he=>by simp at he⟩
  rw [List.append_nil]
  exact ⟨hw.size,hw.msize,hw.inNew,hw.nodup,hw.lowOld,hw.old,hw.new,fun k q=>by
   have:=hw.tape (1+k) q
   simpa only [Nat.add_assoc] using this,hw.calm⟩
theorem zsu:Sim P P' B nw (mark .noRoom) (mark .noRoom) (fun _ _ _=>True):=by
 refine ⟨?_,fun w w' es hw ht=>ht,fun w w' es u w1 e1 hw hr=>by cases hr;exact ⟨Nat.le_refl _,rfl,fun t' _=>rfl⟩⟩
 intro w w' es es' r w1 e1 hw hr
 unfold mark at hr ⊢
 simp only [Sem.runT,Prod.mk.injEq,Result.ok.injEq] at hr ⊢
 obtain ⟨⟨_,rfl⟩,rfl⟩:=hr
 exact ⟨[],(),w',#[⟨.mark .noRoom,false,true⟩],by simp,by simpa using hw,trivial,.rfl',fun e he=>by simp at he;subst he;trivial⟩
end
end
section
variable [Exts]
structure zbt (P P':Program): Prop where
 tab:P.toTables=P'.toTables
 fn:∀ f:FuncId,(P.funcs[f]?).map (fun x=>(x.name,x.body.isSome,x.results,x.ntmps,x.norace))=(P'.funcs[f]?).map (fun x=>(x.name,x.body.isSome,x.results,x.ntmps,x.norace))
theorem zbt.rfl' (P:Program): zbt P P:=⟨rfl,fun f=>rfl⟩
def Flat (v:Value): Prop:=∀ σ,VRel σ v v
def zfw (P:Program)(t:TypeId): Prop:=∀ i v,P.info? t=some i→i.zero=some v→Flat v
def zic (P:Program)(t:TypeId): Prop:=∀ e,P.underlying t=some (.slice e)→zfw P e
def z23:Value→Bool
 | .bool _|.int ..|.string _|.pointer none|.slice none _ _|.nilFunc|.nilIface=>true
 | _=>false
theorem ztw {v:Value}(h:z23 v=true): Flat v:=by
 intro σ
 unfold z23 at h
 split at h <;> first
  | (cases h;done)
  | exact .bool _
  | exact .int _ _
  | exact .string _
  | exact .nilp
  | exact .nils _ _
  | exact .nilFunc
  | exact .nilIface
def z0i:Nat→Value→Bool
 | 0,_=>false
 | n+1,.agg c=>c.toList.all (z0i n)
 | _+1,v=>z23 v
theorem zl7:∀ (n:Nat) (v:Value),z0i n v=true→Flat v
 | 0,_,h=>by cases h
 | n+1,v,h=>by
   cases v with
   | agg c =>
     intro σ
     refine VRel.agg c c rfl fun i v v' h1 h2=>?_
     rw [h1] at h2
     cases h2
     have h:c.toList.all (z0i n)=true:=h
     exact zl7 n v (List.all_eq_true.1 h v (by simpa using Array.mem_of_getElem? h1)) σ
   | _=>exact ztw h
def znp (P:Program)(t:TypeId): Bool:=match P.info? t with
 | some i=>(match i.zero with|some v=>z0i 5 v|none=>true)
 | none=>true
def zoz (P:Program)(t:TypeId): Bool:=match P.underlying t with
 | some (.slice e)=>znp P e
 | _=>true
theorem zpb {P:Program}{t:TypeId}(h:znp P t=true): zfw P t:=fun i v hi hz=>by
 unfold znp at h
 rw [hi] at h
 dsimp only at h
 rw [hz] at h
 exact zl7 5 v h
theorem zqu {P:Program}{t:TypeId}(h:zoz P t=true): zic P t:=fun e he=>by
 unfold zoz at h
 rw [he] at h
 exact zpb h
section
variable {P P':Program}
theorem zbt.info (A:zbt P P')(t:TypeId): P'.info? t=P.info? t:=by
 have:=A.tab
 obtain ⟨T,F⟩:=P
 obtain ⟨T',F'⟩:=P'
 simp only at this
 subst this
 rfl
theorem zbt.under (A:zbt P P')(t:TypeId): P'.underlying t=P.underlying t:=by
 have:=A.tab
 obtain ⟨T,F⟩:=P
 obtain ⟨T',F'⟩:=P'
 simp only at this
 subst this
 rfl
end
section
variable {α β γ δ:Type} {P P':Program} {B:Bas} {nw:List Nat}
theorem Sim.bind_ {s:Sem α}{s':Sem β}{k:α→Sem γ}{k':β→Sem δ}{R:List Nat→α→β→Prop}{R':List Nat→γ→δ→Prop}(h:Sim P P' B nw s s' R)(hk:∀ xt a b,R (nw++xt) a b→Sim P P' B (nw++xt) (k a) (k' b) R'): Sim P P' B nw (s >>= k) (s' >>= k') R':=Sim.bind h hk
theorem Sim.pure_ {a:α}{b:β}{R:List Nat→α→β→Prop}(h:R nw a b): Sim P P' B nw (Pure.pure a:Sem α) (Pure.pure b:Sem β) R:=Sim.pure h
def Mild (s:Sem α): Prop:=∀ P w es,Tidy w→Fine (s.runT P w es).1
theorem Mild.pure (a:α): Mild (Pure.pure a:Sem α):=fun P w es ht=>ht
theorem Mild.halt (h:Halt)(hh:HOk h:=by trivial): Mild (Sem.halt h:Sem α):=fun P w es ht=>⟨hh,ht⟩
theorem Mild.bind {s:Sem α}{k:α→Sem β}(h:Mild s)(hk:∀ a,Mild (k a)): Mild (s >>= k):=fun P w es ht=>by
 change Fine ((s.bind k).runT P w es).1
 rw [zan]
 have h1:=h P w es ht
 match hs:s.runT P w es with
 | (.ok a w1,e1)=>rw [hs] at h1;exact hk a P w1 e1 h1
 | (.halt hh w1,e1)=>rw [hs] at h1;exact h1
theorem zdm:Mild program:=fun P w es ht=>ht
theorem zbx (q:Question): Mild (choose q):=fun P w es ht=>by
 unfold choose
 simp only [Sem.runT]
 split <;> exact ht
theorem zqe (e:TypeId)(c:Array Value): Mild (newRow e c):=fun P w es ht=>by
 intro b l hb
 change (w.heap.push (.cells c e))[b]?=_ at hb
 rw [Array.getElem?_push] at hb
 split at hb
 ·cases hb
 ·exact ht _ _ hb
def zaj (s:Sem α): Prop:=∀ P w es,∃ h w1 e1,s.runT P w es=(.halt h w1,e1)∧(Tidy w→HOk h∧Tidy w1)
theorem Sim.never {s:Sem α}{s':Sem β}{R:List Nat→α→β→Prop}(h:zaj s): Sim P P' B nw s s' R:=by
 refine ⟨fun w w' es es' a w1 e1 _ hr=>?_,fun w w' es hw ht=>?_,fun w w' es a w1 e1 _ hr=>?_⟩
 case refine_3 =>
  obtain ⟨h,w2,e2,e,_⟩:=h P w es
  rw [e] at hr
  cases hr
 ·obtain ⟨h,w2,e2,e,_⟩:=h P w es
  rw [e] at hr
  simp at hr
 ·obtain ⟨h,w2,e2,e,hh⟩:=h P w es
  rw [e]
  exact hh ht
theorem zaj.halt (h:Halt)(hh:HOk h:=by trivial): zaj (Sem.halt h:Sem α):=fun P w es=>⟨h,w,es,rfl,fun ht=>⟨hh,ht⟩⟩
theorem zaj.bind {s:Sem α}{k:α→Sem β}(hm:Mild s)(h:∀ a,zaj (k a)): zaj (s >>= k):=fun P w es=>by
 change ∃ h w1 e1,(s.bind k).runT P w es=(.halt h w1,e1)∧_
 rw [zan]
 have h1:=hm P w es
 match hs:s.runT P w es with
 | (.ok a w1,e1) =>
   rw [hs] at h1
   obtain ⟨hh,w2,e2,e,hq⟩:=h a P w1 e1
   exact ⟨hh,w2,e2,e,fun ht=>hq (h1 ht)⟩
 | (.halt hh w1,e1) =>
   rw [hs] at h1
   exact ⟨hh,w1,e1,rfl,h1⟩
theorem zaj.bind1 {s:Sem α}{k:α→Sem β}(h:zaj s): zaj (s >>= k):=fun P w es=>by
 change ∃ h w1 e1,(s.bind k).runT P w es=(.halt h w1,e1)∧_
 rw [zan]
 obtain ⟨hh,w2,e2,e,hq⟩:=h P w es
 rw [e]
 exact ⟨hh,w2,e2,rfl,hq⟩
theorem zqg (t:TypeId): Mild (elemOf t):=by
 unfold elemOf underlying
 refine Mild.bind (Mild.bind zdm fun p=>?_) fun d=>?_
 ·cases p.underlying t with
  | none=>exact Mild.halt _
  | some d=>exact Mild.pure _
 ·cases d <;> first|exact Mild.pure _|exact Mild.halt _
theorem zac (e:RuntimeError): zaj (runtimePanic e:Sem α):=by
 unfold runtimePanic
 refine zaj.bind zdm fun p=>?_
 cases e <;> simp only <;> first
  | exact zaj.halt _
  | (exact zaj.bind (zqg _) fun _=>zaj.bind (zqe _ _) fun _=>zaj.halt _)
theorem zd1 (k:IntKind)(x y:Int)(c:BoundsCode): zaj (boundsPanic k x y c:Sem α):=by
 unfold boundsPanic
 simp only []
 split
 ·rw [map_eq_pure_bind]
  exact zaj.bind (Mild.bind (zbx _) fun _=>Mild.pure _) fun _=>zac _
 ·exact zaj.bind (Mild.pure _) fun _=>zac _
theorem Sim.rtPanic {e:RuntimeError}{s':Sem β}{R:List Nat→α→β→Prop}: Sim P P' B nw (runtimePanic e:Sem α) s' R:=Sim.never (zac e)
theorem Sim.bdPanic {k:IntKind}{x y:Int}{c:BoundsCode}{s':Sem β}{R:List Nat→α→β→Prop}: Sim P P' B nw (boundsPanic k x y c:Sem α) s' R:=Sim.never (zd1 k x y c)
theorem zct:Sim P P' B nw program program (fun _ p p'=>p=P∧p'=P'):=by
 unfold program
 exact Sim.program (Sim.pure ⟨rfl,rfl⟩)
theorem zae (A:zbt P P')(t:TypeId): Sim P P' B nw (underlying t) (underlying t) (fun _ d d'=>d=d'∧P.underlying t=some d):=by
 unfold underlying
 refine Sim.bind_ zct fun xt p p' h=>?_
 obtain ⟨rfl,rfl⟩:=h
 rw [A.under]
 cases h:p.underlying t with
 | none=>exact Sim.halt
 | some d=>exact Sim.pure_ ⟨rfl,rfl⟩
theorem zai (A:zbt P P')(t:TypeId): Sim P P' B nw (typeInfo t) (typeInfo t) (fun _ d d'=>d=d'∧P.info? t=some d):=by
 unfold typeInfo
 refine Sim.bind_ zct fun xt p p' h=>?_
 obtain ⟨rfl,rfl⟩:=h
 rw [A.info]
 cases h:p.info? t with
 | none=>exact Sim.halt
 | some d=>exact Sim.pure_ ⟨rfl,rfl⟩
theorem zav (A:zbt P P')(t:TypeId)(Z:zfw P t): Sim P P' B nw (zeroValue t) (zeroValue t) (fun _ d d'=>d=d'∧Flat d):=by
 unfold zeroValue
 refine Sim.bind_ (zai A t) fun xt i i' h=>?_
 obtain ⟨rfl,h⟩:=h
 cases hz:i.zero with
 | none=>exact Sim.halt
 | some v=>exact Sim.pure_ ⟨rfl,Z i v h hz⟩
theorem zau (A:zbt P P')(t:TypeId): Sim P P' B nw (sizeOf t) (sizeOf t) (fun _ d d'=>d=d'∧∃ i,P.info? t=some i∧d=i.size):=by
 unfold sizeOf
 refine Sim.bind_ (zai A t) fun xt i i' h=>?_
 obtain ⟨rfl,h⟩:=h
 exact Sim.pure_ ⟨rfl,i,h,rfl⟩
theorem zn1 (A:zbt P P')(t:TypeId): Sim P P' B nw (isAgg t) (isAgg t) (fun _ d d'=>d=d'):=by
 unfold isAgg
 refine Sim.bind_ (zae A t) fun xt i i' h=>?_
 obtain ⟨rfl,h⟩:=h
 cases i <;> exact Sim.pure_ rfl
theorem zij {a a':Addr}(ha:ARel (cor B nw) a a'): ∀ (n i:Nat) (acc acc':Array Value),RRel (cor B nw) acc acc' →
  Sim P P' B nw (loadCellsFrom a i n acc) (loadCellsFrom a' i n acc') (fun m c c'=>RRel (cor B m) c c'∧c.size=acc.size+n):=by
 intro n
 induction n generalizing nw with
 | zero=>intro i acc acc' h;exact Sim.pure_ ⟨h,rfl⟩
 | succ n ih =>
   intro i acc acc' h
   unfold loadCellsFrom
   refine Sim.bind_ (zrd (ha.add i)) fun xt v v' hv=>?_
   refine (ih ha.up (i+1) (acc.push v) (acc'.push v') (h.up.push hv)).mono fun xt2 c c' ⟨h1,h2⟩=>⟨h1,by rw [h2];simp;omega⟩
theorem zeh {a a':Addr}(ha:ARel (cor B nw) a a')(n:Nat): Sim P P' B nw (loadCells a n) (loadCells a' n) (fun m c c'=>RRel (cor B m) c c'∧c.size=n):=by
 unfold loadCells
 exact (zij ha n 0 #[] #[] RRel.nil).mono fun xt c c' ⟨h1,h2⟩=>⟨h1,by simpa using h2⟩
inductive LRl (σ:Nat→Option (Nat×Nat)): List Value→List Value→Prop
 | nil:LRl σ [] []
 | cons {v v':Value} {l l':List Value} (h:VRel σ v v') (t:LRl σ l l'):LRl σ (v :: l) (v' :: l')
theorem LRl.up {xt:List Nat}{l l':List Value}(h:LRl (cor B nw) l l'): LRl (cor B (nw++xt)) l l':=by
 induction h with
 | nil=>exact .nil
 | cons h t ih=>exact .cons h.up ih
theorem z1d {σ:Nat→Option (Nat×Nat)}: ∀ {l l':List Value},l.length=l'.length→(∀ (i:Nat) v v',l[i]?=some v→l'[i]?=some v'→VRel σ v v')→LRl σ l l'
 | [],[],_,_=>.nil
 | v :: l,v' :: l',hl,h=>.cons (h 0 v v' rfl rfl) (z1d (by simpa using hl) fun i x x' h1 h2=>h (i+1) x x' (by simpa using h1) (by simpa using h2))
 | [],_ :: _,hl,_=>by simp at hl
 | _ :: _,[],hl,_=>by simp at hl
theorem RRel.list {σ:Nat→Option (Nat×Nat)}{c c':Array Value}(h:RRel σ c c'): LRl σ c.toList c'.toList :=
 z1d (by simpa using h.1) fun i v v' h1 h2=>h.2 i v v' (by simpa using h1) (by simpa using h2)
theorem LRl.arr {σ:Nat→Option (Nat×Nat)}{l l':List Value}(h:LRl σ l l'): RRel σ l.toArray l'.toArray:=by
 induction h with
 | nil=>exact RRel.nil
 | cons h t ih =>
   have:=(RRel.one h).append ih
   simpa using this
theorem zb2 {a a':Addr}(ha:ARel (cor B nw) a a'){l l':List Value}(h:LRl (cor B nw) l l'): ∀ i,Sim P P' B nw (storeCells a l i) (storeCells a' l' i) (fun _ _ _=>True):=by
 have:∀ (nw:List Nat),ARel (cor B nw) a a'→LRl (cor B nw) l l'→∀ i,Sim P P' B nw (storeCells a l i) (storeCells a' l' i) (fun _ _ _=>True):=by
  clear h ha
  induction l generalizing l' with
  | nil=>intro nw ha h i;cases h;unfold storeCells;exact Sim.pure_ trivial
  | cons v l ih =>
    intro nw ha h i
    cases h with
    | cons hv ht =>
      unfold storeCells
      exact Sim.bind_ (zu9 (ha.add i) hv) fun xt _ _ _=>ih _ ha.up ht.up (i+1)
 exact this nw ha h
theorem zj4 (A:zbt P P'){a a':Addr}(ha:ARel (cor B nw) a a')(t:TypeId): Sim P P' B nw (loadVar t a) (loadVar t a') (fun m v v'=>VRel (cor B m) v v'):=by
 unfold loadVar
 refine Sim.bind_ (zn1 A t) fun xt b b' h=>?_
 subst h
 cases b
 ·simp only [Bool.false_eq_true,if_false];exact zrd ha.up
 ·simp only [if_true]
  refine Sim.bind_ (zau A t) fun xt n n' h=>?_
  obtain ⟨rfl,_⟩:=h
  refine Sim.bind_ (zeh (by rw [List.append_assoc];exact ha.up) n) fun xt c c' h=>?_
  exact Sim.pure_ (.agg c c' h.1.1 h.1.2)
theorem znx (A:zbt P P'){a a':Addr}(ha:ARel (cor B nw) a a'){v v':Value}(hv:VRel (cor B nw) v v')(t:TypeId): Sim P P' B nw (storeVar t a v) (storeVar t a' v') (fun _ _ _=>True):=by
 unfold storeVar
 refine Sim.bind_ (zau A t) fun xt n n' h=>?_
 obtain ⟨rfl,_⟩:=h
 have hc:=hv.cells
 by_cases hn:v.cells.size=n
 ·have hn':v'.cells.size=n:=by rw [← hc.1];exact hn
  rw [if_neg (by simpa using hn),if_neg (by simpa using hn')]
  exact zb2 ha.up hc.list.up 0
 ·rw [if_pos (by simpa using hn)]
  exact Sim.never (zaj.bind1 (zaj.halt _))
theorem zby {c c':Array Value}(h:RRel (cor B nw) c c')(e:TypeId): Sim P P' B nw (newRow e c) (newRow e c') (fun m a a'=>ARel (cor B m) a a'):=by
 unfold newRow
 refine Sim.bind_ (zms (o:=.cells c e) (o':=.cells c' e) fun k=>.cells c c' e (0,0) h.up) fun xt r r' hr=>?_
 exact Sim.pure_ ⟨rfl,r',0,hr,rfl⟩
theorem zlr {v v':Value}(h:VRel (cor B nw) v v')(e:TypeId): Sim P P' B nw (newVar e v) (newVar e v') (fun m a a'=>ARel (cor B m) a a'):=zby h.cells e
theorem zve (A:zbt P P')(e:TypeId)(Z:zfw P e): Sim P P' B nw (Instr.alloc e true (.tuple #[])) (Instr.alloc e true (.tuple #[])) (fun m v v'=>VRel (cor B m) v v'):=by
 unfold Instr.alloc
 refine Sim.bind_ (zav A e Z) fun xt z z' h=>?_
 obtain ⟨rfl,hz⟩:=h
 refine Sim.bind_ (zlr (hz _) e) fun xt a a' ha=>?_
 exact Sim.pure_ (.ptr a a' ha)
theorem z13 {v v':Value}(h:VRel (cor B nw) v v')(e:TypeId): Sim P P' B nw (Instr.box e v) (Instr.box e v') (fun m v v'=>VRel (cor B m) v v'):=by
 unfold Instr.box
 refine Sim.bind_ (zlr h e) fun xt a a' ha=>?_
 exact Sim.pure_ (.ptr a a' ha)
theorem zcx {v v':Value}(h:VRel (cor B nw) v v'): Sim P P' B nw (Instr.sureAddr v) (Instr.sureAddr v') (fun m a a'=>ARel (cor B m) a a'):=by
 cases h with
 | ptr a a' ha=>exact Sim.pure_ ha
 | _=>exact Sim.halt
theorem zsv (A:zbt P P'){v v':Value}(h:VRel (cor B nw) v v')(t:TypeId): Sim P P' B nw (Instr.loadAt t v) (Instr.loadAt t v') (fun m v v'=>VRel (cor B m) v v'):=by
 unfold Instr.loadAt
 exact Sim.bind_ (zcx h) fun xt a a' ha=>zj4 A ha t
theorem zpm (A:zbt P P'){v v' x x':Value}(h:VRel (cor B nw) v v')(hx:VRel (cor B nw) x x')(t:TypeId): Sim P P' B nw (Instr.storeAt t v x) (Instr.storeAt t v' x') (fun _ _ _=>True):=by
 unfold Instr.storeAt
 exact Sim.bind_ (zcx h) fun xt a a' ha=>znx A ha hx.up t
theorem zpv {v v':Value}(h:VRel (cor B nw) v v')(i:Nat): Sim P P' B nw (Instr.extract v i) (Instr.extract v' i) (fun m v v'=>VRel (cor B m) v v'):=by
 cases h with
 | tuple c c' hc ec =>
   simp only [Instr.extract]
   cases hv:c[i]? with
   | none=>exact Sim.halt
   | some x =>
     obtain ⟨x',hx',hr⟩:=RRel.get (σ:=cor B nw) ⟨hc,ec⟩ hv
     rw [hx']
     exact Sim.pure_ hr
 | _=>exact Sim.halt
theorem zn0 {f f':Fn}{x x' c c':Array Value}(hf:ziz (cor B nw) f f')(hx:RRel (cor B nw) x x')(hc:RRel (cor B nw) c c'): Sim P P' B nw (Instr.makeFunc f x c) (Instr.makeFunc f' x' c') (fun m v v'=>VRel (cor B m) v v') :=
 Sim.pure_ (.func f f' x x' c c' hf hx.1 hc.1 hx.2 hc.2)
theorem zei {v v':Value}(h:VRel (cor B nw) v v'): Sim P P' B nw (asIntOf v) (asIntOf v') (fun _ a b=>a=b):=by
 cases h with
 | int k n=>exact Sim.pure_ rfl
 | ptr a a' ha=>exact Sim.halt
 | _=>exact Sim.halt
theorem zcy {v v':Value}(h:VRel (cor B nw) v v'): Sim P P' B nw (asInt v) (asInt v') (fun _ a b=>a=b):=by
 unfold asInt
 exact Sim.bind_ (zei h) fun xt a b e=>by subst e;exact Sim.pure_ rfl
theorem zlu {v v':Value}(h:VRel (cor B nw) v v'): Sim P P' B nw (asBool v) (asBool v') (fun _ a b=>a=b):=by
 cases h with
 | bool b=>exact Sim.pure_ rfl
 | _=>exact Sim.halt
theorem zcq (n:Nat): Sim P P' B nw (askRoom n) (askRoom n) (fun _ _ _=>True):=by
 unfold askRoom
 split
 ·exact zsu
 ·exact Sim.pure_ trivial
end
end
section
variable [Exts]
section
variable {σ:Nat→Option (Nat×Nat)}
inductive PRl (σ:Nat→Option (Nat×Nat)): List (Nat×Value)→List (Nat×Value)→Prop
 | nil:PRl σ [] []
 | cons {i:Nat} {v v':Value} {l l':List (Nat×Value)} (h:VRel σ v v') (t:PRl σ l l'):PRl σ ((i,v) :: l) ((i,v') :: l')
theorem zl5 {off:Nat}: ∀ (l l':List Value) (j:Nat) (cs cs':Array Value),LRl σ l l'→RRel σ cs cs' →
  RRel σ ((l.zipIdx j).foldl (fun cs (c,j)=>cs.setIfInBounds (off+j) c) cs) ((l'.zipIdx j).foldl (fun cs (c,j)=>cs.setIfInBounds (off+j) c) cs')
 | [],[],j,cs,cs',_,h=>h
 | v :: l,v' :: l',j,cs,cs',hl,h=>by
   cases hl with
   | cons hv ht=>exact zl5 l l' (j+1) _ _ ht (h.set hv _)
theorem zi1 {c:Array Value}{off:Nat}{cs:Array Value}: c.zipIdx.foldl (fun cs (x:Value×Nat)=>cs.setIfInBounds (off+x.2) x.1) cs=(c.toList.zipIdx 0).foldl (fun cs (x:Value×Nat)=>cs.setIfInBounds (off+x.2) x.1) cs:=by
 rw [← Array.foldl_toList,Array.toList_zipIdx]
theorem zjq (place:Nat→Option (Nat×Nat)): ∀ (l l':List (Nat×Value)) (cs cs' r:Array Value),PRl σ l l'→RRel σ cs cs'→Instr.fill place cs l=some r→∃ r',Instr.fill place cs' l'=some r'∧RRel σ r r'
 | [],_,cs,cs',r,h,hc,e=>by
   cases h
   simp only [Instr.fill,Option.some.injEq] at e
   subst e
   exact ⟨cs',rfl,hc⟩
 | (i,v) :: l,_,cs,cs',r,h,hc,e=>by
   cases h with
   | cons hv ht =>
     rename_i v' l'
     simp only [Instr.fill] at e ⊢
     cases hp:place i with
     | none=>rw [hp] at e;simp at e
     | some x =>
       obtain ⟨off,size⟩:=x
       rw [hp] at e
       have hvc:=hv.cells
       simp only at e ⊢
       split at e
       ·simp at e
       ·rename_i hs
        rw [if_neg (by rw [← hvc.1,← hc.1];exact hs)]
        refine zjq place l l' _ _ r ht ?_ e
        rw [zi1,zi1]
        exact zl5 _ _ 0 _ _ hvc.list hc
end
section
variable {α β γ δ:Type} {P P':Program} {B:Bas} {nw:List Nat}
theorem PRl.up {xt:List Nat}{l l':List (Nat×Value)}(h:PRl (cor B nw) l l'): PRl (cor B (nw++xt)) l l':=by
 induction h with
 | nil=>exact .nil
 | cons h t ih=>exact .cons h.up ih
theorem zg3 {ι:Type}{κ:Type}(f:ι→Sem κ)(h:∀ i nw,Sim P P' B nw (f i) (f i) (fun _ a b=>a=b)): ∀ (l:List ι) (nw:List Nat),Sim P P' B nw (l.mapM f) (l.mapM f) (fun _ a b=>a=b)
 | [],nw=>by simp only [List.mapM_nil];exact Sim.pure_ rfl
 | i :: l,nw=>by
   simp only [List.mapM_cons]
   refine Sim.bind_ (h i nw) fun xt a b e=>?_
   subst e
   refine Sim.bind_ (zg3 f h l _) fun xt a b e=>?_
   subst e
   exact Sim.pure_ rfl
theorem zyy {ι:Type}{κ:Type}(f:ι→Sem κ)(h:∀ i nw,Sim P P' B nw (f i) (f i) (fun _ a b=>a=b))(l:Array ι): Sim P P' B nw (l.mapM f) (l.mapM f) (fun _ a b=>a=b):=by
 rw [Array.mapM_eq_mapM_toList,map_eq_pure_bind]
 exact Sim.bind_ (zg3 f h _ _) fun xt a b e=>by subst e;exact Sim.pure_ rfl
theorem zvc (A:zbt P P'){l l':Array (Nat×Value)}(h:PRl (cor B nw) l.toList l'.toList)(t:TypeId)(Z:zfw P t): Sim P P' B nw (Instr.build t l) (Instr.build t l') (fun m v v'=>VRel (cor B m) v v'):=by
 unfold Instr.build
 refine Sim.bind_ (zav A t Z) fun xt z z' hz=>?_
 obtain ⟨rfl,hz⟩:=hz
 refine Sim.bind_ (zae A t) fun xt d d' hd=>?_
 obtain ⟨rfl,_⟩:=hd
 split
 ·refine Sim.bind_ (zyy _ (fun f nw=>Sim.bind_ (zau A f.type) fun xt n n' hn=>by obtain ⟨rfl,_⟩:=hn;exact Sim.pure_ rfl) _) fun xt p p' hp=>?_
  subst hp
  cases hf:Instr.fill (fun x=>p[x]?) z.cells l.toList with
  | none=>exact Sim.halt
  | some r =>
    obtain ⟨r',hr',hR⟩:=zjq _ _ _ _ _ _ h.up.up.up (hz _).cells hf
    rw [hr']
    exact Sim.pure_ (.agg r r' hR.1 hR.2)
 ·refine Sim.bind_ (zau A _) fun xt n n' hn=>?_
  obtain ⟨rfl,_⟩:=hn
  cases hf:Instr.fill (fun i=>some (i * n,n)) z.cells l.toList with
  | none=>exact Sim.halt
  | some r =>
    obtain ⟨r',hr',hR⟩:=zjq _ _ _ _ _ _ h.up.up.up (hz _).cells hf
    rw [hr']
    exact Sim.pure_ (.agg r r' hR.1 hR.2)
 ·exact Sim.halt
theorem zin {σ:Nat→Option (Nat×Nat)}{z z':Array Value}(hz:RRel σ z z')(n:Nat): RRel σ ((Array.range n).map (z[· % z.size]!)) ((Array.range n).map (z'[· % z'.size]!)):=by
 refine ⟨by simp,fun i v v' h1 h2=>?_⟩
 simp only [Array.getElem?_map] at h1 h2
 obtain ⟨k,hk,rfl⟩:=Option.map_eq_some_iff.1 h1
 obtain ⟨k',hk',rfl⟩:=Option.map_eq_some_iff.1 h2
 rw [hk] at hk'
 cases hk'
 rw [← hz.1]
 have:VRel σ (default:Value) (default:Value):=.bool _
 have h3:=hz.getD this (k % z.size)
 rw [Array.getElem!_eq_getD,Array.getElem!_eq_getD]
 exact h3
theorem zle (A:zbt P P'){l l':Array (Nat×Value)}(h:PRl (cor B nw) l.toList l'.toList)(t:TypeId)(n:Nat)(Z:zic P t): Sim P P' B nw (Instr.buildSlice t n l) (Instr.buildSlice t n l') (fun m v v'=>VRel (cor B m) v v'):=by
 unfold Instr.buildSlice
 refine Sim.bind_ (zae A t) fun xt d d' hd=>?_
 obtain ⟨rfl,hd⟩:=hd
 split
 case h_2=>exact Sim.halt
 refine Sim.bind_ (zau A _) fun xt k k' hn=>?_
 obtain ⟨rfl,_⟩:=hn
 dsimp only []
 split
 ·exact Sim.never (zaj.bind1 (zaj.halt _))
 have go:∀ (e:TypeId) (m:List Nat) (z z':Array Value),PRl (cor B m) l.toList l'.toList→RRel (cor B m) z z'→Sim P P' B m
   (do let some cells:=Instr.fill (fun i=>some (i * k,k)) ((Array.range (n * k)).map (z[· % z.size]!)) l.toList|stuck "buildSlice: a part of the wrong size"
       pure (.slice (some (← newRow e cells)) n n))
   (do let some cells:=Instr.fill (fun i=>some (i * k,k)) ((Array.range (n * k)).map (z'[· % z'.size]!)) l'.toList|stuck "buildSlice: a part of the wrong size"
       pure (.slice (some (← newRow e cells)) n n)) (fun m v v'=>VRel (cor B m) v v'):=by
  intro e m z z' hl hz
  cases hf:Instr.fill (fun i=>some (i * k,k)) ((Array.range (n * k)).map (z[· % z.size]!)) l.toList with
  | none=>exact Sim.halt
  | some r =>
    obtain ⟨r',hr',hR⟩:=zjq _ _ _ _ _ _ hl (zin hz (n * k)) hf
    rw [hr']
    exact Sim.bind_ (zby hR _) fun xt a a' ha=>Sim.pure_ (.slice a a' n n ha)
 split
 ·refine Sim.bind_ (Sim.pure_ (R:=fun m z z'=>RRel (cor B m) z z') RRel.nil) fun xt z z' hz=>?_
  exact go _ _ z z' h.up.up.up hz
 ·refine Sim.bind_ (zav A _ (Z _ hd)) fun xt z z' hz=>?_
  obtain ⟨rfl,hz⟩:=hz
  refine Sim.bind_ (Sim.pure_ (R:=fun m z z'=>RRel (cor B m) z z') (hz _).cells) fun xt z z' hz=>?_
  exact go _ _ z z' h.up.up.up.up hz
theorem zf2 {v v':Value}(h:VRel (cor B nw) v v')(y:Nat)(c:BoundsCode): Sim P P' B nw (Instr.sliceBound v y c) (Instr.sliceBound v' y c) (fun _ a b=>a=b∧a≤y):=by
 unfold Instr.sliceBound
 refine Sim.bind_ (zei h) fun xt a b e=>?_
 subst e
 obtain ⟨k,i⟩:=a
 simp only
 split
 ·exact Sim.pure_ ⟨rfl,by omega⟩
 ·exact Sim.bdPanic
inductive ORl (σ:Nat→Option (Nat×Nat)): Option Value→Option Value→Prop
 | none:ORl σ none none
 | some {v v':Value} (h:VRel σ v v'):ORl σ (some v) (some v')
theorem ORl.up {xt:List Nat}{l l':Option Value}(h:ORl (cor B nw) l l'): ORl (cor B (nw++xt)) l l':=by
 cases h with
 | none=>exact .none
 | some h=>exact .some h.up
def optB (v:Option Value)(y:Nat)(c:BoundsCode)(d:Nat): Sem Nat:=match v with|some v=>Instr.sliceBound v y c|none=>pure d
def hiB (hi:Option Value)(mx:Bool)(s:Bool)(m l:Nat): Sem Nat:=match hi,mx with
 | some v,true=>Instr.sliceBound v m .slice3B
 | some v,false=>Instr.sliceBound v m (if s then .sliceAcap else .sliceAlen)
 | none,false=>pure l
 | none,true=>stuck "Slice: max without high"
theorem zf1 (s:Bool)(l c:Nat)(lo hi mx:Option Value): Instr.sliceBounds s l c lo hi mx =
  (optB mx c (if s then .slice3Acap else .slice3Alen) c >>= fun m=>hiB hi mx.isSome s m l >>= fun h=>optB lo h (if mx.isSome then .slice3C else .sliceB) 0 >>= fun l=>pure (l,h,m)):=by
 cases lo <;> cases hi <;> cases mx <;> rfl
theorem zra {v v':Option Value}(h:ORl (cor B nw) v v')(y:Nat)(c:BoundsCode)(d:Nat): Sim P P' B nw (optB v y c d) (optB v' y c d) (fun _ a b=>a=b∧(d≤y→a≤y)):=by
 cases h with
 | none=>exact Sim.pure_ ⟨rfl,id⟩
 | some h=>exact (zf2 h _ _).mono fun _ _ _ h=>⟨h.1,fun _=>h.2⟩
theorem z1z {v v':Option Value}(h:ORl (cor B nw) v v')(mx s:Bool)(m l:Nat): Sim P P' B nw (hiB v mx s m l) (hiB v' mx s m l) (fun _ a b=>a=b∧(l≤m→a≤m)):=by
 cases h with
 | none=>cases mx;exact Sim.pure_ ⟨rfl,id⟩;exact Sim.halt
 | some h=>cases mx <;> exact (zf2 h _ _).mono fun _ _ _ h=>⟨h.1,fun _=>h.2⟩
theorem zcf {lo lo' hi hi' mx mx':Option Value}(h1:ORl (cor B nw) lo lo')(h2:ORl (cor B nw) hi hi')(h3:ORl (cor B nw) mx mx')(s:Bool)(l c:Nat):
  Sim P P' B nw (Instr.sliceBounds s l c lo hi mx) (Instr.sliceBounds s l c lo' hi' mx') (fun _ a b=>a=b∧(l=0→c=0→a=(0,0,0))):=by
 rw [zf1,zf1]
 have e3:mx.isSome=mx'.isSome:=by cases h3 <;> rfl
 rw [e3]
 refine Sim.bind_ (zra h3 _ _ _) fun x1 a b e=>?_
 obtain ⟨rfl,k1⟩:=e
 refine Sim.bind_ (z1z h2.up _ _ _ _) fun x2 a2 b2 e=>?_
 obtain ⟨rfl,k2⟩:=e
 refine Sim.bind_ (zra h1.up.up _ _ _) fun x3 a3 b3 e=>?_
 obtain ⟨rfl,k3⟩:=e
 refine Sim.pure_ ⟨rfl,fun e1 e2=>?_⟩
 have g1:=k1 (Nat.le_refl _)
 have g2:=k2 (by omega)
 have g3:=k3 (Nat.zero_le _)
 rw [show a3=0 by omega,show a2=0 by omega,show a=0 by omega]
theorem zpn (A:zbt P P'){v v':Value}(h:VRel (cor B nw) v v'){lo lo' hi hi' mx mx':Option Value}(h1:ORl (cor B nw) lo lo')(h2:ORl (cor B nw) hi hi')(h3:ORl (cor B nw) mx mx')(t:TypeId):
  Sim P P' B nw (Instr.sliceAt t v lo hi mx) (Instr.sliceAt t v' lo' hi' mx') (fun m v v'=>VRel (cor B m) v v'):=by
 unfold Instr.sliceAt
 refine Sim.bind_ (zae A t) fun xt d d' hd=>?_
 obtain ⟨rfl,hd⟩:=hd
 split
 ·refine Sim.bind_ (zcx h.up) fun xt2 a a' ha=>?_
  refine Sim.bind_ (zcf h1.up.up h2.up.up h3.up.up _ _ _) fun xt3 x y e=>?_
  obtain ⟨rfl,_⟩:=e
  obtain ⟨l,hh,m⟩:=x
  refine Sim.bind_ (zau A _) fun xt4 k k' hk=>?_
  obtain ⟨rfl,_⟩:=hk
  refine Sim.pure_ (.slice _ _ _ _ ?_)
  split
  ·exact ha.up.up
  ·exact (ha.add _).up.up
 ·unfold Instr.slice
  refine Sim.bind_ (zae A t) fun xt2 d d' hd=>?_
  obtain ⟨rfl,hd⟩:=hd
  have h:=(h.up (xt:=xt)).up (xt:=xt2)
  split
  ·rename_i s
   cases h
   have e3:mx.isSome=mx'.isSome:=by cases h3 <;> rfl
   simp only
   rw [e3]
   split
   ·exact Sim.never (zaj.bind1 (zaj.halt _))
   ·refine Sim.bind_ (zcf h1.up.up h2.up.up .none _ _ _) fun xt3 x y e=>?_
    obtain ⟨rfl,_⟩:=e
    exact Sim.pure_ (.string _)
  ·rename_i a len cap hq
   have key:∀ (a a':Option Addr),VRel (cor B (nw++xt++xt2)) (.slice a len cap) (.slice a' len cap)→∀ (x:List Nat) (k:Nat),VRel (cor B (nw++xt++xt2++x)) (.slice (a.map (·.add k)) len cap) (.slice (a'.map (·.add k)) len cap):=by
    intro a a' h x k
    cases h with
    | nils=>exact .nils _ _
    | slice a a' _ _ ha=>exact .slice _ _ _ _ (ha.add k).up
    | gap a' hg=>exact .gap _ hg
   have any:∀ (a a':Option Addr),VRel (cor B (nw++xt++xt2)) (.slice a len cap) (.slice a' len cap)→∀ (x:List Nat) (k n c:Nat) (p:Prop) [Decidable p],(len=0→cap=0→n=0∧c=0)→VRel (cor B (nw++xt++xt2++x)) (.slice (if p then a else a.map (·.add k)) n c) (.slice (if p then a' else a'.map (·.add k)) n c):=by
    intro a a' h x k n c p _ hz
    cases h with
    | nils=>split <;> exact .nils _ _
    | gap a' hg =>
      obtain ⟨rfl,rfl⟩:=hz rfl rfl
      split <;> exact .gap _ hg
    | slice a a' _ _ ha =>
      split
      ·exact .slice _ _ _ _ ha.up
      ·exact .slice _ _ _ _ (ha.add k).up
   have hv:∃ a',v'=.slice a' len cap:=by cases h <;> exact ⟨_,rfl⟩
   obtain ⟨a',rfl⟩:=hv
   simp only
   refine Sim.bind_ (zcf h1.up.up h2.up.up h3.up.up _ _ _) fun xt3 x y e=>?_
   obtain ⟨rfl,hz⟩:=e
   obtain ⟨l,hh,m⟩:=x
   refine Sim.bind_ (zau A _) fun xt4 k k' hk=>?_
   obtain ⟨rfl,_⟩:=hk
   refine Sim.pure_ ?_
   have:=any a a' h (xt3++xt4) (l * k) (hh - l) (m - l) (m=l) (fun e1 e2=>by
    have e:=hz e1 e2
    simp only [Prod.mk.injEq] at e
    omega)
   rw [← List.append_assoc] at this
   exact this
  ·rename_i arr x
   have sa:Sim P P' B (nw++xt++xt2) (asAddr v) (asAddr v') (fun m a a'=>ARel (cor B m) a a'):=by
    cases h with
    | ptr a a' ha=>exact Sim.pure_ ha
    | nilp=>unfold asAddr;exact Sim.rtPanic
    | _=>exact Sim.halt
   refine Sim.bind_ sa fun xt3 a a' ha=>?_
   refine Sim.bind_ (zae A _) fun xt4 d d' hd=>?_
   obtain ⟨rfl,hd⟩:=hd
   split
   ·refine Sim.bind_ (zcf h1.up.up.up.up h2.up.up.up.up h3.up.up.up.up _ _ _) fun xt5 x y e=>?_
    obtain ⟨rfl,_⟩:=e
    obtain ⟨l,hh,m⟩:=x
    refine Sim.bind_ (zau A _) fun xt6 k k' hk=>?_
    obtain ⟨rfl,_⟩:=hk
    refine Sim.pure_ (.slice _ _ _ _ ?_)
    split
    ·exact ha.up.up.up
    ·exact (ha.add _).up.up.up
   ·exact Sim.halt
  ·exact Sim.halt
theorem zmt (A:zbt P P'){v v' x x':Value}(h:VRel (cor B nw) v v')(hx:VRel (cor B nw) x x')(t:TypeId)(Z:zic P t): Sim P P' B nw (Instr.makeSlice t v x) (Instr.makeSlice t v' x') (fun m v v'=>VRel (cor B m) v v'):=by
 unfold Instr.makeSlice
 refine Sim.bind_ (zae A t) fun xt d d' hd=>?_
 obtain ⟨rfl,hd⟩:=hd
 split
 case h_2=>exact Sim.halt
 refine Sim.bind_ (zcy h.up) fun xt1 n n' e=>?_
 subst e
 refine Sim.bind_ (zcy hx.up.up) fun xt2 c c' e=>?_
 subst e
 refine Sim.bind_ (zai A _) fun xt3 i i' e=>?_
 obtain ⟨rfl,_⟩:=e
 simp only []
 split
 ·refine Sim.never ?_
  split
  ·exact zaj.bind1 (zac _)
  ·split
   ·exact zaj.bind1 (zac _)
   ·exact zaj.bind (zbx _) fun _=>zaj.bind1 (zac _)
 ·refine Sim.bind_ (zcq _) fun xt4 _ _ _=>?_
  refine Sim.bind_ (zau A _) fun xt5 k k' hk=>?_
  obtain ⟨rfl,_⟩:=hk
  have go:∀ (e:TypeId) (m:List Nat) (z z':Array Value) (q l c:Nat),RRel (cor B m) z z'→Sim P P' B m (do let a ← newRow e ((Array.range q).map (z[· % z.size]!));pure (.slice (some a) l c)) (do let a ← newRow e ((Array.range q).map (z'[· % z'.size]!));pure (.slice (some a) l c)) (fun m v v'=>VRel (cor B m) v v'):=by
   intro e m z z' q l c hz
   exact Sim.bind_ (zby (zin hz q) _) fun xt a a' ha=>Sim.pure_ (.slice a a' _ _ ha)
  split
  ·refine Sim.bind_ (Sim.pure_ (R:=fun m z z'=>RRel (cor B m) z z') RRel.nil) fun xt z z' hz=>?_
   exact go _ _ z z' _ _ _ hz
  ·refine Sim.bind_ (zav A _ (Z _ hd)) fun xt z z' hz=>?_
   obtain ⟨rfl,hz⟩:=hz
   refine Sim.bind_ (Sim.pure_ (R:=fun m z z'=>RRel (cor B m) z z') (hz _).cells) fun xt z z' hz=>?_
   exact go _ _ z z' _ _ _ hz
end
end
section
variable [Exts]
structure Fit (P P':Program)(B:Bas): Prop where
 alike:zbt P P'
 G:B.G=P.globals.size
 bad:P.info? B.bad=none
 GN:B.G≤B.N
 good:∀ b,b<B.G→B.good b=true
section
variable {α β γ δ:Type} {P P':Program} {B:Bas} {nw:List Nat}
theorem zj2 {b b' d:Nat}(h:cor B nw b=some (b',d)): Sim P P' B nw (shape b) (shape b') (fun _ s s' =>
  (s=none∧s'=none)∨(∃ e n n',s=some (e,n)∧s'=some (e,n')∧n=n'∧d=0∧(b<B.N→B.good b=true∧b'=b))∨(∃ n,s=some (B.bad,n)∧b<B.N∧B.good b=false∧B.G≤b)):=by
 refine ⟨?_,fun w w' es hw ht=>ht,fun w w' es u w1 e1 hw hr=>by cases hr;exact ⟨Nat.le_refl _,rfl,fun t' _=>rfl⟩⟩
 intro w w' es es' x w1 e1 hw hr
 unfold shape at hr ⊢
 simp only [Sem.runT,Prod.mk.injEq,Result.ok.injEq] at hr ⊢
 obtain ⟨⟨rfl,rfl⟩,rfl⟩:=hr
 refine ⟨[],w'.shape? b',w',#[],⟨⟨rfl,rfl⟩,by simp⟩,by simpa using hw,?_,.rfl',fun e he=>by simp at he⟩
 obtain ⟨o,o',h1,h2,h3⟩:=hw.block h
 unfold World.shape?
 rw [h1,h2]
 rcases h3 with ⟨hb,h3⟩|⟨i,hbi,rfl,hni,h3⟩
 ·cases h3 with
  | cells c c' e e' fr fr' h0 hs hg hcell =>
    rcases hg with ⟨hgd,rfl,rfl,rfl,hsz,-⟩|⟨hgd,hG,rfl⟩
    ·exact .inr (.inl ⟨_,_,_,rfl,rfl,hsz,rfl,fun _=>⟨hgd,rfl⟩⟩)
    ·exact .inr (.inr ⟨_,rfl,hb,hgd,hG⟩)
  | dull fr o' hk hg hcv=>exact .inr (.inr ⟨_,rfl,hb,hg⟩)
  | num=>exact .inl ⟨rfl,rfl⟩
 ·cases h3 with
  | cells c c' e fr hr=>exact .inr (.inl ⟨_,_,_,rfl,rfl,hr.1,rfl,fun hlt=>by omega⟩)
  | loop l l' hl=>exact .inl ⟨rfl,rfl⟩
  | defNone=>exact .inl ⟨rfl,rfl⟩
  | defNil=>exact .inl ⟨rfl,rfl⟩
  | number a a' l h=>exact .inl ⟨rfl,rfl⟩
theorem zls {b b' d:Nat}(h:cor B nw b=some (b',d)): Sim P P' B nw (getObj b) (getObj b') (fun m o o'=>(∃ a a' l,o=.number a l∧o'=.number a' l∧ARel (cor B m) a a')∨(NRel B (cor B m) o o'∧b'∈m∧d=0∧∃ i,b=B.N+i∧m[i]?=some b')):=by
 refine ⟨?_,fun w w' es hw ht=>?_,fun w w' es u w1 e1 hw hr=>?_⟩
 case refine_3 =>
  unfold getObj at hr ⊢
  simp only [Sem.runT] at hr ⊢
  cases hb:w.heap[b]? with
  | none=>rw [hb] at hr;cases hr
  | some o =>
    rw [hb] at hr
    cases o <;> first
     | (cases hr;done)
     | (cases hr
        refine ⟨Nat.le_refl _,rfl,fun t' _=>?_⟩
        rw [show (relay w t').heap[b]?=_ from hb])
 case refine_2 =>
  unfold getObj
  simp only [Sem.runT]
  cases hb:w.heap[b]? with
  | none=>exact ⟨trivial,ht⟩
  | some o=>cases o <;> first|exact ht|exact ⟨trivial,ht⟩
 intro w w' es es' x w1 e1 hw hr
 unfold getObj at hr ⊢
 simp only [Sem.runT] at hr ⊢
 obtain ⟨o,o',h1,h2,h3⟩:=hw.block h
 rw [h1] at hr
 rw [h2]
 rcases h3 with ⟨hb,h3⟩|⟨i,hbi,rfl,hni,h3⟩
 ·cases h3 with
  | cells=>simp at hr
  | dull=>simp at hr
  | num a a' l h' hg hcv =>
    simp only [Prod.mk.injEq,Result.ok.injEq] at hr
    obtain ⟨⟨rfl,rfl⟩,rfl⟩:=hr
    refine ⟨[],_,w',#[⟨.obj b',false,false⟩],rfl,by simpa using hw,.inl ⟨a,a',l,rfl,rfl,h'.up⟩,.rfl',fun e he=>?_⟩
    simp at he
    subst he
    rw [List.append_nil]
    exact ⟨rfl,fun h=>(by cases h),b,d,h⟩
 ·have key:∀ (o o':Obj),NRel B (cor B nw) o o'→o.isChan=false→o'.isChan=false→(Result.ok o w,es.push ⟨.obj b,false,o.isChan⟩)=(Result.ok x w1,e1) →
    ∃ xt b_1 w1' l,(Result.ok o' w',es'.push ⟨.obj b',false,o'.isChan⟩)=(Result.ok b_1 w1',es'++l)∧WRel B (nw++xt) w1 w1'∧((∃ a a' l,x=.number a l∧b_1=.number a' l∧ARel (cor B (nw++xt)) a a')∨(NRel B (cor B (nw++xt)) x b_1∧b'∈nw++xt∧(0:Nat)=0∧∃ i,b=B.N+i∧(nw++xt)[i]?=some b'))∧Kept B nw xt w' w1'∧∀ e∈l,EvOk B (nw++xt) e:=by
   intro o o' hn hc hc' e
   simp only [Prod.mk.injEq,Result.ok.injEq] at e
   obtain ⟨⟨rfl,rfl⟩,rfl⟩:=e
   refine ⟨[],o',w',#[⟨.obj b',false,o'.isChan⟩],by simp,by simpa using hw,?_,.rfl',fun e he=>?_⟩
   ·rw [List.append_nil];exact .inr ⟨hn,List.mem_of_getElem? hni,rfl,i,hbi,hni⟩
   ·simp at he
    subst he
    rw [List.append_nil]
    exact ⟨hc',fun h=>(by cases h),b,0,h⟩
  cases h3 with
  | cells c c' e fr hr'=>simp at hr
  | loop l l' hl=>exact key _ _ (.loop l l' hl) rfl rfl hr
  | defNone=>exact key _ _ .defNone rfl rfl hr
  | defNil=>exact key _ _ .defNil rfl rfl hr
  | number a a' l h=>exact key _ _ (.number a a' l h) rfl rfl hr
theorem zi8 (P:Program)(w:World)(es:Array Event)(r:Nat): (numberAt r).runT P w es=match w.heap[r]? with
  | some (.cells ..)=>(.ok none w,es)
  | some (.number a l)=>(.ok (some (a,l)) w,es.push ⟨.obj r,false,false⟩)
  | some o=>(.ok none w,es.push ⟨.obj r,false,o.isChan⟩)
  | none=>(.halt (.stuck "getObj: no such block") w,es):=by
 show (Sem.shape r fun s=>_).runT P w es=_
 simp only [Sem.runT]
 unfold World.shape?
 cases h:w.heap[r]? with
 | none=>simp only [Option.isSome];show (Sem.getObj r fun o=>_).runT P w es=_;simp only [Sem.runT,h]
 | some o =>
   cases o <;> first
    | rfl
    | (simp only [Option.isSome];show (Sem.getObj r fun o=>_).runT P w es=_;simp only [Sem.runT,h];rfl)
theorem zll (P:Program)(w:World)(es:Array Event)(r:Nat): (viewAt r).runT P w es=match w.heap[r]? with
  | some (.cells ..)=>(.ok none w,es)
  | some (.view a t)=>(.ok (some (a,t)) w,es.push ⟨.obj r,false,false⟩)
  | some o=>(.ok none w,es.push ⟨.obj r,false,o.isChan⟩)
  | none=>(.halt (.stuck "getObj: no such block") w,es):=by
 show (Sem.shape r fun s=>_).runT P w es=_
 simp only [Sem.runT]
 unfold World.shape?
 cases h:w.heap[r]? with
 | none=>simp only [Option.isSome];show (Sem.getObj r fun o=>_).runT P w es=_;simp only [Sem.runT,h]
 | some o =>
   cases o <;> first
    | rfl
    | (simp only [Option.isSome];show (Sem.getObj r fun o=>_).runT P w es=_;simp only [Sem.runT,h];rfl)
theorem z51 {b b' d:Nat}(h:cor B nw b=some (b',d)): EvOk B nw ⟨.obj b',false,false⟩:=⟨rfl,fun h=>(by cases h),b,d,h⟩
theorem zn3 {α:Type}{b b' d:Nat}(h:cor B nw b=some (b',d)){s:Sem α}{s':Sem α}{R:List Nat→α→α→Prop}{f:Obj→α}(hs:∀ w es,s.runT P w es=match w.heap[b]? with|some (.cells c e fr)=>(.ok (f (.cells c e fr)) w,es)|some o=>(.ok (f o) w,es.push ⟨.obj b,false,o.isChan⟩)|none=>(.halt (.stuck "getObj: no such block") w,es))(hs':∀ w es,s'.runT P' w es=match w.heap[b']? with|some (.cells c e fr)=>(.ok (f (.cells c e fr)) w,es)|some o=>(.ok (f o) w,es.push ⟨.obj b',false,o.isChan⟩)|none=>(.halt (.stuck "getObj: no such block") w,es))(hf:∀ o o',zl8 o=true→zl8 o'=true→R nw (f o) (f o'))(hn:∀ a a' l,ARel (cor B nw) a a'→R nw (f (.number a l)) (f (.number a' l))): Sim P P' B nw s s' R:=by
 refine ⟨?_,fun w w' es hw ht=>?_,fun w w' es u w1 e1 hw hr=>?_⟩
 case refine_3 =>
  rw [hs] at hr
  have key:∀ (o:Option Obj),w.heap[b]?=o→w.drawn≤w1.drawn∧w1.tape=w.tape∧∀ t',zno w.drawn w1.drawn w.tape t'→s.runT P (relay w t') es=(.ok u (relay w1 t'),e1):=fun o ho=>by
   rw [ho] at hr
   have e2:∀ t',(relay w t').heap[b]?=o:=fun t'=>ho
   cases o with
   | none=>simp at hr
   | some o =>
     cases o <;> (simp only [Prod.mk.injEq,Result.ok.injEq] at hr;obtain ⟨⟨rfl,rfl⟩,rfl⟩:=hr;exact ⟨Nat.le_refl _,rfl,fun t' _=>by rw [hs,e2 t']⟩)
  exact key _ rfl
 case refine_2 =>
  rw [hs]
  have key:∀ (o:Option Obj),w.heap[b]?=o→Fine (match w.heap[b]? with|some (.cells c e fr)=>(Result.ok (f (.cells c e fr)) w,es)|some o=>(.ok (f o) w,es.push ⟨.obj b,false,o.isChan⟩)|none=>(.halt (.stuck "getObj: no such block") w,es)).1:=fun o ho=>by
   rw [ho]
   cases o with
   | none=>exact ⟨trivial,ht⟩
   | some o=>cases o <;> exact ht
  exact key _ rfl
 intro w w' es es' x w1 e1 hw hr
 rw [hs] at hr
 rw [hs']
 obtain ⟨o,o',h1,h2,h3⟩:=hw.block h
 rw [h1] at hr
 rw [h2]
 have hw0:WRel B (nw++[]) w w':=by rw [List.append_nil];exact hw
 have up:∀ {u v:α},R nw u v→R (nw++[]) u v:=fun h=>by rw [List.append_nil];exact h
 have ev:∀ e∈(#[⟨.obj b',false,false⟩]:Array Event),EvOk B (nw++[]) e:=fun e he=>by
  simp at he
  subst he
  rw [List.append_nil]
  exact z51 h
 have done:∀ (o o':Obj),R nw (f o) (f o')→o.isChan=false→o'.isChan=false→(Result.ok (f o) w,if zl8 o=true∧(match o with|.cells ..=>true|_=>false)=true then es else es.push ⟨.obj b,false,o.isChan⟩)=(Result.ok x w1,e1) →
   ∃ xt b_1 w1' l,(Result.ok (f o') w',if (match o' with|.cells ..=>true|_=>false)=true then es' else es'.push ⟨.obj b',false,o'.isChan⟩)=(Result.ok b_1 w1',es'++l)∧WRel B (nw++xt) w1 w1'∧R (nw++xt) x b_1∧Kept B nw xt w' w1'∧∀ e∈l,EvOk B (nw++xt) e:=by
  intro o o' hR hc hc' e
  simp only [Prod.mk.injEq,Result.ok.injEq] at e
  obtain ⟨⟨rfl,rfl⟩,-⟩:=e
  cases hm:(match o' with|.cells ..=>true|_=>false) with
  | true=>exact ⟨[],_,w',#[],by simp,hw0,up hR,.rfl',fun e he=>by simp at he⟩
  | false=>exact ⟨[],_,w',#[⟨.obj b',false,false⟩],by simp [hc'],hw0,up hR,.rfl',ev⟩
 rcases h3 with ⟨hb,h3⟩|⟨i,hbi,rfl,hni,h3⟩
 ·cases h3 with
  | cells c c' e e' fr fr' h0 hs2 hg hcell=>exact done (.cells c e fr) (.cells c' e' fr') (hf _ _ rfl rfl) rfl rfl hr
  | dull fr o' hk hg hcv =>
    cases o' <;> first
     | (cases hk;done)
     | exact done (.cells #[] B.bad fr) _ (hf _ _ rfl hk) rfl rfl hr
  | num a a' l ha hg hcv=>exact done (.number a l) (.number a' l) (hn _ _ _ ha) rfl rfl hr
 ·cases h3 with
  | cells c c' e fr hc=>exact done (.cells c e fr) (.cells c' e fr) (hf _ _ rfl rfl) rfl rfl hr
  | loop l l' hl=>exact done (.loop l) (.loop l') (hf _ _ rfl rfl) rfl rfl hr
  | defNone=>exact done (.deferred none) (.deferred none) (hf _ _ rfl rfl) rfl rfl hr
  | defNil=>exact done (.deferred (some [])) (.deferred (some [])) (hf _ _ rfl rfl) rfl rfl hr
  | number a a' l ha=>exact done (.number a l) (.number a' l) (hn _ _ _ ha) rfl rfl hr
theorem znz {b b' d:Nat}(h:cor B nw b=some (b',d)): Sim P P' B nw (numberAt b) (numberAt b') (fun m x x'=>(x=none∧x'=none)∨∃ a a' l,x=some (a,l)∧x'=some (a',l)∧ARel (cor B m) a a'):=by
 refine zn3 h (f:=fun o=>match o with|.number a l=>some (a,l)|_=>none) (fun w es=>?_) (fun w es=>?_) (fun o o' h1 h2=>?_) (fun a a' l ha=>.inr ⟨a,a',l,rfl,rfl,ha⟩)
 ·rw [zi8]
  cases w.heap[b]? with
  | none=>rfl
  | some o=>cases o <;> rfl
 ·rw [zi8]
  cases w.heap[b']? with
  | none=>rfl
  | some o=>cases o <;> rfl
 ·cases o <;> first|(cases h1;done)|(cases o' <;> first|(cases h2;done)|exact .inl ⟨rfl,rfl⟩)
theorem zlq {b b' d:Nat}(h:cor B nw b=some (b',d)): Sim P P' B nw (viewAt b) (viewAt b') (fun m x x'=>x=none∧x'=none):=by
 refine zn3 h (f:=fun o=>match o with|.view a t=>some (a,t)|_=>none) (fun w es=>?_) (fun w es=>?_) (fun o o' h1 h2=>?_) (fun a a' l ha=>⟨rfl,rfl⟩)
 ·rw [zll]
  cases w.heap[b]? with
  | none=>rfl
  | some o=>cases o <;> rfl
 ·rw [zll]
  cases w.heap[b']? with
  | none=>rfl
  | some o=>cases o <;> rfl
 ·cases o <;> first|(cases h1;done)|(cases o' <;> first|(cases h2;done)|exact ⟨rfl,rfl⟩)
theorem zbd {a a':Addr}(h:ARel (cor B nw) a a'): Sim P P' B nw (behindNumber a) (behindNumber a') (fun m x x'=>x.2=x'.2∧ARel (cor B m) x.1 x'.1):=by
 unfold behindNumber
 have h0:=h
 obtain ⟨_,b',d,hc,rfl⟩:=h
 refine Sim.bind_ (znz hc) fun x1 x x' hx=>?_
 rcases hx with ⟨rfl,rfl⟩|⟨a1,a1',l,rfl,rfl,ha⟩
 ·exact Sim.pure_ ⟨rfl,h0.up⟩
 ·exact Sim.pure_ ⟨rfl,ha⟩
theorem zn4 {a a':Addr}(h:ARel (cor B nw) a a')(l:Bool): Sim P P' B nw (asNumber a l) (asNumber a' l) (fun m v v'=>VRel (cor B m) v v'):=by
 unfold asNumber
 refine Sim.bind_ (zms (o:=.number a l) (o':=.number a' l) fun k=>.number a a' l h.up) fun xt r r' hr=>?_
 exact Sim.pure_ (.ptr _ _ ⟨rfl,r',0,hr,rfl⟩)
theorem zqw (hb:P.info? B.bad=none): P.cellsOf B.bad=0:=by
 simp [Program.cellsOf,hb]
theorem zer (A:zbt P P'): P'.depth=P.depth∧P'.globals=P.globals∧(∀ t,P'.cellsOf t=P.cellsOf t)∧byteOfCell P'=byteOfCell P∧(∀ d e c o n,cellAtBytes P' d e c o n=cellAtBytes P d e c o n):=by
 have:=A.tab
 obtain ⟨T,F⟩:=P
 obtain ⟨T',F'⟩:=P'
 simp only at this
 subst this
 have key:∀ (n:Nat) (t:TypeId) (c:Nat),byteOfCell { toTables:=T,funcs:=F' } n t c=byteOfCell { toTables:=T,funcs:=F } n t c:=by
  intro n
  induction n with
  | zero=>intro t c;rfl
  | succ n ih =>
    intro t c
    simp only [byteOfCell,ih]
    rfl
 have key2:∀ (n:Nat) (t:TypeId) (c:Nat),cellOfByte { toTables:=T,funcs:=F' } n t c=cellOfByte { toTables:=T,funcs:=F } n t c:=by
  intro n
  induction n with
  | zero=>intro t c;rfl
  | succ n ih =>
    intro t c
    simp only [cellOfByte,ih]
    rfl
 refine ⟨rfl,rfl,fun t=>rfl,?_,fun d e c o n=>?_⟩
 ·funext n t c
  exact key n t c
 ·simp only [cellAtBytes,key,key2]
  rfl
theorem zt8 (hb:P.info? B.bad=none)(d c o:Nat)(n:Int): cellAtBytes P d B.bad c o n=none:=by
 simp [cellAtBytes,zqw hb]
theorem zdy (F:Fit P P' B){a a':Addr}(h:ARel (cor B nw) a a')(hg:a.block<B.N→B.good a.block=true): Sim P P' B nw (byteOf a) (byteOf a') (fun _ x x'=>x=x'):=by
 have h0:=h
 obtain ⟨b,o,sp⟩:=a
 obtain ⟨hsp,b',d,hc,rfl⟩:=h
 simp only at hsp hc hg
 subst hsp
 unfold byteOf
 simp only []
 refine Sim.bind_ zct fun x1 p p' hp=>?_
 obtain ⟨rfl,rfl⟩:=hp
 have nv:∀ m,cor B m b=some (b',d)→Sim p p' B m (noView ⟨b,o,none⟩) (noView ⟨b',o+d,none⟩) (fun _ _ _=>True):=by
  intro m hm
  unfold noView
  refine Sim.bind_ (zlq hm) fun x2 x x' hx=>?_
  obtain ⟨rfl,rfl⟩:=hx
  exact Sim.pure_ trivial
 refine Sim.bind_ (nv _ (za1 hc)) fun x2 _ _ _=>?_
 refine Sim.bind_ (zj2 (za1 (za1 hc))) fun x3 s s' hs=>?_
 rcases hs with ⟨rfl,rfl⟩|⟨e,n,n',rfl,rfl,_,rfl,_⟩|⟨n,rfl,hlt,hbad,_⟩
 ·exact Sim.halt
 ·obtain ⟨hd,hgl,hco,hby,_⟩:=zer F.alike
  simp only [hco,hd,hby,Nat.add_zero]
  split
  ·exact Sim.pure_ rfl
  ·have hbo:p'.bytesOf e=p.bytesOf e:=by unfold Program.bytesOf;rw [F.alike.info]
   split
   ·rw [hbo];exact Sim.pure_ rfl
   ·exact Sim.halt
 ·rw [hg hlt] at hbad;cases hbad
theorem zg2 (F:Fit P P' B){a a' c c':Addr}(h:ARel (cor B nw) a a')(h2:ARel (cor B nw) c c'): Sim P P' B nw (Op.twoPlaces a c) (Op.twoPlaces a' c') (fun _ x x'=>x=x'):=by
 unfold Op.twoPlaces
 refine Sim.bind_ zct fun x1 p p' hp=>?_
 obtain ⟨rfl,rfl⟩:=hp
 obtain ⟨hd,hgl,hco,hby,_⟩:=zer F.alike
 by_cases hc:(a.block != c.block || decide (a.block ≥ p.globals.size))=true
 ·rw [if_pos hc]
  exact Sim.never (zaj.bind1 (zaj.halt _))
 ·rw [if_neg hc]
  simp only [Bool.or_eq_true,bne_iff_ne,ne_eq,decide_eq_true_eq,not_or,Decidable.not_not] at hc
  obtain ⟨e1,e2⟩:=hc
  have g1:B.good a.block=true:=F.good _ (by rw [F.G];omega)
  have h':(a'.block != c'.block || decide (a'.block ≥ p'.globals.size))=true∨¬ (a'.block != c'.block || decide (a'.block ≥ p'.globals.size))=true:=Classical.em _
  have fin:Sim p p' B (nw++x1) (do pure (← byteOf a,← byteOf c)) (do pure (← byteOf a',← byteOf c')) (fun _ x x'=>x=x'):=by
   refine Sim.bind_ (zdy F h.up (fun _=>g1)) fun x2 y y' e=>?_
   subst e
   refine Sim.bind_ (zdy F h2.up.up (fun _=>by rw [← e1];exact g1)) fun x3 z z' e=>?_
   subst e
   exact Sim.pure_ rfl
  refine ⟨?_,fin.2.1,fin.2.2⟩
  intro w w' es es' x w1 e1' hw hr
  have eq1:a'.block=a.block∧c'.block=a.block:=by
   obtain ⟨_,b',d,hcb,rfl⟩:=h.up (xt:=x1)
   obtain ⟨_,b2,d2,hcb2,rfl⟩:=h2.up (xt:=x1)
   simp only
   have hlt:a.block<B.G:=by rw [F.G];omega
   obtain ⟨o,o',q1,q2,q3⟩:=hw.block hcb
   rw [← e1,hcb] at hcb2
   cases hcb2
   rcases q3 with ⟨hb,q3⟩|⟨i,hbi,rfl,hni,q3⟩
   ·cases q3 with
    | cells _ _ _ _ _ _ _ _ hg _ =>
      rcases hg with ⟨_,rfl,_⟩|⟨_,hG,_⟩
      ·exact ⟨rfl,rfl⟩
      ·omega
    | dull _ _ _ hg _=>have:=hg.2;omega
    | num _ _ _ _ hg _=>have:=hg.2;omega
   ·have:=F.GN;omega
  rw [if_neg (by simp [eq1.1,eq1.2,hgl];omega)]
  exact fin.1 w w' es es' x w1 e1' hw hr
theorem zp0 (F:Fit P P' B){a a' c c':Addr}(h:ARel (cor B nw) a a')(h2:ARel (cor B nw) c c')(k:IntKind): Sim P P' B nw (Op.addrSub k a c) (Op.addrSub k a' c') (fun m v v'=>VRel (cor B m) v v'):=by
 unfold Op.addrSub
 refine Sim.bind_ (zg2 F h h2) fun x1 p p' e=>?_
 subst e
 exact Sim.pure_ (.int _ _)
theorem zp2 (F:Fit P P' B){a a' c c':Addr}(h:ARel (cor B nw) a a')(h2:ARel (cor B nw) c c')(op:BinOp): Sim P P' B nw (Op.addrCmp op a c) (Op.addrCmp op a' c') (fun m v v'=>VRel (cor B m) v v'):=by
 unfold Op.addrCmp
 refine Sim.bind_ (zg2 F h h2) fun x1 p p' e=>?_
 subst e
 obtain ⟨x,y⟩:=p
 cases op <;> first|exact Sim.pure_ (.bool _)|exact Sim.halt
theorem zf4 {t:TypeId}(h:P.info? t=none): ∀ w es a w1 e1,(typeInfo t).runT P w es≠(.ok a w1,e1):=by
 intro w es a w1 e1
 simp only [typeInfo,program,bind,Sem.bind,Sem.runT,h,stuck]
 simp
theorem zp1 (F:Fit P P' B){a a':Addr}(h:ARel (cor B nw) a a')(k:IntKind)(n:Int): Sim P P' B nw (Op.addrMod k a n) (Op.addrMod k a' n) (fun m v v'=>VRel (cor B m) v v'):=by
 have h0:=h
 obtain ⟨_,b',d,hc,rfl⟩:=h
 unfold Op.addrMod
 refine Sim.bind_ (zj2 hc) fun x1 s s' hs=>?_
 rcases hs with ⟨rfl,rfl⟩|⟨e,m,m',rfl,rfl,_,rfl,hg⟩|⟨m,rfl,hlt,hbad,_⟩
 ·exact Sim.halt
 ·refine Sim.bind_ (zai F.alike e) fun x2 i i' hi=>?_
  obtain ⟨rfl,_⟩:=hi
  dsimp only []
  split
  ·exact Sim.never (zaj.bind1 (zaj.halt _))
  ·refine Sim.bind_ (zdy F (by rw [List.append_assoc];exact h0.up) (fun hl=>(hg hl).1)) fun x3 x x' e=>?_
   subst e
   exact Sim.pure_ (.int _ _)
 ·refine ⟨?_,fun w w' es hw ht=>?_,fun w w' es u w1 e1 hw hr=>?_⟩
  case refine_3 =>
   change ((typeInfo B.bad).bind _).runT P w es=_ at hr
   rw [zan] at hr
   have e0:(typeInfo B.bad).runT P w es=(.halt (.stuck "no such type") w,es):=by simp only [typeInfo,program,bind,Sem.bind,Sem.runT,F.bad,stuck]
   rw [e0] at hr
   cases hr
  case refine_2 =>
   change Fine (((typeInfo B.bad).bind _).runT P w es).1
   rw [zan]
   have e0:(typeInfo B.bad).runT P w es=(.halt (.stuck "no such type") w,es):=by simp only [typeInfo,program,bind,Sem.bind,Sem.runT,F.bad,stuck]
   rw [e0]
   exact ⟨trivial,ht⟩
  intro w w' es es' x w1 e1 hw hr
  have hr':((typeInfo B.bad).bind _).runT P w es=(.ok x w1,e1):=hr
  rw [zan] at hr'
  split at hr'
  ·rename_i hs
   exact absurd hs (zf4 F.bad _ _ _ _ _)
  ·simp at hr'
theorem Sim.vac {s:Sem α}{s1:Sem γ}{s':Sem β}{R:List Nat→α→β→Prop}(h:Sim P P' B nw s s1 (fun _ _ _=>False)): Sim P P' B nw s s' R :=
 ⟨fun w w' es es' a w1 e1 hw hr=>by obtain ⟨_,_,_,_,_,_,hF,_⟩:=h.1 w w' es es' a w1 e1 hw hr;exact hF.elim,h.2.1,h.2.2⟩
theorem zmr (F:Fit P P' B){a a':Addr}(h:ARel (cor B nw) a a')(t:TypeId){y y':Value}(hy:VRel (cor B nw) y y'):
  Sim P P' B nw (Builtin.unsafeAdd_ #[] t #[.pointer (some a),y]) (Builtin.unsafeAdd_ #[] t #[.pointer (some a'),y']) (fun m v v'=>VRel (cor B m) v v'∧∀ c,v≠.tuple c):=by
 have h0:=h
 obtain ⟨b,o,sp⟩:=a
 obtain ⟨hsp,b',d,hc,rfl⟩:=h
 simp only at hsp hc
 subst hsp
 unfold Builtin.unsafeAdd_
 dsimp only []
 refine Sim.bind_ (zcy hy) fun x1 n n' e=>?_
 subst e
 dsimp only []
 split
 ·refine Sim.bind_ (zlq (za1 hc)) fun x2 x x' hx=>?_
  obtain ⟨rfl,rfl⟩:=hx
  exact Sim.pure_ ⟨.ptr _ _ h0.up.up,fun c e=>by cases e⟩
 ·split
  ·exact Sim.never (zaj.bind1 (zaj.halt _))
  ·refine Sim.bind_ (zj2 (za1 hc)) fun x2 s s' hs=>?_
   rcases hs with ⟨rfl,rfl⟩|⟨e,m,m',rfl,rfl,rfl,rfl,hg⟩|⟨m,rfl,hlt,hbad,_⟩
   ·exact Sim.halt
   ·dsimp only []
    refine Sim.bind_ zct fun x3 p p' hp=>?_
    obtain ⟨rfl,rfl⟩:=hp
    obtain ⟨hd,hgl,hco,hby,hca⟩:=zer F.alike
    rw [hd,hco,hca,Nat.add_zero]
    split
    ·exact Sim.pure_ ⟨.ptr _ _ ⟨rfl,b',0,za1 (za1 (za1 hc)),rfl⟩,fun c e=>by cases e⟩
    ·exact Sim.halt
   ·dsimp only []
    refine Sim.vac (s1:=(do let p ← program;unsupported (α:=Value) (.unsafePointer "Add"))) ?_
    refine Sim.bind_ zct fun x3 p p' hp=>?_
    obtain ⟨rfl,rfl⟩:=hp
    rw [zt8 F.bad]
    exact Sim.halt
theorem Sim.ifUnsup {K:Sem α}{K':Sem β}{R:List Nat→α→β→Prop}{u:Unsupported}(c:Bool)(h:Sim P P' B nw K K' R)(hu:HOk (.unsupported u):=by trivial):
  Sim P P' B nw (if c=true then (do unsupported u;K) else K) (if c=true then (do unsupported u;K') else K') R:=by
 cases c
 ·simpa using h
 ·exact Sim.never (zaj.bind1 (zaj.halt _ hu))
theorem zih (t:TypeId){y y':Value}(hy:VRel (cor B nw) y y'):
  Sim P P' B nw (Builtin.unsafeAdd_ #[] t #[.pointer none,y]) (Builtin.unsafeAdd_ #[] t #[.pointer none,y']) (fun m v v'=>VRel (cor B m) v v'):=by
 unfold Builtin.unsafeAdd_
 dsimp only []
 refine Sim.bind_ (zcy hy) fun x2 n n' e=>?_
 subst e
 by_cases h0:n=0
 ·simp only [h0,if_true]
  exact Sim.never (zaj.bind1 (zaj.halt _))
 ·simp only [h0,if_false]
  by_cases h1:n<0
  ·simp only [h1,if_true]
   exact Sim.never (zaj.bind1 (zaj.halt _))
  ·simp only [h1,if_false]
   exact Sim.halt
theorem zc7 (F:Fit P P' B)(t:TypeId){x x' y y':Value}(hx:VRel (cor B nw) x x')(hy:VRel (cor B nw) y y')(hp:∃ a,x=.pointer a):
  Sim P P' B nw (movedNumber t x y) (movedNumber t x' y') (fun m v v'=>VRel (cor B m) v v'):=by
 unfold movedNumber
 refine Sim.bind_ (zae F.alike t) fun x1 dd dd' e=>?_
 obtain ⟨rfl,_⟩:=e
 obtain ⟨a,rfl⟩:=hp
 cases hx with
 | nilp=>exact Sim.ifUnsup _ (zih t hy.up)
 | ptr a a' ha =>
   refine Sim.ifUnsup _ ?_
   refine Sim.bind_ (zbd ha.up) fun x2 q q' hq=>?_
   obtain ⟨c,l⟩:=q
   obtain ⟨c',l'⟩:=q'
   obtain ⟨rfl,hq⟩:=hq
   dsimp only [] at hq ⊢
   refine Sim.bind_ (zmr F hq t hy.up.up) fun x3 v v' hv=>?_
   obtain ⟨hv,hnt⟩:=hv
   cases hv with
   | any v' h=>exact absurd rfl (hnt _)
   | gap a' h=>exact Sim.pure_ (.gap a' h)
   | ptr a2 a2' h2=>exact zn4 h2 _
   | nilp=>exact Sim.pure_ .nilp
   | bool b=>exact Sim.pure_ (.bool b)
   | int k n=>exact Sim.pure_ (.int k n)
   | string s=>exact Sim.pure_ (.string s)
   | nils n c=>exact Sim.pure_ (.nils n c)
   | slice a a' n c h=>exact Sim.pure_ (.slice a a' n c h)
   | nilFunc=>exact Sim.pure_ .nilFunc
   | nilIface=>exact Sim.pure_ .nilIface
   | func f f' x x' c c' h hx hc ex ec=>exact Sim.pure_ (.func f f' x x' c c' h hx hc ex ec)
   | iface t v v' h=>exact Sim.pure_ (.iface t v v' h)
   | agg c c' hc ec=>exact Sim.pure_ (.agg c c' hc ec)
   | tuple c c' hc ec=>exact Sim.pure_ (.tuple c c' hc ec)
def zib (P:Program)(t:TypeId): Prop:=((∃ k,P.underlying t=some (.int k))∨P.underlying t=some .string∨P.underlying t=some .bool)∧∀ i u,P.info? t=some i→i.desc≠.named "sync.copyChecker" u
theorem zpo (F:Fit P P' B){a a' c c':Addr}(h:ARel (cor B nw) a a')(h2:ARel (cor B nw) c c')(e1:a.block=c.block)(e2:a.block<P.globals.size){xt:List Nat}{s:Sem α}{s':Sem β}{R:List Nat→α→β→Prop}(hk:(a'.block == c'.block && decide (a'.block<P'.globals.size))=true→Sim P P' B (nw++xt) s s' R): Sim P P' B (nw++xt) s s' R:=by
 have eq0:∀ w w',WRel B (nw++xt) w w'→a'.block=a.block∧c'.block=a.block:=by
  intro w w' hw
  obtain ⟨_,b',d,hcb,rfl⟩:=h.up (xt:=xt)
  obtain ⟨_,b2,d2,hcb2,rfl⟩:=h2.up (xt:=xt)
  simp only
  have hlt:a.block<B.G:=by rw [F.G];exact e2
  obtain ⟨o,o',q1,q2,q3⟩:=hw.block hcb
  rw [← e1,hcb] at hcb2
  cases hcb2
  rcases q3 with ⟨hb,q3⟩|⟨i,hbi,rfl,hni,q3⟩
  ·cases q3 with
   | cells _ _ _ _ _ _ _ _ hg _ =>
     rcases hg with ⟨_,rfl,_⟩|⟨_,hG,_⟩
     ·exact ⟨rfl,rfl⟩
     ·omega
   | dull _ _ _ hg _=>have:=hg.2;omega
   | num _ _ _ _ hg _=>have:=hg.2;omega
  ·have:=F.GN;omega
 have eq2:∀ w w',WRel B (nw++xt) w w'→(a'.block == c'.block && decide (a'.block<P'.globals.size))=true:=fun w w' hw=>by
  rw [(eq0 w w' hw).1,(eq0 w w' hw).2,(zer F.alike).2.1];simpa using e2
 exact ⟨fun w w' es es' x w1 e1' hw hr=>(hk (eq2 w w' hw)).1 w w' es es' x w1 e1' hw hr,fun w w' es hw ht=>(hk (eq2 w w' hw)).2.1 w w' es hw ht,fun w w' es a w1 e1 hw hr=>(hk (eq2 w w' hw)).2.2 w w' es a w1 e1 hw hr⟩
theorem zn2 (F:Fit P P' B){t:TypeId}(hT:zib P t){x x' y y':Value}(hx:VRel (cor B nw) x x')(hy:VRel (cor B nw) y y'): Sim P P' B nw (Op.equal t x y) (Op.equal t x' y') (fun _ a b=>a=b):=by
 unfold Op.equal Op.maxDepth
 unfold Op.equalIn
 refine Sim.bind_ (zae F.alike t) fun x1 d d' e=>?_
 obtain ⟨rfl,hu⟩:=e
 have hx:=hx.up (xt:=x1)
 have hy:=hy.up (xt:=x1)
 obtain ⟨hT,hcc⟩:=hT
 rcases hT with ⟨k,hT⟩|hT|hT <;> rw [hT] at hu <;> cases hu
 ·cases hx <;> cases hy <;> first
   | exact Sim.halt
   | (dsimp only [];split <;> first|exact Sim.pure_ rfl|exact Sim.halt)
   | skip
  ·rename_i k2 n a a' h
   cases n with
   | ofNat q=>cases q with
     | zero=>exact Sim.pure_ rfl
     | succ q=>exact Sim.halt
   | negSucc q=>exact Sim.halt
  ·rename_i a a' h k2 n
   cases n with
   | ofNat q=>cases q with
     | zero=>exact Sim.pure_ rfl
     | succ q=>exact Sim.halt
   | negSucc q=>exact Sim.halt
  ·rename_i a a' h b b' h2
   refine Sim.bind_ (zbd h) fun x2 q q' hq=>?_
   refine Sim.bind_ (zbd h2.up) fun x3 r r' hr=>?_
   dsimp only []
   refine Sim.bind_ zct fun x4 p p' hp=>?_
   obtain ⟨rfl,rfl⟩:=hp
   have hq:=hq.2.up (xt:=x3)
   have hr:=hr.2
   by_cases hc:(q.1.block == r.1.block && decide (q.1.block<p.globals.size))=true
   ·rw [if_pos hc]
    simp only [Bool.and_eq_true,beq_iff_eq,decide_eq_true_eq] at hc
    have g1:B.good q.1.block=true:=F.good _ (by rw [F.G];exact hc.2)
    have g2:B.good r.1.block=true:=by rw [← hc.1];exact g1
    refine zpo F (xt:=x4) hq hr hc.1 hc.2 (fun hc'=>?_)
    rw [if_pos hc']
    refine Sim.bind_ (zdy F hq.up (fun _=>g1)) fun x5 y y' e=>?_
    subst e
    refine Sim.bind_ (zdy F hr.up.up (fun _=>g2)) fun x6 z z' e=>?_
    subst e
    exact Sim.pure_ rfl
   ·rw [if_neg hc]
    refine ⟨?_,fun w w' es hw ht=>?_,fun w w' es u w1 e1 hw hr=>?_⟩
    case refine_3 =>
     exfalso
     change ((typeInfo t).bind _).runT p w es=_ at hr
     rw [zan] at hr
     cases hi:p.info? t with
     | none =>
       have e0:(typeInfo t).runT p w es=(.halt (.stuck "no such type") w,es):=by simp only [typeInfo,program,bind,Sem.bind,Sem.runT,hi,stuck]
       rw [e0] at hr
       cases hr
     | some i =>
       have e0:(typeInfo t).runT p w es=(.ok i w,es):=by simp only [typeInfo,program,bind,Sem.bind,Sem.runT,hi,pure]
       rw [e0] at hr
       dsimp only [] at hr
       split at hr
       ·rename_i hd
        exact absurd hd (hcc i _ hi)
       ·cases hr
    case refine_2 =>
     change Fine (((typeInfo t).bind _).runT p w es).1
     rw [zan]
     cases hi:p.info? t with
     | none =>
       have e0:(typeInfo t).runT p w es=(.halt (.stuck "no such type") w,es):=by simp only [typeInfo,program,bind,Sem.bind,Sem.runT,hi,stuck]
       rw [e0]
       exact ⟨trivial,ht⟩
     | some i =>
       have e0:(typeInfo t).runT p w es=(.ok i w,es):=by simp only [typeInfo,program,bind,Sem.bind,Sem.runT,hi,pure]
       rw [e0]
       dsimp only []
       split
       ·rename_i hd
        exact absurd hd (hcc i _ hi)
       ·exact ⟨trivial,ht⟩
    intro w w' es es' x w1 e1 hw hrun
    exfalso
    have hr':((typeInfo t).bind _).runT p w es=(.ok x w1,e1):=hrun
    rw [zan] at hr'
    cases hi:p.info? t with
    | none =>
      split at hr'
      ·rename_i hs
       exact zf4 hi _ _ _ _ _ hs
      ·simp at hr'
    | some i =>
      have e0:(typeInfo t).runT p w es=(.ok i w,es):=by simp only [typeInfo,program,bind,Sem.bind,Sem.runT,hi,pure]
      rw [e0] at hr'
      dsimp only [] at hr'
      split at hr'
      ·rename_i hd
       exact hcc i _ hi hd
      ·simp [unsupported,Sem.runT] at hr'
 ·cases hx <;> cases hy <;> first|exact Sim.halt|exact Sim.pure_ rfl
 ·cases hx <;> cases hy <;> first|exact Sim.halt|exact Sim.pure_ rfl
end
end
section
variable [Exts]
section
variable {α β γ δ:Type} {P P':Program} {B:Bas} {nw:List Nat}
theorem zi5 (op:BinOp)(k:IntKind)(x y:Int): Sim P P' B nw (Op.intArith op k x y) (Op.intArith op k x y) (fun m v v'=>VRel (cor B m) v v'):=by
 cases op <;> first|exact Sim.pure_ (.int _ _)|exact Sim.halt
theorem zsw (op:BinOp)(k:IntKind)(x y:Int): Sim P P' B nw (Op.intDiv op k x y) (Op.intDiv op k x y) (fun m v v'=>VRel (cor B m) v v'):=by
 unfold Op.intDiv
 split
 ·exact Sim.rtPanic
 ·cases op <;> first|exact Sim.pure_ (.int _ _)|exact Sim.halt
theorem zj6 (op:BinOp)(k:IntKind)(x y:Int): Sim P P' B nw (Op.intBits op k x y) (Op.intBits op k x y) (fun m v v'=>VRel (cor B m) v v'):=by
 cases op <;> first|exact Sim.pure_ (.int _ _)|exact Sim.halt
theorem zva (op:BinOp)(k:IntKind)(x:Int)(k2:IntKind)(y:Int): Sim P P' B nw (Op.shift op k x k2 y) (Op.shift op k x k2 y) (fun m v v'=>VRel (cor B m) v v'):=by
 unfold Op.shift
 split
 ·exact Sim.rtPanic
 ·cases op <;> first|exact Sim.pure_ (.int _ _)|exact Sim.halt
theorem zsx (op:BinOp)(x y:Int): Sim P P' B nw (Op.intCmp op x y) (Op.intCmp op x y) (fun m v v'=>VRel (cor B m) v v'):=by
 cases op <;> first|exact Sim.pure_ (.bool _)|exact Sim.halt
theorem zi4 (op:BinOp)(x y:ByteArray): Sim P P' B nw (Op.stringOp op x y) (Op.stringOp op x y) (fun m v v'=>VRel (cor B m) v v'):=by
 unfold Op.stringOp
 cases op <;> first
  | exact Sim.pure_ (.bool _)
  | exact Sim.halt
  | (dsimp only [];split <;> first|exact Sim.halt|exact Sim.pure_ (.string _))
theorem zyz (op:BinOp)(t:TypeId)(k:IntKind)(a:Int)(k':IntKind)(b:Int): Sim P P' B nw (binOp op t (.int k a) (.int k' b)) (binOp op t (.int k a) (.int k' b)) (fun m v v'=>VRel (cor B m) v v'):=by
 cases op <;> unfold binOp <;> dsimp only [] <;> first
  | exact zva _ _ _ _ _
  | (split
     ·exact Sim.halt
     ·first|exact zi5 _ _ _ _|exact zsw _ _ _ _|exact zj6 _ _ _ _|exact zsx _ _ _)
theorem zpl (op:BinOp)(t:TypeId)(a b:ByteArray): Sim P P' B nw (binOp op t (.string a) (.string b)) (binOp op t (.string a) (.string b)) (fun m v v'=>VRel (cor B m) v v'):=by
 cases op <;> unfold binOp <;> dsimp only [] <;> first
  | exact zi4 _ _ _
  | exact Sim.halt
theorem zj8 {a a' c c':Addr}(h:ARel (cor B nw) a a')(h2:ARel (cor B nw) c c'){f f':Addr→Addr→Sem Value}(hf:∀ m x x' y y',ARel (cor B m) x x'→ARel (cor B m) y y'→Sim P P' B m (f x y) (f' x' y') (fun m v v'=>VRel (cor B m) v v')):
  Sim P P' B nw (do f (← behindNumber a).1 (← behindNumber c).1) (do f' (← behindNumber a').1 (← behindNumber c').1) (fun m v v'=>VRel (cor B m) v v'):=by
 refine Sim.bind_ (zbd h) fun x1 q q' hq=>?_
 refine Sim.bind_ (zbd h2.up) fun x2 r r' hr=>?_
 exact hf _ _ _ _ _ hq.2.up hr.2
theorem zpz {a a':Addr}(h:ARel (cor B nw) a a'){f f':Addr→Sem Value}(hf:∀ m x x',ARel (cor B m) x x'→Sim P P' B m (f x) (f' x') (fun m v v'=>VRel (cor B m) v v')):
  Sim P P' B nw (do f (← behindNumber a).1) (do f' (← behindNumber a').1) (fun m v v'=>VRel (cor B m) v v'):=by
 refine Sim.bind_ (zbd h) fun x1 q q' hq=>?_
 exact hf _ _ _ hq.2
theorem z11 (F:Fit P P' B){t:TypeId}(hT:zib P t){x x' y y':Value}(hx:VRel (cor B nw) x x')(hy:VRel (cor B nw) y y'): Sim P P' B nw (do pure (.bool (← Op.equal t x y))) (do pure (.bool (← Op.equal t x' y'))) (fun m v v'=>VRel (cor B m) v v') :=
 Sim.bind_ (zn2 F hT hx hy) fun x1 a b e=>by subst e;exact Sim.pure_ (.bool _)
theorem z10 (F:Fit P P' B){t:TypeId}(hT:zib P t){x x' y y':Value}(hx:VRel (cor B nw) x x')(hy:VRel (cor B nw) y y'): Sim P P' B nw (do pure (.bool (!(← Op.equal t x y)))) (do pure (.bool (!(← Op.equal t x' y')))) (fun m v v'=>VRel (cor B m) v v') :=
 Sim.bind_ (zn2 F hT hx hy) fun x1 a b e=>by subst e;exact Sim.pure_ (.bool _)
set_option maxHeartbeats 4000000 in
theorem zny (F:Fit P P' B){t:TypeId}(hT:zib P t){x y:Value}(ho:x=.tuple #[]∨y=.tuple #[]): Sim P P' B nw (Op.equal t x y) (do let d ← underlying t;stuck (α:=Bool) "") (fun _ _ _=>False):=by
 unfold Op.equal Op.maxDepth
 unfold Op.equalIn
 refine Sim.bind_ (zae F.alike t) fun x1 d d' e=>?_
 obtain ⟨rfl,hu⟩:=e
 rcases hT.1 with ⟨k,h⟩|h|h <;> rw [h] at hu <;> cases hu <;> rcases ho with rfl|rfl
 all_goals first
  | (cases y <;> exact Sim.halt)
  | (cases x <;> first
    | exact Sim.halt
    | (rename_i p;cases p <;> exact Sim.halt)
    | (rename_i k n;cases n <;> first|exact Sim.halt|(rename_i q;cases q <;> exact Sim.halt)))
theorem zrc (F:Fit P P' B){t:TypeId}(hT:zib P t){x y:Value}(ho:x=.tuple #[]∨y=.tuple #[]){s':Sem β}{R:List Nat→Value→β→Prop}: Sim P P' B nw (do pure (.bool (← Op.equal t x y)):Sem Value) s' R :=
 Sim.vac (Sim.bind_ (k':=fun _=>stuck (α:=Bool) "") (zny F hT ho) fun xt a b h=>h.elim)
theorem zrb (F:Fit P P' B){t:TypeId}(hT:zib P t){x y:Value}(ho:x=.tuple #[]∨y=.tuple #[]){s':Sem β}{R:List Nat→Value→β→Prop}: Sim P P' B nw (do pure (.bool (!(← Op.equal t x y))):Sem Value) s' R :=
 Sim.vac (Sim.bind_ (k':=fun _=>stuck (α:=Bool) "") (zny F hT ho) fun xt a b h=>h.elim)
set_option maxHeartbeats 2000000 in
theorem zvd (F:Fit P P' B){t:TypeId}(hT:zib P t)(op:BinOp){x x' y y':Value}(hx:VRel (cor B nw) x x')(hy:VRel (cor B nw) y y'): Sim P P' B nw (binOp op t x y) (binOp op t x' y') (fun m v v'=>VRel (cor B m) v v'):=by
 have E1:=z11 F hT hx hy
 have E2:=z10 F hT hx hy
 have hu:P.underlying t≠some .unsafePointer:=by
  intro h
  rcases hT.1 with ⟨k,h2⟩|h2|h2 <;> rw [h] at h2 <;> cases h2
 have hxp:=hx
 have hyp:=hy
 have MN:∀ {x x' y y':Value},VRel (cor B nw) x x'→VRel (cor B nw) y y'→(∃ a,x=.pointer a)→Sim P P' B nw (do if (← underlying t) matches .unsafePointer then movedPointer t x y else movedNumber t x y) (do if (← underlying t) matches .unsafePointer then movedPointer t x' y' else movedNumber t x' y') (fun m v v'=>VRel (cor B m) v v'):=by
  intro x x' y y' hx hy hp
  refine Sim.bind_ (zae F.alike t) fun x1 d d' e=>?_
  obtain ⟨rfl,hd⟩:=e
  cases d <;> first
   | exact absurd hd hu
   | exact zc7 F t hx.up hy.up hp
 cases op <;> cases hx <;> cases hy <;> first
  | exact Sim.halt
  | exact zyz _ _ _ _ _ _
  | exact zpl _ _ _ _
  | exact E1
  | exact E2
  | exact zrc F hT (.inl rfl)
  | exact zrc F hT (.inr rfl)
  | exact zrb F hT (.inl rfl)
  | exact zrb F hT (.inr rfl)
  | exact MN hxp hyp ⟨_,rfl⟩
  | exact zc7 F t hyp hxp ⟨_,rfl⟩
  | exact zc7 F t hxp (.int _ _) ⟨_,rfl⟩
  | exact zj8 (by assumption) (by assumption) (fun m x x' y y' h1 h2=>zp0 F h1 h2 _)
  | exact zj8 (by assumption) (by assumption) (fun m x x' y y' h1 h2=>zp2 F h1 h2 _)
  | exact zpz (by assumption) (fun m x x' h1=>zp1 F h1 _ _)
end
end
end Go.Proofs.YtelgmbomkojmaaaDoor
