/- A pack: Ba Bb Bc Bd Be Bf Bg Bh Bi. -/
import Derived.Test.YtelgmbomkojmaaaDoorQLac
import Derived.Test.YtelgmbomkojmaaaDoorQLad
import Derived.Test.YtelgmbomkojmaaaDoorQLaa
import Derived.Test.YtelgmbomkojmaaaDoorQLab
import Derived.Deep.MidRow
import Derived.Orders
namespace Go.Proofs.YtelgmbomkojmaaaDoor
set_option linter.all false
set_option maxRecDepth 100000
section
open Go.RowKit
def fewP (L:List (List Int))(m:Nat): Prop:=(∀ xs∈L,xs.length≤600)∧L.length≤m
instance (L:List (List Int)) (m:Nat):Decidable (fewP L m):=by unfold fewP;infer_instance
def fewB (L:List (List Int))(m:Nat): Bool:=decide (fewP L m)
def z49 (w:World)(L:List (List Int))(m:Nat)(e:Ending)(w':World): Prop:=∃ b,e=.returned (.bool b)∧b=fewB L m∧w=w'
set_option maxHeartbeats 600000 in
theorem z24 (A:Option Addr)(n c M:Nat)(vs:List Value)(L:List (List Int))(w:World)(hn:vs.length=n)(hmx:n≤maxLen)(hM:M≤1000)(hx:Rd w A vs)(hp:zdh w vs L):
  Calls Lead.prog 9 #[.slice A n c,.int .i64 M] w (z49 w L M):=by
 unfold maxLen at hmx
 have HN:=Lib.hid hn
 have HX:=Lib.hid hx
 have HP:=Lib.hid hp
 have hL:L.length=n:=by rw [← hp.1];exact hn
 have HL:=Lib.hid hL
 clear hn hx hp hL
 go_enter Lead.func9,Tryd.ntmps9
 go_wp2_with fail
 go_loop [9] (fun i=>∃ k:Nat,k≤n∧i=.int .i64 k∧∀ j,j<k→(L.getD j []).length≤600) (fun i=>n - (intOf i).toNat)
 case atStart=>exact ⟨0,Nat.zero_le _,rfl,fun j hj=>by omega⟩
 case round =>
  obtain ⟨k,hk,rfl,hall⟩:=hrel
  have HA:=Lib.hid hall
  clear hall
  by_cases hlt:k<n
  ·have r1:(k:Int)<n:=by omega
   obtain ⟨b,o,rfl,hlb,hc⟩:=HX.out.at_ (by rw [HN.out];omega)
   have ck:=hc k _ (znr (by rw [HN.out];exact hlt))
   obtain ⟨A1,c1,hv,h1,h2,hr⟩:=HP.out.2 k (by rw [HL.out];exact hlt)
   rw [hv] at ck
   obtain ⟨m,hm⟩:∃ m,m=(L.getD k []).length:=⟨_,rfl⟩
   rw [← hm] at ck h1
   have HM:=Lib.hid hm
   unfold maxLen at h2
   clear hc hv hm hr
   by_cases hbig:600<m
   ·have r2:(600:Int)<m:=by omega
    go_wp2_with fail
    go_ret
    refine ⟨false,rfl,?_,rfl⟩
    symm
    rw [fewB,decide_eq_false_iff_not]
    rintro ⟨hh,_⟩
    have:=hh (L.getD k []) (by rw [List.getD,List.getElem?_eq_getElem (show k<L.length by rw [HL.out];exact hlt)];exact List.getElem_mem _)
    rw [← HM.out] at this
    omega
   ·have r2:¬ (600:Int)<m:=by omega
    go_wp2_with fail
    refine ⟨⟨k+1,by omega,by congr 1,fun j hj=>?_⟩,by show n - ((k:Int)+1).toNat<n - (k:Int).toNat;omega⟩
    by_cases e:j=k
    ·subst e;rw [← HM.out];omega
    ·exact HA.out j (by omega)
  ·have hkn:n=k:=by omega
   subst hkn
   go_wp2_with fail
   go_ret
   refine ⟨_,rfl,?_,rfl⟩
   have h1:∀ xs∈L,xs.length≤600:=fun xs hxs=>by
    obtain ⟨i,hi,rfl⟩:=List.mem_iff_getElem.1 hxs
    have:=HA.out i (by rw [← HL.out];exact hi)
    simpa [List.getD,hi] using this
   rw [fewB]
   by_cases h:n≤M
   ·rw [decide_eq_true h,decide_eq_true (show fewP L M from ⟨h1,by rw [HL.out];exact h⟩)]
   ·rw [decide_eq_false h,decide_eq_false (fun hh:fewP L M=>h (by have:=hh.2;rw [HL.out] at this;exact this))]
end
section
open Go.RowKit
theorem zxu (A:Option Addr)(n c:Nat)(bs:List Int)(w:World)(hn:bs.length=n)(hmx:n≤100000)(hnc:n≤c)(hx:Rd w A (nums .u8 bs))(hB:Byt bs):
  Calls Lead.prog 32 #[.slice A n c,.int .i64 0,.int .i64 0] w fun e w'=>e=.returned (.slice none 0 0)∧w=w':=by
 have HN:=Lib.hid hn
 have HX:=Lib.hid hx
 have HB:=Lib.hid hB
 have r0:¬ (c:Int)<n:=by omega
 have r9:¬ (1000000:Int)<n:=by omega
 clear hn hx hB
 go_enter Lead.func32,Lead.ntmps32
 delta Lead.chk Lead.k0 Lead.k1 Lead.each Lead.k2 Lead.k3 Lead.k4 Lead.no
 go_wp2_with fail
 go_loop [7] (fun i=>∃ k:Nat,k≤n∧i=.int .i64 k) (fun i=>n - (intOf i).toNat)
 case atStart=>exact ⟨0,Nat.zero_le _,rfl⟩
 case round =>
  obtain ⟨k,hk,rfl⟩:=hrel
  by_cases hlt:k<n
  ·have r1:(k:Int)<n:=by omega
   obtain ⟨b,o,rfl,hlb,hc⟩:=HX.out.at_ (by simp [HN.out];omega)
   have ck:=hc k _ (za9 (by rw [HN.out];exact hlt))
   have hb:=HB.out (bs.getD k 0) (by rw [List.getD,List.getElem?_eq_getElem (show k<bs.length by rw [HN.out];exact hlt)];exact List.getElem_mem _)
   obtain ⟨x,hx⟩:∃ x,x=bs.getD k 0:=⟨_,rfl⟩
   rw [← hx] at ck hb
   have r2:(-1:Int)<x:=by omega
   have r3:x<256:=by omega
   clear hc hx hb
   go_wp2_with fail
   exact ⟨⟨k+1,by omega,by congr 1⟩,by show n - ((k:Int)+1).toNat<n - (k:Int).toNat;omega⟩
  ·have hkn:n=k:=by omega
   subst hkn
   go_wp2_with fail
   go_ret
   exact ⟨rfl,rfl⟩
def zo9 (w:World)(v:Value)(xs:List Int): Prop:=∃ A c,v=.slice A xs.length c∧xs.length≤c∧Rd w A (nums .u8 xs)
theorem zo9.below {w w':World}{v:Value}{xs:List Int}(h:zo9 w v xs)(hb:Below w.heap.size w w'): zo9 w' v xs:=by
 obtain ⟨A,c,rfl,h1,hr⟩:=h
 exact ⟨A,c,rfl,h1,hr.below hb⟩
def zf8 (w:World)(vs:List Value)(L:List (List Int)): Prop:=vs.length=L.length∧∀ i,i<L.length→zo9 w (vs.getD i undef) (L.getD i [])
theorem zf8.below {w w':World}{vs:List Value}{L:List (List Int)}(h:zf8 w vs L)(hb:Below w.heap.size w w'): zf8 w' vs L:=⟨h.1,fun i hi=>(h.2 i hi).below hb⟩
noncomputable def zc3 (sv:List Int)(hop hops:Int)(L:List (List Int)): Nat→List Nat
 | 0=>[]
 | k+1=>zc3 sv hop hops L k++(if zds sv hop hops (L.getD k [])=0 then [k] else [])
noncomputable def za4 (sv:List Int)(hop hops:Int)(L:List (List Int)): List Nat:=zc3 sv hop hops L L.length
theorem zjp {sv:List Int}{hop hops:Int}{L:List (List Int)}: ∀ k p,p∈zc3 sv hop hops L k→p<k∧zds sv hop hops (L.getD p [])=0
 | 0,p,h=>by cases h
 | k+1,p,h=>by
   rw [zc3] at h
   rcases List.mem_append.1 h with h|h
   ·have:=zjp k p h
    exact ⟨by omega,this.2⟩
   ·split at h
    ·simp at h;subst h;exact ⟨by omega,by assumption⟩
    ·cases h
theorem zkx {sv:List Int}{hop hops:Int}{L:List (List Int)}: ∀ k,(zc3 sv hop hops L k).length≤k
 | 0=>Nat.le_refl _
 | k+1=>by
   rw [zc3,List.length_append]
   have:=zkx (sv:=sv) (hop:=hop) (hops:=hops) (L:=L) k
   split <;> simp <;> omega
def not8:Value→Bool
 | .int .u8 _=>false
 | _=>true
structure PRow (w:World)(g m:Nat)(F:Nat→List Value): Prop where
 lt:g<w.heap.size
 row:∀ p,p<m→w.rangeAt g (4 * p) (F p)
 len:∀ p,p<m→(F p).length=4
 may:w.there g 0 (4 * m)
 no8:∀ i v,w.cell? ⟨g,i,none⟩=some v→not8 v=true
theorem PRow.below {w w':World}{g m B:Nat}{F:Nat→List Value}(h:PRow w g m F)(hb:Below B w w')(hlt:g<B): PRow w' g m F :=
 ⟨Nat.lt_of_lt_of_le h.lt hb.size,fun p hp j v hv=>(hb.cell (p:=⟨g,4 * p+j,none⟩) hlt).trans (h.row p hp j v hv),h.len,
  fun j hj=>⟨by rw [hb.cell (p:=⟨g,0+j,none⟩) hlt];exact (h.may j hj).1,(hb.frozen (p:=⟨g,0+j,none⟩) hlt).trans (h.may j hj).2⟩,fun i v hv=>h.no8 i v ((hb.cell (p:=⟨g,i,none⟩) hlt).symm.trans hv)⟩
theorem PRow.there {w:World}{g m k:Nat}{F:Nat→List Value}(h:PRow w g m F)(hk:k<m): w.there g (4 * k) 4:=fun j hj=>by
 have:=h.may (4 * k+j) (by omega)
 rwa [Nat.zero_add] at this
theorem PRow.put {w:World}{g m k:Nat}{F:Nat→List Value}(h:PRow w g m F)(hk:k<m)(vs:List Value)(hl:vs.length=4)(h8:∀ v∈vs,not8 v=true): PRow (w.setCells g (4 * k) vs) g m (fun p=>if p=k then vs else F p):=by
 have ht:=h.there hk
 refine ⟨by rw [zaq];exact h.lt,fun p hp=>?_,fun p hp=>?_,World.there_setCells h.may _ _ _,fun i v hv=>?_⟩
 ·by_cases e:p=k
  ·subst e
   simp only [if_pos]
   exact World.rangeAt_setCells_same _ _ _ _ (by rw [hl];exact ht)
  ·simp only [if_neg e]
   exact World.rangeAt_setCells_apart (h.row p hp) _ _ _ (.inr (by rw [h.len p hp,hl];omega))
 ·split
  ·exact hl
  ·exact h.len p hp
 ·by_cases hi:4 * k≤i∧i<4 * k+4
  ·obtain ⟨j,rfl⟩:∃ j,i=4 * k+j:=⟨i - 4 * k,by omega⟩
   rw [World.cell?_setCells_in g vs (4 * k) w (fun j hj=>(ht j (by omega)).1) j (by omega)] at hv
   cases hv
   exact h8 _ (List.getElem_mem _)
  ·rw [World.cell?_setCells_out g vs (4 * k) w ⟨g,i,none⟩ (fun _ _=>by show i<4 * k∨_;rw [hl];show _∨4 * k+4≤i;omega)] at hv
   exact h.no8 i v hv
def RdA (g:Nat)(w:World)(A:Option Addr)(vs:List Value): Prop:=vs=[]∨∃ b off,A=some ⟨b,off,none⟩∧b≠g∧b<w.heap.size∧∀ i v,vs[i]?=some v→w.cell? ⟨b,off+i,none⟩=some v
theorem RdA.rd {g:Nat}{w:World}{A:Option Addr}{vs:List Value}(h:RdA g w A vs): Rd w A vs:=h.elim .inl fun ⟨b,off,h1,_,h3,h4⟩=>.inr ⟨b,off,h1,h3,h4⟩
theorem Rd.apart {g m:Nat}{w:World}{A:Option Addr}{xs:List Int}{F:Nat→List Value}(h:Rd w A (nums .u8 xs))(hP:PRow w g m F): RdA g w A (nums .u8 xs):=by
 rcases h with h|⟨b,off,h1,h2,h3⟩
 ·exact .inl h
 ·cases xs with
  | nil=>exact .inl rfl
  | cons x xs =>
    refine .inr ⟨b,off,h1,fun e=>?_,h2,h3⟩
    subst e
    have:=hP.no8 _ _ (h3 0 _ rfl)
    cases this
theorem RdA.below {g B:Nat}{w w':World}{A:Option Addr}{vs:List Value}(h:RdA g w A vs)(hb:Below w.heap.size w w'): RdA g w' A vs:=by
 rcases h with h|⟨b,off,h1,h2,h3,h4⟩
 ·exact .inl h
 ·exact .inr ⟨b,off,h1,h2,Nat.lt_of_lt_of_le h3 hb.size,fun i v hv=>(hb.cell (p:=⟨b,off+i,none⟩) h3).trans (h4 i v hv)⟩
theorem RdA.far {g:Nat}{w w':World}{A:Option Addr}{vs:List Value}(h:RdA g w A vs)(hb:∀ i,i≠g→w'.heap[i]?=w.heap[i]?)(hs:w'.heap.size=w.heap.size): RdA g w' A vs:=by
 rcases h with h|⟨b,off,h1,h2,h3,h4⟩
 ·exact .inl h
 ·exact .inr ⟨b,off,h1,h2,by omega,fun i v hv=>(World.cell?_of_block (a:=⟨b,off+i,none⟩) (hb b h2)).trans (h4 i v hv)⟩
theorem zc4 (q:Nat): ∀ (vs:List Value) (o:Nat) (w:World) (i:Nat),i≠q→(w.setCells q o vs).heap[i]?=w.heap[i]?
 | [],_,_,_,_=>rfl
 | v :: r,o,w,i,h=>by rw [World.setCells,zc4 q r (o+1) _ i h];exact zay w (a:=⟨q,o,none⟩) h
theorem z2t:(Lead.prog.info? 54).map (·.size)=some 4:=by kernel_rfl
theorem z1e:(Lead.prog.info? 54).map (fun i=>(i.zero,i.size,i.bytes))=some (some (.agg #[.int .i64 0,.bool false,.slice none 0 0,.slice none 0 0]),4,64):=by kernel_rfl
theorem z05 {ops:Array Oper}{rest:List Oper}{op:Oper}{a:Act}{w:World}{Q:Exit→Act→World→Prop}(hgd:op.guard=none)(x y:Operand)(ho:op.op=.store 54 x y)(g m k:Nat)(F:Nat→List Value)(v0 v1 v2 v3:Value)(hx:a.eval x=.pointer (some ⟨g,k * 4,none⟩))(hy:a.eval y=.agg #[v0,v1,v2,v3])(hP:PRow w g m F)(hk:k<m)(h1:#[v0,v1,v2,v3].all (·.oneCell')=true)(h8:∀ v∈[v0,v1,v2,v3],not8 v=true)(h:∀ W5:World,PRow W5 g m (fun p=>if p=k then [v0,v1,v2,v3] else F p)→(∀ i,i≠g→W5.heap[i]?=w.heap[i]?)→W5.heap.size=w.heap.size→(∀ W:World,W.heap.size≤g→Below W.heap.size W w→Below W.heap.size W W5)→wpList Lead.prog ops Q rest (a.put op.dst undef) W5): wpList Lead.prog ops Q (op :: rest) a w :=
 wpList_store_mid hgd 54 x y ho g (4 * k) #[v0,v1,v2,v3] (by rw [hx,Nat.mul_comm]) hy (hP.there hk) z2t h1
  (h _ (hP.put hk [v0,v1,v2,v3] rfl h8) (fun i hi=>zc4 g _ _ _ i hi) (zaq g _ _ _) (fun W hq hb=>zas hq _ _ hb))
theorem zvx {w w1:World}{m:Nat}(hown:w1.ownsRow w.heap.size 54 4 (.slice (some ⟨w.heap.size,0,none⟩) m m) m (madeCells (Value.agg #[.int .i64 0,.bool false,.slice none 0 0,.slice none 0 0]).cells (m * 4)).toList)(hg:w.grownBy w1 none):
  PRow w1 w.heap.size m (fun _=>[.int .i64 0,.bool false,.slice none 0 0,.slice none 0 0])∧Below w.heap.size w w1∧w.heap.size<w1.heap.size:=by
 have hb:Below w.heap.size w w1:=brf.grown hg (Nat.le_refl _) (fun k e=>by cases e)
 rcases hown.2 with ⟨h1,_⟩|⟨g,cap,cur,h1,_,hh,h2,h3,h4,h5⟩
 ·cases h1
 ·cases h1
  have hlt:=(Array.getElem?_eq_some_iff.1 hh).1
  have hcur:cur.toList=(madeCells (Value.agg #[.int .i64 0,.bool false,.slice none 0 0,.slice none 0 0]).cells (m * 4)).toList:=by
   rw [← h5,List.take_of_length_le (by simp [h4])]
  have key:∀ i,i<m * 4→w1.cell? ⟨w.heap.size,i,none⟩=some (#[Value.int .i64 0,.bool false,.slice none 0 0,.slice none 0 0][i % 4]!):=fun i hi=>by
   unfold World.cell?
   rw [hh]
   have e1:cur[i]?=cur.toList[i]?:=by simp
   show cur[i]?=_
   rw [e1,hcur]
   simp [madeCells,hi,Value.cells]
  refine ⟨⟨hlt,fun p hp j v hv=>?_,fun _ _=>rfl,fun j hj=>⟨by rw [Nat.zero_add,key j (by omega)];rfl,by simp [World.frozen?,hh]⟩,fun i v hv=>?_⟩,hb,hlt⟩
  ·have hj:j<4:=(List.getElem?_eq_some_iff.1 hv).1
   rw [key (4 * p+j) (by omega),show (4 * p+j) % 4=j by omega,← hv]
   match j,hj with
   | 0,_=>rfl
   | 1,_=>rfl
   | 2,_=>rfl
   | 3,_=>rfl
  ·rcases Nat.lt_or_ge i (m * 4) with hi|hi
   ·rw [key i hi] at hv
    cases hv
    have:i % 4<4:=Nat.mod_lt _ (by omega)
    match h:i % 4,this with
    | 0,_=>rfl
    | 1,_=>rfl
    | 2,_=>rfl
    | 3,_=>rfl
   ·unfold World.cell? at hv
    rw [hh] at hv
    have hv:cur[i]?=some v:=hv
    rw [Array.getElem?_eq_none (by omega)] at hv
    cases hv
theorem zmu {P:Program}(w:World)(t ty:TypeId)(base:Nat)(e:TypeId)(i:TypeInfo)(z:Value)(size bytes:Nat)(ht:P.underlying t=some (.slice e))(hi:P.info? e=some i)(hz:i.zero=some z)(hsize:i.size=size)(hby:i.bytes=bytes)(hzs:z.cells.size=size)(hsz:0<size)(v:Value)(k:Nat)(xs:List Value)(hown:w.ownsRow base e size v k xs)(A:Option Addr)(n c:Nat)(ys:List Value)(hn:ys.length=n * size)(hr:Rd w A ys)(hy:∀ u∈ys,u.oneCell'=true)(h63:k+n≤maxLen)(hbytes:(k+n) * bytes≤140737488355328)(hbase:base≤w.heap.size):
  ∃ v' w',(Builtin.append_ #[t,t] ty #[v,.slice A n c]).run P w=.ok v' w'∧w'.ownsRow base e size v' (k+n) (xs++ys)∧w.grownBy w' v.ownBlock:=by
 have hsome:∀ ad:Addr,A=some ad→(∀ j u,ys[j]?=some u→w.cell? (ad.add j)=some u)→∃ v' w',(Builtin.append_ #[t,t] ty #[v,.slice A n c]).run P w=.ok v' w'∧w'.ownsRow base e size v' (k+n) (xs++ys)∧w.grownBy w' v.ownBlock:=by
  intro ad hA hc
  subst hA
  obtain ⟨v',w',h1,h2,h3,_⟩:=run_append_own (P:=P) (w:=w) base t ty e i z size bytes ht hi hz hsize hby hzs hsz v k xs hown ad n c ys hn hc hy h63 hbytes hbase
  exact ⟨v',w',h1,h2,h3⟩
 cases A with
 | some ad =>
   rcases Nat.eq_zero_or_pos ys.length with h0|h0
   ·have:ys=[]:=List.eq_nil_of_length_eq_zero h0
    subst this
    exact hsome ad rfl (fun j u hu=>by simp at hu)
   ·obtain ⟨b,off,he,hlt,hc⟩:=hr.at_ h0
    cases he
    exact hsome _ rfl (fun j u hu=>by rw [zb6];exact hc j u hu)
 | none =>
   have h0:ys=[]:=by
    rcases hr with h|⟨_,_,h,_⟩
    ·exact h
    ·cases h
   subst h0
   have h0:n=0:=by
    rcases Nat.eq_zero_or_pos n with h|h
    ·exact h
    ·have:=Nat.mul_pos h hsz
     simp at hn
     omega
   subst h0
   exact ⟨v,w,zjg (P:=P) w t ty e i ht hi base size c v k xs hown,by simpa using hown,World.grownBy.refl _ _⟩
theorem zya {P:Program}{ops:Array Oper}{rest:List Oper}{o:Oper}{a:Act}{w:World}{Q:Exit→Act→World→Prop}(hgd:o.guard=none)(s x:Operand)(t:TypeId)(ho:o.op=.call { callee:=.builtin .append,args:=#[s,x],argTypes:=#[t,t] })(base:Nat)(e:TypeId)(i:TypeInfo)(z:Value)(size bytes:Nat)(ht:P.underlying t=some (.slice e))(hi:P.info? e=some i)(hz:i.zero=some z)(hsize:i.size=size)(hby:i.bytes=bytes)(hzs:z.cells.size=size)(hsz:0<size)(v:Value)(k:Nat)(xs:List Value)(hs:a.eval s=v)(hown:w.ownsRow base e size v k xs)(A:Option Addr)(n c:Nat)(ys:List Value)(hx:a.eval x=.slice A n c)(hn:ys.length=n * size)(hr:Rd w A ys)(hy:∀ u∈ys,u.oneCell'=true)(h63:k+n≤maxLen)(hbytes:(k+n) * bytes≤140737488355328)(hbase:base≤w.heap.size)(h:∀ v' w',w'.ownsRow base e size v' (k+n) (xs++ys)→w.grownBy w' v.ownBlock→wpList P ops Q rest (a.put o.dst v') w'): wpList P ops Q (o :: rest) a w:=by
 refine wpList_plain hgd fun K hK=>?_
 obtain ⟨v',w',hrun,h2,h3⟩:=zmu (P:=P) w t o.type base e i z size bytes ht hi hz hsize hby hzs hsz v k xs hown A n c ys hn hr hy h63 hbytes hbase
 unfold Oper.wp execOp
 simp only [ho,resolve,invoke,builtin,Sem.run_bind,Sem.run_pure,Result.andThen_ok,List.map_toArray,List.map_cons,List.map_nil,hs,hx,hrun]
 exact hK _ _ (h v' w' h2 h3)
theorem zy8 (w:World)(vs:Array Value)(t:TypeId): Rd (w.alloc (.cells vs t)) (some ⟨w.heap.size,0,none⟩) vs.toList:=by
 refine .inr ⟨w.heap.size,0,rfl,by rw [World.size_alloc];omega,fun i v hv=>?_⟩
 have:=zo8 w vs t i v hv
 rwa [zb6] at this
theorem zvt (w:World)(o:Obj)(vs:Array Value)(t:TypeId): Rd ((w.alloc o).alloc (.cells vs t)) (some ⟨w.heap.size+1,0,none⟩) vs.toList:=by
 have:=zy8 (w.alloc o) vs t
 rwa [World.size_alloc] at this
end
section
open Go.RowKit
def Ansd (g:Nat)(w:World)(sv:List Int)(hop hops:Int)(b:List Int)(p:Nat)(vs:List Value): Prop :=
 (zds sv hop hops b=0→∃ A c B d,vs=[.int .i64 p,.bool true,.slice A (zcz sv hop.toNat hops.toNat b).length c,.slice B (zej sv hop.toNat b).length d]∧(zcz sv hop.toNat hops.toNat b).length≤c∧RdA g w A (nums .u8 (zcz sv hop.toNat hops.toNat b))∧RdA g w B (nums .u8 (zej sv hop.toNat b))) ∧
 (zds sv hop hops b≠0→vs=[.int .i64 p,.bool false,.slice none 0 0,.slice none 0 0])
theorem Ansd.below {g:Nat}{w w':World}{sv:List Int}{hop hops:Int}{b:List Int}{p:Nat}{vs:List Value}(h:Ansd g w sv hop hops b p vs)(hb:Below w.heap.size w w'): Ansd g w' sv hop hops b p vs :=
 ⟨fun hz=>by
  obtain ⟨A,c,B,d,h1,h2,h3,h4⟩:=h.1 hz
  exact ⟨A,c,B,d,h1,h2,h3.below (B:=0) hb,h4.below (B:=0) hb⟩,h.2⟩
theorem Ansd.far {g:Nat}{w w':World}{sv:List Int}{hop hops:Int}{b:List Int}{p:Nat}{vs:List Value}(h:Ansd g w sv hop hops b p vs)(hb:∀ i,i≠g→w'.heap[i]?=w.heap[i]?)(hs:w'.heap.size=w.heap.size): Ansd g w' sv hop hops b p vs :=
 ⟨fun hz=>by
  obtain ⟨A,c,B,d,h1,h2,h3,h4⟩:=h.1 hz
  exact ⟨A,c,B,d,h1,h2,h3.far hb hs,h4.far hb hs⟩,h.2⟩
theorem zvr {w:World}{base:Nat}{e:TypeId}{s:Nat}{A:Option Addr}{n c:Nat}{vs:List Value}(h:w.ownsRow base e s (.slice A n c) n vs): Rd w A vs:=by
 rcases h.2 with ⟨h1,h2⟩|⟨g,cap,cur,h1,hb,hg,hc⟩
 ·have hl:=h.1
  rw [h2] at hl
  exact .inl (List.eq_nil_of_length_eq_zero (by simpa using hl))
 ·simp only [Value.slice.injEq] at h1
  obtain ⟨rfl,_,rfl⟩:=h1
  refine .inr ⟨g,0,rfl,(Array.getElem?_eq_some_iff.1 hg).1,fun i v hv=>?_⟩
  have:=h.cells (g:=g) rfl i v hv
  have hadd:(Addr.mk g 0 none).add i=⟨g,0+i,none⟩:=by
   unfold Addr.add
   by_cases h:i=0 <;> simp [h]
  rwa [hadd] at this
def z01 (w:World)(sv:List Int)(hop hops:Int)(L:List (List Int))(e:Ending)(w':World): Prop :=
 ∃ A c F,e=.returned (.slice A (za4 sv hop hops L).length c)∧Rd w' A ((za4 sv hop hops L).flatMap F) ∧
  (∀ p∈za4 sv hop hops L,∃ A1 c1 B1 d1,F p=[.int .i64 p,.bool true,.slice A1 (zcz sv hop.toNat hops.toNat (L.getD p [])).length c1,.slice B1 (zej sv hop.toNat (L.getD p [])).length d1]∧(zcz sv hop.toNat hops.toNat (L.getD p [])).length≤c1 ∧
   Rd w' A1 (nums .u8 (zcz sv hop.toNat hops.toNat (L.getD p [])))∧Rd w' B1 (nums .u8 (zej sv hop.toNat (L.getD p []))))∧Below w.heap.size w w'
set_option maxHeartbeats 1000000 in
theorem zp6 (A D:Option Addr)(n c m d:Nat)(hop hops:Int)(sv:List Int)(vs:List Value)(L:List (List Int))(w:World)(hn:sv.length=n)(hbn:n≤4000)(hnc:n≤c)(hm:L.length=m)(hm64:m≤64)(hmd:m≤d)(hx:Rd w A (nums .u8 sv))(bs:Byt sv)(hy:Rd w D vs)(hp:zf8 w vs L)(hB:∀ xs∈L,Byt xs)(hlen:∀ xs∈L,xs.length≤100000)(hK:za2 w):
  Calls Lead.prog 19 #[.slice A n c,.int .i64 hop,.int .i64 hops,.slice D m d] w (z01 w sv hop hops L):=by
 obtain ⟨i0,hi,hz0,hz1,hz2⟩:=info_parts z1e
 have HM:=Lib.hid hm
 have HX:=Lib.hid hx
 have HY:=Lib.hid hy
 have HP:=Lib.hid hp
 have HB:=Lib.hid hB
 have HL:=Lib.hid hlen
 have HBS:=Lib.hid bs
 have HK:=Lib.hid hK
 have HN:=Lib.hid hn
 have r0:¬ (4000:Int)<n:=by omega
 have r1:¬ (64:Int)<m:=by omega
 have C0:=zxu A n c sv w hn (by omega) hnc hx bs
 have C1:=fun (k A1 c1) (hk:k<m) (hc:(L.getD k []).length≤c1) (hr:Rd w A1 (nums .u8 (L.getD k [])))=>zxu A1 (L.getD k []).length c1 (L.getD k []) w rfl (hlen _ (by rw [List.getD,List.getElem?_eq_getElem (show k<L.length by omega)];exact List.getElem_mem _)) hc hr (hB _ (by rw [List.getD,List.getElem?_eq_getElem (show k<L.length by omega)];exact List.getElem_mem _))
 clear hx hy hp hB hlen bs hK hn hm
 go_enter Lead.func19,Lead.ntmps19
 delta Lead.body Lead.q0 Lead.no Lead.q1 Lead.q2 Lead.look Lead.q3 Lead.q4 Lead.q5 Lead.q6
 go_wp2_with (go_at_call 32;refine C0.mono ?_;rintro e w1 ⟨rfl,rfl⟩)
 go_loop [28] (fun i=>∃ k:Nat,k≤m∧i=.int .i64 k) (fun i=>m - (intOf i).toNat)
 case atStart=>exact ⟨0,Nat.zero_le _,rfl⟩
 case round =>
  obtain ⟨k,hk,rfl⟩:=hrel
  by_cases hlt:k<m
  ·have r2:(k:Int)<m:=by omega
   obtain ⟨b,o,rfl,hlb,hc⟩:=HY.out.at_ (by rw [HP.out.1,HM.out];omega)
   have ck:=hc k _ (znr (by rw [HP.out.1,HM.out];exact hlt))
   obtain ⟨A1,c1,hv,h1,hr⟩:=HP.out.2 k (by rw [HM.out];exact hlt)
   rw [hv] at ck
   have C1:=C1 k A1 c1 hlt h1 hr
   obtain ⟨q,hq⟩:∃ q,q=(L.getD k []).length:=⟨_,rfl⟩
   rw [← hq] at ck C1
   clear hc hv hq hr h1
   go_wp2_with (go_at_call 32;refine C1.mono ?_;rintro e w1 ⟨rfl,rfl⟩)
   exact ⟨⟨k+1,by omega,by congr 1⟩,by show m - ((k:Int)+1).toNat<m - (k:Int).toNat;omega⟩
  ·have hkn:m=k:=by omega
   subst hkn
   clear C0 C1 r0 r1
   go_wp2_with fail
   delta Lead.work Lead.r1 Lead.round Lead.r2 Lead.r3 Lead.r4 Lead.r5 Lead.r6 Lead.r7 Lead.r8 Lead.r9
   go_wp2_with (at_make;refine wpList_make_full _ rfl _ _ 49 rfl w.heap.size 54 i0 (.agg #[.int .i64 0,.bool false,.slice none 0 0,.slice none 0 0]) 4 (Lead.of Tryd.underlying49) hi hz0 hz1 .i64 .i64 _ _ m rfl rfl (by omega) (by omega) (by rw [hz2];omega) (by unfold maxLen;omega) (Nat.le_refl _) ?_;intro w1 hown1 hgrow1)
   obtain ⟨hrow1,hb1,hl1⟩:=zvx hown1 hgrow1
   obtain ⟨g,hg⟩:∃ g,g=w.heap.size:=⟨_,rfl⟩
   have hgw:w.heap.size≤g:=by omega
   rw [← hg] at hrow1 hl1 ⊢
   have HR:=Lib.hid hrow1
   clear hown1 hgrow1 hrow1 hi hz0 hz1 hz2 hg hl1
   go_loopw [28] (fun i wr=>∃ (k:Nat) (F:Nat→List Value),k≤m∧i=.int .i64 k∧PRow wr g m F∧Hid (∀ p,p<k→Ansd g wr sv hop hops (L.getD p []) p (F p))∧Below w.heap.size w wr) (fun i _=>m - (intOf i).toNat)
   case atStart=>exact ⟨0,_,Nat.zero_le _,rfl,HR.out,Lib.hid (fun p hp=>absurd hp (Nat.not_lt_zero p)),hb1⟩
   case round =>
    obtain ⟨k,F,hk,rfl,hrow,HF,hb⟩:=hrel
    by_cases hlt:k<m
    ·have r2:(k:Int)<m:=by omega
     have r3:(0:Int)≤k:=by omega
     obtain ⟨b,o,rfl,hlb,hc⟩:=(HY.out.below hb).at_ (by rw [HP.out.1,HM.out];omega)
     have ck:=hc k _ (znr (by rw [HP.out.1,HM.out];exact hlt))
     obtain ⟨A1,c1,hv,h1,hr⟩:=(HP.out.below hb).2 k (by rw [HM.out];exact hlt)
     rw [hv] at ck
     have hmem:L.getD k []∈L:=by rw [List.getD,List.getElem?_eq_getElem (show k<L.length by rw [HM.out];exact hlt)];exact List.getElem_mem _
     obtain ⟨bs,hbs⟩:∃ bs,bs=L.getD k []:=⟨_,rfl⟩
     rw [← hbs] at ck hv h1 hr hmem
     obtain ⟨q,hq⟩:∃ q,bs.length=q:=⟨_,rfl⟩
     rw [hq] at ck h1
     have hK1:za2 wr:=HK.out.below hb (by have:=za5 (HK.out 0 (by omega));exact this)
     have hbyt:=HB.out bs hmem
     have HROW:=Lib.hid hrow
     have HBS1:=Lib.hid hbs
     by_cases hz:zds sv hop hops bs=0
     ·have CP:=zrr A A1 n c q c1 hop hops sv bs wr HN.out hq hbn h1 (HX.out.below hb) hr hbyt hK1 hz
      have HZ:=Lib.hid hz
      clear hc hv hbs hq hr hmem hK1 hbyt hz hrow
      go_upto_region 13 with (go_at_call 15;refine CP.mono ?_;rintro e w5 ⟨A5,B5,c5,d5,rfl,g1,g2,g3,hb5⟩)
      have hrow5:=HROW.out.below hb5 (HROW.out.lt)
      have HF5:=Lib.hid (fun p hp=>(HF.out p hp).below hb5)
      have g2:=g2.apart hrow5
      have g3:=g3.apart hrow5
      iterate 7 go_step
      refine z05 rfl _ _ rfl g m k F (.int .i64 k) (.bool true) (.slice A5 (zcz sv hop.toNat hops.toNat bs).length c5) (.slice B5 (zej sv hop.toNat bs).length d5) rfl rfl hrow5 hlt (by simp [Value.oneCell']) (by simp [not8]) ?_
      intro W6 hrow6 hfar6 hsz6 hbl6
      have HF6:=Lib.hid (fun p hp=>(HF5.out p hp).far hfar6 hsz6)
      have g26:=Lib.hid (g2.far hfar6 hsz6)
      have g36:=Lib.hid (g3.far hfar6 hsz6)
      have hb6:=hbl6 w hgw (bgo hb hb5)
      have HROW6:=Lib.hid hrow6
      clear hrow6 hfar6 hsz6 hbl6 g2 g3 hrow5
      go_wp2_with fail
      refine ⟨⟨k+1,_,by omega,by congr 1,HROW6.out,Lib.hid (fun p hp=>?_),hb6⟩,by show m - ((k:Int)+1).toNat<m - (k:Int).toNat;omega⟩
      by_cases e:p=k
      ·subst e
       rw [if_pos rfl,← HBS1.out]
       exact ⟨fun _=>⟨A5,c5,B5,d5,rfl,g1,g26.out,g36.out⟩,fun h=>absurd HZ.out h⟩
      ·rw [if_neg e]
       exact HF6.out p (by omega)
     ·have CP:=zv0 A A1 n c q c1 hop hops sv bs wr HN.out hq hbn h1 (HX.out.below hb) hr hbyt hK1 hz
      obtain ⟨z,hzz⟩:∃ z,z=zds sv hop hops bs:=⟨_,rfl⟩
      rw [← hzz] at CP
      have HZ:=Lib.hid hz
      have rz:¬ z=0:=by rw [hzz];exact hz
      clear hc hv hbs hq hr hmem hK1 hbyt hz hrow hzz
      go_upto_region 12 with (go_at_call 15;refine CP.mono ?_;rintro e w5 ⟨rfl,hb5⟩)
      have hrow5:=HROW.out.below hb5 (HROW.out.lt)
      have HF5:=Lib.hid (fun p hp=>(HF.out p hp).below hb5)
      iterate 7 go_step
      refine z05 rfl _ _ rfl g m k F (.int .i64 k) (.bool false) (.slice none 0 0) (.slice none 0 0) rfl rfl hrow5 hlt (by simp [Value.oneCell']) (by simp [not8]) ?_
      intro W6 hrow6 hfar6 hsz6 hbl6
      have HF6:=Lib.hid (fun p hp=>(HF5.out p hp).far hfar6 hsz6)
      have hb6:=hbl6 w hgw (bgo hb hb5)
      have HROW6:=Lib.hid hrow6
      clear hrow6 hfar6 hsz6 hbl6 hrow5
      go_wp2_with fail
      refine ⟨⟨k+1,_,by omega,by congr 1,HROW6.out,Lib.hid (fun p hp=>?_),hb6⟩,by show m - ((k:Int)+1).toNat<m - (k:Int).toNat;omega⟩
      by_cases e:p=k
      ·subst e
       rw [if_pos rfl,← HBS1.out]
       exact ⟨fun h=>absurd h HZ.out,fun _=>rfl⟩
      ·rw [if_neg e]
       exact HF6.out p (by omega)
    ·have hkn:m=k:=by omega
     subst hkn
     have HROW:=Lib.hid hrow
     clear hrow
     go_wp2_with fail
     simp only [Lead.tail,Lead.behind,Tryd.f19,Option.getD_some]
     have hg2:=HROW.out.lt
     go_wp2_with fail
     rename World=>w2
     have HB2:=Lib.hid hb
     clear hb
     go_loopw [55,16] (fun i v wq=>∃ k:Nat,k≤m∧i=.int .i64 k∧Hid (wq.ownsRow w2.heap.size 54 4 v (zc3 sv hop hops L k).length ((zc3 sv hop hops L k).flatMap F))∧Below w2.heap.size w2 wq) (fun i _ _=>m - (intOf i).toNat)
     case atStart=>exact ⟨0,Nat.zero_le _,rfl,Lib.hid ⟨rfl,.inl ⟨rfl,rfl⟩⟩,brf⟩
     case round =>
      obtain ⟨k,hk,rfl,HO,hbq⟩:=hrel
      by_cases hlt:k<m
      ·have r2:(k:Int)<m:=by omega
       have r3:(0:Int)≤k:=by omega
       have hrq:=HROW.out.below hbq hg2
       have HA:=Lib.hid ((HF.out k hlt).below hbq)
       have hl4:=hrq.row k hlt
       rw [Nat.mul_comm 4 k] at hl4
       have hgl:=zkx (sv:=sv) (hop:=hop) (hops:=hops) (L:=L) k
       obtain ⟨bs,hbs⟩:∃ bs,bs=L.getD k []:=⟨_,rfl⟩
       rw [← hbs] at HA
       have hg1:zc3 sv hop hops L (k+1)=zc3 sv hop hops L k++(if zds sv hop hops bs=0 then [k] else []):=by rw [hbs];rfl
       by_cases hz:zds sv hop hops bs=0
       ·obtain ⟨A1,c1,B1,d1,h1,h2,h3,h4⟩:=HA.out.1 hz
        rw [if_pos hz] at hg1
        have HG1:=Lib.hid hg1
        rw [h1] at hl4
        have q0:=hl4 0 _ rfl
        have q1:=hl4 1 _ rfl
        have q2:=hl4 2 _ rfl
        have q3:=hl4 3 _ rfl
        have HH:=Lib.hid h1
        obtain ⟨Gk,hGk⟩:∃ Gk,Gk=zc3 sv hop hops L k:=⟨_,rfl⟩
        rw [← hGk] at HG1 HO hgl
        obtain ⟨p1,hp1⟩:∃ p1,p1=(zcz sv hop.toNat hops.toNat bs).length:=⟨_,rfl⟩
        obtain ⟨p2,hp2⟩:∃ p2,p2=(zej sv hop.toNat bs).length:=⟨_,rfl⟩
        rw [← hp1,← hp2] at HH
        rw [← hp1] at q2
        rw [← hp2] at q3
        clear hl4 hrq h1 h2 h3 h4 hg1 hz HA hbs hGk hp1 hp2
        rw [Nat.add_zero] at q0
        obtain ⟨i1,ji,jz0,jz1,jz2⟩:=info_parts z1e
        have HI:=Lib.hid ji
        have HI0:=Lib.hid jz0
        have HI1:=Lib.hid jz1
        have HI2:=Lib.hid jz2
        clear ji jz0 jz1 jz2
        go_wp2_with (at_builtin;refine zya rfl _ _ 49 rfl w2.heap.size 54 i1 (.agg #[.int .i64 0,.bool false,.slice none 0 0,.slice none 0 0]) 4 64 (Lead.of Tryd.underlying49) HI.out HI0.out HI1.out HI2.out rfl (by decide) u16 Gk.length (Gk.flatMap F) rfl ((HO.out.alloc _).alloc _) _ 1 1 [.int .i64 k,.bool true,.slice A1 p1 c1,.slice B1 p2 d1] rfl rfl (by exact zvt _ _ _ _) (by simp [Value.oneCell']) (by unfold maxLen;omega) (by omega) (by rw [World.size_alloc,World.size_alloc];have:=hbq.size;omega) ?_;intro v5 w5 hown5 hgrow5)
        refine ⟨⟨k+1,by omega,by congr 1,Lib.hid ?_,?_⟩,by show m - ((k:Int)+1).toNat<m - (k:Int).toNat;omega⟩
        ·rw [HG1.out,List.length_append,List.flatMap_append,show [k].flatMap F=[.int .i64 k,.bool true,.slice A1 p1 c1,.slice B1 p2 d1] by rw [List.flatMap_cons,List.flatMap_nil,List.append_nil,HH.out]]
         exact hown5
        ·have hbs:=hbq.size
         exact ((hbq.alloc hbs _).alloc (by rw [World.size_alloc];omega) _).grown hgrow5 (by rw [World.size_alloc,World.size_alloc];omega) (fun k hk=>(HO.out.lt k hk).1)
       ·have h1:=HA.out.2 hz
        rw [if_neg hz,List.append_nil] at hg1
        have HG1:=Lib.hid hg1
        rw [h1] at hl4
        have q0:=hl4 0 _ rfl
        have q1:=hl4 1 _ rfl
        have q2:=hl4 2 _ rfl
        have q3:=hl4 3 _ rfl
        clear hl4 hrq h1 hg1 hz HA hbs
        rw [Nat.add_zero] at q0
        go_wp2_with fail
        refine ⟨⟨k+1,by omega,by congr 1,Lib.hid ?_,?_⟩,by show m - ((k:Int)+1).toNat<m - (k:Int).toNat;omega⟩
        ·rw [HG1.out]
         exact HO.out.alloc _
        ·exact hbq.alloc hbq.size _
      ·have hkn:m=k:=by omega
       subst hkn
       go_wp2_with fail
       obtain ⟨A9,c9,rfl⟩:=zdb HO.out
       go_ret
       have hG:za4 sv hop hops L=zc3 sv hop hops L m:=by rw [za4,HM.out]
       refine ⟨A9,c9,F,?_,?_,fun p hp=>?_,bgo HB2.out hbq⟩
       ·rw [hG]
        rfl
       ·rw [hG]
        exact zvr HO.out
       ·rw [hG] at hp
        obtain ⟨hpm,hpz⟩:=zjp m p hp
        obtain ⟨A1,c1,B1,d1,h1,h2,h3,h4⟩:=((HF.out p hpm).below hbq).1 hpz
        exact ⟨A1,c1,B1,d1,h1,h2,h3.rd,h4.rd⟩
end
section
open Go.RowKit
def zt4 (ops:Array Oper): Bool:=(List.range ops.size).all fun i=>match ops[i]? with|some o=>o.after.all fun e=>!(Region.binds .any e) || decide (e.on<i)|none=>true
def zv7 (n:Nat)(listed:Array Bool): Nat:=(List.range n).countP fun i=>!(listed.getD i true)
section
variable {P:Program} {ops:Array Oper} {Q:Exit→Act→World→Prop}
theorem zl1 (hd:zt4 ops=true){listed:Array Bool}(h:Region.ready .any ops listed=[]): ∀ i,i<ops.size→listed.getD i true=true:=by
 intro i
 induction i using Nat.strongRecOn with
 | _ i ih =>
   intro hi
   cases hl:listed.getD i true with
   | true=>rfl
   | false =>
     exfalso
     have hm:i∈Region.ready .any ops listed:=by
      rw [mem_ready]
      refine ⟨hl,ops[i],Array.getElem?_eq_getElem hi,fun e he hbe=>?_⟩
      have h1:=List.all_eq_true.1 hd i (by simpa using hi)
      rw [Array.getElem?_eq_getElem hi] at h1
      have h2:e.on<i:=by
       have:=(Array.all_eq_true_iff_forall_mem.1 h1) e he
       have h6:Region.binds .any e=false∨e.on<i:=by simpa using this
       exact h6.resolve_left (by rw [hbe];simp)
      have h3:=ih e.on h2 (by omega)
      rcases Nat.lt_or_ge e.on listed.size with h4|h4
      ·simpa [h4] using h3
      ·have h5:i<listed.size:=by
        rcases Nat.lt_or_ge i listed.size with h6|h6
        ·exact h6
        ·simp [Nat.not_lt.2 h6] at hl
       omega
     rw [h] at hm
     cases hm
theorem zoc {n i:Nat}{listed:Array Bool}(hi:i<n)(hl:listed.getD i true=false): zv7 n (listed.setIfInBounds i true)+1≤zv7 n listed:=by
 unfold zv7
 have key:∀ (l:List Nat),i∈l→l.Nodup→l.countP (fun j=>!((listed.setIfInBounds i true).getD j true))+1≤l.countP fun j=>!(listed.getD j true):=by
  intro l
  induction l with
  | nil=>intro h;cases h
  | cons x l ih =>
    intro hm hnd
    rw [List.countP_cons,List.countP_cons]
    by_cases hx:x=i
    ·subst hx
     have h1:(listed.setIfInBounds x true).getD x true=true:=by
      by_cases hs:x<listed.size
      ·simp [hs]
      ·simp [hs]
     have h2:l.countP (fun j=>!((listed.setIfInBounds x true).getD j true))=l.countP fun j=>!(listed.getD j true):=by
      refine List.countP_congr fun j hj=>?_
      have hne:x≠j:=fun e=>(List.nodup_cons.1 hnd).1 (e ▸ hj)
      rw [Go.getD_set_ne true hne]
     rw [h1,hl,h2]
     simp
    ·have:=ih ((List.mem_cons.1 hm).resolve_left (Ne.symm hx)) (List.nodup_cons.1 hnd).2
     rw [Go.getD_set_ne true (Ne.symm hx)]
     omega
 exact key _ (by simpa using hi) List.nodup_range
theorem zuj (I:Array Bool→Act→World→Prop)(hd:zt4 ops=true)(hstep:∀ (i:Nat) (o:Oper) (listed:Array Bool) (a:Act) (w:World),ops[i]?=some o→listed.getD i true=false→(∀ e∈o.after,Region.binds .any e=true→listed.getD e.on false=true)→I listed a w →
   if Region.wanted o (yielded ops a.tmps)=true then Oper.wp P o a w (I (listed.setIfInBounds i true)) Q else I (listed.setIfInBounds i true) (a.put o.dst undef) w)(hend:∀ (listed:Array Bool) (a:Act) (w:World),I listed a w→(∀ i,i<ops.size→listed.getD i true=true)→Q .normal a w):
  ∀ (fuel:Nat) (listed:Array Bool) (a:Act) (w:World),zv7 ops.size listed≤fuel→I listed a w→wpAny P .any ops Q fuel listed a w:=by
 intro fuel
 induction fuel with
 | zero =>
   intro listed a w hf hI
   have hr:Region.ready .any ops listed=[]:=by
    cases hr:Region.ready .any ops listed with
    | nil=>rfl
    | cons j l =>
      exfalso
      have hj:j∈Region.ready .any ops listed:=by rw [hr];exact List.mem_cons_self
      rw [mem_ready] at hj
      obtain ⟨h0,o,ho,_⟩:=hj
      have:=zoc (Array.getElem?_eq_some_iff.1 ho).1 h0
      omega
   exact ⟨hr,hend listed a w hI (zl1 hd hr)⟩
 | succ fuel ih =>
   intro listed a w hf hI
   refine ⟨fun hr=>hend listed a w hI (zl1 hd hr),fun j hj=>?_⟩
   rw [mem_ready] at hj
   obtain ⟨h0,o,ho,hall⟩:=hj
   have hs:=hstep j o listed a w ho h0 hall hI
   have hn:=zoc (Array.getElem?_eq_some_iff.1 ho).1 h0
   unfold wpOp
   rw [ho]
   dsimp only
   split
   ·rename_i hw
    rw [if_pos hw] at hs
    exact .inl (Oper.wp_mono (fun a w h=>ih _ a w (by omega) h) hs)
   ·rename_i hw
    rw [if_neg hw] at hs
    exact ih _ _ w (by omega) hs
theorem zmg {id:Nat}{a:Act}{w:World}(I:Array Bool→Act→World→Prop)(hm:P.follows .mixedOrders=true)(hd:zt4 ops=true)(h0:I (Array.replicate ops.size false) a { w with drawn:=w.drawn+1 })(hstep:∀ (i:Nat) (o:Oper) (listed:Array Bool) (a:Act) (w:World),ops[i]?=some o→listed.getD i true=false→(∀ e∈o.after,Region.binds .any e=true→listed.getD e.on false=true)→I listed a w →
   if Region.wanted o (yielded ops a.tmps)=true then Oper.wp P o a w (I (listed.setIfInBounds i true)) Q else I (listed.setIfInBounds i true) (a.put o.dst undef) w)(hend:∀ (listed:Array Bool) (a:Act) (w:World),I listed a w→(∀ i,i<ops.size→listed.getD i true=true)→Q .normal a w): (Code.region id ops true).wp P Q a w :=
 wp_region_any hm (zuj I hd hstep hend _ _ _ _ (by
  unfold zv7
  refine Nat.le_trans List.countP_le_length ?_
  simp) h0)
def updF {α:Type}(f:Nat→α)(i:Nat)(v:α): Nat→α:=fun j=>if j=i then v else f j
def frS (s:Nat→Option Nat)(T:Array Value)(f:Nat→Value): Array Value:=T.mapIdx fun p x=>match s p with|some j=>f j|none=>x
theorem zr6 (s:Nat→Option Nat)(T:Array Value)(f:Nat→Value){p:Nat}(hp:p<T.size): (frS s T f).getD p undef=match s p with|some j=>f j|none=>T.getD p undef:=by
 unfold frS
 simp [hp]
theorem z20 {s:Nat→Option Nat}{T:Array Value}{f:Nat→Value}{i d:Nat}(h:∀ p,s p=some i↔p=d)(v:Value): (frS s T f).setIfInBounds d v=frS s T (updF f i v):=by
 apply Array.ext_getElem?
 intro p
 unfold frS
 rw [Array.getElem?_setIfInBounds,Array.getElem?_mapIdx,Array.getElem?_mapIdx]
 by_cases e:d=p
 ·subst e
  rw [if_pos rfl,(h d).2 rfl]
  by_cases hp:d<T.size
  ·simp [hp,updF]
  ·simp [hp]
 ·rw [if_neg e]
  have hne:s p≠some i:=fun e'=>e ((h p).1 e').symm
  cases hT:T[p]? with
  | none=>rfl
  | some x =>
    simp only [Option.map_some]
    cases hs:s p with
    | none=>rfl
    | some j =>
      have:j≠i:=fun e'=>hne (e' ▸ hs)
      simp [updF,this]
theorem z0h {s:Nat→Option Nat}{T:Array Value}{f:Nat→Value}{i:Nat}(h:∀ p,s p≠some i)(v:Value): frS s T f=frS s T (updF f i v):=by
 apply Array.ext_getElem?
 intro p
 unfold frS
 rw [Array.getElem?_mapIdx,Array.getElem?_mapIdx]
 cases hT:T[p]? with
 | none=>rfl
 | some x =>
   simp only [Option.map_some]
   cases hs:s p with
   | none=>rfl
   | some j =>
     have:j≠i:=fun e'=>h p (e' ▸ hs)
     simp [updF,this]
def zlo (ops:Array Oper)(s:Nat→Option Nat)(n:Nat): Bool:=((List.range ops.size).all fun i=>match ops[i]? with|some o=>(match o.dst with|some d=>s d == some i|none=>true)|none=>true) && ((List.range n).all fun p=>match s p with|some i=>(match ops[i]? with|some o=>o.dst == some p|none=>false)|none=>true)
theorem zjv {id:Nat}{T:Array Value}{W:World}(s:Nat→Option Nat)(n:Nat)(J:(Nat→Bool)→(Nat→Value)→(Nat→Nat)→World→Prop)(hm:P.follows .mixedOrders=true)(hd:zt4 ops=true)(hs:zlo ops s n=true)(hsn:∀ p,n≤p→s p=none)(h0:∀ f,J (fun _=>false) f (fun _=>0) { W with drawn:=W.drawn+1 })(hstep:∀ (i:Nat) (o:Oper) (l:Nat→Bool) (f:Nat→Value) (b:Nat→Nat) (w:World),ops[i]?=some o→l i=false→(∀ e∈o.after,Region.binds .any e=true→l e.on=true)→J l f b w →
   if Region.wanted o (yielded ops (frS s T f))=true then Oper.wp P o ⟨frS s T f,[]⟩ w (fun a' w'=>∃ v b',a'=(⟨frS s T f,[]⟩:Act).put o.dst v∧J (updF l i true) (updF f i v) b' w') Q else ∃ b',J (updF l i true) (updF f i undef) b' w)(hend:∀ l f b w,J l f b w→(∀ i,i<ops.size→l i=true)→Q .normal ⟨frS s T f,[]⟩ w): (Code.region id ops true).wp P Q ⟨T,[]⟩ W:=by
 have hs1:∀ (i:Nat) (o:Oper) (d:Nat),ops[i]?=some o→o.dst=some d→∀ p,s p=some i↔p=d:=fun i o d ho hod p=>by
  unfold zlo at hs
  rw [Bool.and_eq_true] at hs
  have hi:=(Array.getElem?_eq_some_iff.1 ho).1
  constructor
  ·intro hp
   rcases Nat.lt_or_ge p n with h|h
   ·have:=List.all_eq_true.1 hs.2 p (by simpa using h)
    rw [hp] at this
    simp only [ho,hod] at this
    have e:d=p:=by simpa using this
    exact e.symm
   ·rw [hsn p h] at hp;cases hp
  ·rintro rfl
   have:=List.all_eq_true.1 hs.1 i (by simpa using hi)
   simp only [ho,hod] at this
   simpa using this
 have hs2:∀ (i:Nat) (o:Oper),ops[i]?=some o→o.dst=none→∀ p,s p≠some i:=fun i o ho hod p hp=>by
  unfold zlo at hs
  rw [Bool.and_eq_true] at hs
  rcases Nat.lt_or_ge p n with h|h
  ·have:=List.all_eq_true.1 hs.2 p (by simpa using h)
   rw [hp] at this
   simp only [ho,hod] at this
   cases this
  ·rw [hsn p h] at hp;cases hp
 have hput:∀ (i:Nat) (o:Oper) (f:Nat→Value) (v:Value),ops[i]?=some o→(⟨frS s T f,[]⟩:Act).put o.dst v=⟨frS s T (updF f i v),[]⟩:=fun i o f v ho=>by
  cases hod:o.dst with
  | none =>
    show (⟨frS s T f,[]⟩:Act)=_
    rw [← z0h (hs2 i o ho hod) v]
  | some d =>
    show (⟨(frS s T f).setIfInBounds d v,[]⟩:Act)=_
    rw [z20 (hs1 i o d ho hod) v]
 have hl:∀ (listed:Array Bool) (i:Nat),i<listed.size→(fun j=>(listed.setIfInBounds i true).getD j false)=updF (fun j=>listed.getD j false) i true:=fun listed i hi=>by
  funext j
  unfold updF
  by_cases e:j=i
  ·subst e;simp [hi]
  ·rw [if_neg e,Go.getD_set_ne false (Ne.symm e)]
 refine zmg (fun listed a w=>listed.size=ops.size∧∃ f b,a=⟨frS s T f,[]⟩∧J (fun j=>listed.getD j false) f b w) hm hd ?_ ?_ ?_
 ·refine ⟨by simp,fun j=>match (ops[j]?).bind (·.dst) with|some d=>T.getD d undef|none=>undef,fun _=>0,?_,?_⟩
  ·congr 1
   apply Array.ext_getElem?
   intro p
   unfold frS
   rw [Array.getElem?_mapIdx]
   cases hT:T[p]? with
   | none=>rfl
   | some x =>
     simp only [Option.map_some,Option.some.injEq]
     cases hsp:s p with
     | none=>rfl
     | some j =>
       unfold zlo at hs
       rw [Bool.and_eq_true] at hs
       rcases Nat.lt_or_ge p n with h|h
       ·have:=List.all_eq_true.1 hs.2 p (by simpa using h)
        rw [hsp] at this
        dsimp only at this
        cases ho:ops[j]? with
        | none=>rw [ho] at this;cases this
        | some o =>
          rw [ho] at this
          have hod:o.dst=some p:=by simpa using this
          simp [ho,hod,hT]
       ·rw [hsn p h] at hsp;cases hsp
  ·have e:(fun j=>(Array.replicate ops.size false).getD j false)=fun _=>false:=by
    funext j
    by_cases hj:j<ops.size <;> simp [hj]
   rw [e]
   exact h0 _
 ·rintro i o listed a w ho h0' hall ⟨hsz,f,b,rfl,hJ⟩
  have hi:=(Array.getElem?_eq_some_iff.1 ho).1
  have hli:listed.getD i false=false:=by
   have:i<listed.size:=by omega
   simpa [this] using h0'
  have:=hstep i o (fun j=>listed.getD j false) f b w ho hli hall hJ
  split
  ·rename_i hw
   rw [if_pos hw] at this
   refine Oper.wp_mono (fun a' w' h=>?_) this
   obtain ⟨v,b',rfl,hJ'⟩:=h
   exact ⟨by simpa using hsz,_,b',hput i o f v ho,by rw [hl listed i (by omega)];exact hJ'⟩
  ·rename_i hw
   rw [if_neg hw] at this
   obtain ⟨b',hJ'⟩:=this
   exact ⟨by simpa using hsz,_,b',hput i o f undef ho,by rw [hl listed i (by omega)];exact hJ'⟩
 ·rintro listed a w ⟨hsz,f,b,rfl,hJ⟩ hall
  refine hend _ f b w hJ fun i hi=>?_
  have:=hall i hi
  have h2:i<listed.size:=by omega
  simpa [h2] using this
end
end
section
open Go.RowKit
theorem zfr:(Lead.prog.info? 33).map (fun i=>(i.zero,i.size,i.bytes))=some (some (.slice none 0 0),1,24):=by kernel_rfl
theorem zr3:(Lead.prog.info? 3).map (fun i=>(i.zero,i.size,i.bytes))=some (some (.int .i64 0),1,8):=by kernel_rfl
theorem zna:(Lead.prog.info? 25).map (·.size)=some 3:=by kernel_rfl
theorem zjw {o:Oper}{a:Act}{w:World}{K:Act→World→Prop}{Q:Exit→Act→World→Prop}{t:TypeId}{l c:Operand}(hop:o.op=Op.makeSlice t l c)(e:TypeId)(i:TypeInfo)(z:Value)(h1:Lead.prog.underlying t=some (.slice e))(h2:Lead.prog.info? e=some i)(h3:i.zero=some z)(h4:i.size=1)(hzc:z.cells=#[z])(n:Nat)(hl:a.eval l=.int .i64 n)(hc:a.eval c=.int .i64 n)(b2:i.bytes * n≤281474976710656)(b3:n≤maxLen)(hK:∀ w',VRow w' w.heap.size (List.replicate n z)→Below w.heap.size w w'→w.heap.size<w'.heap.size→K (a.put o.dst (.slice (some ⟨w.heap.size,0,none⟩) n n)) w'): Oper.wp Lead.prog o a w K Q:=by
 obtain ⟨w',hrun,r1,r2⟩:=run_make_full (P:=Lead.prog) w w.heap.size t e i z 1 h1 h2 h3 h4 .i64 .i64 n b2 b3 (Nat.le_refl _)
 obtain ⟨q1,q2,q3⟩:=zce hzc r1 r2
 unfold Oper.wp
 simp [execOp,hop,hl,hc,hrun,Result.andThen]
 exact hK w' q1 q2 q3
section
variable (q:Nat) (A0:Option Addr) (c0:Nat) (W0:World)
def C7 (f:Nat→Value)(b:Nat→Nat)(j:Nat)(w:World): Prop:=match j with
 | 0|3|6=>f j=.slice A0 q c0
 | 1|4|7=>f j=.int .i64 q
 | 2|8=>f j=.slice (some ⟨b j,0,none⟩) q q∧VRow w (b j) (List.replicate q (.slice none 0 0))∧W0.heap.size≤b j∧b j<w.heap.size
 | 5=>f j=.slice (some ⟨b j,0,none⟩) q q∧VRow w (b j) (List.replicate q (.int .i64 0))∧W0.heap.size≤b j∧b j<w.heap.size
 | 9=>f 9=.agg #[f 2,f 5,f 8]
 | 10=>f 10=.pointer (some ⟨b 10,0,none⟩)∧w.there (b 10) 0 3∧W0.heap.size≤b 10∧b 10<w.heap.size
 | 11=>w.rangeAt (b 10) 0 [f 2,f 5,f 8]
 | _=>True
def isA7 (j:Nat): Bool:=j == 2 || j == 5 || j == 8 || j == 10
def dep7 (j k:Nat): Bool:=(j == 9 && (k == 2 || k == 5 || k == 8)) || (j == 11 && (k == 2 || k == 5 || k == 8 || k == 9 || k == 10))
structure J7 (l:Nat→Bool)(f:Nat→Value)(b:Nat→Nat)(w:World): Prop where
 below:Below W0.heap.size W0 w
 c:∀ j,l j=true→C7 q A0 c0 W0 f b j w
 ap:∀ j k,isA7 j=true→isA7 k=true→l j=true→l k=true→j≠k→b j≠b k
 dep:∀ j k,dep7 j k=true→l j=true→l k=true
variable {q A0 c0 W0}
theorem zph {w w':World}{g n B:Nat}(h:w.there g 0 n)(hb:Below B w w')(hlt:g<B): w'.there g 0 n:=fun j hj =>
 ⟨by rw [hb.cell (p:=⟨g,0+j,none⟩) hlt];exact (h j hj).1,(hb.frozen (p:=⟨g,0+j,none⟩) hlt).trans (h j hj).2⟩
theorem zp5 {w w':World}{g o B:Nat}{vs:List Value}(h:w.rangeAt g o vs)(hb:Below B w w')(hlt:g<B): w'.rangeAt g o vs:=fun j v hv=>(hb.cell (p:=⟨g,o+j,none⟩) hlt).trans (h j v hv)
theorem zie {w:World}{g q o:Nat}{cs vs:List Value}(hne:g≠q)(h:VRow w g vs): VRow (w.setCells q o cs) g vs:=fun j v hj =>
 ⟨by rw [World.cell?_setCells_out q cs o w ⟨g,j,none⟩ (fun e _=>absurd e hne)];exact (h j v hj).1,by rw [World.frozen?_setCells];exact (h j v hj).2⟩
theorem J7.grow {l:Nat→Bool}{f f':Nat→Value}{b b':Nat→Nat}{w w':World}(h:J7 q A0 c0 W0 l f b w)(hf:∀ k,l k=true→f' k=f k∧b' k=b k)(hb:Below w.heap.size w w')(j:Nat)(hj:l j=true): C7 q A0 c0 W0 f' b' j w':=by
 have hc:=h.c j hj
 have hs:=hb.size
 unfold C7 at hc ⊢
 split at hc
 ·exact (hf _ hj).1.trans hc
 ·exact (hf _ hj).1.trans hc
 ·exact (hf _ hj).1.trans hc
 ·exact (hf _ hj).1.trans hc
 ·exact (hf _ hj).1.trans hc
 ·exact (hf _ hj).1.trans hc
 ·rw [(hf _ hj).1,(hf _ hj).2]
  exact ⟨hc.1,hc.2.1.below hb hc.2.2.2,hc.2.2.1,by omega⟩
 ·rw [(hf _ hj).1,(hf _ hj).2]
  exact ⟨hc.1,hc.2.1.below hb hc.2.2.2,hc.2.2.1,by omega⟩
 ·rw [(hf _ hj).1,(hf _ hj).2]
  exact ⟨hc.1,hc.2.1.below hb hc.2.2.2,hc.2.2.1,by omega⟩
 ·rw [(hf _ hj).1,(hf 2 (h.dep 9 2 rfl hj)).1,(hf 5 (h.dep 9 5 rfl hj)).1,(hf 8 (h.dep 9 8 rfl hj)).1]
  exact hc
 ·rw [(hf _ hj).1,(hf _ hj).2]
  exact ⟨hc.1,zph hc.2.1 hb hc.2.2.2,hc.2.2.1,by omega⟩
 ·have h10:=h.c 10 (h.dep 11 10 rfl hj)
  rw [(hf 10 (h.dep 11 10 rfl hj)).2,(hf 2 (h.dep 11 2 rfl hj)).1,(hf 5 (h.dep 11 5 rfl hj)).1,(hf 8 (h.dep 11 8 rfl hj)).1]
  exact zp5 hc hb h10.2.2.2
 ·trivial
theorem J7.step {l:Nat→Bool}{f:Nat→Value}{b:Nat→Nat}{w w':World}(h:J7 q A0 c0 W0 l f b w){i:Nat}(hi:l i=false)(v:Value)(g:Nat)(hb:Below w.heap.size w w')(hn:C7 q A0 c0 W0 (updF f i v) (updF b i g) i w')(ha:isA7 i=true→w.heap.size≤g)(hd:∀ k,dep7 i k=true→l k=true):
  J7 q A0 c0 W0 (updF l i true) (updF f i v) (updF b i g) w':=by
 have hne:∀ k,l k=true→k≠i:=fun k hk e=>by rw [e,hi] at hk;cases hk
 have hlt:∀ k,isA7 k=true→l k=true→b k<w.heap.size:=fun k ha hk=>by
  have hc:=h.c k hk
  unfold isA7 at ha
  simp only [Bool.or_eq_true,beq_iff_eq] at ha
  rcases ha with ((rfl|rfl)|rfl)|rfl
  ·exact hc.2.2.2
  ·exact hc.2.2.2
  ·exact hc.2.2.2
  ·exact hc.2.2.2
 refine ⟨h.below.trans (hb.mono h.below.size),fun j hj=>?_,fun j k hj hk hlj hlk hjk=>?_,fun j k hjk hlj=>?_⟩
 ·by_cases e:j=i
  ·subst e;exact hn
  ·have hj':l j=true:=by simpa [updF,e] using hj
   exact h.grow (fun k hk=>by simp [updF,hne k hk]) hb j hj'
 ·by_cases e1:j=i
  ·subst e1
   have e2:k≠j:=Ne.symm hjk
   have hk':l k=true:=by simpa [updF,e2] using hlk
   have:=hlt k hk hk'
   have:=ha hj
   simp only [updF,if_pos,if_neg e2]
   omega
  ·have hj':l j=true:=by simpa [updF,e1] using hlj
   by_cases e2:k=i
   ·subst e2
    have:=hlt j hj hj'
    have:=ha hk
    simp only [updF,if_pos,if_neg e1]
    omega
   ·have hk':l k=true:=by simpa [updF,e2] using hlk
    simp only [updF,if_neg e1,if_neg e2]
    exact h.ap j k hj hk hj' hk' hjk
 ·by_cases e:j=i
  ·subst e
   have:=hd k hjk
   simp [updF,this]
  ·have hj':l j=true:=by simpa [updF,e] using hlj
   have:=h.dep j k hjk hj'
   simp [updF,this]
end
section
variable {P:Program} {o:Oper} {a:Act} {w:World} {K:Act→World→Prop} {Q:Exit→Act→World→Prop}
theorem zmh {v:Value}{w':World}(hr:(execOp a.eval o).run P w=.ok (.value v) w')(h:K (a.put o.dst v) w'): Oper.wp P o a w K Q:=by
 unfold Oper.wp
 rw [hr]
 exact h
theorem zmi {x:Operand}(hop:o.op=.move x)(h:K (a.put o.dst (a.eval x)) w): Oper.wp P o a w K Q:=zmh (by unfold execOp;rw [hop];rfl) h
theorem zui {x:Operand}{t e:TypeId}{A:Option Addr}{n c:Nat}(hop:o.op=.call { callee:=.builtin .len,args:=#[x],argTypes:=#[t] })(ht:P.underlying t=some (.slice e))(hx:a.eval x=.slice A n c)(h:K (a.put o.dst (.int .i64 n)) w): Oper.wp P o a w K Q:=by
 refine zmh (v:=.int .i64 n) (w':=w) ?_ h
 have e1:(Builtin.len_ #[t] o.type #[Value.slice A n c]).run P w=.ok (.int .i64 n) w:=by simp [Builtin.len_,run_underlying ht,goInt,go_sem]
 have e2:execOp a.eval o=(do pure (.value (← Builtin.len_ #[t] o.type #[a.eval x]))):=by
  unfold execOp
  rw [hop]
  simp [resolve,invoke,builtin]
 rw [e2,hx,Sem.run_bind,e1]
 rfl
end
section
variable {q:Nat} {A0:Option Addr} {c0:Nat} {W0:World}
def s7 (p:Nat): Option Nat:=match p with
 | 58=>some 0|59=>some 1|60=>some 2|61=>some 3|62=>some 4|63=>some 5|64=>some 6|65=>some 7|66=>some 8|67=>some 9|17=>some 10|_=>none
theorem z5k:∀ p,105≤p→s7 p=none:=fun p hp=>by
 unfold s7
 split <;> first
  | omega
  | rfl
def zew (i:Nat): List Nat:=match i with
 | 1=>[0]|2=>[1]|4=>[3]|5=>[4]|7=>[6]|8=>[7]|9=>[2,5,8]|11=>[2,5,8,9,10]|_=>[]
def op7 (i:Nat)(o:Op): Prop:=match i with
 | 0|3|6=>o=.move (.tmp 14)
 | 1=>o=.call { callee:=.builtin .len,args:=#[.tmp 58],argTypes:=#[23] }
 | 4=>o=.call { callee:=.builtin .len,args:=#[.tmp 61],argTypes:=#[23] }
 | 7=>o=.call { callee:=.builtin .len,args:=#[.tmp 64],argTypes:=#[23] }
 | 2=>o=.makeSlice 22 (.tmp 59) (.tmp 59)
 | 5=>o=.makeSlice 23 (.tmp 62) (.tmp 62)
 | 8=>o=.makeSlice 22 (.tmp 65) (.tmp 65)
 | 9=>o=.build 25 #[(0,.tmp 60),(1,.tmp 63),(2,.tmp 66)]
 | 10=>o=.alloc 25
 | 11=>o=.store 25 (.tmp 17) (.tmp 67)
 | _=>False
def is7 (i:Nat)(o:Oper): Prop:=op7 i o.op∧o.guard=none∧((zew i).all fun k=>o.after.any fun e=>Region.binds .any e && e.on == k)=true
theorem zjx {o:Oper}(h:o.guard=none)(y:Nat→Option Bool): Region.wanted o y=true:=by
 unfold Region.wanted
 rw [h]
theorem mix7 {T:Array Value}{ops:Array Oper}{id:Nat}{Q:Exit→Act→World→Prop}(hT:T.size=105)(h14:T.getD 14 undef=.slice A0 q c0)(hq:q≤1000)(hd:zt4 ops=true)(hs:zlo ops s7 105=true)(h12:ops.size=12)(hops:∀ i o,ops[i]?=some o→is7 i o)(hend:∀ l f b w,J7 q A0 c0 W0 l f b w→(∀ i,i<12→l i=true)→Q .normal ⟨frS s7 T f,[]⟩ w): (Code.region id ops true).wp Lead.prog Q ⟨T,[]⟩ W0:=by
 obtain ⟨i0,hi,hz0,hz1,hz2⟩:=info_parts zfr
 obtain ⟨j0,ji,jz0,jz1,jz2⟩:=info_parts zr3
 refine zjv s7 105 (J7 q A0 c0 W0) (by kernel_rfl) hd hs z5k (fun f=>⟨bdr brf,fun j hj=>(by cases hj),fun j k _ _ hj=>(by cases hj),fun j k _ hj=>(by cases hj)⟩) ?_ (fun l f b w hJ hl=>hend l f b w hJ fun i hi=>hl i (by omega))
 rintro i o l f b w ho hli hall hJ
 obtain ⟨h7,hgd,hwait⟩:=hops i o ho
 have hw:∀ k∈zew i,l k=true:=fun k hk=>by
  have h1:=List.all_eq_true.1 hwait k hk
  rw [Array.any_eq_true] at h1
  obtain ⟨j,hj,h1⟩:=h1
  simp only [Bool.and_eq_true,beq_iff_eq] at h1
  rw [← h1.2]
  exact hall _ (Array.getElem_mem hj) h1.1
 have i12:i<12:=by rw [← h12];exact (Array.getElem?_eq_some_iff.1 ho).1
 rw [if_pos (zjx hgd _)]
 have ev:∀ p:Nat,p<105→(⟨frS s7 T f,[]⟩:Act).eval (.tmp p)=match s7 p with|some j=>f j|none=>T.getD p undef:=fun p hp=>zr6 s7 T f (by omega)
 have brw:Below w.heap.size w w:=brf
 have pureJ:∀ {i:Nat},l i=false→(isA7 i=false)→∀ v,C7 q A0 c0 W0 (updF f i v) (updF b i 0) i w→(∀ k,dep7 i k=true→l k=true)→J7 q A0 c0 W0 (updF l i true) (updF f i v) (updF b i 0) w:=fun hl ha v hc hd=>hJ.step hl v 0 brf hc (fun h=>by rw [ha] at h;cases h) hd
 clear hall hwait ho hops hend
 match i,i12 with
 | 0,_ =>
   refine zmi h7 ⟨_,_,rfl,pureJ hli rfl _ ?_ (fun k h=>by cases h)⟩
   show updF f 0 _ 0=_
   rw [ev 14 (by omega)]
   exact h14
 | 3,_ =>
   refine zmi h7 ⟨_,_,rfl,pureJ hli rfl _ ?_ (fun k h=>by cases h)⟩
   show updF f 3 _ 3=_
   rw [ev 14 (by omega)]
   exact h14
 | 6,_ =>
   refine zmi h7 ⟨_,_,rfl,pureJ hli rfl _ ?_ (fun k h=>by cases h)⟩
   show updF f 6 _ 6=_
   rw [ev 14 (by omega)]
   exact h14
 | 1,_ =>
   have hk:l 0=true:=hw 0 (by simp [zew])
   refine zui (c:=c0) (A:=A0) (n:=q) h7 (Lead.of Tryd.underlying23) ?_ ⟨_,_,rfl,pureJ hli rfl _ ?_ (fun k h=>by cases h)⟩
   ·rw [ev 58 (by omega)]
    exact hJ.c 0 hk
   ·rfl
 | 4,_ =>
   have hk:l 3=true:=hw 3 (by simp [zew])
   refine zui (c:=c0) (A:=A0) (n:=q) h7 (Lead.of Tryd.underlying23) ?_ ⟨_,_,rfl,pureJ hli rfl _ ?_ (fun k h=>by cases h)⟩
   ·rw [ev 61 (by omega)]
    exact hJ.c 3 hk
   ·rfl
 | 7,_ =>
   have hk:l 6=true:=hw 6 (by simp [zew])
   refine zui (c:=c0) (A:=A0) (n:=q) h7 (Lead.of Tryd.underlying23) ?_ ⟨_,_,rfl,pureJ hli rfl _ ?_ (fun k h=>by cases h)⟩
   ·rw [ev 64 (by omega)]
    exact hJ.c 6 hk
   ·rfl
 | 2,_ =>
   have hk:l 1=true:=hw 1 (by simp [zew])
   have hl:(⟨frS s7 T f,[]⟩:Act).eval (.tmp 59)=.int .i64 q:=by
    rw [ev 59 (by omega)]
    exact hJ.c 1 hk
   exact zjw h7 33 i0 (.slice none 0 0) (Lead.of Tryd.underlying22) hi hz0 hz1 rfl q hl hl (by rw [hz2];omega) (by unfold maxLen;omega) (fun w' hr hb hs=>⟨_,updF b 2 w.heap.size,rfl,hJ.step hli _ w.heap.size hb ⟨rfl,hr,hJ.below.size,hs⟩ (fun _=>Nat.le_refl _) (fun k h=>by cases h)⟩)
 | 5,_ =>
   have hk:l 4=true:=hw 4 (by simp [zew])
   have hl:(⟨frS s7 T f,[]⟩:Act).eval (.tmp 62)=.int .i64 q:=by
    rw [ev 62 (by omega)]
    exact hJ.c 4 hk
   exact zjw h7 3 j0 (.int .i64 0) (Lead.of Tryd.underlying23) ji jz0 jz1 rfl q hl hl (by rw [jz2];omega) (by unfold maxLen;omega) (fun w' hr hb hs=>⟨_,updF b 5 w.heap.size,rfl,hJ.step hli _ w.heap.size hb ⟨rfl,hr,hJ.below.size,hs⟩ (fun _=>Nat.le_refl _) (fun k h=>by cases h)⟩)
 | 8,_ =>
   have hk:l 7=true:=hw 7 (by simp [zew])
   have hl:(⟨frS s7 T f,[]⟩:Act).eval (.tmp 65)=.int .i64 q:=by
    rw [ev 65 (by omega)]
    exact hJ.c 7 hk
   exact zjw h7 33 i0 (.slice none 0 0) (Lead.of Tryd.underlying22) hi hz0 hz1 rfl q hl hl (by rw [hz2];omega) (by unfold maxLen;omega) (fun w' hr hb hs=>⟨_,updF b 8 w.heap.size,rfl,hJ.step hli _ w.heap.size hb ⟨rfl,hr,hJ.below.size,hs⟩ (fun _=>Nat.le_refl _) (fun k h=>by cases h)⟩)
 | 9,_ =>
   have k2:l 2=true:=hw 2 (by simp [zew])
   have k5:l 5=true:=hw 5 (by simp [zew])
   have k8:l 8=true:=hw 8 (by simp [zew])
   have e2:=(hJ.c 2 k2).1
   have e5:=(hJ.c 5 k5).1
   have e8:=(hJ.c 8 k8).1
   refine zmh (v:=.agg #[f 2,f 5,f 8]) (w':=w) ?_ ⟨_,_,rfl,pureJ hli rfl _ rfl (fun k h=>hw k ?_)⟩
   ·have e:execOp (⟨frS s7 T f,[]⟩:Act).eval o=(do pure (.value (← Instr.build 25 #[(0,f 2),(1,f 5),(2,f 8)]))):=by
     unfold execOp
     rw [show o.op=.build 25 #[(0,.tmp 60),(1,.tmp 63),(2,.tmp 66)] from h7]
     simp only [List.map_toArray,List.map_cons,List.map_nil,ev 60 (by omega),ev 63 (by omega),ev 66 (by omega)]
     rfl
    rw [e,Sem.run_bind,run_build w 25 _ #[f 2,f 5,f 8] (by rw [e2,e5,e8];rfl)]
    rfl
   ·revert h
    unfold dep7 zew
    simp
    omega
 | 10,_ =>
   refine zmh (v:=.pointer (some ⟨w.heap.size,0,none⟩)) (w':=w.alloc (.cells #[.slice none 0 0,.slice none 0 0,.slice none 0 0] 25)) ?_ ⟨_,updF b 10 w.heap.size,rfl,hJ.step hli _ w.heap.size (bal brf _) ⟨rfl,fun j hj=>?_,hJ.below.size,by show w.heap.size<_;rw [World.size_alloc];omega⟩ (fun _=>Nat.le_refl _) (fun k h=>by cases h)⟩
   ·unfold execOp
    rw [show o.op=.alloc 25 from h7]
    simp [go_sem]
   ·show ((w.alloc _).cell? ⟨w.heap.size,0+j,none⟩).isSome=true∧(w.alloc _).frozen? ⟨w.heap.size,0+j,none⟩=false
    rw [World.cell?_alloc_at _ _ _ _ rfl]
    refine ⟨?_,by simp [go_sem]⟩
    match j,hj with
    | 0,_=>rfl
    | 1,_=>rfl
    | 2,_=>rfl
 | 11,_ =>
   have k2:l 2=true:=hw 2 (by simp [zew])
   have k5:l 5=true:=hw 5 (by simp [zew])
   have k8:l 8=true:=hw 8 (by simp [zew])
   have k9:l 9=true:=hw 9 (by simp [zew])
   have k10:l 10=true:=hw 10 (by simp [zew])
   have c2:=hJ.c 2 k2
   have c5:=hJ.c 5 k5
   have c8:=hJ.c 8 k8
   have c10:=hJ.c 10 k10
   have n2:=hJ.ap 2 10 rfl rfl k2 k10 (by decide)
   have n5:=hJ.ap 5 10 rfl rfl k5 k10 (by decide)
   have n8:=hJ.ap 8 10 rfl rfl k8 k10 (by decide)
   refine wp_store_mid 25 (.tmp 17) (.tmp 67) h7 (b 10) 0 #[f 2,f 5,f 8] (by rw [ev 17 (by omega)];exact c10.1) (by rw [ev 67 (by omega)];exact hJ.c 9 k9) c10.2.1 zna (by rw [c2.1,c5.1,c8.1];simp [Value.oneCell']) ⟨_,b,rfl,?_⟩
   have hl:∀ k,updF l 11 true k=true→k=11∨l k=true:=fun k h=>by
    by_cases e:k=11
    ·exact .inl e
    ·exact .inr (by simpa [updF,e] using h)
   refine ⟨zas c10.2.2.1 _ _ hJ.below,fun j hj=>?_,fun j k hj hk hlj hlk hjk=>?_,fun j k hjk hlj=>?_⟩
   ·rcases hl j hj with rfl|hj
    ·exact World.rangeAt_setCells_same _ _ _ _ c10.2.1
    ·have hc:=hJ.c j hj
     have hne:j≠11:=fun e=>by rw [e,hli] at hj;cases hj
     unfold C7 at hc ⊢
     split at hc
     ·exact hc
     ·exact hc
     ·exact hc
     ·exact hc
     ·exact hc
     ·exact hc
     ·exact ⟨hc.1,zie n2 hc.2.1,hc.2.2.1,by rw [zaq];exact hc.2.2.2⟩
     ·exact ⟨hc.1,zie n8 hc.2.1,hc.2.2.1,by rw [zaq];exact hc.2.2.2⟩
     ·exact ⟨hc.1,zie n5 hc.2.1,hc.2.2.1,by rw [zaq];exact hc.2.2.2⟩
     ·exact hc
     ·exact ⟨hc.1,World.there_setCells hc.2.1 _ _ _,hc.2.2.1,by rw [zaq];exact hc.2.2.2⟩
     ·exact absurd rfl hne
     ·trivial
   ·rcases hl j hlj with rfl|hlj
    ·cases hj
    ·rcases hl k hlk with rfl|hlk
     ·cases hk
     ·exact hJ.ap j k hj hk hlj hlk hjk
   ·rcases hl j hlj with rfl|hlj
    ·have:l k=true:=hw k (by revert hjk;unfold dep7 zew;simp;omega)
     simp [updF,this]
    ·have:=hJ.dep j k hjk hlj
     simp [updF,this]
theorem fr7 {T:Array Value}(hT:T.size=105)(f:Nat→Value): frS s7 T f=((((((((((T.setIfInBounds 58 (f 0)).setIfInBounds 59 (f 1)).setIfInBounds 60 (f 2)).setIfInBounds 61 (f 3)).setIfInBounds 62 (f 4)).setIfInBounds 63 (f 5)).setIfInBounds 64 (f 6)).setIfInBounds 65 (f 7)).setIfInBounds 66 (f 8)).setIfInBounds 67 (f 9)).setIfInBounds 17 (f 10):=by
 apply Array.ext_getElem?
 intro p
 unfold frS
 rw [Array.getElem?_mapIdx]
 simp only [Array.getElem?_setIfInBounds,Array.size_setIfInBounds,hT]
 by_cases h58:p=58
 ·subst h58;simp [s7,hT]
 by_cases h59:p=59
 ·subst h59;simp [s7,hT]
 by_cases h60:p=60
 ·subst h60;simp [s7,hT]
 by_cases h61:p=61
 ·subst h61;simp [s7,hT]
 by_cases h62:p=62
 ·subst h62;simp [s7,hT]
 by_cases h63:p=63
 ·subst h63;simp [s7,hT]
 by_cases h64:p=64
 ·subst h64;simp [s7,hT]
 by_cases h65:p=65
 ·subst h65;simp [s7,hT]
 by_cases h66:p=66
 ·subst h66;simp [s7,hT]
 by_cases h67:p=67
 ·subst h67;simp [s7,hT]
 by_cases h17:p=17
 ·subst h17;simp [s7,hT]
 have hn:s7 p=none:=by
  unfold s7
  split <;> first
   | (exfalso;omega)
   | rfl
 rw [hn]
 rw [if_neg (Ne.symm h17),if_neg (Ne.symm h67),if_neg (Ne.symm h66),if_neg (Ne.symm h65),if_neg (Ne.symm h64),if_neg (Ne.symm h63),if_neg (Ne.symm h62),if_neg (Ne.symm h61),if_neg (Ne.symm h60),if_neg (Ne.symm h59),if_neg (Ne.symm h58)]
 cases T[p]? <;> rfl
end
end
section
open Go.RowKit
def z35 (hop hops:Int)(m:Nat): Prop:=1≤hops∧hops≤8∧0≤hop∧hop<hops∧m≤64
theorem zr8 {F:Nat→List Value}: ∀ {G:List Nat},(∀ p∈G,(F p).length=4)→∀ {v j:Nat},v<G.length→j<4→(G.flatMap F)[4 * v+j]?=(F (G.getD v 0))[j]?
 | [],_,v,j,hv,_=>absurd hv (Nat.not_lt_zero v)
 | p :: G,h,v,j,hv,hj=>by
   have hp:=h p List.mem_cons_self
   rw [List.flatMap_cons]
   cases v with
   | zero =>
     rw [List.getElem?_append_left (by omega)]
     simp
   | succ v =>
     rw [List.getElem?_append_right (by omega),hp,show 4 * (v+1)+j - 4=4 * v+j by omega]
     have:=zr8 (G:=G) (fun p hp=>h p (List.mem_cons_of_mem _ hp)) (v:=v) (j:=j) (by simpa using hv) hj
     simpa using this
abbrev ztk (B bk o:Nat)(u0 u1 u2 v0 v2 v3:Value)(x:World): Prop:=x.cell? ⟨B,0,none⟩=some u0∧x.cell? ⟨B,1,none⟩=some u1∧x.cell? ⟨B,2,none⟩=some u2∧x.cell? ⟨bk,o,none⟩=some v0∧x.cell? ⟨bk,o+2,none⟩=some v2∧x.cell? ⟨bk,o+3,none⟩=some v3
theorem zw4 {B bk o b i:Nat}{u0 u1 u2 v0 v2 v3 u:Value}{x:World}(h1:b≠B)(h2:b≠bk)(h:ztk B bk o u0 u1 u2 v0 v2 v3 x): ztk B bk o u0 u1 u2 v0 v2 v3 (x.setCell ⟨b,i,none⟩ u) :=
 ⟨(zaa h1).trans h.1,(zaa h1).trans h.2.1,(zaa h1).trans h.2.2.1,(zaa h2).trans h.2.2.2.1,(zaa h2).trans h.2.2.2.2.1,(zaa h2).trans h.2.2.2.2.2⟩
def ze9 (z:Value)(g:Nat→Value)(n k:Nat): List Value:=(List.range n).map fun i=>if i<k then g i else z
theorem zd8 (z:Value)(g:Nat→Value)(n:Nat): ze9 z g n 0=List.replicate n z:=by
 unfold ze9
 apply List.ext_getElem?
 intro i
 by_cases h:i<n <;> simp [h]
theorem ze8 (z:Value)(g:Nat→Value){n k:Nat}(h:k<n): (ze9 z g n k).set k (g k)=ze9 z g n (k+1):=by
 unfold ze9
 apply List.ext_getElem?
 intro i
 by_cases hi:i=k
 ·subst hi;simp [h]
 ·rw [List.getElem?_set_ne (Ne.symm hi)]
  by_cases hn:i<n
  ·simp only [List.getElem?_map,List.getElem?_range hn,Option.map_some]
   congr 1
   by_cases h1:i<k
   ·rw [if_pos h1,if_pos (by omega)]
   ·rw [if_neg h1,if_neg (by omega)]
  ·simp [hn]
theorem zhz (z:Value)(g:Nat→Value){n k:Nat}(h:k<n): (ze9 z g n k)[k]?=some z:=by simp [ze9,h]
theorem zh0 (z:Value)(g:Nat→Value)(n:Nat): ze9 z g n n=(List.range n).map g:=by
 unfold ze9
 exact List.map_congr_left fun i hi=>if_pos (List.mem_range.1 hi)
noncomputable def zax (sv:List Int)(hop hops:Int)(L:List (List Int))(ds:List Int)(i:Nat): Nat:=(za4 sv hop hops L).getD ((zsz (za4 sv hop hops L).length ds).getD i 0).toNat 0
theorem zuw {w:World}{g:Nat}{a b c:Value}{t:TypeId}(h:w.heap[g]?=some (.cells #[a,b,c] t)): w.there g 0 3:=fun j hj=>by
 unfold World.cell? World.frozen?
 rw [h]
 refine ⟨?_,by simp⟩
 match j,hj with
 | 0,_=>rfl
 | 1,_=>rfl
 | 2,_=>rfl
theorem zio {P:Program}{fn:Func}{p t t2:Tmp}{ty:TypeId}(h:fn.results=#[.cell p ty,.tmp t,.tmp t2])(tmps:Array Value)(w:World)(b o:Nat)(cs:List Value)(d:TypeDesc)(hp:tmps.getD p undef=.pointer (some ⟨b,o,none⟩))(hc:w.rangeAt b o cs)(hu:P.underlying ty=some d)(hd:d.isRow=true)(hi:(P.info? ty).map (·.size)=some cs.length):
  (results fn tmps).run P w=.ok (.tuple #[.agg cs.toArray,tmps.getD t undef,tmps.getD t2 undef]) w:=by
 have hp':tmps[p]?.getD undef=.pointer (some ⟨b,o,none⟩):=by simpa using hp
 simp [results,h,hp',asAddr,run_loadVar_mid w b o ty cs d hc hu hd hi]
theorem zn7 {w:World}{g:Nat}{t:TypeId}{A:Option Addr}{xs:List Int}(hg:w.heap[g]?=some (.cells #[.slice none 0 0,.slice none 0 0,.slice none 0 0] t))(h:Rd w A (nums .u8 xs)): RdA g w A (nums .u8 xs):=by
 rcases h with h|⟨b,off,h1,h2,h3⟩
 ·exact .inl h
 ·cases xs with
  | nil=>exact .inl rfl
  | cons x xs =>
    refine .inr ⟨b,off,h1,fun e=>?_,h2,h3⟩
    subst e
    have h4:=h3 0 _ rfl
    unfold World.cell? at h4
    rw [hg] at h4
    have h4:#[Value.slice none 0 0,.slice none 0 0,.slice none 0 0][off+0]?=some (.int .u8 x):=h4
    match off,h4 with
    | 0,h4=>cases h4
    | 1,h4=>cases h4
    | 2,h4=>cases h4
    | n+3,h4=>simp at h4
theorem zml {w w':World}{g q:Nat}{vs:List Value}(h:VRow w g vs)(hlt:g<w.heap.size)(hne:g≠q)(hb:∀ i,i≠q→w'.heap[i]?=w.heap[i]?)(hs:w'.heap.size=w.heap.size): Rd w' (some ⟨g,0,none⟩) vs :=
 .inr ⟨g,0,rfl,by omega,fun i v hv=>by rw [Nat.zero_add];exact (World.cell?_of_block (a:=⟨g,i,none⟩) (hb g hne)).trans (h i v hv).1⟩
def z59 (w:World)(v:Value)(xs:List Int): Prop:=∃ A c,v=.slice A xs.length c∧Rd w A (nums .u8 xs)
def z45 (w:World)(vs:List Value)(L:List (List Int)): Prop:=vs.length=L.length∧∀ i,i<L.length→z59 w (vs.getD i undef) (L.getD i [])
theorem bdrL {B:Nat}{w x:World}(h:Below B w x): Below B w x.drew:=⟨h.os,h.tape,h.output,h.size,h.block⟩
theorem zfm {sv:List Int}{hop hops:Int}{L:List (List Int)}{ds:List Int}{i:Nat}(h:i<(za4 sv hop hops L).length): zax sv hop hops L ds i∈za4 sv hop hops L:=by
 unfold zax
 have:=(zjk (za4 sv hop hops L).length ds).1 i (by rw [zc9];exact h)
 rw [zc9] at this
 rw [List.getD,List.getElem?_eq_getElem (by omega)]
 exact List.getElem_mem _
noncomputable def zd6 (sv:List Int)(hop hops:Int)(L:List (List Int))(ds:List Int): List Nat:=(List.range (za4 sv hop hops L).length).map (zax sv hop hops L ds)
def z48 (w:World)(sv:List Int)(hop hops:Int)(L:List (List Int))(ds:List Int)(e:Ending)(w':World): Prop :=
 ∃ X Y Z x y z vo vk,e=.returned (.tuple #[.agg #[.slice X (za4 sv hop hops L).length x,.slice Y (za4 sv hop hops L).length y,.slice Z (za4 sv hop hops L).length z],.int .i64 (min ((za4 sv hop hops L).length - 1) ds.length:Nat),.int .i64 0]) ∧
  (za4 sv hop hops L).length≤x∧(za4 sv hop hops L).length≤y∧(za4 sv hop hops L).length≤z∧Rd w' X vo∧zf8 w' vo ((zd6 sv hop hops L ds).map fun p=>zcz sv hop.toNat hops.toNat (L.getD p []))∧Rd w' Y (nums .i64 ((zd6 sv hop hops L ds).map fun (p:Nat)=>(p:Int))) ∧
  Rd w' Z vk∧z45 w' vk ((zd6 sv hop hops L ds).map fun p=>zej sv hop.toNat (L.getD p []))∧Below w.heap.size w w'
set_option maxHeartbeats 2000000 in
theorem zqd (A D E:Option Addr)(n c m d r t:Nat)(hop hops:Int)(sv ds:List Int)(vs:List Value)(L:List (List Int))(w:World)(hn:sv.length=n)(hbn:n≤4000)(hnc:n≤c)(hm:L.length=m)(hmm:z35 hop hops m)(hmd:m≤d)(hr:ds.length=r)(hr1:r≤100000)(hx:Rd w A (nums .u8 sv))(bs:Byt sv)(hy:Rd w D vs)(hp:zf8 w vs L)(hB:∀ xs∈L,Byt xs)(hlen:∀ xs∈L,xs.length≤100000)(hz:Rd w E (nums .i64 ds))(hK:za2 w):
  Calls Lead.prog 13 #[.slice A n c,.int .i64 hop,.int .i64 hops,.slice D m d,.slice E r t] w (z48 w sv hop hops L ds):=by
 obtain ⟨h1,h2,h3,h4,h5⟩:=hmm
 have hbw:∀ o,Below w.heap.size w (w.alloc o):=fun o=>bal brf o
 have CA:=fun o=>zp6 A D n c m d hop hops sv vs L (w.alloc o) hn hbn hnc hm h5 hmd (hx.below (hbw o)) bs (hy.below (hbw o)) (hp.below (hbw o)) hB hlen (hK.below (hbw o) (by have:=za5 (hK 0 (by omega));exact this))
 obtain ⟨q,hq⟩:∃ q,q=(za4 sv hop hops L).length:=⟨_,rfl⟩
 have hq64:q≤64:=by
  rw [hq]
  exact Nat.le_trans (zkx _) (by omega)
 have CS:=fun (W:World) (hh:Rd W E (nums .i64 ds))=>zy1 q E r t ds W (by omega) hr hr1 hh
 have HZ:=Lib.hid hz
 have HQ:=Lib.hid hq
 have g1:¬ hops<1:=by omega
 have g2:¬ 8<hops:=by omega
 have g3:¬ hop<0:=by omega
 have g4:¬ hops≤hop:=by omega
 have g5:¬ (64:Int)<m:=by omega
 clear hx hy hp hB hlen bs hK hn hm hz hr hbw hq
 go_enter Lead.func13,Tryd.ntmps13
 go_upto_region 7 with (first
  | (go_at_call 19;refine (CA _).mono ?_;rintro e w1 ⟨A1,c1,F,rfl,hr1,hF1,hb1⟩;rw [← HQ.out])
  | (go_at_call 20;refine (CS _ (HZ.out.below (bgo (bal brf _) hb1))).mono ?_;rintro e w2 ⟨A2,c2,rfl,hc2,hr2,hb2⟩))
 refine mix7 (q:=q) (A0:=A2) (c0:=c2) (W0:=w2) rfl rfl (by omega) (by kernel_rfl) (by kernel_rfl) rfl ?opsM ?finM
 case opsM =>
  intro i o ho
  have hi:i<12:=(Array.getElem?_eq_some_iff.1 ho).1
  match i,hi with
  | 0,_=>cases ho;exact ⟨rfl,rfl,by first|rfl|decide +kernel⟩
  | 1,_=>cases ho;exact ⟨rfl,rfl,by first|rfl|decide +kernel⟩
  | 2,_=>cases ho;exact ⟨rfl,rfl,by first|rfl|decide +kernel⟩
  | 3,_=>cases ho;exact ⟨rfl,rfl,by first|rfl|decide +kernel⟩
  | 4,_=>cases ho;exact ⟨rfl,rfl,by first|rfl|decide +kernel⟩
  | 5,_=>cases ho;exact ⟨rfl,rfl,by first|rfl|decide +kernel⟩
  | 6,_=>cases ho;exact ⟨rfl,rfl,by first|rfl|decide +kernel⟩
  | 7,_=>cases ho;exact ⟨rfl,rfl,by first|rfl|decide +kernel⟩
  | 8,_=>cases ho;exact ⟨rfl,rfl,by first|rfl|decide +kernel⟩
  | 9,_=>cases ho;exact ⟨rfl,rfl,by first|rfl|decide +kernel⟩
  | 10,_=>cases ho;exact ⟨rfl,rfl,by first|rfl|decide +kernel⟩
  | 11,_=>cases ho;exact ⟨rfl,rfl,by first|rfl|decide +kernel⟩
 case finM =>
  intro l f b w3 hJ hall
  have k:=fun i (hi:i<12)=>hJ.c i (hall i hi)
  have hdis:=hJ.ap
  have b3:=hJ.below
  have f0:f 0=.slice A2 q c2:=k 0 (by omega)
  have f1:f 1=.int .i64 q:=k 1 (by omega)
  obtain ⟨f2,r2,l2,s2⟩:=k 2 (by omega)
  have f3:f 3=.slice A2 q c2:=k 3 (by omega)
  have f4:f 4=.int .i64 q:=k 4 (by omega)
  obtain ⟨f5,r5,l5,s5⟩:=k 5 (by omega)
  have f6:f 6=.slice A2 q c2:=k 6 (by omega)
  have f7:f 7=.int .i64 q:=k 7 (by omega)
  obtain ⟨f8,r8,l8,s8⟩:=k 8 (by omega)
  have f9:f 9=.agg #[f 2,f 5,f 8]:=k 9 (by omega)
  obtain ⟨f10,r10,l10,s10⟩:=k 10 (by omega)
  have r11:w3.rangeAt (b 10) 0 [f 2,f 5,f 8]:=k 11 (by omega)
  rw [fr7 rfl f,f0,f1,f3,f4,f6,f7,f9,f10]
  rw [f2,f5,f8] at r11 ⊢
  have n25:=hdis 2 5 rfl rfl (hall 2 (by omega)) (hall 5 (by omega)) (by decide)
  have n28:=hdis 2 8 rfl rfl (hall 2 (by omega)) (hall 8 (by omega)) (by decide)
  have n58:=hdis 5 8 rfl rfl (hall 5 (by omega)) (hall 8 (by omega)) (by decide)
  have n210:=hdis 2 10 rfl rfl (hall 2 (by omega)) (hall 10 (by omega)) (by decide)
  have n510:=hdis 5 10 rfl rfl (hall 5 (by omega)) (hall 10 (by omega)) (by decide)
  have n810:=hdis 8 10 rfl rfl (hall 8 (by omega)) (hall 10 (by omega)) (by decide)
  generalize b 2=B2 at *
  generalize b 5=B5 at *
  generalize b 8=B8 at *
  generalize b 10=B10 at *
  clear k hJ hall hdis f0 f1 f2 f3 f4 f5 f6 f7 f8 f9 f10
  simp only [List.setIfInBounds_toArray,List.set_cons_zero,List.set_cons_succ]
  have e0:=r11 0 _ rfl
  have e1:=r11 1 _ rfl
  have e2:=r11 2 _ rfl
  simp only [Nat.zero_add] at e0 e1 e2
  have HE0:=Lib.hid e0
  have HE1:=Lib.hid e1
  have HE2:=Lib.hid e2
  have HR2:=Lib.hid r2
  have HR5:=Lib.hid r5
  have HR8:=Lib.hid r8
  have HORD:=Lib.hid hr2
  have HKEP:=Lib.hid (hr1.below hb2)
  have HPL:=Lib.hid hF1
  have HSH:=Lib.hid (zjk q ds)
  have HSL:=Lib.hid (zc9 q ds)
  have hw12:=hb1.size
  rw [World.size_alloc] at hw12
  have hw23:=hb2.size
  clear e0 e1 e2 r2 r5 r8 r10 r11 hr1 hr2 hF1
  rename World=>w3
  go_wp2_with fail
  go_loopw [70] (fun i wr=>∃ k:Nat,k≤q∧i=.int .i64 k∧Hid (VRow wr B2 (ze9 (.slice none 0 0) (fun i=>(F (zax sv hop hops L ds i)).getD 2 undef) q k))∧Hid (VRow wr B5 (ze9 (.int .i64 0) (fun i=>.int .i64 (zax sv hop hops L ds i)) q k))∧Hid (VRow wr B8 (ze9 (.slice none 0 0) (fun i=>(F (zax sv hop hops L ds i)).getD 3 undef) q k))∧Hid (wr.rangeAt B10 0 [.slice (some ⟨B2,0,none⟩) q q,.slice (some ⟨B5,0,none⟩) q q,.slice (some ⟨B8,0,none⟩) q q])∧Below w2.heap.size w2 wr∧wr.heap.size=w3.heap.size) (fun i _=>q - (intOf i).toNat)
  case atStart=>exact ⟨0,Nat.zero_le _,rfl,Lib.hid (by rw [zd8];exact HR2.out),Lib.hid (by rw [zd8];exact HR5.out),Lib.hid (by rw [zd8];exact HR8.out),Lib.hid (fun j v hv=>by
    rw [Nat.zero_add]
    match j,hv with
    | 0,hv=>cases hv;exact HE0.out
    | 1,hv=>cases hv;exact HE1.out
    | 2,hv=>cases hv;exact HE2.out),b3,rfl⟩
  case round =>
   obtain ⟨k,hk,rfl,H2,H5,H8,HB,hb,hsz⟩:=hrel
   by_cases hlt:k<q
   ·have r2:(k:Int)<q:=by omega
    have r3:(0:Int)≤k:=by omega
    have hx1:=HSH.out.1 k (by rw [HSL.out];exact hlt)
    rw [HSL.out] at hx1
    obtain ⟨x,hx⟩:∃ x,x=(zsz q ds).getD k 0:=⟨_,rfl⟩
    rw [← hx] at hx1
    obtain ⟨v,rfl⟩:=Int.eq_ofNat_of_zero_le hx1.1
    have hvq:v<q:=by have:=hx1.2;omega
    obtain ⟨bo,oo,hAo,hlo,hco⟩:=(HORD.out.below hb).at_ (by simp [HSL.out];omega)
    subst hAo
    have co:=hco k _ (za9 (by rw [HSL.out];exact hlt))
    rw [← hx] at co
    have hG:=HQ.out
    have hlen4:∀ p∈za4 sv hop hops L,(F p).length=4:=fun p hp=>by
     obtain ⟨_,_,_,_,e,_⟩:=HPL.out p hp
     rw [e];rfl
    have hP:zax sv hop hops L ds k=(za4 sv hop hops L).getD v 0:=by
     unfold zax
     rw [← hG,← hx]
     rfl
    have hmem:(za4 sv hop hops L).getD v 0∈za4 sv hop hops L:=by
     rw [List.getD,List.getElem?_eq_getElem (by omega)]
     exact List.getElem_mem _
    obtain ⟨pl,hpl⟩:∃ pl,pl=zax sv hop hops L ds k:=⟨_,rfl⟩
    rw [← hP,← hpl] at hmem
    have fl:∀ j,j<4→((za4 sv hop hops L).flatMap F)[4 * v+j]?=(F pl)[j]?:=fun j hj=>by
     rw [zr8 hlen4 (by omega) hj,← hP,← hpl]
    obtain ⟨X1,x1,Y1,y1,hF,_,_,_⟩:=HPL.out pl hmem
    rw [hF] at fl
    obtain ⟨bk,ok,hAk,hlk,hck0⟩:=HKEP.out.at_ (by have:=(List.getElem?_eq_some_iff.1 (fl 0 (by omega))).1;omega)
    have hck:=fun (i:Nat) (u:Value) (hu:((za4 sv hop hops L).flatMap F)[i]?=some u)=>(hb.cell (p:=⟨bk,ok+i,none⟩) hlk).trans (hck0 i u hu)
    subst hAk
    have q0:=hck (4 * v+0) _ (fl 0 (by omega))
    have q2:=hck (4 * v+2) _ (fl 2 (by omega))
    have q3:=hck (4 * v+3) _ (fl 3 (by omega))
    rw [Nat.mul_comm 4 v,← Nat.add_assoc] at q0 q2 q3
    rw [Nat.add_zero] at q0
    obtain ⟨p1,hp1⟩:∃ p1,p1=(zcz sv hop.toNat hops.toNat (L.getD pl [])).length:=⟨_,rfl⟩
    obtain ⟨p2,hp2⟩:∃ p2,p2=(zej sv hop.toNat (L.getD pl [])).length:=⟨_,rfl⟩
    rw [← hp1] at q2 hF
    rw [← hp2] at q3 hF
    have HF:=Lib.hid hF
    have HPP:=Lib.hid hpl
    have e0:=HB.out 0 _ rfl
    have e1:=HB.out 1 _ rfl
    have e2:=HB.out 2 _ rfl
    simp only [Nat.zero_add] at e0 e1 e2
    obtain ⟨c2,g2⟩:=H2.out k _ (zhz _ _ hlt)
    obtain ⟨c5,g5⟩:=H5.out k _ (zhz _ _ hlt)
    obtain ⟨c8,g8⟩:=H8.out k _ (zhz _ _ hlt)
    clear hck0
    clear hx hco hG hlen4 hP hmem fl hck hF hpl hp1 hp2 hx1
    have r4:(0:Int)≤v:=by omega
    have r5:(v:Int)<q:=by omega
    have m2:B2≠bk:=by omega
    have m5:B5≠bk:=by omega
    have m8:B8≠bk:=by omega
    have SH:∀ (x:World) (b i:Nat) (u:Value),b≠B10→b≠bk→ztk B10 bk (ok+v * 4) (.slice (some ⟨B2,0,none⟩) q q) (.slice (some ⟨B5,0,none⟩) q q) (.slice (some ⟨B8,0,none⟩) q q) (.int .i64 pl) (.slice X1 p1 x1) (.slice Y1 p2 y1) x→ztk B10 bk (ok+v * 4) (.slice (some ⟨B2,0,none⟩) q q) (.slice (some ⟨B5,0,none⟩) q q) (.slice (some ⟨B8,0,none⟩) q q) (.int .i64 pl) (.slice X1 p1 x1) (.slice Y1 p2 y1) (x.setCell ⟨b,i,none⟩ u):=fun x b i u h1 h2 h=>zw4 h1 h2 h
    go_upto_region 11 with fail
    have S0:ztk B10 bk (ok+v * 4) (.slice (some ⟨B2,0,none⟩) q q) (.slice (some ⟨B5,0,none⟩) q q) (.slice (some ⟨B8,0,none⟩) q q) (.int .i64 pl) (.slice X1 p1 x1) (.slice Y1 p2 y1) wr.drew:=⟨e0,e1,e2,q0,q2,q3⟩
    go_region_held3 (fun x=>ztk B10 bk (ok+v * 4) (.slice (some ⟨B2,0,none⟩) q q) (.slice (some ⟨B5,0,none⟩) q q) (.slice (some ⟨B8,0,none⟩) q q) (.int .i64 pl) (.slice X1 p1 x1) (.slice Y1 p2 y1) x) (first|exact S0|exact SH _ _ _ _ n210 m2 S0|exact SH _ _ _ _ n510 m5 (SH _ _ _ _ n210 m2 S0)|exact SH _ _ _ _ n810 m8 (SH _ _ _ _ n510 m5 (SH _ _ _ _ n210 m2 S0))) (fail)
    clear e0 e1 e2 c2 c5 c8 g2 g5 g8 q0 q2 q3 S0 SH
    go_wp2_with fail
    have u2:(F (zax sv hop hops L ds k)).getD 2 undef=.slice X1 p1 x1:=by rw [← HPP.out,HF.out];rfl
    have u3:(F (zax sv hop hops L ds k)).getD 3 undef=.slice Y1 p2 y1:=by rw [← HPP.out,HF.out];rfl
    have u5:(Value.int .i64 (zax sv hop hops L ds k))=.int .i64 pl:=by rw [← HPP.out]
    refine ⟨⟨k+1,by omega,by congr 1,Lib.hid ?_,Lib.hid ?_,Lib.hid ?_,Lib.hid ?_,?_,?_⟩,by show q - ((k:Int)+1).toNat<q - (k:Int).toNat;omega⟩
    ·rw [← ze8 _ _ hlt,u2]
     exact ((H2.out.set _).far (Ne.symm n25) _).far (Ne.symm n28) _
    ·rw [← ze8 _ (fun i=>Value.int .i64 (zax sv hop hops L ds i)) hlt,u5]
     exact ((H5.out.far n25 _).set _).far (Ne.symm n58) _
    ·rw [← ze8 _ (fun i=>(F (zax sv hop hops L ds i)).getD 3 undef) hlt,u3]
     exact ((H8.out.far n28 _).far n58 _).set _
    ·exact fun j v hv=>(zaa n810).trans ((zaa n510).trans ((zaa n210).trans (HB.out j v hv)))
    ·exact bdrL (((hb.setCell (p:=⟨B2,k,none⟩) l2 _).setCell (p:=⟨B5,k,none⟩) l5 _).setCell (p:=⟨B8,k,none⟩) l8 _)
    ·rw [← hsz]
     show ((((wr.setCell _ _).setCell _ _).setCell _ _)).heap.size=_
     rw [zah,zah,zah]
   ·have hkn:q=k:=by omega
    subst hkn
    have e0:=HB.out 0 _ rfl
    have e1:=HB.out 1 _ rfl
    have e2:=HB.out 2 _ rfl
    simp only [Nat.zero_add] at e0 e1 e2
    have hbox:∀ W,Below (w.alloc (.cells #[.slice none 0 0,.slice none 0 0,.slice none 0 0] 25)).heap.size (w.alloc (.cells #[.slice none 0 0,.slice none 0 0,.slice none 0 0] 25)) W→W.heap[w.heap.size]?=some (.cells #[.slice none 0 0,.slice none 0 0,.slice none 0 0] 25):=fun W h=>(h.block w.heap.size (by rw [World.size_alloc];omega)).trans (World.alloc_heap_new w _)
    have hx1:=hbox _ hb1
    have hx3:=hbox _ (bgo (bgo hb1 hb2) hb)
    have HT:wr.there w.heap.size 0 3:=zuw hx3
    go_upto_region 13 with fail
    iterate 7 go_step
    refine wpList_store_mid rfl 25 _ _ rfl w.heap.size 0 #[.slice (some ⟨B2,0,none⟩) q q,.slice (some ⟨B5,0,none⟩) q q,.slice (some ⟨B8,0,none⟩) q q] rfl rfl HT zna (by simp [Value.oneCell']) ?_
    have hrow5:=World.rangeAt_setCells_same wr w.heap.size 0 #[.slice (some ⟨B2,0,none⟩) q q,.slice (some ⟨B5,0,none⟩) q q,.slice (some ⟨B8,0,none⟩) q q].toList HT
    have hfar5:=zc4 w.heap.size #[.slice (some ⟨B2,0,none⟩) q q,.slice (some ⟨B5,0,none⟩) q q,.slice (some ⟨B8,0,none⟩) q q].toList 0 wr
    have hsz5:=zaq w.heap.size #[.slice (some ⟨B2,0,none⟩) q q,.slice (some ⟨B5,0,none⟩) q q,.slice (some ⟨B8,0,none⟩) q q].toList 0 wr
    have hbl5:=zas (Nat.le_refl w.heap.size) #[.slice (some ⟨B2,0,none⟩) q q,.slice (some ⟨B5,0,none⟩) q q,.slice (some ⟨B8,0,none⟩) q q].toList 0 (bgo (bgo (bgo (bal brf _) hb1) hb2) hb)
    generalize wr.setCells w.heap.size 0 #[.slice (some ⟨B2,0,none⟩) q q,.slice (some ⟨B5,0,none⟩) q q,.slice (some ⟨B8,0,none⟩) q q].toList=W5 at hrow5 hfar5 hsz5 hbl5 ⊢
    have HROW5:=Lib.hid hrow5
    have HFAR5:=Lib.hid hfar5
    have HBL5:=Lib.hid hbl5
    clear hrow5 hfar5 hbl5 e0 e1 e2
    go_wp2_with fail
    refine bodyPost_ret (v:=.tuple #[.agg #[.slice (some ⟨B2,0,none⟩) q q,.slice (some ⟨B5,0,none⟩) q q,.slice (some ⟨B8,0,none⟩) q q],.int .i64 (min (q - 1) ds.length:Nat),.int .i64 0]) ?_ rfl ?_
    ·exact zio (p:=10) (t:=11) (t2:=12) (by rfl) _ _ w.heap.size 0 _ _ (by rfl) HROW5.out (Lead.of Tryd.underlying25) rfl zna
    ·have hG:=HQ.out
     have r2:=H2.out
     have r5:=H5.out
     have r8:=H8.out
     rw [zh0] at r2 r5 r8
     have hch:=bgo hb2 hb
     have hpt:∀ i,i<q→∃ A1 c1 B1 d1,F (zax sv hop hops L ds i)=[.int .i64 (zax sv hop hops L ds i),.bool true,.slice A1 (zcz sv hop.toNat hops.toNat (L.getD (zax sv hop hops L ds i) [])).length c1,.slice B1 (zej sv hop.toNat (L.getD (zax sv hop hops L ds i) [])).length d1]∧(zcz sv hop.toNat hops.toNat (L.getD (zax sv hop hops L ds i) [])).length≤c1 ∧
       Rd W5 A1 (nums .u8 (zcz sv hop.toNat hops.toNat (L.getD (zax sv hop hops L ds i) [])))∧Rd W5 B1 (nums .u8 (zej sv hop.toNat (L.getD (zax sv hop hops L ds i) []))):=fun i hi=>by
      obtain ⟨A1,c1,B1,d1,k1,k2,k3,k4⟩:=HPL.out _ (zfm (ds:=ds) (i:=i) (by omega))
      exact ⟨A1,c1,B1,d1,k1,k2,(((zn7 hx1 k3).below (B:=0) hch).far HFAR5.out hsz5).rd,(((zn7 hx1 k4).below (B:=0) hch).far HFAR5.out hsz5).rd⟩
     have hlen:(zd6 sv hop hops L ds).length=q:=by simp [zd6,hG]
     have hat:∀ i,i<q→∀ (f:Nat→List Int),((zd6 sv hop hops L ds).map f).getD i []=f (zax sv hop hops L ds i):=fun i hi f=>by
      unfold zd6
      rw [← hG]
      simp [List.getD,hi]
     refine ⟨some ⟨B2,0,none⟩,some ⟨B5,0,none⟩,some ⟨B8,0,none⟩,q,q,q,_,_,?_,?_,?_,?_,zml r2 (by omega) (by omega) HFAR5.out hsz5,⟨by simp [hlen],fun i hi=>?_⟩,?_,zml r8 (by omega) (by omega) HFAR5.out hsz5,⟨by simp [hlen],fun i hi=>?_⟩,HBL5.out⟩
     ·rw [← hG]
     ·rw [← hG];exact Nat.le_refl _
     ·rw [← hG];exact Nat.le_refl _
     ·rw [← hG];exact Nat.le_refl _
     ·have hiq:i<q:=by simpa [hlen] using hi
      obtain ⟨A1,c1,B1,d1,k1,k2,k3,k4⟩:=hpt i hiq
      rw [hat i hiq]
      exact ⟨A1,c1,by simp [List.getD,hiq,k1],k2,k3⟩
     ·have e:nums .i64 ((zd6 sv hop hops L ds).map fun (p:Nat)=>(p:Int))=(List.range q).map fun i=>Value.int .i64 (zax sv hop hops L ds i):=by
       unfold nums zd6
       rw [← hG,List.map_map,List.map_map]
       rfl
      rw [e]
      exact zml r5 (by omega) (by omega) HFAR5.out hsz5
     ·have hiq:i<q:=by simpa [hlen] using hi
      obtain ⟨A1,c1,B1,d1,k1,k2,k3,k4⟩:=hpt i hiq
      rw [hat i hiq]
      exact ⟨B1,d1,by simp [List.getD,hiq,k1],k4⟩
end
section
open Go.RowKit
end
section
open Go.RowKit
theorem zom:(Lead.prog.info? 4).map (fun i=>(i.zero,i.size,i.bytes))=some (some (.bool false),1,1):=by kernel_rfl
def Pre2 (xs:List Int)(m k:Nat): Prop:=(∀ i,i<k→0≤xs.getD i 0∧xs.getD i 0<m)∧∀ i j,i<k→j<k→xs.getD i 0=xs.getD j 0→i=j
def metM (xs:List Int)(m k:Nat): List Value:=(List.range m).map fun (v:Nat)=>.bool (cnt xs v k != 0)
theorem zwk (xs:List Int)(m:Nat): metM xs m 0=List.replicate m (.bool false):=by
 apply List.ext_getElem <;> simp [metM,cnt]
theorem z2j {xs:List Int}{m k v:Nat}(h:v<m): (metM xs m k)[v]?=some (.bool (cnt xs v k != 0)):=by simp [metM,List.getElem?_range h]
theorem zzq {xs:List Int}{m k v:Nat}(h:xs.getD k 0=(v:Int)): (metM xs m k).set v (.bool true)=metM xs m (k+1):=by
 apply List.ext_getElem
 ·simp [metM]
 ·intro i h1 h2
  simp only [metM,List.getElem_set,List.getElem_map,List.getElem_range]
  by_cases e:v=i
  ·subst e
   rw [if_pos rfl,cnt,if_pos h]
   simp
  ·rw [if_neg e,cnt,h,if_neg (by omega)]
   rfl
theorem z34 {xs:List Int}{k:Nat}{v:Int}(h:(cnt xs v k != 0)=false): ∀ i,i<k→xs.getD i 0≠v:=zsc k (by simpa using h)
theorem z2i {xs:List Int}{k:Nat}{v:Int}(h:(cnt xs v k != 0)=true): ∃ i,i<k∧xs.getD i 0=v:=by
 by_cases hh:∃ i,i<k∧xs.getD i 0=v
 ·exact hh
 ·have:=zsd (l:=xs) (v:=v) k fun i hi e=>hh ⟨i,hi,e⟩
  rw [this] at h
  simp at h
theorem Pre2.step {xs:List Int}{m k:Nat}(h:Pre2 xs m k)(h0:0≤xs.getD k 0)(h1:xs.getD k 0<m)(h2:∀ i,i<k→xs.getD i 0≠xs.getD k 0): Pre2 xs m (k+1):=by
 refine ⟨fun i hi=>?_,fun i j hi hj e=>?_⟩
 ·by_cases e:i=k
  ·subst e;exact ⟨h0,h1⟩
  ·exact h.1 i (by omega)
 ·by_cases e1:i=k
  ·by_cases e2:j=k
   ·omega
   ·subst e1;exact absurd e.symm (h2 j (by omega))
  ·by_cases e2:j=k
   ·subst e2;exact absurd e (h2 i (by omega))
   ·exact h.2 i j (by omega) (by omega) e
def z2m (xs:List Int)(m:Nat)(rs:List (List Int)): Prop:=Pre2 xs m xs.length∧rs.length=xs.length∧∀ i,i<rs.length→(rs.getD i []).length=32
def IsMB (w:World)(xs:List Int)(m:Nat)(rs:List (List Int))(e:Ending)(w':World): Prop:=∃ b:Bool,e=.returned (.bool b)∧(b=true↔z2m xs m rs)∧Below w.heap.size w w'
set_option maxHeartbeats 1000000 in
theorem zqj (A D:Option Addr)(n c m r d:Nat)(xs:List Int)(vs:List Value)(rs:List (List Int))(w:World)(hn:xs.length=n)(hx:Rd w A (nums .i64 xs))(hm:m≤64)(hr:rs.length=r)(hy:Rd w D vs)(hp:zf8 w vs rs)(hnm:n≤maxLen)(hrm:r≤maxLen):
  Calls Lead.prog 18 #[.slice A n c,.int .i64 m,.slice D r d] w (IsMB w xs m rs):=by
 obtain ⟨i0,hi,hz0,hz1,hz2⟩:=info_parts zom
 unfold maxLen at hnm hrm
 have HN:=Lib.hid hn
 have HX:=Lib.hid hx
 have HY:=Lib.hid hy
 have HP:=Lib.hid hp
 have HR:=Lib.hid hr
 clear hn hx hy hp hr
 go_enter Lead.func18,Tryd.ntmps18
 go_wp2_with (at_make;refine wpList_make_full _ rfl _ _ 45 rfl w.heap.size 4 i0 (.bool false) 1 (Lead.of Tryd.underlying45) hi hz0 hz1 .i64 .i64 _ _ m rfl rfl (by omega) (by omega) (by rw [hz2];omega) (by unfold maxLen;omega) (Nat.le_refl _) ?_;intro w1 hown1 hgrow1)
 obtain ⟨hrow1,hb1,hl1⟩:=zce rfl hown1 hgrow1
 have HROW1:=Lib.hid hrow1
 clear hown1 hgrow1 hrow1 hi hz0 hz1 hz2
 go_loopw [16] (fun i wr=>∃ k:Nat,k≤n∧i=.int .i64 k∧Pre2 xs m k∧VRow wr w.heap.size (metM xs m k)∧w.heap.size<wr.heap.size∧Below w.heap.size w wr) (fun i _=>n - (intOf i).toNat)
 case atStart=>exact ⟨0,Nat.zero_le _,rfl,⟨fun i hi=>by omega,fun i j hi=>by omega⟩,by rw [zwk];exact HROW1.out,hl1,hb1⟩
 case round =>
  obtain ⟨k,hk,rfl,hpre,hrow,hl,hb⟩:=hrel
  have HPR:=Lib.hid hpre
  have HROW:=Lib.hid hrow
  clear hpre hrow
  by_cases hlt:k<n
  ·have r1:(k:Int)<n:=by omega
   obtain ⟨b,o,rfl,hlb,hc⟩:=(HX.out.below hb).at_ (by simp [HN.out];omega)
   have ck:=hc k _ (za9 (by rw [HN.out];exact hlt))
   obtain ⟨x,hx⟩:∃ x,x=xs.getD k 0:=⟨_,rfl⟩
   rw [← hx] at ck
   have HE:=Lib.hid hx
   clear hc hx
   by_cases hneg:x<0
   ·go_wp2_with fail
    go_ret
    exact ⟨false,rfl,⟨fun h=>(by cases h),fun hs=>by have:=hs.1.1 k (by rw [HN.out];exact hlt);rw [← HE.out] at this;omega⟩,hb⟩
   obtain ⟨v,rfl⟩:=Int.eq_ofNat_of_zero_le (show 0≤x by omega)
   by_cases hvn:v<m
   ·have r2:(v:Int)<m:=by omega
    have r3:¬ (m:Int)≤v:=by omega
    obtain ⟨cv,fv⟩:=HROW.out v _ (z2j hvn)
    have hst:=HROW.out.set (k:=v) (.bool true)
    rw [zzq HE.out.symm] at hst
    have HST:=Lib.hid hst
    clear hst
    obtain ⟨q,hq⟩:∃ q,q=(cnt xs (v:Int) k != 0):=⟨_,rfl⟩
    rw [← hq] at cv
    have HQ:=Lib.hid hq
    clear hq
    cases q with
    | true =>
      go_wp2_with fail
      go_ret
      refine ⟨false,rfl,⟨fun h=>(by cases h),fun hs=>?_⟩,hb⟩
      obtain ⟨i,hik,hie⟩:=z2i HQ.out.symm
      have:=hs.1.2 i k (by rw [HN.out];omega) (by rw [HN.out];exact hlt) (by rw [hie];exact HE.out)
      omega
    | false =>
      go_wp2_with fail
      refine ⟨⟨k+1,by omega,by congr 1,HPR.out.step (by rw [← HE.out];omega) (by rw [← HE.out];exact r2) (fun i hik=>by rw [← HE.out];exact z34 HQ.out.symm i hik),HST.out,by rw [zah];exact hl,hb.setCell (p:=⟨w.heap.size,v,none⟩) (Nat.le_refl _) _⟩,by show n - ((k:Int)+1).toNat<n - (k:Int).toNat;omega⟩
   ·have r3:(m:Int)≤v:=by omega
    go_wp2_with fail
    go_ret
    exact ⟨false,rfl,⟨fun h=>(by cases h),fun hs=>by have:=hs.1.1 k (by rw [HN.out];exact hlt);rw [← HE.out] at this;omega⟩,hb⟩
  ·have hkn:n=k:=by omega
   subst hkn
   by_cases hrn:r=n
   ·subst hrn
    go_wp2_with fail
    rename World=>w2
    go_loop [44] (fun i=>∃ k:Nat,k≤r∧i=.int .i64 k∧Hid (∀ j,j<k→(rs.getD j []).length=32)) (fun i=>r - (intOf i).toNat)
    case atStart=>exact ⟨0,Nat.zero_le _,rfl,Lib.hid (fun j hj=>by omega)⟩
    case round =>
     obtain ⟨k,hk,rfl,hall⟩:=hrel
     by_cases hlt:k<r
     ·have r1:(k:Int)<r:=by omega
      obtain ⟨b,o,rfl,hlb,hc⟩:=(HY.out.below hb).at_ (by rw [HP.out.1,HR.out];omega)
      have ck:=hc k _ (znr (by rw [HP.out.1,HR.out];exact hlt))
      obtain ⟨A1,c1,hv,h1,hrr⟩:=(HP.out.below hb).2 k (by rw [HR.out];exact hlt)
      rw [hv] at ck
      obtain ⟨q,hq⟩:∃ q,q=(rs.getD k []).length:=⟨_,rfl⟩
      rw [← hq] at ck
      have HQ:=Lib.hid hq
      clear hc hv hq hrr h1
      by_cases h32:q=32
      ·subst h32
       go_wp2_with fail
       refine ⟨⟨k+1,by omega,by congr 1,Lib.hid (fun j hj=>?_)⟩,by show r - ((k:Int)+1).toNat<r - (k:Int).toNat;omega⟩
       by_cases e:j=k
       ·subst e;exact HQ.out.symm
       ·exact hall.out j (by omega)
      ·have r2:¬ (q:Int)=32:=by omega
       go_wp2_with fail
       go_ret
       exact ⟨false,rfl,⟨fun h=>(by cases h),fun hs=>by have:=hs.2.2 k (by rw [HR.out];exact hlt);rw [← HQ.out] at this;omega⟩,hb⟩
     ·have hkn:r=k:=by omega
      subst hkn
      go_wp2_with fail
      go_ret
      refine ⟨true,rfl,⟨fun _=>⟨by rw [HN.out];exact HPR.out,by rw [HR.out,HN.out],fun j hj=>hall.out j (by rw [← HR.out];exact hj)⟩,fun _=>rfl⟩,hb⟩
   ·have r2:¬ (r:Int)=n:=by omega
    go_wp2_with fail
    go_ret
    exact ⟨false,rfl,⟨fun h=>(by cases h),fun hs=>absurd (by have:=hs.2.1;rw [HN.out,HR.out] at this;exact this) hrn⟩,hb⟩
end
section
open Go.RowKit
theorem zu4 {P:Program}{ops:Array Oper}{o:Oper}{a:Act}{w:World}{K:Act→World→Prop}{Q:Exit→Act→World→Prop}{E:Prop}(hgd:o.guard=none)(d s:Operand)(t elem:TypeId)(ho:o.op=.call { callee:=.builtin .copy,args:=#[d,s],argTypes:=#[t,t] })(hu:P.underlying t=some (.slice elem))(hi:(P.info? elem).map (·.size)=some 1)(g n dc sc:Nat)(A:Option Addr)(vs us:List Value)(hd:a.eval d=.slice (some ⟨g,0,none⟩) n dc)(hs:a.eval s=.slice A n sc)(hn:vs.length=n)(hn0:0<n)(hr:Rd w A vs)(hv:VRow w g us)(hul:us.length=n)(h1:∀ v∈vs,v.oneCell'=true)(h:K (a.put o.dst (goInt n)) (w.setCells g 0 vs)): if Region.wanted o (yielded ops a.tmps)=true then Oper.wp P o a w K Q else E:=by
 rw [if_pos (by simp [Region.wanted,hgd])]
 obtain ⟨b,off,rfl,hlt,hc⟩:=hr.at_ (by omega)
 have hat:∀ j,j<n→∃ u,us[j]?=some u:=fun j hj=>⟨_,List.getElem?_eq_getElem (by omega)⟩
 have hrun:=fun ty=>run_copy_cells (P:=P) w t t ty elem g 0 n dc ⟨b,off,none⟩ n sc vs hu hi (by rw [hn];exact (Nat.min_self n).symm)
  (fun j v hv=>by rw [zb6];exact hc j v hv) (fun j hj=>by obtain ⟨u,hu⟩:=hat j (by omega);rw [Nat.zero_add,(hv j u hu).1];rfl) (fun j hj=>by obtain ⟨u,hu⟩:=hat j (by omega);rw [Nat.zero_add];exact (hv j u hu).2) h1
 unfold Oper.wp execOp
 simp only [ho,resolve,invoke,builtin,Sem.run_bind,Sem.run_pure,Result.andThen_ok,List.map_toArray,List.map_cons,List.map_nil,hd,hs,hrun]
 rw [hn]
 exact h
theorem zpd {w:World}{g:Nat}{vs us:List Value}(hv:VRow w g us)(hl:us.length=vs.length): VRow (w.setCells g 0 vs) g vs:=by
 intro j v hj
 have hj':j<vs.length:=(List.getElem?_eq_some_iff.1 hj).1
 have hin:=World.cell?_setCells_in g vs 0 w (fun j hj=>by
  rw [Nat.zero_add,(hv j _ (List.getElem?_eq_getElem (by omega))).1];rfl)
 have h1:=hin j hj'
 rw [Nat.zero_add] at h1
 rw [World.frozen?_setCells]
 exact ⟨by rw [h1,← hj];simp [hj'],(hv j _ (List.getElem?_eq_getElem (by omega))).2⟩
theorem zns {w:World}{B g o:Nat}{vs us:List Value}(hv:VRow w B vs)(hne:B≠g): VRow (w.setCells g o us) B vs:=fun j v hj=>by
 have hb:=zc4 g us o w B hne
 exact ⟨(World.cell?_of_block (a:=⟨B,j,none⟩) hb).trans (hv j v hj).1,(World.frozen?_of_block (a:=⟨B,j,none⟩) hb).trans (hv j v hj).2⟩
theorem zz1:(Lead.prog.info? 5).map (·.size)=some 1:=by kernel_rfl
theorem zkt:(Lead.prog.info? 5).map (fun i=>(i.zero,i.size,i.bytes))=some (some (.int .u8 0),1,1):=by kernel_rfl
def zdp (xs:List Int)(rs:List (List Int))(v:Nat): Nat→List Int
 | 0=>List.replicate 32 0
 | k+1=>if xs.getD k 0=(v:Int) then rs.getD k [] else zdp xs rs v k
theorem zix {xs:List Int}{rs:List (List Int)}{v:Nat}: ∀ k,(∀ i,i<k→(rs.getD i []).length=32)→(zdp xs rs v k).length=32
 | 0,_=>by simp [zdp]
 | k+1,h=>by
   rw [zdp]
   split
   ·exact h k (by omega)
   ·exact zix k fun i hi=>h i (by omega)
noncomputable def bkL (xs:List Int)(rs:List (List Int))(m:Nat): List (List Int):=(List.range m).map fun v=>zdp xs rs v xs.length
def IsBk (w:World)(xs:List Int)(m:Nat)(rs:List (List Int))(e:Ending)(w':World): Prop:=∃ A vs,e=.returned (.tuple #[.slice A m m,.int .i64 0])∧Rd w' A vs∧zdh w' vs (bkL xs rs m)∧Below w.heap.size w w'
theorem zqs {z:Value}{f g:Nat→Value}{n k:Nat}(h:∀ i,i<k→f i=g i): ze9 z f n k=ze9 z g n k :=
 List.map_congr_left fun i _=>by
  by_cases e:i<k
  ·rw [if_pos e,if_pos e,h i e]
  ·rw [if_neg e,if_neg e]
structure BRow (w:World)(g m k:Nat)(q:Nat→Nat)(R:Nat→List Int): Prop where
 lt:g<w.heap.size
 row:VRow w g (ze9 (.slice none 0 0) (fun i=>.slice (some ⟨q i,0,none⟩) 32 32) m k)
 at_:∀ i,i<k→g<q i∧q i<w.heap.size∧VRow w (q i) (nums .u8 (R i))∧∀ j,j<i→q i≠q j
theorem BRow.step {w w3:World}{g m k:Nat}{q:Nat→Nat}{R:Nat→List Int}(h:BRow w g m k q R)(hk:k<m)(hr:VRow w3 w.heap.size (nums .u8 (R k)))(hb:Below w.heap.size w w3)(hl:w.heap.size<w3.heap.size):
  BRow (w3.setCell ⟨g,k,none⟩ (.slice (some ⟨w.heap.size,0,none⟩) 32 32)) g m (k+1) (fun i=>if i=k then w.heap.size else q i) R:=by
 refine ⟨by rw [zah];exact Nat.lt_trans h.lt hl,?_,fun i hi=>?_⟩
 ·have:=(h.row.below hb h.lt).set (k:=k) (.slice (some ⟨w.heap.size,0,none⟩) 32 32)
  rw [zqs (g:=fun i=>.slice (some ⟨if i=k then w.heap.size else q i,0,none⟩) 32 32) (fun i hi=>by rw [if_neg (by omega)])] at this
  have e:=ze8 (.slice none 0 0) (fun i=>Value.slice (some ⟨if i=k then w.heap.size else q i,0,none⟩) 32 32) hk
  rw [show (if k=k then w.heap.size else q k)=w.heap.size from if_pos rfl] at e
  rwa [e] at this
 ·by_cases e:i=k
  ·subst e
   refine ⟨by rw [if_pos rfl];exact h.lt,by rw [if_pos rfl,zah];exact hl,by rw [if_pos rfl];exact hr.far (Nat.ne_of_lt h.lt) _,fun j hj=>?_⟩
   rw [if_pos rfl,if_neg (by omega)]
   have:=(h.at_ j hj).2.1
   omega
  ·obtain ⟨h1,h2,h3,h4⟩:=h.at_ i (by omega)
   rw [if_neg e]
   refine ⟨h1,by rw [zah];omega,(h3.below hb h2).far (by omega) _,fun j hj=>?_⟩
   rw [if_neg (by omega)]
   exact h4 j hj
theorem BRow.put {w:World}{g m v:Nat}{q:Nat→Nat}{R R2:Nat→List Int}(h:BRow w g m m q R)(hv:v<m){xs:List Int}(hx:xs.length=(R v).length)(h2:∀ i,i<m→R2 i=if i=v then xs else R i):
  BRow (w.setCells (q v) 0 (nums .u8 xs)) g m m q R2:=by
 obtain ⟨a1,a2,a3,a4⟩:=h.at_ v hv
 refine ⟨by rw [zaq];exact h.lt,zns h.row (by omega),fun i hi=>?_⟩
 obtain ⟨b1,b2,b3,b4⟩:=h.at_ i hi
 rw [h2 i hi]
 refine ⟨b1,by rw [zaq];exact b2,?_,b4⟩
 by_cases e:i=v
 ·subst e
  rw [if_pos rfl]
  exact zpd a3 (by simp [nums,hx])
 ·rw [if_neg e]
  refine zns b3 fun hq=>?_
  rcases Nat.lt_or_gt_of_ne e with hl|hl
  ·exact a4 i hl hq.symm
  ·exact b4 v hl hq
theorem BRow.drew {w:World}{g m k:Nat}{q:Nat→Nat}{R:Nat→List Int}(h:BRow w g m k q R): BRow w.drew g m k q R:=⟨h.lt,h.row,h.at_⟩
theorem BRow.parts {w:World}{g m:Nat}{q:Nat→Nat}{R:Nat→List Int}(h:BRow w g m m q R)(h32:∀ i,i<m→(R i).length=32): ∃ vs,Rd w (some ⟨g,0,none⟩) vs∧zdh w vs ((List.range m).map R):=by
 refine ⟨_,h.row.rd h.lt,by simp [ze9],fun i hi=>?_⟩
 have hi:i<m:=by simpa using hi
 obtain ⟨b1,b2,b3,b4⟩:=h.at_ i hi
 refine ⟨some ⟨q i,0,none⟩,32,?_,?_,by unfold maxLen;omega,?_⟩
 ·simp [zh0,List.getD,hi,h32 i hi]
 ·simp [List.getD,hi,h32 i hi]
 ·have:((List.range m).map R).getD i []=R i:=by simp [List.getD,hi]
  rw [this]
  exact b3.rd b2
theorem BRow.zero {w:World}{g m:Nat}{R:Nat→List Int}(h:VRow w g (List.replicate m (.slice none 0 0)))(hl:g<w.heap.size): BRow w g m 0 (fun _=>0) R :=
 ⟨hl,by rw [zd8];exact h,fun i hi=>absurd hi (Nat.not_lt_zero i)⟩
set_option maxHeartbeats 2000000 in
theorem z0w (X Z:Value)(A D:Option Addr)(n c m r d:Nat)(xs:List Int)(vs:List Value)(rs:List (List Int))(w:World)(hX:X.oneCell'=true)(hZ:Z.oneCell'=true)(hn:xs.length=n)(hx:Rd w A (nums .i64 xs))(hm:m≤64)(hr:rs.length=r)(hy:Rd w D vs)(hp:zf8 w vs rs)(hnm:n≤maxLen)(hrm:r≤maxLen)(hyes:z2m xs m rs):
  Calls Lead.prog 10 #[.agg #[X,.slice A n c,Z],.int .i64 m,.slice D r d] w (IsBk w xs m rs):=by
 obtain ⟨i1,hi1,hz1,hz2,hz3⟩:=info_parts zfr
 obtain ⟨i2,hi2,hy1,hy2,hy3⟩:=info_parts zkt
 unfold maxLen at hnm hrm
 have hb0:Below w.heap.size w (w.alloc (.cells #[X,.slice A n c,Z] 25)):=bal brf _
 have C:=zqj A D n c m r d xs vs rs (w.alloc (.cells #[X,.slice A n c,Z] 25)) hn (hx.below hb0) hm hr (hy.below hb0) (hp.below hb0) hnm hrm
 have HX:=Lib.hid hx
 have HY:=Lib.hid hy
 have HP:=Lib.hid hp
 have HN:=Lib.hid hn
 have HR:=Lib.hid hr
 have HYES:=Lib.hid hyes
 clear hx hy hp hn hr hyes
 go_enter Lead.func10,Tryd.ntmps10
 have r64:¬ (64:Int)<m:=by omega
 have r00:¬ (m:Int)<0:=by omega
 go_upto_region 3 with ((with_reducible refine C.mono ?_);rintro e w1 ⟨b,rfl,hb,hb1⟩;obtain rfl:b=true:=hb.2 HYES.out)
 have hsz:=hb1.size
 rw [World.size_alloc] at hsz
 have hbx:w1.cell? ⟨w.heap.size,1,none⟩=some (.slice A n c):=(hb1.cell (p:=⟨w.heap.size,1,none⟩) (by rw [World.size_alloc];exact Nat.lt_succ_self _)).trans (zwh w X (.slice A n c) Z 25)
 have hbw:Below w.heap.size w w1:=bgo hb0 hb1
 have HBW:=Lib.hid hbw
 clear hbw hb0 hb1 hb C
 go_upto_region 3 with fail
 iterate 4 go_step
 refine wpList_make_full _ rfl _ _ 22 rfl w1.heap.size 33 i1 (.slice none 0 0) 1 (Lead.of Tryd.underlying22) hi1 hz1 hz2 .i64 .i64 _ _ m rfl rfl (by omega) (by omega) (by rw [hz3];omega) (by unfold maxLen;omega) (Nat.le_refl _) ?_
 intro w2 hown2 hgrow2
 obtain ⟨hrow2,hb2,hl2⟩:=zce rfl hown2 hgrow2
 have HZ:=Lib.hid (BRow.zero (R:=fun v=>zdp xs rs v 0) hrow2 hl2)
 clear hown2 hgrow2 hrow2 hi1 hz1 hz2 hz3
 go_wp2_with fail
 go_loopw [30] (fun i wr=>∃ k:Nat,k≤m∧i=.int .i64 k∧Hid (∃ q,BRow wr w1.heap.size m k q (fun v=>zdp xs rs v 0))∧Below w1.heap.size w1 wr) (fun i _=>m - (intOf i).toNat)
 case atStart=>exact ⟨0,Nat.zero_le _,rfl,Lib.hid ⟨_,HZ.out⟩,hb2⟩
 case round =>
  obtain ⟨k,hk,rfl,HQ,hb⟩:=hrel
  obtain ⟨q,hq⟩:=HQ.out
  have HBR:=Lib.hid hq
  have hlg:=hq.lt
  clear hq HQ
  by_cases hlt:k<m
  ·have r1:(k:Int)<m:=by omega
   go_wp2_with (at_make;refine wpList_make_full _ rfl _ _ 33 rfl wr.heap.size 5 i2 (.int .u8 0) 1 (Lead.of Tryd.underlying33) hi2 hy1 hy2 .i64 .i64 _ _ 32 rfl rfl (by omega) (by omega) (by rw [hy3];omega) (by unfold maxLen;omega) (Nat.le_refl _) ?_;intro w3 hown3 hgrow3;obtain ⟨hrow3,hb3,hl3⟩:=zce rfl hown3 hgrow3;obtain ⟨cg,fg⟩:=(HBR.out.row.below hb3 hlg) k _ (zhz _ _ hlt))
   refine ⟨⟨k+1,by omega,by congr 1,Lib.hid ⟨_,HBR.out.step hlt ?_ hb3 hl3⟩,(bgo hb hb3).setCell (p:=⟨w1.heap.size,k,none⟩) (Nat.le_refl _) _⟩,by show m - ((k:Int)+1).toNat<m - (k:Int).toNat;omega⟩
   have e:List.replicate 32 (Value.int .u8 0)=nums .u8 (zdp xs rs k 0):=by simp [nums,zdp]
   rw [← e]
   exact hrow3
  ·have hkm:m=k:=by omega
   subst hkm
   have hbx2:=(hb.cell (p:=⟨w.heap.size,1,none⟩) (show w.heap.size<w1.heap.size by omega)).trans hbx
   clear hbx
   go_wp2_with fail
   rename World=>w4
   go_loopw [41] (fun i wr=>∃ k:Nat,k≤n∧i=.int .i64 k∧Hid (BRow wr w1.heap.size m m q (fun v=>zdp xs rs v k))∧Below w1.heap.size w1 wr) (fun i _=>n - (intOf i).toNat)
   case atStart=>exact ⟨0,Nat.zero_le _,rfl,HBR,hb⟩
   case round =>
    obtain ⟨k,hk,rfl,HB2,hb2⟩:=hrel
    by_cases hlt:k<n
    ·have r1:(k:Int)<n:=by omega
     have r2:(k:Int)<r:=by have:=HYES.out.2.1;rw [HR.out,HN.out] at this;omega
     have hxk:=HYES.out.1.1 k (by rw [HN.out];exact hlt)
     obtain ⟨x,hx⟩:∃ x,x=xs.getD k 0:=⟨_,rfl⟩
     rw [← hx] at hxk
     obtain ⟨v,rfl⟩:=Int.eq_ofNat_of_zero_le hxk.1
     have hvm:v<m:=by have:=hxk.2;omega
     have r3:(v:Int)<m:=by omega
     have hbb:=bgo HBW.out hb2
     obtain ⟨b,o,rfl,hlb,hc⟩:=(HX.out.below hbb).at_ (by simp [HN.out];omega)
     have ck:=hc k _ (za9 (by rw [HN.out];exact hlt))
     rw [← hx] at ck
     obtain ⟨b2,o2,rfl,hlb2,hc2⟩:=HY.out.at_ (by rw [HP.out.1,HR.out];omega)
     have ck2:=(hbb.cell (p:=⟨b2,o2+k,none⟩) hlb2).trans (hc2 k _ (znr (by rw [HP.out.1,HR.out];omega)))
     obtain ⟨A1,c1,hv,h1,hrr⟩:=(HP.out.below hbb).2 k (by rw [HR.out];omega)
     have h32:=HYES.out.2.2 k (by rw [HR.out];omega)
     rw [hv,h32] at ck2
     have cv:=(HB2.out.row v _ (by rw [zh0];simp [hvm];rfl)).1
     obtain ⟨a1,a2,a3,a4⟩:=HB2.out.at_ v hvm
     have HA3:=Lib.hid a3
     have HRR:=Lib.hid hrr
     have HV:=Lib.hid hx
     have H32:=Lib.hid h32
     clear hc hc2 hv h1 hrr a3 a4 hxk hx h32
     go_upto_region 12 with fail
     have S0:wr.drew.cell? ⟨w1.heap.size,v,none⟩=some (.slice (some ⟨q v,0,none⟩) 32 32)∧wr.drew.cell? ⟨b2,o2+k,none⟩=some (.slice A1 32 c1):=⟨cv,ck2⟩
     have S1:(wr.drew.setCells (q v) 0 (nums .u8 (rs.getD k []))).cell? ⟨w1.heap.size,v,none⟩=some (.slice (some ⟨q v,0,none⟩) 32 32)∧(wr.drew.setCells (q v) 0 (nums .u8 (rs.getD k []))).cell? ⟨b2,o2+k,none⟩=some (.slice A1 32 c1) :=
      ⟨(World.cell?_of_block (a:=⟨w1.heap.size,v,none⟩) (zc4 (q v) _ _ _ w1.heap.size (show w1.heap.size≠q v by omega))).trans cv,(World.cell?_of_block (a:=⟨b2,o2+k,none⟩) (zc4 (q v) _ _ _ b2 (show b2≠q v by omega))).trans ck2⟩
     have hlen:(zdp xs rs v k).length=32:=zix k fun i hi=>HYES.out.2.2 i (by rw [HYES.out.2.1,HN.out];omega)
     have HLEN:=Lib.hid hlen
     have hV:VRow wr.drew (q v) (nums .u8 (zdp xs rs v k)):=HA3.out
     have hR:Rd wr.drew A1 (nums .u8 (rs.getD k [])):=HRR.out
     have HVV:=Lib.hid hV
     have HRV:=Lib.hid hR
     clear hlen hV hR
     go_region_held3 (fun x=>x.cell? ⟨w1.heap.size,v,none⟩=some (.slice (some ⟨q v,0,none⟩) 32 32)∧x.cell? ⟨b2,o2+k,none⟩=some (.slice A1 32 c1)) (first|exact S0|exact S1) ((refine zu4 rfl _ _ 33 5 (by rfl) (Lead.of Tryd.underlying33) zz1 (q v) 32 32 c1 A1 (nums .u8 (rs.getD k [])) _ rfl rfl (by simp [nums];exact H32.out) (by omega) HRV.out HVV.out (by simp [nums];exact HLEN.out) (by intro u hu;obtain ⟨x,_,rfl⟩:=List.mem_map.1 hu;rfl) ?_))
     clear cv ck ck2 S0 S1
     go_wp2_with fail
     refine ⟨⟨k+1,by omega,by congr 1,Lib.hid (HB2.out.drew.put hvm (by rw [HLEN.out];exact H32.out) fun i hi=>?_),zas (Nat.le_of_lt a1) _ _ (bdrL hb2)⟩,by show n - ((k:Int)+1).toNat<n - (k:Int).toNat;omega⟩
     show zdp xs rs i (k+1)=_
     rw [zdp,← HV.out]
     by_cases e:i=v
     ·subst e;rw [if_pos rfl,if_pos rfl];rfl
     ·rw [if_neg e,if_neg (by omega)]
    ·have hkn:n=k:=by omega
     subst hkn
     go_wp2_with fail
     obtain ⟨us,hu1,hu2⟩:=HB2.out.parts fun i hi=>zix n fun j hj=>HYES.out.2.2 j (by rw [HYES.out.2.1,HN.out];exact hj)
     refine bodyPost_ret (v:=.tuple #[.slice (some ⟨w1.heap.size,0,none⟩) m m,.int .i64 0]) (by simp [results,Tryd.results10,go_sem]) rfl ⟨_,us,rfl,hu1,?_,bgo HBW.out hb2⟩
     unfold bkL
     rw [HN.out]
     exact hu2
end
end Go.Proofs.YtelgmbomkojmaaaDoor
