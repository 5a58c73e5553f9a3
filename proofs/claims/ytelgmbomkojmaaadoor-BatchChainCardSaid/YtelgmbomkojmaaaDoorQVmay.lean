/- A pack: Vm. -/
import Derived.Test.YtelgmbomkojmaaaDoorQVlax
import Derived.Laws.Cells
import Derived.Laws.Tables
import Derived.Conc.Events
namespace Go.Proofs.YtelgmbomkojmaaaDoor
set_option linter.all false
set_option maxRecDepth 100000
section
open Go.Conc Go.ConcN Go.ConcN.Gen Go.RowKit Go.Conc.Lib Go.ConcR.Gen
open Go.ConcR (KK wgBlock WgAt stA smA rd wr Payload DC0)
def putC:Array Value→Nat→List Value→Array Value
 | cur,_,[]=>cur
 | cur,o,v :: r=>putC (cur.setIfInBounds o v) (o+1) r
theorem ze5:∀ (vs:List Value) (cur:Array Value) (o:Nat),(putC cur o vs).size=cur.size
 | [],_,_=>rfl
 | v :: r,cur,o=>by rw [putC,ze5 r];simp
theorem zmw:∀ (vs:List Value) (cur:Array Value) (o i:Nat),o+vs.length≤cur.size→(putC cur o vs)[i]?=if o≤i∧i<o+vs.length then vs[i - o]? else cur[i]?
 | [],cur,o,i,h=>by rw [putC,if_neg (by simp only [List.length_nil];omega)]
 | v :: r,cur,o,i,h=>by
   simp only [List.length_cons] at h
   rw [putC,zmw r _ _ _ (by simp;omega)]
   simp only [List.length_cons]
   by_cases h1:o+1≤i∧i<o+1+r.length
   ·rw [if_pos h1,if_pos (by omega),show i - o=(i - (o+1))+1 by omega,List.getElem?_cons_succ]
   ·rw [if_neg h1]
    by_cases h2:i=o
    ·subst h2
     rw [if_pos (by omega),Nat.sub_self,Array.getElem?_setIfInBounds_self_of_lt (by omega)]
     rfl
    ·rw [if_neg (by omega),Array.getElem?_setIfInBounds_ne (by omega)]
section
variable {P:Program}
theorem zp4 (w:World)(g:Nat)(cur:Array Value)(t:TypeId)(hg:w.heap[g]?=some (.cells cur t (0,0))): w.setRow g cur=w:=by
 have hlt:g<w.heap.size:=(Array.getElem?_eq_some_iff.1 hg).1
 have hv:w.heap[g]=.cells cur t (0,0):=(Array.getElem?_eq_some_iff.1 hg).2
 unfold World.setRow
 cases w with
 | mk heap tape drawn os output =>
   congr 1
   apply Array.ext
   ·simp
   ·intro k h1 h2
    simp only [Array.getElem_modify]
    split
    ·rename_i hk;subst hk;simp at hv;simp [hv]
    ·rfl
theorem zf0 (g o:Nat)(t:TypeId): ∀ (vs:List Value) (i:Nat) (cur:Array Value) (w:World),w.heap[g]?=some (.cells cur t (0,0))→o+i+vs.length≤cur.size→(∀ v∈vs,v.oneCell'=true) →
  (storeCells ⟨g,o,none⟩ vs i).run P w=.ok () (w.setRow g (putC cur (o+i) vs))∧∀ es,∀ ev∈(storeCells ⟨g,o,none⟩ vs i).events P w es,ev∈es∨∃ j,ev=⟨.cell ⟨g,j,none⟩,true,false⟩
 | [],i,cur,w,hg,hl,_=>⟨by rw [putC,zp4 w g cur t hg];rfl,fun es ev h=>.inl (by simpa [storeCells] using h)⟩
 | v :: rest,i,cur,w,hg,hl,h1=>by
   simp only [List.length_cons] at hl
   have hi:o+i<cur.size:=by omega
   have hadd:(⟨g,o,none⟩:Addr).add i=⟨g,o+i,none⟩:=by unfold Addr.add;split <;> simp_all
   have hcell:w.cell? ⟨g,o+i,none⟩=some cur[o+i]:=by simp [World.cell?,hg,hi]
   have hfro:w.frozen? ⟨g,o+i,none⟩=false:=by simp [World.frozen?,hg]
   have hst:(store ((⟨g,o,none⟩:Addr).add i) v).run P w=.ok () (w.setRow g (cur.setIfInBounds (o+i) v)):=by
    rw [hadd,run_store P w _ v _ (h1 v (by simp)),hcell]
    simp [hfro,setCell_eq_setRow w g (o+i) cur t (0,0) v hg]
   have hev:∀ es,(store ((⟨g,o,none⟩:Addr).add i) v).events P w es=es.push ⟨.cell ⟨g,o+i,none⟩,true,false⟩:=fun es=>by
    rw [hadd,events_store P w es _ v _ (h1 v (by simp)),hcell]
    simp only [hfro,Bool.false_eq_true,if_false]
    rfl
   obtain ⟨k1,k2⟩:=zf0 g o t rest (i+1) (cur.setIfInBounds (o+i) v) (w.setRow g (cur.setIfInBounds (o+i) v)) (setRow_heap w g cur _ t _ hg) (by simp;omega) (fun x hx=>h1 x (by simp [hx]))
   refine ⟨by simp only [storeCells,Sem.run_bind,hst,Result.andThen_ok,k1,setRow_setRow];rfl,fun es ev h=>?_⟩
   simp only [storeCells,Sem.events_bind,hst,Result.evThen_ok,hev] at h
   rcases k2 _ ev h with h|h
   ·rcases Array.mem_push.1 h with h|rfl
    ·exact .inl h
    ·exact .inr ⟨_,rfl⟩
   ·exact .inr h
theorem zja (g o:Nat): ∀ (n i:Nat) (acc:Array Value) (w:World) (es:Array Event),(∀ j,j<n→(w.cell? ⟨g,o+(i+j),none⟩).isSome) →
  ∀ ev∈(loadCellsFrom ⟨g,o,none⟩ i n acc).events P w es,ev∈es∨∃ j,ev=⟨.cell ⟨g,j,none⟩,false,false⟩
 | 0,_,_,_,_,_=>fun ev h=>.inl (by simpa [loadCellsFrom] using h)
 | n+1,i,acc,w,es,hc=>fun ev h=>by
   have hadd:(⟨g,o,none⟩:Addr).add i=⟨g,o+i,none⟩:=by unfold Addr.add;split <;> simp_all
   simp only [loadCellsFrom,Sem.events_bind,hadd] at h
   obtain ⟨u,hu⟩:=Option.isSome_iff_exists.1 (hc 0 (by omega))
   simp only [Nat.add_zero] at hu
   have hr:(load ⟨g,o+i,none⟩).run P w=.ok u w:=by simp [hu]
   rw [hr] at h
   rcases zja g o n (i+1) (acc.push u) w _ (fun j hj=>by have:=hc (j+1) (by omega);rwa [show i+(j+1)=i+1+j by omega] at this) ev h with h|h
   ·rw [events_load,hu] at h
    rcases Array.mem_push.1 h with h|rfl
    ·exact .inl h
    ·exact .inr ⟨_,rfl⟩
   ·exact .inr h
theorem zgj {oi:Oper}{a:Act}{t ty:TypeId}{x y:Operand}(ho:oi.op=.store t x y){g o:Nat}{cs:Array Value}(hx:a.eval x=.pointer (some ⟨g,o,none⟩))(hy:a.eval y=.agg cs)(hi:(P.info? t).map (·.size)=some cs.size)(h1:cs.all (·.oneCell')=true){cur:Array Value}{w:World}(hg:w.heap[g]?=some (.cells cur ty (0,0)))(hl:o+cs.size≤cur.size):
  (execOp a.eval oi).run P w=.ok .skip (w.setRow g (putC cur o cs.toList))∧∀ ev∈(execOp a.eval oi).events P w #[],∃ j,ev=⟨.cell ⟨g,j,none⟩,true,false⟩:=by
 obtain ⟨k1,k2⟩:=zf0 (P:=P) g o ty cs.toList 0 cur w hg (by simpa using hl) (fun v hv=>(Array.all_eq_true_iff_forall_mem.1 h1) v (by simpa using hv))
 cases hq:P.info? t with
 | none=>simp [hq] at hi
 | some i =>
   have hs:cs.size=i.size:=by simp [hq] at hi;omega
   unfold execOp
   simp only [Nat.add_zero] at k1
   constructor
   ·simp [ho,hx,hy,Instr.storeAt,Instr.sureAddr,storeVar,sizeOf,typeInfo,hq,Value.cells,hs,k1]
   ·intro ev he
    simp [ho,hx,hy,Instr.storeAt,Instr.sureAddr,storeVar,sizeOf,typeInfo,hq,Value.cells,hs,k1] at he
    rcases k2 _ ev he with h|h
    ·simp at h
    ·exact h
theorem zt0 {oi:Oper}{a:Act}{t:TypeId}{x:Operand}(ho:oi.op=.load t x){g o:Nat}{cs:List Value}(hx:a.eval x=.pointer (some ⟨g,o,none⟩)){d:TypeDesc}(hu:P.underlying t=some d)(hd:(match d with|.struct _|.array _ _=>true|_=>false)=true)(hi:(P.info? t).map (·.size)=some cs.length){w:World}(hc:∀ j v,cs[j]?=some v→w.cell? ⟨g,o+j,none⟩=some v):
  (execOp a.eval oi).run P w=.ok (.value (.agg cs.toArray)) w∧∀ ev∈(execOp a.eval oi).events P w #[],∃ j,ev=⟨.cell ⟨g,j,none⟩,false,false⟩:=by
 have hadd:∀ i,(⟨g,o,none⟩:Addr).add i=⟨g,o+i,none⟩:=fun i=>by unfold Addr.add;split <;> simp_all
 have hl:(loadCellsFrom ⟨g,o,none⟩ 0 cs.length #[]).run P w=.ok cs.toArray w:=run_loadCells_list w ⟨g,o,none⟩ cs (fun j v hv=>by rw [hadd];exact hc j v hv)
 have he:=zja (P:=P) g o cs.length 0 #[] w #[] (fun j hj=>by rw [Nat.zero_add,hc j _ (List.getElem?_eq_getElem hj)];rfl)
 have hagg:(isAgg t).run P w=.ok true w:=by
  unfold isAgg
  rw [Sem.run_bind,run_underlying hu w]
  cases d <;> simp_all
 cases hq:P.info? t with
 | none=>simp [hq] at hi
 | some i =>
   have hs:i.size=cs.length:=by simpa [hq] using hi
   unfold execOp
   constructor
   ·simp [ho,hx,Instr.loadAt,Instr.sureAddr,loadVar,loadCells,hagg,sizeOf,typeInfo,hq,hs,hl]
   ·intro ev hev
    simp only [ho,hx,Instr.loadAt,Instr.sureAddr,loadVar,loadCells,hagg,sizeOf,typeInfo,hq,hs,hl,Sem.events_bind,Sem.run_bind,Sem.run_pure,Sem.events_pure,Result.evThen_ok,Result.andThen_ok,events_isAgg,if_true] at hev
    have hev2:ev∈(loadCellsFrom ⟨g,o,none⟩ 0 cs.length #[]).events P w #[]:=by simpa [hq,hs,hl,typeInfo] using hev
    rcases he ev hev2 with h|h
    ·simp at h
    ·exact h
variable {main:Bool} {ty:TypeId} {Wg:Nat} {ld:Bool} {Stop:(Nat→Prop)→(Nat→Prop)→Goroutine→World→Prop} {M o:Nat→Prop}
theorem zim {b:Frame}{a:Act}{ops:Array Oper}{i:Nat}{rest:List Nat}{k:List Item}{cs:List Frame}{w:World}{oi:Oper}(ho:ops[i]?=some oi)(hw:Region.wanted oi (yielded ops a.tmps)=true)(hk:b.kind≠.early){t te:TypeId}{x y:Operand}(hop:oi.op=.store t x y){g off:Nat}{vs:Array Value}(hx:a.eval x=.pointer (some ⟨g,off,none⟩))(hy:a.eval y=.agg vs)(hi:(P.info? t).map (·.size)=some vs.size)(h1:vs.all (·.oneCell')=true)(hM:M g)(hg2:o g){cur:Array Value}(hg:∀ w₁,Oth ty Wg M w w₁→w₁.heap[g]?=some (.cells cur te (0,0)))(hl:off+vs.size≤cur.size)(h:∀ w₁,Oth ty Wg M w w₁→Run P main ty Wg true Stop M o (G (b.at (a.put oi.dst undef) (.inRegion ops rest :: k)) cs) (w₁.setRow g (putC cur off vs.toList))): Run P main ty Wg true Stop M o (G (b.at a (.inRegion ops (i :: rest) :: k)) cs) w :=
 Run.step rfl fun w₁ h₁=>by
  obtain ⟨k1,k2⟩:=zgj (P:=P) hop hx hy hi h1 (hg w₁ h₁) hl
  refine ⟨_,_,_,stepG_none ho hw hk k1,⟨fun q hq hne=>setRow_other w₁ g q _ (fun e=>hne (e ▸ hg2)),by simp,rfl,rfl,rfl⟩,?_,?_⟩
  ·intro e he
   obtain ⟨j,rfl⟩:=k2 e (mem_listed he)
   exact ⟨rfl,rfl,.inl hM,fun _=>.inl hg2⟩
  ·rw [zdc M (by simp),zdc o (by simp)]
   exact h w₁ h₁
theorem zvl {b:Frame}{a:Act}{ops:Array Oper}{i:Nat}{rest:List Nat}{k:List Item}{cs:List Frame}{w:World}{oi:Oper}(ho:ops[i]?=some oi)(hw:Region.wanted oi (yielded ops a.tmps)=true)(hk:b.kind≠.early){t:TypeId}{x:Operand}(hop:oi.op=.load t x){g off:Nat}{vs:List Value}(hx:a.eval x=.pointer (some ⟨g,off,none⟩)){d:TypeDesc}(hu:P.underlying t=some d)(hd:(match d with|.struct _|.array _ _=>true|_=>false)=true)(hi:(P.info? t).map (·.size)=some vs.length)(hM:M g)(hg:∀ w₁,Oth ty Wg M w w₁→∀ j v,vs[j]?=some v→w₁.cell? ⟨g,off+j,none⟩=some v)(h:∀ w₁,Oth ty Wg M w w₁→Run P main ty Wg true Stop M o (G (b.at (a.put oi.dst (.agg vs.toArray)) (.inRegion ops rest :: k)) cs) w₁): Run P main ty Wg true Stop M o (G (b.at a (.inRegion ops (i :: rest) :: k)) cs) w :=
 Run.step0 rfl fun w₁ h₁=>by
  obtain ⟨k1,k2⟩:=zt0 (P:=P) hop hx hu hd hi (hg w₁ h₁)
  refine ⟨_,_,_,stepG_value ho hw hk k1,⟨rfl,rfl,rfl,rfl⟩,?_,h w₁ h₁⟩
  intro e he
  obtain ⟨j,rfl⟩:=k2 e (mem_listed he)
  exact ⟨rfl,rfl,hM,fun e=>by cases e⟩
end
theorem zou (P:Program)(b:Frame)(a:Act)(ops:Array Oper)(i:Nat)(rest:List Nat)(k:List Item)(cs:List Frame)(cases:Array CommCase)(sh:CommShape)(q:Int)(v:Value)(ok:Bool):
  Goroutine.finishComm P (core (G (b.at a (.inRegion ops (i :: rest) :: k)) cs)) cases sh q v ok=G (b.at (a.put ((ops[i]?).bind (·.dst)) (commResult cases sh q v ok)) (.inRegion ops rest :: k)) cs:=by
 rw [core_G]
 simp only [Goroutine.finishComm,G,Frame.finish_at]
def Ans.four (p:Nat): Ans→List Value
 | .good out k=>[.int .i64 p,.bool true,sl out,sl k]
 | .bad=>[.int .i64 p,.bool false,.slice none 0 0,.slice none 0 0]
theorem Ans.four_length (p:Nat)(a:Ans): (a.four p).length=4:=by cases a <;> rfl
def zbc (n:Nat)(got:List (Nat×Ans)): Array Value:=got.foldl (fun c x=>putC c (x.1 * 4) (x.2.four x.1)) (madeCells #[.int .i64 0,.bool false,.slice none 0 0,.slice none 0 0] (n * 4))
theorem zn6 (n:Nat): zbc n []=madeCells #[.int .i64 0,.bool false,.slice none 0 0,.slice none 0 0] (n * 4):=rfl
theorem zfl (n:Nat)(got:List (Nat×Ans))(x:Nat×Ans): zbc n (got++[x])=putC (zbc n got) (x.1 * 4) (x.2.four x.1):=by simp [zbc]
theorem znw:∀ (got:List (Nat×Ans)) (c:Array Value),(got.foldl (fun c x=>putC c (x.1 * 4) (x.2.four x.1)) c).size=c.size
 | [],_=>rfl
 | x :: l,c=>by rw [List.foldl_cons,znw l,ze5]
theorem zcr (n:Nat)(got:List (Nat×Ans)): (zbc n got).size=n * 4:=by rw [zbc,znw,size_madeCells]
theorem zos {n p j:Nat}(hj:j<4): ∀ (got:List (Nat×Ans)) (c:Array Value),c.size=n * 4→(∀ x∈got,x.1<n)→(∀ x∈got,x.1≠p)→(got.foldl (fun c x=>putC c (x.1 * 4) (x.2.four x.1)) c)[p * 4+j]?=c[p * 4+j]?
 | [],_,_,_,_=>rfl
 | x :: l,c,hc,hn,hp=>by
   have hx:=hn x (by simp)
   have hx2:=hp x (by simp)
   rw [List.foldl_cons,zos hj l _ (by rw [ze5,hc]) (fun y hy=>hn y (by simp [hy])) (fun y hy=>hp y (by simp [hy])),zmw _ _ _ _ (by rw [Ans.four_length];omega),Ans.four_length,if_neg (by omega)]
theorem zxf {n p:Nat}{a:Ans}: ∀ (got:List (Nat×Ans)) (c:Array Value),c.size=n * 4→(p,a)∈got→got.countP (·.1 == p)≤1→(∀ x∈got,x.1<n)→∀ j v,(a.four p)[j]?=some v→(got.foldl (fun c x=>putC c (x.1 * 4) (x.2.four x.1)) c)[p * 4+j]?=some v
 | [],_,_,hm,_,_=>by cases hm
 | x :: l,c,hc,hm,hq,hn=>fun j v hj=>by
   have hj4:j<4:=by have:=(List.getElem?_eq_some_iff.1 hj).1;rwa [Ans.four_length] at this
   have hx:=hn x (by simp)
   rw [List.foldl_cons]
   rw [List.countP_cons] at hq
   rcases List.mem_cons.1 hm with rfl|hm
   ·simp only [beq_self_eq_true,if_true] at hq
    have h0:l.countP (·.1 == p)=0:=by omega
    rw [zos hj4 l _ (by rw [ze5,hc]) (fun y hy=>hn y (by simp [hy])) (fun y hy=>by have:=List.countP_eq_zero.1 h0 y hy;simpa using this),zmw _ _ _ _ (by rw [Ans.four_length];omega),Ans.four_length,if_pos (by omega),show p * 4+j - p * 4=j by omega]
    exact hj
   ·exact zxf l _ (by rw [ze5,hc]) hm (by omega) (fun y hy=>hn y (by simp [hy])) j v hj
theorem zrk (n:Nat){p:Nat}{a:Ans}(got:List (Nat×Ans))(hm:(p,a)∈got)(hc:got.countP (·.1 == p)≤1)(hn:∀ x∈got,x.1<n)(j:Nat)(v:Value)(hj:(a.four p)[j]?=some v): (zbc n got)[p * 4+j]?=some v :=
 zxf got _ (size_madeCells _ _) hm hc hn j v hj
end
end Go.Proofs.YtelgmbomkojmaaaDoor
