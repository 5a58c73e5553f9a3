/- A pack: Bk Bm. -/
import Derived.Test.YtelgmbomkojmaaaDoorQBae
import Derived.Test.YtelgmbomkojmaaaDoorQLad
import Derived.Lib.SlBytesConst
import Derived.Great.BuildSlice
import Derived.Laws.MakeOwn
namespace Go.Proofs.YtelgmbomkojmaaaDoor
set_option linter.all false
set_option maxRecDepth 100000
section
open Go.RowKit
abbrev keyL:List Int:=[107,101,121]
noncomputable def oniL:List Int:=zc1 [keyL] [List.replicate 16 0] (List.replicate 78 0)
theorem zd2:zm4 [keyL] [List.replicate 16 0] (List.replicate 78 0):=⟨by simp,by simp,rfl,fun i hi=>by
 have:i=0:=by simp at hi;omega
 subst this;simp,by simp⟩
theorem zhd:oniL.length=126:=by
 unfold oniL
 rw [zez _ _ _ zd2.2.2.1 zd2.2.2.2.1]
 simp
theorem zfv (n:Nat): Byt (List.replicate n 0):=fun x hx=>by
 rw [List.eq_of_mem_replicate hx];omega
theorem zir (sv:List Int)(x:Int): zds sv 0 1 [x]≠0:=by
 rw [zmx (by intro h;have:=h.2.2.2.2;simp at this)]
 decide
theorem zto:za4 keyL 0 1 [[1],[2]]=[]:=by
 unfold za4
 have h1:=zir keyL 1
 have h2:=zir keyL 2
 simp [zc3,h1,h2]
theorem zwa:zds keyL 0 1 oniL=0:=by
 have h:=(zk1 zd2 rfl (k:=0) (n:=1) (fun xs hx=>by simp only [List.mem_singleton] at hx;rw [hx];exact zfv 16) (zfv 78) (by omega) (zmb zd2 rfl)).1
 exact h
theorem zfs:za4 keyL 0 1 [[1],oniL]=[1]:=by
 unfold za4
 have h1:=zir keyL 1
 have h2:=zwa
 simp [zc3,h1,h2]
theorem ztr:zd6 keyL 0 1 [[1],oniL] []=[1]:=by
 have h:zax keyL 0 1 [[1],oniL] [] 0=1:=by
  have:=zfm (sv:=keyL) (hop:=0) (hops:=1) (L:=[[1],oniL]) (ds:=[]) (i:=0) (by rw [zfs];simp)
  rw [zfs] at this
  simpa using this
 unfold zd6
 rw [zfs]
 simp [h]
theorem zx4:z2m [] 2 []:=⟨⟨fun i hi=>by simp at hi,fun i j hi=>by simp at hi⟩,rfl,fun i hi=>by simp at hi⟩
theorem z0t:bkL [] [] 2=[List.replicate 32 0,List.replicate 32 0]:=rfl
def KpW (w w':World): Prop:=w.heap.size≤w'.heap.size∧∀ (k:Nat) (c:Array Value) (t:TypeId) (fr:Nat×Nat),w.heap[k]?=some (Obj.cells c t fr)→∃ fr',w'.heap[k]?=some (Obj.cells c t fr')
theorem KpW.below {w w':World}(h:Below w.heap.size w w'): KpW w w':=⟨h.size,fun k c t fr hk=>⟨fr,by rw [h.block k (Array.getElem?_eq_some_iff.1 hk).1];exact hk⟩⟩
theorem zxa (w:World)(b off k:Nat){c:Array Value}{t:TypeId}{fr:Nat×Nat}(hk:w.heap[k]?=some (.cells c t fr)): ∃ fr',(w.freeze { block:=b,off:=off } 1).heap[k]?=some (.cells c t fr'):=by
 unfold World.freeze
 simp only [Nat.one_ne_zero,if_false,Array.getElem?_modify]
 by_cases h:b=k
 ·subst h
  obtain ⟨lo,hi⟩:=fr
  simp only [if_true,hk,Option.map_some]
  exact ⟨_,rfl⟩
 ·rw [if_neg h]
  exact ⟨fr,hk⟩
theorem z4d (w:World){b k:Nat}(off:Nat)(h:k≠b): (w.freeze { block:=b,off:=off } 1).heap[k]?=w.heap[k]?:=by
 unfold World.freeze
 simp only [Nat.one_ne_zero,if_false,Array.getElem?_modify]
 rw [if_neg (Ne.symm h)]
theorem KpW.freeze (w:World)(b off:Nat): KpW w (w.freeze ⟨b,off,none⟩ 1):=by
 refine ⟨by simp [World.freeze],fun k c t fr hk=>?_⟩
 exact zxa w b off k hk
theorem KpW.cell {w w':World}(h:KpW w w'){b i:Nat}{v:Value}(hc:w.cell? ⟨b,i,none⟩=some v): w'.cell? ⟨b,i,none⟩=some v:=by
 unfold World.cell? at hc ⊢
 cases hb:w.heap[b]? with
 | none=>simp [hb] at hc
 | some o =>
   cases o with
   | cells c t fr =>
     obtain ⟨fr',hk⟩:=h.2 b c t fr hb
     simp only [hb,hk] at hc ⊢
     exact hc
   | _=>simp [hb] at hc
theorem Rd.kp {w w':World}{A:Option Addr}{vs:List Value}(hr:Rd w A vs)(h:KpW w w'): Rd w' A vs:=by
 rcases hr with e|⟨b,o,e,hl,hc⟩
 ·exact .inl e
 ·exact .inr ⟨b,o,e,Nat.lt_of_lt_of_le hl h.1,fun i v hv=>h.cell (hc i v hv)⟩
theorem zdh.kp {w w':World}{vs:List Value}{L:List (List Int)}(hp:zdh w vs L)(h:KpW w w'): zdh w' vs L:=⟨hp.1,fun i hi=>by
 obtain ⟨A,c,e,h1,h2,hr⟩:=hp.2 i hi
 exact ⟨A,c,e,h1,h2,hr.kp h⟩⟩
theorem zo6 {B:Nat}{W w:World}(h:Below B W w){b:Nat}(hb:B≤b)(off:Nat): Below B W (w.freeze ⟨b,off,none⟩ 1):=by
 refine ⟨?_,?_,?_,?_,fun k hk=>?_⟩
 ·exact h.os
 ·exact h.tape
 ·exact h.output
 ·have:=h.size
  simpa [World.freeze] using this
 ·rw [z4d w off (by omega)]
  exact h.block k hk
theorem lit1 (w:World)(C:Array Value)(t:TypeId)(f:Nat×Nat): Rd (w.alloc (.cells C t f)) (some ⟨w.heap.size,0,none⟩) C.toList:=by
 refine .inr ⟨w.heap.size,0,rfl,by rw [World.size_alloc];omega,fun i v hv=>?_⟩
 rw [Nat.zero_add,World.cell?_alloc_mark]
 simpa using hv
theorem zzo (N:Nat)(h:N≤100000): ∃ zc:Array Value,(∀ W:World,(Instr.makeSlice 33 (.int .i64 (N:Int)) (.int .i64 (N:Int))).run Lead.prog W=.ok (.slice (some ⟨W.heap.size,0,none⟩) N N) (W.alloc (.cells zc 5))) ∧
  ∀ W:World,Rd (W.alloc (.cells zc 5)) (some ⟨W.heap.size,0,none⟩) (nums .u8 (List.replicate N 0)):=by
 obtain ⟨i0,hi,hz0,hz1,hz2⟩:=info_parts zkt
 refine ⟨madeCells (Value.int .u8 0).cells (N * i0.size),fun W=>?_,fun W=>?_⟩
 ·have hr:=run_make (P:=Lead.prog) W 33 5 i0 (.int .u8 0) (Lead.of Tryd.underlying33) hi hz0 .i64 .i64 N N (by omega) (by omega) (by rw [hz2];omega) (by omega)
  simp only [Int.toNat_natCast] at hr
  exact hr
 ·rw [hz1,Nat.mul_one]
  refine .inr ⟨W.heap.size,0,rfl,by simp,fun i v hv=>?_⟩
  rw [Nat.zero_add,World.cell?_alloc_at _ _ _ _ rfl]
  simp [nums,List.getElem?_replicate] at hv
  simp [madeCells,Value.cells,Nat.mod_one,hv.1,hv.2]
section
variable {P:Program} {o:Oper} {a:Act} {w:World} {K:Act→World→Prop} {Q:Exit→Act→World→Prop}
theorem zyp {f:FuncId}{args:Array Value}{R:Ending→World→Prop}(hr:(execOp a.eval o).run P w=.ok (.enter f args) w)(hc:Calls P f args w R)(h:∀ e w',R e w'→∃ v,e=.returned v∧K (a.put o.dst v) w'): Oper.wp P o a w K Q:=by
 unfold Oper.wp
 rw [hr,Oper.upon_enter]
 refine hc.mono fun e w' hR=>?_
 obtain ⟨v,rfl,hk⟩:=h e w' hR
 exact hk
end
theorem zy5 {P:Program}(w:World)(t e:TypeId)(C:Array Value)(fr:Nat×Nat)(g n c:Nat)(hg:w.heap[g]?=some (.cells C e fr))(ht:P.underlying t=some (.slice e))(he:P.underlying e=some (.int .u8)):
  (convert t t (.slice (some ⟨g,0,none⟩) n c)).run P w=.ok (.slice (some ⟨g,0,none⟩) n c) (w.freeze ⟨g,C.size,none⟩ 1):=by
 have hsh:w.shape? g=some (e,C.size):=by
  unfold World.shape?
  rw [hg]
 simp [convert,run_underlying ht,run_underlying he,markStringish,hsh]
section
variable (W0:World)
def CW (j:Nat)(v:Value)(w:World): Prop:=match j with
 | 0=>∃ g fr,v=.slice (some ⟨g,0,none⟩) 3 3∧w.heap[g]?=some (.cells #[.int .u8 107,.int .u8 101,.int .u8 121] 5 fr)∧W0.heap.size≤g
 | 1=>zo9 w v keyL∧∃ A,v=.slice A 3 3
 | 2=>∃ A vs,v=.slice A 1 1∧Rd w A vs∧zdh w vs [keyL]
 | 3=>zo9 w v (List.replicate 16 0)∧∃ A,v=.slice A 16 16
 | 4=>∃ A vs,v=.slice A 1 1∧Rd w A vs∧zdh w vs [List.replicate 16 0]
 | 5=>∃ A,v=.slice A 78 78∧Rd w A (nums .u8 (List.replicate 78 0))
 | 6|7=>∃ A c,v=.tuple #[.slice A 126 c,.int .i64 0]∧126≤c∧Rd w A (nums .u8 oniL)
 | 8|10=>∃ A c,v=.slice A 126 c∧126≤c∧Rd w A (nums .u8 oniL)
 | 9|11=>v=.int .i64 0
 | _=>True
variable {W0}
theorem CW.kp {j:Nat}{v:Value}{w w':World}(h:CW W0 j v w)(hk:KpW w w'): CW W0 j v w':=by
 have hp:∀ {v:Value} {xs:List Int},zo9 w v xs→zo9 w' v xs:=fun h=>by
  obtain ⟨A,c,e,h1,hr⟩:=h
  exact ⟨A,c,e,h1,hr.kp hk⟩
 unfold CW at h ⊢
 split at h
 ·obtain ⟨g,fr,h1,h2,h3⟩:=h
  obtain ⟨fr',h4⟩:=hk.2 _ _ _ _ h2
  exact ⟨g,fr',h1,h4,h3⟩
 ·exact ⟨hp h.1,h.2⟩
 ·obtain ⟨A,vs,h1,h2,h3⟩:=h
  exact ⟨A,vs,h1,h2.kp hk,h3.kp hk⟩
 ·exact ⟨hp h.1,h.2⟩
 ·obtain ⟨A,vs,h1,h2,h3⟩:=h
  exact ⟨A,vs,h1,h2.kp hk,h3.kp hk⟩
 ·obtain ⟨A,h1,h2⟩:=h
  exact ⟨A,h1,h2.kp hk⟩
 ·obtain ⟨A,c,h1,h2,h3⟩:=h
  exact ⟨A,c,h1,h2,h3.kp hk⟩
 ·obtain ⟨A,c,h1,h2,h3⟩:=h
  exact ⟨A,c,h1,h2,h3.kp hk⟩
 ·obtain ⟨A,c,h1,h2,h3⟩:=h
  exact ⟨A,c,h1,h2,h3.kp hk⟩
 ·obtain ⟨A,c,h1,h2,h3⟩:=h
  exact ⟨A,c,h1,h2,h3.kp hk⟩
 ·exact h
 ·exact h
 ·trivial
structure JW (W0:World)(l:Nat→Bool)(f:Nat→Value)(w:World): Prop where
 below:Below W0.heap.size W0 w
 c:∀ j,l j=true→CW W0 j (f j) w
theorem JW.step {l:Nat→Bool}{f:Nat→Value}{w w':World}(h:JW W0 l f w)(i:Nat){v:Value}(hb:Below W0.heap.size W0 w')(hk:KpW w w')(hv:CW W0 i v w'): JW W0 (updF l i true) (updF f i v) w' :=
 ⟨hb,fun j hj=>by
  by_cases e:j=i
  ·subst e
   simp only [updF,if_pos]
   exact hv
  ·have:l j=true:=by simpa [updF,e] using hj
   simp only [updF,if_neg e]
   exact (h.c j this).kp hk⟩
def sW (p:Nat): Option Nat:=match p with
 | 27=>some 0|28=>some 1|29=>some 2|30=>some 3|31=>some 4|32=>some 5|33=>some 6|26=>some 7|34=>some 8|35=>some 9|6=>some 10|7=>some 11|_=>none
theorem z5j:∀ p,97≤p→sW p=none:=fun p hp=>by
 unfold sW
 split <;> first
  | omega
  | rfl
def zid (i:Nat): List Nat:=match i with
 | 1=>[0]|2=>[1]|4=>[3]|6=>[2,4,5]|7=>[6]|8=>[7]|9=>[7]|10=>[8]|11=>[9]|_=>[]
def opW (i:Nat)(o:Op): Prop:=match i with
 | 0=>o=.buildSlice 33 3 #[(0,.const (.int .u8 107)),(1,.const (.int .u8 101)),(2,.const (.int .u8 121))]
 | 1=>o=.convert 33 33 (.tmp 27)
 | 2=>o=.buildSlice 22 1 #[(0,.tmp 28)]
 | 3=>o=.makeSlice 33 (.const (.int .i64 16)) (.const (.int .i64 16))
 | 4=>o=.buildSlice 22 1 #[(0,.tmp 30)]
 | 5=>o=.makeSlice 33 (.const (.int .i64 78)) (.const (.int .i64 78))
 | 6=>o=.call { callee:=.value (.func 17),args:=#[.tmp 29,.tmp 31,.tmp 32],argTypes:=#[22,22,33] }
 | 7=>o=.move (.tmp 33)
 | 8=>o=.extract (.tmp 26) 0
 | 9=>o=.extract (.tmp 26) 1
 | 10=>o=.assign (.tmp 34)
 | 11=>o=.assign (.tmp 35)
 | _=>False
def isW (i:Nat)(o:Oper): Prop:=opW i o.op∧o.guard=none∧((zid i).all fun k=>o.after.any fun e=>Region.binds .any e && e.on == k)=true
theorem z5b {T:Array Value}{ops:Array Oper}{id:Nat}{Q:Exit→Act→World→Prop}(hT:T.size=97)(hK:za2 W0)(hd:zt4 ops=true)(hs:zlo ops sW 97=true)(h12:ops.size=12)(hops:∀ i o,ops[i]?=some o→isW i o)(hend:∀ f w A c,f 10=.slice A 126 c→f 11=.int .i64 0→126≤c→Rd w A (nums .u8 oniL)→Below W0.heap.size W0 w→Q .normal ⟨frS sW T f,[]⟩ w): (Code.region id ops true).wp Lead.prog Q ⟨T,[]⟩ W0:=by
 obtain ⟨i0,hi,hz0,hz1,hz2⟩:=info_parts zfr
 obtain ⟨j0,ji,jz0,jz1,jz2⟩:=info_parts zkt
 refine zjv sW 97 (fun l f _ w=>JW W0 l f w) (by kernel_rfl) hd hs z5j (fun f=>⟨bdr brf,fun j hj=>(by cases hj)⟩) ?_ (fun l f b w hJ hl=>by
  obtain ⟨A,c,e1,e2,e3⟩:=hJ.c 10 (hl 10 (by omega))
  exact hend f w A c e1 (hJ.c 11 (hl 11 (by omega))) e2 e3 hJ.below)
 rintro i o l f b w ho hli hall hJ
 obtain ⟨h7,hgd,hwait⟩:=hops i o ho
 have hw:∀ k∈zid i,l k=true:=fun k hk=>by
  have h1:=List.all_eq_true.1 hwait k hk
  rw [Array.any_eq_true] at h1
  obtain ⟨j,hj,h1⟩:=h1
  simp only [Bool.and_eq_true,beq_iff_eq] at h1
  rw [← h1.2]
  exact hall _ (Array.getElem_mem hj) h1.1
 have i12:i<12:=by rw [← h12];exact (Array.getElem?_eq_some_iff.1 ho).1
 rw [if_pos (zjx hgd _)]
 have ev:∀ p:Nat,p<97→(⟨frS sW T f,[]⟩:Act).eval (.tmp p)=match sW p with|some j=>f j|none=>T.getD p undef:=fun p hp=>zr6 sW T f (by omega)
 have brw:KpW w w:=.below brf
 clear hall hwait ho hops hend
 match i,i12 with
 | 0,_ =>
   refine wp_buildSlice 33 5 3 _ h7 #[.int .u8 107,.int .u8 101,.int .u8 121] j0 (.int .u8 0) (Lead.of Tryd.underlying33) ji jz0 (by rw [jz1];decide) (by rw [jz1];decide) (by rw [jz1];simp [Instr.fill,Act.eval,Value.cells,go_sem]) ⟨_,b,rfl,hJ.step 0 (bal hJ.below _) (.below (bal brf _)) ⟨_,_,rfl,World.alloc_heap_new w _,hJ.below.size⟩⟩
 | 1,_ =>
   obtain ⟨g,fr,e,hg,hle⟩:=hJ.c 0 (hw 0 (by simp [zid]))
   have hr:=zy5 (P:=Lead.prog) w 33 5 _ fr g 3 3 hg (Lead.of Tryd.underlying33) (Lead.of Tryd.underlying5)
   refine zmh (v:=.slice (some ⟨g,0,none⟩) 3 3) (w':=w.freeze ⟨g,3,none⟩ 1) ?_ ⟨_,b,rfl,hJ.step 1 (zo6 hJ.below hle _) (.freeze _ _ _) ⟨⟨_,3,rfl,by simp,?_⟩,_,rfl⟩⟩
   ·have e1:execOp (⟨frS sW T f,[]⟩:Act).eval o=(do pure (.value (← convert 33 33 (.slice (some ⟨g,0,none⟩) 3 3)))):=by
     unfold execOp
     rw [show o.op=.convert 33 33 (.tmp 27) from h7]
     simp only [ev 27 (by omega)]
     rw [show (match sW 27 with|some j=>f j|none=>T.getD 27 undef)=f 0 from rfl,e]
    rw [e1,Sem.run_bind,hr]
    rfl
   ·obtain ⟨fr',h4⟩:=zxa w g 3 g hg
    refine .inr ⟨g,0,rfl,(Array.getElem?_eq_some_iff.1 h4).1,fun i v hv=>?_⟩
    unfold World.cell?
    simp only [h4,Nat.zero_add]
    simpa using hv
 | 2,_ =>
   obtain ⟨hp,A,e⟩:=hJ.c 1 (hw 1 (by simp [zid]))
   refine wp_buildSlice 22 33 1 _ h7 #[f 1] i0 (.slice none 0 0) (Lead.of Tryd.underlying22) hi hz0 (by rw [hz1];decide) (by rw [hz1];decide) (by
    rw [hz1]
    simp only [List.map_toArray,List.map_cons,List.map_nil,ev 28 (by omega)]
    rw [show (match sW 28 with|some j=>f j|none=>T.getD 28 undef)=f 1 from rfl,e]
    simp [Instr.fill,Act.eval,Value.cells,go_sem]) ⟨_,b,rfl,hJ.step 2 (bal hJ.below _) (.below (bal brf _)) ⟨_,_,rfl,lit1 _ _ _ _,⟨rfl,fun i hi=>?_⟩⟩⟩
   have hi0:i=0:=by simp at hi;omega
   subst hi0
   obtain ⟨A1,c1,e1,h1,hr⟩:=hp
   rw [e] at e1
   cases e1
   exact ⟨A,3,e,by simp,by unfold maxLen;omega,hr.kp (.below (bal brf _))⟩
 | 3,_ =>
   exact zjw h7 5 j0 (.int .u8 0) (Lead.of Tryd.underlying33) ji jz0 jz1 rfl 16 rfl rfl (by rw [jz2];omega) (by unfold maxLen;omega) (fun w' hr hb hs=>⟨_,b,rfl,hJ.step 3 (bgo hJ.below hb) (.below hb) ⟨⟨_,16,rfl,by simp,by rw [nums,List.map_replicate];exact hr.rd hs⟩,_,rfl⟩⟩)
 | 4,_ =>
   obtain ⟨hp,A,e⟩:=hJ.c 3 (hw 3 (by simp [zid]))
   refine wp_buildSlice 22 33 1 _ h7 #[f 3] i0 (.slice none 0 0) (Lead.of Tryd.underlying22) hi hz0 (by rw [hz1];decide) (by rw [hz1];decide) (by
    rw [hz1]
    simp only [List.map_toArray,List.map_cons,List.map_nil,ev 30 (by omega)]
    rw [show (match sW 30 with|some j=>f j|none=>T.getD 30 undef)=f 3 from rfl,e]
    simp [Instr.fill,Act.eval,Value.cells,go_sem]) ⟨_,b,rfl,hJ.step 4 (bal hJ.below _) (.below (bal brf _)) ⟨_,_,rfl,lit1 _ _ _ _,⟨rfl,fun i hi=>?_⟩⟩⟩
   have hi0:i=0:=by simp at hi;omega
   subst hi0
   obtain ⟨A1,c1,e1,h1,hr⟩:=hp
   rw [e] at e1
   cases e1
   exact ⟨A,16,e,by simp,by unfold maxLen;omega,hr.kp (.below (bal brf _))⟩
 | 5,_ =>
   exact zjw h7 5 j0 (.int .u8 0) (Lead.of Tryd.underlying33) ji jz0 jz1 rfl 78 rfl rfl (by rw [jz2];omega) (by unfold maxLen;omega) (fun w' hr hb hs=>⟨_,b,rfl,hJ.step 5 (bgo hJ.below hb) (.below hb) ⟨_,rfl,by rw [nums,List.map_replicate];exact hr.rd hs⟩⟩)
 | 6,_ =>
   obtain ⟨A2,vs2,e2,r2,p2⟩:=hJ.c 2 (hw 2 (by simp [zid]))
   obtain ⟨A4,vs4,e4,r4,p4⟩:=hJ.c 4 (hw 4 (by simp [zid]))
   obtain ⟨A5,e5,r5⟩:=hJ.c 5 (hw 5 (by simp [zid]))
   have hc:=zyo A2 A4 A5 1 1 1 78 vs2 vs4 [keyL] [List.replicate 16 0] (List.replicate 78 0) w rfl zd2 (fun i hi=>by
    have:i=0:=by omega
    subst this
    simp) (by omega) r2 p2 r4 p4 r5 (hK.below hJ.below (za5 (hK 0 (by omega))))
   refine zyp (f:=17) (args:=#[.slice A2 1 1,.slice A4 1 1,.slice A5 78 78]) ?_ hc ?_
   ·unfold execOp
    rw [show o.op=.call { callee:=.value (.func 17),args:=#[.tmp 29,.tmp 31,.tmp 32],argTypes:=#[22,22,33] } from h7]
    have E29:(⟨frS sW T f,[]⟩:Act).eval (.tmp 29)=.slice A2 1 1:=(ev 29 (by omega)).trans e2
    have E31:(⟨frS sW T f,[]⟩:Act).eval (.tmp 31)=.slice A4 1 1:=(ev 31 (by omega)).trans e4
    have E32:(⟨frS sW T f,[]⟩:Act).eval (.tmp 32)=.slice A5 78 78:=(ev 32 (by omega)).trans e5
    simp [resolve,invoke,Act.eval,go_sem]
    exact ⟨by simpa [Act.eval] using E29,by simpa [Act.eval] using E31,by simpa [Act.eval] using E32⟩
   ·rintro e w' ⟨A,c,rfl,hl,hr,hb⟩
    change (oniL).length≤c at hl
    rw [zhd] at hl
    have e:Value.slice A (zc1 [keyL] [List.replicate 16 0] (List.replicate 78 0)).length c=.slice A 126 c:=congrArg (fun n=>Value.slice A n c) zhd
    rw [e]
    exact ⟨_,rfl,_,b,rfl,hJ.step 6 (bgo hJ.below hb) (.below hb) ⟨A,c,rfl,hl,hr⟩⟩
 | 7,_ =>
   refine zmi h7 ⟨_,b,rfl,hJ.step 7 hJ.below brw ?_⟩
   rw [ev 33 (by omega)]
   exact hJ.c 6 (hw 6 (by simp [zid]))
 | 8,_ =>
   obtain ⟨A,c,e,h1,hr⟩:=hJ.c 7 (hw 7 (by simp [zid]))
   refine zmh (v:=.slice A 126 c) (w':=w) ?_ ⟨_,b,rfl,hJ.step 8 hJ.below brw ⟨A,c,rfl,h1,hr⟩⟩
   unfold execOp
   rw [show o.op=.extract (.tmp 26) 0 from h7]
   simp only [ev 26 (by omega)]
   rw [show (match sW 26 with|some j=>f j|none=>T.getD 26 undef)=f 7 from rfl,e]
   simp [go_sem]
 | 9,_ =>
   obtain ⟨A,c,e,h1,hr⟩:=hJ.c 7 (hw 7 (by simp [zid]))
   refine zmh (v:=.int .i64 0) (w':=w) ?_ ⟨_,b,rfl,hJ.step 9 hJ.below brw rfl⟩
   unfold execOp
   rw [show o.op=.extract (.tmp 26) 1 from h7]
   simp only [ev 26 (by omega)]
   rw [show (match sW 26 with|some j=>f j|none=>T.getD 26 undef)=f 7 from rfl,e]
   simp [go_sem]
 | 10,_ =>
   have hc:=hJ.c 8 (hw 8 (by simp [zid]))
   refine zmh (v:=f 8) (w':=w) ?_ ⟨_,b,rfl,hJ.step 10 hJ.below brw hc⟩
   unfold execOp
   rw [show o.op=.assign (.tmp 34) from h7]
   simp only [ev 34 (by omega)]
   rfl
 | 11,_ =>
   have hc:=hJ.c 9 (hw 9 (by simp [zid]))
   refine zmh (v:=f 9) (w':=w) ?_ ⟨_,b,rfl,hJ.step 11 hJ.below brw hc⟩
   unfold execOp
   rw [show o.op=.assign (.tmp 35) from h7]
   simp only [ev 35 (by omega)]
   rfl
theorem frW {T:Array Value}(hT:T.size=97)(f:Nat→Value): frS sW T f=(((((((((((T.setIfInBounds 27 (f 0)).setIfInBounds 28 (f 1)).setIfInBounds 29 (f 2)).setIfInBounds 30 (f 3)).setIfInBounds 31 (f 4)).setIfInBounds 32 (f 5)).setIfInBounds 33 (f 6)).setIfInBounds 26 (f 7)).setIfInBounds 34 (f 8)).setIfInBounds 35 (f 9)).setIfInBounds 6 (f 10)).setIfInBounds 7 (f 11):=by
 apply Array.ext_getElem?
 intro p
 unfold frS
 rw [Array.getElem?_mapIdx]
 simp only [Array.getElem?_setIfInBounds,Array.size_setIfInBounds,hT]
 by_cases h27:p=27
 ·subst h27;simp [sW,hT]
 by_cases h28:p=28
 ·subst h28;simp [sW,hT]
 by_cases h29:p=29
 ·subst h29;simp [sW,hT]
 by_cases h30:p=30
 ·subst h30;simp [sW,hT]
 by_cases h31:p=31
 ·subst h31;simp [sW,hT]
 by_cases h32:p=32
 ·subst h32;simp [sW,hT]
 by_cases h33:p=33
 ·subst h33;simp [sW,hT]
 by_cases h26:p=26
 ·subst h26;simp [sW,hT]
 by_cases h34:p=34
 ·subst h34;simp [sW,hT]
 by_cases h35:p=35
 ·subst h35;simp [sW,hT]
 by_cases h6:p=6
 ·subst h6;simp [sW,hT]
 by_cases h7:p=7
 ·subst h7;simp [sW,hT]
 have hn:sW p=none:=by
  unfold sW
  split <;> first
   | (exfalso;omega)
   | rfl
 rw [hn]
 rw [if_neg (Ne.symm h7),if_neg (Ne.symm h6),if_neg (Ne.symm h35),if_neg (Ne.symm h34),if_neg (Ne.symm h26),if_neg (Ne.symm h33),if_neg (Ne.symm h32),if_neg (Ne.symm h31),if_neg (Ne.symm h30),if_neg (Ne.symm h29),if_neg (Ne.symm h28),if_neg (Ne.symm h27)]
 cases T[p]? <;> rfl
end
end
section
open Go.RowKit
theorem ziq {w:World}{A:Option Addr}{vs:List Value}(h:Rd w A vs)(o:Obj): Rd (w.alloc o) A vs:=h.below (bal brf o)
theorem z2o (w:World)(hK:za2 w):
  let W:=(((w.alloc (.cells #[.int .u8 107,.int .u8 101,.int .u8 121] 5 (3,4))).alloc (.cells #[.int .u8 1] 5)).alloc (.cells #[.int .u8 2] 5)).alloc (.cells #[.slice (some ⟨w.heap.size+1,0,none⟩) 1 1,.slice (some ⟨w.heap.size+1+1,0,none⟩) 1 1] 33)
  Calls Lead.prog 13 #[.slice (some ⟨w.heap.size,0,none⟩) 3 3,.int .i64 0,.int .i64 1,.slice (some ⟨w.heap.size+1+1+1,0,none⟩) 2 2,.slice none 0 0] W (fun e w'=>∃ X Y Z x y z,e=.returned (.tuple #[.agg #[.slice X 0 x,.slice Y 0 y,.slice Z 0 z],.int .i64 0,.int .i64 0])∧Below W.heap.size W w')∧Below w.heap.size w W:=by
 intro W
 have hb:Below w.heap.size w W:=bal (bal (bal (bal brf _) _) _) _
 refine ⟨(zqd _ _ _ 3 3 2 2 0 0 0 1 keyL [] [.slice (some ⟨w.heap.size+1,0,none⟩) 1 1,.slice (some ⟨w.heap.size+1+1,0,none⟩) 1 1] [[1],[2]] W rfl (by omega) (by omega) rfl ⟨by omega,by omega,by omega,by omega,by omega⟩ (by omega) rfl (by omega) (ziq (ziq (ziq (lit1 w _ _ _) _) _) _) (by intro x hx;simp at hx;omega) ?_ ⟨rfl,fun i hi=>?_⟩ (by intro xs hxs;simp at hxs;rcases hxs with rfl|rfl <;> (intro x hx;simp at hx;omega)) (by intro xs hxs;simp at hxs;rcases hxs with rfl|rfl <;> simp) .nil (hK.below hb (za5 (hK 0 (by omega))))).mono ?_,hb⟩
 ·have:=lit1 (((w.alloc (.cells #[.int .u8 107,.int .u8 101,.int .u8 121] 5 (3,4))).alloc (.cells #[.int .u8 1] 5)).alloc (.cells #[.int .u8 2] 5)) #[.slice (some ⟨w.heap.size+1,0,none⟩) 1 1,.slice (some ⟨w.heap.size+1+1,0,none⟩) 1 1] 33 (0,0)
  simpa only [World.size_alloc] using this
 ·match i,hi with
  | 0,_ =>
    have:=lit1 (w.alloc (.cells #[.int .u8 107,.int .u8 101,.int .u8 121] 5 (3,4))) #[.int .u8 1] 5 (0,0)
    rw [World.size_alloc] at this
    exact ⟨_,1,rfl,by simp,ziq (ziq this _) _⟩
  | 1,_ =>
    have:=lit1 ((w.alloc (.cells #[.int .u8 107,.int .u8 101,.int .u8 121] 5 (3,4))).alloc (.cells #[.int .u8 1] 5)) #[.int .u8 2] 5 (0,0)
    rw [World.size_alloc,World.size_alloc] at this
    exact ⟨_,1,rfl,by simp,ziq this _⟩
 ·rintro e w1 ⟨X,Y,Z,x,y,z,vo,vk,rfl,l1,l2,l3,rX,pX,rY,rZ,pZ,hb2⟩
  rw [zto]
  exact ⟨X,Y,Z,x,y,z,rfl,hb2⟩
theorem z2n (w:World)(A:Option Addr)(c:Nat)(h126:126≤c)(rA:Rd w A (nums .u8 oniL))(hK:za2 w):
  let W:=((w.alloc (.cells #[.int .u8 107,.int .u8 101,.int .u8 121] 5 (3,4))).alloc (.cells #[.int .u8 1] 5)).alloc (.cells #[.slice (some ⟨w.heap.size+1,0,none⟩) 1 1,.slice A 126 c] 33)
  Calls Lead.prog 13 #[.slice (some ⟨w.heap.size,0,none⟩) 3 3,.int .i64 0,.int .i64 1,.slice (some ⟨w.heap.size+1+1,0,none⟩) 2 2,.slice none 0 0] W (fun e w'=>∃ X Y Z x y z,e=.returned (.tuple #[.agg #[.slice X 1 x,.slice Y 1 y,.slice Z 1 z],.int .i64 0,.int .i64 0])∧Rd w' Y (nums .i64 [1])∧Below W.heap.size W w')∧Below w.heap.size w W:=by
 intro W
 have hb:Below w.heap.size w W:=bal (bal (bal brf _) _) _
 have bo:Byt oniL:=zgu _ _ _ (fun xs hx=>by simp only [List.mem_singleton] at hx;rw [hx];exact zfv 16) (zfv 78)
 refine ⟨(zqd _ _ _ 3 3 2 2 0 0 0 1 keyL [] [.slice (some ⟨w.heap.size+1,0,none⟩) 1 1,.slice A 126 c] [[1],oniL] W rfl (by omega) (by omega) rfl ⟨by omega,by omega,by omega,by omega,by omega⟩ (by omega) rfl (by omega) (ziq (ziq (lit1 w _ _ _) _) _) (by intro x hx;simp at hx;omega) ?_ ⟨rfl,fun i hi=>?_⟩ (by intro xs hxs;simp only [List.mem_cons,List.mem_nil_iff,or_false] at hxs;rcases hxs with rfl|rfl <;> first|exact bo|(intro x hx;simp at hx;omega)) (by intro xs hxs;simp only [List.mem_cons,List.mem_nil_iff,or_false] at hxs;rcases hxs with rfl|rfl <;> first|(rw [zhd];omega)|simp) .nil (hK.below hb (za5 (hK 0 (by omega))))).mono ?_,hb⟩
 ·have:=lit1 ((w.alloc (.cells #[.int .u8 107,.int .u8 101,.int .u8 121] 5 (3,4))).alloc (.cells #[.int .u8 1] 5)) #[.slice (some ⟨w.heap.size+1,0,none⟩) 1 1,.slice A 126 c] 33 (0,0)
  simpa only [World.size_alloc] using this
 ·match i,hi with
  | 0,_ =>
    have:=lit1 (w.alloc (.cells #[.int .u8 107,.int .u8 101,.int .u8 121] 5 (3,4))) #[.int .u8 1] 5 (0,0)
    rw [World.size_alloc] at this
    exact ⟨_,1,rfl,by simp,ziq this _⟩
  | 1,_ =>
    refine ⟨A,c,?_,?_,ziq (ziq (ziq rA _) _) _⟩
    ·show Value.slice A 126 c=Value.slice A oniL.length c
     rw [zhd]
    ·show oniL.length≤c
     rw [zhd]
     exact h126
 ·rintro e w1 ⟨X,Y,Z,x,y,z,vo,vk,rfl,l1,l2,l3,rX,pX,rY,rZ,pZ,hb2⟩
  rw [ztr] at rY
  rw [zfs]
  exact ⟨X,Y,Z,x,y,z,rfl,rY,hb2⟩
abbrev z2w (B1 B2 bA oA bY oY:Nat)(u0 u1 u2 u3:Value)(x:World): Prop:=x.cell? ⟨B1,0,none⟩=some u0∧x.cell? ⟨bA,oA+1,none⟩=some u1∧x.cell? ⟨B2,0,none⟩=some u2∧x.cell? ⟨B2,1,none⟩=some u3∧x.cell? ⟨bY,oY,none⟩=some (.int .i64 1)
set_option maxHeartbeats 2000000 in
theorem zzu (w:World)(hK:za2 w): Calls Lead.prog 8 #[] w fun e w'=>e=.returned (.bool true)∧Below w.heap.size w w':=by
 have kc:=fun (w:World) (C:Array Value) (n c:Nat)=>Lib.run_convert_bytes_const (P:=Lead.prog) w 33 5 C n c (Lead.of Tryd.underlying33) (Lead.of Tryd.underlying5)
 obtain ⟨i2,hi2,hy1,hy2,hy3⟩:=info_parts zkt
 obtain ⟨C1,hb1⟩:=z2o w hK
 have hlt:=za5 (hK 0 (by omega))
 have HK:=Lib.hid hK
 clear hK
 go_enter Lead.func8,Tryd.ntmps8
 go_upto_region 2 with ((with_reducible refine C1.mono ?_);rintro e w1 ⟨X,Y,Z,x,y,z,rfl,hb2⟩)
 have hbw:=bgo hb1 hb2
 have C2:Calls Lead.prog 10 #[.agg #[.slice X 0 x,.slice Y 0 y,.slice Z 0 z],.int .i64 2,.slice none 0 0] (w1.alloc (.cells #[.slice X 0 x,.slice Y 0 y,.slice Z 0 z] 25)) (IsBk (w1.alloc (.cells #[.slice X 0 x,.slice Y 0 y,.slice Z 0 z] 25)) [] 2 []):=z0w (.slice X 0 x) (.slice Z 0 z) Y none 0 y 2 0 0 [] [] [] (w1.alloc (.cells #[.slice X 0 x,.slice Y 0 y,.slice Z 0 z] 25)) rfl rfl rfl .nil (by omega) rfl .nil ⟨rfl,fun i hi=>by simp at hi⟩ (by unfold maxLen;omega) (by unfold maxLen;omega) zx4
 have hbw2:Below w.heap.size w (w1.alloc (.cells #[.slice X 0 x,.slice Y 0 y,.slice Z 0 z] 25)):=bal hbw _
 have hx0:=zwi w1 (.slice X 0 x) (.slice Y 0 y) (.slice Z 0 z) 25
 have hs1:(w1.alloc (.cells #[.slice X 0 x,.slice Y 0 y,.slice Z 0 z] 25)).heap.size=w1.heap.size+1:=World.size_alloc _ _
 go_upto_region 3 with ((with_reducible refine C2.mono ?_);rintro e w2 ⟨A,vs,rfl,rA,pA,hb3⟩)
 have hx2:=(hb3.cell (p:=⟨w1.heap.size,0,none⟩) (show w1.heap.size<_ by omega)).trans hx0
 have hbw3:=bgo hbw2 hb3
 have hs2:=hb3.size
 rw [z0t] at pA
 have HRA:=Lib.hid rA
 have HPA:=Lib.hid pA
 have HB3:=Lib.hid hbw3
 clear rA pA hbw3 hb3 hbw2 hx0 C1 C2 hbw hb1 hb2
 refine z5b rfl (HK.out.below HB3.out hlt) (by kernel_rfl) (by kernel_rfl) rfl ?opsM ?finM
 case opsM =>
  intro i o ho
  have hi:i<12:=(Array.getElem?_eq_some_iff.1 ho).1
  match i,hi with
  | 0,_=>cases ho;exact ⟨rfl,rfl,by first|rfl|decide +kernel⟩
  | 1,_=>cases ho;exact ⟨rfl,rfl,by first|rfl|decide +kernel⟩
  | 2,_=>cases ho;exact ⟨rfl,rfl,by first|rfl|decide +kernel⟩
  | 3,_=>cases ho;exact ⟨rfl,rfl,by first|rfl|decide +kernel⟩
  | 4,_=>cases ho;exact ⟨rfl,rfl,by first|rfl|decide +kernel⟩
  | 5,_=>cases ho;exact ⟨rfl,rfl,by first|rfl|decide +kernel⟩
  | 6,_=>cases ho;exact ⟨rfl,rfl,by first|rfl|decide +kernel⟩
  | 7,_=>cases ho;exact ⟨rfl,rfl,by first|rfl|decide +kernel⟩
  | 8,_=>cases ho;exact ⟨rfl,rfl,by first|rfl|decide +kernel⟩
  | 9,_=>cases ho;exact ⟨rfl,rfl,by first|rfl|decide +kernel⟩
  | 10,_=>cases ho;exact ⟨rfl,rfl,by first|rfl|decide +kernel⟩
  | 11,_=>cases ho;exact ⟨rfl,rfl,by first|rfl|decide +kernel⟩
 case finM =>
  intro f w3 A3 c3 e10 e11 h126 rA3 hb4
  rw [frW rfl f,e10,e11]
  generalize f 0=u0
  generalize f 1=u1
  generalize f 2=u2
  generalize f 3=u3
  generalize f 4=u4
  generalize f 5=u5
  generalize f 6=u6
  generalize f 7=u7
  generalize f 8=u8
  generalize f 9=u9
  clear e10 e11 f
  simp only [List.setIfInBounds_toArray,List.set_cons_zero,List.set_cons_succ]
  have hx3:=(hb4.cell (p:=⟨w1.heap.size,0,none⟩) (show w1.heap.size<w2.heap.size by omega)).trans hx2
  have hs3:=hb4.size
  have hbw4:=bgo HB3.out hb4
  obtain ⟨C4,hb5⟩:=z2n w3 A3 c3 h126 rA3 (HK.out.below hbw4 hlt)
  have HRA3:=Lib.hid (HRA.out.below hb4)
  have HPA3:=Lib.hid (HPA.out.below hb4)
  clear hx2
  go_upto_region 5 with ((with_reducible refine C4.mono ?_);rintro e w4 ⟨X2,Y2,Z2,x2,y2,z2,rfl,rY2,hb6⟩)
  have h35:=bgo hb5 hb6
  have hbw5:=bgo hbw4 h35
  have hx4:=(h35.cell (p:=⟨w1.heap.size,0,none⟩) (show w1.heap.size<w3.heap.size by omega)).trans hx3
  have rA4:=HRA3.out.below h35
  have pA4:=HPA3.out.below h35
  obtain ⟨zc,hmk0,hrz⟩:=zzo 32 (by omega)
  have hmk:∀ W:World,(Instr.makeSlice 33 (.int .i64 32) (.int .i64 32)).run Lead.prog W=.ok (.slice (some ⟨W.heap.size,0,none⟩) 32 32) (W.alloc (.cells zc 5)):=hmk0
  obtain ⟨bA,oA,rfl,hlA,hcA⟩:=rA4.at_ (by rw [pA4.1];simp)
  have cA:=hcA 1 _ (znr (by rw [pA4.1];simp))
  obtain ⟨A5,c5,hv5,h5,_,hr5⟩:=pA4.2 1 (by simp)
  rw [hv5] at cA
  obtain ⟨bY,oY,rfl,hlY,hcY⟩:=rY2.at_ (by simp)
  have cY:=hcY 0 _ rfl
  have hr5:Rd w4 A5 (nums .u8 (List.replicate 32 0)):=hr5
  have HR5:=Lib.hid hr5
  have HZ:=Lib.hid hrz
  have HBW5:=Lib.hid hbw5
  have hs4:=h35.size
  have hx5:(w4.alloc (.cells #[.slice X2 1 x2,.slice (some ⟨bY,oY,none⟩) 1 y2,.slice Z2 1 z2] 25)).cell? ⟨w1.heap.size,0,none⟩=some (.slice X 0 x):=Lib.cell?_alloc_marked _ hx4
  have cA5:(w4.alloc (.cells #[.slice X2 1 x2,.slice (some ⟨bY,oY,none⟩) 1 y2,.slice Z2 1 z2] 25)).cell? ⟨bA,oA+1,none⟩=some (.slice A5 32 c5):=Lib.cell?_alloc_marked _ cA
  have cY5:(w4.alloc (.cells #[.slice X2 1 x2,.slice (some ⟨bY,oY,none⟩) 1 y2,.slice Z2 1 z2] 25)).cell? ⟨bY,oY,none⟩=some (.int .i64 1):=Lib.cell?_alloc_marked _ cY
  have e0:=zwi w4 (.slice X2 1 x2) (.slice (some ⟨bY,oY,none⟩) 1 y2) (.slice Z2 1 z2) 25
  have e1:=zwh w4 (.slice X2 1 x2) (.slice (some ⟨bY,oY,none⟩) 1 y2) (.slice Z2 1 z2) 25
  have HB6:=Lib.hid (bal (bdr (brf (w:=w4.alloc (.cells #[.slice X2 1 x2,.slice (some ⟨bY,oY,none⟩) 1 y2,.slice Z2 1 z2] 25)))) (.cells zc 5))
  have HR6:=Lib.hid (show Rd (w4.alloc (.cells #[.slice X2 1 x2,.slice (some ⟨bY,oY,none⟩) 1 y2,.slice Z2 1 z2] 25)).drew A5 (nums .u8 (List.replicate 32 0)) from hr5.below (bdr (bal brf _)))
  have HBX:=Lib.hid (bgo hbw5 (bal (brf (w:=w4)) (.cells #[.slice X2 1 x2,.slice (some ⟨bY,oY,none⟩) 1 y2,.slice Z2 1 z2] 25)))
  clear hcA hcY rA4 pA4 hv5 h5 hr5 hrz hmk0 hx4 cA cY rY2 hx3 hb4 hb5 hb6 C4 h35 hbw4 hbw5 hi2 hy1 hy2 hy3 kc
  generalize w4.alloc (.cells #[.slice X2 1 x2,.slice (some ⟨bY,oY,none⟩) 1 y2,.slice Z2 1 z2] 25)=w5 at *
  have S0:z2w w1.heap.size w4.heap.size bA oA bY oY (.slice X 0 x) (.slice A5 32 c5) (.slice X2 1 x2) (.slice (some ⟨bY,oY,none⟩) 1 y2) w5.drew:=⟨hx5,cA5,e0,e1,cY5⟩
  have S1:z2w w1.heap.size w4.heap.size bA oA bY oY (.slice X 0 x) (.slice A5 32 c5) (.slice X2 1 x2) (.slice (some ⟨bY,oY,none⟩) 1 y2) (w5.drew.alloc (.cells zc 5)):=⟨Lib.cell?_alloc_marked _ S0.1,Lib.cell?_alloc_marked _ S0.2.1,Lib.cell?_alloc_marked _ S0.2.2.1,Lib.cell?_alloc_marked _ S0.2.2.2.1,Lib.cell?_alloc_marked _ S0.2.2.2.2⟩
  go_region_held3 (fun x_=>z2w w1.heap.size w4.heap.size bA oA bY oY (.slice X 0 x) (.slice A5 32 c5) (.slice X2 1 x2) (.slice (some ⟨bY,oY,none⟩) 1 y2) x_) (first|exact S0|exact S1) ((go_at_call 16;refine (zri _ _ 32 _ 32 _ (List.replicate 32 0) (List.replicate 32 0) _ List.length_replicate List.length_replicate (ziq HR6.out _) (HZ.out _) (zfv 32) (zfv 32)).mono ?_;rintro e w6 ⟨he,rfl⟩;simp only [decide_true] at he;subst he))
  go_wp2_with fail
  go_ret
  exact ⟨rfl,bgo HBX.out HB6.out⟩
end
end Go.Proofs.YtelgmbomkojmaaaDoor
