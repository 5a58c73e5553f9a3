/- A pack: Ca Cb Cc. -/
import Derived.Test.YtelgmbomkojmaaaDoorQCjbi
import Derived.Test.YtelgmbomkojmaaaDoorQLac
import Derived.Test.YtelgmbomkojmaaaDoorQBObh
namespace Go.Proofs.YtelgmbomkojmaaaDoor
set_option linter.all false
set_option maxRecDepth 100000
open Exts (ext stop anyOk gapOk)
section
open Go.RowKit
theorem zop {sv:List Int}{hop hops:Int}{L:List (List Int)}: ∀ k,(∀ j,j<k→zds sv hop hops (L.getD j [])=0)→zc3 sv hop hops L k=List.range k
 | 0,_=>rfl
 | k+1,h=>by rw [zc3,zop k (fun j hj=>h j (by omega)),if_pos (h k (by omega)),List.range_succ]
theorem zw8 {sv:List Int}{hop hops:Int}{L:List (List Int)}(h:∀ j,j<L.length→zds sv hop hops (L.getD j [])=0): za4 sv hop hops L=List.range L.length:=zop _ h
def ncL (i k:Nat): List Int:=(i:Int) :: (k:Int) :: List.replicate 14 0
theorem zwj (i k:Nat): (ncL i k).length=16:=by simp [ncL]
theorem z2h {i k:Nat}(hi:i<256)(hk:k<256): Byt (ncL i k):=fun x hx=>by
 unfold ncL at hx
 rcases List.mem_cons.1 hx with rfl|hx
 ·omega
 ·rcases List.mem_cons.1 hx with rfl|hx
  ·omega
  ·rw [List.eq_of_mem_replicate hx];omega
def zkl (i n:Nat): List (List Int):=(List.range n).map (ncL i)
theorem zod (i n:Nat): (zkl i n).length=n:=by simp [zkl]
theorem zzl {i n k:Nat}(h:k<n): (zkl i n).getD k []=ncL i k:=by simp [zkl,List.getD,h]
theorem zkk {i n:Nat}(hi:i<256)(hn:n≤256): ∀ xs∈zkl i n,Byt xs:=fun xs hx=>by
 obtain ⟨k,hk,rfl⟩:=List.mem_map.1 hx
 have:k<n:=by simpa using hk
 exact z2h hi (by omega)
section
variable {Ls bs:List (List Int)} {n:Nat}
theorem zen {i:Nat}(hn:Ls.length=n)(h1:1≤n)(h4:n≤4)(hb:(bs.getD i []).length=78): zm4 Ls (zkl i n) (bs.getD i []) :=
 ⟨by omega,by omega,by rw [zod,hn],fun k hk=>by rw [zod] at hk;rw [zzl hk,zwj],hb⟩
def blC (Ls bs:List (List Int))(n:Nat): Nat→Nat→List Int
 | 0,i=>zc1 Ls (zkl i n) (bs.getD i [])
 | k+1,i=>zcz (Ls.getD k []) k n (blC Ls bs n k i)
theorem zsf {i:Nat}(hn:Ls.length=n)(h1:1≤n)(h4:n≤4)(hb:(bs.getD i []).length=78)(bb:Byt (bs.getD i []))(hi:i<256): ∀ k,k≤n→z03 Ls (zkl i n) (bs.getD i []) n k (blC Ls bs n k i)
 | 0,_=>zmb (zen hn h1 h4 hb) hn
 | k+1,hk=>(zk1 (zen hn h1 h4 hb) hn (zkk hi (by omega)) bb (by omega) (zsf hn h1 h4 hb bb hi k (by omega))).2.2
theorem zx2 {i k:Nat}(hn:Ls.length=n)(h1:1≤n)(h4:n≤4)(hb:(bs.getD i []).length=78)(bb:Byt (bs.getD i []))(hi:i<256)(hk:k<n): zds (Ls.getD k []) k n (blC Ls bs n k i)=0 :=
 (zk1 (zen hn h1 h4 hb) hn (zkk hi (by omega)) bb hk (zsf hn h1 h4 hb bb hi k (by omega))).1
theorem z3b {i:Nat}(hn:Ls.length=n)(h1:1≤n)(h4:n≤4)(hb:(bs.getD i []).length=78)(bb:Byt (bs.getD i []))(hi:i<256): blC Ls bs n n i=bs.getD i []:=(zsf hn h1 h4 hb bb hi n (Nat.le_refl n)).2 rfl
theorem z3a {i k:Nat}(hn:Ls.length=n)(h1:1≤n)(h4:n≤4)(hb:(bs.getD i []).length=78)(bb:Byt (bs.getD i []))(hi:i<256)(hk:k≤n): (blC Ls bs n k i).length≤78+48 * n:=by
 have h:=zsf hn h1 h4 hb bb hi k hk
 rcases Nat.lt_or_ge k n with h2|h2
 ·rw [(h.1 h2).1];exact Nat.le_refl _
 ·rw [h.2 (by omega),hb];omega
theorem zx3 {i:Nat}(bb:Byt (bs.getD i []))(hi:i<256)(hn:n≤256): ∀ k,Byt (blC Ls bs n k i)
 | 0=>zgu _ _ _ (zkk hi hn) bb
 | k+1=>zv2 (zx3 bb hi hn k)
end
def lC (Ls bs:List (List Int))(n k:Nat)(a:Nat→Nat)(b:Nat): List (List Int):=(List.range b).map fun j=>blC Ls bs n k (a j)
theorem zhr {Ls bs:List (List Int)}{n k b:Nat}{a:Nat→Nat}: (lC Ls bs n k a b).length=b:=by simp [lC]
theorem z2s {Ls bs:List (List Int)}{n k b j:Nat}{a:Nat→Nat}(h:j<b): (lC Ls bs n k a b).getD j []=blC Ls bs n k (a j):=by simp [lC,List.getD,h]
def Shf (a:Nat→Nat)(b:Nat): Prop:=(∀ j,j<b→a j<b)∧∀ i j,i<b→j<b→a i=a j→i=j
theorem z3n (b:Nat): Shf id b:=⟨fun j hj=>hj,fun i j _ _ e=>e⟩
theorem z15 {Ls bs:List (List Int)}{n k b:Nat}{a:Nat→Nat}{ds:List Int}(hn:Ls.length=n)(h1:1≤n)(h4:n≤4)(hbs:∀ i,i<b→(bs.getD i []).length=78∧Byt (bs.getD i []))(hb:b≤8)(hk:k<n)(ha:Shf a b):
  (za4 (Ls.getD k []) k n (lC Ls bs n k a b)).length=b∧Shf (fun j=>a (zax (Ls.getD k []) k n (lC Ls bs n k a b) ds j)) b ∧
  (zd6 (Ls.getD k []) k n (lC Ls bs n k a b) ds).map (fun p=>zcz (Ls.getD k []) (k:Int).toNat (n:Int).toNat ((lC Ls bs n k a b).getD p []))=lC Ls bs n (k+1) (fun j=>a (zax (Ls.getD k []) k n (lC Ls bs n k a b) ds j)) b:=by
 have hall:za4 (Ls.getD k []) k n (lC Ls bs n k a b)=List.range b:=by
  have:=zw8 (sv:=Ls.getD k []) (hop:=k) (hops:=n) (L:=lC Ls bs n k a b) (fun j hj=>by
   rw [zhr] at hj
   rw [z2s hj]
   have h:=hbs _ (ha.1 j hj)
   exact zx2 hn h1 h4 h.1 h.2 (by have:=ha.1 j hj;omega) hk)
  rwa [zhr] at this
 have hl:(za4 (Ls.getD k []) k n (lC Ls bs n k a b)).length=b:=by rw [hall];simp
 have hpl:∀ j,j<b→zax (Ls.getD k []) k n (lC Ls bs n k a b) ds j<b:=fun j hj=>by
  have:=zfm (sv:=Ls.getD k []) (hop:=k) (hops:=n) (L:=lC Ls bs n k a b) (ds:=ds) (i:=j) (by rw [hl];exact hj)
  rw [hall] at this
  simpa using this
 refine ⟨hl,⟨fun j hj=>ha.1 _ (hpl j hj),fun i j hi hj e=>?_⟩,?_⟩
 ·exact zs4 (by rw [hl];exact hi) (by rw [hl];exact hj) (ha.2 _ _ (hpl i hi) (hpl j hj) e)
 ·have hf:(zd6 (Ls.getD k []) k n (lC Ls bs n k a b) ds).length=b:=by rw [zxb,hl]
  apply List.ext_getElem
  ·rw [List.length_map,hf,zhr]
  ·intro j hj1 hj2
   rw [zhr] at hj2
   have e1:=z0e (sv:=Ls.getD k []) (hop:=k) (hops:=n) (L:=lC Ls bs n k a b) (ds:=ds) (i:=j) (by rw [hl];exact hj2)
   rw [List.getD,List.getElem?_eq_getElem (by rw [hf];exact hj2),Option.getD_some] at e1
   rw [List.getElem_map,e1,z2s (hpl j hj2)]
   simp [lC,blC]
end
section
open Go.RowKit
def Bod (w:World)(B:Option Addr)(bs:List (List Int)): Prop:=∀ i,i<bs.length→(bs.getD i []).length=78∧Byt (bs.getD i [])∧∃ g o,B=some ⟨g,o,none⟩∧g<w.heap.size∧w.rangeAt g (o+i * 78) (nums .u8 (bs.getD i []))
theorem Bod.below {w w':World}{B:Option Addr}{bs:List (List Int)}(h:Bod w B bs)(hb:Below w.heap.size w w'): Bod w' B bs:=fun i hi=>by
 obtain ⟨h1,h2,g,o,e,hl,hr⟩:=h i hi
 exact ⟨h1,h2,g,o,e,Nat.lt_of_lt_of_le hl hb.size,fun j v hv=>(hb.cell (p:=⟨g,o+i * 78+j,none⟩) hl).trans (hr j v hv)⟩
theorem zl4:(Lead.prog.info? 42).map (·.size)=some 78:=by kernel_rfl
theorem z0s {w:World}{o:Obj}{xs:List Int}(hx:xs.length=78)(ht:(w.alloc o).there w.heap.size 0 78):
  Rd ((w.alloc o).setCells w.heap.size 0 (nums .u8 xs)) (some ⟨w.heap.size,0,none⟩) (nums .u8 xs)∧Below w.heap.size w ((w.alloc o).setCells w.heap.size 0 (nums .u8 xs))∧((w.alloc o).setCells w.heap.size 0 (nums .u8 xs)).heap.size=w.heap.size+1:=by
 have hl:(nums .u8 xs).length=78:=by simp [nums,hx]
 have hr:=World.rangeAt_setCells_same (w.alloc o) w.heap.size 0 (nums .u8 xs) (by rw [hl];exact ht)
 refine ⟨.inr ⟨w.heap.size,0,rfl,by rw [zaq,World.size_alloc];omega,fun i v hv=>hr i v hv⟩,zas (Nat.le_refl _) _ _ (bal brf _),by rw [zaq,World.size_alloc]⟩
theorem z1u {ops:Array Oper}{rest:List Oper}{op:Oper}{a:Act}{W:World}{o:Obj}{Q:Exit→Act→World→Prop}(hgd:op.guard=none)(x y:Operand)(ho:op.op=.store 42 x y)(xs:List Int)(hl:xs.length=78)(hx:a.eval x=.pointer (some ⟨W.heap.size,0,none⟩))(hy:a.eval y=.agg (nums .u8 xs).toArray)(ht:(W.alloc o).there W.heap.size 0 78)(h:∀ W5:World,Rd W5 (some ⟨W.heap.size,0,none⟩) (nums .u8 xs)→Below W.heap.size W W5→W5.heap.size=W.heap.size+1→wpList Lead.prog ops Q rest (a.put op.dst undef) W5): wpList Lead.prog ops Q (op :: rest) a (W.alloc o):=by
 have hs:(nums .u8 xs).toArray.size=78:=by simp [nums,hl]
 obtain ⟨h1,h2,h3⟩:=z0s hl ht
 refine wpList_store_mid hgd 42 x y ho W.heap.size 0 (nums .u8 xs).toArray hx hy (by rw [hs];exact ht) (by rw [hs];exact zl4) (all_oneCell_toArray fun v hv=>?_) ?_
 ·obtain ⟨z,_,rfl⟩:=List.mem_map.1 hv
  rfl
 ·rw [List.toList_toArray]
  exact h _ h1 h2 h3
def zdg (w:World)(us:List Value)(L:List (List Int)): Prop:=us.length=L.length∧∀ i,i<L.length→∃ g o c,us.getD i undef=.slice (some ⟨g,o,none⟩) (L.getD i []).length c∧(L.getD i []).length≤c∧(∃ (cs:Array Value) (fr:Nat×Nat),w.heap[g]?=some (.cells cs 5 fr))∧Rd w (some ⟨g,o,none⟩) (nums .u8 (L.getD i []))
theorem zdg.nil {w:World}: zdg w [] []:=⟨rfl,fun i hi=>by simp at hi⟩
theorem zdg.o {w:World}{us:List Value}{L:List (List Int)}(h:zdg w us L): zf8 w us L:=⟨h.1,fun i hi=>by
 obtain ⟨g,o,c,e,h1,_,hr⟩:=h.2 i hi
 exact ⟨_,c,e,h1,hr⟩⟩
theorem zdg.below {w w':World}{us:List Value}{L:List (List Int)}(h:zdg w us L)(hb:Below w.heap.size w w'): zdg w' us L:=⟨h.1,fun i hi=>by
 obtain ⟨g,o,c,e,h1,⟨cs,fr,h2⟩,hr⟩:=h.2 i hi
 exact ⟨g,o,c,e,h1,⟨cs,fr,by rw [hb.block g (Array.getElem?_eq_some_iff.1 h2).1];exact h2⟩,hr.below hb⟩⟩
theorem zdg.keep {w w':World}{row:Option Nat}{us:List Value}{L:List (List Int)}(h:zdg w us L)(hg:w.grownBy w' row)(hr:znn w row 5): zdg w' us L:=⟨h.1,fun i hi=>by
 obtain ⟨g,o,c,e,h1,⟨cs,fr,h2⟩,hrd⟩:=h.2 i hi
 have hk:w'.heap[g]?=w.heap[g]?:=hg.block g (Array.getElem?_eq_some_iff.1 h2).1 fun e'=>by
  obtain ⟨cs',t',m',h3,h4⟩:=hr g e'.symm
  rw [h2] at h3
  injection h3 with h3
  injection h3 with _ ht
  exact h4 ht.symm
 refine ⟨g,o,c,e,h1,⟨cs,fr,hk.trans h2⟩,?_⟩
 rcases hrd with h5|⟨b,off,e5,hl,hc⟩
 ·exact .inl h5
 ·cases e5
  exact .inr ⟨g,o,rfl,Nat.lt_of_lt_of_le hl hg.size,fun i v hv=>(World.cell?_of_block (a:=⟨g,o+i,none⟩) hk).trans (hc i v hv)⟩⟩
theorem zdg.snoc {w:World}{us:List Value}{L:List (List Int)}{g o c n:Nat}{xs:List Int}(h:zdg w us L)(hn:xs.length=n)(hc:n≤c)(ht:∃ (cs:Array Value) (fr:Nat×Nat),w.heap[g]?=some (.cells cs 5 fr))(hr:Rd w (some ⟨g,o,none⟩) (nums .u8 xs)): zdg w (us++[.slice (some ⟨g,o,none⟩) n c]) (L++[xs]):=by
 subst hn
 refine ⟨by simp [h.1],fun i hi=>?_⟩
 have hl:=h.1
 by_cases e:i<L.length
 ·have:=h.2 i e
  simpa [List.getD,List.getElem?_append_left (show i<us.length by omega),List.getElem?_append_left e] using this
 ·have e2:i=L.length:=by simp at hi;omega
  subst e2
  have h1:(us++[Value.slice (some ⟨g,o,none⟩) xs.length c]).getD L.length undef=.slice (some ⟨g,o,none⟩) xs.length c:=by rw [← hl];simp [List.getD]
  have h2:(L++[xs]).getD L.length []=xs:=by simp [List.getD]
  rw [h1,h2]
  exact ⟨g,o,c,rfl,hc,ht,hr⟩
theorem Rd.tail {w:World}{E:Option Addr}{es:List Int}{r t:Nat}(h:Rd w E (nums .i64 es))(hl:es.length=r)(hrt:r≤t)(d:Nat): Rd w (if t=d then E else E.map (·.add d)) (nums .i64 (es.drop d)):=by
 by_cases e:t=d
 ·exact .inl (by rw [List.drop_eq_nil_of_le (by omega)];rfl)
 ·rw [if_neg e]
  rcases h with h|⟨b,o,rfl,hlt,hc⟩
  ·left
   have:es=[]:=by simpa [nums] using h
   simp [nums,this]
  ·refine .inr ⟨b,o+d,by rw [Option.map_some,zb6],hlt,fun j v hv=>?_⟩
   rw [nums,List.map_drop,List.getElem?_drop] at hv
   rw [Nat.add_assoc]
   exact hc (d+j) v hv
def metB (a:Nat→Nat)(j t:Nat): Bool:=(List.range j).any fun i=>a i == t
def metL (a:Nat→Nat)(b j:Nat): List Value:=(List.range b).map fun t=>.bool (metB a j t)
theorem zwl (a:Nat→Nat)(b:Nat): metL a b 0=List.replicate b (.bool false):=by
 apply List.ext_getElem
 ·simp [metL]
 ·intro i h1 h2
  simp [metL,metB]
theorem z2k {a:Nat→Nat}{b j t:Nat}(h:t<b): (metL a b j)[t]?=some (.bool (metB a j t)):=by simp [metL,h]
theorem z2l {a:Nat→Nat}{b j:Nat}(ha:Shf a b)(hj:j<b): metB a j (a j)=false:=by
 unfold metB
 rw [List.any_eq_false]
 intro i hi
 have hi:i<j:=by simpa using hi
 simp only [beq_iff_eq]
 intro e
 have:=ha.2 i j (by omega) hj e
 omega
theorem zzr {a:Nat→Nat}{b j:Nat}: (metL a b j).set (a j) (.bool true)=metL a b (j+1):=by
 apply List.ext_getElem
 ·simp [metL]
 ·intro t h1 h2
  rw [List.getElem_set]
  simp only [metL,List.getElem_map,List.getElem_range]
  by_cases e:a j=t
  ·subst e
   simp [metB,List.range_succ]
  ·rw [if_neg e]
   simp [metB,List.range_succ,e]
set_option maxHeartbeats 2000000 in
theorem zk4 (A B E:Option Addr)(n c b d r t:Nat)(vs:List Value)(Ls bs:List (List Int))(ds:List Int)(w:World)(hn:Ls.length=n)(hnc:n≤c)(hcm:c≤maxLen)(hx:Rd w A vs)(hp:zdh w vs Ls)(hB:∀ xs∈Ls,Byt xs)(hb:bs.length=b)(hbd:b≤d)(hdm:d≤maxLen)(hbo:Bod w B bs)(hr:ds.length=r)(hrt:r≤t)(htm:t≤maxLen)(hz:Rd w E (nums .i64 ds))(hK:za2 w):
  Calls Lead.prog 6 #[.slice A n c,.slice B b d,.slice E r t] w (Yes w):=by
 obtain ⟨i1,hi1,hz1,hz2,hz3⟩:=info_parts zfr
 obtain ⟨i2,hi2,hy1,hy2,hy3⟩:=info_parts zkt
 obtain ⟨i3,hi3,hx1,hx2,hx3⟩:=info_parts zr3
 obtain ⟨i4,hi4,hu1,hu2,hu3⟩:=info_parts zom
 have hlt:=za5 (hK 0 (by omega))
 have CL:=zzu w hK
 unfold maxLen at hcm hdm htm
 have HX:=Lib.hid hx
 have HP:=Lib.hid hp
 have HN:=Lib.hid hn
 have HBL:=Lib.hid hb
 have HBO:=Lib.hid hbo
 have HR:=Lib.hid hr
 have HZ:=Lib.hid hz
 have HBY:=Lib.hid hB
 have HK:=Lib.hid hK
 clear hx hp hn hb hbo hr hz hB hK
 go_enter Lead.func6,Tryd.ntmps6
 go_upto_region 3 with ((with_reducible refine CL.mono ?_);rintro e w1 ⟨rfl,hb1⟩)
 clear CL
 by_cases h1:n<1
 ·have q1:(n:Int)<1:=by omega
  go_wp2_with fail
  go_ret
  exact ⟨rfl,hb1⟩
 have q1:¬ (n:Int)<1:=by omega
 by_cases h4:4<n
 ·have q2:(4:Int)<n:=by omega
  go_wp2_with fail
  go_ret
  exact ⟨rfl,hb1⟩
 have q2:¬ (4:Int)<n:=by omega
 have CF:Calls Lead.prog 9 #[.slice A n c,.int .i64 4] w1 (z49 w1 Ls 4):=z24 A n c 4 vs Ls w1 (by rw [← HN.out];exact HP.out.1) (by unfold maxLen;omega) (by omega) (HX.out.below hb1) (HP.out.below hb1)
 by_cases hf:fewB Ls 4=true
 case neg =>
  have hf':fewB Ls 4=false:=by simpa using hf
  go_wp2_with ((with_reducible refine CF.mono ?_);rintro e w2 ⟨b,rfl,hb,rfl⟩;rw [hf'] at hb;subst hb)
  go_ret
  exact ⟨rfl,hb1⟩
 by_cases h8:8<b
 ·have q3:(8:Int)<b:=by omega
  go_wp2_with ((with_reducible refine CF.mono ?_);rintro e w2 ⟨b,rfl,hb,rfl⟩;rw [hf] at hb;subst hb)
  go_ret
  exact ⟨rfl,hb1⟩
 have q3:¬ (8:Int)<b:=by omega
 by_cases h100:100<r
 ·have q4:(100:Int)<r:=by omega
  go_wp2_with ((with_reducible refine CF.mono ?_);rintro e w2 ⟨b,rfl,hb,rfl⟩;rw [hf] at hb;subst hb)
  go_ret
  exact ⟨rfl,hb1⟩
 have q4:¬ (100:Int)<r:=by omega
 have HFEW:=Lib.hid (show fewP Ls 4 from of_decide_eq_true hf)
 go_upto_region 5 with ((with_reducible refine CF.mono ?_);rintro e w2 ⟨b,rfl,hb,rfl⟩;rw [hf] at hb;subst hb)
 clear CF hf
 have HB1:=Lib.hid hb1
 clear hb1
 go_wp2_with fail
 go_loopw [8,58] (fun v i wr=>∃ k:Nat,k≤b∧i=.int .i64 k∧Hid (∃ us,wr.ownsRow w.heap.size 33 1 v k us∧zdg wr us ((List.range k).map fun i=>blC Ls bs n 0 i))∧Hid (Below w.heap.size w wr)) (fun _ i _=>b - (intOf i).toNat)
 case atStart=>exact ⟨0,Nat.zero_le _,rfl,Lib.hid ⟨[],⟨rfl,.inl ⟨rfl,rfl⟩⟩,zdg.nil⟩,HB1⟩
 case round =>
  rename World=>W
  obtain ⟨k,hk,rfl,HO,HB⟩:=hrel
  obtain ⟨us,hown,hpar⟩:=HO.out
  obtain ⟨A8,c8,rfl⟩:=zdb hown
  have HOWN:=Lib.hid hown
  have HPAR:=Lib.hid hpar
  clear hown hpar HO
  by_cases hkb:k<b
  ·have r1:(k:Int)<b:=by omega
   have r0:(0:Int)≤k:=by omega
   obtain ⟨l78,byt,g,o,rfl,hlg,hra⟩:=HBO.out.below HB.out k (by rw [HBL.out];exact hkb)
   go_upto_region 9 with fail
   iterate 7 go_step
   obtain ⟨xs,hxs⟩:∃ xs,xs=bs.getD k []:=⟨_,rfl⟩
   rw [← hxs] at l78 byt hra
   have HXS:=Lib.hid hxs
   have BYT:=Lib.hid byt
   clear hxs byt
   refine wpList_load_mid rfl 42 _ (by rfl) g (o+k * 78) (by rfl) (nums .u8 xs) _ hra (Lead.of Tryd.underlying42) rfl (by rw [show (nums .u8 xs).length=78 by simp [nums,l78]];exact zl4) ?_
   iterate 6 go_step
   refine z1u rfl _ _ rfl xs l78 rfl rfl (zkn W Tryd.zeroCells42 42 78 (by kernel_rfl)) ?_
   intro W5 rb5 hb5 sz5
   have RB5:=Lib.hid rb5
   have HB5:=Lib.hid hb5
   have hown5:=zd0 HOWN.out hb5
   have HOWN5:=Lib.hid hown5
   have hsW:=HB.out.size
   clear rb5 hra hown5 hb5 hlg l78
   go_wp2_with fail
   go_loopw [11,64] (fun v i wr=>∃ j:Nat,j≤n∧i=.int .i64 j∧Hid (∃ ns,wr.ownsRow W5.heap.size 33 1 v j ns∧zbj wr W5.heap.size ns ((List.range j).map (ncL k)))∧Hid (Below W5.heap.size W5 wr)) (fun _ i _=>n - (intOf i).toNat)
   case atStart=>exact ⟨0,Nat.zero_le _,rfl,Lib.hid ⟨[],⟨rfl,.inl ⟨rfl,rfl⟩⟩,zbj.nil⟩,Lib.hid brf⟩
   case round =>
    rename World=>V
    obtain ⟨j,hj,rfl,HN1,HV⟩:=hrel
    obtain ⟨ns,hown,hpar⟩:=HN1.out
    obtain ⟨A11,c11,rfl⟩:=zdb hown
    have HOV:=Lib.hid hown
    have HPV:=Lib.hid hpar
    have hsV:=HV.out.size
    clear hown hpar HN1
    by_cases hjn:j<n
    ·have r2:(j:Int)<n:=by omega
     go_upto_region 15 with (at_make;refine wpList_make_full _ rfl _ _ 33 rfl V.heap.size 5 i2 (.int .u8 0) 1 (Lead.of Tryd.underlying33) hi2 hy1 hy2 .i64 .i64 _ _ 16 rfl rfl (by omega) (by omega) (by rw [hy3];omega) (by unfold maxLen;omega) (Nat.le_refl _) ?_;intro w6 hown6 hgrow6;obtain ⟨hrow6,hb6,hl6⟩:=zce rfl hown6 hgrow6;obtain ⟨z0,f0⟩:=hrow6 0 _ rfl;obtain ⟨z1,f1⟩:=hrow6 1 _ rfl)
     rw [z5x] at hown6
     have HS6:=Lib.hid (zob (zob hown6 (.int .u8 (k:Int)) (show 0<16 by omega)) (.int .u8 (j:Int)) (show 1<16 by omega))
     clear hown6 hgrow6 hrow6
     go_upto_region 17 with fail
     have hb7:Below V.heap.size V ((w6.setCell ⟨V.heap.size,0,none⟩ (.int .u8 (k:Int))).setCell ⟨V.heap.size,1,none⟩ (.int .u8 (j:Int))):=(hb6.setCell (p:=⟨V.heap.size,0,none⟩) (Nat.le_refl _) _).setCell (p:=⟨V.heap.size,1,none⟩) (Nat.le_refl _) _
     have hs7:V.heap.size≤((w6.setCell ⟨V.heap.size,0,none⟩ (.int .u8 (k:Int))).setCell ⟨V.heap.size,1,none⟩ (.int .u8 (j:Int))).heap.size:=hb7.size
     have HS7:=Lib.hid (zv5 HS6.out hsV)
     clear HS6 z0 z1 f0 f1 hb6 hl6
     generalize (w6.setCell ⟨V.heap.size,0,none⟩ (.int .u8 (k:Int))).setCell ⟨V.heap.size,1,none⟩ (.int .u8 (j:Int))=w7 at *
     have hown7:=zd0 HOV.out hb7
     go_wp2_with (at_builtin;refine ziy rfl _ _ 22 rfl W5.heap.size 33 i1 (.slice none 0 0) 24 (Lead.of Tryd.underlying22) hi1 hz1 hz2 hz3 rfl _ _ _ rfl hown7 _ _ rfl rfl (by unfold maxLen;omega) (by omega) (by omega) ?_;intro v8 w8 hown8 hgrow8)
     refine ⟨⟨j+1,by omega,by congr 1,Lib.hid ⟨_,hown8,?_⟩,Lib.hid (zit hown7 hgrow8 (bgo HV.out hb7) (by omega) (Nat.le_refl _))⟩,by show n - ((j:Int)+1).toNat<n - (j:Int).toNat;omega⟩
     have hen:=zki (e:=5) (hown7.alloc (.cells #[.slice (some ⟨V.heap.size,0,none⟩) 16 16] 33)) (by decide)
     have hp7:zbj w7 W5.heap.size ns ((List.range j).map (ncL k)):=⟨HPV.out.1,fun i hi=>zd0 (HPV.out.2 i hi) hb7⟩
     rw [List.range_succ,List.map_append]
     refine ((hp7.alloc _).keep hgrow8 hen).snoc ?_
     have h8:=zrt (HS7.out.alloc (.cells #[.slice (some ⟨V.heap.size,0,none⟩) 16 16] 33)) hgrow8 hen
     rw [zwj]
     exact h8
    ·have hjn':n=j:=by omega
     subst hjn'
     have hbV:=bgo HB.out (bgo HB5.out HV.out)
     have hkb8:k<256:=by omega
     have hbk:=HBO.out k (by rw [HBL.out];exact hkb)
     rw [← HXS.out] at hbk
     have hmw:zm4 Ls (zkl k n) xs:=by
      have:=zen (i:=k) (Ls:=Ls) (bs:=bs) HN.out (by omega) (by omega) (by rw [← HXS.out];exact hbk.1)
      rwa [← HXS.out] at this
     have CW:=zq2 A A11 (some ⟨W.heap.size,0,none⟩) n c c11 78 vs ns Ls (zkl k n) xs V HN.out hmw (fun i hi=>by
      have:=HFEW.out.1 (Ls.getD i []) (by rw [List.getD,List.getElem?_eq_getElem (by rw [HN.out];exact hi)];exact List.getElem_mem _)
      omega) (by omega) (HX.out.below hbV) (HP.out.below hbV) (Rd.of_own HOV.out) HPV.out.parts (RB5.out.below HV.out) (HK.out.below hbV hlt)
     have hbl:zc1 Ls (zkl k n) xs=blC Ls bs n 0 k:=by rw [blC,← HXS.out]
     unfold zyl at CW
     rw [hbl] at CW
     obtain ⟨lw,hlw⟩:∃ lw,lw=(blC Ls bs n 0 k).length:=⟨_,rfl⟩
     rw [← hlw] at CW
     have HLW:=Lib.hid hlw
     have HBV:=Lib.hid hbV
     clear hlw hbl hmw hbk hbV
     go_upto_region 22 with ((with_reducible refine CW.mono ?_);rintro e w9 ⟨g9,o9,c9,rfl,hg9,ht9,l9,r9,hb9⟩)
     have hbW9:Below W.heap.size W w9:=bgo (HB5.out.trans (HV.out.mono HB5.out.size)) hb9
     have hown9:=zd0 HOWN.out hbW9
     have hs9:=hb9.size
     go_wp2_with (at_builtin;refine ziy rfl _ _ 22 rfl w.heap.size 33 i1 (.slice none 0 0) 24 (Lead.of Tryd.underlying22) hi1 hz1 hz2 hz3 rfl _ _ _ rfl hown9 _ _ rfl rfl (by unfold maxLen;omega) (by omega) (by omega) ?_;intro v10 w10 hown10 hgrow10)
     have hen:=zki (e:=5) (hown9.alloc (.cells #[.slice (some ⟨g9,o9,none⟩) lw c9] 33)) (by decide)
     refine ⟨⟨k+1,by omega,by congr 1,Lib.hid ⟨_,hown10,?_⟩,Lib.hid (zit hown9 hgrow10 (bgo HB.out hbW9) (by omega) (Nat.le_refl _))⟩,by show b - ((k:Int)+1).toNat<b - (k:Int).toNat;omega⟩
     rw [List.range_succ,List.map_append]
     exact ((((HPAR.out.below hbW9).snoc HLW.out.symm l9 ht9 r9).below (bal brf _)).keep hgrow10 hen)
  ·have hkb':b=k:=by omega
   subst hkb'
   go_wp2_with (at_make;refine wpList_make_full _ rfl _ _ 23 rfl W.heap.size 3 i3 (.int .i64 0) 1 (Lead.of Tryd.underlying23) hi3 hx1 hx2 .i64 .i64 _ _ b rfl rfl (by omega) (by omega) (by rw [hx3];omega) (by unfold maxLen;omega) (Nat.le_refl _) ?_;intro w2 hown2 hgrow2;obtain ⟨hrow2,hb2,hl2⟩:=zce rfl hown2 hgrow2;clear hown2 hgrow2)
   have HR2:=Lib.hid hrow2
   clear hrow2
   rename World=>w2
   go_loopw [100] (fun i wr=>∃ j:Nat,j≤b∧i=.int .i64 j∧Hid (VRow wr W.heap.size (ze9 (.int .i64 0) (fun i=>.int .i64 (i:Nat)) b j))∧Hid (Below W.heap.size W wr)∧W.heap.size<wr.heap.size) (fun i _=>b - (intOf i).toNat)
   case atStart=>exact ⟨0,Nat.zero_le _,rfl,Lib.hid (by rw [zd8];exact HR2.out),Lib.hid hb2,hl2⟩
   case round =>
    rename World=>V
    obtain ⟨j,hj,rfl,HRW,HV,hlV⟩:=hrel
    by_cases hjb:j<b
    ·have r1:(j:Int)<b:=by omega
     have r0:(0:Int)≤j:=by omega
     obtain ⟨cv,fv⟩:=HRW.out j _ (zhz _ _ hjb)
     go_wp2_with fail
     refine ⟨⟨j+1,by omega,by congr 1,Lib.hid ?_,Lib.hid (HV.out.setCell (p:=⟨W.heap.size,j,none⟩) (Nat.le_refl _) _),by rw [zah];exact hlV⟩,by show b - ((j:Int)+1).toNat<b - (j:Int).toNat;omega⟩
     rw [← ze8 _ (fun i=>Value.int .i64 (i:Nat)) hjb]
     exact HRW.out.set _
    ·have hjb':b=j:=by omega
     subst hjb'
     go_wp2_with fail
     have hbV:=bgo HB.out HV.out
     have hat:Rd V (some ⟨W.heap.size,0,none⟩) ((List.range b).map fun i=>Value.int .i64 ((id i:Nat):Int)):=by
      have:=HRW.out.rd hlV
      rw [zh0] at this
      exact this
     have hlen0:us.length=b:=by have:=HPAR.out.1;simpa using this
     go_loopw [2,8,16,110] (fun v2 v8 v16 i wr=>∃ (k:Nat) (E2 X Y:Option Addr) (r2 t2 x y:Nat),k≤n∧i=.int .i64 k∧v2=.slice E2 r2 t2∧v8=.slice X b x∧v16=.slice Y b y∧r2≤100∧r2≤t2∧t2≤t∧b≤x∧Hid (∃ (a:Nat→Nat) (es:List Int) (vo:List Value),Shf a b∧Rd wr Y ((List.range b).map fun i=>Value.int .i64 ((a i:Nat):Int))∧Rd wr X vo∧zf8 wr vo (lC Ls bs n k a b)∧Rd wr E2 (nums .i64 es)∧es.length=r2)∧Hid (Below w.heap.size w wr)) (fun _ _ _ i _=>n - (intOf i).toNat)
     case atStart=>exact ⟨0,E,A8,some ⟨W.heap.size,0,none⟩,r,t,c8,b,Nat.zero_le _,rfl,rfl,rfl,rfl,by omega,hrt,Nat.le_refl _,(zp9 HOWN.out).1,Lib.hid ⟨id,ds,us,z3n b,hat,(Rd.of_own HOWN.out).below HV.out,(HPAR.out.o).below HV.out,HZ.out.below hbV,HR.out⟩,Lib.hid hbV⟩
     case round =>
      rename World=>U
      obtain ⟨k,E2,X,Y,r2,t2,x,y,hk,rfl,rfl,rfl,rfl,hr2,hrt2,htt,hbx,HI,HU⟩:=hrel
      obtain ⟨a,es,vo,ha,rY,rX,pX,rE,le⟩:=HI.out
      have HRY:=Lib.hid rY
      have HPX:=Lib.hid pX
      have HA:=Lib.hid ha
      have HRX:=Lib.hid rX
      by_cases hkn:k<n
      ·have q5:(k:Int)<n:=by omega
       obtain ⟨bv,ov,A',c',rfl,hbv,cv,hcv,hrv⟩:=zmz (HX.out.below HU.out) (HP.out.below HU.out) HN.out hkn
       have hbs:∀ i,i<b→(bs.getD i []).length=78∧Byt (bs.getD i []):=fun i hi=>by
        have:=HBO.out i (by rw [HBL.out];exact hi)
        exact ⟨this.1,this.2.1⟩
       have hsrv:=HFEW.out.1 (Ls.getD k []) (by rw [List.getD,List.getElem?_eq_getElem (by rw [HN.out];exact hkn)];exact List.getElem_mem _)
       have hsb:=HBY.out (Ls.getD k []) (by rw [List.getD,List.getElem?_eq_getElem (by rw [HN.out];exact hkn)];exact List.getElem_mem _)
       have CM:=zqd A' X E2 _ c' b x r2 t2 (k:Int) (n:Int) (Ls.getD k []) es vo (lC Ls bs n k a b) U rfl (by omega) hcv zhr ⟨by omega,by omega,by omega,by omega,by omega⟩ hbx le (by omega) hrv hsb rX pX (fun xs hxs=>by
        obtain ⟨j,hj,rfl⟩:=List.mem_map.1 hxs
        have hj:j<b:=by simpa using hj
        have:=ha.1 j hj
        exact zx3 (hbs _ this).2 (by omega) (by omega) k) (fun xs hxs=>by
        obtain ⟨j,hj,rfl⟩:=List.mem_map.1 hxs
        have hj:j<b:=by simpa using hj
        have:=ha.1 j hj
        have:=z3a HN.out (by omega) (by omega) (hbs _ this).1 (hbs _ this).2 (by omega) (Nat.le_of_lt hkn)
        omega) rE (HK.out.below HU.out hlt)
       have hro:=z15 (ds:=es) HN.out (by omega) (by omega) hbs (by omega) hkn ha
       obtain ⟨hgl,hsh,hmap⟩:=hro
       obtain ⟨ud,hud⟩:∃ ud,ud=min (b - 1) es.length:=⟨_,rfl⟩
       have hur:ud≤r2:=by omega
       unfold z48 at CM
       rw [hgl,← hud,hmap] at CM
       have HSH:=Lib.hid hsh
       have HGL:=Lib.hid hgl
       have LE:=Lib.hid le
       have RE:=Lib.hid rE
       obtain ⟨ls,hls⟩:∃ ls,ls=(Ls.getD k []).length:=⟨_,rfl⟩
       rw [← hls] at CM cv
       have q6:¬ (r2:Int)<ud:=by omega
       clear hls hud hgl hsh hmap hsb hrv rX pX rE ha rY hcv
       go_upto_region 34 with ((with_reducible refine CM.mono ?_);rintro e w5 ⟨X2,Y2,Z2,x2,y2,z2,vo2,vk2,rfl,l1,l2,l3,rX2,pX2,rY2,rZ2,pZ2,hb5⟩)
       have hbo:Below w5.heap.size w5 (w5.alloc (.cells #[.slice X2 b x2,.slice Y2 b y2,.slice Z2 b z2] 25)):=bal brf _
       have e0:=zwi w5 (.slice X2 b x2) (.slice Y2 b y2) (.slice Z2 b z2) 25
       have e1:=zwh w5 (.slice X2 b x2) (.slice Y2 b y2) (.slice Z2 b z2) 25
       have HX2:=Lib.hid (rX2.below hbo)
       have PX2:=Lib.hid (pX2.below hbo)
       have HY2:=Lib.hid (rY2.below hbo)
       have HB6:=Lib.hid (bgo hb5 hbo)
       clear rX2 pX2 rY2 rZ2 pZ2 hb5 hbo CM
       generalize w5.alloc (.cells #[.slice X2 b x2,.slice Y2 b y2,.slice Z2 b z2] 25)=w6 at *
       generalize w5.heap.size=G at *
       go_wp2_with fail
       go_loopw [23,152] (fun v i wr=>∃ j:Nat,j≤b∧i=.int .i64 j∧Hid (wr.ownsRow w6.heap.size 3 1 v j ((List.range j).map fun i=>Value.int .i64 ((a (zax (Ls.getD k []) k n (lC Ls bs n k a b) es i):Nat):Int)))∧Hid (Below w6.heap.size w6 wr)) (fun _ i _=>b - (intOf i).toNat)
       case atStart=>exact ⟨0,Nat.zero_le _,rfl,Lib.hid ⟨rfl,.inl ⟨rfl,rfl⟩⟩,Lib.hid brf⟩
       case round =>
        rename World=>V5
        obtain ⟨j,hj,rfl,HO5,HV5⟩:=hrel
        obtain ⟨A23,c23,rfl⟩:=zdb HO5.out
        have d0:=(HV5.out.cell (p:=⟨G,0,none⟩) (za5 e0)).trans e0
        have d1:=(HV5.out.cell (p:=⟨G,1,none⟩) (za5 e1)).trans e1
        clear e0 e1
        by_cases hjb2:j<b
        ·have q7:(j:Int)<b:=by omega
         have hpm:=(zjp _ _ (zfm (sv:=Ls.getD k []) (hop:=(k:Int)) (hops:=(n:Int)) (L:=lC Ls bs n k a b) (ds:=es) (i:=j) (by rw [HGL.out];exact hjb2))).1
         rw [zhr] at hpm
         have hfa:=z0f (sv:=Ls.getD k []) (hop:=(k:Int)) (hops:=(n:Int)) (L:=lC Ls bs n k a b) (ds:=es) (i:=j) (by rw [HGL.out];exact hjb2)
         obtain ⟨u,hu⟩:∃ u,u=zax (Ls.getD k []) k n (lC Ls bs n k a b) es j:=⟨_,rfl⟩
         rw [← hu] at hpm hfa
         have hfl:(zor (Ls.getD k []) k n (lC Ls bs n k a b) es).length=b:=by rw [zxc,HGL.out]
         obtain ⟨by_,oy,rfl,_,hcy⟩:=(HY2.out.below HV5.out).at_ (by
          show 0<(nums .i64 (zor (Ls.getD k []) k n (lC Ls bs n k a b) es)).length
          rw [nums,List.length_map,hfl]
          omega)
         have cy:V5.cell? ⟨by_,oy+j,none⟩=some (.int .i64 ((zor (Ls.getD k []) k n (lC Ls bs n k a b) es).getD j 0)):=hcy j _ (za9 (xs:=zor (Ls.getD k []) k n (lC Ls bs n k a b) es) (by rw [hfl];exact hjb2))
         rw [hfa] at cy
         obtain ⟨ba,oa,rfl,_,hca⟩:=(HRY.out.below (bgo HB6.out HV5.out)).at_ (by simp;omega)
         have ca:=hca u (.int .i64 ((a u:Nat):Int)) (by simp [hpm])
         have q8:¬ (u:Int)<0:=by omega
         have q9:¬ (b:Int)≤u:=by omega
         have q10:(u:Int)<b:=by omega
         have hau:=HA.out.1 u hpm
         have HUU:=Lib.hid hu
         have hsz5:=HV5.out.size
         obtain ⟨au,hau2⟩:∃ au,au=a u:=⟨_,rfl⟩
         rw [← hau2] at ca hau
         have HAU:=Lib.hid hau2
         clear hcy hca hfa hu hau2 hfl
         go_wp2_with (at_builtin;refine ziy rfl _ _ 23 rfl w6.heap.size 3 i3 (.int .i64 0) 8 (Lead.of Tryd.underlying23) hi3 hx1 hx2 hx3 rfl _ _ _ rfl HO5.out _ _ rfl rfl (by unfold maxLen;omega) (by omega) (by omega) ?_;intro v9 w9 hown9 hgrow9)
         refine ⟨⟨_,_,_,_,⟨j+1,by omega,by congr 1,Lib.hid ?_,Lib.hid (zit HO5.out hgrow9 HV5.out (by omega) (Nat.le_refl _))⟩,rfl,rfl,rfl,rfl⟩,by show b - ((j:Int)+1).toNat<b - (j:Int).toNat;omega⟩
         rw [List.range_succ,List.map_append,List.map_cons,List.map_nil]
         show w9.ownsRow w6.heap.size 3 1 v9 (j+1) (_++[Value.int .i64 ((a (zax (Ls.getD k []) k n (lC Ls bs n k a b) es j):Nat):Int)])
         rw [← HUU.out,← HAU.out]
         exact hown9
        ·have hjb3:b=j:=by omega
         subst hjb3
         have hWU:=bgo HU.out (bgo HB6.out HV5.out)
         have rE5:=(RE.out.below (bgo HB6.out HV5.out)).tail LE.out hrt2 ud
         have HRE:=Lib.hid rE5
         have q11:(ud:Int)≤r2:=by omega
         clear rE5
         go_wp2_with fail
         refine ⟨⟨k+1,_,X2,A23,r2 - ud,t2 - ud,x2,c23,by omega,by congr 1,rfl,rfl,rfl,by omega,by omega,by omega,l1,Lib.hid ⟨_,_,vo2,HSH.out,Rd.of_own HO5.out,HX2.out.below HV5.out,PX2.out.below HV5.out,HRE.out,by rw [List.length_drop,LE.out]⟩,Lib.hid hWU⟩,by show n - ((k:Int)+1).toNat<n - (k:Int).toNat;omega⟩
      ·have hkn':n=k:=by omega
       subst hkn'
       go_wp2_with (at_make;refine wpList_make_full _ rfl _ _ 45 rfl U.heap.size 4 i4 (.bool false) 1 (Lead.of Tryd.underlying45) hi4 hu1 hu2 .i64 .i64 _ _ b rfl rfl (by omega) (by omega) (by rw [hu3];omega) (by unfold maxLen;omega) (Nat.le_refl _) ?_;intro w6 hown6 hgrow6;obtain ⟨hrow6,hb6,hl6⟩:=zce rfl hown6 hgrow6;clear hown6 hgrow6)
       have HR6:=Lib.hid hrow6
       have HB6:=Lib.hid hb6
       have hsU:U.heap.size<w6.heap.size:=hl6
       clear hrow6 hb6 hl6 rX pX rY rE ha
       go_loopw [184] (fun i wr=>∃ j:Nat,j≤b∧i=.int .i64 j∧Hid (VRow wr U.heap.size (metL a b j))∧Hid (Below U.heap.size U wr)∧U.heap.size<wr.heap.size) (fun i _=>b - (intOf i).toNat)
       case atStart=>exact ⟨0,Nat.zero_le _,rfl,Lib.hid (by rw [zwl];exact HR6.out),HB6,hsU⟩
       case round =>
        rename World=>V6
        obtain ⟨j,hj,rfl,HM6,HV6,hlV6⟩:=hrel
        by_cases hjb2:j<b
        ·have q7:(j:Int)<b:=by omega
         obtain ⟨bx,ox,rfl,_,hcx⟩:=(HRX.out.below HV6.out).at_ (by have:=HPX.out.1;rw [zhr] at this;omega)
         obtain ⟨A1,c1,e1,l1,r1⟩:=(HPX.out.below HV6.out).2 j (by rw [zhr];exact hjb2)
         have cx:=hcx j _ (znr (by have:=HPX.out.1;rw [zhr] at this;omega))
         obtain ⟨by_,oy,rfl,_,hcy⟩:=(HRY.out.below HV6.out).at_ (by simp;omega)
         have cy:=hcy j (.int .i64 ((a j:Nat):Int)) (by simp [hjb2])
         have hau:=HA.out.1 j hjb2
         have hbd2:=HBO.out (a j) (by rw [HBL.out];exact hau)
         rw [z2s hjb2,z3b HN.out (by omega) (by omega) hbd2.1 hbd2.2.1 (by omega)] at e1 r1
         obtain ⟨l78,byt,g,o,rfl,hlg,hra⟩:=HBO.out.below (bgo HU.out HV6.out) (a j) (by rw [HBL.out];exact hau)
         have hmet:=z2l HA.out hjb2
         have hset:=HM6.out.set (k:=a j) (.bool true)
         rw [zzr] at hset
         obtain ⟨cm,fm⟩:=HM6.out (a j) _ (z2k hau)
         rw [hmet] at cm
         rw [e1,l78] at cx
         obtain ⟨u,hu⟩:∃ u,u=a j:=⟨_,rfl⟩
         rw [← hu] at cy hau hra l78 byt cm fm r1 hset
         obtain ⟨xs,hxs⟩:∃ xs,xs=bs.getD u []:=⟨_,rfl⟩
         rw [← hxs] at hra l78 byt r1
         have q8:(u:Int)<b:=by omega
         have CS:=zvj A1 (some ⟨g,o+u * 78,none⟩) 78 c1 78 78 xs xs V6 rfl l78 l78 r1 (.inr ⟨g,o+u * 78,rfl,hlg,fun i v hv=>hra i v hv⟩) byt
         have HSET:=Lib.hid hset
         clear hset hu hxs e1 l1 r1 hra hbd2 hmet hcx hcy byt l78
         go_wp2_with ((with_reducible refine CS.mono ?_);rintro e w7 ⟨rfl,rfl⟩)
         exact ⟨⟨j+1,by omega,by congr 1,HSET,Lib.hid (HV6.out.setCell (p:=⟨U.heap.size,u,none⟩) (Nat.le_refl _) _),by rw [zah];exact hlV6⟩,by show b - ((j:Int)+1).toNat<b - (j:Int).toNat;omega⟩
        ·have hjb3:b=j:=by omega
         subst hjb3
         go_wp2_with fail
         go_ret
         exact ⟨rfl,bgo HU.out HV6.out⟩
end
section
open Go.ChangeShapes Go.WideShapes Go.ChangeAt Go.RowKit Go.Joins Go.Deep
def OpC (W:World)(v:Value)(n c m:Nat)(V:Nat→Value): Prop:=n≤c∧c≤maxLen ∧
 ((v=.slice none 0 0∧n=0∧c=0∧m=0)∨(∃ a,v=.slice (some a) 0 0∧n=0∧c=0∧m=0) ∨
  (0<c∧∃ (b o:Nat) (c':Array Value) (e:TypeId) (fr:Nat×Nat),v=.slice (some ⟨b,o,none⟩) n c∧W.heap[b]?=some (Obj.cells c' e fr)∧∀ i,i<m→c'[i+o]?=some (V i)))
theorem OpC.one {W:World}{v:Value}{n c m:Nat}{V:Nat→Value}(h:OpC W v n c m V)(hm:n≤m): Op1 W v n c V:=by
 obtain ⟨h1,h2,h3⟩:=h
 refine ⟨h1,h2,?_⟩
 rcases h3 with ⟨a1,a2,a3,_⟩|⟨a,a1,a2,a3,_⟩|⟨h0,b,o,c',e,fr,a1,a2,a3⟩
 ·exact .inl ⟨a1,a2,a3⟩
 ·exact .inr (.inl ⟨a,a1,a2,a3⟩)
 ·exact .inr (.inr ⟨h0,b,o,c',e,fr,a1,a2,fun i hi=>a3 i (by omega)⟩)
section
variable {W:World} {ws:List Win} {v:Value} {n c m i:Nat} {V:Nat→Value} {cs:Array Value}
theorem zuo (h:OpC W v n c m V)(ht:zok W){σ:Nat→Option (Nat×Nat)}(hcs:∀ (j:Nat) u,cs[j]?=some u→j<m∧@VRel E2 σ u (V j)):
  ∃ c' e fr,W.heap[(win1 v cs).b]?=some (.cells c' e fr)∧∀ (j:Nat) u,(win1 v cs).c[j]?=some u→∃ v',c'[j+(win1 v cs).d]?=some v'∧@VRel E2 σ u v':=by
 obtain ⟨c0,e0,fr0,t1,_⟩:=ht
 obtain ⟨_,_,h3⟩:=h
 rcases h3 with ⟨rfl,rfl,rfl,_⟩|⟨a,rfl,rfl,rfl,_⟩|⟨h0,b,o,c',e,fr,rfl,h4,h5⟩
 ·exact ⟨c0,e0,fr0,t1,fun j u hu=>(by simp [win1] at hu)⟩
 ·exact ⟨c0,e0,fr0,t1,fun j u hu=>(by simp [win1] at hu)⟩
 ·rw [ze1 _ _ _ h0]
  exact ⟨c',e,fr,h4,fun j u hu=>⟨V j,h5 j (hcs j u hu).1,(hcs j u hu).2⟩⟩
theorem zte (h:OpC W v n c m V){w:World}(hw:w.heap=(za6 W ws).heap)(hx:ws[i]?=some (win1 v cs))(hn:cs.size=m): ∃ A,zhn (i+1) v=.slice A n c∧Rd w A cs.toList:=by
 obtain ⟨_,_,h3⟩:=h
 rcases h3 with ⟨rfl,rfl,rfl,rfl⟩|⟨a,rfl,rfl,rfl,rfl⟩|⟨h0,b,o,c',e,fr,rfl,h4,h5⟩
 ·exact ⟨none,rfl,.inl (by simpa using hn)⟩
 ·exact ⟨none,zhm _ _,.inl (by simpa using hn)⟩
 ·rw [ze1 _ _ _ h0] at hx
  have hb:w.heap[i+1]?=some (Obj.cells cs badT (0,cs.size)):=by rw [hw,zb8,hx];rfl
  refine ⟨some ⟨i+1,0,none⟩,zfo _ _ h0,.inr ⟨i+1,0,rfl,(Array.getElem?_eq_some_iff.1 hb).1,fun j u hu=>?_⟩⟩
  unfold World.cell?
  rw [Nat.zero_add]
  simp only [hb]
  simpa using hu
end
def zhw (F:Nat→Nat→Int)(n:Nat): List Int:=(List.range (n * 78)).map fun q=>F (q / 78) (q % 78)
def rowF (F:Nat→Nat→Int)(n:Nat): List (List Int):=(List.range n).map fun i=>(List.range 78).map (F i)
theorem zhv (F:Nat→Nat→Int)(n:Nat): (zhw F n).length=n * 78:=by simp [zhw]
theorem zrl (F:Nat→Nat→Int)(n:Nat): (rowF F n).length=n:=by simp [rowF]
theorem z14 {F:Nat→Nat→Int}{n i:Nat}(h:i<n): (rowF F n).getD i []=(List.range 78).map (F i):=by simp [rowF,List.getD,h]
theorem zr7 {F:Nat→Nat→Int}{n i j:Nat}(h:i<n)(hj:j<78): (zhw F n).getD (i * 78+j) 0=F i j:=by
 have h1:i * 78+j<n * 78:=by omega
 have h2:(i * 78+j) / 78=i:=by omega
 have h3:(i * 78+j) % 78=j:=by omega
 simp [zhw,List.getD,h1,h2,h3]
theorem z4t {w:World}{B:Option Addr}{F:Nat→Nat→Int}{n:Nat}(hF:∀ i,i<n→∀ j,j<78→0≤F i j∧F i j≤255)(h:Rd w B (nums .u8 (zhw F n))): Bod w B (rowF F n):=fun i hi=>by
 rw [zrl] at hi
 rw [z14 hi]
 refine ⟨by simp,fun x hx=>?_,?_⟩
 ·obtain ⟨j,hj,rfl⟩:=List.mem_map.1 hx
  exact hF i hi j (by simpa using hj)
 ·obtain ⟨g,o,rfl,hl,hc⟩:=h.at_ (by rw [nums,List.length_map,zhv];omega)
  refine ⟨g,o,rfl,hl,fun j v hv=>?_⟩
  have hj:j<78:=by
   have:=(List.getElem?_eq_some_iff.1 hv).1
   simpa [nums] using this
  have e1:=hc (i * 78+j) _ (za9 (xs:=zhw F n) (by rw [zhv];omega))
  rw [zr7 hi hj] at e1
  rw [Nat.add_assoc,e1,← hv]
  simp [nums,hj]
section
variable {H:Type} {enc:TypeId×Value→H} {W:World} {b0:Nat} {held:Bool}
theorem z32 {fuel:Nat}{v:Value}{y:DataW H×List MemPlace}(h:DataW.trod enc Tryd.prog W b0 (fun _=>true) held fuel 41 [v]=some y):
  ∃ (n c:Nat) (F:Nat→Nat→Int),OpC W v n c (zhw F n).length (fun q=>.int .u8 ((zhw F n).getD q 0))∧∀ i,i<n→∀ j,j<78→0≤F i j∧F i j≤255:=by
 rcases Deep.open_slice Tryd.underlying41 h with ⟨hv,hy⟩|⟨a,len,cap,m,n,D,Pl,hv,hb,hl,hm,hmm,hx,hi⟩
 ·simp at hv
  exact ⟨0,0,fun _ _=>0,⟨Nat.le_refl _,Nat.zero_le _,.inl ⟨hv,rfl,rfl,rfl⟩⟩,fun i hi=>absurd hi (Nat.not_lt_zero i)⟩
 ·simp at hv
  have hmc:m=cap:=by rw [hmm];simp
  subst hmc
  have hz:∀ i,i<m→∃ f:Nat→Int,∀ j,j<78→W.cell? ((a.add (i * 78)).add j)=some (.int .u8 (f j))∧0≤f j∧f j≤255:=fun i hi'=>by
   obtain ⟨cs',hc,ht'⟩:=hi i (by omega)
   rw [show Tryd.prog.cellsOf 42=78 from by kernel_rfl] at hc
   obtain ⟨_,hcl,hat⟩:=World.cells?_some hc
   obtain ⟨xs,m1,_,hx1,hlen,hn3,hel⟩:=DataW.trod_array Tryd.underlying42 ht'
   have get:∀ j,j<78→∃ z:Int,cs'[j]?=some (.int .u8 z)∧0≤z∧z≤255:=by
    intro j hj
    have h0:=hel j hj
    rw [List.getElem?_eq_getElem (show j<xs.length by omega),show Tryd.prog.cellsOf 5=1 from by kernel_rfl,Nat.mul_one] at h0
    obtain ⟨k,e1,e2,e3⟩:=DataW.trod_int Tryd.underlying5 h0
    have e4:=congrArg (fun l=>l[0]?) e1
    have e5:(decide ((0:Int)≤k) && decide (k≤(255:Int)))=true:=e3
    exact ⟨k,by simpa [Value.cells] using e4,by simpa using e5⟩
   obtain ⟨f,hf⟩:=Deep.choose_lt get
   exact ⟨f,fun j hj=>⟨(hat j (by omega)).trans (hf j hj).1,(hf j hj).2⟩⟩
  obtain ⟨F,hF⟩:=Deep.choose_lt hz
  refine ⟨len,m,F,⟨hl,hm,?_⟩,fun i hi' j hj=>(hF i (by omega) j hj).2⟩
  by_cases h0:m=0
  ·have:len=0:=by omega
   subst h0 this
   exact .inr (.inl ⟨a,hv,rfl,rfl,rfl⟩)
  ·refine .inr (.inr ⟨by omega,?_⟩)
   obtain ⟨b,off,spot⟩:=a
   have c0:=(hF 0 (by omega) 0 (by omega)).1
   have hs:spot=none:=by simpa [Addr.add] using World.cell?_spot c0
   subst hs
   rw [zb6,zb6] at c0
   obtain ⟨c',e',fr,h1,h2⟩:=zjr c0
   refine ⟨b,off,c',e',fr,hv,h1,fun q hq=>?_⟩
   rw [zhv] at hq
   have h3:q / 78<len:=by omega
   have h4:q % 78<78:=by omega
   have ci:=(hF (q / 78) (by omega) (q % 78) h4).1
   rw [zb6,zb6] at ci
   obtain ⟨c2,e2,fr2,h5,h6⟩:=zjr ci
   rw [h1] at h5
   cases h5
   have h7:(zhw F len).getD q 0=F (q / 78) (q % 78):=by
    have:=zr7 (F:=F) h3 h4
    rwa [show q / 78 * 78+q % 78=q by omega] at this
   show c'[q+off]?=some (Value.int .u8 ((zhw F len).getD q 0))
   rw [h7,← h6]
   congr 1
   omega
end
set_option maxHeartbeats 1000000 in
theorem znj {H:Type}{enc:TypeId×Value→H}(W:World)(base:Nat)(args:Array Value)(ds:List (DataW H))(p:List MemPlace)(hval:∀ (j:Nat) t v,Tryd.f6.params[j]?=some t→args[j]?=some v→Value.okWide Tryd.prog W .any base t v)(hA:DataW.TrodAll enc Tryd.prog W 0 (fun _=>true) true Tryd.f6.params.toList args.toList ds p)(hlt:∀ x∈p,x.block<W.heap.size)(hz:(DataW.weightsEach Tryd.prog Tryd.f6.params.toList ds).all (·≤reachBytes)=true)(ht:zok W): Lone W args 6:=by
 rw [Tryd.params6] at hA hval hz
 obtain ⟨v0,vs0,d0,ds0,p0,q0,hargs,rfl,rfl,h0,r0⟩:=trodAll_cons hA
 obtain ⟨v1,vs1,d1,ds1,p1,q1,rfl,rfl,rfl,h1,r1⟩:=trodAll_cons r0
 obtain ⟨v2,vs2,d2,ds2,p2,q2,rfl,rfl,rfl,h2,r2⟩:=trodAll_cons r1
 obtain ⟨rfl,rfl,rfl⟩:=trodAll_nil r2
 obtain rfl:args=#[v0,v1,v2]:=by cases args;simp_all
 obtain ⟨fu0,h0⟩:=h0
 obtain ⟨A0,m0,k0,rfl⟩:=okWide_slice Tryd.underlying22 (hval 0 _ _ rfl rfl)
 obtain ⟨fu1,h1⟩:=h1
 obtain ⟨A1,m1,k1,rfl⟩:=okWide_slice Tryd.underlying41 (hval 1 _ _ rfl rfl)
 obtain ⟨fu2,h2⟩:=h2
 obtain ⟨A2,m2,k2,rfl⟩:=okWide_slice Tryd.underlying23 (hval 2 _ _ rfl rfl)
 obtain ⟨c0,V,L,C,o0,op,hB⟩:=zv9 h0
 obtain ⟨nb,c1,F,o1,hF⟩:=z32 h1
 obtain ⟨c2,es0,o2,_⟩:=zrw Tryd.underlying23 Tryd.underlying3 (by kernel_rfl) h2
 have p1:=o1.one (by rw [zhv];omega)
 obtain ⟨ws,hws⟩:∃ ws,ws=[win1 (.slice A0 m0 k0) (rowL 3 V L.length),win1 (.slice A1 m1 k1) (nums .u8 (zhw F nb)).toArray,win1 (.slice A2 m2 k2) (nums .i64 es0).toArray]++zn9 L V:=⟨_,rfl⟩
 have g0:ws[0]?=some (win1 (.slice A0 m0 k0) (rowL 3 V L.length)):=by rw [hws];rfl
 have g1:ws[1]?=some (win1 (.slice A1 m1 k1) (nums .u8 (zhw F nb)).toArray):=by rw [hws];rfl
 have g2:ws[2]?=some (win1 (.slice A2 m2 k2) (nums .i64 es0).toArray):=by rw [hws];rfl
 have gp:∀ i,i<L.length→ws[3+i]?=some (win1 (V i) (nums .u8 (L.getD i [])).toArray):=fun i hi=>by
  rw [hws,List.getElem?_append_right (by simp),show 3+i - [win1 (.slice A0 m0 k0) (rowL 3 V L.length),win1 (.slice A1 m1 k1) (nums .u8 (zhw F nb)).toArray,win1 (.slice A2 m2 k2) (nums .i64 es0).toArray].length=i by simp]
  exact zv3 hi
 have hlen:ws.length=3+L.length:=by rw [hws];simp [zn9];omega
 have hmem:∀ x∈ws,x=win1 (.slice A0 m0 k0) (rowL 3 V L.length)∨x=win1 (.slice A1 m1 k1) (nums .u8 (zhw F nb)).toArray∨x=win1 (.slice A2 m2 k2) (nums .i64 es0).toArray∨∃ i,i<L.length∧x=win1 (V i) (nums .u8 (L.getD i [])).toArray:=fun x hx=>by
  rw [hws,List.mem_append] at hx
  rcases hx with hx|hx
  ·simp only [List.mem_cons,List.mem_nil_iff,or_false] at hx
   rcases hx with h|h|h
   ·exact .inl h
   ·exact .inr (.inl h)
   ·exact .inr (.inr (.inl h))
  ·exact .inr (.inr (.inr (zs6 hx)))
 have hrow2:∀ (j:Nat) u,(rowL 3 V L.length)[j]?=some u→j<L.length∧@VRel E2 (oldW ws) u (V j):=fun j u hu=>by
  obtain ⟨hj,rfl⟩:=zvn hu
  exact ⟨hj,zhk (op j hj) (gp j hj)⟩
 have hrow3:∀ (j:Nat) u,(rowL 3 V L.length)[j]?=some u→@VRel E3 (oldI (1+ws.length)) u u:=fun j u hu=>by
  obtain ⟨hj,rfl⟩:=zvn hu
  exact zhj (op j hj) (by omega)
 clear hws
 refine ⟨ws,#[zhn 1 (.slice A0 m0 k0),zhn 2 (.slice A1 m1 k1),zhn 3 (.slice A2 m2 k2)],⟨ht,fun x hx=>?_,fun x hx=>?_⟩,⟨rfl,?_⟩,⟨rfl,?_⟩,fun w hw=>?_⟩
 ·rcases hmem x hx with rfl|rfl|rfl|⟨i,hi,rfl⟩
  ·exact zmk o0 ht hrow2
  ·exact zuo o1 ht zm1
  ·exact zmk o2 ht zm1
  ·exact zmk (op i hi) ht zm1
 ·rcases hmem x hx with rfl|rfl|rfl|⟨i,hi,rfl⟩
  ·exact zmj hrow3
  ·exact zmj zm2
  ·exact zmj zm2
  ·exact zmj zm2
 ·intro j v v' hv hv'
  match j with
  | 0=>cases hv;cases hv';exact zhk o0 g0
  | 1=>cases hv;cases hv';exact zhk p1 g1
  | 2=>cases hv;cases hv';exact zhk o2 g2
  | j+3=>simp at hv
 ·intro j v v' hv hv'
  match j with
  | 0=>cases hv;cases hv';exact zhj o0 (by omega)
  | 1=>cases hv;cases hv';exact zhj p1 (by omega)
  | 2=>cases hv;cases hv';exact zhj o2 (by omega)
  | j+3=>simp at hv
 ·obtain ⟨B0,e0,rd0⟩:=zkp o0 hw g0 (by simp [rowL])
  obtain ⟨B1,e1,rd1⟩:=zte o1 hw g1 (by simp [nums])
  obtain ⟨B2,e2,rd2⟩:=zkp o2 hw g2 (by simp [nums])
  have hp:=zs5 op gp hw
  rw [e0,e1,e2]
  have hbd:=z4t hF (by simpa using rd1)
  exact zk4 B0 B1 B2 L.length c0 _ c1 _ c2 _ L (rowF F nb) es0 w rfl o0.1 o0.2.1 rd0 hp hB (zrl F nb) o1.1 o1.2.1 hbd rfl o2.1 o2.2.1 (by simpa using rd2) (zql ht hw)
end
end Go.Proofs.YtelgmbomkojmaaaDoor
