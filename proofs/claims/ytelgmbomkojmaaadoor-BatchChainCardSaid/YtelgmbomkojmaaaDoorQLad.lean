/- A pack: Pe Mk0 Lh0 Oh Oc Oi. -/
import Derived.Test.YtelgmbomkojmaaaDoorQLac
import Derived.Test.YtelgmbomkojmaaaDoorQLab
import Derived.Deep.MidRow
import Derived.Deep.RegionWith
import Derived.Deep.DeepMust
import Derived.Deep.RegionHeld3
namespace Go.Proofs.YtelgmbomkojmaaaDoor
set_option linter.all false
set_option maxRecDepth 100000
section
open Go.RowKit Go.Shelf
attribute [local go_sem] Oper.semAt_some
def zh1 (n k:Nat): List Int:=(List.range n).map fun (j:Nat)=>if j<k then (j:Int) else 0
theorem zxi (n k:Nat): (zh1 n k).length=n:=by simp [zh1]
theorem ztx (n:Nat): zh1 n 0=List.replicate n 0:=by
 apply List.ext_getElem <;> simp [zh1]
theorem zty (n:Nat): zh1 n n=idL n:=by
 unfold zh1 idL
 exact List.map_congr_left fun j hj=>by rw [if_pos (List.mem_range.1 hj)]
theorem zxh (n k:Nat)(h:k<n): (zh1 n k).set k (k:Int)=zh1 n (k+1):=by
 apply List.ext_getElem
 ·simp [zh1]
 ·intro i h1 h2
  simp only [zh1,List.getElem_set,List.getElem_map,List.getElem_range]
  by_cases e:k=i
  ·subst e;simp
  ·rw [if_neg e]
   by_cases h3:i<k
   ·rw [if_pos h3,if_pos (by omega)]
   ·rw [if_neg h3,if_neg (by omega)]
def zi7 (n:Nat)(ds:List Int)(s:List Int×Nat)(x:Nat): List Int×Nat:=(zmq s.1 (dn (n - 1) x) (zlg (ds.getD s.2 0) (dn (n - 1) x+1)),s.2+1)
def shF (n:Nat)(ds:List Int)(xs:List Nat): List Int×Nat:=xs.foldl (zi7 n ds) (idL n,0)
theorem zrg (n:Nat)(ds:List Int)(xs:List Nat)(x:Nat): shF n ds (xs++[x])=zi7 n ds (shF n ds xs) x:=by simp [shF]
theorem z3o (n:Nat)(ds:List Int)(xs:List Nat): (shF n ds xs).1.length=n∧(shF n ds xs).2=xs.length:=by
 have h:∀ (xs:List Nat) (s:List Int×Nat),(xs.foldl (zi7 n ds) s).1.length=s.1.length∧(xs.foldl (zi7 n ds) s).2=s.2+xs.length:=by
  intro xs
  induction xs with
  | nil=>intro s;exact ⟨rfl,rfl⟩
  | cons x xs ih =>
    intro s
    have:=ih (zi7 n ds s x)
    simp only [List.foldl_cons,List.length_cons]
    rw [this.1,this.2]
    simp [zi7,zg0]
    omega
 have:=h xs (idL n,0)
 rw [shF,this.1,this.2]
 simp [znc]
theorem zrf (n:Nat)(ds:List Int): ∀ k,k≤n - 1→shF n ds (zld k)=(zp3 n ds k,k)
 | 0,_=>rfl
 | k+1,h=>by
   rw [zif,zrg,zrf n ds k (by omega),zi7,zp3,z4p (by omega),show n - 1 - k+1=n - k by omega]
set_option maxRecDepth 100000 in
set_option maxHeartbeats 800000 in
theorem zy1 (n:Nat)(A:Option Addr)(m c:Nat)(ds:List Int)(w:World)(hn:n≤1024)(hm:ds.length=m)(hmax:m≤100000)(hx:Rd w A (nums .i64 ds)):
  Calls Lead.prog 20 #[.int .i64 n,.slice A m c] w (z46 w n ds):=by
 obtain ⟨i0,hi,hz0,hz1,hz2⟩:=info_parts z2u
 have r0:¬ (n:Int)<0:=by omega
 have r1:¬ (1024:Int)<n:=by omega
 have HM:=Lib.hid hm
 have HX:=Lib.hid hx
 clear hm hx
 refine (callsIn_wide (n:=8)).1 ?_
 refine callsIn_of_wp_marks Lead.func20 rfl trivial ?_ rfl
 simp only [Tryd.ntmps20,List.size_toArray,List.length_cons,List.length_nil,Nat.reduceAdd,Nat.reduceSub,Array.replicate_succ,Array.replicate_zero,List.push_toArray,List.append_toArray,List.nil_append,List.cons_append]
 have d1:1≤7:=by omega
 gi_wp2_with (gi_at_make;refine zgv _ rfl _ _ 23 rfl (w.heap.size+1) 3 i0 (.int .i64 0) 1 (Lead.of Tryd.underlying23) hi hz0 hz1 .i64 .i64 _ _ n rfl rfl (by omega) (by omega) (by rw [hz2];omega) (by unfold maxLen;omega) (by rw [World.size_alloc];omega) ?_;intro w1 hown1 hgrow1)
 rw [← World.size_alloc w (.cells #[.slice A m c] 23)] at hown1
 obtain ⟨hrow1,hb1,hl1⟩:=zce rfl hown1 hgrow1
 rw [World.size_alloc] at hrow1 hb1 hl1
 have hB1:Below w.heap.size w w1:=(bal brf (.cells #[.slice A m c] 23)).trans (hb1.mono (by omega))
 have hx3:Box w1 w.heap.size (.slice A m c):=Box.alloc.below hb1 (by omega)
 obtain ⟨b3,hb3⟩:∃ b3,b3=w.heap.size:=⟨_,rfl⟩
 obtain ⟨bp,hbp⟩:∃ bp,bp=w.heap.size+1:=⟨_,rfl⟩
 obtain ⟨b7,hb7⟩:∃ b7,b7=w1.heap.size:=⟨_,rfl⟩
 have hx7:Box (w1.alloc (.cells #[.slice (some ⟨bp,0,none⟩) n n] 23)) b7 (.slice (some ⟨bp,0,none⟩) n n):=by rw [hb7];exact Box.alloc
 have hB2:Below w.heap.size w (w1.alloc (.cells #[.slice (some ⟨bp,0,none⟩) n n] 23)):=bal hB1 _
 have hx32:Box (w1.alloc (.cells #[.slice (some ⟨bp,0,none⟩) n n] 23)) b3 (.slice A m c):=by rw [hb3];exact hx3.below (bal brf _) (by omega)
 have hrow2:VRow (w1.alloc (.cells #[.slice (some ⟨bp,0,none⟩) n n] 23)) bp (nums .i64 (zh1 n 0)):=by
  rw [ztx,nums,List.map_replicate,hbp]
  exact hrow1.below (bal brf _) (by omega)
 have hz7:b7<(w1.alloc (.cells #[.slice (some ⟨bp,0,none⟩) n n] 23)).heap.size:=by rw [World.size_alloc];omega
 have hb37:b3<bp∧bp<b7∧w.heap.size≤b3:=by omega
 rw [← hbp]
 rw [← hb3,← hb7]
 generalize w1.alloc (.cells #[.slice (some ⟨bp,0,none⟩) n n] 23)=w2 at hx7 hB2 hx32 hrow2 hz7 ⊢
 obtain ⟨q3,q7,q0⟩:=hb37
 have HX7:=Lib.hid hx7
 have HX3:=Lib.hid hx32
 have HR2:=Lib.hid hrow2
 clear hb1 hl1 hrow1 hown1 hgrow1 hB1 hx3 hb3 hbp hb7 hx7 hx32 hrow2
 gi_loopw [8,23] (fun _ i wr=>∃ k:Nat,k≤n∧i=.int .i64 k∧Box wr b3 (.slice A m c)∧Box wr b7 (.slice (some ⟨bp,0,none⟩) n n)∧VRow wr bp (nums .i64 (zh1 n k))∧b7<wr.heap.size∧Below w.heap.size w wr) (fun _ i _=>n - (intOf i).toNat)
 case atStart=>exact ⟨0,Nat.zero_le _,rfl,HX3.out,HX7.out,HR2.out,hz7,hB2⟩
 case round =>
  obtain ⟨k,hk,rfl,hx3,hx7,hrow,hz8,hb⟩:=hrel
  by_cases hlt:k<n
  ·have r2:(k:Int)<n:=by omega
   have c7:=hx7.1
   have ck:=hrow k _ (za9 (by rw [zxi];exact hlt))
   obtain ⟨ck,fk⟩:=ck
   have hst:=hrow.set (k:=k) (.int .i64 (k:Int))
   have hsw:(nums .i64 (zh1 n k)).set k (.int .i64 (k:Int))=nums .i64 (zh1 n (k+1)):=by rw [← zxh n k hlt];simp [nums,List.map_set]
   rw [hsw] at hst
   have HST:=Lib.hid hst
   have HX3:=Lib.hid (hx3.far (c:=bp) (i:=k) (by omega) (.int .i64 (k:Int)))
   have HX7:=Lib.hid (hx7.far (c:=bp) (i:=k) (by omega) (.int .i64 (k:Int)))
   clear hst hsw hrow hx3 hx7
   gi_wp2
   refine ⟨⟨k+1,by omega,by congr 1,HX3.out,HX7.out,HST.out,by rw [zah];exact hz8,hb.setCell (p:=⟨bp,k,none⟩) (by show w.heap.size≤bp;omega) _⟩,by show n - ((k:Int)+1).toNat<n - (k:Int).toNat;omega⟩
  ·have hkn:n=k:=by omega
   subst hkn
   rw [zty] at hrow
   clear hlt hk HX7 HX3 HR2 hz7 hB2
   gi_wp2_with (refine ⟨trivial,?_⟩;gi_at_call 34;refine (callsIn_wide.2 (zxp _ _)).mono ?_;rintro e w3 ⟨rfl,rfl⟩)
   have hB3:Below w.heap.size w ((wr.alloc (.cells #[.int .i64 0] 3)).alloc (.cells #[.int .i64 ((n:Int) - 1)] 3)):=bal (bal hb _) _
   have e3:Below wr.heap.size wr ((wr.alloc (.cells #[.int .i64 0] 3)).alloc (.cells #[.int .i64 ((n:Int) - 1)] 3)):=bal (bal brf _) _
   have hx9:Box ((wr.alloc (.cells #[.int .i64 0] 3)).alloc (.cells #[.int .i64 ((n:Int) - 1)] 3)) wr.heap.size (.int .i64 0):=Box.alloc.below (bal brf _) (by rw [World.size_alloc];omega)
   have hxs:Box ((wr.alloc (.cells #[.int .i64 0] 3)).alloc (.cells #[.int .i64 ((n:Int) - 1)] 3)) (wr.heap.size+1) (.int .i64 ((n:Int) - 1)):=by
    have:=Box.alloc (w:=wr.alloc (.cells #[.int .i64 0] 3)) (v:=.int .i64 ((n:Int) - 1)) (t:=3)
    rwa [World.size_alloc] at this
   have hz3:((wr.alloc (.cells #[.int .i64 0] 3)).alloc (.cells #[.int .i64 ((n:Int) - 1)] 3)).heap.size=wr.heap.size+2:=by rw [World.size_alloc,World.size_alloc]
   replace hx3:=hx3.below e3 (by omega)
   replace hx7:=hx7.below e3 (by omega)
   replace hrow:=hrow.below e3 (by omega)
   have hwz:=hb.size
   obtain ⟨b9,hb9⟩:∃ b9,b9=wr.heap.size:=⟨_,rfl⟩
   rw [← hb9] at hx9 hxs hz3 hz8 hwz ⊢
   generalize (wr.alloc (.cells #[.int .i64 0] 3)).alloc (.cells #[.int .i64 ((n:Int) - 1)] 3)=w3 at hB3 hx9 hxs hz3 hx3 hx7 hrow ⊢
   clear e3 hb hb9
   refine wpIn_rangeFunc_ownF rfl (by omega) (gf:=62) (lb:=#[.pointer (some ⟨b9+1,0,none⟩)]) rfl trivial (enters_of Lead.func62 (by kernel_rfl) rfl)
    (zt3 Fence.wide 7 trivial rfl (by omega) (b9+1) (n - 1) ((n:Int) - 1) (by omega) (by omega) (by omega) (by omega) (by omega) w3 (by omega) hxs.1) (fun _ _=>trivial) (fun _ _ _ _ _ _ _ _=>trivial) (Below.refl _ _) (fun _=>rfl)
    (fun pre W=>(VRow W bp (nums .i64 (shF n ds pre).1)∧Box W b7 (.slice (some ⟨bp,0,none⟩) n n)∧Box W b9 (.int .i64 (min pre.length m:Nat))∧Box W b3 (.slice A m c)∧w3.heap.size≤W.heap.size)∧Below w.heap.size w W)
    (fun _ _ _=>False)
    (OwnFrom.and (Own.from (fun s A B row hs hg hr=>⟨hs.1.kept hg hr,hs.2.1.kept hg hr,hs.2.2.1.kept hg hr,hs.2.2.2.1.kept hg hr,Nat.le_trans hs.2.2.2.2 hg.size⟩) _) (ownFrom_below (Nat.le_refl _) (by omega)))
    (fun _ _ _ _ _ hs _ _=>hs)
    ⟨⟨hrow,hx7,by rw [show min ([]:List Nat).length m=0 from Nat.zero_min _];exact hx9,hx3,Nat.le_refl _⟩,hB3⟩
    ?a1 ?assign ?body ?done ?stop
   case assign =>
    intro l x W K hK
    unfold zsa
    gi_wp2
    exact hK
   case stop =>
    rintro D c pre W _ _ h _
    exact h.elim
   case body =>
    rintro l pre x W ⟨⟨hrow,hx7,hx9,hx3,hsz⟩,hB⟩ hpre
    obtain ⟨hlen,hk2⟩:=z3o n ds pre
    obtain ⟨hi1,hi2⟩:=z26 (q:=n - 1) (x:=x) (by omega)
    obtain ⟨i,hie⟩:∃ i,i=dn (n - 1) x:=⟨_,rfl⟩
    obtain ⟨k,hk⟩:∃ k,k=pre.length:=⟨_,rfl⟩
    rw [← hie] at hi1 hi2 ⊢
    rw [← hk] at hk2 hpre hx9
    have hin:i<n:=by omega
    obtain ⟨v,hv⟩:∃ v,v=ds.getD k 0:=⟨_,rfl⟩
    have CL:=fun W'=>zzx v (i+1) W' (by omega) (by omega)
    have hj:=zr1 v (m:=i+1) (by omega)
    obtain ⟨j,hje⟩:∃ j,j=zlg v (i+1):=⟨_,rfl⟩
    rw [← hje] at hj CL
    rw [Int.natCast_add,Int.natCast_one] at CL
    obtain ⟨L,hL⟩:∃ L,L=(shF n ds pre).1:=⟨_,rfl⟩
    rw [← hL] at hlen hrow
    have ci:=(hrow i _ (za9 (by rw [hlen];exact hin))).1
    have fi:=(hrow i _ (za9 (by rw [hlen];exact hin))).2
    have cj:=(hrow j _ (za9 (by rw [hlen];omega))).1
    have fj:=(hrow j _ (za9 (by rw [hlen];omega))).2
    obtain ⟨y,hy⟩:∃ y,y=L.getD i 0:=⟨_,rfl⟩
    obtain ⟨z,hz⟩:∃ z,z=L.getD j 0:=⟨_,rfl⟩
    rw [← hy] at ci
    rw [← hz] at cj
    have hsw:((nums .i64 L).set i (.int .i64 z)).set j (.int .i64 y)=nums .i64 (shF n ds (pre++[x])).1:=by
     rw [zrg,zi7,hk2,← hie,← hv,← hje,← hL,hy,hz]
     exact zwc (by rw [hlen];exact hin) (by rw [hlen];omega)
    have hjI:(j:Int)<n:=by omega
    have hjI0:(0:Int)≤j:=by omega
    have hiI:(i:Int)<n:=by omega
    have hiI0:(0:Int)≤i:=by omega
    have c7:=hx7.1
    have c3:=hx3.1
    have HSW:=Lib.hid hsw
    have HV:=Lib.hid hv
    have HK:=Lib.hid hk
    have HROW:=Lib.hid hrow
    have HX7:=Lib.hid hx7
    have HX3:=Lib.hid hx3
    clear hsw hv hie hk hk2 hje hL hy hz hrow hx7 hx3 hlen
    obtain ⟨d,hd⟩:∃ d,d=min k m:=⟨_,rfl⟩
    rw [← hd] at hx9
    have hd1:d≤m:=by omega
    have HD:=Lib.hid hd
    have c9:=hx9.1
    have f9:=hx9.2
    have HX9:=Lib.hid hx9
    clear hd hx9
    have d2:1≤8 - 1 - 1:=by omega
    have key:∀ (W1 W2:World) (d':Nat),d'=min (k+1) m→(W1=W∧d'=d∨W1=W.setCell ⟨b9,0,none⟩ (.int .i64 (d':Nat)))→W2=((W1.setCell ⟨bp,i,none⟩ (.int .i64 z)).setCell ⟨bp,j,none⟩ (.int .i64 y)) →
      (KeepsOthers W W2.drew∧Any W W2.drew∧((VRow W2.drew bp (nums .i64 (shF n ds (pre++[x])).1)∧Box W2.drew b7 (.slice (some ⟨bp,0,none⟩) n n)∧Box W2.drew b9 (.int .i64 (min (pre++[x]).length m:Nat))∧Box W2.drew b3 (.slice A m c)∧w3.heap.size≤W2.drew.heap.size)∧Below w.heap.size w W2.drew)):=by
     intro W1 W2 d' hd' hW1 hW2
     have hlp:min (pre++[x]).length m=d':=by rw [List.length_append,← HK.out,hd'];rfl
     have g1:KeepsOthers W W1∧VRow W1 bp (nums .i64 L)∧Box W1 b7 (.slice (some ⟨bp,0,none⟩) n n)∧Box W1 b9 (.int .i64 (d':Nat))∧Box W1 b3 (.slice A m c)∧W1.heap.size=W.heap.size∧Below w.heap.size w W1:=by
      rcases hW1 with ⟨rfl,rfl⟩|rfl
      ·exact ⟨KeepsOthers.refl _,HROW.out,HX7.out,HX9.out,HX3.out,rfl,hB⟩
      ·exact ⟨KeepsOthers.setCell _ _ _,HROW.out.far (by omega) _,HX7.out.far (by omega) _,HX9.out.set _,HX3.out.far (by omega) _,zah _ _ _,hB.setCell (p:=⟨b9,0,none⟩) (by show w.heap.size≤b9;omega) _⟩
     obtain ⟨g1,g2,g3,g4,g5,g6,g7⟩:=g1
     have hs2:=(g2.set (k:=i) (.int .i64 z)).set (k:=j) (.int .i64 y)
     rw [HSW.out] at hs2
     rw [hlp]
     subst hW2
     have g8:KeepsOthers W ((W1.setCell ⟨bp,i,none⟩ (.int .i64 z)).setCell ⟨bp,j,none⟩ (.int .i64 y)):=(g1.trans (KeepsOthers.setCell _ _ _)).trans (KeepsOthers.setCell _ _ _)
     refine ⟨⟨g8.1,g8.2⟩,trivial,⟨hs2,(g3.far (by omega) _).far (by omega) _,(g4.far (by omega) _).far (by omega) _,(g5.far (by omega) _).far (by omega) _,?_⟩,?_⟩
     ·show w3.heap.size≤((W1.setCell _ _).setCell _ _).heap.size
      rw [zah,zah,g6];exact hsz
     ·exact bdr ((g7.setCell (p:=⟨bp,i,none⟩) (by show w.heap.size≤bp;omega) _).setCell (p:=⟨bp,j,none⟩) (by show w.heap.size≤bp;omega) _)
    have KEY:=Lib.hid key
    clear key
    by_cases hdm:d<m
    ·have hkd:k=d:=by have:=HD.out;omega
     subst hkd
     obtain ⟨bA,oA,rfl,hlA,hcA⟩:=(HX.out.below hB).at_ (by simp [HM.out];omega)
     have cd:=hcA k _ (za9 (by rw [HM.out];exact hdm))
     rw [← HV.out] at cd
     clear hcA
     by_cases hij:i=j
     ·subst hij
      obtain rfl:y=z:=by have:=ci.symm.trans cj;simpa using this
      clear cj fj
      gi_wp2_with (refine ⟨trivial,?_⟩;gi_at_call 35;refine (CallsIn.inRound l (callsIn_wide.2 (CL _))).mono ?_;rintro e w4 ⟨rfl,rfl⟩)
      generalize hWx:W.setCell ⟨b9,0,none⟩ (.int .i64 ((k:Int)+1))=Wx
      replace c7:Wx.cell? ⟨b7,0,none⟩=some (.slice (some ⟨bp,0,none⟩) n n):=by rw [← hWx];exact (zaa (by omega)).trans c7
      replace ci:Wx.cell? ⟨bp,i,none⟩=some (.int .i64 y):=by rw [← hWx];exact (zaa (by omega)).trans ci
      replace fi:Wx.frozen? ⟨bp,i,none⟩=false:=by rw [← hWx,World.frozen?_setCell];exact fi
      have HWX:=Lib.hid hWx
      clear hWx c9 f9 c3 cd CL
      refine zbk (fun W'=>W'.cell? ⟨b7,0,none⟩=some (.slice (some ⟨bp,0,none⟩) n n)) (by kernel_rfl) (by kernel_rfl) (by rintro ⟨a9,w9,h9⟩;exact h9) c7 (fun hHeld=>?_)
      refine wpAnyH_take (i:=0) (v:=?_) rfl (by kernel_rfl) (by kernel_rfl) (by kernel_rfl) (fun _ _ _ h=>h) (Or.inl ⟨by rfl,?_⟩) (by assumption) ?_
      rotate_left
      ·intro W9 hSw
       go_simp
       rfl
      simp only [Act.put,List.setIfInBounds_toArray,List.set_cons_zero,List.set_cons_succ]
      refine wpAnyH_take (i:=1) (v:=?_) rfl (by kernel_rfl) (by kernel_rfl) (by kernel_rfl) (fun _ _ _ h=>h) (Or.inl ⟨by rfl,?_⟩) (by assumption) ?_
      rotate_left
      ·intro W9 hSw
       go_simp
       rfl
      simp only [Act.put,List.setIfInBounds_toArray,List.set_cons_zero,List.set_cons_succ]
      refine wpAnyH_take (i:=2) (v:=?_) rfl (by kernel_rfl) (by kernel_rfl) (by kernel_rfl) (fun _ _ _ h=>h) (Or.inl ⟨by rfl,?_⟩) (by assumption) ?_
      rotate_left
      ·intro W9 hSw
       go_simp
       rfl
      simp only [Act.put,List.setIfInBounds_toArray,List.set_cons_zero,List.set_cons_succ]
      refine wpAnyH_take (i:=3) (v:=?_) rfl (by kernel_rfl) (by kernel_rfl) (by kernel_rfl) (fun _ _ _ h=>h) (Or.inl ⟨by rfl,?_⟩) (by assumption) ?_
      rotate_left
      ·intro W9 hSw
       go_simp
       rfl
      simp only [Act.put,List.setIfInBounds_toArray,List.set_cons_zero,List.set_cons_succ]
      refine wpAnyH_take (i:=4) (v:=?_) rfl (by kernel_rfl) (by kernel_rfl) (by kernel_rfl) (fun _ _ _ h=>h) (Or.inl ⟨by rfl,?_⟩) (by assumption) ?_
      rotate_left
      ·intro W9 hSw
       go_simp
       rfl
      simp only [Act.put,List.setIfInBounds_toArray,List.set_cons_zero,List.set_cons_succ]
      refine wpAnyH_take (i:=5) (v:=?_) rfl (by kernel_rfl) (by kernel_rfl) (by kernel_rfl) (fun _ _ _ h=>h) (Or.inl ⟨by rfl,?_⟩) (by assumption) ?_
      rotate_left
      ·intro W9 hSw
       go_simp
       rfl
      simp only [Act.put,List.setIfInBounds_toArray,List.set_cons_zero,List.set_cons_succ]
      refine wpAnyH_take (i:=6) (v:=?_) rfl (by kernel_rfl) (by kernel_rfl) (by kernel_rfl) (fun _ _ _ h=>h) (Or.inl ⟨by rfl,?_⟩) (by assumption) ?_
      rotate_left
      ·intro W9 hSw
       go_simp
       rfl
      simp only [Act.put,List.setIfInBounds_toArray,List.set_cons_zero,List.set_cons_succ]
      refine wpAnyH_take (i:=8) (v:=?_) rfl (by kernel_rfl) (by kernel_rfl) (by kernel_rfl) (fun _ _ _ h=>h) (Or.inl ⟨by rfl,?_⟩) (by assumption) ?_
      rotate_left
      ·intro W9 hSw
       go_simp
       rfl
      simp only [Act.put,List.setIfInBounds_toArray,List.set_cons_zero,List.set_cons_succ]
      refine wpAnyH_take (i:=9) (v:=?_) rfl (by kernel_rfl) (by kernel_rfl) (by kernel_rfl) (fun _ _ _ h=>h) (Or.inl ⟨by rfl,?_⟩) (by assumption) ?_
      rotate_left
      ·intro W9 hSw
       go_simp
       rfl
      simp only [Act.put,List.setIfInBounds_toArray,List.set_cons_zero,List.set_cons_succ]
      refine wpAnyH_take (i:=10) (v:=?_) rfl (by kernel_rfl) (by kernel_rfl) (by kernel_rfl) (fun _ _ _ h=>h) (Or.inl ⟨by rfl,?_⟩) (by assumption) ?_
      rotate_left
      ·intro W9 hSw
       go_simp
       rfl
      simp only [Act.put,List.setIfInBounds_toArray,List.set_cons_zero,List.set_cons_succ]
      refine wpAnyH_ready (rs:=[7,11]) (by kernel_rfl) (by simp) ?_
      refine AllReadyH.cons rfl (fun K hK=>?_) (AllReadyH.cons rfl (fun K hK=>?_) AllReadyH.nil)
      ·go_simp
       refine hK.out _ _ ?_ (fun hHeld=>?_)
       ·first|exact c7|exact (zaa (by omega)).trans c7|exact (zaa (by omega)).trans ((zaa (by omega)).trans c7)
       clear hK K
       try simp only [Act.put,List.setIfInBounds_toArray,List.set_cons_zero,List.set_cons_succ]
       refine wpAnyH_ready (rs:=[11]) (by kernel_rfl) (by simp) ?_
       refine AllReadyH.cons rfl (fun K hK=>?_) AllReadyH.nil
       go_simp
       refine hK.out _ _ ?_ (fun hHeld=>?_)
       ·first|exact c7|exact (zaa (by omega)).trans c7|exact (zaa (by omega)).trans ((zaa (by omega)).trans c7)
       clear hK K
       try simp only [Act.put,List.setIfInBounds_toArray,List.set_cons_zero,List.set_cons_succ]
       refine wpAnyH_take (i:=12) (v:=?_) rfl (by kernel_rfl) (by kernel_rfl) (by kernel_rfl) (fun _ _ _ h=>h) (Or.inl ⟨by rfl,?_⟩) (by assumption) ?_
       rotate_left
       ·intro W9 hSw
        go_simp
        rfl
       simp only [Act.put,List.setIfInBounds_toArray,List.set_cons_zero,List.set_cons_succ]
       refine wpAnyH_ready (rs:=[13]) (by kernel_rfl) (by simp) ?_
       refine AllReadyH.cons rfl (fun K hK=>?_) AllReadyH.nil
       go_simp
       refine hK.out _ _ ?_ (fun hHeld=>?_)
       ·first|exact c7|exact (zaa (by omega)).trans c7|exact (zaa (by omega)).trans ((zaa (by omega)).trans c7)
       clear hK K
       try simp only [Act.put,List.setIfInBounds_toArray,List.set_cons_zero,List.set_cons_succ]
       refine wpAnyH_take (i:=14) (v:=?_) rfl (by kernel_rfl) (by kernel_rfl) (by kernel_rfl) (fun _ _ _ h=>h) (Or.inl ⟨by rfl,?_⟩) (by assumption) ?_
       rotate_left
       ·intro W9 hSw
        go_simp
        rfl
       simp only [Act.put,List.setIfInBounds_toArray,List.set_cons_zero,List.set_cons_succ]
       refine wpAnyH_ready (rs:=[15]) (by kernel_rfl) (by simp) ?_
       refine AllReadyH.cons rfl (fun K hK=>?_) AllReadyH.nil
       go_simp
       refine hK.out _ _ ?_ (fun hHeld=>?_)
       ·first|exact c7|exact (zaa (by omega)).trans c7|exact (zaa (by omega)).trans ((zaa (by omega)).trans c7)
       clear hK K
       try simp only [Act.put,List.setIfInBounds_toArray,List.set_cons_zero,List.set_cons_succ]
       refine wpAnyH_done (by kernel_rfl) ?_ _
       gi_wp2
       exact KEY.out _ _ (k+1) (by omega) (.inr HWX.out.symm) rfl
      ·go_simp
       refine hK.out _ _ ?_ (fun hHeld=>?_)
       ·first|exact c7|exact (zaa (by omega)).trans c7|exact (zaa (by omega)).trans ((zaa (by omega)).trans c7)
       clear hK K
       try simp only [Act.put,List.setIfInBounds_toArray,List.set_cons_zero,List.set_cons_succ]
       refine wpAnyH_ready (rs:=[7]) (by kernel_rfl) (by simp) ?_
       refine AllReadyH.cons rfl (fun K hK=>?_) AllReadyH.nil
       go_simp
       refine hK.out _ _ ?_ (fun hHeld=>?_)
       ·first|exact c7|exact (zaa (by omega)).trans c7|exact (zaa (by omega)).trans ((zaa (by omega)).trans c7)
       clear hK K
       try simp only [Act.put,List.setIfInBounds_toArray,List.set_cons_zero,List.set_cons_succ]
       refine wpAnyH_take (i:=12) (v:=?_) rfl (by kernel_rfl) (by kernel_rfl) (by kernel_rfl) (fun _ _ _ h=>h) (Or.inl ⟨by rfl,?_⟩) (by assumption) ?_
       rotate_left
       ·intro W9 hSw
        go_simp
        rfl
       simp only [Act.put,List.setIfInBounds_toArray,List.set_cons_zero,List.set_cons_succ]
       refine wpAnyH_ready (rs:=[13]) (by kernel_rfl) (by simp) ?_
       refine AllReadyH.cons rfl (fun K hK=>?_) AllReadyH.nil
       go_simp
       refine hK.out _ _ ?_ (fun hHeld=>?_)
       ·first|exact c7|exact (zaa (by omega)).trans c7|exact (zaa (by omega)).trans ((zaa (by omega)).trans c7)
       clear hK K
       try simp only [Act.put,List.setIfInBounds_toArray,List.set_cons_zero,List.set_cons_succ]
       refine wpAnyH_take (i:=14) (v:=?_) rfl (by kernel_rfl) (by kernel_rfl) (by kernel_rfl) (fun _ _ _ h=>h) (Or.inl ⟨by rfl,?_⟩) (by assumption) ?_
       rotate_left
       ·intro W9 hSw
        go_simp
        rfl
       simp only [Act.put,List.setIfInBounds_toArray,List.set_cons_zero,List.set_cons_succ]
       refine wpAnyH_ready (rs:=[15]) (by kernel_rfl) (by simp) ?_
       refine AllReadyH.cons rfl (fun K hK=>?_) AllReadyH.nil
       go_simp
       refine hK.out _ _ ?_ (fun hHeld=>?_)
       ·first|exact c7|exact (zaa (by omega)).trans c7|exact (zaa (by omega)).trans ((zaa (by omega)).trans c7)
       clear hK K
       try simp only [Act.put,List.setIfInBounds_toArray,List.set_cons_zero,List.set_cons_succ]
       refine wpAnyH_done (by kernel_rfl) ?_ _
       gi_wp2
       exact KEY.out _ _ (k+1) (by omega) (.inr HWX.out.symm) rfl
     ·gi_wp2_with (refine ⟨trivial,?_⟩;gi_at_call 35;refine (CallsIn.inRound l (callsIn_wide.2 (CL _))).mono ?_;rintro e w4 ⟨rfl,rfl⟩)
      generalize hWx:W.setCell ⟨b9,0,none⟩ (.int .i64 ((k:Int)+1))=Wx
      replace c7:Wx.cell? ⟨b7,0,none⟩=some (.slice (some ⟨bp,0,none⟩) n n):=by rw [← hWx];exact (zaa (by omega)).trans c7
      replace ci:Wx.cell? ⟨bp,i,none⟩=some (.int .i64 y):=by rw [← hWx];exact (zaa (by omega)).trans ci
      replace fi:Wx.frozen? ⟨bp,i,none⟩=false:=by rw [← hWx,World.frozen?_setCell];exact fi
      replace cj:Wx.cell? ⟨bp,j,none⟩=some (.int .i64 z):=by rw [← hWx];exact (zaa (by omega)).trans cj
      replace fj:Wx.frozen? ⟨bp,j,none⟩=false:=by rw [← hWx,World.frozen?_setCell];exact fj
      have HWX:=Lib.hid hWx
      clear hWx c9 f9 c3 cd CL
      refine zbk (fun W'=>W'.cell? ⟨b7,0,none⟩=some (.slice (some ⟨bp,0,none⟩) n n)) (by kernel_rfl) (by kernel_rfl) (by rintro ⟨a9,w9,h9⟩;exact h9) c7 (fun hHeld=>?_)
      refine wpAnyH_take (i:=0) (v:=?_) rfl (by kernel_rfl) (by kernel_rfl) (by kernel_rfl) (fun _ _ _ h=>h) (Or.inl ⟨by rfl,?_⟩) (by assumption) ?_
      rotate_left
      ·intro W9 hSw
       go_simp
       rfl
      simp only [Act.put,List.setIfInBounds_toArray,List.set_cons_zero,List.set_cons_succ]
      refine wpAnyH_take (i:=1) (v:=?_) rfl (by kernel_rfl) (by kernel_rfl) (by kernel_rfl) (fun _ _ _ h=>h) (Or.inl ⟨by rfl,?_⟩) (by assumption) ?_
      rotate_left
      ·intro W9 hSw
       go_simp
       rfl
      simp only [Act.put,List.setIfInBounds_toArray,List.set_cons_zero,List.set_cons_succ]
      refine wpAnyH_take (i:=2) (v:=?_) rfl (by kernel_rfl) (by kernel_rfl) (by kernel_rfl) (fun _ _ _ h=>h) (Or.inl ⟨by rfl,?_⟩) (by assumption) ?_
      rotate_left
      ·intro W9 hSw
       go_simp
       rfl
      simp only [Act.put,List.setIfInBounds_toArray,List.set_cons_zero,List.set_cons_succ]
      refine wpAnyH_take (i:=3) (v:=?_) rfl (by kernel_rfl) (by kernel_rfl) (by kernel_rfl) (fun _ _ _ h=>h) (Or.inl ⟨by rfl,?_⟩) (by assumption) ?_
      rotate_left
      ·intro W9 hSw
       go_simp
       rfl
      simp only [Act.put,List.setIfInBounds_toArray,List.set_cons_zero,List.set_cons_succ]
      refine wpAnyH_take (i:=4) (v:=?_) rfl (by kernel_rfl) (by kernel_rfl) (by kernel_rfl) (fun _ _ _ h=>h) (Or.inl ⟨by rfl,?_⟩) (by assumption) ?_
      rotate_left
      ·intro W9 hSw
       go_simp
       rfl
      simp only [Act.put,List.setIfInBounds_toArray,List.set_cons_zero,List.set_cons_succ]
      refine wpAnyH_take (i:=5) (v:=?_) rfl (by kernel_rfl) (by kernel_rfl) (by kernel_rfl) (fun _ _ _ h=>h) (Or.inl ⟨by rfl,?_⟩) (by assumption) ?_
      rotate_left
      ·intro W9 hSw
       go_simp
       rfl
      simp only [Act.put,List.setIfInBounds_toArray,List.set_cons_zero,List.set_cons_succ]
      refine wpAnyH_take (i:=6) (v:=?_) rfl (by kernel_rfl) (by kernel_rfl) (by kernel_rfl) (fun _ _ _ h=>h) (Or.inl ⟨by rfl,?_⟩) (by assumption) ?_
      rotate_left
      ·intro W9 hSw
       go_simp
       rfl
      simp only [Act.put,List.setIfInBounds_toArray,List.set_cons_zero,List.set_cons_succ]
      refine wpAnyH_take (i:=8) (v:=?_) rfl (by kernel_rfl) (by kernel_rfl) (by kernel_rfl) (fun _ _ _ h=>h) (Or.inl ⟨by rfl,?_⟩) (by assumption) ?_
      rotate_left
      ·intro W9 hSw
       go_simp
       rfl
      simp only [Act.put,List.setIfInBounds_toArray,List.set_cons_zero,List.set_cons_succ]
      refine wpAnyH_take (i:=9) (v:=?_) rfl (by kernel_rfl) (by kernel_rfl) (by kernel_rfl) (fun _ _ _ h=>h) (Or.inl ⟨by rfl,?_⟩) (by assumption) ?_
      rotate_left
      ·intro W9 hSw
       go_simp
       rfl
      simp only [Act.put,List.setIfInBounds_toArray,List.set_cons_zero,List.set_cons_succ]
      refine wpAnyH_take (i:=10) (v:=?_) rfl (by kernel_rfl) (by kernel_rfl) (by kernel_rfl) (fun _ _ _ h=>h) (Or.inl ⟨by rfl,?_⟩) (by assumption) ?_
      rotate_left
      ·intro W9 hSw
       go_simp
       rfl
      simp only [Act.put,List.setIfInBounds_toArray,List.set_cons_zero,List.set_cons_succ]
      refine wpAnyH_ready (rs:=[7,11]) (by kernel_rfl) (by simp) ?_
      refine AllReadyH.cons rfl (fun K hK=>?_) (AllReadyH.cons rfl (fun K hK=>?_) AllReadyH.nil)
      ·go_simp
       refine hK.out _ _ ?_ (fun hHeld=>?_)
       ·first|exact c7|exact (zaa (by omega)).trans c7|exact (zaa (by omega)).trans ((zaa (by omega)).trans c7)
       clear hK K
       try simp only [Act.put,List.setIfInBounds_toArray,List.set_cons_zero,List.set_cons_succ]
       refine wpAnyH_ready (rs:=[11]) (by kernel_rfl) (by simp) ?_
       refine AllReadyH.cons rfl (fun K hK=>?_) AllReadyH.nil
       go_simp
       refine hK.out _ _ ?_ (fun hHeld=>?_)
       ·first|exact c7|exact (zaa (by omega)).trans c7|exact (zaa (by omega)).trans ((zaa (by omega)).trans c7)
       clear hK K
       try simp only [Act.put,List.setIfInBounds_toArray,List.set_cons_zero,List.set_cons_succ]
       refine wpAnyH_take (i:=12) (v:=?_) rfl (by kernel_rfl) (by kernel_rfl) (by kernel_rfl) (fun _ _ _ h=>h) (Or.inl ⟨by rfl,?_⟩) (by assumption) ?_
       rotate_left
       ·intro W9 hSw
        go_simp
        rfl
       simp only [Act.put,List.setIfInBounds_toArray,List.set_cons_zero,List.set_cons_succ]
       refine wpAnyH_ready (rs:=[13]) (by kernel_rfl) (by simp) ?_
       refine AllReadyH.cons rfl (fun K hK=>?_) AllReadyH.nil
       go_simp
       refine hK.out _ _ ?_ (fun hHeld=>?_)
       ·first|exact c7|exact (zaa (by omega)).trans c7|exact (zaa (by omega)).trans ((zaa (by omega)).trans c7)
       clear hK K
       try simp only [Act.put,List.setIfInBounds_toArray,List.set_cons_zero,List.set_cons_succ]
       refine wpAnyH_take (i:=14) (v:=?_) rfl (by kernel_rfl) (by kernel_rfl) (by kernel_rfl) (fun _ _ _ h=>h) (Or.inl ⟨by rfl,?_⟩) (by assumption) ?_
       rotate_left
       ·intro W9 hSw
        go_simp
        rfl
       simp only [Act.put,List.setIfInBounds_toArray,List.set_cons_zero,List.set_cons_succ]
       refine wpAnyH_ready (rs:=[15]) (by kernel_rfl) (by simp) ?_
       refine AllReadyH.cons rfl (fun K hK=>?_) AllReadyH.nil
       go_simp
       refine hK.out _ _ ?_ (fun hHeld=>?_)
       ·first|exact c7|exact (zaa (by omega)).trans c7|exact (zaa (by omega)).trans ((zaa (by omega)).trans c7)
       clear hK K
       try simp only [Act.put,List.setIfInBounds_toArray,List.set_cons_zero,List.set_cons_succ]
       refine wpAnyH_done (by kernel_rfl) ?_ _
       gi_wp2
       exact KEY.out _ _ (k+1) (by omega) (.inr HWX.out.symm) rfl
      ·go_simp
       refine hK.out _ _ ?_ (fun hHeld=>?_)
       ·first|exact c7|exact (zaa (by omega)).trans c7|exact (zaa (by omega)).trans ((zaa (by omega)).trans c7)
       clear hK K
       try simp only [Act.put,List.setIfInBounds_toArray,List.set_cons_zero,List.set_cons_succ]
       refine wpAnyH_ready (rs:=[7]) (by kernel_rfl) (by simp) ?_
       refine AllReadyH.cons rfl (fun K hK=>?_) AllReadyH.nil
       go_simp
       refine hK.out _ _ ?_ (fun hHeld=>?_)
       ·first|exact c7|exact (zaa (by omega)).trans c7|exact (zaa (by omega)).trans ((zaa (by omega)).trans c7)
       clear hK K
       try simp only [Act.put,List.setIfInBounds_toArray,List.set_cons_zero,List.set_cons_succ]
       refine wpAnyH_take (i:=12) (v:=?_) rfl (by kernel_rfl) (by kernel_rfl) (by kernel_rfl) (fun _ _ _ h=>h) (Or.inl ⟨by rfl,?_⟩) (by assumption) ?_
       rotate_left
       ·intro W9 hSw
        go_simp
        rfl
       simp only [Act.put,List.setIfInBounds_toArray,List.set_cons_zero,List.set_cons_succ]
       refine wpAnyH_ready (rs:=[13]) (by kernel_rfl) (by simp) ?_
       refine AllReadyH.cons rfl (fun K hK=>?_) AllReadyH.nil
       go_simp
       refine hK.out _ _ ?_ (fun hHeld=>?_)
       ·first|exact c7|exact (zaa (by omega)).trans c7|exact (zaa (by omega)).trans ((zaa (by omega)).trans c7)
       clear hK K
       try simp only [Act.put,List.setIfInBounds_toArray,List.set_cons_zero,List.set_cons_succ]
       refine wpAnyH_take (i:=14) (v:=?_) rfl (by kernel_rfl) (by kernel_rfl) (by kernel_rfl) (fun _ _ _ h=>h) (Or.inl ⟨by rfl,?_⟩) (by assumption) ?_
       rotate_left
       ·intro W9 hSw
        go_simp
        rfl
       simp only [Act.put,List.setIfInBounds_toArray,List.set_cons_zero,List.set_cons_succ]
       refine wpAnyH_ready (rs:=[15]) (by kernel_rfl) (by simp) ?_
       refine AllReadyH.cons rfl (fun K hK=>?_) AllReadyH.nil
       go_simp
       refine hK.out _ _ ?_ (fun hHeld=>?_)
       ·first|exact c7|exact (zaa (by omega)).trans c7|exact (zaa (by omega)).trans ((zaa (by omega)).trans c7)
       clear hK K
       try simp only [Act.put,List.setIfInBounds_toArray,List.set_cons_zero,List.set_cons_succ]
       refine wpAnyH_done (by kernel_rfl) ?_ _
       gi_wp2
       exact KEY.out _ _ (k+1) (by omega) (.inr HWX.out.symm) rfl
    ·have hx0:v=0:=by rw [HV.out,List.getD,List.getElem?_eq_none (by rw [HM.out];have:=HD.out;omega)];rfl
     subst hx0
     have hkm:min (k+1) m=d:=by have:=HD.out;omega
     have HKM:=Lib.hid hkm
     clear hkm
     by_cases hij:i=j
     ·subst hij
      obtain rfl:y=z:=by have:=ci.symm.trans cj;simpa using this
      clear cj fj
      gi_wp2_with (refine ⟨trivial,?_⟩;gi_at_call 35;refine (CallsIn.inRound l (callsIn_wide.2 (CL _))).mono ?_;rintro e w4 ⟨rfl,rfl⟩)
      refine zbk (fun W'=>W'.cell? ⟨b7,0,none⟩=some (.slice (some ⟨bp,0,none⟩) n n)) (by kernel_rfl) (by kernel_rfl) (by rintro ⟨a9,w9,h9⟩;exact h9) c7 (fun hHeld=>?_)
      refine wpAnyH_take (i:=0) (v:=?_) rfl (by kernel_rfl) (by kernel_rfl) (by kernel_rfl) (fun _ _ _ h=>h) (Or.inl ⟨by rfl,?_⟩) (by assumption) ?_
      rotate_left
      ·intro W9 hSw
       go_simp
       rfl
      simp only [Act.put,List.setIfInBounds_toArray,List.set_cons_zero,List.set_cons_succ]
      refine wpAnyH_take (i:=1) (v:=?_) rfl (by kernel_rfl) (by kernel_rfl) (by kernel_rfl) (fun _ _ _ h=>h) (Or.inl ⟨by rfl,?_⟩) (by assumption) ?_
      rotate_left
      ·intro W9 hSw
       go_simp
       rfl
      simp only [Act.put,List.setIfInBounds_toArray,List.set_cons_zero,List.set_cons_succ]
      refine wpAnyH_take (i:=2) (v:=?_) rfl (by kernel_rfl) (by kernel_rfl) (by kernel_rfl) (fun _ _ _ h=>h) (Or.inl ⟨by rfl,?_⟩) (by assumption) ?_
      rotate_left
      ·intro W9 hSw
       go_simp
       rfl
      simp only [Act.put,List.setIfInBounds_toArray,List.set_cons_zero,List.set_cons_succ]
      refine wpAnyH_take (i:=3) (v:=?_) rfl (by kernel_rfl) (by kernel_rfl) (by kernel_rfl) (fun _ _ _ h=>h) (Or.inl ⟨by rfl,?_⟩) (by assumption) ?_
      rotate_left
      ·intro W9 hSw
       go_simp
       rfl
      simp only [Act.put,List.setIfInBounds_toArray,List.set_cons_zero,List.set_cons_succ]
      refine wpAnyH_take (i:=4) (v:=?_) rfl (by kernel_rfl) (by kernel_rfl) (by kernel_rfl) (fun _ _ _ h=>h) (Or.inl ⟨by rfl,?_⟩) (by assumption) ?_
      rotate_left
      ·intro W9 hSw
       go_simp
       rfl
      simp only [Act.put,List.setIfInBounds_toArray,List.set_cons_zero,List.set_cons_succ]
      refine wpAnyH_take (i:=5) (v:=?_) rfl (by kernel_rfl) (by kernel_rfl) (by kernel_rfl) (fun _ _ _ h=>h) (Or.inl ⟨by rfl,?_⟩) (by assumption) ?_
      rotate_left
      ·intro W9 hSw
       go_simp
       rfl
      simp only [Act.put,List.setIfInBounds_toArray,List.set_cons_zero,List.set_cons_succ]
      refine wpAnyH_take (i:=6) (v:=?_) rfl (by kernel_rfl) (by kernel_rfl) (by kernel_rfl) (fun _ _ _ h=>h) (Or.inl ⟨by rfl,?_⟩) (by assumption) ?_
      rotate_left
      ·intro W9 hSw
       go_simp
       rfl
      simp only [Act.put,List.setIfInBounds_toArray,List.set_cons_zero,List.set_cons_succ]
      refine wpAnyH_take (i:=8) (v:=?_) rfl (by kernel_rfl) (by kernel_rfl) (by kernel_rfl) (fun _ _ _ h=>h) (Or.inl ⟨by rfl,?_⟩) (by assumption) ?_
      rotate_left
      ·intro W9 hSw
       go_simp
       rfl
      simp only [Act.put,List.setIfInBounds_toArray,List.set_cons_zero,List.set_cons_succ]
      refine wpAnyH_take (i:=9) (v:=?_) rfl (by kernel_rfl) (by kernel_rfl) (by kernel_rfl) (fun _ _ _ h=>h) (Or.inl ⟨by rfl,?_⟩) (by assumption) ?_
      rotate_left
      ·intro W9 hSw
       go_simp
       rfl
      simp only [Act.put,List.setIfInBounds_toArray,List.set_cons_zero,List.set_cons_succ]
      refine wpAnyH_take (i:=10) (v:=?_) rfl (by kernel_rfl) (by kernel_rfl) (by kernel_rfl) (fun _ _ _ h=>h) (Or.inl ⟨by rfl,?_⟩) (by assumption) ?_
      rotate_left
      ·intro W9 hSw
       go_simp
       rfl
      simp only [Act.put,List.setIfInBounds_toArray,List.set_cons_zero,List.set_cons_succ]
      refine wpAnyH_ready (rs:=[7,11]) (by kernel_rfl) (by simp) ?_
      refine AllReadyH.cons rfl (fun K hK=>?_) (AllReadyH.cons rfl (fun K hK=>?_) AllReadyH.nil)
      ·go_simp
       refine hK.out _ _ ?_ (fun hHeld=>?_)
       ·first|exact c7|exact (zaa (by omega)).trans c7|exact (zaa (by omega)).trans ((zaa (by omega)).trans c7)
       clear hK K
       try simp only [Act.put,List.setIfInBounds_toArray,List.set_cons_zero,List.set_cons_succ]
       refine wpAnyH_ready (rs:=[11]) (by kernel_rfl) (by simp) ?_
       refine AllReadyH.cons rfl (fun K hK=>?_) AllReadyH.nil
       go_simp
       refine hK.out _ _ ?_ (fun hHeld=>?_)
       ·first|exact c7|exact (zaa (by omega)).trans c7|exact (zaa (by omega)).trans ((zaa (by omega)).trans c7)
       clear hK K
       try simp only [Act.put,List.setIfInBounds_toArray,List.set_cons_zero,List.set_cons_succ]
       refine wpAnyH_take (i:=12) (v:=?_) rfl (by kernel_rfl) (by kernel_rfl) (by kernel_rfl) (fun _ _ _ h=>h) (Or.inl ⟨by rfl,?_⟩) (by assumption) ?_
       rotate_left
       ·intro W9 hSw
        go_simp
        rfl
       simp only [Act.put,List.setIfInBounds_toArray,List.set_cons_zero,List.set_cons_succ]
       refine wpAnyH_ready (rs:=[13]) (by kernel_rfl) (by simp) ?_
       refine AllReadyH.cons rfl (fun K hK=>?_) AllReadyH.nil
       go_simp
       refine hK.out _ _ ?_ (fun hHeld=>?_)
       ·first|exact c7|exact (zaa (by omega)).trans c7|exact (zaa (by omega)).trans ((zaa (by omega)).trans c7)
       clear hK K
       try simp only [Act.put,List.setIfInBounds_toArray,List.set_cons_zero,List.set_cons_succ]
       refine wpAnyH_take (i:=14) (v:=?_) rfl (by kernel_rfl) (by kernel_rfl) (by kernel_rfl) (fun _ _ _ h=>h) (Or.inl ⟨by rfl,?_⟩) (by assumption) ?_
       rotate_left
       ·intro W9 hSw
        go_simp
        rfl
       simp only [Act.put,List.setIfInBounds_toArray,List.set_cons_zero,List.set_cons_succ]
       refine wpAnyH_ready (rs:=[15]) (by kernel_rfl) (by simp) ?_
       refine AllReadyH.cons rfl (fun K hK=>?_) AllReadyH.nil
       go_simp
       refine hK.out _ _ ?_ (fun hHeld=>?_)
       ·first|exact c7|exact (zaa (by omega)).trans c7|exact (zaa (by omega)).trans ((zaa (by omega)).trans c7)
       clear hK K
       try simp only [Act.put,List.setIfInBounds_toArray,List.set_cons_zero,List.set_cons_succ]
       refine wpAnyH_done (by kernel_rfl) ?_ _
       gi_wp2
       exact KEY.out _ _ d HKM.out.symm (.inl ⟨rfl,rfl⟩) rfl
      ·go_simp
       refine hK.out _ _ ?_ (fun hHeld=>?_)
       ·first|exact c7|exact (zaa (by omega)).trans c7|exact (zaa (by omega)).trans ((zaa (by omega)).trans c7)
       clear hK K
       try simp only [Act.put,List.setIfInBounds_toArray,List.set_cons_zero,List.set_cons_succ]
       refine wpAnyH_ready (rs:=[7]) (by kernel_rfl) (by simp) ?_
       refine AllReadyH.cons rfl (fun K hK=>?_) AllReadyH.nil
       go_simp
       refine hK.out _ _ ?_ (fun hHeld=>?_)
       ·first|exact c7|exact (zaa (by omega)).trans c7|exact (zaa (by omega)).trans ((zaa (by omega)).trans c7)
       clear hK K
       try simp only [Act.put,List.setIfInBounds_toArray,List.set_cons_zero,List.set_cons_succ]
       refine wpAnyH_take (i:=12) (v:=?_) rfl (by kernel_rfl) (by kernel_rfl) (by kernel_rfl) (fun _ _ _ h=>h) (Or.inl ⟨by rfl,?_⟩) (by assumption) ?_
       rotate_left
       ·intro W9 hSw
        go_simp
        rfl
       simp only [Act.put,List.setIfInBounds_toArray,List.set_cons_zero,List.set_cons_succ]
       refine wpAnyH_ready (rs:=[13]) (by kernel_rfl) (by simp) ?_
       refine AllReadyH.cons rfl (fun K hK=>?_) AllReadyH.nil
       go_simp
       refine hK.out _ _ ?_ (fun hHeld=>?_)
       ·first|exact c7|exact (zaa (by omega)).trans c7|exact (zaa (by omega)).trans ((zaa (by omega)).trans c7)
       clear hK K
       try simp only [Act.put,List.setIfInBounds_toArray,List.set_cons_zero,List.set_cons_succ]
       refine wpAnyH_take (i:=14) (v:=?_) rfl (by kernel_rfl) (by kernel_rfl) (by kernel_rfl) (fun _ _ _ h=>h) (Or.inl ⟨by rfl,?_⟩) (by assumption) ?_
       rotate_left
       ·intro W9 hSw
        go_simp
        rfl
       simp only [Act.put,List.setIfInBounds_toArray,List.set_cons_zero,List.set_cons_succ]
       refine wpAnyH_ready (rs:=[15]) (by kernel_rfl) (by simp) ?_
       refine AllReadyH.cons rfl (fun K hK=>?_) AllReadyH.nil
       go_simp
       refine hK.out _ _ ?_ (fun hHeld=>?_)
       ·first|exact c7|exact (zaa (by omega)).trans c7|exact (zaa (by omega)).trans ((zaa (by omega)).trans c7)
       clear hK K
       try simp only [Act.put,List.setIfInBounds_toArray,List.set_cons_zero,List.set_cons_succ]
       refine wpAnyH_done (by kernel_rfl) ?_ _
       gi_wp2
       exact KEY.out _ _ d HKM.out.symm (.inl ⟨rfl,rfl⟩) rfl
     ·gi_wp2_with (refine ⟨trivial,?_⟩;gi_at_call 35;refine (CallsIn.inRound l (callsIn_wide.2 (CL _))).mono ?_;rintro e w4 ⟨rfl,rfl⟩)
      refine zbk (fun W'=>W'.cell? ⟨b7,0,none⟩=some (.slice (some ⟨bp,0,none⟩) n n)) (by kernel_rfl) (by kernel_rfl) (by rintro ⟨a9,w9,h9⟩;exact h9) c7 (fun hHeld=>?_)
      refine wpAnyH_take (i:=0) (v:=?_) rfl (by kernel_rfl) (by kernel_rfl) (by kernel_rfl) (fun _ _ _ h=>h) (Or.inl ⟨by rfl,?_⟩) (by assumption) ?_
      rotate_left
      ·intro W9 hSw
       go_simp
       rfl
      simp only [Act.put,List.setIfInBounds_toArray,List.set_cons_zero,List.set_cons_succ]
      refine wpAnyH_take (i:=1) (v:=?_) rfl (by kernel_rfl) (by kernel_rfl) (by kernel_rfl) (fun _ _ _ h=>h) (Or.inl ⟨by rfl,?_⟩) (by assumption) ?_
      rotate_left
      ·intro W9 hSw
       go_simp
       rfl
      simp only [Act.put,List.setIfInBounds_toArray,List.set_cons_zero,List.set_cons_succ]
      refine wpAnyH_take (i:=2) (v:=?_) rfl (by kernel_rfl) (by kernel_rfl) (by kernel_rfl) (fun _ _ _ h=>h) (Or.inl ⟨by rfl,?_⟩) (by assumption) ?_
      rotate_left
      ·intro W9 hSw
       go_simp
       rfl
      simp only [Act.put,List.setIfInBounds_toArray,List.set_cons_zero,List.set_cons_succ]
      refine wpAnyH_take (i:=3) (v:=?_) rfl (by kernel_rfl) (by kernel_rfl) (by kernel_rfl) (fun _ _ _ h=>h) (Or.inl ⟨by rfl,?_⟩) (by assumption) ?_
      rotate_left
      ·intro W9 hSw
       go_simp
       rfl
      simp only [Act.put,List.setIfInBounds_toArray,List.set_cons_zero,List.set_cons_succ]
      refine wpAnyH_take (i:=4) (v:=?_) rfl (by kernel_rfl) (by kernel_rfl) (by kernel_rfl) (fun _ _ _ h=>h) (Or.inl ⟨by rfl,?_⟩) (by assumption) ?_
      rotate_left
      ·intro W9 hSw
       go_simp
       rfl
      simp only [Act.put,List.setIfInBounds_toArray,List.set_cons_zero,List.set_cons_succ]
      refine wpAnyH_take (i:=5) (v:=?_) rfl (by kernel_rfl) (by kernel_rfl) (by kernel_rfl) (fun _ _ _ h=>h) (Or.inl ⟨by rfl,?_⟩) (by assumption) ?_
      rotate_left
      ·intro W9 hSw
       go_simp
       rfl
      simp only [Act.put,List.setIfInBounds_toArray,List.set_cons_zero,List.set_cons_succ]
      refine wpAnyH_take (i:=6) (v:=?_) rfl (by kernel_rfl) (by kernel_rfl) (by kernel_rfl) (fun _ _ _ h=>h) (Or.inl ⟨by rfl,?_⟩) (by assumption) ?_
      rotate_left
      ·intro W9 hSw
       go_simp
       rfl
      simp only [Act.put,List.setIfInBounds_toArray,List.set_cons_zero,List.set_cons_succ]
      refine wpAnyH_take (i:=8) (v:=?_) rfl (by kernel_rfl) (by kernel_rfl) (by kernel_rfl) (fun _ _ _ h=>h) (Or.inl ⟨by rfl,?_⟩) (by assumption) ?_
      rotate_left
      ·intro W9 hSw
       go_simp
       rfl
      simp only [Act.put,List.setIfInBounds_toArray,List.set_cons_zero,List.set_cons_succ]
      refine wpAnyH_take (i:=9) (v:=?_) rfl (by kernel_rfl) (by kernel_rfl) (by kernel_rfl) (fun _ _ _ h=>h) (Or.inl ⟨by rfl,?_⟩) (by assumption) ?_
      rotate_left
      ·intro W9 hSw
       go_simp
       rfl
      simp only [Act.put,List.setIfInBounds_toArray,List.set_cons_zero,List.set_cons_succ]
      refine wpAnyH_take (i:=10) (v:=?_) rfl (by kernel_rfl) (by kernel_rfl) (by kernel_rfl) (fun _ _ _ h=>h) (Or.inl ⟨by rfl,?_⟩) (by assumption) ?_
      rotate_left
      ·intro W9 hSw
       go_simp
       rfl
      simp only [Act.put,List.setIfInBounds_toArray,List.set_cons_zero,List.set_cons_succ]
      refine wpAnyH_ready (rs:=[7,11]) (by kernel_rfl) (by simp) ?_
      refine AllReadyH.cons rfl (fun K hK=>?_) (AllReadyH.cons rfl (fun K hK=>?_) AllReadyH.nil)
      ·go_simp
       refine hK.out _ _ ?_ (fun hHeld=>?_)
       ·first|exact c7|exact (zaa (by omega)).trans c7|exact (zaa (by omega)).trans ((zaa (by omega)).trans c7)
       clear hK K
       try simp only [Act.put,List.setIfInBounds_toArray,List.set_cons_zero,List.set_cons_succ]
       refine wpAnyH_ready (rs:=[11]) (by kernel_rfl) (by simp) ?_
       refine AllReadyH.cons rfl (fun K hK=>?_) AllReadyH.nil
       go_simp
       refine hK.out _ _ ?_ (fun hHeld=>?_)
       ·first|exact c7|exact (zaa (by omega)).trans c7|exact (zaa (by omega)).trans ((zaa (by omega)).trans c7)
       clear hK K
       try simp only [Act.put,List.setIfInBounds_toArray,List.set_cons_zero,List.set_cons_succ]
       refine wpAnyH_take (i:=12) (v:=?_) rfl (by kernel_rfl) (by kernel_rfl) (by kernel_rfl) (fun _ _ _ h=>h) (Or.inl ⟨by rfl,?_⟩) (by assumption) ?_
       rotate_left
       ·intro W9 hSw
        go_simp
        rfl
       simp only [Act.put,List.setIfInBounds_toArray,List.set_cons_zero,List.set_cons_succ]
       refine wpAnyH_ready (rs:=[13]) (by kernel_rfl) (by simp) ?_
       refine AllReadyH.cons rfl (fun K hK=>?_) AllReadyH.nil
       go_simp
       refine hK.out _ _ ?_ (fun hHeld=>?_)
       ·first|exact c7|exact (zaa (by omega)).trans c7|exact (zaa (by omega)).trans ((zaa (by omega)).trans c7)
       clear hK K
       try simp only [Act.put,List.setIfInBounds_toArray,List.set_cons_zero,List.set_cons_succ]
       refine wpAnyH_take (i:=14) (v:=?_) rfl (by kernel_rfl) (by kernel_rfl) (by kernel_rfl) (fun _ _ _ h=>h) (Or.inl ⟨by rfl,?_⟩) (by assumption) ?_
       rotate_left
       ·intro W9 hSw
        go_simp
        rfl
       simp only [Act.put,List.setIfInBounds_toArray,List.set_cons_zero,List.set_cons_succ]
       refine wpAnyH_ready (rs:=[15]) (by kernel_rfl) (by simp) ?_
       refine AllReadyH.cons rfl (fun K hK=>?_) AllReadyH.nil
       go_simp
       refine hK.out _ _ ?_ (fun hHeld=>?_)
       ·first|exact c7|exact (zaa (by omega)).trans c7|exact (zaa (by omega)).trans ((zaa (by omega)).trans c7)
       clear hK K
       try simp only [Act.put,List.setIfInBounds_toArray,List.set_cons_zero,List.set_cons_succ]
       refine wpAnyH_done (by kernel_rfl) ?_ _
       gi_wp2
       exact KEY.out _ _ d HKM.out.symm (.inl ⟨rfl,rfl⟩) rfl
      ·go_simp
       refine hK.out _ _ ?_ (fun hHeld=>?_)
       ·first|exact c7|exact (zaa (by omega)).trans c7|exact (zaa (by omega)).trans ((zaa (by omega)).trans c7)
       clear hK K
       try simp only [Act.put,List.setIfInBounds_toArray,List.set_cons_zero,List.set_cons_succ]
       refine wpAnyH_ready (rs:=[7]) (by kernel_rfl) (by simp) ?_
       refine AllReadyH.cons rfl (fun K hK=>?_) AllReadyH.nil
       go_simp
       refine hK.out _ _ ?_ (fun hHeld=>?_)
       ·first|exact c7|exact (zaa (by omega)).trans c7|exact (zaa (by omega)).trans ((zaa (by omega)).trans c7)
       clear hK K
       try simp only [Act.put,List.setIfInBounds_toArray,List.set_cons_zero,List.set_cons_succ]
       refine wpAnyH_take (i:=12) (v:=?_) rfl (by kernel_rfl) (by kernel_rfl) (by kernel_rfl) (fun _ _ _ h=>h) (Or.inl ⟨by rfl,?_⟩) (by assumption) ?_
       rotate_left
       ·intro W9 hSw
        go_simp
        rfl
       simp only [Act.put,List.setIfInBounds_toArray,List.set_cons_zero,List.set_cons_succ]
       refine wpAnyH_ready (rs:=[13]) (by kernel_rfl) (by simp) ?_
       refine AllReadyH.cons rfl (fun K hK=>?_) AllReadyH.nil
       go_simp
       refine hK.out _ _ ?_ (fun hHeld=>?_)
       ·first|exact c7|exact (zaa (by omega)).trans c7|exact (zaa (by omega)).trans ((zaa (by omega)).trans c7)
       clear hK K
       try simp only [Act.put,List.setIfInBounds_toArray,List.set_cons_zero,List.set_cons_succ]
       refine wpAnyH_take (i:=14) (v:=?_) rfl (by kernel_rfl) (by kernel_rfl) (by kernel_rfl) (fun _ _ _ h=>h) (Or.inl ⟨by rfl,?_⟩) (by assumption) ?_
       rotate_left
       ·intro W9 hSw
        go_simp
        rfl
       simp only [Act.put,List.setIfInBounds_toArray,List.set_cons_zero,List.set_cons_succ]
       refine wpAnyH_ready (rs:=[15]) (by kernel_rfl) (by simp) ?_
       refine AllReadyH.cons rfl (fun K hK=>?_) AllReadyH.nil
       go_simp
       refine hK.out _ _ ?_ (fun hHeld=>?_)
       ·first|exact c7|exact (zaa (by omega)).trans c7|exact (zaa (by omega)).trans ((zaa (by omega)).trans c7)
       clear hK K
       try simp only [Act.put,List.setIfInBounds_toArray,List.set_cons_zero,List.set_cons_succ]
       refine wpAnyH_done (by kernel_rfl) ?_ _
       gi_wp2
       exact KEY.out _ _ d HKM.out.symm (.inl ⟨rfl,rfl⟩) rfl
   case done =>
    rintro D ys W hD rfl ⟨⟨hrow,hx7,hx9,hx3,hsz⟩,hB⟩ hDD
    have c7:=hx7.1
    have c9:=hx9.1
    rw [zrf n ds (n - 1) (Nat.le_refl _)] at hrow
    rw [zi2] at c9
    obtain ⟨d,hd⟩:∃ d,d=min (n - 1) m:=⟨_,rfl⟩
    rw [← hd] at c9
    have HDE:=Lib.hid hd
    have HROW:=Lib.hid hrow
    clear hx7 hx9 hx3 hrow hd
    gi_wp2
    gi_region
    gi_wp2
    refine ⟨by simp,.inl ⟨_,_,rfl,run_takeDeferred hDD,?_⟩⟩
    refine ⟨.tuple #[.slice (some ⟨bp,0,none⟩) n n,.int .i64 d,.int .i64 0],by simp [results,Tryd.results20,go_sem],?_⟩
    have hde:=HDE.out
    rw [← HM.out] at hde
    subst hde
    have hg:=grownBy_putObj' W.drew D (.deferred none)
    exact ⟨_,n,rfl,Nat.le_refl _,(VRow.kept (W:=W.drew) hg (fun r e=>by cases e;exact ⟨_,hDD,rfl⟩) HROW.out).rd (Nat.lt_of_lt_of_le (show bp<W.heap.size by omega) hg.size),(bdr hB).trans (belowK_b (w:=w) (Nat.le_refl _) W.drew D _ _ (by omega) hDD rfl rfl)⟩
end
section
open Go.RowKit Go.ChangeShapes Go.WideShapes Go.ChangeAt
end
section
open Go.RowKit Go.ChangeShapes Go.WideShapes Go.ChangeAt
end
section
open Go.RowKit Go.ChangeShapes Go.WideShapes Go.ChangeAt
end
section
open Go.RowKit Go.ChangeShapes Go.WideShapes Go.ChangeAt
theorem zgu:∀ (Ls Ns:List (List Int)) (body:List Int),(∀ xs∈Ns,Byt xs)→Byt body→Byt (zc1 Ls Ns body)
 | s :: Ls,n :: Ns,body,h,hb=>zvi (h n (List.mem_cons_self ..)) (zgu Ls Ns body (fun xs hxs=>h xs (List.mem_cons_of_mem _ hxs)) hb)
 | [],_,_,_,hb=>by simpa [zc1] using hb
 | _ :: _,[],_,_,hb=>by simpa [zc1] using hb
end
section
open Go.RowKit Go.ChangeShapes Go.WideShapes Go.ChangeAt
noncomputable def zds (server:List Int)(hop hops:Int)(b:List Int): Int:=by
 classical exact if zgi hop hops b.length then zis server (zbr hop.toNat b) else 1
theorem zmx {server:List Int}{hop hops:Int}{b:List Int}(h:¬ zgi hop hops b.length): zds server hop hops b=1:=if_neg h
theorem zkf {server:List Int}{hop hops:Int}{b:List Int}(h:zgi hop hops b.length): zds server hop hops b=zis server (zbr hop.toNat b):=if_pos h
theorem zv8 {server b:List Int}(h1:48≤b.length)(h2:b.length≤2096): zis server b=0∨zis server b=4:=by
 rw [zjm h1 h2];exact zjf _ _ _
theorem zv0 (A B:Option Addr)(n c m d:Nat)(hop hops:Int)(server b:List Int)(w:World)(hn:server.length=n)(hm:b.length=m)(hbn:n≤4000)(hmd:m≤d)(hx:Rd w A (nums .u8 server))(hy:Rd w B (nums .u8 b))(hb:Byt b)(hK:za2 w)(hz:zds server hop hops b≠0):
  Calls Lead.prog 15 #[.slice A n c,.int .i64 hop,.int .i64 hops,.slice B m d] w (zla (zds server hop hops b) w):=by
 by_cases h:zgi hop hops b.length
 ·rw [zkf h] at hz ⊢
  obtain ⟨h1,h2,h3,h4,h5⟩:=h
  obtain ⟨H,rfl⟩:=Int.eq_ofNat_of_zero_le (show 0≤hops by omega)
  obtain ⟨i,rfl⟩:=Int.eq_ofNat_of_zero_le h3
  rw [Int.toNat_natCast] at hz ⊢
  have hl:=zg8 (hop:=i) (hops:=H) (b:=b) (by omega) (by omega)
  have h4':=(zv8 (server:=server) (b:=zbr i b) (by omega) (by omega)).resolve_left hz
  rw [h4']
  exact zzb A B n c m d i H server b w hn hm hbn (by omega) (by omega) (by omega) hmd hx hy hb hK hz
 ·rw [zmx h]
  exact zzd A B n c m d hop hops w (by rw [hm] at h;exact h)
theorem zrr (A B:Option Addr)(n c m d:Nat)(hop hops:Int)(server b:List Int)(w:World)(hn:server.length=n)(hm:b.length=m)(hbn:n≤4000)(hmd:m≤d)(hx:Rd w A (nums .u8 server))(hy:Rd w B (nums .u8 b))(hb:Byt b)(hK:za2 w)(hz:zds server hop hops b=0):
  Calls Lead.prog 15 #[.slice A n c,.int .i64 hop,.int .i64 hops,.slice B m d] w (zsi w (zcz server hop.toNat hops.toNat b) (zej server hop.toNat b)):=by
 have h:zgi hop hops b.length:=by
  apply Classical.byContradiction
  intro h
  rw [zmx h] at hz
  cases hz
 rw [zkf h] at hz
 obtain ⟨h1,h2,h3,h4,h5⟩:=h
 obtain ⟨H,rfl⟩:=Int.eq_ofNat_of_zero_le (show 0≤hops by omega)
 obtain ⟨i,rfl⟩:=Int.eq_ofNat_of_zero_le h3
 rw [Int.toNat_natCast] at hz
 rw [Int.toNat_natCast,Int.toNat_natCast]
 by_cases hl:i+1=H
 ·exact zv1 A B n c m d i H server b w hn hm hbn (by omega) (by omega) (by omega) hmd hx hy hb hK hz hl
 ·exact zzc A B n c m d i H server b w hn hm hbn (by omega) (by omega) (by omega) hmd hx hy hb hK hz (by omega)
theorem zv2 {server:List Int}{i H:Nat}{b:List Int}(h:Byt b): Byt (zcz server i H b):=fun x hx=>by
 rcases List.mem_append.1 hx with hx|hx
 ·exact z2v (zg9 h) x hx
 ·unfold padO at hx
  split at hx
  ·cases hx
  ·exact zgd _ _ x hx
end
section
open Go.RowKit Go.ChangeShapes Go.WideShapes Go.ChangeAt
def z03 (Ls Ns:List (List Int))(body:List Int)(n k:Nat)(bl:List Int): Prop :=
 (k<n→bl.length=78+48 * n∧bl.take (78+48 * (n - k))=zc1 (Ls.drop k) (Ns.drop k) body)∧(k=n→bl=body)
theorem ztc {Ls Ns:List (List Int)}{body:List Int}(h:zm4 Ls Ns body)(k:Nat): (Ns.drop k).length=(Ls.drop k).length∧∀ i,i<(Ns.drop k).length→((Ns.drop k).getD i []).length=16:=by
 obtain ⟨q1,q2,q3,q4,q5⟩:=h
 refine ⟨by simp [q3],fun i hi=>?_⟩
 rw [List.length_drop] at hi
 have:=q4 (k+i) (by omega)
 simpa [List.getD,List.getElem?_drop] using this
theorem zmb {Ls Ns:List (List Int)}{body:List Int}{n:Nat}(h:zm4 Ls Ns body)(hn:Ls.length=n): z03 Ls Ns body n 0 (zc1 Ls Ns body):=by
 have hl:(zc1 Ls Ns body).length=78+48 * n:=by rw [zez Ls Ns body h.2.2.1 h.2.2.2.1,h.2.2.2.2,hn]
 have h1:=h.1
 refine ⟨fun _=>⟨hl,?_⟩,fun e=>by omega⟩
 rw [List.drop_zero,List.drop_zero,List.take_of_length_le (by rw [hl];omega)]
theorem zk1 {Ls Ns:List (List Int)}{body bl:List Int}{n k:Nat}(h:zm4 Ls Ns body)(hn:Ls.length=n)(bN:∀ xs∈Ns,Byt xs)(bb:Byt body)(hk:k<n)(hr:z03 Ls Ns body n k bl):
  zds (Ls.getD k []) k n bl=0∧zej (Ls.getD k []) k bl=tagL (Ls.getD k []) (Ns.getD k [])∧z03 Ls Ns body n (k+1) (zcz (Ls.getD k []) k n bl):=by
 obtain ⟨hl,ht⟩:=hr.1 hk
 have hh:=h
 obtain ⟨q1,q2,q3,q4,q5⟩:=hh
 obtain ⟨d1,d2⟩:=ztc h (k+1)
 have hpart:zbr k bl=zdr (Ls.getD k []) (Ns.getD k []) (zc1 (Ls.drop (k+1)) (Ns.drop (k+1)) body):=by
  rw [zbr,hl,show 78+48 * n - 48 * k=78+48 * (n - k) by omega,ht,zh4 Ls [] k (by omega),zh4 Ns [] k (by omega),zc1]
 have hwl:(zc1 (Ls.drop (k+1)) (Ns.drop (k+1)) body).length=78+48 * (n - (k+1)):=by rw [zez _ _ body d1 d2,q5,List.length_drop,hn]
 have hwb:Byt (zc1 (Ls.drop (k+1)) (Ns.drop (k+1)) body):=zgu _ _ body (fun xs hxs=>bN xs (List.mem_of_mem_drop hxs)) bb
 have h16:=q4 k (by omega)
 have hop:zis (Ls.getD k []) (zbr k bl)=0:=by rw [hpart];exact zs0 h16 (by rw [hwl];omega)
 have hin:inL (Ls.getD k []) (zbr k bl)=zc1 (Ls.drop (k+1)) (Ns.drop (k+1)) body:=by rw [hpart];exact zy3 h16 hwb
 have hkey:zej (Ls.getD k []) k bl=tagL (Ls.getD k []) (Ns.getD k []):=by rw [zej,hpart,zkb h16]
 refine ⟨?_,hkey,fun hlt=>?_,fun e=>?_⟩
 ·rw [zkf ⟨by omega,by omega,by omega,by omega,by rw [hl];omega⟩,Int.toNat_natCast]
  exact hop
 ·rw [zcz,hin,padO,if_neg (by omega)]
  refine ⟨by rw [List.length_append,hwl,zbv];omega,?_⟩
  rw [List.take_append_of_le_length (by rw [hwl];exact Nat.le_refl _),List.take_of_length_le (by rw [hwl];exact Nat.le_refl _)]
 ·rw [zcz,hin,padO,if_pos e,List.append_nil,List.drop_of_length_le (by omega)]
  rfl
end
end Go.Proofs.YtelgmbomkojmaaaDoor
