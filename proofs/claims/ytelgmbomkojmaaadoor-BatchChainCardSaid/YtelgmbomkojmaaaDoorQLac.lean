/- A pack: Mm Apart Mn Mo La Lb Lc Ld Tb0 Ob Part Of Pa SameSt Pb Pc Pd. -/
import Derived.Test.YtelgmbomkojmaaaDoorQLab
import Derived.Maps.AppendAt
import Derived.Laws.PanicsMore
import Derived.Deep.RegionHeld3
import Derived.Deep.RegionWith
import Derived.Deep.DeepMust
import Derived.Test.YtelgmbomkojmaaaDoorQLaa
import Derived.Deep.Slices
import Derived.RegionTactic
import Derived.BigRegion
import Derived.RangeFuncNested
import Derived.RangeFuncBound
import Derived.RangeFuncCalls
import Derived.RangeFuncLeaves
import Derived.RangeFuncBox
import Derived.RangeFuncFrom
import Derived.Shelf.Abstract
import Derived.Shelf.RegionOpen
import Derived.WalkKit
import Derived.OwnWalkIn
import Derived.TacticsInMore
import Derived.LoopNIn
import Derived.LoopIn
import Derived.BigRegionIn
namespace Go.Proofs.YtelgmbomkojmaaaDoor
set_option linter.all false
set_option maxRecDepth 100000
section
open Go.RowKit Go.Shelf
attribute [local go_sem] Oper.semAt_some
def zd7 (key:List Int)(ks:List Nat): List Int:=ks.flatMap (ztm key)
theorem zot (key:List Int)(ks:List Nat): (zd7 key ks).length=32 * ks.length:=by
 unfold zd7
 induction ks with
 | nil=>rfl
 | cons a r ih=>simp [zoo] at ih ⊢;omega
theorem ztv (key:List Int)(ks:List Nat)(k:Nat): zd7 key (ks++[k])=zd7 key ks++ztm key k:=by simp [zd7]
def zbw (key:List Int)(n:Nat): List Int:=(zd7 key (List.range ((n+31) / 32))).take n
theorem zbv (key:List Int)(n:Nat): (zbw key n).length=n:=by
 rw [zbw,List.length_take,zot,List.length_range];omega
theorem zw5 (key:List Int)(k:Nat): Byt (ztm key k):=zq8 _
theorem zgd (key:List Int)(n:Nat): Byt (zbw key n):=fun x hx=>by
 have h1:=List.mem_of_mem_take hx
 unfold zd7 at h1
 obtain ⟨k,_,h2⟩:=List.mem_flatMap.1 h1
 exact zw5 key k x h2
theorem zrs {W W':World}{row:Option Nat}{base:Nat}{e:TypeId}{s n:Nat}{v:Value}{xs:List Value}(hg:W.grownBy W' row)(hr:∀ r,row=some r→∃ o:Obj,W.heap[r]?=some o∧o.isCells=false)(h:W.ownsRow base e s v n xs): W'.ownsRow base e s v n xs:=by
 refine ⟨h.1,?_⟩
 rcases h.2 with h1|⟨g,cap,cur,h1,hb,hh,hc⟩
 ·exact .inl h1
 ·refine .inr ⟨g,cap,cur,h1,hb,(hg.block g (Array.getElem?_eq_some_iff.1 hh).1 fun e'=>?_).trans hh,hc⟩
  obtain ⟨o,h2,h3⟩:=hr g e'.symm
  rw [hh] at h2
  injection h2 with h2
  subst h2
  simp [Obj.isCells] at h3
def zes (w:World)(ys:List Int)(e:Ending)(w':World): Prop :=
 ∃ B c,e=.returned (.tuple #[.slice (some ⟨B,0,none⟩) ys.length c,.int .i64 0])∧ys.length≤c∧w.heap.size≤B∧w'.ownsRow w.heap.size 5 1 (.slice (some ⟨B,0,none⟩) ys.length c) ys.length (nums .u8 ys)∧Below w.heap.size w w'
theorem zlf {w:World}{base:Nat}{e:TypeId}{s n:Nat}{v:Value}{xs:List Value}{a:Addr}{u:Value}(h:w.ownsRow base e s v n xs)(ha:v.ownBlock≠some a.block): (w.setCell a u).ownsRow base e s v n xs:=by
 refine ⟨h.1,?_⟩
 rcases h.2 with h1|⟨g,cap,cur,h1,hbg,hg,hc⟩
 ·exact .inl h1
 ·refine .inr ⟨g,cap,cur,h1,hbg,(zay w (fun e'=>ha ?_)).trans hg,hc⟩
  rw [h1,← e'];rfl
set_option maxRecDepth 100000 in
set_option maxHeartbeats 4000000 in
theorem zln (A:Option Addr)(kn c N:Nat)(key:List Int)(w:World)(hkn:key.length=kn)(hk:kn≤3000)(hN:N≤1048576)(hx:Rd w A (nums .u8 key))(hK:za2 w):
  Calls Lead.prog 40 #[.slice A kn c,.int .i64 N] w (zes w (zbw key N)):=by
 obtain ⟨i0,hi,hz0,hz1,hz2⟩:=info_parts zbz
 have r0:¬ (N:Int)<0:=by omega
 have r1:¬ (1048576:Int)<N:=by omega
 have HX:=Lib.hid hx
 have HK:=Lib.hid hK
 have HKN:=Lib.hid hkn
 clear hx hK hkn
 refine (callsIn_wide (n:=8)).1 ?_
 refine callsIn_of_wp_marks Lead.func40 rfl trivial ?_ rfl
 simp only [Tryd.ntmps40,List.size_toArray,List.length_cons,List.length_nil,Nat.reduceAdd,Nat.reduceSub,Array.replicate_succ,Array.replicate_zero,List.push_toArray,List.append_toArray,List.nil_append,List.cons_append]
 have d1:1≤7:=by omega
 gi_wp2_with (first
  | (gi_at_make;refine wpListIn_make_own _ rfl _ _ 33 rfl (w.heap.size+1) 5 i0 (.int .u8 0) 1 (Lead.of Tryd.underlying33) hi hz0 hz1 .i64 .i64 _ N rfl rfl rfl (by rw [hz2];omega) (by unfold maxLen;omega) (by rw [World.size_alloc];omega) ?_;intro w1 hown1 hgrow1;rw [World.size_alloc] at hown1;have hb1:Below (w.heap.size+1) (w.alloc (.cells #[.int .i64 N] 3)) w1:=(Below.refl _ _).grown hgrow1 (by rw [World.size_alloc];omega) (fun k e=>by cases e);have hx3:Box w1 w.heap.size (.int .i64 N):=Box.alloc.below hb1 (by omega);have c3:=hx3.1;have hl1:w.heap.size+1<w1.heap.size:=(hown1.lt (w.heap.size+1) rfl).2;have hl0:w.heap.size<w1.heap.size:=by omega)
  | (refine ⟨trivial,?_⟩;gi_at_call 65;refine (callsIn_wide.2 (ztl _ _ _ _ _)).mono ?_;rintro e w3 ⟨rfl,rfl⟩))
 have hB1:Below w.heap.size w w1:=(bal brf (.cells #[.int .i64 N] 3)).trans (hb1.mono (by omega))
 obtain ⟨w3,hw3⟩:∃ w3,w3=((w1.alloc (.cells #[.slice (some ⟨w.heap.size+1,0,none⟩) 0 N] 33)).alloc (.cells #[.slice A kn c] 33)).alloc (.cells #[.int .i64 N] 3):=⟨_,rfl⟩
 have e13:Below w1.heap.size w1 w3:=by rw [hw3];exact bal (bal (bal brf _) _) _
 have hB3:Below w.heap.size w w3:=bgo hB1 e13
 have hz3:w3.heap.size=w1.heap.size+3:=by rw [hw3,World.size_alloc,World.size_alloc,World.size_alloc]
 have hx33:Box w3 w.heap.size (.int .i64 N):=hx3.below e13 hl0
 have hx6:Box w3 w1.heap.size (.slice (some ⟨w.heap.size+1,0,none⟩) 0 N):=by
  rw [hw3]
  exact Box.alloc.below (bal (bal brf _) _) (by rw [World.size_alloc];omega)
 have hck:w3.cell? ⟨w1.heap.size+1,0,none⟩=some (.slice A kn c):=by
  have h1:=(Box.alloc (w:=w1.alloc (.cells #[.slice (some ⟨w.heap.size+1,0,none⟩) 0 N] 33)) (v:=.slice A kn c) (t:=33)).below (bal brf (.cells #[.int .i64 N] 3)) (by simp only [World.size_alloc];omega)
  rw [World.size_alloc] at h1
  rw [hw3];exact h1.1
 have hcn:w3.cell? ⟨w1.heap.size+2,0,none⟩=some (.int .i64 N):=by
  have h1:=Box.alloc (w:=(w1.alloc (.cells #[.slice (some ⟨w.heap.size+1,0,none⟩) 0 N] 33)).alloc (.cells #[.slice A kn c] 33)) (v:=.int .i64 N) (t:=3)
  rw [World.size_alloc,World.size_alloc] at h1
  rw [hw3];exact h1.1
 have hown3:w3.ownsRow (w.heap.size+1) 5 1 (.slice (some ⟨w.heap.size+1,0,none⟩) 0 N) 0 []:=by rw [hw3];exact ((hown1.alloc _).alloc _).alloc _
 have hE3:Env (w1.heap.size+1) (w1.heap.size+2) A kn c N key w3:=⟨hck,hcn,HX.out.below hB3,HK.out.go hB3⟩
 rw [← hw3]
 obtain ⟨g,hg⟩:∃ g,g=w.heap.size+1:=⟨_,rfl⟩
 obtain ⟨b6,hb6⟩:∃ b6,b6=w1.heap.size:=⟨_,rfl⟩
 rw [← hg,← hb6] at hx6
 rw [← hg] at hown3
 rw [← hb6] at hE3 hz3
 rw [← hg,← hb6]
 have hgb:g<b6:=by omega
 have hwg:w.heap.size<g:=by omega
 have hwb:w.heap.size<b6:=by omega
 obtain ⟨q,hq⟩:∃ q,q=(N+31) / 32:=⟨_,rfl⟩
 have hq1:32 * q<N+32:=by omega
 have hq2:N≤32 * q:=by omega
 have HQ:=Lib.hid hq
 clear hw3 e13 hck hcn hx3 c3 hown1 hgrow1 hb1 hl1 hl0 hB1 hg hb6 hq
 have htk0:(zd7 key (([]:List Hsh).map (·.1))).take N=[]:=by simp [zd7]
 refine zf9 rfl (by omega) (gf:=74) (lb:=#[.pointer (some ⟨b6+1+1,0,none⟩),.pointer (some ⟨b6+1,0,none⟩)]) rfl trivial (enters_of Lead.func74 (by kernel_rfl) rfl)
  (zon 7 (by omega) (b6+1) (b6+1+1) A kn c N q key HKN.out hk hq1 hq2 hN w3 hE3)
  (fun h k hh=>k (h hh)) (fun W l o o' _ hl hc _ h=>h.kept (grownBy_putObj' W l o') (fun r e=>by cases e;exact ⟨o,hl,hc⟩))
  (fun x W l o o' h hl hc=>h.kept (grownBy_putObj' W l o') (fun r e=>by cases e;exact ⟨o,hl,hc⟩))
  (fun _=>rfl)
  (fun pre W=>(W.ownsRow g 5 1 (.slice (some ⟨g,0,none⟩) ((zd7 key (pre.map (·.1))).take N).length N) ((zd7 key (pre.map (·.1))).take N).length (nums .u8 ((zd7 key (pre.map (·.1))).take N))∧Box W b6 (.slice (some ⟨g,0,none⟩) ((zd7 key (pre.map (·.1))).take N).length N)∧Box W w.heap.size (.int .i64 N)∧Env (b6+1) (b6+1+1) A kn c N key W∧w3.heap.size≤W.heap.size)∧Below w.heap.size w W)
  (OwnFrom.and (Own.from (fun s A B row hs hg hr=>⟨zrs hg hr hs.1,hs.2.1.kept hg hr,hs.2.2.1.kept hg hr,hs.2.2.2.1.kept hg hr,Nat.le_trans hs.2.2.2.2 hg.size⟩) _) (ownFrom_below (Nat.le_refl _) (by omega)))
  ⟨⟨by rw [htk0];exact hown3,by rw [htk0];exact hx6,hx33,hE3,Nat.le_refl _⟩,hB3⟩
  ?a1 ?assign ?body ?done
 case assign =>
  intro l x W K hK
  unfold hEnc
  gi_wp2
  exact hK
 case done =>
  rintro D ys W hD hys ⟨⟨hown,hx6,hx3,hE,hsz⟩,hB⟩ hDD
  have hst:(zd7 key (ys.map (·.1))).take N=zbw key N:=by rw [hys,HQ.out,zbw]
  rw [hst,zbv] at hown hx6
  have c6:=hx6.1
  have HO:=Lib.hid hown
  clear hown hx6 hst hys
  gi_wp2
  refine ⟨by simp,.inl ⟨_,_,rfl,run_takeDeferred hDD,?_⟩⟩
  refine ⟨.tuple #[.slice (some ⟨g,0,none⟩) N N,.int .i64 0],by simp [results,Tryd.results40,go_sem],?_⟩
  have hres:∀ W':World,W'.ownsRow w.heap.size 5 1 (.slice (some ⟨g,0,none⟩) N N) N (nums .u8 (zbw key N))→Below w.heap.size w W'→zes w (zbw key N) (.returned (.tuple #[.slice (some ⟨g,0,none⟩) N N,.int .i64 0])) W':=fun W' h1 h2 =>
   ⟨g,N,by rw [zbv],by rw [zbv];exact Nat.le_refl _,by omega,by rw [zbv];exact h1,h2⟩
  exact hres _ (zm0 (zrs (grownBy_putObj' W D _) (fun r e=>by cases e;exact ⟨_,hDD,rfl⟩) HO.out) (by omega)) (hB.trans (belowK_b (w:=w) (Nat.le_refl _) W D _ _ (by omega) hDD rfl rfl))
 case body =>
  rintro l pre x W ⟨⟨hown,hx6,hx3,hE,hsz⟩,hB⟩ ⟨hrx,hcx⟩ hpre
  obtain ⟨k,B,cB⟩:=x
  dsimp only at hrx hcx
  obtain ⟨Fl,hF⟩:∃ Fl,Fl=zd7 key (pre.map (·.1)):=⟨_,rfl⟩
  have hFl:Fl.length=32 * pre.length:=by rw [hF,zot,List.length_map]
  obtain ⟨L,hL⟩:∃ L,L=32 * pre.length:=⟨_,rfl⟩
  have hLN:L<N:=by omega
  have htk:Fl.take N=Fl:=List.take_of_length_le (by omega)
  rw [← hF,htk,hFl,← hL] at hown hx6
  have hlh:=zoo key k
  obtain ⟨h,hh⟩:∃ h,h=ztm key k:=⟨_,rfl⟩
  rw [← hh] at hrx hlh
  have hnext:∀ m,m=min 32 (N - L)→(zd7 key ((pre++[(k,B,cB)]).map (·.1))).take N=Fl++h.take m:=fun m hm=>by
   rw [List.map_append,List.map_cons,List.map_nil,ztv,← hF,← hh,List.take_append,htk,hFl,← hL]
   congr 1
   rw [hm]
   rcases Nat.le_total 32 (N - L) with h1|h1
   ·rw [Nat.min_eq_left h1,List.take_of_length_le (by omega),List.take_of_length_le (by omega)]
   ·rw [Nat.min_eq_right h1]
  obtain ⟨b',o',he',hlB,hcB⟩:=hrx.at_ (by simp [hlh])
  cases he'
  have hcells:∀ m j u,(nums .u8 (h.take m))[j]?=some u→W.drew.cell? ((Addr.mk B 0 none).add j)=some u:=fun m j u hu=>by
   rw [zqz]
   refine hcB j u ?_
   rw [nums,List.map_take,List.getElem?_take] at hu
   split at hu
   ·exact hu
   ·cases hu
  have hlen:∀ m,m≤32→(nums .u8 (h.take m)).length=m * 1:=fun m hm=>by simp [hlh];omega
  have c6:=hx6.1
  have c3:=hx3.1
  have f6:=hx6.2
  have HNX:=Lib.hid hnext
  have HCE:=Lib.hid hcells
  have HLN:=Lib.hid hlen
  have HOWN:=Lib.hid hown
  have HX6:=Lib.hid hx6
  have HX3:=Lib.hid hx3
  have HE:=Lib.hid hE
  have HFL:=Lib.hid (show Fl.length=L by omega)
  clear hnext hcells hlen hown hx6 hx3 hE hF hFl hL htk hlh hh hrx hcB
  have fin:∀ (m:Nat) (w6:World),m=min 32 (N - L)→w6.ownsRow g 5 1 (.slice (some ⟨g,0,none⟩) (L+m) N) (L+m) (nums .u8 Fl++nums .u8 (h.take m))→W.drew.grownBy w6 (some g) →
    (w6.cell? ⟨b6,0,none⟩=some (.slice (some ⟨g,0,none⟩) L N)∧w6.frozen? ⟨b6,0,none⟩=false ∧
     zw9 (fun X Y=>Env (b6+1) (b6+1+1) A kn c N key X→Env (b6+1) (b6+1+1) A kn c N key Y) (fun pre W=>(W.ownsRow g 5 1 (.slice (some ⟨g,0,none⟩) ((zd7 key (pre.map (·.1))).take N).length N) ((zd7 key (pre.map (·.1))).take N).length (nums .u8 ((zd7 key (pre.map (·.1))).take N))∧Box W b6 (.slice (some ⟨g,0,none⟩) ((zd7 key (pre.map (·.1))).take N).length N)∧Box W w.heap.size (.int .i64 N)∧Env (b6+1) (b6+1+1) A kn c N key W∧w3.heap.size≤W.heap.size)∧Below w.heap.size w W) (pre++[(k,B,cB)]) W .normal { tmps:=#[],defers:=[] } (w6.setCell ⟨b6,0,none⟩ (.slice (some ⟨g,0,none⟩) (L+m) N))):=by
   intro m w6 hm hown6 hg6
   have blk:∀ b,b<W.heap.size→b≠g→w6.heap[b]?=W.heap[b]?:=fun b h1 h2=>hg6.block b h1 (fun e=>h2 (by injection e))
   have hx66:Box w6 b6 (.slice (some ⟨g,0,none⟩) L N):=⟨(World.cell?_of_block (a:=⟨b6,0,none⟩) (blk b6 (by omega) (by omega))).trans HX6.out.1,(World.frozen?_of_block (a:=⟨b6,0,none⟩) (blk b6 (by omega) (by omega))).trans HX6.out.2⟩
   refine ⟨hx66.1,hx66.2,?_⟩
   have hz6:=hg6.size
   have hz6':W.heap.size≤w6.heap.size:=hz6
   have hB6:Below w.heap.size w (w6.setCell ⟨b6,0,none⟩ (.slice (some ⟨g,0,none⟩) (L+m) N)) :=
    ((bdr hB).grown hg6 (show w.heap.size≤W.heap.size from hB.size) (fun r e=>by injection e with e;omega)).setCell (p:=⟨b6,0,none⟩) (by show w.heap.size≤b6;omega) _
   have hEn:Env (b6+1) (b6+1+1) A kn c N key (w6.setCell ⟨b6,0,none⟩ (.slice (some ⟨g,0,none⟩) (L+m) N)):=by
    have h1:=HE.out
    have l1:=za5 h1.1
    have l2:=za5 h1.2.1
    dsimp only at l1 l2
    refine ⟨(zaa (by omega)).trans ((World.cell?_of_block (a:=⟨b6+1,0,none⟩) (blk (b6+1) l1 (by omega))).trans h1.1),(zaa (by omega)).trans ((World.cell?_of_block (a:=⟨b6+1+1,0,none⟩) (blk (b6+1+1) l2 (by omega))).trans h1.2.1),HX.out.below hB6,HK.out.go hB6⟩
   have hll:(Fl++h.take m).length=L+m:=by
    have:=hown6.1
    simp at this ⊢
    omega
   refine ⟨?_,fun _=>hEn,⟨⟨?_,?_,?_,hEn,?_⟩,hB6⟩⟩
   ·have k1:KeepsOthers W.drew w6:=KeepsOthers.of_grownBy hg6 (fun j o e ho=>by
     injection e with e
     subst e
     rcases hown6.2 with ⟨h1,_⟩|⟨g',cap,cur,h1,_,hh,_⟩
     ·cases h1
     ·rcases HOWN.out.2 with ⟨h2,_⟩|⟨g2,cap2,cur2,h2,_,hh2,_⟩
      ·cases h2
      ·simp only [Value.slice.injEq,Option.some.injEq,Addr.mk.injEq] at h2
       obtain ⟨⟨rfl,_⟩,_⟩:=h2
       have hh3:W.drew.heap[g]?=some (.cells cur2 5 (0,0)):=hh2
       rw [hh3] at ho
       injection ho with ho
       subst ho
       rfl)
    have k2:=k1.trans (KeepsOthers.setCell w6 ⟨b6,0,none⟩ (.slice (some ⟨g,0,none⟩) (L+m) N))
    exact ⟨k2.1,k2.2⟩
   ·rw [HNX.out m hm,hll]
    refine zlf ?_ (by simp [Value.ownBlock];omega)
    rw [nums,List.map_append]
    exact hown6
   ·rw [HNX.out m hm,hll]
    exact hx66.set _
   ·have hw0:w.heap.size<W.heap.size:=by omega
    have hx3':Box w6 w.heap.size (.int .i64 N):=⟨(World.cell?_of_block (a:=⟨w.heap.size,0,none⟩) (blk w.heap.size hw0 (by omega))).trans HX3.out.1,(World.frozen?_of_block (a:=⟨w.heap.size,0,none⟩) (blk w.heap.size hw0 (by omega))).trans HX3.out.2⟩
    exact hx3'.far (by omega) _
   ·rw [zah];omega
  have FIN:=Lib.hid fin
  clear fin
  by_cases hmin:L+32≤N
  ·have hwr:IntKind.i64.wrap ((N:Int) - L)=(N:Int) - L:=IntWalk.i64_in _ (by omega)
   have r2:¬ (N:Int) - L<32:=by omega
   have r3:(32:Int)≤cB:=by omega
   have r4:(32:Int)≤(N:Int) - L:=by omega
   gi_wp2
   have r7:((N:Int) - L<32)=False:=eq_false (by omega)
   have r8:(32:Int)≤cB:=by omega
   refine zdz 10 (by kernel_rfl) (by kernel_rfl) (by kernel_rfl) ?_
   simp only [List.take_succ_cons,List.take_zero,List.drop_succ_cons,List.drop_zero]
   repeat still_step
   refine wpStill_nil ?_
   gi_wp2_with (gi_at_builtin;refine wpListIn_append_fits _ rfl _ _ 33 rfl g 5 i0 1 (Lead.of Tryd.underlying33) hi hz1 g L N (nums .u8 Fl) rfl HOWN.out ⟨B,0,none⟩ 32 cB (nums .u8 (h.take 32)) rfl (HLN.out 32 (by omega)) (HCE.out 32) zgg hmin ?_;intro w6 hown6 hg6;obtain ⟨c66,f66,FN⟩:=FIN.out 32 w6 (by omega) hown6 hg6;have HFN:=Lib.hid FN;clear FN)
   exact HFN.out
  ·obtain ⟨M,hM⟩:∃ M,M=N - L:=⟨_,rfl⟩
   have hwr:IntKind.i64.wrap ((N:Int) - L)=(M:Int):=by rw [show (N:Int) - L=M by omega];exact IntWalk.i64_in _ (by omega)
   have hM2:L+M≤N:=by omega
   have hM3:M=min 32 (N - L):=by omega
   have hM4:M≤32:=by omega
   have r7:(M:Int)<32:=by omega
   have r8:(M:Int)≤cB:=by omega
   have HM3:=Lib.hid hM3
   clear hM hM3
   gi_wp2
   refine zdz 10 (by kernel_rfl) (by kernel_rfl) (by kernel_rfl) ?_
   simp only [List.take_succ_cons,List.take_zero,List.drop_succ_cons,List.drop_zero]
   repeat still_step
   refine wpStill_nil ?_
   gi_wp2_with (gi_at_builtin;refine wpListIn_append_fits _ rfl _ _ 33 rfl g 5 i0 1 (Lead.of Tryd.underlying33) hi hz1 g L N (nums .u8 Fl) rfl HOWN.out ⟨B,0,none⟩ M cB (nums .u8 (h.take M)) rfl (HLN.out M hM4) (HCE.out M) zgg hM2 ?_;intro w6 hown6 hg6;obtain ⟨c66,f66,FN⟩:=FIN.out M w6 HM3.out hown6 hg6;have HFN:=Lib.hid FN;clear FN)
   exact HFN.out
end
section
open Go.RowKit
theorem zd0 {w w':World}{base:Nat}{e:TypeId}{s n:Nat}{v:Value}{xs:List Value}(h:w.ownsRow base e s v n xs)(hb:Below w.heap.size w w'): w'.ownsRow base e s v n xs:=by
 refine ⟨h.1,?_⟩
 rcases h.2 with h1|⟨g,cap,cur,h1,hbg,hh,hc⟩
 ·exact .inl h1
 ·exact .inr ⟨g,cap,cur,h1,hbg,(hb.block g (Array.getElem?_eq_some_iff.1 hh).1).trans hh,hc⟩
end
section
open Go.RowKit
theorem zru {w:World}{base:Nat}{e:TypeId}{n c:Nat}{A:Option Addr}{vs:List Value}(h:w.ownsRow base e 1 (.slice A n c) n vs): n≤c∧c≤maxLen:=by
 rcases h.2 with ⟨h1,h2⟩|⟨g,cap,cur,h1,hb,hg,hc⟩
 ·cases h1;exact ⟨Nat.le_refl _,Nat.zero_le _⟩
 ·simp only [Value.slice.injEq] at h1
  obtain ⟨_,_,rfl⟩:=h1
  exact ⟨hc.1,hc.2.1⟩
def z47 (w:World)(ys:List Int)(e:Ending)(w':World): Prop :=
 ∃ A c,e=.returned (.tuple #[.slice A ys.length c,.int .i64 0])∧ys.length≤c∧Rd w' A (nums .u8 ys)∧Below w.heap.size w w'
end
section
open Go.RowKit
def z1h (w:World)(ys:List Int)(e:Ending)(w':World): Prop :=
 ∃ A c,e=.returned (.tuple #[.slice A ys.length c,.int .i64 0])∧ys.length≤c∧w'.ownsRow w.heap.size 5 1 (.slice A ys.length c) ys.length (nums .u8 ys)∧Below w.heap.size w w'
end
section
open Go.RowKit Go.ChangeShapes Go.WideShapes Go.ChangeAt
theorem zes.from {w w1 w2:World}{ys:List Int}{e:Ending}(hb:Below w.heap.size w w1)(h:zes w1 ys e w2): zes w ys e w2:=by
 obtain ⟨B,c,he,hc,hl,ho,hb2⟩:=h
 exact ⟨B,c,he,hc,Nat.le_trans hb.size hl,zm0 ho hb.size,bgo hb hb2⟩
def zq0 (w:World)(ys:List Int)(e:Ending)(w':World): Prop :=
 ∃ A,e=.returned (.tuple #[.slice A ys.length ys.length,.int .i64 0])∧Rd w' A (nums .u8 ys)∧(0<ys.length→∃ B,A=some ⟨B,0,none⟩∧w.heap.size≤B∧B<w'.heap.size∧Brow w' B ys)∧Below w.heap.size w w'
theorem zq0.from {w w1 w2:World}{ys:List Int}{e:Ending}(hb:Below w.heap.size w w1)(h:zq0 w1 ys e w2): zq0 w ys e w2:=by
 obtain ⟨A,he,hr,hB,hb2⟩:=h
 refine ⟨A,he,hr,fun h0=>?_,bgo hb hb2⟩
 obtain ⟨B,h1,h2,h3,h4⟩:=hB h0
 exact ⟨B,h1,Nat.le_trans hb.size h2,h3,h4⟩
theorem zzy {w w':World}{ys:List Int}{A:Option Addr}{m:Nat}(hl:ys.length=m)(hr:Rd w' A (nums .u8 ys))(hB:0<ys.length→∃ B,A=some ⟨B,0,none⟩∧w.heap.size≤B∧B<w'.heap.size∧Brow w' B ys)(hb:Below w.heap.size w w'): zq0 w ys (.returned (.tuple #[.slice A m m,.int .i64 0])) w':=by
 subst hl
 exact ⟨A,rfl,hr,hB,hb⟩
theorem z1j (A B:Option Addr)(n c d:Nat)(xs ys:List Int)(w:World)(hn:xs.length=n)(hm:ys.length=n)(hb:n≤4000)(hx:Rd w A (nums .u8 xs))(hy:Rd w B (nums .u8 ys)):
  Calls Lead.prog 64 #[.slice A n c,.slice B n d] w (zq0 w (xorL xs ys)):=by
 have hl:(xorL xs ys).length=n:=by rw [zju,hn]
 rcases Nat.eq_zero_or_pos n with h0|h0
 ·subst h0
  refine (zym A B c d w).mono ?_
  rintro e w' ⟨A',rfl,hb'⟩
  refine ⟨A',by rw [hl],?_,fun h=>by omega,hb'⟩
  have:xorL xs ys=[]:=List.eq_nil_of_length_eq_zero hl
  rw [this]
  exact .inl rfl
 ·refine (z1k A B n c d xs ys w hn hm hb h0 hx hy).mono ?_
  rintro e w' ⟨rfl,hbr,hlt,hb'⟩
  exact ⟨_,by rw [hl],hbr.whole hlt,fun _=>⟨_,rfl,Nat.le_refl _,hlt,hbr⟩,hb'⟩
theorem zhi (A B:Option Addr)(n c m d:Nat)(key b:List Int)(w:World)(hn:key.length=n)(hm:b.length=m)(hbn:n≤4000)(hbm:m≤3000)(hx:Rd w A (nums .u8 key))(hy:Rd w B (nums .u8 b))(hK:za2 w):
  Calls Lead.prog 38 #[.slice A n c,.slice B m d] w (zgs w (tagL key b)):=by
 have CT:=zmn A B n c m d key b w hn hm hbn hbm hx hy hK
 clear hn hm hx hy hK
 go_enter Lead.func38,Tryd.ntmps38
 go_wp2_with (go_at_call 43;refine CT.mono ?_;rintro e w1 ⟨B1,c1,rfl,hc1,hl1,hr1,hb1⟩)
 go_ret
 exact ⟨B1,c1,rfl,hc1,hl1,hr1,hb1⟩
theorem zm5 (A B:Option Addr)(n c m d:Nat)(key b:List Int)(w:World)(hn:key.length=n)(hm:b.length=m)(hbn:n≤4000)(hbm:m≤3000)(hx:Rd w A (nums .u8 key))(hy:Rd w B (nums .u8 b))(hK:za2 w):
  Calls Lead.prog 36 #[.slice A n c,.slice B m d] w (zgs w (tagL key b)):=by
 have CT:=zmn A B n c m d key b w hn hm hbn hbm hx hy hK
 clear hn hm hx hy hK
 go_enter Lead.func36,Tryd.ntmps36
 go_wp2_with (go_at_call 43;refine CT.mono ?_;rintro e w1 ⟨B1,c1,rfl,hc1,hl1,hr1,hb1⟩)
 go_ret
 exact ⟨B1,c1,rfl,hc1,hl1,hr1,hb1⟩
def zex (k b:List Int): List Int:=xorL b (zbw (tagL k [1]) b.length)
theorem zep (k b:List Int): (zex k b).length=b.length:=zju _ _
theorem zr4 {k b:List Int}(h:Byt b): Byt (zex k b):=zyn h (zgd _ _)
theorem ztj (k:List Int){b:List Int}(h:Byt b): zex k (zex k b)=b:=by
 rw [zex,zep,zex]
 exact zsk h (zgd _ _)
theorem znd (A B:Option Addr)(n c m d:Nat)(key b:List Int)(w:World)(hn:key.length=n)(hm:b.length=m)(hbn:n≤4000)(hbm:m≤3000)(hx:Rd w A (nums .u8 key))(hy:Rd w B (nums .u8 b))(hK:za2 w):
  Calls Lead.prog 39 #[.slice A n c,.slice B m d] w (zq0 w (zex key b)):=by
 have hA:Below w.heap.size w (w.alloc (.cells (nums .u8 [1]).toArray 5)):=bal brf _
 have CT:=zhi A (some ⟨w.heap.size,0,none⟩) n c 1 1 key [1] _ hn rfl hbn (by omega) (hx.below hA) (zly w [1] 5) (hK.go hA)
 have CM:=fun A1 c1 W h1 hK=>zln A1 32 c1 m (tagL key [1]) W (za3 _ _) (by omega) (by omega) h1 hK
 have CX:=fun A1 c1 W h1 h2=>z1j B A1 m d c1 b (zbw (tagL key [1]) m) W hm (zbv _ _) (by omega) h1 h2
 have hh:xorL b (zbw (tagL key [1]) m)=zex key b:=by rw [zex,hm]
 rw [hh] at CX
 have hl:(zex key b).length=m:=by rw [zep,hm]
 have HL:=Lib.hid hl
 have HY:=Lib.hid hy
 have HK:=Lib.hid hK
 clear hn hx hm hy hK hh hl
 go_enter Lead.func39,Tryd.ntmps39
 go_wp2_with (first
  | (go_at_call 38;refine CT.mono ?_;rintro e w1 ⟨B1,c1,he,hc1,hl1,hr1,hb1⟩;rw [za3] at he;subst he;have HBX:=bgo hA hb1)
  | (go_at_call 40;refine (CM _ _ _ hr1 (HK.out.go HBX)).mono ?_;rintro e w2 ⟨B2,c2,he,hc2,hl2,hown2,hb2⟩;rw [zbv] at he hown2;subst he;have HR2:=Lib.hid (Rd.of_own hown2);clear hown2;have HBX:=bgo HBX hb2)
  | (go_at_call 64;refine (CX _ _ _ (HY.out.below HBX) HR2.out).mono ?_;rintro e w3 ⟨A3,he,hr3,hB3,hb3⟩;rw [HL.out] at he;subst he;have HBY:=bgo HBX hb3))
 go_ret2
 exact zq0.from HBX (zzy HL.out hr3 hB3 hb3)
theorem zzh (A:Option Addr)(n c N:Nat)(key:List Int)(w:World)(hn:key.length=n)(hbn:n≤4000)(hN:N≤2048)(hx:Rd w A (nums .u8 key))(hK:za2 w):
  Calls Lead.prog 24 #[.slice A n c,.int .i64 N] w (zes w (zbw (tagL key [2]) N)):=by
 have r0:¬ (N:Int)<0:=by omega
 have r1:¬ (2048:Int)<N:=by omega
 have hA:Below w.heap.size w (w.alloc (.cells (nums .u8 [2]).toArray 5)):=bal brf _
 have CT:=zhi A (some ⟨w.heap.size,0,none⟩) n c 1 1 key [2] _ hn rfl hbn (by omega) (hx.below hA) (zly w [2] 5) (hK.go hA)
 have CM:=fun A1 c1 W h1 hK=>zln A1 32 c1 N (tagL key [2]) W (za3 _ _) (by omega) (by omega) h1 hK
 have HK:=Lib.hid hK
 clear hn hx hK
 go_enter Lead.func24,Tryd.ntmps24
 go_wp2_with (first
  | (go_at_call 38;refine CT.mono ?_;rintro e w1 ⟨B1,c1,he,hc1,hl1,hr1,hb1⟩;rw [za3] at he;subst he;have HBX:=bgo hA hb1)
  | (go_at_call 40;refine (CM _ _ _ hr1 (HK.out.go HBX)).mono ?_;rintro e w2 ⟨B2,c2,rfl,hc2,hl2,hown2,hb2⟩))
 go_ret2
 exact zes.from HBX ⟨B2,c2,rfl,hc2,hl2,hown2,hb2⟩
end
section
open Go.RowKit Go.ChangeShapes Go.WideShapes Go.ChangeAt
def outL (server nonce plain:List Int): List Int:=nonce++zex (tagL server nonce) plain
def zdr (server nonce plain:List Int): List Int:=outL server nonce plain++tagL (tagL (tagL server nonce) [3]) (outL server nonce plain)
theorem zhb (server nonce plain:List Int): (outL server nonce plain).length=nonce.length+plain.length:=by rw [outL,List.length_append,zep]
theorem zcg (server nonce plain:List Int): (zdr server nonce plain).length=nonce.length+plain.length+32:=by rw [zdr,List.length_append,zhb,za3]
theorem zzi {server nonce plain:List Int}(h1:Byt nonce)(h2:Byt plain): Byt (outL server nonce plain):=fun x hx=>by
 rcases List.mem_append.1 hx with h|h
 ·exact h1 x h
 ·exact zr4 h2 x h
theorem zvi {server nonce plain:List Int}(h1:Byt nonce)(h2:Byt plain): Byt (zdr server nonce plain):=fun x hx=>by
 rcases List.mem_append.1 hx with h|h
 ·exact zzi h1 h2 x h
 ·exact zuz _ _ x h
theorem zwu {w w':World}{ys:List Int}{A:Option Addr}{n c:Nat}(hl:ys.length=n)(hc:n≤c)(hr:w'.ownsRow w.heap.size 5 1 (.slice A n c) n (nums .u8 ys))(hb:Below w.heap.size w w'): z1h w ys (.returned (.tuple #[.slice A n c,.int .i64 0])) w':=by
 subst hl
 exact ⟨A,c,rfl,hc,hr,hb⟩
set_option maxHeartbeats 600000 in
theorem zy2 (A B C:Option Addr)(n c d p f:Nat)(server nonce plain:List Int)(w:World)(hn:server.length=n)(hm:nonce.length=16)(hp:plain.length=p)(hbn:n≤4000)(hbp:p≤2048)(hx:Rd w A (nums .u8 server))(hy:Rd w B (nums .u8 nonce))(hz:Rd w C (nums .u8 plain))(hK:za2 w):
  Calls Lead.prog 28 #[.slice A n c,.slice B 16 d,.slice C p f] w (z1h w (zdr server nonce plain)):=by
 obtain ⟨i0,hi,hz0,hz1,hz2⟩:=info_parts zbz
 have r1:¬ (2048:Int)<p:=by omega
 have CK:=zm5 A B n c 16 d server nonce w hn hm (by omega) (by omega) hx hy hK
 have CH:=fun A1 c1 W h1 h2 hK=>znd A1 C 32 c1 p f (tagL server nonce) plain W (za3 _ _) hp (by omega) (by omega) h1 h2 hK
 have hl:(zex (tagL server nonce) plain).length=p:=by rw [zep,hp]
 have ho:(outL server nonce plain).length=16+p:=by rw [zhb,hm,hp]
 have hs:(zdr server nonce plain).length=16+p+32:=by rw [zcg,hm,hp]
 have CC:=fun A3 (W:World) h1 h2=>ziu W.heap.size B A3 16 d p p nonce (zex (tagL server nonce) plain) (W.alloc (.cells #[.slice B 16 d,.slice A3 p p] 33)) (zwg _ _ _ _) (zwf _ _ _ _) hm hl (Rd.below h1 (bal brf _)) (Rd.below h2 (bal brf _)) (by omega)
 have hoe:nonce++zex (tagL server nonce) plain=outL server nonce plain:=rfl
 rw [hoe] at CC
 have CM:=fun A1 c1 (W:World) h1 hK=>zhi A1 (some ⟨W.heap.size,0,none⟩) 32 c1 1 1 (tagL server nonce) [3] (W.alloc (.cells (nums .u8 [3]).toArray 5)) (za3 _ _) rfl (by omega) (by omega) (Rd.below h1 (bal brf _)) (zly W [3] 5) hK
 have CT:=fun A1 c1 A2 c2 W h1 h2 hK=>zmn A1 A2 32 c1 (16+p) c2 (tagL (tagL server nonce) [3]) (outL server nonce plain) W (za3 _ _) ho (by omega) (by omega) h1 h2 hK
 have HS:=Lib.hid hs
 have HL:=Lib.hid hl
 have HY:=Lib.hid hy
 have HZ:=Lib.hid hz
 have HK:=Lib.hid hK
 clear hn hm hp hx hy hz hK hl ho hs hoe
 go_enter Lead.func28,Tryd.ntmps28
 go_wp2_with (first
  | (go_at_call 36;refine CK.mono ?_;rintro e w1 ⟨B1,c1,he,hc1,hl1,hr1,hb1⟩;rw [za3] at he;subst he;have HR1:=Lib.hid hr1;clear hr1;have HBX:=hb1)
  | (go_at_call 39;refine (CH _ _ _ HR1.out (HZ.out.below HBX) (HK.out.go HBX)).mono ?_;rintro e w2 ⟨A2,he,hr2,hB2,hb2⟩;rw [HL.out] at he;subst he;have HR2:=Lib.hid hr2;clear hr2 hB2;have HR1:=Lib.hid (HR1.out.below hb2);have HBX:=bgo HBX hb2)
  | (go_at_call 25;refine (CC _ _ (HY.out.below HBX) HR2.out).mono ?_;rintro e w3 ⟨A3,c3,he,hc3,hown3,hb3⟩;subst he;have HBY:=bal HBX (.cells #[.slice B 16 d,.slice A2 p p] 33);have HR1:=Lib.hid ((HR1.out.below (bal brf (.cells #[.slice B 16 d,.slice A2 p p] 33))).below hb3);have HBX:=bgo HBY hb3;have HO:=Lib.hid hown3;clear hown3)
  | (go_at_call 38;refine (CM _ _ _ HR1.out (HK.out.go (bal HBX _))).mono ?_;rintro e w4 ⟨B4,c4,he,hc4,hl4,hr4,hb4⟩;rw [za3] at he;subst he;have HO:=Lib.hid (zd0 (HO.out.alloc (.cells (nums .u8 [3]).toArray 5)) hb4);have HBX:=bgo (bal HBX _) hb4)
  | (go_at_call 43;refine (CT _ _ _ _ _ hr4 (Rd.of_own HO.out) (HK.out.go HBX)).mono ?_;rintro e w5 ⟨B5,c5,he,hc5,hl5,hr5,hb5⟩;rw [za3] at he;subst he;have HO:=Lib.hid (zd0 HO.out hb5);have HBX:=bgo HBX hb5)
  | (at_builtin;refine zx9 rfl _ _ 33 rfl _ 5 i0 (.int .u8 0) 1 (Lead.of Tryd.underlying33) hi hz0 hz1 hz2 rfl _ (16+p) _ rfl HO.out _ 32 _ _ rfl (by simp [za3]) hr5 zgg (by unfold maxLen;omega) (by omega) (by have z3:=hb3.size;have z4:=hb4.size;have z5:=hb5.size;simp only [World.size_alloc] at z3 z4 z5 ⊢;omega) ?_;intro v6 w6 hown6 hgrow6;have hb6:Below w.heap.size w w6:=zeo HO.out hgrow6 HBX HBX.size (by have z1:=hb1.size;have z2:=hb2.size;simp only [World.size_alloc] at z1 z2 ⊢;omega);obtain ⟨A6,c6,rfl⟩:=zdb hown6;rw [← List.map_append] at hown6))
 go_ret2
 have hz:w.heap.size≤w2.heap.size+1:=by have z1:=hb1.size;have z2:=hb2.size;omega
 exact zwu HS.out (zru hown6).1 (zm0 hown6 (by simpa using hz)) hb6
end
section
open Go.RowKit Go.ChangeShapes Go.WideShapes Go.ChangeAt
def nonL (b:List Int): List Int:=(b.drop 0).take 16
def zh6 (b:List Int): List Int:=(b.drop 0).take (b.length - 32)
def endL (b:List Int): List Int:=(b.drop (b.length - 32)).take 32
def inL (server b:List Int): List Int:=zex (tagL server (nonL b)) ((b.drop 16).take (b.length - 48))
def zis (server b:List Int): Int:=if b.length<48∨2096<b.length then 3 else zfd (tagL (tagL server (nonL b)) [3]) (zh6 b) (endL b)
theorem zmy {l:List Int}(h:Byt l)(i k:Nat): Byt ((l.drop i).take k):=fun x hx=>h x (List.mem_of_mem_drop (List.mem_of_mem_take hx))
theorem zjm {server b:List Int}(h1:48≤b.length)(h2:b.length≤2096): zis server b=zfd (tagL (tagL server (nonL b)) [3]) (zh6 b) (endL b):=by
 rw [zis,if_neg (by omega)]
theorem zjf (k b t:List Int): zfd k b t=0∨zfd k b t=4:=by
 unfold zfd;split <;> simp
theorem znb (server b:List Int)(h:48≤b.length): (inL server b).length=b.length - 48:=by rw [inL,zep];simp;omega
theorem z2v {server b:List Int}(h:Byt b): Byt (inL server b):=zr4 (zmy h _ _)
def zsj (w:World)(l k:List Int)(e:Ending)(w':World): Prop :=
 ∃ A B c,e=.returned (.tuple #[.slice A l.length l.length,.slice (some ⟨B,0,none⟩) k.length c,.int .i64 0])∧Rd w' A (nums .u8 l)∧(0<l.length→∃ B,A=some ⟨B,0,none⟩∧w.heap.size≤B∧B<w'.heap.size∧Brow w' B l)∧Rd w' (some ⟨B,0,none⟩) (nums .u8 k)∧k.length≤c∧Below w.heap.size w w'
theorem zqm {w w':World}{l k:List Int}{A:Option Addr}{B c n m:Nat}(hl:l.length=n)(hk:k.length=m)(hr:Rd w' A (nums .u8 l))(hB:0<l.length→∃ B,A=some ⟨B,0,none⟩∧w.heap.size≤B∧B<w'.heap.size∧Brow w' B l)(hq:Rd w' (some ⟨B,0,none⟩) (nums .u8 k))(hc:k.length≤c)(hb:Below w.heap.size w w'):
  zsj w l k (.returned (.tuple #[.slice A n n,.slice (some ⟨B,0,none⟩) m c,.int .i64 0])) w':=by
 subst hl hk
 exact ⟨A,B,c,rfl,hr,hB,hq,hc,hb⟩
theorem z4c {w w1 w2:World}{A:Option Addr}{l:List Int}(hb:Below w.heap.size w w1)(h:0<l.length→∃ B,A=some ⟨B,0,none⟩∧w1.heap.size≤B∧B<w2.heap.size∧Brow w2 B l): 0<l.length→∃ B,A=some ⟨B,0,none⟩∧w.heap.size≤B∧B<w2.heap.size∧Brow w2 B l:=fun h0=>by
 obtain ⟨B,h1,h2,h3,h4⟩:=h h0
 exact ⟨B,h1,Nat.le_trans hb.size h2,h3,h4⟩
set_option maxHeartbeats 1000000 in
theorem zrv (A:Option Addr)(B o:Nat)(n c m d:Nat)(server b:List Int)(w:World)(hn:server.length=n)(hm:b.length=m)(hbn:n≤4000)(h48:48≤m)(hbm:m≤2096)(hmd:m≤d)(hx:Rd w A (nums .u8 server))(hy:Rd w (some ⟨B,o,none⟩) (nums .u8 b))(hb:Byt b)(hK:za2 w)(hE:zis server b=0):
  Calls Lead.prog 23 #[.slice A n c,.slice (some ⟨B,o,none⟩) m d] w (zsj w (inL server b) (tagL server (nonL b))):=by
 obtain ⟨Q,hQ⟩:∃ Q,Q=m - 32:=⟨_,rfl⟩
 obtain ⟨P,hP⟩:∃ P,P=m - 48:=⟨_,rfl⟩
 have r1:¬ (m:Int)<48:=by omega
 have r2:¬ (2096:Int)<m:=by omega
 have r3:IntKind.i64.wrap ((m:Int) - 32)=(Q:Int):=by rw [show (m:Int) - 32=Q by omega];exact IntWalk.i64_in _ (by omega)
 have r4:(0:Int)≤Q:=by omega
 have r5:(Q:Int)≤d:=by omega
 have r6:(Q:Int)≤m:=by omega
 have r7:(16:Int)≤d:=by omega
 have r8:(16:Int)≤Q:=by omega
 have r9:(m:Int)≤d:=by omega
 have r10:¬ d=Q:=by omega
 have r11:m - Q=32:=by omega
 have r12:Q - 16=P:=by omega
 have r13:¬ d=16:=by omega
 have nQ:(nonL b).length=16:=by simp [nonL];omega
 have bQ:(zh6 b).length=Q:=by simp [zh6];omega
 have eQ:(endL b).length=32:=by simp [endL];omega
 have iQ:((b.drop 16).take P).length=P:=by simp;omega
 rw [zjm (by omega) (by omega)] at hE
 have hr0:=hy.part 0 16
 have hr1:=hy.part 0 Q
 have hr2:=hy.part Q 32
 have hr3:=hy.part 16 P
 rw [Nat.add_zero] at hr0 hr1
 have eb:(b.drop 0).take Q=zh6 b:=by rw [zh6,hm,hQ]
 have ee:(b.drop Q).take 32=endL b:=by rw [endL,hm,hQ]
 have en:(b.drop 0).take 16=nonL b:=rfl
 rw [en] at hr0
 rw [eb] at hr1
 rw [ee] at hr2
 have hil:(inL server b).length=P:=by rw [znb _ _ (by omega),hm,hP]
 have hi:zex (tagL server (nonL b)) ((b.drop 16).take P)=inL server b:=by rw [inL,hm,hP]
 obtain ⟨k,hk⟩:∃ k,k=tagL server (nonL b):=⟨_,rfl⟩
 have lk:k.length=32:=by rw [hk,za3]
 have CK:=fun W h1 h2 hK=>zm5 A (some ⟨B,o,none⟩) n c 16 d server (nonL b) W hn nQ (by omega) (by omega) h1 h2 hK
 have CH:=fun A1 c1 d1 W h1 h2 hK=>znd A1 (some ⟨B,o+16,none⟩) 32 c1 P d1 k ((b.drop 16).take P) W lk iQ (by omega) (by omega) h1 h2 hK
 have CM:=fun A1 c1 A2 W h1 h2 hK=>zhi A1 A2 32 c1 1 1 k [3] W lk rfl (by omega) (by omega) h1 h2 hK
 have CT:=fun A1 c1 d1 d2 W h1 h2 h3 hK=>zo3 A1 (some ⟨B,o,none⟩) (some ⟨B,o+Q,none⟩) 32 c1 Q d1 32 d2 (tagL k [3]) (zh6 b) (endL b) W (za3 _ _) bQ eQ (by omega) (by omega) h1 h2 h3 (zmy hb _ _) hK
 rw [← hk] at CK hi hE ⊢
 rw [hi] at CH
 rw [hE] at CT
 have HX:=Lib.hid hx
 have HIL:=Lib.hid hil
 have H0:=Lib.hid hr0
 have H1:=Lib.hid hr1
 have H2:=Lib.hid hr2
 have H3:=Lib.hid hr3
 have HK:=Lib.hid hK
 clear hn hx hy hK hr0 hr1 hr2 hr3 eb ee en hi hE hQ hP hk hm nQ bQ eQ iQ hb hil
 go_enter Lead.func23,Tryd.ntmps23
 go_upto_region 5 with (go_at_call 36;refine (CK _ HX.out H0.out HK.out).mono ?_;rintro e w1 ⟨B1,c1,he,hc1,hl1,hr1,hb1⟩;rw [lk] at he;subst he;have HR1:=Lib.hid hr1;clear hr1;have HBX:=hb1)
 have hB2:Below w.heap.size w (w1.drew.alloc (.cells (nums .u8 [3]).toArray 5)):=bal (bdr HBX) _
 have HA:=Lib.hid (show Below w1.heap.size w1 (w1.drew.alloc (.cells (nums .u8 [3]).toArray 5)) from bal (bdr brf) _)
 have hn3:Rd (w1.drew.alloc (.cells (nums .u8 [3]).toArray 5)) (some ⟨w1.heap.size,0,none⟩) (nums .u8 [3]):=zly w1.drew [3] _
 have HN3:=Lib.hid hn3
 have HB2:=Lib.hid hB2
 clear hB2 hn3
 go_region_with (first
  | (go_at_call 38;go_must (refine (CM _ _ _ _ (HR1.out.below HA.out) HN3.out (HK.out.go HB2.out)).mono ?_;rintro e w2 ⟨B2,c2,he,hc2,hl2,hr2,hb2⟩;rw [za3] at he;subst he;have HR2:=Lib.hid hr2;have HBY:=bgo HB2.out hb2;have HR1:=Lib.hid ((HR1.out.below HA.out).below hb2)))
  | (go_at_call 37;go_must (refine (CT _ _ _ _ _ HR2.out (H1.out.below HBY) (H2.out.below HBY) (HK.out.go HBY)).mono ?_;rintro e w3 ⟨rfl,hb3⟩;have HBZ:=bgo HBY hb3;have HR1:=Lib.hid (HR1.out.below hb3))))
 go_wp2_with (go_at_call 39;refine (CH _ _ _ _ HR1.out (H3.out.below HBZ) (HK.out.go HBZ)).mono ?_;rintro e w4 ⟨A4,he,hr4,hB4,hb4⟩;rw [HIL.out] at he;subst he;have HR4:=Lib.hid hr4;have HG4:=Lib.hid hB4;have HR1:=Lib.hid (HR1.out.below hb4);clear hr4 hB4)
 go_ret3
 exact zqm HIL.out lk HR4.out (z4c HBZ HG4.out) HR1.out hc1 (bgo HBZ hb4)
set_option maxHeartbeats 1000000 in
theorem zzj (A:Option Addr)(B o:Nat)(n c m d:Nat)(server b:List Int)(w:World)(hn:server.length=n)(hm:b.length=m)(hbn:n≤4000)(h48:48≤m)(hbm:m≤2096)(hmd:m≤d)(hx:Rd w A (nums .u8 server))(hy:Rd w (some ⟨B,o,none⟩) (nums .u8 b))(hb:Byt b)(hK:za2 w)(hE:zis server b≠0):
  Calls Lead.prog 23 #[.slice A n c,.slice (some ⟨B,o,none⟩) m d] w (fun e w'=>e=.returned (.tuple #[.slice none 0 0,.slice none 0 0,.int .i64 4])∧Below w.heap.size w w'):=by
 obtain ⟨Q,hQ⟩:∃ Q,Q=m - 32:=⟨_,rfl⟩
 obtain ⟨P,hP⟩:∃ P,P=m - 48:=⟨_,rfl⟩
 have r1:¬ (m:Int)<48:=by omega
 have r2:¬ (2096:Int)<m:=by omega
 have r3:IntKind.i64.wrap ((m:Int) - 32)=(Q:Int):=by rw [show (m:Int) - 32=Q by omega];exact IntWalk.i64_in _ (by omega)
 have r4:(0:Int)≤Q:=by omega
 have r5:(Q:Int)≤d:=by omega
 have r6:(Q:Int)≤m:=by omega
 have r7:(16:Int)≤d:=by omega
 have r8:(16:Int)≤Q:=by omega
 have r9:(m:Int)≤d:=by omega
 have r10:¬ d=Q:=by omega
 have r11:m - Q=32:=by omega
 have r12:Q - 16=P:=by omega
 have r13:¬ d=16:=by omega
 have nQ:(nonL b).length=16:=by simp [nonL];omega
 have bQ:(zh6 b).length=Q:=by simp [zh6];omega
 have eQ:(endL b).length=32:=by simp [endL];omega
 have iQ:((b.drop 16).take P).length=P:=by simp;omega
 rw [zjm (by omega) (by omega)] at hE
 have hr0:=hy.part 0 16
 have hr1:=hy.part 0 Q
 have hr2:=hy.part Q 32
 have hr3:=hy.part 16 P
 rw [Nat.add_zero] at hr0 hr1
 have eb:(b.drop 0).take Q=zh6 b:=by rw [zh6,hm,hQ]
 have ee:(b.drop Q).take 32=endL b:=by rw [endL,hm,hQ]
 have en:(b.drop 0).take 16=nonL b:=rfl
 rw [en] at hr0
 rw [eb] at hr1
 rw [ee] at hr2
 have hil:(inL server b).length=P:=by rw [znb _ _ (by omega),hm,hP]
 have hi:zex (tagL server (nonL b)) ((b.drop 16).take P)=inL server b:=by rw [inL,hm,hP]
 replace hE:=(zjf _ _ _).resolve_left hE
 obtain ⟨k,hk⟩:∃ k,k=tagL server (nonL b):=⟨_,rfl⟩
 have lk:k.length=32:=by rw [hk,za3]
 have CK:=fun W h1 h2 hK=>zm5 A (some ⟨B,o,none⟩) n c 16 d server (nonL b) W hn nQ (by omega) (by omega) h1 h2 hK
 have CH:=fun A1 c1 d1 W h1 h2 hK=>znd A1 (some ⟨B,o+16,none⟩) 32 c1 P d1 k ((b.drop 16).take P) W lk iQ (by omega) (by omega) h1 h2 hK
 have CM:=fun A1 c1 A2 W h1 h2 hK=>zhi A1 A2 32 c1 1 1 k [3] W lk rfl (by omega) (by omega) h1 h2 hK
 have CT:=fun A1 c1 d1 d2 W h1 h2 h3 hK=>zo3 A1 (some ⟨B,o,none⟩) (some ⟨B,o+Q,none⟩) 32 c1 Q d1 32 d2 (tagL k [3]) (zh6 b) (endL b) W (za3 _ _) bQ eQ (by omega) (by omega) h1 h2 h3 (zmy hb _ _) hK
 rw [← hk] at CK hi hE
 rw [hi] at CH
 rw [hE] at CT
 have HX:=Lib.hid hx
 have HIL:=Lib.hid hil
 have H0:=Lib.hid hr0
 have H1:=Lib.hid hr1
 have H2:=Lib.hid hr2
 have H3:=Lib.hid hr3
 have HK:=Lib.hid hK
 clear hn hx hy hK hr0 hr1 hr2 hr3 eb ee en hi hE hQ hP hk hm nQ bQ eQ iQ hb hil
 go_enter Lead.func23,Tryd.ntmps23
 go_upto_region 5 with (go_at_call 36;refine (CK _ HX.out H0.out HK.out).mono ?_;rintro e w1 ⟨B1,c1,he,hc1,hl1,hr1,hb1⟩;rw [lk] at he;subst he;have HR1:=Lib.hid hr1;clear hr1;have HBX:=hb1)
 have hB2:Below w.heap.size w (w1.drew.alloc (.cells (nums .u8 [3]).toArray 5)):=bal (bdr HBX) _
 have HA:=Lib.hid (show Below w1.heap.size w1 (w1.drew.alloc (.cells (nums .u8 [3]).toArray 5)) from bal (bdr brf) _)
 have hn3:Rd (w1.drew.alloc (.cells (nums .u8 [3]).toArray 5)) (some ⟨w1.heap.size,0,none⟩) (nums .u8 [3]):=zly w1.drew [3] _
 have HN3:=Lib.hid hn3
 have HB2:=Lib.hid hB2
 clear hB2 hn3
 go_region_with (first
  | (go_at_call 38;go_must (refine (CM _ _ _ _ (HR1.out.below HA.out) HN3.out (HK.out.go HB2.out)).mono ?_;rintro e w2 ⟨B2,c2,he,hc2,hl2,hr2,hb2⟩;rw [za3] at he;subst he;have HR2:=Lib.hid hr2;have HBY:=bgo HB2.out hb2;have HR1:=Lib.hid ((HR1.out.below HA.out).below hb2)))
  | (go_at_call 37;go_must (refine (CT _ _ _ _ _ HR2.out (H1.out.below HBY) (H2.out.below HBY) (HK.out.go HBY)).mono ?_;rintro e w3 ⟨rfl,hb3⟩;have HBZ:=bgo HBY hb3;have HR1:=Lib.hid (HR1.out.below hb3))))
 go_wp2_with fail
 go_ret3
 exact ⟨rfl,HBZ⟩
end
section
open Go.RowKit Go.ChangeShapes Go.WideShapes Go.ChangeAt
theorem zkb {server nonce plain:List Int}(hn:nonce.length=16): nonL (zdr server nonce plain)=nonce:=by
 rw [nonL,List.drop_zero,zdr,outL,List.append_assoc,List.take_append_of_le_length (by omega),List.take_of_length_le (by omega)]
theorem zs1 {server nonce plain:List Int}(hn:nonce.length=16): zh6 (zdr server nonce plain)=outL server nonce plain:=by
 rw [zh6,List.drop_zero,zcg,zdr,List.take_append_of_le_length (by rw [zhb];omega),List.take_of_length_le (by rw [zhb];omega)]
theorem zvh {server nonce plain:List Int}(hn:nonce.length=16): endL (zdr server nonce plain)=tagL (tagL (tagL server nonce) [3]) (outL server nonce plain):=by
 have h:nonce.length+plain.length+32 - 32=(outL server nonce plain).length:=by rw [zhb];omega
 rw [endL,zcg,h,zdr,List.drop_left,List.take_of_length_le (by rw [za3];exact Nat.le_refl _)]
theorem zy3 {server nonce plain:List Int}(hn:nonce.length=16)(hb:Byt plain): inL server (zdr server nonce plain)=plain:=by
 have h1:(zdr server nonce plain).drop 16=zex (tagL server nonce) plain++tagL (tagL (tagL server nonce) [3]) (outL server nonce plain):=by
  rw [zdr]
  conv=>lhs;rw [outL,List.append_assoc,← hn,List.drop_left]
  rfl
 rw [inL,zkb hn,h1,zcg,hn,List.take_append_of_le_length (by rw [zep];omega),List.take_of_length_le (by rw [zep];omega)]
 exact ztj _ hb
theorem zs0 {server nonce plain:List Int}(hn:nonce.length=16)(hp:plain.length≤2048): zis server (zdr server nonce plain)=0:=by
 rw [zjm (by rw [zcg];omega) (by rw [zcg];omega),zkb hn,zs1 hn,zvh hn,zfd,if_pos rfl]
end
section
open Go.RowKit
end
section
end
section
open Go.RowKit
theorem zob {w:World}{base g n c k:Nat}{e:TypeId}{xs:List Value}(h:w.ownsRow base e 1 (.slice (some ⟨g,0,none⟩) n c) n xs)(u:Value)(hk:k<n): (w.setCell ⟨g,k,none⟩ u).ownsRow base e 1 (.slice (some ⟨g,0,none⟩) n c) n (xs.set k u):=by
 have hl:=h.1
 refine ⟨by simpa using hl,?_⟩
 rcases h.2 with ⟨h1,_⟩|⟨g',cap,cur,h1,hb,hg,hc1,hc2,hc3,hc4⟩
 ·cases h1
 ·have h2:=h1
  simp only [Value.slice.injEq,Option.some.injEq,Addr.mk.injEq] at h2
  obtain ⟨⟨rfl,_⟩,_,rfl⟩:=h2
  refine .inr ⟨g,c,cur.setIfInBounds k u,rfl,hb,?_,hc1,hc2,by simpa using hc3,?_⟩
  ·simp [World.setCell,Array.getElem?_modify,hg]
  ·rw [← hc4]
   apply List.ext_getElem?
   intro i
   simp only [List.getElem?_set,Array.toList_setIfInBounds,List.getElem?_take,List.length_take]
   by_cases hi:k=i
   ·subst hi
    simp only [if_true,List.length_take,Array.length_toList,Nat.mul_one]
    rw [if_pos hk,if_pos (by omega),if_pos (by omega)]
   ·simp [hi]
theorem zv5 {w:World}{b base:Nat}{e:TypeId}{s n:Nat}{v:Value}{xs:List Value}(h:w.ownsRow base e s v n xs)(hb:b≤base): w.ownsRow b e s v n xs:=by
 refine ⟨h.1,?_⟩
 rcases h.2 with h1|⟨g,cap,cur,h1,h2,hh,hc⟩
 ·exact .inl h1
 ·exact .inr ⟨g,cap,cur,h1,Nat.le_trans hb h2,hh,hc⟩
end
section
open Go.RowKit
theorem zwi (w:World)(a b d:Value)(t:TypeId): (w.alloc (.cells #[a,b,d] t)).cell? ⟨w.heap.size,0,none⟩=some a:=by
 rw [World.cell?_alloc_at _ _ _ _ rfl];rfl
theorem zwh (w:World)(a b d:Value)(t:TypeId): (w.alloc (.cells #[a,b,d] t)).cell? ⟨w.heap.size,1,none⟩=some b:=by
 rw [World.cell?_alloc_at _ _ _ _ rfl];rfl
end
section
open Go.RowKit Go.ChangeShapes Go.WideShapes Go.ChangeAt
def lenO (h:Int): Int:=if 1≤h∧h≤8 then 78+48 * h else 0
theorem zjn (h:Int)(w:World): Calls Lead.prog 22 #[.int .i64 h] w fun e w'=>e=.returned (.int .i64 (lenO h))∧w=w':=by
 by_cases h1:1≤h
 ·by_cases h2:h≤8
  ·have e:lenO h=78+48 * h:=if_pos ⟨h1,h2⟩
   have E:=Lib.hid e
   clear e
   go_enter Lead.func22,Tryd.ntmps22
   go_wp2
   go_ret
   rw [E.out]
   exact ⟨by simp;omega,rfl⟩
  ·have e:lenO h=0:=if_neg (fun x=>h2 x.2)
   have E:=Lib.hid e
   clear e
   go_enter Lead.func22,Tryd.ntmps22
   go_wp2
   go_ret
   rw [E.out]
   exact ⟨rfl,rfl⟩
 ·have e:lenO h=0:=if_neg (fun x=>h1 x.1)
  have E:=Lib.hid e
  clear e
  go_enter Lead.func22,Tryd.ntmps22
  go_wp2
  go_ret
  rw [E.out]
  exact ⟨rfl,rfl⟩
theorem zm7 {H:Nat}(h1:1≤H)(h8:H≤8): lenO H=((78+48 * H:Nat):Int):=by
 rw [lenO,if_pos (by omega)];omega
def zbr (hop:Nat)(b:List Int): List Int:=b.take (b.length - 48 * hop)
def zej (server:List Int)(hop:Nat)(b:List Int): List Int:=tagL server (nonL (zbr hop b))
def padO (hop hops:Nat)(k:List Int): List Int:=if hop+1=hops then [] else zbw (tagL k [2]) (48 * (hop+1))
def zcz (server:List Int)(hop hops:Nat)(b:List Int): List Int:=inL server (zbr hop b)++padO hop hops (zej server hop b)
def zgi (hop hops:Int)(n:Nat): Prop:=1≤hops∧hops≤8∧0≤hop∧hop<hops∧(n:Int)=78+48 * hops
theorem zg8 {hop hops:Nat}{b:List Int}(hb:b.length=78+48 * hops)(h:hop<hops): (zbr hop b).length=78+48 * (hops - hop):=by
 rw [zbr,List.length_take];omega
theorem zg9 {hop:Nat}{b:List Int}(h:Byt b): Byt (zbr hop b):=fun x hx=>h x (List.mem_of_mem_take hx)
def zla (z:Int)(w:World)(e:Ending)(w':World): Prop:=e=.returned (.tuple #[.slice none 0 0,.slice none 0 0,.int .i64 z])∧Below w.heap.size w w'
theorem zzd (A B:Option Addr)(n c m d:Nat)(hop hops:Int)(w:World)(h:¬ zgi hop hops m):
  Calls Lead.prog 15 #[.slice A n c,.int .i64 hop,.int .i64 hops,.slice B m d] w (zla 1 w):=by
 unfold zgi at h
 by_cases h1:hops<1
 ·clear h
  go_enter Lead.func15,Tryd.ntmps15
  go_wp2
  go_ret3
  exact ⟨rfl,brf⟩
 by_cases h2:8<hops
 ·clear h
  go_enter Lead.func15,Tryd.ntmps15
  go_wp2
  go_ret3
  exact ⟨rfl,brf⟩
 by_cases h3:hop<0
 ·clear h
  go_enter Lead.func15,Tryd.ntmps15
  go_wp2
  go_ret3
  exact ⟨rfl,brf⟩
 by_cases h4:hops≤hop
 ·clear h
  go_enter Lead.func15,Tryd.ntmps15
  go_wp2
  go_ret3
  exact ⟨rfl,brf⟩
 have e:lenO hops=78+48 * hops:=if_pos ⟨by omega,by omega⟩
 have h5:¬ ((m:Int)=78+48 * hops):=by omega
 have h6:((m:Int) != 78+48 * hops)=true:=by simpa using h5
 have E:=Lib.hid e
 clear e h
 go_enter Lead.func15,Tryd.ntmps15
 go_wp2_with (go_at_call 22;refine (zjn _ _).mono ?_;rintro e w1 ⟨he,rfl⟩;rw [E.out] at he;subst he)
 go_ret3
 exact ⟨rfl,brf⟩
end
section
open Go.RowKit Go.ChangeShapes Go.WideShapes Go.ChangeAt
def zsi (w:World)(l k:List Int)(e:Ending)(w':World): Prop :=
 ∃ A B c d,e=.returned (.tuple #[.slice A l.length c,.slice B k.length d,.int .i64 0])∧l.length≤c∧Rd w' A (nums .u8 l)∧Rd w' B (nums .u8 k)∧Below w.heap.size w w'
theorem zol {w w':World}{l k:List Int}{A B:Option Addr}{c d n m:Nat}(hl:l.length=n)(hk:k.length=m)(hc:n≤c)(hr:Rd w' A (nums .u8 l))(hq:Rd w' B (nums .u8 k))(hb:Below w.heap.size w w'):
  zsi w l k (.returned (.tuple #[.slice A n c,.slice B m d,.int .i64 0])) w':=by
 subst hl hk
 exact ⟨A,B,c,d,rfl,hc,hr,hq,hb⟩
set_option maxHeartbeats 2000000 in
theorem zzb (A B:Option Addr)(n c m d:Nat)(hop hops:Nat)(server b:List Int)(w:World)(hn:server.length=n)(hm:b.length=m)(hbn:n≤4000)(h8:hops≤8)(hlt:hop<hops)(hmm:m=78+48 * hops)(hmd:m≤d)(hx:Rd w A (nums .u8 server))(hy:Rd w B (nums .u8 b))(hb:Byt b)(hK:za2 w)(hE:zis server (zbr hop b)≠0):
  Calls Lead.prog 15 #[.slice A n c,.int .i64 hop,.int .i64 hops,.slice B m d] w (zla 4 w):=by
 obtain ⟨i0,hi,hz0,hz1,hz2⟩:=info_parts zbz
 obtain ⟨B,o,rfl,_,_⟩:=hy.at_ (by simp [hm];omega)
 obtain ⟨L,hL⟩:∃ L,L=78+48 * (hops - hop):=⟨_,rfl⟩
 have hpl:(zbr hop b).length=L:=by rw [hL];exact zg8 (by rw [hm,hmm]) hlt
 have hyp:Rd w (some ⟨B,o,none⟩) (nums .u8 (zbr hop b)):=hy.take _
 have hpb:Byt (zbr hop b):=zg9 hb
 have e1:lenO hops=(m:Int):=by rw [zm7 (by omega) h8,hmm]
 have e2:(m:Int) - (hop:Int) * 48=(L:Int):=by omega
 have e3:(m:Int) - 48 * (hop:Int)=(L:Int):=by omega
 have r1:(0:Int)≤L:=by omega
 have r9:(L:Int)≤1000:=by omega
 have r2:(L:Int)≤d:=by omega
 have r3:¬ (hops:Int)<1:=by omega
 have r4:¬ (8:Int)<hops:=by omega
 have r5:¬ (hop:Int)<0:=by omega
 have r6:¬ (hops:Int)≤hop:=by omega
 have CO:=fun W h1 h2 hK=>zzj A B o n c L d server (zbr hop b) W hn hpl hbn (by omega) (by omega) (by omega) h1 h2 hpb hK hE
 have E1:=Lib.hid e1
 have HX:=Lib.hid hx
 have HYP:=Lib.hid hyp
 have HK:=Lib.hid hK
 clear e1 hL hpl hyp hpb hx hy hb hn hm hmm hK hE
 go_enter Lead.func15,Tryd.ntmps15
 go_wp2_with (first
  | (go_at_call 22;refine (zjn _ _).mono ?_;rintro e w1 ⟨he,rfl⟩;rw [E1.out] at he;subst he)
  | (go_at_call 23;refine (CO _ HX.out HYP.out HK.out).mono ?_;rintro e w2 ⟨rfl,hb2⟩))
 go_ret3
 exact ⟨rfl,hb2⟩
set_option maxHeartbeats 2000000 in
theorem zv1 (A B:Option Addr)(n c m d:Nat)(hop hops:Nat)(server b:List Int)(w:World)(hn:server.length=n)(hm:b.length=m)(hbn:n≤4000)(h8:hops≤8)(hlt:hop<hops)(hmm:m=78+48 * hops)(hmd:m≤d)(hx:Rd w A (nums .u8 server))(hy:Rd w B (nums .u8 b))(hb:Byt b)(hK:za2 w)(hE:zis server (zbr hop b)=0)(hh:hop+1=hops):
  Calls Lead.prog 15 #[.slice A n c,.int .i64 hop,.int .i64 hops,.slice B m d] w (zsi w (zcz server hop hops b) (zej server hop b)):=by
 obtain ⟨i0,hi,hz0,hz1,hz2⟩:=info_parts zbz
 obtain ⟨B,o,rfl,_,_⟩:=hy.at_ (by simp [hm];omega)
 obtain ⟨L,hL⟩:∃ L,L=78+48 * (hops - hop):=⟨_,rfl⟩
 have hpl:(zbr hop b).length=L:=by rw [hL];exact zg8 (by rw [hm,hmm]) hlt
 have hyp:Rd w (some ⟨B,o,none⟩) (nums .u8 (zbr hop b)):=hy.take _
 have hpb:Byt (zbr hop b):=zg9 hb
 have e1:lenO hops=(m:Int):=by rw [zm7 (by omega) h8,hmm]
 have e2:(m:Int) - (hop:Int) * 48=(L:Int):=by omega
 have e3:(m:Int) - 48 * (hop:Int)=(L:Int):=by omega
 have r1:(0:Int)≤L:=by omega
 have r9:(L:Int)≤1000:=by omega
 have r2:(L:Int)≤d:=by omega
 have r3:¬ (hops:Int)<1:=by omega
 have r4:¬ (8:Int)<hops:=by omega
 have r5:¬ (hop:Int)<0:=by omega
 have r6:¬ (hops:Int)≤hop:=by omega
 have CO:=fun W h1 h2 hK=>zrv A B o n c L d server (zbr hop b) W hn hpl hbn (by omega) (by omega) (by omega) h1 h2 hpb hK hE
 obtain ⟨P,hP⟩:∃ P,P=L - 48:=⟨_,rfl⟩
 have hil:(inL server (zbr hop b)).length=P:=by rw [znb _ _ (by omega),hpl,hP]
 have hlk:(tagL server (nonL (zbr hop b))).length=32:=za3 _ _
 have hpo:zej server hop b=tagL server (nonL (zbr hop b)):=rfl
 obtain ⟨k,hk⟩:∃ k,k=tagL server (nonL (zbr hop b)):=⟨_,rfl⟩
 obtain ⟨pl,hpp⟩:∃ pl,pl=inL server (zbr hop b):=⟨_,rfl⟩
 rw [← hk] at hlk hpo
 rw [← hpp] at hil
 have HIL:=Lib.hid hil
 have HLK:=Lib.hid hlk
 have hfin:zcz server hop hops b=pl:=by rw [zcz,padO,if_pos hh,List.append_nil,← hpp]
 have r7:((hop:Int) == (hops:Int) - 1)=true:=by simp;omega
 have r8:¬ (hop:Int)<(hops:Int) - 1:=by omega
 rw [← hk,← hpp] at CO
 have HF:=Lib.hid hfin
 have HPO:=Lib.hid hpo
 have E1:=Lib.hid e1
 have HX:=Lib.hid hx
 have HYP:=Lib.hid hyp
 have HK:=Lib.hid hK
 clear e1 hL hpl hyp hpb hx hy hb hn hm hmm hK hE hP hil hlk hpo hk hpp hfin hh
 go_enter Lead.func15,Tryd.ntmps15
 go_wp2_with (first
  | (go_at_call 22;refine (zjn _ _).mono ?_;rintro e w1 ⟨he,rfl⟩;rw [E1.out] at he;subst he)
  | (go_at_call 23;refine (CO _ HX.out HYP.out HK.out).mono ?_;rintro e w2 ⟨A2,B2,c2,he,hr2,_,hq2,_,hb2⟩;rw [HIL.out,HLK.out] at he;subst he;have HR:=Lib.hid hr2;have HQ:=Lib.hid hq2;have HBX:=hb2;clear hr2 hq2))
 go_ret3
 rw [HF.out,HPO.out]
 exact zol HIL.out HLK.out (Nat.le_refl _) HR.out HQ.out HBX
set_option maxHeartbeats 2000000 in
theorem zzc (A B:Option Addr)(n c m d:Nat)(hop hops:Nat)(server b:List Int)(w:World)(hn:server.length=n)(hm:b.length=m)(hbn:n≤4000)(h8:hops≤8)(hlt:hop<hops)(hmm:m=78+48 * hops)(hmd:m≤d)(hx:Rd w A (nums .u8 server))(hy:Rd w B (nums .u8 b))(hb:Byt b)(hK:za2 w)(hE:zis server (zbr hop b)=0)(hh:hop+1<hops):
  Calls Lead.prog 15 #[.slice A n c,.int .i64 hop,.int .i64 hops,.slice B m d] w (zsi w (zcz server hop hops b) (zej server hop b)):=by
 obtain ⟨i0,hi,hz0,hz1,hz2⟩:=info_parts zbz
 obtain ⟨B,o,rfl,_,_⟩:=hy.at_ (by simp [hm];omega)
 obtain ⟨L,hL⟩:∃ L,L=78+48 * (hops - hop):=⟨_,rfl⟩
 have hpl:(zbr hop b).length=L:=by rw [hL];exact zg8 (by rw [hm,hmm]) hlt
 have hyp:Rd w (some ⟨B,o,none⟩) (nums .u8 (zbr hop b)):=hy.take _
 have hpb:Byt (zbr hop b):=zg9 hb
 have e1:lenO hops=(m:Int):=by rw [zm7 (by omega) h8,hmm]
 have e2:(m:Int) - (hop:Int) * 48=(L:Int):=by omega
 have e3:(m:Int) - 48 * (hop:Int)=(L:Int):=by omega
 have r1:(0:Int)≤L:=by omega
 have r9:(L:Int)≤1000:=by omega
 have r2:(L:Int)≤d:=by omega
 have r3:¬ (hops:Int)<1:=by omega
 have r4:¬ (8:Int)<hops:=by omega
 have r5:¬ (hop:Int)<0:=by omega
 have r6:¬ (hops:Int)≤hop:=by omega
 have CO:=fun W h1 h2 hK=>zrv A B o n c L d server (zbr hop b) W hn hpl hbn (by omega) (by omega) (by omega) h1 h2 hpb hK hE
 obtain ⟨P,hP⟩:∃ P,P=L - 48:=⟨_,rfl⟩
 have hil:(inL server (zbr hop b)).length=P:=by rw [znb _ _ (by omega),hpl,hP]
 have hlk:(tagL server (nonL (zbr hop b))).length=32:=za3 _ _
 have hpo:zej server hop b=tagL server (nonL (zbr hop b)):=rfl
 obtain ⟨k,hk⟩:∃ k,k=tagL server (nonL (zbr hop b)):=⟨_,rfl⟩
 obtain ⟨pl,hpp⟩:∃ pl,pl=inL server (zbr hop b):=⟨_,rfl⟩
 rw [← hk] at hlk hpo
 rw [← hpp] at hil
 have HIL:=Lib.hid hil
 have HLK:=Lib.hid hlk
 obtain ⟨D,hD⟩:∃ D,D=48 * (hop+1):=⟨_,rfl⟩
 have e4:(m:Int) - (P:Int)=(D:Int):=by omega
 have r10:(D:Int)≤1000:=by omega
 have r11:(0:Int)≤D:=by omega
 have hfin:zcz server hop hops b=pl++zbw (tagL k [2]) D:=by rw [zcz,hpo,padO,if_neg (by omega),← hpp,hD]
 have r7:((hop:Int) == (hops:Int) - 1)=false:=by simp;omega
 have r8:(hop:Int)<(hops:Int) - 1:=by omega
 have CP:=fun B1 c1 W h1 hK=>zzh B1 32 c1 D k W hlk (by omega) (by omega) h1 hK
 have hsl:(zbw (tagL k [2]) D).length=D:=zbv _ _
 have htot:(pl++zbw (tagL k [2]) D).length=P+D:=by rw [List.length_append,hil,hsl]
 have HSL:=Lib.hid hsl
 have HTOT:=Lib.hid htot
 have CC:=fun A3 A4 c4 (W:World) h1 h2=>ziu W.heap.size A3 A4 P P D c4 pl (zbw (tagL k [2]) D) (W.alloc (.cells #[.slice A3 P P,.slice A4 D c4] 33)) (zwg _ _ _ _) (zwf _ _ _ _) hil hsl (Rd.below h1 (bal brf _)) (Rd.below h2 (bal brf _)) (by omega)
 rw [← hk,← hpp] at CO
 have HF:=Lib.hid hfin
 have HPO:=Lib.hid hpo
 have E1:=Lib.hid e1
 have HX:=Lib.hid hx
 have HYP:=Lib.hid hyp
 have HK:=Lib.hid hK
 clear e1 hL hpl hyp hpb hx hy hb hn hm hmm hK hE hP hil hlk hpo hk hpp hfin hh hD hsl htot
 go_enter Lead.func15,Tryd.ntmps15
 go_wp2_with (first
  | (go_at_call 22;refine (zjn _ _).mono ?_;rintro e w1 ⟨he,rfl⟩;rw [E1.out] at he;subst he)
  | (go_at_call 23;refine (CO _ HX.out HYP.out HK.out).mono ?_;rintro e w2 ⟨A2,B2,c2,he,hr2,_,hq2,_,hb2⟩;rw [HIL.out,HLK.out] at he;subst he;have HR:=Lib.hid hr2;have HQ:=Lib.hid hq2;have HBX:=hb2;clear hr2 hq2)
  | (go_at_call 24;refine (CP _ _ _ HQ.out (HK.out.go HBX)).mono ?_;rintro e w3 ⟨A3,c3,he,hc3,hl3,ho3,hb3⟩;rw [HSL.out] at he ho3;subst he;have HR:=Lib.hid (HR.out.below hb3);have HQ:=Lib.hid (HQ.out.below hb3);have HBX:=bgo HBX hb3;have HR3:=Lib.hid (Rd.of_own ho3);clear ho3)
  | (go_at_call 25;refine (CC _ _ _ _ HR.out HR3.out).mono ?_;rintro e w4 ⟨A4,c4,rfl,hl4,hown4,hb4⟩;have HQ:=Lib.hid ((HQ.out.below (bal brf _)).below hb4);have HBX:=bgo (bal HBX _) hb4))
 go_ret3
 rw [HF.out,HPO.out]
 exact zol HTOT.out HLK.out (zru hown4).1 (Rd.of_own hown4) HQ.out HBX
end
section
open Go.RowKit Go.ChangeShapes Go.WideShapes
def Part (w:World)(v:Value)(xs:List Int): Prop:=∃ A c,v=.slice A xs.length c∧xs.length≤c∧c≤maxLen∧Rd w A (nums .u8 xs)
theorem Part.below {w w':World}{v:Value}{xs:List Int}(h:Part w v xs)(hb:Below w.heap.size w w'): Part w' v xs:=by
 obtain ⟨A,c,rfl,h1,h2,hr⟩:=h
 exact ⟨A,c,rfl,h1,h2,hr.below hb⟩
def zdh (w:World)(vs:List Value)(L:List (List Int)): Prop:=vs.length=L.length∧∀ i,i<L.length→Part w (vs.getD i undef) (L.getD i [])
theorem zdh.below {w w':World}{vs:List Value}{L:List (List Int)}(h:zdh w vs L)(hb:Below w.heap.size w w'): zdh w' vs L :=
 ⟨h.1,fun i hi=>(h.2 i hi).below hb⟩
theorem zdh.snoc {w:World}{vs:List Value}{L:List (List Int)}{v:Value}{xs:List Int}(h:zdh w vs L)(hp:Part w v xs): zdh w (vs++[v]) (L++[xs]):=by
 refine ⟨by simp [h.1],fun i hi=>?_⟩
 have hl:=h.1
 by_cases e:i<L.length
 ·have:=h.2 i e
  simpa [List.getD,List.getElem?_append_left (show i<vs.length by omega),List.getElem?_append_left e] using this
 ·have e2:i=L.length:=by simp at hi;omega
  subst e2
  have h1:(vs++[v]).getD L.length undef=v:=by rw [← hl];simp [List.getD]
  have h2:(L++[xs]).getD L.length []=xs:=by simp [List.getD]
  rw [h1,h2];exact hp
theorem znr {vs:List Value}{i:Nat}(h:i<vs.length): vs[i]?=some (vs.getD i undef):=by simp [List.getD,h]
def znn (w:World)(row:Option Nat)(e:TypeId): Prop:=∀ g,row=some g→∃ cs t m,w.heap[g]?=some (.cells cs t m)∧t≠e
theorem zki {w:World}{base:Nat}{e t:TypeId}{s n:Nat}{v:Value}{xs:List Value}(h:w.ownsRow base t s v n xs)(hne:t≠e): znn w v.ownBlock e:=fun g hg=>by
 rcases h.2 with ⟨rfl,_⟩|⟨g',cap,cur,rfl,_,hh,_⟩
 ·simp [Value.ownBlock] at hg
 ·have:g'=g:=by simpa [Value.ownBlock] using hg
  subst this
  exact ⟨_,_,_,hh,hne⟩
theorem zrt {w w':World}{base:Nat}{e:TypeId}{s n:Nat}{v:Value}{xs:List Value}{row:Option Nat}(h:w.ownsRow base e s v n xs)(hg:w.grownBy w' row)(hr:znn w row e): w'.ownsRow base e s v n xs:=by
 refine ⟨h.1,?_⟩
 rcases h.2 with h1|⟨g,cap,cur,h1,hb,hh,hc⟩
 ·exact .inl h1
 ·refine .inr ⟨g,cap,cur,h1,hb,(hg.block g (Array.getElem?_eq_some_iff.1 hh).1 fun e'=>?_).trans hh,hc⟩
  obtain ⟨cs,t,m,h2,h3⟩:=hr g e'.symm
  rw [h2] at hh
  injection hh with hh
  injection hh with _ ht
  exact h3 ht
theorem zp9 {w:World}{base:Nat}{e:TypeId}{n c:Nat}{A:Option Addr}{vs:List Value}(h:w.ownsRow base e 1 (.slice A n c) n vs): n≤c∧c≤maxLen:=by
 rcases h.2 with ⟨h1,h2⟩|⟨g,cap,cur,h1,hb,hg,hc⟩
 ·cases h1;exact ⟨Nat.le_refl _,Nat.zero_le _⟩
 ·simp only [Value.slice.injEq] at h1
  obtain ⟨_,_,rfl⟩:=h1
  exact ⟨hc.1,hc.2.1⟩
theorem Part.of_own {w:World}{base:Nat}{v:Value}{xs:List Int}(h:w.ownsRow base 5 1 v xs.length (nums .u8 xs)): Part w v xs:=by
 obtain ⟨A,c,rfl⟩:=zdb h
 exact ⟨A,c,rfl,(zp9 h).1,(zp9 h).2,Rd.of_own h⟩
def zbj (w:World)(base:Nat)(vs:List Value)(L:List (List Int)): Prop:=vs.length=L.length∧∀ i,i<L.length→w.ownsRow base 5 1 (vs.getD i undef) (L.getD i []).length (nums .u8 (L.getD i []))
theorem zbj.parts {w:World}{base:Nat}{vs:List Value}{L:List (List Int)}(h:zbj w base vs L): zdh w vs L:=⟨h.1,fun i hi=>Part.of_own (h.2 i hi)⟩
theorem zbj.keep {w w':World}{base:Nat}{vs:List Value}{L:List (List Int)}{row:Option Nat}(h:zbj w base vs L)(hg:w.grownBy w' row)(hr:znn w row 5): zbj w' base vs L:=⟨h.1,fun i hi=>zrt (h.2 i hi) hg hr⟩
theorem zbj.alloc {w:World}{base:Nat}{vs:List Value}{L:List (List Int)}(h:zbj w base vs L)(o:Obj): zbj (w.alloc o) base vs L:=⟨h.1,fun i hi=>(h.2 i hi).alloc _⟩
theorem zbj.nil {w:World}{base:Nat}: zbj w base [] []:=⟨rfl,fun i hi=>by simp at hi⟩
theorem zbj.snoc {w:World}{base:Nat}{vs:List Value}{L:List (List Int)}{v:Value}{xs:List Int}(h:zbj w base vs L)(hp:w.ownsRow base 5 1 v xs.length (nums .u8 xs)): zbj w base (vs++[v]) (L++[xs]):=by
 refine ⟨by simp [h.1],fun i hi=>?_⟩
 have hl:=h.1
 by_cases e:i<L.length
 ·have:=h.2 i e
  simpa [List.getD,List.getElem?_append_left (show i<vs.length by omega),List.getElem?_append_left e] using this
 ·have e2:i=L.length:=by simp at hi;omega
  subst e2
  have h1:(vs++[v]).getD L.length undef=v:=by rw [← hl];simp [List.getD]
  have h2:(L++[xs]).getD L.length []=xs:=by simp [List.getD]
  rw [h1,h2];exact hp
end
section
open Go.RowKit Go.Shelf
attribute [local go_sem] Oper.semAt_some
def zc1:List (List Int)→List (List Int)→List Int→List Int
 | s :: Ls,n :: Ns,body=>zdr s n (zc1 Ls Ns body)
 | _,_,body=>body
def zm4 (Ls Ns:List (List Int))(body:List Int): Prop:=1≤Ls.length∧Ls.length≤8∧Ns.length=Ls.length∧(∀ i,i<Ns.length→(Ns.getD i []).length=16)∧body.length=78
theorem zmz {w:World}{vs:List Value}{L:List (List Int)}{A:Option Addr}{n k:Nat}(hr:Rd w A vs)(hp:zdh w vs L)(hn:L.length=n)(hk:k<n):
  ∃ b o A' c',A=some ⟨b,o,none⟩∧b<w.heap.size∧w.cell? ⟨b,o+k,none⟩=some (.slice A' (L.getD k []).length c')∧(L.getD k []).length≤c'∧Rd w A' (nums .u8 (L.getD k [])):=by
 have hl:=hp.1
 obtain ⟨b,o,rfl,hlt,hc⟩:=hr.at_ (by omega)
 obtain ⟨A',c',hv,h1,_,hr'⟩:=hp.2 k (by omega)
 refine ⟨b,o,A',c',rfl,hlt,?_,h1,hr'⟩
 rw [← hv]
 exact hc k _ (znr (by omega))
def z6b (b:Bool)(w:World)(e:Ending)(w':World): Prop:=e=.returned (.bool b)∧w=w'
set_option maxHeartbeats 1000000 in
theorem zqi (A B C:Option Addr)(n c m d p f:Nat)(vs us:List Value)(Ls Ns:List (List Int))(body:List Int)(w:World)(hn:Ls.length=n)(hm:Ns.length=m)(hp:body.length=p)(hy:Rd w B us)(hq:zdh w us Ns)(h:zm4 Ls Ns body):
  Calls Lead.prog 26 #[.slice A n c,.slice B m d,.slice C p f] w (z6b true w):=by
 obtain ⟨h1,h2,h3,h4,h5⟩:=h
 have r1:¬ (n:Int)<1:=by omega
 have r2:¬ (8:Int)<n:=by omega
 have r3:((m:Int) != (n:Int))=false:=by simp;omega
 have r4:((p:Int) == 78)=true:=by simp;omega
 have HM:=Lib.hid hm
 have H4:=Lib.hid h4
 have HP:Hid (p=78):=Lib.hid (by omega)
 have hm8:m≤8:=by omega
 clear hn hm hp h1 h2 h3 h4 h5
 go_enter Lead.func26,Tryd.ntmps26
 go_wp2
 go_loopw [26] (fun i wr=>∃ k:Nat,k≤m∧i=.int .i64 k∧wr=w) (fun i _=>m - (intOf i).toNat)
 case atStart=>exact ⟨0,Nat.zero_le _,rfl,rfl⟩
 case round =>
  obtain ⟨k,hk,rfl,rfl⟩:=hrel
  have r0:(0:Int)≤k:=by omega
  by_cases hlt:k<m
  ·have r5:(k:Int)<m:=by omega
   obtain ⟨b,o,A',c',rfl,hb,hc,_,_⟩:=zmz hy hq HM.out hlt
   rw [H4.out k (by rw [HM.out];exact hlt)] at hc
   clear hy hq
   go_wp2
   exact ⟨⟨k+1,by omega,by go_num,trivial⟩,by show m - ((k:Int)+1).toNat<m - (k:Int).toNat;omega⟩
  ·have hkm:m=k:=by omega
   subst hkm
   clear hlt hk hy hq
   go_wp2
   go_ret
   exact ⟨by simp [HP.out],rfl⟩
def dn0 (q x:Nat): Nat:=if x<q then q - 1 - x else 0
def zrp (q:Nat)(x:Nat): Array Value:=#[.int .i64 (dn0 q x:Nat)]
theorem z1g {q x:Nat}(h:x<q): dn0 q x=q - 1 - x:=by simp [dn0,h]
theorem zxq {q x:Nat}(h:0<q): dn0 q x<q:=by unfold dn0;split <;> omega
def AnyW (W W':World): Prop:=True
set_option maxHeartbeats 2000000 in
theorem z0g (F:Fence)(n:Nat)(hf:F.fn 42)(hro:F.round=none)(hn:1≤n)(l Bs q:Nat)(hq:q≤1000000)(J Jx:List Nat→World→Prop)(hY:∀ pre x W,J pre W→pre.length<q→YieldAt F (n - 1) Lead.prog l (zrp q x) W fun e W' =>
   (e=.returned (.bool true)∧J (pre++[x]) W'∧AnyW W W')∨(e=.returned (.bool false)∧Jx (pre++[x]) W'))(W:World)(hBs:W.cell? ⟨Bs,0,none⟩=some (.int .i64 (q:Int)))(h0:J [] W):
  CallsIn F n Lead.prog 42 #[.func (.yield l) #[] #[],.pointer (some ⟨Bs,0,none⟩)] W fun e W'=>(∃ v,e=.returned v) ∧
   ((∃ ys,ys=upto q∧J ys W')∨(∃ pre,(∃ k,k≤q∧pre=upto k)∧Jx pre W')):=by
 refine callsIn_of_wp Lead.func42 rfl hf ?_ hro
 simp only [Tryd.ntmps42,List.size_toArray,List.length_cons,List.length_nil,Nat.reduceAdd,Nat.reduceSub,Array.replicate_succ,Array.replicate_zero,List.push_toArray,List.append_toArray,List.nil_append,List.cons_append]
 gi_wp2
 gi_loopw [3] (fun i wr=>∃ (k:Nat) (z:Int),k≤q∧z≤q - 1 - k∧(q:Int) - 1 - k≤z∧i=.int .i64 z∧J (upto k) wr)
  (fun i _=>(intOf i+1).toNat)
 case atStart=>exact ⟨0,(q:Int) - 1,Nat.zero_le _,by omega,by omega,rfl,h0⟩
 case round =>
  obtain ⟨k,z,hk,hz1,hz2,rfl,hJs⟩:=hrel
  by_cases hlt:k<q
  ·obtain rfl:z=(dn0 q k:Nat):=by rw [z1g hlt];omega
   have hd2:dn0 q k<q:=zxq (by omega)
   have hd0:(0:Int)≤(dn0 q k:Nat):=by omega
   obtain ⟨fn,tmps,assign,body,hy,hR⟩:=hY _ k wr hJs (by rw [zea];exact hlt)
   unfold zrp at hy
   gi_wp2
   refine hR.mono ?_
   rintro e W3 (⟨rfl,hJ3,_⟩|⟨rfl,hJx3⟩)
   ·gi_wp2
    go_roundw
    case rel=>exact ⟨k+1,(dn0 q k:Nat) - 1,by omega,by omega,by omega,rfl,by rw [ze2];exact hJ3⟩
    case measure=>first|(simp [intOf];done)|(simp [intOf];omega)
   ·gi_wp2
    refine bodyPost_ret (results_none rfl _ _ _) rfl ?_
    exact ⟨⟨_,rfl⟩,.inr ⟨_,⟨k+1,by omega,(ze2 _).symm⟩,hJx3⟩⟩
  ·have hz:z<0:=by omega
   have hkq:k=q:=by omega
   subst hkq
   clear hlt hk
   gi_wp2
   go_end0
   exact ⟨⟨_,rfl⟩,.inl ⟨_,rfl,hJs⟩⟩
theorem zoq (z:Int)(w:World):
  Calls Lead.prog 27 #[.int .i64 z] w fun e w'=>e=.returned (.func (.func 42) #[] #[.pointer (some ⟨w.heap.size,0,none⟩)])∧w'=w.alloc (.cells #[.int .i64 z] 3):=by
 go_enter Lead.func27,Tryd.ntmps27
 go_wp2_with fail
 go_ret
 exact ⟨rfl,rfl⟩
theorem ztq (F:Fence)(n:Nat)(hf:F.fn 42)(hro:F.round=none)(hn:1≤n)(Bs q:Nat)(hq:q≤1000000)(w:World)(hb:Bs<w.heap.size)(hBs:w.cell? ⟨Bs,0,none⟩=some (.int .i64 (q:Int))):
  SeqStopsK F n Lead.prog 42 #[.pointer (some ⟨Bs,0,none⟩)] (zrp q) AnyW (fun ys=>ys=upto q) (fun pre=>True) q w:=fun l J Jx W hW _ _ hY h0=>by
 have hc':=(hW.cell (p:=⟨Bs,0,none⟩) hb).trans hBs
 refine (z0g F n hf hro hn l Bs q hq J Jx hY W hc' h0).mono ?_
 rintro e W' ⟨he,⟨ys,rfl,hj⟩|⟨pre,_,hj⟩⟩
 ·exact ⟨he,.inl ⟨_,rfl,hj⟩⟩
 ·exact ⟨he,.inr ⟨_,trivial,hj⟩⟩
end
section
open Go.RowKit Go.Shelf
attribute [local go_sem] Oper.semAt_some
def wrF (Ls Ns:List (List Int))(q:Nat)(body:List Int)(xs:List Nat): List Int:=xs.foldl (fun acc x=>zdr (Ls.getD (dn0 q x) []) (Ns.getD (dn0 q x) []) acc) body
theorem zq4 (Ls Ns:List (List Int))(q:Nat)(body:List Int)(xs:List Nat)(x:Nat): wrF Ls Ns q body (xs++[x])=zdr (Ls.getD (dn0 q x) []) (Ns.getD (dn0 q x) []) (wrF Ls Ns q body xs):=by simp [wrF]
theorem z1m {Ls Ns:List (List Int)}{q:Nat}{body:List Int}(h:∀ i,i<q→(Ns.getD i []).length=16)(hq:0<q)(xs:List Nat): (wrF Ls Ns q body xs).length=body.length+48 * xs.length:=by
 have hh:∀ (xs:List Nat) (acc:List Int),(xs.foldl (fun acc x=>zdr (Ls.getD (dn0 q x) []) (Ns.getD (dn0 q x) []) acc) acc).length=acc.length+48 * xs.length:=by
  intro xs
  induction xs with
  | nil=>intro acc;rfl
  | cons x xs ih =>
    intro acc
    rw [List.foldl_cons,ih,zcg,h _ (zxq hq),List.length_cons]
    omega
 exact hh xs body
theorem zh4 {α:Type}(l:List α)(d:α)(k:Nat)(h:k<l.length): l.drop k=l.getD k d :: l.drop (k+1):=by
 rw [List.drop_eq_getElem_cons h];simp [List.getD,h]
theorem zq3 (Ls Ns:List (List Int))(q:Nat)(body:List Int)(hl:Ls.length=q)(hn:Ns.length=q): ∀ k,k≤q→wrF Ls Ns q body (upto k)=zc1 (Ls.drop (q - k)) (Ns.drop (q - k)) body
 | 0,_=>by rw [Nat.sub_zero,List.drop_of_length_le (by omega)];rfl
 | k+1,h=>by
   rw [ze2,zq4,zq3 Ls Ns q body hl hn k (by omega),z1g (by omega),zh4 Ls [] (q - (k+1)) (by omega),zh4 Ns [] (q - (k+1)) (by omega),zc1,show q - (k+1)+1=q - k by omega,show q - (k+1)=q - 1 - k by omega]
theorem z1n (Ls Ns:List (List Int))(q:Nat)(body:List Int)(hl:Ls.length=q)(hn:Ns.length=q): wrF Ls Ns q body (upto q)=zc1 Ls Ns body:=by
 have:=zq3 Ls Ns q body hl hn q (Nat.le_refl _)
 rwa [Nat.sub_self,List.drop_zero,List.drop_zero] at this
theorem zez:∀ (Ls Ns:List (List Int)) (body:List Int),Ns.length=Ls.length→(∀ i,i<Ns.length→(Ns.getD i []).length=16)→(zc1 Ls Ns body).length=body.length+48 * Ls.length
 | [],[],body,_,_=>rfl
 | s :: Ls,n :: Ns,body,h,hh=>by
   have h0:=hh 0 (by simp)
   have ih:=zez Ls Ns body (by simpa using h) (fun i hi=>by have:=hh (i+1) (by simp;omega);simpa using this)
   have h0':n.length=16:=by simpa using h0
   rw [zc1,zcg,ih,h0',List.length_cons]
   omega
 | [],_ :: _,_,h,_=>by simp at h
 | _ :: _,[],_,h,_=>by simp at h
def zyb (b:Nat)(A B:Option Addr)(n c d:Nat)(Ls Ns:List (List Int))(body:List Int)(s0:Nat)(pre:List Nat)(W:World): Prop :=
 Box W b (.slice A n c)∧Box W (b+1) (.slice B n d)∧Box W (b+2) (.slice none 0 0)∧Box W (b+3) (.int .i64 0) ∧
  (∃ (g o cX:Nat),Box W (b+4) (.slice (some ⟨g,o,none⟩) (78+48 * pre.length) cX)∧78+48 * pre.length≤cX∧Rd W (some ⟨g,o,none⟩) (nums .u8 (wrF Ls Ns n body pre))∧((pre=[]∧g<b)∨(b+4<g∧∃ (cs:Array Value) (fr:Nat×Nat),W.heap[g]?=some (.cells cs 5 fr))))∧s0≤W.heap.size
theorem zyb.kept {b:Nat}{A B:Option Addr}{n c d:Nat}{Ls Ns:List (List Int)}{body:List Int}{s0:Nat}{pre:List Nat}{W W':World}{row:Option Nat}(hg:W.grownBy W' row)(hr:∀ r,row=some r→∃ o:Obj,W.heap[r]?=some o∧o.isCells=false)(h:zyb b A B n c d Ls Ns body s0 pre W): zyb b A B n c d Ls Ns body s0 pre W':=by
 obtain ⟨h1,h2,h3,h4,⟨g,o,cX,h5,h6,h7,h9⟩,h8⟩:=h
 exact ⟨h1.kept hg hr,h2.kept hg hr,h3.kept hg hr,h4.kept hg hr,⟨g,o,cX,h5.kept hg hr,h6,h7.kept hg hr,h9.elim .inl fun ⟨k1,cs,fr,k2⟩=>.inr ⟨k1,cs,fr,(grownBy_keeps_cells hg hr k2 rfl).trans k2⟩⟩,Nat.le_trans h8 hg.size⟩
theorem z09 {w:World}{g o:Nat}{vs:List Value}{p:Addr}{u:Value}(h:Rd w (some ⟨g,o,none⟩) vs)(hne:p.block≠g): Rd (w.setCell p u) (some ⟨g,o,none⟩) vs:=by
 rcases h with h|⟨b',o',he,hl,hc⟩
 ·exact .inl h
 ·cases he
  exact .inr ⟨g,o,rfl,by rw [zah];exact hl,fun i v hv=>(World.cell?_setCell_other w p ⟨g,o+i,none⟩ u (fun e=>hne (by rw [e]))).trans (hc i v hv)⟩
def zyl (w:World)(ys:List Int)(e:Ending)(w':World): Prop :=
 ∃ g o c,e=.returned (.tuple #[.slice (some ⟨g,o,none⟩) ys.length c,.int .i64 0])∧w.heap.size≤g∧(∃ (cs:Array Value) (fr:Nat×Nat),w'.heap[g]?=some (.cells cs 5 fr))∧ys.length≤c∧Rd w' (some ⟨g,o,none⟩) (nums .u8 ys)∧Below w.heap.size w w'
set_option maxHeartbeats 2000000 in
theorem zq2 (A B C:Option Addr)(n c d f:Nat)(vs us:List Value)(Ls Ns:List (List Int))(body:List Int)(w:World)(hn:Ls.length=n)(h:zm4 Ls Ns body)(hls:∀ i,i<n→(Ls.getD i []).length≤4000)(hf:78≤f)(hx:Rd w A vs)(hp:zdh w vs Ls)(hy:Rd w B us)(hq:zdh w us Ns)(hz:Rd w C (nums .u8 body))(hK:za2 w):
  Calls Lead.prog 17 #[.slice A n c,.slice B n d,.slice C 78 f] w (zyl w (zc1 Ls Ns body)):=by
 have hh:=h
 obtain ⟨q1,q2,q3,q4,q5⟩:=hh
 have CM:=fun W h1 h2=>zqi A B C n c n d 78 f vs us Ls Ns body W hn (by omega) q5 h1 h2 h
 have hb4:∀ o1 o2 o3 o4,Below w.heap.size w ((((w.alloc o1).alloc o2).alloc o3).alloc o4):=fun _ _ _ _=>bal (bal (bal (bal brf _) _) _) _
 have HB4:=Lib.hid hb4
 have HX:=Lib.hid hx
 have HP:=Lib.hid hp
 have HY:=Lib.hid hy
 have HQ:=Lib.hid hq
 have HZ:=Lib.hid hz
 have HK:=Lib.hid hK
 have HN:=Lib.hid hn
 have HM:Hid (Ns.length=n):=Lib.hid (by omega)
 have H5:=Lib.hid q5
 have H4:Hid (∀ i,i<n→(Ns.getD i []).length=16):=Lib.hid (fun i hi=>q4 i (by omega))
 have n1:1≤n:=by omega
 have n8:n≤8:=by omega
 have HLS:=Lib.hid hls
 obtain ⟨zb,zo,rfl,hzb,_⟩:=hz.at_ (by simp [q5])
 clear hx hp hy hq hz hK hn q1 q2 q3 q4 q5 h hls hb4
 refine (callsIn_wide (n:=8)).1 ?_
 refine callsIn_of_wp_marks Lead.func17 rfl trivial ?_ rfl
 simp only [Tryd.ntmps17,List.size_toArray,List.length_cons,List.length_nil,Nat.reduceAdd,Nat.reduceSub,Array.replicate_succ,Array.replicate_zero,List.push_toArray,List.append_toArray,List.nil_append,List.cons_append]
 have d1:1≤7:=by omega
 gi_wp2_with (refine ⟨trivial,?_⟩;first
  | (gi_at_call 26;refine (callsIn_wide.2 (CM _ (HY.out.below (HB4.out _ _ _ _)) (HQ.out.below (HB4.out _ _ _ _)))).mono ?_;rintro e w1 ⟨rfl,rfl⟩)
  | (gi_at_call 27;refine (callsIn_wide.2 (zoq _ _)).mono ?_;rintro e w3 ⟨rfl,rfl⟩))
 have hW:∀ W6,W6=((((((w.alloc (.cells #[.slice A n c] 22)).alloc (.cells #[.slice B n d] 22)).alloc (.cells #[.slice none 0 0] 33)).alloc (.cells #[.int .i64 0] 28)).alloc (.cells #[.slice (some ⟨zb,zo,none⟩) 78 f] 33)).alloc (.cells #[.int .i64 n] 3)) →
   Box W6 w.heap.size (.slice A n c)∧Box W6 (w.heap.size+1) (.slice B n d)∧Box W6 (w.heap.size+1+1) (.slice none 0 0)∧Box W6 (w.heap.size+1+1+1) (.int .i64 0)∧Box W6 (w.heap.size+1+1+1+1) (.slice (some ⟨zb,zo,none⟩) 78 f)∧Box W6 (w.heap.size+1+1+1+1+1) (.int .i64 n)∧W6.heap.size=w.heap.size+6∧Below w.heap.size w W6:=by
  intro W6 h
  subst h
  refine ⟨⟨by simp [go_sem],by simp [go_sem]⟩,⟨by simp [go_sem],by simp [go_sem]⟩,⟨by simp [go_sem],by simp [go_sem]⟩,⟨by simp [go_sem],by simp [go_sem]⟩,⟨by simp [go_sem],by simp [go_sem]⟩,⟨by simp [go_sem],by simp [go_sem]⟩,by simp,bal (bal (bal (bal (bal (bal brf _) _) _) _) _) _⟩
 obtain ⟨x3,x4,x6,x7,x8,xs,hz6,hB6⟩:=hW _ rfl
 obtain ⟨b,hb⟩:∃ b,b=w.heap.size:=⟨_,rfl⟩
 rw [← hb] at x3 x4 x6 x7 x8 xs hz6 ⊢
 generalize ((((((w.alloc (.cells #[.slice A n c] 22)).alloc (.cells #[.slice B n d] 22)).alloc (.cells #[.slice none 0 0] 33)).alloc (.cells #[.int .i64 0] 28)).alloc (.cells #[.slice (some ⟨zb,zo,none⟩) 78 f] 33)).alloc (.cells #[.int .i64 n] 3))=w6 at x3 x4 x6 x7 x8 xs hz6 hB6 ⊢
 have hwb:w.heap.size≤b:=by omega
 have hzl:zb<b:=by omega
 clear hW hb
 refine wpIn_rangeFunc_ownF rfl (by omega) (gf:=42) (lb:=#[.pointer (some ⟨b+1+1+1+1+1,0,none⟩)]) rfl trivial (enters_of Lead.func42 (by kernel_rfl) rfl)
  (ztq Fence.wide 7 trivial rfl (by omega) (b+1+1+1+1+1) n (by omega) w6 (by omega) xs.1) (fun _ _=>trivial) (fun _ _ _ _ _ _ _ _=>trivial) (Below.refl _ _) (fun _=>rfl)
  (fun pre W=>zyb b A B n c d Ls Ns body w6.heap.size pre W∧Below w.heap.size w W)
  (fun _ _ _=>False)
  (OwnFrom.and (Own.from (fun s A B row hs hg hr=>hs.kept hg hr) _) (ownFrom_below (Nat.le_refl _) (by omega)))
  (fun _ _ _ _ _ hs _ _=>hs)
  ⟨⟨x3,x4,x6,x7,⟨zb,zo,f,x8,hf,HZ.out.below hB6,.inl ⟨rfl,by omega⟩⟩,Nat.le_refl _⟩,hB6⟩
  ?a1 ?assign ?body ?done ?stop
 case assign =>
  intro l x W K hK
  unfold zrp
  gi_wp2
  exact hK
 case stop =>
  rintro D c pre W _ _ h _
  exact h.elim
 case body =>
  rintro l pre x W ⟨⟨h3,h4,h6,h7,⟨gX,oX,cX,h8,hcX,hr8,hgX0⟩,hsz⟩,hB⟩ hpre
  have hgX:gX<b∨b+4<gX:=hgX0.elim (fun h=>.inl h.2) (fun h=>.inr h.1)
  clear hgX0
  have hlt:=zxq (q:=n) (x:=x) n1
  have hstep:=zq4 Ls Ns n body pre x
  have hlen:=z1m (Ls:=Ls) (body:=body) H4.out n1 pre
  obtain ⟨i,hi⟩:∃ i,i=dn0 n x:=⟨_,rfl⟩
  rw [← hi] at hlt hstep ⊢
  obtain ⟨bv,ov,A',c',rfl,hbv,cv,hcv,hrv⟩:=zmz (HX.out.below hB) (HP.out.below hB) HN.out hlt
  obtain ⟨bu,ou,B',c'',rfl,hbu,cu,hcu,hru⟩:=zmz (HY.out.below hB) (HQ.out.below hB) HM.out hlt
  have h16:=H4.out i hlt
  have hls:=HLS.out i hlt
  rw [h16] at cu
  obtain ⟨m,hm⟩:∃ m,m=78+48 * pre.length:=⟨_,rfl⟩
  obtain ⟨s,hs⟩:∃ s,s=Ls.getD i []:=⟨_,rfl⟩
  obtain ⟨nn,hnn⟩:∃ nn,nn=Ns.getD i []:=⟨_,rfl⟩
  obtain ⟨acc,hacc⟩:∃ acc,acc=wrF Ls Ns n body pre:=⟨_,rfl⟩
  rw [← hs] at cv hcv hrv hls hstep
  rw [← hnn] at hcu hru h16 hstep
  rw [← hacc] at hr8 hlen hstep
  rw [← hm] at h8 hcX
  obtain ⟨ls,hlse⟩:∃ ls,ls=s.length:=⟨_,rfl⟩
  rw [← hlse] at cv hls
  have hbm:m≤2048:=by omega
  have hal:acc.length=m:=by rw [hlen,H5.out,hm]
  have CS:=fun W1 h1 h2 h3 hK=>zy2 A' B' (some ⟨gX,oX,none⟩) ls c' c'' m cX s nn acc W1 hlse.symm h16 hal hls hbm h1 h2 h3 hK
  have hsl:(zdr s nn acc).length=m+48:=by rw [zcg,h16,hal];omega
  have i0:(0:Int)≤i:=by omega
  have i1:(i:Int)<n:=by omega
  have c3:=h3.1
  have c4:=h4.1
  have c8:=h8.1
  have H8:=Lib.hid h8
  have HI:=Lib.hid (And.intro h3 (And.intro h4 (And.intro h6 h7)))
  have HSL:=Lib.hid hsl
  have HST:=Lib.hid hstep
  have HMM:=Lib.hid hm
  have HRV:=Lib.hid hrv
  have HRU:=Lib.hid hru
  have HR8:=Lib.hid hr8
  have hbW:b+1+1+1+1<W.heap.size:=by omega
  clear h3 h4 h6 h7 h8 hsl hstep hm hrv hru hr8 hlse h16 hal hs hnn hacc hlen hi hls
  have d2:1≤8 - 1 - 1:=by omega
  gi_wp2
  refine zbk (fun W'=>W'.cell? ⟨b,0,none⟩=some (.slice (some ⟨bv,ov,none⟩) n c)∧W'.cell? ⟨bv,ov+i,none⟩=some (.slice A' ls c')∧W'.cell? ⟨b+1,0,none⟩=some (.slice (some ⟨bu,ou,none⟩) n d)∧W'.cell? ⟨bu,ou+i,none⟩=some (.slice B' 16 c'')∧W'.cell? ⟨b+1+1+1+1,0,none⟩=some (.slice (some ⟨gX,oX,none⟩) m cX)) (by kernel_rfl) (by kernel_rfl) (by rintro ⟨a9,w9,h9⟩;exact h9) ⟨c3,cv,c4,cu,c8⟩ (fun hHeld=>?_)
  refine wpAnyH_take (i:=0) (v:=?_) rfl (by kernel_rfl) (by kernel_rfl) (by kernel_rfl) (fun _ _ _ h=>h) (Or.inl ⟨by rfl,?_⟩) (by assumption) ?_
  rotate_left
  ·rintro W9 ⟨s1,s2,s3,s4,s5⟩
   go_simp
   rfl
  try simp only [Act.put,List.setIfInBounds_toArray,List.set_cons_zero,List.set_cons_succ]
  refine wpAnyH_take (i:=1) (v:=?_) rfl (by kernel_rfl) (by kernel_rfl) (by kernel_rfl) (fun _ _ _ h=>h) (Or.inl ⟨by rfl,?_⟩) (by assumption) ?_
  rotate_left
  ·rintro W9 ⟨s1,s2,s3,s4,s5⟩
   go_simp
   rfl
  try simp only [Act.put,List.setIfInBounds_toArray,List.set_cons_zero,List.set_cons_succ]
  refine wpAnyH_take (i:=2) (v:=?_) rfl (by kernel_rfl) (by kernel_rfl) (by kernel_rfl) (fun _ _ _ h=>h) (Or.inl ⟨by rfl,?_⟩) (by assumption) ?_
  rotate_left
  ·rintro W9 ⟨s1,s2,s3,s4,s5⟩
   go_simp
   rfl
  try simp only [Act.put,List.setIfInBounds_toArray,List.set_cons_zero,List.set_cons_succ]
  refine wpAnyH_take (i:=3) (v:=?_) rfl (by kernel_rfl) (by kernel_rfl) (by kernel_rfl) (fun _ _ _ h=>h) (Or.inl ⟨by rfl,?_⟩) (by assumption) ?_
  rotate_left
  ·rintro W9 ⟨s1,s2,s3,s4,s5⟩
   go_simp
   rfl
  try simp only [Act.put,List.setIfInBounds_toArray,List.set_cons_zero,List.set_cons_succ]
  refine wpAnyH_take (i:=4) (v:=?_) rfl (by kernel_rfl) (by kernel_rfl) (by kernel_rfl) (fun _ _ _ h=>h) (Or.inl ⟨by rfl,?_⟩) (by assumption) ?_
  rotate_left
  ·rintro W9 ⟨s1,s2,s3,s4,s5⟩
   go_simp
   rfl
  try simp only [Act.put,List.setIfInBounds_toArray,List.set_cons_zero,List.set_cons_succ]
  refine wpAnyH_take (i:=5) (v:=?_) rfl (by kernel_rfl) (by kernel_rfl) (by kernel_rfl) (fun _ _ _ h=>h) (Or.inl ⟨by rfl,?_⟩) (by assumption) ?_
  rotate_left
  ·rintro W9 ⟨s1,s2,s3,s4,s5⟩
   go_simp
   rfl
  try simp only [Act.put,List.setIfInBounds_toArray,List.set_cons_zero,List.set_cons_succ]
  refine wpAnyH_take (i:=6) (v:=?_) rfl (by kernel_rfl) (by kernel_rfl) (by kernel_rfl) (fun _ _ _ h=>h) (Or.inl ⟨by rfl,?_⟩) (by assumption) ?_
  rotate_left
  ·rintro W9 ⟨s1,s2,s3,s4,s5⟩
   go_simp
   rfl
  try simp only [Act.put,List.setIfInBounds_toArray,List.set_cons_zero,List.set_cons_succ]
  refine wpAnyH_take (i:=7) (v:=?_) rfl (by kernel_rfl) (by kernel_rfl) (by kernel_rfl) (fun _ _ _ h=>h) (Or.inl ⟨by rfl,?_⟩) (by assumption) ?_
  rotate_left
  ·rintro W9 ⟨s1,s2,s3,s4,s5⟩
   go_simp
   rfl
  try simp only [Act.put,List.setIfInBounds_toArray,List.set_cons_zero,List.set_cons_succ]
  refine wpAnyH_take (i:=8) (v:=?_) rfl (by kernel_rfl) (by kernel_rfl) (by kernel_rfl) (fun _ _ _ h=>h) (Or.inl ⟨by rfl,?_⟩) (by assumption) ?_
  rotate_left
  ·rintro W9 ⟨s1,s2,s3,s4,s5⟩
   go_simp
   rfl
  try simp only [Act.put,List.setIfInBounds_toArray,List.set_cons_zero,List.set_cons_succ]
  refine wpAnyH_ready (rs:=[9]) (by kernel_rfl) (by simp) ?_
  refine AllReadyH.cons rfl (fun K hK=>?_) AllReadyH.nil
  go_simp
  refine (CS _ (HRV.out.below (bdr brf)) (HRU.out.below (bdr brf)) (HR8.out.below (bdr brf)) (HK.out.go (bdr hB))).mono ?_
  rintro e w4 ⟨A2,c2,he,hc2,hown2,hb4⟩;rw [HSL.out] at he hc2 hown2;subst he;have hb5:Below W.heap.size W w4:=bgo (bdr brf) hb4
  go_wp2_with fail
  refine hK.out _ _ ?_ (fun hHeld=>?_)
  ·exact ⟨(hb5.cell (p:=⟨b,0,none⟩) (by show b<W.heap.size;omega)).trans c3,(hb5.cell (p:=⟨bv,ov+i,none⟩) hbv).trans cv,(hb5.cell (p:=⟨b+1,0,none⟩) (by show b+1<W.heap.size;omega)).trans c4,(hb5.cell (p:=⟨bu,ou+i,none⟩) hbu).trans cu,(hb5.cell (p:=⟨b+1+1+1+1,0,none⟩) hbW).trans c8⟩
  clear hK K
  try simp only [Act.put,List.setIfInBounds_toArray,List.set_cons_zero,List.set_cons_succ]
  refine wpAnyH_take (i:=10) (v:=?_) rfl (by kernel_rfl) (by kernel_rfl) (by kernel_rfl) (fun _ _ _ h=>h) (Or.inl ⟨by rfl,?_⟩) (by assumption) ?_
  rotate_left
  ·rintro W9 ⟨s1,s2,s3,s4,s5⟩
   go_simp
   rfl
  try simp only [Act.put,List.setIfInBounds_toArray,List.set_cons_zero,List.set_cons_succ]
  refine wpAnyH_take (i:=11) (v:=?_) rfl (by kernel_rfl) (by kernel_rfl) (by kernel_rfl) (fun _ _ _ h=>h) (Or.inl ⟨by rfl,?_⟩) (by assumption) ?_
  rotate_left
  ·rintro W9 ⟨s1,s2,s3,s4,s5⟩
   go_simp
   rfl
  try simp only [Act.put,List.setIfInBounds_toArray,List.set_cons_zero,List.set_cons_succ]
  refine wpAnyH_take (i:=12) (v:=?_) rfl (by kernel_rfl) (by kernel_rfl) (by kernel_rfl) (fun _ _ _ h=>h) (Or.inl ⟨by rfl,?_⟩) (by assumption) ?_
  rotate_left
  ·rintro W9 ⟨s1,s2,s3,s4,s5⟩
   go_simp
   rfl
  try simp only [Act.put,List.setIfInBounds_toArray,List.set_cons_zero,List.set_cons_succ]
  refine wpAnyH_ready (rs:=[13]) (by kernel_rfl) (by simp) ?_
  refine AllReadyH.cons rfl (fun K hK=>?_) AllReadyH.nil
  go_simp
  refine hK.out _ _ ?_ (fun hHeld=>?_)
  ·exact hHeld
  clear hK K
  try simp only [Act.put,List.setIfInBounds_toArray,List.set_cons_zero,List.set_cons_succ]
  refine wpAnyH_ready (rs:=[14]) (by kernel_rfl) (by simp) ?_
  refine AllReadyH.cons rfl (fun K hK=>?_) AllReadyH.nil
  go_simp
  refine hK.out _ _ ?_ (fun hHeld=>?_)
  ·exact hHeld
  clear hK K
  try simp only [Act.put,List.setIfInBounds_toArray,List.set_cons_zero,List.set_cons_succ]
  refine wpAnyH_done (by kernel_rfl) ?_ _
  have h8:=H8.out.below hb5 hbW
  obtain ⟨h3,h4,h6,h7⟩:=HI.out
  have h3:=h3.below hb5 (by omega)
  have h4:=h4.below hb5 (by omega)
  have h6:=h6.below hb5 (by omega)
  have h7:=h7.below hb5 (by omega)
  have c8':=h8.1
  have f8':=h8.2
  have key:∀ w5,w5=w4.setCell ⟨b+1+1+1+1,0,none⟩ (.slice A2 (m+48) c2)→(KeepsOthers W w5∧AnyW W w5∧(zyb b (some ⟨bv,ov,none⟩) (some ⟨bu,ou,none⟩) n c d Ls Ns body w6.heap.size (pre++[x]) w5∧Below w.heap.size w w5)):=by
   intro w5 h5
   have hml:78+48 * (pre++[x]).length=m+48:=by rw [List.length_append,HMM.out];simp;omega
   have hz5:=hb5.size
   obtain ⟨g2,cc2,he2,hg2,hgl2⟩:=hown2.form (by omega)
   have hty2:∃ (cs:Array Value) (fr:Nat×Nat),w4.heap[g2]?=some (.cells cs 5 fr):=by
    rcases hown2.2 with ⟨e1,e2⟩|⟨g3,cap3,cur3,e1,_,e3,_⟩
    ·rw [he2] at e1;cases e1
    ·rw [he2] at e1;cases e1;exact ⟨_,_,e3⟩
   simp only [Value.slice.injEq] at he2
   obtain ⟨rfl,_,rfl⟩:=he2
   have hg2':W.heap.size≤g2:=hg2
   refine ⟨?_,trivial,⟨?_,?_,?_,?_,⟨g2,0,c2,?_,?_,?_,.inr ⟨by omega,?_⟩⟩,?_⟩,?_⟩
   ·rw [h5];exact (zd5 hb5).trans (KeepsOthers.setCell _ _ _)
   ·rw [h5];exact h3.far (by omega) _
   ·rw [h5];exact h4.far (by omega) _
   ·rw [h5];exact h6.far (by omega) _
   ·rw [h5];exact h7.far (by omega) _
   ·rw [hml,h5];exact h8.set _
   ·rw [hml];exact hc2
   ·rw [h5,HST.out];exact Rd.of_own (zp7 hown2 (by show b+1+1+1+1<W.drew.heap.size;exact hbW))
   ·obtain ⟨cs,fr,k⟩:=hty2
    exact ⟨cs,fr,by rw [h5,zay _ (by show g2≠b+1+1+1+1;omega)];exact k⟩
   ·rw [h5,zah];omega
   ·rw [h5];exact (bgo hB hb5).setCell (p:=⟨b+1+1+1+1,0,none⟩) (by show w.heap.size≤b+1+1+1+1;omega) _
  have KEY:=Lib.hid key
  clear h3 h4 h6 h7 h8 key hHeld c3 c4 c8 cv cu
  gi_wp2
  exact KEY.out _ rfl
 case done =>
  rintro D ys W hD rfl ⟨⟨h3,h4,h6,h7,⟨gX,oX,cX,h8,hcX,hr8,hgX0⟩,hsz⟩,hB⟩ hDD
  obtain ⟨hgX,csX,frX,hgT⟩:=hgX0.resolve_left (fun h=>by have:=congrArg List.length h.1;rw [zea] at this;simp at this;omega)
  rw [zea] at h8 hcX
  rw [z1n Ls Ns n body HN.out HM.out] at hr8
  obtain ⟨m,hm⟩:∃ m,m=78+48 * n:=⟨_,rfl⟩
  rw [← hm] at h8 hcX
  have c8:=h8.1
  have c6:=h6.1
  have f6:=h6.2
  have c7:=h7.1
  have f7:=h7.2
  have HR8:=Lib.hid hr8
  have hDW:D<W.heap.size:=(Array.getElem?_eq_some_iff.1 hDD).1
  have hm2:m=(zc1 Ls Ns body).length:=by
   rw [zez Ls Ns body (by rw [HM.out,HN.out]) (fun i hi=>H4.out i (by rw [← HM.out];exact hi)),H5.out,HN.out,hm]
  have HM2:=Lib.hid hm2
  have hmp:0<m:=by omega
  clear h3 h4 h8 hr8 hm hm2 x3 x4 x6 x7 x8 xs
  gi_wp2
  obtain ⟨W2,hW2⟩:∃ W2,W2=((W.setCell ⟨b+1+1,0,none⟩ (.slice (some ⟨gX,oX,none⟩) m cX)).setCell ⟨b+1+1+1,0,none⟩ (.int .i64 0)):=⟨_,rfl⟩
  have hD2:W2.heap[D]?=some (.deferred (some [])):=by rw [hW2];exact (zay _ (by show D≠b+1+1+1;omega)).trans ((zay _ (by show D≠b+1+1;omega)).trans hDD)
  have r6:W2.cell? ⟨b+1+1,0,none⟩=some (.slice (some ⟨gX,oX,none⟩) m cX):=by rw [hW2];exact (zaa (by omega)).trans (zba c6)
  have r7:W2.cell? ⟨b+1+1+1,0,none⟩=some (.int .i64 0):=by rw [hW2];exact zba ((zaa (by omega)).trans c7)
  have hrd:Rd W2 (some ⟨gX,oX,none⟩) (nums .u8 (zc1 Ls Ns body)):=by rw [hW2];exact z09 (z09 HR8.out (by show b+1+1≠gX;omega)) (by show b+1+1+1≠gX;omega)
  have hb2:Below w.heap.size w W2:=by rw [hW2];exact (hB.setCell (p:=⟨b+1+1,0,none⟩) (by show w.heap.size≤b+1+1;omega) _).setCell (p:=⟨b+1+1+1,0,none⟩) (by show w.heap.size≤b+1+1+1;omega) _
  rw [← hW2]
  refine ⟨by simp,.inl ⟨_,_,rfl,run_takeDeferred hD2,?_⟩⟩
  have g6:=(World.cell?_of_block (a:=⟨b+1+1,0,none⟩) (World.putObj_heap_other (w:=W2) (r:=D) (o:=.deferred none) (by show b+1+1≠D;omega))).trans r6
  have g7:=(World.cell?_of_block (a:=⟨b+1+1+1,0,none⟩) (World.putObj_heap_other (w:=W2) (r:=D) (o:=.deferred none) (by show b+1+1+1≠D;omega))).trans r7
  refine ⟨.tuple #[.slice (some ⟨gX,oX,none⟩) m cX,.int .i64 0],by simp [results,Tryd.results17,go_sem,g6,g7],?_⟩
  have hg:=grownBy_putObj' W2 D (.deferred none)
  have hq:=hrd.kept hg (fun r e=>by cases e;exact ⟨_,hD2,rfl⟩)
  have hz2:=hb2.size
  have hgl:(W2.putObj D (.deferred none)).heap[gX]?=some (.cells csX 5 frX):=by
   have hne:gX≠D:=fun e=>by rw [e,hDD] at hgT;cases hgT
   rw [World.putObj_heap_other (w:=W2) (r:=D) (o:=.deferred none) hne,hW2,zay _ (by show gX≠b+1+1+1;omega),zay _ (by show gX≠b+1+1;omega)]
   exact hgT
  exact ⟨gX,oX,cX,by rw [HM2.out],by omega,⟨csX,frX,hgl⟩,by rw [← HM2.out];exact hcX,hq,hb2.trans (belowK_b (w:=w) (Nat.le_refl _) W2 D _ _ (by omega) hD2 rfl rfl)⟩
theorem zyo (A B C:Option Addr)(n c d f:Nat)(vs us:List Value)(Ls Ns:List (List Int))(body:List Int)(w:World)(hn:Ls.length=n)(h:zm4 Ls Ns body)(hls:∀ i,i<n→(Ls.getD i []).length≤4000)(hf:78≤f)(hx:Rd w A vs)(hp:zdh w vs Ls)(hy:Rd w B us)(hq:zdh w us Ns)(hz:Rd w C (nums .u8 body))(hK:za2 w):
  Calls Lead.prog 17 #[.slice A n c,.slice B n d,.slice C 78 f] w (z47 w (zc1 Ls Ns body)) :=
 (zq2 A B C n c d f vs us Ls Ns body w hn h hls hf hx hp hy hq hz hK).mono fun e w' ⟨g,o,c,h1,_,_,h2,h3,h4⟩=>⟨some ⟨g,o,none⟩,c,h1,h2,h3,h4⟩
end
section
theorem zht {l:List Int}{i:Nat}{x:Int}(h:i<l.length): (l.set i x).getD i 0=x:=by simp [List.getD,h]
theorem getD_set_ne {l:List Int}{i j:Nat}{x:Int}(h:i≠j): (l.set i x).getD j 0=l.getD j 0:=by simp [List.getD,List.getElem?_set_ne h]
def zmq (l:List Int)(i j:Nat): List Int:=(l.set i (l.getD j 0)).set j (l.getD i 0)
theorem zg0 (l:List Int)(i j:Nat): (zmq l i j).length=l.length:=by simp [zmq]
def turn (i j k:Nat): Nat:=if k=j then i else if k=i then j else k
theorem zmp {l:List Int}{i j k:Nat}(hi:i<l.length)(hj:j<l.length): (zmq l i j).getD k 0=l.getD (turn i j k) 0:=by
 unfold zmq turn
 by_cases h1:k=j
 ·subst h1
  rw [zht (by simpa using hj),if_pos rfl]
 ·rw [getD_set_ne (Ne.symm h1),if_neg h1]
  by_cases h2:k=i
  ·subst h2
   rw [zht hi,if_pos rfl]
  ·rw [getD_set_ne (Ne.symm h2),if_neg h2]
theorem zpe {i j k n:Nat}(hi:i<n)(hj:j<n)(hk:k<n): turn i j k<n:=by unfold turn;split;exact hi;split;exact hj;exact hk
theorem zyq {i j a b:Nat}(h:turn i j a=turn i j b): a=b:=by
 unfold turn at h
 split at h <;> split at h <;> (try split at h) <;> (try split at h) <;> omega
def Sh (l:List Int): Prop:=(∀ i,i<l.length→0≤l.getD i 0∧l.getD i 0<l.length)∧∀ i j,i<l.length→j<l.length→l.getD i 0=l.getD j 0→i=j
theorem Sh.swap {l:List Int}{i j:Nat}(h:Sh l)(hi:i<l.length)(hj:j<l.length): Sh (zmq l i j):=by
 refine ⟨fun k hk=>?_,fun a b ha hb e=>?_⟩
 ·rw [zg0] at hk ⊢
  rw [zmp hi hj]
  exact h.1 _ (zpe hi hj hk)
 ·rw [zg0] at ha hb
  rw [zmp hi hj,zmp hi hj] at e
  exact zyq (h.2 _ _ (zpe hi hj ha) (zpe hi hj hb) e)
def idL (n:Nat): List Int:=(List.range n).map fun (i:Nat)=>(i:Int)
theorem znc (n:Nat): (idL n).length=n:=by simp [idL]
theorem zw3 {n i:Nat}(h:i<n): (idL n).getD i 0=i:=by simp [idL,List.getD,List.getElem?_range h]
theorem z5h (n:Nat): Sh (idL n):=by
 refine ⟨fun i hi=>?_,fun i j hi hj e=>?_⟩
 ·rw [znc] at hi ⊢
  rw [zw3 hi]
  omega
 ·rw [znc] at hi hj
  rw [zw3 hi,zw3 hj] at e
  omega
def zlg (d:Int)(m:Nat): Nat:=(d % (m:Int)).toNat
theorem zr1 (d:Int){m:Nat}(h:0<m): zlg d m<m:=by
 have h1:=Int.emod_lt_of_pos d (b:=(m:Int)) (by omega)
 have h2:=Int.emod_nonneg d (b:=(m:Int)) (by omega)
 unfold zlg
 omega
theorem zth (d:Int){m:Nat}(h:0<m): ((zlg d m:Nat):Int)=d % (m:Int):=by
 have h2:=Int.emod_nonneg d (b:=(m:Int)) (by omega)
 unfold zlg
 omega
def zp3 (n:Nat)(ds:List Int): Nat→List Int
 | 0=>idL n
 | k+1=>zmq (zp3 n ds k) (n - 1 - k) (zlg (ds.getD k 0) (n - k))
theorem zka (n:Nat)(ds:List Int)(k:Nat): (zp3 n ds k).length=n:=by
 induction k with
 | zero=>exact znc n
 | succ k ih=>rw [zp3,zg0,ih]
def zsz (n:Nat)(ds:List Int): List Int:=zp3 n ds (n - 1)
theorem zc9 (n:Nat)(ds:List Int): (zsz n ds).length=n:=zka _ _ _
theorem zre (n:Nat)(ds:List Int): ∀ k,k≤n - 1→Sh (zp3 n ds k)
 | 0,_=>z5h n
 | k+1,h=>(zre n ds k (by omega)).swap (by rw [zka];omega) (by rw [zka];have:=zr1 (ds.getD k 0) (m:=n - k) (by omega);omega)
theorem zjk (n:Nat)(ds:List Int): Sh (zsz n ds):=zre n ds _ (Nat.le_refl _)
def cnt (l:List Int)(v:Int): Nat→Nat
 | 0=>0
 | k+1=>cnt l v k+if l.getD k 0=v then 1 else 0
theorem zsc {l:List Int}{v:Int}: ∀ k,cnt l v k=0→∀ i,i<k→l.getD i 0≠v
 | 0,_,i,hi=>by omega
 | k+1,h,i,hi=>by
   rw [cnt] at h
   by_cases e:i=k
   ·subst e
    intro hh
    rw [if_pos hh] at h
    omega
   ·exact zsc k (by omega) i (by omega)
theorem zsd {l:List Int}{v:Int}: ∀ k,(∀ i,i<k→l.getD i 0≠v)→cnt l v k=0
 | 0,_=>rfl
 | k+1,h=>by rw [cnt,zsd k (fun i hi=>h i (by omega)),if_neg (h k (by omega))]
end
section
open Go.RowKit
end
section
open Go.RowKit
end
section
open Go.RowKit
theorem zvq {k:IntKind}{a b:Int}(h:a=b): Ending.returned (.int k a)=.returned (.int k b):=by rw [h]
theorem zsp (d:Int)(m:Nat)(hm:0<m): (d.tmod m=d % m)∨(d.tmod m=d % m - m∧0<d % m):=by
 rw [Int.tmod_eq_emod]
 split
 ·left;omega
 ·rename_i h
  right
  refine ⟨by simp,?_⟩
  have h1:¬ (m:Int) ∣ d:=fun hh=>h (.inr hh)
  have h2:=Int.emod_nonneg d (b:=(m:Int)) (by omega)
  have h3:d % (m:Int)≠0:=fun hh=>h1 (Int.dvd_of_emod_eq_zero hh)
  omega
set_option maxHeartbeats 400000 in
theorem zzx (d:Int)(m:Nat)(w:World)(hm:0<m)(hm2:m≤100000):
  Calls Lead.prog 35 #[.int .i64 d,.int .i64 m] w (fun e w'=>e=.returned (.int .i64 (zlg d m:Nat))∧w=w'):=by
 have h1:=Int.emod_lt_of_pos d (b:=(m:Int)) (by omega)
 have h2:=Int.emod_nonneg d (b:=(m:Int)) (by omega)
 have h3:=zsp d m hm
 have h4:=zth d hm
 have hw:wrap64 (d.tmod (m:Int))=d.tmod m:=IntWalk.wrap64_in _ (by omega)
 have hw2:d.tmod (m:Int)<0→wrap64 (d.tmod (m:Int)+m)=d.tmod m+m:=fun h=>IntWalk.wrap64_in _ (by omega)
 have h5:¬ (m:Int)=0:=by omega
 by_cases hneg:d.tmod (m:Int)<0
 ·have hv:d.tmod (m:Int)+m=(zlg d m:Nat):=by omega
  have HV:=Lib.hid hv
  replace hw2:=hw2 hneg
  clear hv h1 h2 h3 h4
  go_enter Lead.func35,Tryd.ntmps35
  go_wp2_with fail
  go_ret
  exact ⟨zvq (hw2.trans HV.out),rfl⟩
 ·have hv:d.tmod (m:Int)=(zlg d m:Nat):=by omega
  have HV:=Lib.hid hv
  clear hv h1 h2 h3 h4
  go_enter Lead.func35,Tryd.ntmps35
  go_wp2_with fail
  go_ret
  exact ⟨zvq HV.out,rfl⟩
end
section
open Go.RowKit
def z46 (w:World)(n:Nat)(ds:List Int)(e:Ending)(w':World): Prop :=
 ∃ A c,e=.returned (.tuple #[.slice A n c,.int .i64 (min (n - 1) ds.length:Nat),.int .i64 0])∧n≤c∧Rd w' A (nums .i64 (zsz n ds))∧Below w.heap.size w w'
theorem zwc {l:List Int}{i j:Nat}(hi:i<l.length)(hj:j<l.length): ((nums .i64 l).set i (.int .i64 (l.getD j 0))).set j (.int .i64 (l.getD i 0))=nums .i64 (zmq l i j):=by
 simp [nums,zmq,List.map_set]
end
section
open Go.RowKit Go.Shelf
attribute [local go_sem] Oper.semAt_some
def zld (k:Nat): List Nat:=List.range k
theorem zif (k:Nat): zld (k+1)=zld k++[k]:=by simp [zld,List.range_succ]
theorem zi2 (k:Nat): (zld k).length=k:=by simp [zld]
def dn (q x:Nat): Nat:=if x<q then q - x else 1
def zsa (q:Nat)(x:Nat): Array Value:=#[.int .i64 (dn q x:Nat)]
theorem z4p {q x:Nat}(h:x<q): dn q x=q - x:=by simp [dn,h]
theorem z26 {q x:Nat}(h:0<q): 1≤dn q x∧dn q x≤q:=by unfold dn;split <;> omega
def Any (W W':World): Prop:=True
set_option maxRecDepth 100000 in
set_option maxHeartbeats 2000000 in
theorem z0p (F:Fence)(n:Nat)(hf:F.fn 62)(hro:F.round=none)(hn:1≤n)(l Bs q:Nat)(N:Int)(h1:q=0∨N≤q)(h2:(q:Int)≤N∨q=0)(h3:q=0→N<1)(h4:-1≤N)(hq:q≤1000000)(J Jx:List Nat→World→Prop)(hY:∀ pre x W,J pre W→pre.length<q→YieldAt F (n - 1) Lead.prog l (zsa q x) W fun e W' =>
   (e=.returned (.bool true)∧J (pre++[x]) W'∧Any W W')∨(e=.returned (.bool false)∧Jx (pre++[x]) W'))(W:World)(hBs:W.cell? ⟨Bs,0,none⟩=some (.int .i64 N))(h0:J [] W):
  CallsIn F n Lead.prog 62 #[.func (.yield l) #[] #[],.pointer (some ⟨Bs,0,none⟩)] W fun e W'=>(∃ v,e=.returned v) ∧
   ((∃ ys,ys=zld q∧J ys W')∨(∃ pre,(∃ k,k≤q∧pre=zld k)∧Jx pre W')):=by
 refine callsIn_of_wp Lead.func62 rfl hf ?_ hro
 simp only [Tryd.ntmps62,List.size_toArray,List.length_cons,List.length_nil,Nat.reduceAdd,Nat.reduceSub,Array.replicate_succ,Array.replicate_zero,List.push_toArray,List.append_toArray,List.nil_append,List.cons_append]
 have H1:=Lib.hid h1
 have H2:=Lib.hid h2
 have H3:=Lib.hid h3
 clear h1 h2 h3
 gi_wp2
 gi_loopw [3] (fun i wr=>∃ (k:Nat) (z:Int),k≤q∧z≤N - k∧N - k≤z∧i=.int .i64 z∧J (zld k) wr)
  (fun i _=>(intOf i).toNat)
 case atStart=>exact ⟨0,N,Nat.zero_le _,by omega,by omega,rfl,h0⟩
 case round =>
  obtain ⟨k,z,hk,hz1,hz2,rfl,hJs⟩:=hrel
  by_cases hlt:k<q
  ·obtain rfl:z=(dn q k:Nat):=by rw [z4p hlt];have:=H1.out;have:=H2.out;omega
   have hd1:1≤dn q k:=(z26 (by omega)).1
   have hd2:dn q k≤q:=(z26 (by omega)).2
   obtain ⟨fn,tmps,assign,body,hy,hR⟩:=hY _ k wr hJs (by rw [zi2];exact hlt)
   unfold zsa at hy
   gi_wp2
   refine hR.mono ?_
   rintro e W3 (⟨rfl,hJ3,_⟩|⟨rfl,hJx3⟩)
   ·gi_wp2
    go_roundw
    case rel=>exact ⟨k+1,(dn q k:Nat) - 1,by omega,by omega,by omega,rfl,by rw [zif];exact hJ3⟩
    case measure=>simp [intOf];omega
   ·gi_wp2
    refine bodyPost_ret (results_none rfl _ _ _) rfl ?_
    exact ⟨⟨_,rfl⟩,.inr ⟨_,⟨k+1,by omega,(zif _).symm⟩,hJx3⟩⟩
  ·have hz:z<1:=by have:=H1.out;have:=H3.out;omega
   have hkq:k=q:=by omega
   subst hkq
   clear hlt hk
   gi_wp2
   go_end0
   exact ⟨⟨_,rfl⟩,.inl ⟨_,rfl,hJs⟩⟩
theorem zxp (z:Int)(w:World):
  Calls Lead.prog 34 #[.int .i64 z] w fun e w'=>e=.returned (.func (.func 62) #[] #[.pointer (some ⟨w.heap.size,0,none⟩)])∧w'=w.alloc (.cells #[.int .i64 z] 3):=by
 go_enter Lead.func34,Tryd.ntmps34
 go_wp2_with fail
 go_ret
 exact ⟨rfl,rfl⟩
theorem zt3 (F:Fence)(n:Nat)(hf:F.fn 62)(hro:F.round=none)(hn:1≤n)(Bs q:Nat)(N:Int)(h1:q=0∨N≤q)(h2:(q:Int)≤N∨q=0)(h3:q=0→N<1)(h4:-1≤N)(hq:q≤1000000)(w:World)(hb:Bs<w.heap.size)(hBs:w.cell? ⟨Bs,0,none⟩=some (.int .i64 N)):
  SeqStopsK F n Lead.prog 62 #[.pointer (some ⟨Bs,0,none⟩)] (zsa q) Any (fun ys=>ys=zld q) (fun pre=>True) q w:=fun l J Jx W hW _ _ hY h0=>by
 have hc':=(hW.cell (p:=⟨Bs,0,none⟩) hb).trans hBs
 refine (z0p F n hf hro hn l Bs q N h1 h2 h3 h4 hq J Jx hY W hc' h0).mono ?_
 rintro e W' ⟨he,⟨ys,rfl,hj⟩|⟨pre,_,hj⟩⟩
 ·exact ⟨he,.inl ⟨_,rfl,hj⟩⟩
 ·exact ⟨he,.inr ⟨_,trivial,hj⟩⟩
end
end Go.Proofs.YtelgmbomkojmaaaDoor
