/- A pack: Sg Sh0 Si Sj Sk Nb Ma Mb Mc Md Mf Mg0 Row App Mh Mi0 Good Round Ml. -/
import Derived.Test.YtelgmbomkojmaaaDoorQLaa
import Derived.Lib.SlBytesConst
import Derived.Deep.RegionWith
import Derived.Lib.AppendZeros
import Derived.Handy
import Derived.Deep.RegionHeld3
import Derived.OwnWalkIn
import Derived.RangeFuncLeaves
import Derived.RangeFuncBox
import Derived.RangeFuncOwn
import Derived.RangeFuncFrom
import Derived.RangeFuncCalls
import Derived.StillTail
import Derived.StillTailTactics
import Derived.OrdersIn
import Derived.TacticsIn
import Derived.CallsIn
import Derived.Shelf.RegionOpen
import Derived.TacticsInMore
import Derived.LoopNIn
import Derived.LoopIn
namespace Go.Proofs.YtelgmbomkojmaaaDoor
set_option linter.all false
set_option maxRecDepth 100000
section
open Go.RowKit Go.Shelf
attribute [local go_sem] Oper.semAt_some
def zjh (ps:List Int)(k:Nat): List Int:=(ps.drop (64 * k)).take 64
def znf (ps:List Int)(ks:List Nat): List Int:=ks.foldl (fun l k=>blk l (zjh ps k)) h0l
theorem ztt (ps:List Int)(ks:List Nat)(k:Nat): znf ps (ks++[k])=blk (znf ps ks) (zjh ps k):=by simp [znf]
theorem zhu (ps:List Int)(ks:List Nat): (znf ps ks).length=8:=by
 have h:∀ (ks:List Nat) (l:List Int),l.length=8→(ks.foldl (fun l k=>blk l (zjh ps k)) l).length=8:=by
  intro ks
  induction ks with
  | nil=>intro l h;exact h
  | cons k ks ih=>intro l h;exact ih _ (zk3 h _)
 exact h ks h0l rfl
theorem h0a:(h0l.map (Value.int .u32)).toArray=#[.int .u32 1779033703,.int .u32 3144134277,.int .u32 1013904242,.int .u32 2773480762,.int .u32 1359893119,.int .u32 2600822924,.int .u32 528734635,.int .u32 1541459225]:=rfl
def many (n:Nat): Nat:=zci n / 64
theorem zkh (n:Nat): zci n=64 * many n:=by unfold many zci;omega
theorem zs7 (xs:List Int): (zlz xs).length=zci xs.length:=by
 unfold zlz
 rw [zjz]
 simp
 unfold zci;omega
def z2y (xs:List Int): List Int:=znf (zlz xs) (upto (many xs.length))
def zsl (x:Int): List Int:=[x / 16777216,x / 65536 % 256,x / 256 % 256,x % 256]
def zf6 (l:List Int): List Int:=l.flatMap zsl
def sumL (xs:List Int): List Int:=zf6 (z2y xs)
section
variable {W W':World} {row:Option Nat} (hg:W.grownBy W' row) (hr:∀ r,row=some r→∃ o:Obj,W.heap[r]?=some o∧o.isCells=false)
include hg hr
theorem Arr.kept {B:Nat}{l:List Int}(hl:0<l.length)(h:Arr W B l): Arr W' B l:=by
 obtain ⟨o,ho,hc⟩:=cells_of_cell (h.1 0 hl)
 have hk:W'.heap[B]?=W.heap[B]?:=grownBy_keeps_cells hg hr ho hc
 exact ⟨fun j hj=>(World.cell?_of_block (a:=⟨B,j,none⟩) hk).trans (h.1 j hj),fun j=>(World.frozen?_of_block (a:=⟨B,j,none⟩) hk).trans (h.2 j)⟩
theorem Brow.kept {B:Nat}{l:List Int}(hl:0<l.length)(h:Brow W B l): Brow W' B l:=by
 obtain ⟨o,ho,hc⟩:=cells_of_cell (h.1 0 hl)
 have hk:W'.heap[B]?=W.heap[B]?:=grownBy_keeps_cells hg hr ho hc
 exact ⟨fun j hj=>(World.cell?_of_block (a:=⟨B,j,none⟩) hk).trans (h.1 j hj),fun j=>(World.frozen?_of_block (a:=⟨B,j,none⟩) hk).trans (h.2 j)⟩
theorem za2.kept (h:za2 W): za2 W':=fun j hj=>cell_kept (h j hj) hg hr
end
theorem Brow.rd {w:World}{B k:Nat}{l:List Int}(h:Brow w B l)(hB:B<w.heap.size)(hk:64 * k+64≤l.length): Rd w (some ⟨B,64 * k,none⟩) (nums .u8 (zjh l k)):=by
 refine .inr ⟨B,64 * k,rfl,hB,fun i v hv=>?_⟩
 have hi:i<64:=by
  have:=(List.getElem?_eq_some_iff.1 hv).1
  simp [zjh] at this
  omega
 rw [h.1 (64 * k+i) (by omega),← hv]
 simp [nums,zjh,List.getD,List.getElem?_take,hi,List.getElem?_drop,List.getElem?_eq_getElem (show 64 * k+i<l.length by omega)]
theorem zxt {l:List Int}{k:Nat}(hk:64 * k+64≤l.length): (zjh l k).length=64:=by simp [zjh];omega
theorem Arr.eight {w:World}{B:Nat}{a b c d e f g i:Int}(h:Arr w B [a,b,c,d,e,f,g,i]):
  w.cell? ⟨B,0,none⟩=some (.int .u32 a)∧w.cell? ⟨B,1,none⟩=some (.int .u32 b)∧w.cell? ⟨B,2,none⟩=some (.int .u32 c)∧w.cell? ⟨B,3,none⟩=some (.int .u32 d)∧w.cell? ⟨B,4,none⟩=some (.int .u32 e)∧w.cell? ⟨B,5,none⟩=some (.int .u32 f)∧w.cell? ⟨B,6,none⟩=some (.int .u32 g)∧w.cell? ⟨B,7,none⟩=some (.int .u32 i) ∧
  (w.frozen? ⟨B,0,none⟩=false∧w.frozen? ⟨B,1,none⟩=false∧w.frozen? ⟨B,2,none⟩=false∧w.frozen? ⟨B,3,none⟩=false∧w.frozen? ⟨B,4,none⟩=false∧w.frozen? ⟨B,5,none⟩=false∧w.frozen? ⟨B,6,none⟩=false∧w.frozen? ⟨B,7,none⟩=false) :=
 ⟨h.1 0 (by simp),h.1 1 (by simp),h.1 2 (by simp),h.1 3 (by simp),h.1 4 (by simp),h.1 5 (by simp),h.1 6 (by simp),h.1 7 (by simp),h.2 0,h.2 1,h.2 2,h.2 3,h.2 4,h.2 5,h.2 6,h.2 7⟩
theorem zd4 (b:Nat): ∀ (vs:List Value) (o:Nat) (w:World),KeepsOthers w (w.setCells b o vs)
 | [],_,w=>KeepsOthers.refl w
 | v :: r,o,w=>(KeepsOthers.setCell w ⟨b,o,none⟩ v).trans (zd4 b r (o+1) _)
theorem zd5 {w w':World}(h:Below w.heap.size w w'): KeepsOthers w w' :=
 ⟨h.size,fun k o hk _=>(h.block k (Array.getElem?_eq_some_iff.1 hk).1).trans hk⟩
theorem Arr.stored {w:World}{B:Nat}{l l':List Int}(h:Arr w B l)(hl:l'.length=l.length): Arr (w.setCells B 0 (l'.map (Value.int .u32))) B l':=by
 refine ⟨fun j hj=>?_,fun j=>by rw [World.frozen?_setCells];exact h.2 j⟩
 have:=World.cell?_setCells_in B (l'.map (Value.int .u32)) 0 w (fun j hj=>by
  rw [Nat.zero_add,h.1 j (by simpa [hl] using hj)];rfl) j (by simpa using hj)
 rw [Nat.zero_add] at this
 rw [this]
 simp [List.getD,hj]
def zyc (l:List Int): Prop:=∀ x∈l,0≤x∧x<4294967296
def zgs (w:World)(ys:List Int)(e:Ending)(w':World): Prop :=
 ∃ B c,e=.returned (.slice (some ⟨B,0,none⟩) ys.length c)∧ys.length≤c∧w.heap.size≤B∧Rd w' (some ⟨B,0,none⟩) (nums .u8 ys)∧Below w.heap.size w w'
theorem zz9 (a b c d e f g i:Int)(w:World): (Instr.index 119 (.agg #[.int .u32 a,.int .u32 b,.int .u32 c,.int .u32 d,.int .u32 e,.int .u32 f,.int .u32 g,.int .u32 i]) (.int .i64 (0:Nat))).run Lead.prog w=.ok (.int .u32 a) w:=by kernel_rfl
theorem zz8 (a b c d e f g i:Int)(w:World): (Instr.index 119 (.agg #[.int .u32 a,.int .u32 b,.int .u32 c,.int .u32 d,.int .u32 e,.int .u32 f,.int .u32 g,.int .u32 i]) (.int .i64 (1:Nat))).run Lead.prog w=.ok (.int .u32 b) w:=by kernel_rfl
theorem zz7 (a b c d e f g i:Int)(w:World): (Instr.index 119 (.agg #[.int .u32 a,.int .u32 b,.int .u32 c,.int .u32 d,.int .u32 e,.int .u32 f,.int .u32 g,.int .u32 i]) (.int .i64 (2:Nat))).run Lead.prog w=.ok (.int .u32 c) w:=by kernel_rfl
theorem zz6 (a b c d e f g i:Int)(w:World): (Instr.index 119 (.agg #[.int .u32 a,.int .u32 b,.int .u32 c,.int .u32 d,.int .u32 e,.int .u32 f,.int .u32 g,.int .u32 i]) (.int .i64 (3:Nat))).run Lead.prog w=.ok (.int .u32 d) w:=by kernel_rfl
theorem zz5 (a b c d e f g i:Int)(w:World): (Instr.index 119 (.agg #[.int .u32 a,.int .u32 b,.int .u32 c,.int .u32 d,.int .u32 e,.int .u32 f,.int .u32 g,.int .u32 i]) (.int .i64 (4:Nat))).run Lead.prog w=.ok (.int .u32 e) w:=by kernel_rfl
theorem zz4 (a b c d e f g i:Int)(w:World): (Instr.index 119 (.agg #[.int .u32 a,.int .u32 b,.int .u32 c,.int .u32 d,.int .u32 e,.int .u32 f,.int .u32 g,.int .u32 i]) (.int .i64 (5:Nat))).run Lead.prog w=.ok (.int .u32 f) w:=by kernel_rfl
theorem zz3 (a b c d e f g i:Int)(w:World): (Instr.index 119 (.agg #[.int .u32 a,.int .u32 b,.int .u32 c,.int .u32 d,.int .u32 e,.int .u32 f,.int .u32 g,.int .u32 i]) (.int .i64 (6:Nat))).run Lead.prog w=.ok (.int .u32 g) w:=by kernel_rfl
theorem zz2 (a b c d e f g i:Int)(w:World): (Instr.index 119 (.agg #[.int .u32 a,.int .u32 b,.int .u32 c,.int .u32 d,.int .u32 e,.int .u32 f,.int .u32 g,.int .u32 i]) (.int .i64 (7:Nat))).run Lead.prog w=.ok (.int .u32 i) w:=by kernel_rfl
theorem z4a (a b c d e f g i:Int)(w:World)(k:Nat)(h:k<8):
  (Instr.index 119 (.agg #[.int .u32 a,.int .u32 b,.int .u32 c,.int .u32 d,.int .u32 e,.int .u32 f,.int .u32 g,.int .u32 i]) (.int .i64 (k:Int))).run Lead.prog w=.ok (.int .u32 ([a,b,c,d,e,f,g,i].getD k 0)) w:=by
 have hk:k=0∨k=1∨k=2∨k=3∨k=4∨k=5∨k=6∨k=7:=by omega
 rcases hk with rfl|rfl|rfl|rfl|rfl|rfl|rfl|rfl
 ·exact zz9 a b c d e f g i w
 ·exact zz8 a b c d e f g i w
 ·exact zz7 a b c d e f g i w
 ·exact zz6 a b c d e f g i w
 ·exact zz5 a b c d e f g i w
 ·exact zz4 a b c d e f g i w
 ·exact zz3 a b c d e f g i w
 ·exact zz2 a b c d e f g i w
theorem zuf (l v:List Int)(n:Nat): ∀ i,i<n→i<l.length→0≤(addN l v n).getD i 0∧(addN l v n).getD i 0<4294967296:=by
 induction n with
 | zero=>intro i hi;omega
 | succ n ih =>
   intro i hi hl
   rw [addN]
   by_cases h:i=n
   ·subst h
    have hl2:i<(addN l v i).length:=by rw [zjt];exact hl
    simp [List.getD,hl2]
    omega
   ·have:=ih i (by omega) hl
    simpa [List.getD,List.getElem?_set_ne (Ne.symm h)] using this
theorem zx0 {l:List Int}(h:l.length=8)(bs:List Int): zyc (blk l bs):=by
 intro x hx
 obtain ⟨i,hi,rfl⟩:=List.mem_iff_getElem.1 hx
 have hi8:i<8:=by rw [zk3 h] at hi;exact hi
 have:=zuf l (runN (ze4 bs) l 64) 8 i hi8 (by omega)
 rw [← blk] at this
 simpa [List.getD,List.getElem?_eq_getElem hi] using this
theorem zky (ps:List Int)(ks:List Nat): zyc (znf ps ks):=by
 have h:∀ (ks:List Nat) (l:List Int),l.length=8→zyc l→zyc (ks.foldl (fun l k=>blk l (zjh ps k)) l):=by
  intro ks
  induction ks with
  | nil=>intro l _ h;exact h
  | cons k ks ih=>intro l h _;exact ih _ (zk3 h _) (zx0 h _)
 exact h ks h0l rfl (fun x hx=>by simp [h0l] at hx;omega)
theorem z19 (q:Nat): (upto q).map (pc q)=upto q:=by
 have:∀ k∈upto q,pc q k=k:=fun k hk=>by
  have:=List.mem_range.1 hk
  simp [pc,this]
 exact (List.map_congr_left this).trans (List.map_id' _)
theorem zqz (b o j:Nat): (Addr.mk b o none).add j=⟨b,o+j,none⟩:=by
 unfold Addr.add
 by_cases h:j=0 <;> simp [h]
theorem zts (w:World)(a b c d:Value)(t:TypeId)(j:Nat)(u:Value)(h:[a,b,c,d][j]?=some u): (w.alloc (.cells #[a,b,c,d] t)).cell? ((Addr.mk w.heap.size 0 none).add j)=some u:=by
 rw [zqz,Nat.zero_add,World.cell?_alloc_at _ _ _ _ rfl]
 simpa using h
theorem zuk (v:List Int)(k:Nat)(x:Int)(h:v[k]?=some x): zf6 (v.take (k+1))=zf6 (v.take k)++zsl x:=by
 rw [List.take_add_one,h]
 simp [zf6]
theorem zzk (k:IntKind)(a b:List Int): nums k (a++b)=nums k a++nums k b:=by simp [nums]
set_option maxRecDepth 100000 in
set_option maxHeartbeats 4000000 in
theorem zu1 (A:Option Addr)(n c:Nat)(xs:List Int)(w:World)(hn:xs.length=n)(hb:n≤4000)(hx:Rd w A (nums .u8 xs))(hK:za2 w):
  Calls Lead.prog 76 #[.slice A n c] w (zgs w (sumL xs)):=by
 have HN:=Lib.hid hn
 have HK:=Lib.hid hK
 have HX:=Lib.hid hx
 have hw0:0<w.heap.size:=za5 (hK 0 (by omega))
 clear hn hK hx
 refine (callsIn_wide (n:=8)).1 ?_
 refine callsIn_of_wp_marks Lead.func76 rfl trivial ?_ rfl
 simp only [Tryd.ntmps76,List.size_toArray,List.length_cons,List.length_nil,Nat.reduceAdd,Nat.reduceSub,Array.replicate_succ,Array.replicate_zero,List.push_toArray,List.append_toArray,List.nil_append,List.cons_append]
 have d1:1≤7:=by omega
 gi_wp2_with (refine ⟨trivial,?_⟩;first
  | (gi_at_call 77;refine (callsIn_wide.2 (zu6 _)).mono ?_;rintro e w1 ⟨he,hb1⟩;rw [h0a] at he;subst he)
  | (gi_at_call 79;refine (callsIn_wide.2 (z2a A n c xs _ HN.out hb (HX.out.below (hb1.trans ((bal brf _).mono hb1.size))))).mono ?_;rintro e w2 ⟨he,hp2,hb2,hl2⟩;rw [HN.out] at he;subst he)
  | (gi_at_call 78;refine (callsIn_wide.2 (zub _ _ _ _)).mono ?_;rintro e w3 ⟨rfl,rfl⟩))
 have q1:0<many n:=by unfold many zci;omega
 have q2:many n≤1000:=by unfold many zci;omega
 have hpl:(zlz xs).length=64 * many n:=by rw [zs7,zkh,HN.out]
 obtain ⟨ps,hps⟩:∃ ps,ps=zlz xs:=⟨_,rfl⟩
 rw [← hps] at hp2 hpl
 obtain ⟨m,hm⟩:∃ m,m=zci n:=⟨_,rfl⟩
 rw [← hm]
 have hA0:Arr (w1.alloc (.cells #[.int .u32 1779033703,.int .u32 3144134277,.int .u32 1013904242,.int .u32 2773480762,.int .u32 1359893119,.int .u32 2600822924,.int .u32 528734635,.int .u32 1541459225] 119)) w1.heap.size h0l:=⟨fun j hj=>(by
   rw [World.cell?_alloc_at _ _ _ _ rfl]
   match j,hj with
   | 0,_|1,_|2,_|3,_|4,_|5,_|6,_|7,_=>rfl),fun j=>by simp [go_sem]⟩
 have hB1:=hb1.trans ((bal brf (.cells #[.int .u32 1779033703,.int .u32 3144134277,.int .u32 1013904242,.int .u32 2773480762,.int .u32 1359893119,.int .u32 2600822924,.int .u32 528734635,.int .u32 1541459225] 119)).mono hb1.size)
 have hz1:=hb1.size
 rw [World.size_alloc] at hb2 hp2 hl2
 generalize w1.alloc (.cells #[.int .u32 1779033703,.int .u32 3144134277,.int .u32 1013904242,.int .u32 2773480762,.int .u32 1359893119,.int .u32 2600822924,.int .u32 528734635,.int .u32 1541459225] 119)=w1' at hA0 hB1 hb2
 have hA2:Arr w2 w1.heap.size h0l:=hA0.below hb2 (Nat.lt_succ_self _)
 have hB2:Below w.heap.size w w2:=hB1.trans (hb2.mono (by omega))
 have hK2:za2 w2:=HK.out.below hB2 (by have:=za5 (HK.out 0 (by omega));simp at this;omega)
 have hA3:Arr (w2.alloc (.cells #[.slice (some ⟨w1.heap.size+1,0,none⟩) m m] 33)) w1.heap.size h0l:=hA2.below (bal brf _) (by omega)
 have hP3:Brow (w2.alloc (.cells #[.slice (some ⟨w1.heap.size+1,0,none⟩) m m] 33)) (w1.heap.size+1) ps:=hp2.below (bal brf _) (by omega)
 have hK3:za2 (w2.alloc (.cells #[.slice (some ⟨w1.heap.size+1,0,none⟩) m m] 33)):=hK2.below (bal brf _) (by omega)
 have hB3:Below w.heap.size w (w2.alloc (.cells #[.slice (some ⟨w1.heap.size+1,0,none⟩) m m] 33)):=hB2.trans ((bal brf _).mono hB2.size)
 have hc3:(w2.alloc (.cells #[.slice (some ⟨w1.heap.size+1,0,none⟩) m m] 33)).cell? ⟨w2.heap.size,0,none⟩=some (.slice (some ⟨w1.heap.size+1,0,none⟩) m m):=by
  rw [World.cell?_alloc_at _ _ _ _ rfl];rfl
 have hz3:(w2.alloc (.cells #[.slice (some ⟨w1.heap.size+1,0,none⟩) m m] 33)).heap.size=w2.heap.size+1:=World.size_alloc _ _
 generalize w2.alloc (.cells #[.slice (some ⟨w1.heap.size+1,0,none⟩) m m] 33)=w3 at hA3 hP3 hK3 hB3 hc3 hz3 ⊢
 obtain ⟨bh,hbh⟩:∃ bh,bh=w1.heap.size:=⟨_,rfl⟩
 obtain ⟨Bs,hBs⟩:∃ Bs,Bs=w2.heap.size:=⟨_,rfl⟩
 rw [← hbh] at hA3 hP3 hc3 hl2 hz1 ⊢
 rw [← hBs] at hc3 hz3 hl2 ⊢
 have HM:=Lib.hid (show m=64 * many n by rw [hm,zkh])
 have HPS:=Lib.hid hps
 have HPL:=Lib.hid hpl
 clear hbh hBs hA2 hK2 hB2 hA0 hB1 hb2 hp2 hb1 hm hps hpl w2 w1 w1'
 refine wpIn_rangeFunc_ownF rfl (by omega) (gf:=81) (lb:=#[.pointer (some ⟨Bs,0,none⟩)]) rfl trivial (enters_of Lead.func81 (by kernel_rfl) rfl)
  (zo5 Fence.wide 7 trivial rfl (by omega) Bs (bh+1) m (many n) HM.out (by omega) w3 (by omega) hc3) zws (zwt (by omega)) (Below.refl _ _) (fun _=>rfl)
  (fun pre W=>(Arr W bh (znf ps (pre.map (pc (many n))))∧Brow W (bh+1) ps∧za2 W∧w3.heap.size≤W.heap.size)∧Below w.heap.size w W)
  (fun _ _ _=>False)
  (OwnFrom.and (Own.from (fun s A B row hs hg hr=>⟨hs.1.kept hg hr (by rw [zhu];omega),hs.2.1.kept hg hr (by have:=HPL.out;omega),hs.2.2.1.kept hg hr,Nat.le_trans hs.2.2.2 hg.size⟩) _) (ownFrom_below (Nat.le_refl _) (by have:=hB3.size;omega)))
  (fun _ _ _ _ _ hs _ _=>hs)
  ⟨⟨hA3,hP3,hK3,Nat.le_refl _⟩,hB3⟩
  (fun x=>{ tmps:=#[.slice A n c,undef,.slice none 0 0,.pointer (some ⟨bh,0,none⟩),.slice (some ⟨bh+1,64 * pc (many n) x,none⟩) 64 (m - 64 * pc (many n) x),undef,undef,undef,.agg #[.int .u32 1779033703,.int .u32 3144134277,.int .u32 1013904242,.int .u32 2773480762,.int .u32 1359893119,.int .u32 2600822924,.int .u32 528734635,.int .u32 1541459225],.slice A n c,.slice (some ⟨bh+1,0,none⟩) m m,.func (.func 81) #[] #[.pointer (some ⟨Bs,0,none⟩)],.slice (some ⟨bh+1,64 * pc (many n) x,none⟩) 64 (m - 64 * pc (many n) x),undef,undef,undef,undef,undef,undef,undef,undef,undef,undef,undef,undef,undef,undef,undef,undef,undef,undef,undef,undef,undef,undef,undef,undef,undef,undef,undef],defers:=[] }) ?assign ?body ?done ?stop
 case assign =>
  intro l x W K hK
  unfold zvz
  gi_wp2
  exact hK
 case body =>
  rintro l pre x W ⟨⟨hA,hP,hK,hsz⟩,hB⟩ _
  obtain ⟨v0,v1,v2,v3,v4,v5,v6,v7,hv⟩:=len8 (zhu ps (pre.map (pc (many n))))
  have hlt:=z5t (k:=x) q1
  obtain ⟨k,hk⟩:∃ k,k=pc (many n) x:=⟨_,rfl⟩
  rw [← hk] at hlt ⊢
  have hkl:64 * k+64≤ps.length:=by have:=HPL.out;omega
  have hrd:=hP.rd (k:=k) (by omega) hkl
  have hcl:=zxt hkl
  have hstep:znf ps ((pre++[x]).map (pc (many n)))=blk [v0,v1,v2,v3,v4,v5,v6,v7] (zjh ps k):=by
   rw [List.map_append,List.map_cons,List.map_nil,ztt,hv,hk]
  obtain ⟨u0,u1,u2,u3,u4,u5,u6,u7,hu⟩:=len8 (zk3 (l:=[v0,v1,v2,v3,v4,v5,v6,v7]) rfl (zjh ps k))
  rw [hv] at hA
  have c0:=hA.1 0 (by simp)
  have c1:=hA.1 1 (by simp)
  have c2:=hA.1 2 (by simp)
  have c3:=hA.1 3 (by simp)
  have c4:=hA.1 4 (by simp)
  have c5:=hA.1 5 (by simp)
  have c6:=hA.1 6 (by simp)
  have c7:=hA.1 7 (by simp)
  simp at c0 c1 c2 c3 c4 c5 c6 c7
  have HA:=Lib.hid hA
  have HP1:=Lib.hid hP
  have HK1:=Lib.hid hK
  have HST:=Lib.hid hstep
  have HRD:=Lib.hid hrd
  have HCL:=Lib.hid hcl
  have HU:=Lib.hid hu
  have HV:=Lib.hid hv
  clear hA hP hK hstep hrd hcl hu hv hk
  have d2:1≤8 - 1 - 1:=by omega
  have hbW:bh<W.heap.size:=by omega
  have f0:=HA.out.2
  gi_wp2_with (refine ⟨trivial,?_⟩;gi_at_call 80;refine (CallsIn.inRound l (callsIn_wide.2 (zxz _ _ v0 v1 v2 v3 v4 v5 v6 v7 (zjh ps k) W HCL.out HRD.out HK1.out))).mono ?_;rintro e w4 ⟨he,hb4⟩;rw [HU.out] at he;simp only [List.map_cons,List.map_nil] at he;subst he;clear c0 c1 c2 c3 c4 c5 c6 c7 f0;obtain ⟨c0,c1,c2,c3,c4,c5,c6,c7,f0⟩:=(HA.out.below hb4 hbW).eight;obtain ⟨g0,g1,g2,g3,g4,g5,g6,g7⟩:=f0)
  have key:∀ w5,w5=w4.setCells bh 0 ([u0,u1,u2,u3,u4,u5,u6,u7].map (Value.int .u32))→(KeepsOthers W w5∧zfg Bs W w5∧((Arr w5 bh (znf ps ((pre++[x]).map (pc (many n))))∧Brow w5 (bh+1) ps∧za2 w5∧w3.heap.size≤w5.heap.size)∧Below w.heap.size w w5)):=by
   intro w5 h5
   have z4:=hb4.size
   have z5:w5.heap.size=w4.heap.size:=by rw [h5,zaq]
   have b5:Below bh W w5:=by rw [h5];exact zas (Nat.le_refl _) _ _ (hb4.mono (by omega))
   have hwb:=hB3.size
   refine ⟨?_,?_,⟨⟨?_,?_,?_,?_⟩,?_⟩⟩
   ·rw [h5]
    exact (zd5 hb4).trans (zd4 _ _ _ _)
   ·rw [h5]
    exact (World.cell?_setCells_out _ _ _ _ _ (fun h _=>absurd h (by show Bs≠bh;omega))).trans (hb4.cell (p:=⟨Bs,0,none⟩) (by show Bs<W.heap.size;omega))
   ·rw [h5,HST.out,HU.out]
    exact (HA.out.below hb4 hbW).stored rfl
   ·rw [h5]
    have:=HP1.out.below hb4 (by omega)
    exact ⟨fun j hj=>(World.cell?_setCells_out _ _ _ _ _ (fun h _=>absurd h (by show bh+1≠bh;omega))).trans (this.1 j hj),fun j=>by rw [World.frozen?_setCells];exact this.2 j⟩
   ·exact HK1.out.below b5 (by omega)
   ·omega
   ·exact hB.trans (b5.mono (by omega))
  exact key _ rfl
 case done =>
  rintro D ys W hD rfl ⟨⟨hA,hP,hK,hsz⟩,hB⟩ hDD
  obtain ⟨v0,v1,v2,v3,v4,v5,v6,v7,hv⟩:=len8 (zhu ps ((upto (many n)).map (pc (many n))))
  rw [hv] at hA
  obtain ⟨c0,c1,c2,c3,c4,c5,c6,c7,f0⟩:=hA.eight
  have HV:=Lib.hid hv
  have hzw:=hB.size
  clear hv hA hP hK f0
  obtain ⟨i0,hi,hz0,hz1',hz2⟩:=info_parts zbz
  gi_wp2_with (gi_at_make;refine wpListIn_make_own _ rfl _ _ 33 rfl w.heap.size 5 i0 (.int .u8 0) 1 (Lead.of Tryd.underlying33) hi hz0 hz1' .i64 .i64 _ 32 rfl rfl rfl (by rw [hz2];omega) (by unfold maxLen;omega) (by omega) ?_;intro w5 hown5 hgrow5;have c0:=cell_kept c0 hgrow5 (fun r e=>by cases e);have c1:=cell_kept c1 hgrow5 (fun r e=>by cases e);have c2:=cell_kept c2 hgrow5 (fun r e=>by cases e);have c3:=cell_kept c3 hgrow5 (fun r e=>by cases e);have c4:=cell_kept c4 hgrow5 (fun r e=>by cases e);have c5:=cell_kept c5 hgrow5 (fun r e=>by cases e);have c6:=cell_kept c6 hgrow5 (fun r e=>by cases e);have c7:=cell_kept c7 hgrow5 (fun r e=>by cases e))
  have hb5:Below w.heap.size w w5:=hB.grown hgrow5 (by omega) (fun k e=>by cases e)
  have hD5:w5.heap[D]?=some (.deferred (some [])):=(hgrow5.block D (Array.getElem?_eq_some_iff.1 hDD).1 (by simp)).trans hDD
  have hDw:D<W.heap.size:=(Array.getElem?_eq_some_iff.1 hDD).1
  clear c0 c1 c2 c3 c4 c5 c6 c7
  gi_loopw [5,7,21] (fun s5 _ i wr=>∃ k:Nat,k≤8∧i=.int .i64 k∧s5=.slice (some ⟨W.heap.size,0,none⟩) (4 * k) 32∧wr.ownsRow w.heap.size 5 1 (.slice (some ⟨W.heap.size,0,none⟩) (4 * k) 32) (4 * k) (nums .u8 (zf6 ([v0,v1,v2,v3,v4,v5,v6,v7].take k)))∧wr.heap[D]?=some (.deferred (some []))∧Below w.heap.size w wr) (fun _ _ i _=>8 - (intOf i).toNat)
  case atStart =>
   exact ⟨0,Nat.zero_le _,rfl,rfl,hown5,hD5,hb5⟩
  case round =>
   obtain ⟨k,hk,rfl,rfl,hown,hD6,hb6⟩:=hrel
   have r0:(0:Int)≤(k:Int):=by omega
   by_cases hlt:k<8
   ·have r1:(k:Int)<8:=by omega
    have hidx:=z4a v0 v1 v2 v3 v4 v5 v6 v7 wr k hlt
    obtain ⟨x,hx⟩:∃ x,x=[v0,v1,v2,v3,v4,v5,v6,v7].getD k 0:=⟨_,rfl⟩
    rw [← hx] at hidx
    have HX1:=Lib.hid hx
    obtain ⟨x0,x1⟩:0≤x∧x<4294967296:=by
     have hw:=zky ps ((upto (many n)).map (pc (many n)))
     rw [HV.out] at hw
     rw [hx]
     exact hw _ (by simp [List.getD,List.getElem?_eq_getElem (show k<[v0,v1,v2,v3,v4,v5,v6,v7].length from hlt),-List.mem_cons,List.getElem_mem])
    clear hx
    gi_wp2_with (gi_at_builtin;refine wpListIn_append_fits _ rfl _ _ 33 rfl w.heap.size 5 i0 1 (Lead.of Tryd.underlying33) hi hz1' W.heap.size (4 * k) 32 _ rfl (hown.alloc _) ⟨wr.heap.size,0,none⟩ 4 4 [.int .u8 (x / 16777216),.int .u8 (x / 65536 % 256),.int .u8 (x / 256 % 256),.int .u8 (x % 256)] rfl rfl (zts _ _ _ _ _ _) ?c2 (by omega) ?_;rotate_left;intro w6 hown6 hgrow6)
    refine ⟨⟨k+1,by omega,by congr 1,by congr 1,?_,?_,?_⟩,by show 8 - ((k:Int)+1).toNat<8 - (k:Int).toNat;omega⟩
    ·rw [zuk _ k x (by rw [HX1.out];simp [List.getD,List.getElem?_eq_getElem (show k<[v0,v1,v2,v3,v4,v5,v6,v7].length from hlt)]),zzk]
     exact hown6
    ·have hne:D≠W.heap.size:=by omega
     have hD7:D<wr.heap.size:=(Array.getElem?_eq_some_iff.1 hD6).1
     exact (hgrow6.block D (by rw [World.size_alloc];omega) (by simpa using hne)).trans ((Below.heap_alloc _ _ D hD7).trans hD6)
    ·exact (hb6.alloc hb6.size _).grown hgrow6 (by rw [World.size_alloc];have:=hb6.size;omega) (fun r e=>by cases e;exact hB.size)
    case c2 =>
     intro u hu
     simp at hu
     rcases hu with rfl|rfl|rfl|rfl <;> rfl
   ·have r1:(8:Int)≤(k:Int):=by omega
    have hk8:k=8:=by omega
    have HK8:=Lib.hid hk8
    clear hk8
    gi_wp2
    refine ⟨by simp,.inl ⟨_,_,rfl,run_takeDeferred hD6,?_⟩⟩
    have hkk:=HK8.out
    subst hkk
    have hs:sumL xs=zf6 [v0,v1,v2,v3,v4,v5,v6,v7]:=by
     rw [sumL,z2y,HN.out,← HPS.out,← HV.out,z19]
    refine ⟨_,results_tmp rfl _ _ _,?_⟩
    rw [hs]
    refine ⟨W.heap.size,32,rfl,by simp [zf6,zsl],hB.size,?_,hb6.trans (belowK_b (w:=w) (Nat.le_refl _) wr D _ _ (by have:=hB3.size;omega) hD6 rfl rfl)⟩
    exact Rd.of_own (ownsRow_putObj hown _ hD6 rfl)
 case stop =>
  rintro D c pre W _ _ h _
  exact h.elim
end
section
open Go.RowKit
end
section
open Go.RowKit
theorem zul (x:Int): (zsl x).length=4:=rfl
theorem zt9 (l:List Int): (zf6 l).length=4 * l.length:=by
 unfold zf6
 induction l with
 | nil=>rfl
 | cons a r ih=>simp [List.flatMap_cons,zul] at ih ⊢;omega
theorem zdk (xs:List Int): (sumL xs).length=32:=by
 unfold sumL
 rw [zt9]
 unfold z2y
 rw [zhu]
theorem zm0 {w:World}{b base:Nat}{e:TypeId}{s n:Nat}{v:Value}{xs:List Value}(h:w.ownsRow base e s v n xs)(hb:b≤base): w.ownsRow b e s v n xs:=by
 refine ⟨h.1,?_⟩
 rcases h.2 with h1|⟨g,cap,cur,h1,h2,hh,hc⟩
 ·exact .inl h1
 ·exact .inr ⟨g,cap,cur,h1,Nat.le_trans hb h2,hh,hc⟩
theorem zqy {P:Program}(w:World)(t ty e:TypeId)(i:TypeInfo)(ht:P.underlying t=some (.slice e))(hi:P.info? e=some i)(base size c:Nat)(v:Value)(n:Nat)(xs:List Value)(hown:w.ownsRow base e size v n xs):
  (Builtin.append_ #[t,t] ty #[v,.slice none 0 c]).run P w=.ok v w:=by
 rcases hown.2 with ⟨rfl,rfl⟩|⟨g,cap,cur,rfl,_,_,hnc,_⟩
 ·simp [Builtin.append_,run_underlying ht,sizeOf,typeInfo,hi,Builtin.lenOf,Builtin.firstCells]
 ·simp [Builtin.append_,run_underlying ht,sizeOf,typeInfo,hi,Builtin.lenOf,Builtin.firstCells,hnc,storeCells]
theorem zo7 {ops:Array Oper}{rest:List Oper}{o:Oper}{a:Act}{w:World}{Q:Exit→Act→World→Prop}(hgd:o.guard=none)(s x:Operand)(ho:o.op=.call { callee:=.builtin .append,args:=#[s,x],argTypes:=#[33,33] })(base:Nat)(v:Value)(k:Nat)(xs:List Value)(hs:a.eval s=v)(hown:w.ownsRow base 5 1 v k xs)(A:Option Addr)(n c:Nat)(ys:List Int)(hx:a.eval x=.slice A n c)(hn:ys.length=n)(hr:Rd w A (nums .u8 ys))(hb1:k+n≤100000)(hbase:base≤w.heap.size)(h:∀ v' w',w'.ownsRow base 5 1 v' (k+n) (xs++nums .u8 ys)→w.grownBy w' v.ownBlock→wpList Lead.prog ops Q rest (a.put o.dst v') w'): wpList Lead.prog ops Q (o :: rest) a w:=by
 obtain ⟨i0,hi,hz0,hz1,hz2⟩:=info_parts zbz
 have hsome:∀ ad:Addr,A=some ad→(∀ j u,(nums .u8 ys)[j]?=some u→w.cell? (ad.add j)=some u)→wpList Lead.prog ops Q (o :: rest) a w:=by
  intro ad hA hc
  subst hA
  exact wpList_append_own _ hgd s x 33 ho base 5 i0 (.int .u8 0) 1 1 (Lead.of Tryd.underlying33) hi hz0 hz1 hz2 rfl (by decide) v k xs hs hown ad n c (nums .u8 ys) hx (by simp [hn]) hc
   (fun u hu=>by obtain ⟨x,_,rfl⟩:=List.mem_map.1 hu;rfl) (by unfold maxLen;omega) (by omega) hbase (fun v' w' h1 h2 _=>h v' w' h1 h2)
 cases A with
 | some ad =>
   rcases Nat.eq_zero_or_pos n with h0|h0
   ·have:ys=[]:=List.eq_nil_of_length_eq_zero (by omega)
    subst this
    exact hsome ad rfl (fun j u hu=>by simp at hu)
   ·obtain ⟨b,off,he,hlt,hc⟩:=hr.at_ (by simp;omega)
    cases he
    exact hsome _ rfl (fun j u hu=>by rw [zqz];exact hc j u hu)
 | none =>
   have h0:ys=[]:=by
    rcases hr with h|⟨_,_,h,_⟩
    ·simpa using h
    ·cases h
   subst h0
   have h0:n=0:=by simpa using hn.symm
   subst h0
   refine wpList_plain hgd fun K hK=>?_
   have hr:=zqy (P:=Lead.prog) w 33 o.type 5 i0 (Lead.of Tryd.underlying33) hi base 1 c v k xs hown
   unfold Oper.wp execOp
   simp only [ho,resolve,invoke,builtin,Sem.run_bind,Sem.run_pure,Result.andThen_ok,List.map_toArray,List.map_cons,List.map_nil,hs,hx,hr]
   exact hK _ _ (h v w (by simpa using hown) (World.grownBy.refl _ _))
end
section
open Go.RowKit
def zgc (v:Nat)(k:Nat): List Int:=(List.range k).map fun j=>(((v / 2 ^ (56 - 8 * j)) % 256:Nat):Int)
theorem zss (v k:Nat): zgc v (k+1)=zgc v k++[(((v / 2 ^ (56 - 8 * k)) % 256:Nat):Int)]:=by simp [zgc,List.range_succ]
end
section
open Go.RowKit
end
section
open Go.RowKit Go.ChangeShapes Go.WideShapes Go.ChangeAt
theorem zum {x:Int}(h:0≤x∧x<4294967296): Byt (zsl x):=by
 intro y hy
 simp [zsl] at hy
 rcases hy with rfl|rfl|rfl|rfl <;> omega
theorem zua {l:List Int}(h:zyc l): Byt (zf6 l):=by
 intro y hy
 obtain ⟨x,hx,hy⟩:=List.mem_flatMap.1 hy
 exact zum (h x hx) y hy
theorem zq8 (xs:List Int): Byt (sumL xs):=zua (zky _ _)
theorem Brow.whole {w:World}{B:Nat}{l:List Int}(h:Brow w B l)(hB:B<w.heap.size): Rd w (some ⟨B,0,none⟩) (nums .u8 l):=by
 refine .inr ⟨B,0,rfl,hB,fun i v hv=>?_⟩
 have hi:i<l.length:=by
  have:=(List.getElem?_eq_some_iff.1 hv).1
  simpa using this
 rw [Nat.zero_add,h.1 i hi,← hv,za9 hi]
theorem zvj (A B:Option Addr)(n c m d:Nat)(xs ys:List Int)(w:World)(he:xs=ys)(hn:xs.length=n)(hm:ys.length=m)(hx:Rd w A (nums .u8 xs))(hy:Rd w B (nums .u8 ys))(bx:Byt xs):
  Calls Lead.prog 16 #[.slice A n c,.slice B m d] w (fun e w'=>e=.returned (.bool true)∧w=w'):=by
 subst he
 refine (zri A B n c m d xs xs w hn hm hx hy bx bx).mono ?_
 rintro e w' ⟨rfl,rfl⟩
 exact ⟨by simp,rfl⟩
theorem Rd.take {w:World}{A:Option Addr}{l:List Int}(h:Rd w A (nums .u8 l))(k:Nat): Rd w A (nums .u8 (l.take k)):=by
 rcases h with h|⟨b,off,hA,hlt,hc⟩
 ·left
  have:l=[]:=by simpa [nums] using h
  simp [nums,this]
 ·refine .inr ⟨b,off,hA,hlt,fun i v hv=>hc i v ?_⟩
  rw [nums,List.map_take,List.getElem?_take] at hv
  split at hv
  ·exact hv
  ·simp at hv
theorem Rd.part {w:World}{B o:Nat}{l:List Int}(h:Rd w (some ⟨B,o,none⟩) (nums .u8 l))(i k:Nat): Rd w (some ⟨B,o+i,none⟩) (nums .u8 ((l.drop i).take k)):=by
 rcases h with h|⟨b,off,hA,hlt,hc⟩
 ·left
  have:l=[]:=by simpa [nums] using h
  simp [nums,this]
 ·cases hA
  refine .inr ⟨B,o+i,rfl,hlt,fun j v hv=>?_⟩
  rw [nums,List.map_take,List.getElem?_take] at hv
  split at hv
  ·rw [List.map_drop,List.getElem?_drop] at hv
   rw [Nat.add_assoc]
   exact hc (i+j) v hv
  ·simp at hv
theorem zly (w:World)(l:List Int)(t:TypeId): Rd (w.alloc (.cells (nums .u8 l).toArray t)) (some ⟨w.heap.size,0,none⟩) (nums .u8 l):=by
 refine .inr ⟨_,_,rfl,by simp,fun i v hv=>?_⟩
 rw [World.cell?_alloc_at _ _ _ _ rfl]
 simpa using hv
end
section
open Go.RowKit
def z6a (w:World)(N:Nat)(l:List Int)(e:Ending)(w':World): Prop :=
 ∃ A c,e=.returned (.slice A N c)∧l.length=N∧w'.ownsRow w.heap.size 5 1 (.slice A N c) N (nums .u8 l)∧Below w.heap.size w w'
theorem zlp (n:Nat): (Builtin.zeroCells #[Value.int .u8 0] n).size=n:=by
 simp [Builtin.zeroCells]
set_option maxHeartbeats 1000000 in
theorem z0c (n:Nat)(w:World)(hn:n≤100000):
  Calls Lead.prog 41 #[.slice none 0 0,.int .i64 n] w (fun e w'=>∃ v,e=.returned v∧w'.ownsRow w.heap.size 5 1 v 0 []∧Below w.heap.size w w'):=by
 by_cases h0:n=0
 ·subst h0
  go_enter Lead.func41,Tryd.ntmps41
  go_wp2
  go_ret
  exact ⟨_,rfl,⟨rfl,.inl ⟨rfl,rfl⟩⟩,brf⟩
 ·obtain ⟨i0,hi,hz0,hz1,hz2⟩:=info_parts zbz
  have hrz:∀ ty,(Builtin.append_ #[33,3] ty #[.slice none 0 0,.int .i64 n]).run Lead.prog w=.ok (.slice (some ⟨w.heap.size,0,none⟩) n (grownCap w n 0 5)) (w.drew.alloc (.cells (Builtin.zeroCells (Value.int .u8 0).cells n++Builtin.zeroCells (Value.int .u8 0).cells (grownCap w n 0 5 - n)) 5)):=fun ty =>
   Lib.run_append_nil_zeros w 33 3 ty 5 i0 (.int .u8 0) .i64 .i64 (Lead.of Tryd.underlying33) (Lead.of Tryd.underlying3) hi hz0 n (by omega) (by omega) (by omega) (by rw [hz2];omega)
  have hGn:n≤grownCap w n 0 5:=grownCap_ge w _ _ _
  have hGm:=grownCap_le_maxLen w n 0 5 (by unfold maxLen;omega)
  obtain ⟨G,hG⟩:∃ G,G=grownCap w n 0 5:=⟨_,rfl⟩
  rw [← hG] at hrz hGn hGm
  have hG63:G≤9223372036854775807:=by unfold maxLen at hGm;omega
  have h1:(0:Int)<n:=by omega
  have h2:¬ (n:Int)<0:=by omega
  clear hG
  go_enter Lead.func41,Tryd.ntmps41
  go_wp2_with (at_builtin;refine Lib.wpList_append_run _ rfl _ _ _ _ rfl _ _ rfl rfl _ _ (hrz _) ?_)
  go_ret
  refine ⟨_,rfl,⟨rfl,.inr ⟨w.heap.size,G,_,rfl,Nat.le_refl _,Array.getElem?_push_size,Nat.zero_le _,hGm,?_,by simp⟩⟩,bal (bdr brf) _⟩
  show (Builtin.zeroCells #[Value.int .u8 0] n++Builtin.zeroCells #[Value.int .u8 0] (G - n)).size=G * 1
  rw [Array.size_append,zlp,zlp]
  omega
set_option maxHeartbeats 1000000 in
theorem ziu (P0:Nat)(A B:Option Addr)(n c m d:Nat)(xs ys:List Int)(w:World)(hp0:w.cell? ⟨P0,0,none⟩=some (.slice A n c))(hp1:w.cell? ⟨P0,1,none⟩=some (.slice B m d))(hn:xs.length=n)(hm:ys.length=m)(hx:Rd w A (nums .u8 xs))(hy:Rd w B (nums .u8 ys))(hb:n+m≤20000):
  Calls Lead.prog 25 #[.slice (some ⟨P0,0,none⟩) 2 2] w (z6a w (n+m) (xs++ys)):=by
 have hP:P0<w.heap.size:=za5 hp0
 have HX:=Lib.hid hx
 have HY:=Lib.hid hy
 have HN:=Lib.hid hn
 have HM:=Lib.hid hm
 clear hx hy hn hm
 have x1:wrap64 (n:Int)=n:=IntWalk.wrap64_in _ (by omega)
 have x2:wrap64 ((n:Int)+m)=(n:Int)+m:=IntWalk.wrap64_in _ (by omega)
 have x3:¬ (n:Int)<0:=by omega
 have x4:¬ (n:Int)+m<0:=by omega
 have CG:=fun (W:World)=>z0c (n+m) W (by omega)
 rw [Int.natCast_add] at CG
 go_enter Lead.func25,Tryd.ntmps25
 go_wp2_with fail
 refine wp_loop_rounds 3 ?_
 rw [rounds_succ]
 go_wp2_with fail
 rw [rounds_succ]
 go_wp2_with fail
 rw [rounds_succ]
 go_wp2_with (go_at_call 41;go_must (refine (CG _).mono ?_;rintro e w1 ⟨v1,rfl,hown1,hb1⟩;have hq0:=(hb1.cell (p:=⟨P0,0,none⟩) hP).trans hp0;have hq1:=(hb1.cell (p:=⟨P0,1,none⟩) hP).trans hp1;have HX1:=Lib.hid (HX.out.below hb1);have HY1:=Lib.hid (HY.out.below hb1)))
 refine wp_loop_rounds 3 ?_
 rw [rounds_succ]
 go_wp2_with (at_builtin;refine zo7 rfl _ _ rfl w.heap.size v1 0 [] rfl hown1 A n c xs rfl HN.out HX1.out (by omega) hb1.size ?_;intro v2 w2 hown2 hgrow2;rw [Nat.zero_add,List.nil_append] at hown2;have hb2:Below w.heap.size w w2:=zeo hown1 hgrow2 hb1 hb1.size (Nat.le_refl _);have hbx:Below w.heap.size w1 w2:=zeo hown1 hgrow2 (Below.refl _ _) hb1.size (Nat.le_refl _);have hq3:=(hbx.cell (p:=⟨P0,1,none⟩) hP).trans hq1;have HY2:=Lib.hid (HY.out.below hb2);clear hown1 hgrow2)
 rw [rounds_succ]
 go_wp2_with (at_builtin;refine zo7 rfl _ _ rfl w.heap.size v2 n (nums .u8 xs) rfl hown2 B m d ys rfl HM.out HY2.out (by omega) hb2.size ?_;intro v3 w3 hown3 hgrow3;have hb3:Below w.heap.size w w3:=zeo hown2 hgrow3 hb2 hb2.size (Nat.le_refl _);clear hown2 hgrow3)
 rw [rounds_succ]
 go_wp2_with fail
 go_ret
 obtain ⟨A3,cp3,rfl⟩:=zdb hown3
 have hl:(xs++ys).length=n+m:=by rw [List.length_append,HN.out,HM.out]
 rw [← List.map_append] at hown3
 exact ⟨A3,cp3,rfl,hl,hown3,hb3⟩
end
section
open Go.RowKit
set_option maxHeartbeats 1000000 in
theorem zne (P0:Nat)(A B:Option Addr)(n c m d:Nat)(xs ys:List Int)(w:World)(hp0:w.cell? ⟨P0,0,none⟩=some (.slice A n c))(hp1:w.cell? ⟨P0,1,none⟩=some (.slice B m d))(hn:xs.length=n)(hm:ys.length=m)(hx:Rd w A (nums .u8 xs))(hy:Rd w B (nums .u8 ys))(hb:n+m≤4000)(hK:za2 w):
  Calls Lead.prog 67 #[.slice (some ⟨P0,0,none⟩) 2 2] w (zgs w (sumL (xs++ys))):=by
 have hw0:0<w.heap.size:=za5 (hK 0 (by omega))
 have HX:=Lib.hid hx
 have HY:=Lib.hid hy
 have HK:=Lib.hid hK
 clear hx hy hK
 have HN:=Lib.hid hn
 have HM:=Lib.hid hm
 clear hn hm
 go_enter Lead.func67,Tryd.ntmps67
 go_wp2_with (first
  | (go_at_call 25;go_must (refine (ziu P0 A B n c m d xs ys _ hp0 hp1 HN.out HM.out HX.out HY.out (by omega)).mono ?_;rintro e w1 ⟨A1,c1,rfl,hL,hown,hb1⟩;have HL:=Lib.hid hL;clear hL;have HR1:=Lib.hid (Rd.of_own hown);clear hown))
  | (go_at_call 76;go_must (refine (zu1 A1 (n+m) c1 (xs++ys) _ HL.out hb HR1.out (HK.out.below hb1 hw0)).mono ?_;rintro e w2 ⟨B2,c2,rfl,hc2,hB2,hr2,hb2⟩)))
 go_ret
 have:=hb1.size
 exact ⟨B2,c2,rfl,hc2,by omega,hr2,bgo hb1 hb2⟩
theorem Rd.get {w:World}{B o k:Nat}{l:List Int}(h:Rd w (some ⟨B,o,none⟩) (nums .u8 l))(hk:k<l.length): w.cell? ⟨B,o+k,none⟩=some (.int .u8 (l.getD k 0)):=by
 obtain ⟨b,off,he,_,hc⟩:=h.at_ (by simp;omega)
 cases he
 exact hc k _ (za9 hk)
def zli (f:Nat→Int)(n k:Nat): List Int:=(List.range n).map fun j=>if j<k then f j else 0
theorem zhy (f:Nat→Int)(n k:Nat): (zli f n k).length=n:=by simp [zli]
theorem zow (f:Nat→Int)(n:Nat): zli f n 0=List.replicate n 0:=by
 refine List.eq_replicate_iff.2 ⟨by simp [zli],fun b hb=>?_⟩
 obtain ⟨j,_,rfl⟩:=List.mem_map.1 hb
 simp
theorem zr9 (f:Nat→Int)(n k:Nat): (zli f n k).set k (f k)=zli f n (k+1):=by
 apply List.ext_getElem?
 intro i
 rw [List.getElem?_set,zhy]
 simp only [zli,List.getElem?_map]
 by_cases hi:i<n
 ·rw [List.getElem?_range hi]
  by_cases h:k=i
  ·subst h
   simp [hi]
  ·rw [if_neg h]
   simp only [Option.map_some]
   by_cases h2:i<k
   ·rw [if_pos h2,if_pos (by omega)]
   ·rw [if_neg h2,if_neg (by omega)]
 ·rw [List.getElem?_eq_none (by simp;omega)]
  by_cases h:k=i
  ·rw [if_pos h,if_neg (by omega)];rfl
  ·rw [if_neg h];rfl
theorem zox (f:Nat→Int)(n:Nat): zli f n n=(List.range n).map f:=by
 apply List.map_congr_left
 intro j hj
 rw [if_pos (List.mem_range.1 hj)]
def xor8 (a b:Int): Int:=bits .xor .u8 a b
def zfx (l:List Int)(x:Int): List Int:=l.map fun b=>xor8 b x
set_option maxHeartbeats 1000000 in
theorem ztd (ys:List Int)(x:Int)(w:World)(hy:ys.length=64):
  Calls Lead.prog 68 #[.agg (nums .u8 ys).toArray,.int .u8 x] w (zgs w (zfx ys x)):=by
 have HR0:=Lib.hid (zly w ys 107)
 have HY:=Lib.hid hy
 obtain ⟨cs,hcs⟩:∃ cs,cs=(nums .u8 ys).toArray:=⟨_,rfl⟩
 have hsz:cs.size=64:=by rw [hcs];simp [HY.out]
 rw [← hcs] at HR0 ⊢
 clear hcs hy
 obtain ⟨i0,hi,hz0,hz1,hz2⟩:=info_parts zbz
 go_enter Lead.func68,Tryd.ntmps68
 go_wp2_with (at_make;refine wpList_make_full _ rfl _ _ 33 rfl (w.heap.size+1) 5 i0 (.int .u8 0) 1 (Lead.of Tryd.underlying33) hi hz0 hz1 .i64 .i64 _ _ 64 rfl rfl (by omega) (by omega) (by rw [hz2];omega) (by unfold maxLen;omega) (by simp) ?_;intro w1 hown1 hgrow1)
 have hX:(w.alloc (.cells cs 107)).heap.size=w.heap.size+1:=by simp
 rw [← hX] at hown1
 obtain ⟨hB1,hb1,hl1⟩:=zk0 hown1 hgrow1 (by omega)
 rw [hX] at hB1 hb1 hl1
 have HR1:=Lib.hid (HR0.out.below (by rw [hX];exact hb1))
 have hbw:Below w.heap.size w w1:=by
  have:=bal (brf (w:=w)) (.cells cs 107)
  exact this.trans (hb1.mono (by omega))
 have HB1:=Lib.hid hB1
 clear hown1 hgrow1 hB1 HR0 hi hz0 hz1 hz2 hb1
 go_loopw [6,10] (fun _ i wr=>∃ k:Nat,k≤64∧i=.int .i64 k∧Brow wr (w.heap.size+1) (zli (fun j=>xor8 (ys.getD j 0) x) 64 k)∧w.heap.size+1<wr.heap.size∧Below (w.heap.size+1) w1 wr) (fun _ i _=>64 - (intOf i).toNat)
 case atStart=>exact ⟨0,Nat.zero_le _,rfl,by rw [zow];exact HB1.out,hl1,Below.refl _ _⟩
 case round =>
  obtain ⟨k,hk,rfl,hB,hl,hb4⟩:=hrel
  have r0:(0:Int)≤(k:Int):=by omega
  by_cases hlt:k<64
  ·have r1:(k:Int)<64:=by omega
   have c1:wr.cell? ⟨w.heap.size+1,k,none⟩=some (.int .u8 _):=hB.1 k (by rw [zhy];exact hlt)
   have f1:wr.frozen? ⟨w.heap.size+1,k,none⟩=false:=hB.2 _
   have c2:=(hb4.cell (p:=⟨w.heap.size,0+k,none⟩) (by show w.heap.size<_;omega)).trans (HR1.out.get (k:=k) (by rw [HY.out];exact hlt))
   rw [Nat.zero_add] at c2
   have HB:=Lib.hid hB
   clear hB
   go_wp2_with fail
   refine ⟨⟨k+1,by omega,by congr 1,?_,by rw [zah];exact hl,hb4.setCell (p:=⟨w.heap.size+1,k,none⟩) (Nat.le_refl _) _⟩,by show 64 - ((k:Int)+1).toNat<64 - (k:Int).toNat;omega⟩
   have:=HB.out.set (k:=k) (xor8 (ys.getD k 0) x) (by rw [zhy];exact hlt)
   rw [zr9 (fun j=>xor8 (ys.getD j 0) x)] at this
   exact this
  ·have hk8:k=64:=by omega
   have r1:¬ (k:Int)<64:=by omega
   rw [hk8,zox] at hB
   have e:(List.range 64).map (fun j=>xor8 (ys.getD j 0) x)=zfx ys x:=by
    apply List.ext_getElem?
    intro i
    by_cases hi:i<64
    ·simp [zfx,List.getElem?_range hi,List.getElem?_eq_getElem (show i<ys.length by rw [HY.out];exact hi),List.getD]
    ·rw [List.getElem?_eq_none (by simp;omega),List.getElem?_eq_none (by simp [zfx,HY.out];omega)]
   rw [e] at hB
   have HR:=Lib.hid (hB.whole hl)
   have hlen:(zfx ys x).length=64:=by simp [zfx,HY.out]
   have HL:=Lib.hid hlen
   clear hB e hk8 hlen
   go_wp2_with fail
   go_ret
   exact ⟨w.heap.size+1,64,by rw [HL.out];rfl,by rw [HL.out];omega,by omega,HR.out,hbw.trans (hb4.mono (by omega))⟩
end
section
open Go.RowKit
def zlv (key:List Int): List Int:=if 64<key.length then sumL key else key
def zb1 (key:List Int): List Int:=zlv key++List.replicate (64 - (zlv key).length) 0
theorem zvg (key:List Int): (zlv key).length≤64:=by
 unfold zlv
 split
 ·rw [zdk];omega
 ·omega
theorem zck (key:List Int): (zb1 key).length=64:=by
 have:=zvg key
 simp [zb1];omega
theorem Brow.range {w:World}{B:Nat}{l:List Int}(h:Brow w B l): w.rangeAt B 0 (nums .u8 l):=by
 intro j v hv
 rw [Nat.zero_add]
 have hj:j<l.length:=by
  have:=(List.getElem?_eq_some_iff.1 hv).1
  simpa using this
 rw [h.1 j hj,← hv,za9 hj]
theorem Brow.there {w:World}{B:Nat}{l:List Int}(h:Brow w B l)(n:Nat)(hn:n=l.length): w.there B 0 n:=by
 intro j hj
 rw [Nat.zero_add]
 exact ⟨by rw [h.1 j (by omega)];rfl,h.2 j⟩
theorem zeq (l:List Int): (nums .u8 l).toArray.all (·.oneCell')=true:=by
 simp [nums,Value.oneCell']
theorem zkv {l:List Int}(h:l.length=64): (Lead.prog.info? 107).map (·.size)=some (nums .u8 l).length:=by
 rw [nums,List.length_map,h];kernel_rfl
theorem zwz {l:List Int}(h:l.length=64): (Lead.prog.info? 107).map (·.size)=some (nums .u8 l).toArray.size:=by
 rw [List.size_toArray,nums,List.length_map,h];kernel_rfl
theorem zh5 (w:World)(l:List Int)(t:TypeId): Brow (w.alloc (.cells (nums .u8 l).toArray t)) w.heap.size l:=by
 refine ⟨fun j hj=>?_,fun j=>by simp [go_sem]⟩
 rw [World.cell?_alloc_at _ _ _ _ rfl]
 have:=za9 (k:=.u8) hj
 rw [← this,List.getElem?_toArray]
def zq1 (w:World)(l:List Int)(e:Ending)(w':World): Prop:=e=.returned (.agg (nums .u8 l).toArray)∧Below w.heap.size w w'
theorem zfh:(nums .u8 (List.replicate 64 0)).toArray=#[.int .u8 0,.int .u8 0,.int .u8 0,.int .u8 0,.int .u8 0,.int .u8 0,.int .u8 0,.int .u8 0,.int .u8 0,.int .u8 0,.int .u8 0,.int .u8 0,.int .u8 0,.int .u8 0,.int .u8 0,.int .u8 0,.int .u8 0,.int .u8 0,.int .u8 0,.int .u8 0,.int .u8 0,.int .u8 0,.int .u8 0,.int .u8 0,.int .u8 0,.int .u8 0,.int .u8 0,.int .u8 0,.int .u8 0,.int .u8 0,.int .u8 0,.int .u8 0,.int .u8 0,.int .u8 0,.int .u8 0,.int .u8 0,.int .u8 0,.int .u8 0,.int .u8 0,.int .u8 0,.int .u8 0,.int .u8 0,.int .u8 0,.int .u8 0,.int .u8 0,.int .u8 0,.int .u8 0,.int .u8 0,.int .u8 0,.int .u8 0,.int .u8 0,.int .u8 0,.int .u8 0,.int .u8 0,.int .u8 0,.int .u8 0,.int .u8 0,.int .u8 0,.int .u8 0,.int .u8 0,.int .u8 0,.int .u8 0,.int .u8 0,.int .u8 0]:=by kernel_rfl
theorem z1o (w:World)(o1 o2:Array Value)(h1:o1=(nums .u8 (List.replicate 64 0)).toArray)(h2:o2=(nums .u8 (List.replicate 64 0)).toArray):
  Brow ((w.alloc (.cells o1 107)).alloc (.cells o2 107)) w.heap.size (List.replicate 64 0)∧Brow ((w.alloc (.cells o1 107)).alloc (.cells o2 107)) (w.heap.size+1) (List.replicate 64 0)∧Below w.heap.size w ((w.alloc (.cells o1 107)).alloc (.cells o2 107))∧((w.alloc (.cells o1 107)).alloc (.cells o2 107)).heap.size=w.heap.size+2:=by
 have hz1:(w.alloc (.cells o1 107)).heap.size=w.heap.size+1:=World.size_alloc ..
 have hz2:((w.alloc (.cells o1 107)).alloc (.cells o2 107)).heap.size=w.heap.size+2:=by rw [World.size_alloc,hz1]
 have hA:Brow (w.alloc (.cells o1 107)) w.heap.size (List.replicate 64 0):=by rw [h1];exact zh5 w _ _
 have hB:Brow ((w.alloc (.cells o1 107)).alloc (.cells o2 107)) (w.alloc (.cells o1 107)).heap.size (List.replicate 64 0):=by rw [h2];exact zh5 _ _ _
 rw [hz1] at hB
 exact ⟨hA.below (bal brf _) (by rw [hz1];omega),hB,bal (bal brf _) _,hz2⟩
theorem z2b (w w1:World)(o1 o2:Array Value){B:Nat}{l:List Int}(h1:o1=(nums .u8 (List.replicate 64 0)).toArray)(h2:o2=(nums .u8 (List.replicate 64 0)).toArray)(hb:Below (w.alloc (.cells o1 107)).heap.size (w.alloc (.cells o1 107)) w1)(hr:Rd w1 (some ⟨B,0,none⟩) (nums .u8 l)):
  w.heap.size<w1.heap.size∧Brow (w1.alloc (.cells o2 107)) w.heap.size (List.replicate 64 0)∧Brow (w1.alloc (.cells o2 107)) w1.heap.size (List.replicate 64 0)∧Below w.heap.size w (w1.alloc (.cells o2 107))∧(w1.alloc (.cells o2 107)).heap.size=w1.heap.size+1∧Rd (w1.alloc (.cells o2 107)) (some ⟨B,0,none⟩) (nums .u8 l):=by
 have hz1:(w.alloc (.cells o1 107)).heap.size=w.heap.size+1:=World.size_alloc ..
 have hA:Brow (w.alloc (.cells o1 107)) w.heap.size (List.replicate 64 0):=by rw [h1];exact zh5 w _ _
 have hs:=hb.size
 have hlw:w.heap.size<w1.heap.size:=by omega
 have hA1:=hA.below hb (by rw [hz1];omega)
 refine ⟨hlw,hA1.below (bal brf _) hlw,by rw [h2];exact zh5 _ _ _,(bgo (bal brf _) hb).trans ((bal brf _).mono (by omega)),World.size_alloc ..,hr.below (bal brf _)⟩
set_option maxRecDepth 100000 in
set_option maxHeartbeats 1000000 in
theorem zog (A:Option Addr)(n c:Nat)(xs:List Int)(w:World)(hn:xs.length=n)(hb:n≤64)(hx:Rd w A (nums .u8 xs)):
  Calls Lead.prog 66 #[.slice A n c] w (zq1 w (zb1 xs)):=by
 have eb:xs++(List.replicate 64 (0:Int)).drop n=zb1 xs:=by
  have:zlv xs=xs:=if_neg (by omega)
  rw [zb1,this,hn,List.drop_replicate]
 have EB:=Lib.hid eb
 have HX:=Lib.hid hx
 have HN:=Lib.hid hn
 clear hx hn eb
 have r1:¬ (64:Int)<n:=by omega
 go_enter Lead.func66,Tryd.ntmps66
 go_upto_region 4 with fail
 have F:=z1o w #[.int .u8 0,.int .u8 0,.int .u8 0,.int .u8 0,.int .u8 0,.int .u8 0,.int .u8 0,.int .u8 0,.int .u8 0,.int .u8 0,.int .u8 0,.int .u8 0,.int .u8 0,.int .u8 0,.int .u8 0,.int .u8 0,.int .u8 0,.int .u8 0,.int .u8 0,.int .u8 0,.int .u8 0,.int .u8 0,.int .u8 0,.int .u8 0,.int .u8 0,.int .u8 0,.int .u8 0,.int .u8 0,.int .u8 0,.int .u8 0,.int .u8 0,.int .u8 0,.int .u8 0,.int .u8 0,.int .u8 0,.int .u8 0,.int .u8 0,.int .u8 0,.int .u8 0,.int .u8 0,.int .u8 0,.int .u8 0,.int .u8 0,.int .u8 0,.int .u8 0,.int .u8 0,.int .u8 0,.int .u8 0,.int .u8 0,.int .u8 0,.int .u8 0,.int .u8 0,.int .u8 0,.int .u8 0,.int .u8 0,.int .u8 0,.int .u8 0,.int .u8 0,.int .u8 0,.int .u8 0,.int .u8 0,.int .u8 0,.int .u8 0,.int .u8 0] #[.int .u8 0,.int .u8 0,.int .u8 0,.int .u8 0,.int .u8 0,.int .u8 0,.int .u8 0,.int .u8 0,.int .u8 0,.int .u8 0,.int .u8 0,.int .u8 0,.int .u8 0,.int .u8 0,.int .u8 0,.int .u8 0,.int .u8 0,.int .u8 0,.int .u8 0,.int .u8 0,.int .u8 0,.int .u8 0,.int .u8 0,.int .u8 0,.int .u8 0,.int .u8 0,.int .u8 0,.int .u8 0,.int .u8 0,.int .u8 0,.int .u8 0,.int .u8 0,.int .u8 0,.int .u8 0,.int .u8 0,.int .u8 0,.int .u8 0,.int .u8 0,.int .u8 0,.int .u8 0,.int .u8 0,.int .u8 0,.int .u8 0,.int .u8 0,.int .u8 0,.int .u8 0,.int .u8 0,.int .u8 0,.int .u8 0,.int .u8 0,.int .u8 0,.int .u8 0,.int .u8 0,.int .u8 0,.int .u8 0,.int .u8 0,.int .u8 0,.int .u8 0,.int .u8 0,.int .u8 0,.int .u8 0,.int .u8 0,.int .u8 0,.int .u8 0] zfh.symm zfh.symm
 generalize ((w.alloc (.cells #[.int .u8 0,.int .u8 0,.int .u8 0,.int .u8 0,.int .u8 0,.int .u8 0,.int .u8 0,.int .u8 0,.int .u8 0,.int .u8 0,.int .u8 0,.int .u8 0,.int .u8 0,.int .u8 0,.int .u8 0,.int .u8 0,.int .u8 0,.int .u8 0,.int .u8 0,.int .u8 0,.int .u8 0,.int .u8 0,.int .u8 0,.int .u8 0,.int .u8 0,.int .u8 0,.int .u8 0,.int .u8 0,.int .u8 0,.int .u8 0,.int .u8 0,.int .u8 0,.int .u8 0,.int .u8 0,.int .u8 0,.int .u8 0,.int .u8 0,.int .u8 0,.int .u8 0,.int .u8 0,.int .u8 0,.int .u8 0,.int .u8 0,.int .u8 0,.int .u8 0,.int .u8 0,.int .u8 0,.int .u8 0,.int .u8 0,.int .u8 0,.int .u8 0,.int .u8 0,.int .u8 0,.int .u8 0,.int .u8 0,.int .u8 0,.int .u8 0,.int .u8 0,.int .u8 0,.int .u8 0,.int .u8 0,.int .u8 0,.int .u8 0,.int .u8 0] 107)).alloc (.cells #[.int .u8 0,.int .u8 0,.int .u8 0,.int .u8 0,.int .u8 0,.int .u8 0,.int .u8 0,.int .u8 0,.int .u8 0,.int .u8 0,.int .u8 0,.int .u8 0,.int .u8 0,.int .u8 0,.int .u8 0,.int .u8 0,.int .u8 0,.int .u8 0,.int .u8 0,.int .u8 0,.int .u8 0,.int .u8 0,.int .u8 0,.int .u8 0,.int .u8 0,.int .u8 0,.int .u8 0,.int .u8 0,.int .u8 0,.int .u8 0,.int .u8 0,.int .u8 0,.int .u8 0,.int .u8 0,.int .u8 0,.int .u8 0,.int .u8 0,.int .u8 0,.int .u8 0,.int .u8 0,.int .u8 0,.int .u8 0,.int .u8 0,.int .u8 0,.int .u8 0,.int .u8 0,.int .u8 0,.int .u8 0,.int .u8 0,.int .u8 0,.int .u8 0,.int .u8 0,.int .u8 0,.int .u8 0,.int .u8 0,.int .u8 0,.int .u8 0,.int .u8 0,.int .u8 0,.int .u8 0,.int .u8 0,.int .u8 0,.int .u8 0,.int .u8 0] 107))=W2 at F ⊢
 obtain ⟨hB2,hB3,hBW,hz2⟩:=F
 have HB2:=Lib.hid hB2
 have HB3:=Lib.hid hB3
 have HBW:=Lib.hid hBW
 have HX2:=Lib.hid (HX.out.below hBW)
 clear hB2 hB3 hBW
 iterate 7 go_step
 refine zqv rfl _ _ 33 33 5 rfl (Lead.of Tryd.underlying33) zku (w.heap.size+1) 64 64 A n c xs (List.replicate 64 0) rfl rfl HN.out (by omega) HX2.out HB3.out (by simp) ?_
 intro w3 hB3 hb3 hz3
 have e:xs++(List.replicate 64 (0:Int)).drop n=zb1 xs:=EB.out
 rw [e] at hB3
 have HG:=Lib.hid hB3.range
 have HT:=Lib.hid ((HB2.out.below hb3 (by omega)).there (nums .u8 (zb1 xs)).toArray.size (by simp [zck]))
 clear hB3 e
 go_wp2_with (first
  | (with_reducible show wpList _ _ _ ({ dst:=_,op:=Op.load 107 _,type:=_,pos:=_,after:=_,guard:=_ } :: _) _ _;refine wpList_load_mid rfl 107 _ rfl (w.heap.size+1) 0 rfl _ _ HG.out (Lead.of Tryd.underlying107) rfl (zkv (zck xs)) ?_)
  | (with_reducible show wpList _ _ _ ({ dst:=_,op:=Op.store 107 _ _,type:=_,pos:=_,after:=_,guard:=_ } :: _) _ _;refine wpList_store_mid rfl 107 _ _ rfl (w.heap.size) 0 _ rfl rfl HT.out (zwz (zck xs)) (zeq (zb1 xs)) ?_))
 refine bodyPost_ret (v:=.agg (nums .u8 (zb1 xs)).toArray) (zb4 rfl _ _ (w.heap.size) 0 _ _ rfl (World.rangeAt_setCells_same _ _ _ _ (by simpa using HT.out)) (Lead.of Tryd.underlying107) rfl (zkv (zck xs))) rfl ⟨rfl,?_⟩
 exact zas (Nat.le_refl _) _ _ (HBW.out.trans (hb3.mono (by omega)))
set_option maxRecDepth 100000 in
set_option maxHeartbeats 1000000 in
theorem zqh (A:Option Addr)(n c:Nat)(xs:List Int)(w:World)(hn:xs.length=n)(h64:64<n)(hb:n≤4000)(hx:Rd w A (nums .u8 xs))(hK:za2 w):
  Calls Lead.prog 66 #[.slice A n c] w (zq1 w (zb1 xs)):=by
 have hw0:0<w.heap.size:=za5 (hK 0 (by omega))
 have eb:sumL xs++(List.replicate 64 (0:Int)).drop 32=zb1 xs:=by
  have:zlv xs=sumL xs:=if_pos (by omega)
  rw [zb1,this,zdk]
  rfl
 have EB:=Lib.hid eb
 have HX:=Lib.hid hx
 have HN:=Lib.hid hn
 have HK:=Lib.hid hK
 clear hx hn eb hK
 have r1:(64:Int)<n:=by omega
 go_enter Lead.func66,Tryd.ntmps66
 go_upto_region 4 with (go_at_call 76;go_must (refine (zu1 A n c xs _ HN.out hb (HX.out.below (bal brf _)) (HK.out.below (bal brf _) hw0)).mono ?_;rintro e w1 ⟨BS,cS,rfl,hcS,hlS,RS,hb1⟩;rw [zdk] at hcS ⊢))
 have F:=z2b w w1 #[.int .u8 0,.int .u8 0,.int .u8 0,.int .u8 0,.int .u8 0,.int .u8 0,.int .u8 0,.int .u8 0,.int .u8 0,.int .u8 0,.int .u8 0,.int .u8 0,.int .u8 0,.int .u8 0,.int .u8 0,.int .u8 0,.int .u8 0,.int .u8 0,.int .u8 0,.int .u8 0,.int .u8 0,.int .u8 0,.int .u8 0,.int .u8 0,.int .u8 0,.int .u8 0,.int .u8 0,.int .u8 0,.int .u8 0,.int .u8 0,.int .u8 0,.int .u8 0,.int .u8 0,.int .u8 0,.int .u8 0,.int .u8 0,.int .u8 0,.int .u8 0,.int .u8 0,.int .u8 0,.int .u8 0,.int .u8 0,.int .u8 0,.int .u8 0,.int .u8 0,.int .u8 0,.int .u8 0,.int .u8 0,.int .u8 0,.int .u8 0,.int .u8 0,.int .u8 0,.int .u8 0,.int .u8 0,.int .u8 0,.int .u8 0,.int .u8 0,.int .u8 0,.int .u8 0,.int .u8 0,.int .u8 0,.int .u8 0,.int .u8 0,.int .u8 0] #[.int .u8 0,.int .u8 0,.int .u8 0,.int .u8 0,.int .u8 0,.int .u8 0,.int .u8 0,.int .u8 0,.int .u8 0,.int .u8 0,.int .u8 0,.int .u8 0,.int .u8 0,.int .u8 0,.int .u8 0,.int .u8 0,.int .u8 0,.int .u8 0,.int .u8 0,.int .u8 0,.int .u8 0,.int .u8 0,.int .u8 0,.int .u8 0,.int .u8 0,.int .u8 0,.int .u8 0,.int .u8 0,.int .u8 0,.int .u8 0,.int .u8 0,.int .u8 0,.int .u8 0,.int .u8 0,.int .u8 0,.int .u8 0,.int .u8 0,.int .u8 0,.int .u8 0,.int .u8 0,.int .u8 0,.int .u8 0,.int .u8 0,.int .u8 0,.int .u8 0,.int .u8 0,.int .u8 0,.int .u8 0,.int .u8 0,.int .u8 0,.int .u8 0,.int .u8 0,.int .u8 0,.int .u8 0,.int .u8 0,.int .u8 0,.int .u8 0,.int .u8 0,.int .u8 0,.int .u8 0,.int .u8 0,.int .u8 0,.int .u8 0,.int .u8 0] zfh.symm zfh.symm hb1 RS
 generalize (w1.alloc (.cells #[.int .u8 0,.int .u8 0,.int .u8 0,.int .u8 0,.int .u8 0,.int .u8 0,.int .u8 0,.int .u8 0,.int .u8 0,.int .u8 0,.int .u8 0,.int .u8 0,.int .u8 0,.int .u8 0,.int .u8 0,.int .u8 0,.int .u8 0,.int .u8 0,.int .u8 0,.int .u8 0,.int .u8 0,.int .u8 0,.int .u8 0,.int .u8 0,.int .u8 0,.int .u8 0,.int .u8 0,.int .u8 0,.int .u8 0,.int .u8 0,.int .u8 0,.int .u8 0,.int .u8 0,.int .u8 0,.int .u8 0,.int .u8 0,.int .u8 0,.int .u8 0,.int .u8 0,.int .u8 0,.int .u8 0,.int .u8 0,.int .u8 0,.int .u8 0,.int .u8 0,.int .u8 0,.int .u8 0,.int .u8 0,.int .u8 0,.int .u8 0,.int .u8 0,.int .u8 0,.int .u8 0,.int .u8 0,.int .u8 0,.int .u8 0,.int .u8 0,.int .u8 0,.int .u8 0,.int .u8 0,.int .u8 0,.int .u8 0,.int .u8 0,.int .u8 0] 107))=W2 at F ⊢
 obtain ⟨hlw,hB2,hB3,hBW,hz2,hX2⟩:=F
 have HB2:=Lib.hid hB2
 have HB3:=Lib.hid hB3
 have HBW:=Lib.hid hBW
 have HX2:=Lib.hid hX2
 clear hB2 hB3 hBW hX2 RS hb1
 iterate 7 go_step
 refine zqv rfl _ _ 33 33 5 rfl (Lead.of Tryd.underlying33) zku (w1.heap.size) 64 64 (some ⟨BS,0,none⟩) 32 cS (sumL xs) (List.replicate 64 0) rfl rfl (zdk xs) (by omega) HX2.out HB3.out (by simp) ?_
 intro w3 hB3 hb3 hz3
 have e:(sumL xs)++(List.replicate 64 (0:Int)).drop 32=zb1 xs:=EB.out
 rw [e] at hB3
 have HG:=Lib.hid hB3.range
 have HT:=Lib.hid ((HB2.out.below hb3 (by omega)).there (nums .u8 (zb1 xs)).toArray.size (by simp [zck]))
 clear hB3 e
 go_wp2_with (first
  | (with_reducible show wpList _ _ _ ({ dst:=_,op:=Op.load 107 _,type:=_,pos:=_,after:=_,guard:=_ } :: _) _ _;refine wpList_load_mid rfl 107 _ rfl (w1.heap.size) 0 rfl _ _ HG.out (Lead.of Tryd.underlying107) rfl (zkv (zck xs)) ?_)
  | (with_reducible show wpList _ _ _ ({ dst:=_,op:=Op.store 107 _ _,type:=_,pos:=_,after:=_,guard:=_ } :: _) _ _;refine wpList_store_mid rfl 107 _ _ rfl (w.heap.size) 0 _ rfl rfl HT.out (zwz (zck xs)) (zeq (zb1 xs)) ?_))
 refine bodyPost_ret (v:=.agg (nums .u8 (zb1 xs)).toArray) (zb4 rfl _ _ (w.heap.size) 0 _ _ rfl (World.rangeAt_setCells_same _ _ _ _ (by simpa using HT.out)) (Lead.of Tryd.underlying107) rfl (zkv (zck xs))) rfl ⟨rfl,?_⟩
 exact zas (Nat.le_refl _) _ _ (HBW.out.trans (hb3.mono (by omega)))
theorem ztb (A:Option Addr)(n c:Nat)(xs:List Int)(w:World)(hn:xs.length=n)(hb:n≤4000)(hx:Rd w A (nums .u8 xs))(hK:za2 w):
  Calls Lead.prog 66 #[.slice A n c] w (zq1 w (zb1 xs)):=by
 by_cases h:64<n
 ·exact zqh A n c xs w hn h hb hx hK
 ·exact zog A n c xs w hn (by omega) hx
end
section
open Go.RowKit
def tagL (key b:List Int): List Int:=sumL (zfx (zb1 key) 92++sumL (zfx (zb1 key) 54++b))
theorem zry (l:List Int)(x:Int): (zfx l x).length=l.length:=by simp [zfx]
theorem zwg (w:World)(a b:Value)(t:TypeId): (w.alloc (.cells #[a,b] t)).cell? ⟨w.heap.size,0,none⟩=some a:=by
 rw [World.cell?_alloc_at _ _ _ _ rfl];rfl
theorem zwf (w:World)(a b:Value)(t:TypeId): (w.alloc (.cells #[a,b] t)).cell? ⟨w.heap.size,1,none⟩=some b:=by
 rw [World.cell?_alloc_at _ _ _ _ rfl];rfl
theorem z0r (w:World)(l:List Int)(cs:Array Value)(t:TypeId)(h:cs=(nums .u8 l).toArray): Brow (w.alloc (.cells cs t)) w.heap.size l:=by
 rw [h];exact zh5 w l t
theorem zr2 (w:World)(cs:Array Value)(t:TypeId)(l:List Int)(hc:cs=(nums .u8 (List.replicate 64 0)).toArray)(hl:l.length=64):
  (w.alloc (.cells cs t)).there w.heap.size 0 64∧Brow ((w.alloc (.cells cs t)).setCells w.heap.size 0 (nums .u8 l)) w.heap.size l∧Below w.heap.size w ((w.alloc (.cells cs t)).setCells w.heap.size 0 (nums .u8 l))∧((w.alloc (.cells cs t)).setCells w.heap.size 0 (nums .u8 l)).heap.size=w.heap.size+1:=by
 have h0:=z0r w _ cs t hc
 have h1:(w.alloc (.cells cs t)).there w.heap.size 0 64:=h0.there 64 (by simp)
 refine ⟨h1,⟨fun j hj=>?_,fun j=>by rw [World.frozen?_setCells];exact h0.2 j⟩,zas (Nat.le_refl _) _ _ (bal brf _),by rw [zaq,World.size_alloc]⟩
 have:=World.rangeAt_setCells_same (w.alloc (.cells cs t)) w.heap.size 0 (nums .u8 l) (fun j hj=>h1 j (by simpa [nums,hl] using hj))
 have:=this j _ (za9 hj)
 rwa [Nat.zero_add] at this
set_option maxRecDepth 100000 in
set_option maxHeartbeats 400000 in
theorem zmn (A B:Option Addr)(n c m d:Nat)(key b:List Int)(w:World)(hn:key.length=n)(hm:b.length=m)(hbn:n≤4000)(hbm:m≤3000)(hx:Rd w A (nums .u8 key))(hy:Rd w B (nums .u8 b))(hK:za2 w):
  Calls Lead.prog 43 #[.slice A n c,.slice B m d] w (zgs w (tagL key b)):=by
 have hw0:0<w.heap.size:=za5 (hK 0 (by omega))
 have CB:=(ztb A n c key w hn hbn hx hK)
 have hbl:=zck key
 have ht:tagL key b=sumL (zfx (zb1 key) 92++sumL (zfx (zb1 key) 54++b)):=rfl
 obtain ⟨l,hl⟩:∃ l,l=zb1 key:=⟨_,rfl⟩
 rw [ht]
 rw [← hl] at CB hbl ⊢
 obtain ⟨cl,hcs⟩:∃ cl,cl=nums .u8 l:=⟨_,rfl⟩
 have CM:=fun (W:World) (x:Int)=>ztd l x W hbl
 rw [← hcs] at CM
 have hl2:(zfx l 54).length=64:=by rw [zry];exact hbl
 have hl1:(zfx l 92).length=64:=by rw [zry];exact hbl
 obtain ⟨k1,hk1⟩:∃ k,k=zfx l 92:=⟨_,rfl⟩
 obtain ⟨k2,hk2⟩:∃ k,k=zfx l 54:=⟨_,rfl⟩
 have CM1:=fun (W:World)=>CM W 92
 have CM2:=fun (W:World)=>CM W 54
 rw [← hk1] at CM1 hl1 ⊢
 rw [← hk2] at CM2 hl2 ⊢
 have hsl:(sumL (k2++b)).length=32:=zdk _
 obtain ⟨s1,hs1⟩:∃ s,s=sumL (k2++b):=⟨_,rfl⟩
 rw [← hs1] at hsl ⊢
 have hone:∀ v∈cl,v.oneCell'=true:=by
  rw [hcs]
  intro v hv
  obtain ⟨x,_,rfl⟩:=List.mem_map.1 hv
  rfl
 have hcl:cl.length=64:=by rw [hcs];simp [hbl]
 have hic:(Lead.prog.info? 107).map (·.size)=some cl.length:=by rw [hcs];exact zkv hbl
 have hic2:(Lead.prog.info? 107).map (·.size)=some cl.toArray.size:=by rw [List.size_toArray];exact hic
 have h1c:cl.toArray.all (·.oneCell')=true:=by rw [hcs];exact zeq l
 have HCSZ:=Lib.hid (show cl.toArray.size=64 by rw [List.size_toArray];exact hcl)
 have HIC2:=Lib.hid hic2
 have H1C:=Lib.hid h1c
 have hur:=(Lead.of Tryd.underlying107)
 have HCS:=Lib.hid hcs
 have HL1:=Lib.hid hl1
 have HL2:=Lib.hid hl2
 have HSL:=Lib.hid hsl
 have HS1:=Lib.hid hs1
 have HY:=Lib.hid hy
 have HK:=Lib.hid hK
 have HM:=Lib.hid hm
 have HBL:=Lib.hid hbl
 clear hic2 h1c CM hl1 hl2 hk1 hk2 hy hK hn hm hx ht hsl hs1 hl hbl hcs
 go_enter Lead.func43,Tryd.ntmps43
 go_wp2_with (first
  | (go_at_call 66;go_must (refine CB.mono ?_;rintro e w1 ⟨he,hb1⟩;rw [← HCS.out] at he;subst he))
  | (with_reducible show wpList _ _ _ ({ dst:=_,op:=Op.store 107 _ _,type:=_,pos:=_,after:=_,guard:=_ } :: _) _ _;go_must (refine wpList_store_mid rfl 107 _ _ rfl w1.heap.size 0 cl.toArray rfl rfl (by rw [HCSZ.out];exact (zr2 w1 _ 107 l zfh.symm HBL.out).1) HIC2.out H1C.out ?_)))
 have F:=zr2 w1 #[.int .u8 0,.int .u8 0,.int .u8 0,.int .u8 0,.int .u8 0,.int .u8 0,.int .u8 0,.int .u8 0,.int .u8 0,.int .u8 0,.int .u8 0,.int .u8 0,.int .u8 0,.int .u8 0,.int .u8 0,.int .u8 0,.int .u8 0,.int .u8 0,.int .u8 0,.int .u8 0,.int .u8 0,.int .u8 0,.int .u8 0,.int .u8 0,.int .u8 0,.int .u8 0,.int .u8 0,.int .u8 0,.int .u8 0,.int .u8 0,.int .u8 0,.int .u8 0,.int .u8 0,.int .u8 0,.int .u8 0,.int .u8 0,.int .u8 0,.int .u8 0,.int .u8 0,.int .u8 0,.int .u8 0,.int .u8 0,.int .u8 0,.int .u8 0,.int .u8 0,.int .u8 0,.int .u8 0,.int .u8 0,.int .u8 0,.int .u8 0,.int .u8 0,.int .u8 0,.int .u8 0,.int .u8 0,.int .u8 0,.int .u8 0,.int .u8 0,.int .u8 0,.int .u8 0,.int .u8 0,.int .u8 0,.int .u8 0,.int .u8 0,.int .u8 0] 107 l zfh.symm HBL.out
 rw [← HCS.out] at F
 generalize ((w1.alloc (.cells #[.int .u8 0,.int .u8 0,.int .u8 0,.int .u8 0,.int .u8 0,.int .u8 0,.int .u8 0,.int .u8 0,.int .u8 0,.int .u8 0,.int .u8 0,.int .u8 0,.int .u8 0,.int .u8 0,.int .u8 0,.int .u8 0,.int .u8 0,.int .u8 0,.int .u8 0,.int .u8 0,.int .u8 0,.int .u8 0,.int .u8 0,.int .u8 0,.int .u8 0,.int .u8 0,.int .u8 0,.int .u8 0,.int .u8 0,.int .u8 0,.int .u8 0,.int .u8 0,.int .u8 0,.int .u8 0,.int .u8 0,.int .u8 0,.int .u8 0,.int .u8 0,.int .u8 0,.int .u8 0,.int .u8 0,.int .u8 0,.int .u8 0,.int .u8 0,.int .u8 0,.int .u8 0,.int .u8 0,.int .u8 0,.int .u8 0,.int .u8 0,.int .u8 0,.int .u8 0,.int .u8 0,.int .u8 0,.int .u8 0,.int .u8 0,.int .u8 0,.int .u8 0,.int .u8 0,.int .u8 0,.int .u8 0,.int .u8 0,.int .u8 0,.int .u8 0] 107)).setCells w1.heap.size 0 cl.toArray.toList)=W2 at F ⊢
 obtain ⟨_,hBR,hb2,hz2⟩:=F
 have hz1:=hb1.size
 have hBW:Below w.heap.size w W2:=hb1.trans (hb2.mono hz1)
 have hlp:w1.heap.size<W2.heap.size:=by omega
 have HBR:=Lib.hid hBR
 have HBW:=Lib.hid hBW
 have HK2:=Lib.hid (HK.out.below hBW hw0)
 have HY2:=Lib.hid (HY.out.below hBW)
 have CH:=fun (W:World) (P0 B1 c1:Nat) (hW:Below W2.heap.size W2 W) (h0:W.cell? ⟨P0,0,none⟩=some (.slice (some ⟨B1,0,none⟩) 64 c1)) (h1:W.cell? ⟨P0,1,none⟩=some (.slice B m d)) (hr:Rd W (some ⟨B1,0,none⟩) (nums .u8 k2))=>zne P0 (some ⟨B1,0,none⟩) B 64 c1 m d k2 b W h0 h1 HL2.out HM.out hr (HY2.out.below hW) (by omega) (HK2.out.below hW (by omega))
 have CG:=fun (W:World) (P0 B1 c1 B2 c2:Nat) (hW:Below W2.heap.size W2 W) (h0:W.cell? ⟨P0,0,none⟩=some (.slice (some ⟨B1,0,none⟩) 64 c1)) (h1:W.cell? ⟨P0,1,none⟩=some (.slice (some ⟨B2,0,none⟩) 32 c2)) (hr:Rd W (some ⟨B1,0,none⟩) (nums .u8 k1)) (hs:Rd W (some ⟨B2,0,none⟩) (nums .u8 s1))=>zne P0 (some ⟨B1,0,none⟩) (some ⟨B2,0,none⟩) 64 c1 32 c2 k1 s1 W h0 h1 HL1.out HSL.out hr hs (by omega) (HK2.out.below hW (by omega))
 rw [← HS1.out] at CH
 have HCH:=Lib.hid CH
 have HCG:=Lib.hid CG
 have HBX:=bdr (brf (w:=W2))
 have HRG:=Lib.hid (fun (W:World) (hW:Below W2.heap.size W2 W)=>(show W.rangeAt w1.heap.size 0 cl by rw [HCS.out];exact (hBR.below hW hlp).range))
 have HBR0:=Lib.hid (HRG.out W2 brf)
 clear hBR hBW hb1 hb2 CB CH CG
 refine wp_region_held_drew (S:=fun W=>W.rangeAt w1.heap.size 0 cl∧Below W2.heap.size W2 W) (by kernel_rfl) ⟨HRG.out _ HBX,HBX⟩ (fun hHeld=>?_)
 refine wpAnyH_take (i:=0) (v:=_) rfl (by kernel_rfl) (by kernel_rfl) (by kernel_rfl) (fun _ _ _ h=>h) (yieldsIf_load_mid (by rfl) _ _ rfl _ _ rfl cl _ (fun W h=>h.1) hur rfl hic) (by assumption) ?_
 simp only [Act.put,List.setIfInBounds_toArray,List.set_cons_zero,List.set_cons_succ]
 refine wpAnyH_take (i:=2) (v:=_) rfl (by kernel_rfl) (by kernel_rfl) (by kernel_rfl) (fun _ _ _ h=>h) (yieldsIf_load_mid (by rfl) _ _ rfl _ _ rfl cl _ (fun W h=>h.1) hur rfl hic) (by assumption) ?_
 simp only [Act.put,List.setIfInBounds_toArray,List.set_cons_zero,List.set_cons_succ]
 refine wpAnyH_take (i:=4) (v:=?_) rfl (by kernel_rfl) (by kernel_rfl) (by kernel_rfl) (fun _ _ _ h=>h) (Or.inl ⟨by rfl,?_⟩) (by assumption) ?_
 rotate_left
 ·intro W hSw
  go_simp
  rfl
 simp only [Act.put,List.setIfInBounds_toArray,List.set_cons_zero,List.set_cons_succ]
 refine wpAnyH_ready (rs:=[1]) (by kernel_rfl) (by simp) ?_
 refine AllReadyH.cons rfl (fun K hK=>?_) AllReadyH.nil
 go_simp
 refine (CM1 _).mono ?_
 rintro e w3 ⟨B1,c1,rfl,hc1,hl1,R1,hb3⟩
 have HBX:=bgo HBX hb3
 rw [HL1.out] at hc1 ⊢
 go_wp2_with fail
 refine hK.out _ _ ?_ (fun hHeld=>?_)
 ·exact ⟨HRG.out _ HBX,HBX⟩
 clear hK K
 try simp only [Act.put,List.setIfInBounds_toArray,List.set_cons_zero,List.set_cons_succ]
 refine wpAnyH_ready (rs:=[3]) (by kernel_rfl) (by simp) ?_
 refine AllReadyH.cons rfl (fun K hK=>?_) AllReadyH.nil
 go_simp
 refine (CM2 _).mono ?_
 rintro e w4 ⟨B2,c2,rfl,hc2,hl2,R2,hb4⟩
 have HBX:=bgo HBX hb4
 rw [HL2.out] at hc2 ⊢
 have R1:=R1.below hb4
 go_wp2_with fail
 refine hK.out _ _ ?_ (fun hHeld=>?_)
 ·exact ⟨HRG.out _ HBX,HBX⟩
 clear hK K
 try simp only [Act.put,List.setIfInBounds_toArray,List.set_cons_zero,List.set_cons_succ]
 refine wpAnyH_ready (rs:=[5]) (by kernel_rfl) (by simp) ?_
 refine AllReadyH.cons rfl (fun K hK=>?_) AllReadyH.nil
 go_simp
 have HBX:=bal HBX (.cells #[.slice (some ⟨B2,0,none⟩) 64 c2,.slice B m d] 33)
 refine hK.out _ _ ?_ (fun hHeld=>?_)
 ·exact ⟨HRG.out _ HBX,HBX⟩
 clear hK K
 try simp only [Act.put,List.setIfInBounds_toArray,List.set_cons_zero,List.set_cons_succ]
 refine wpAnyH_ready (rs:=[6]) (by kernel_rfl) (by simp) ?_
 refine AllReadyH.cons rfl (fun K hK=>?_) AllReadyH.nil
 go_simp
 refine (HCH.out _ _ B2 c2 HBX (zwg _ _ _ _) (zwf _ _ _ _) (R2.below (bal brf _))).mono ?_
 rintro e w5 ⟨B3,c3,rfl,hc3,hl3,R3,hb5⟩
 have R1:=(R1.below (bal brf _)).below hb5
 have HBX:=bgo HBX hb5
 have hz5:=HBX.size
 rw [HSL.out] at hc3 ⊢
 go_wp2_with fail
 refine hK.out _ _ ?_ (fun hHeld=>?_)
 ·exact ⟨HRG.out _ HBX,HBX⟩
 clear hK K
 try simp only [Act.put,List.setIfInBounds_toArray,List.set_cons_zero,List.set_cons_succ]
 refine wpAnyH_ready (rs:=[7]) (by kernel_rfl) (by simp) ?_
 refine AllReadyH.cons rfl (fun K hK=>?_) AllReadyH.nil
 go_simp
 have HBX:=bal HBX (.cells #[.slice (some ⟨B1,0,none⟩) 64 c1,.slice (some ⟨B3,0,none⟩) 32 c3] 33)
 refine hK.out _ _ ?_ (fun hHeld=>?_)
 ·exact ⟨HRG.out _ HBX,HBX⟩
 clear hK K
 try simp only [Act.put,List.setIfInBounds_toArray,List.set_cons_zero,List.set_cons_succ]
 refine wpAnyH_ready (rs:=[8]) (by kernel_rfl) (by simp) ?_
 refine AllReadyH.cons rfl (fun K hK=>?_) AllReadyH.nil
 go_simp
 refine (HCG.out _ _ B1 c1 B3 c3 HBX (zwg _ _ _ _) (zwf _ _ _ _) (R1.below (bal brf _)) (R3.below (bal brf _))).mono ?_
 rintro e w6 ⟨B4,c4,rfl,hc4,hl4,R4,hb6⟩
 have HBX:=bgo HBX hb6
 go_wp2_with fail
 refine hK.out _ _ ?_ (fun hHeld=>?_)
 ·exact ⟨HRG.out _ HBX,HBX⟩
 clear hK K
 try simp only [Act.put,List.setIfInBounds_toArray,List.set_cons_zero,List.set_cons_succ]
 refine wpAnyH_take (i:=9) (v:=?_) rfl (by kernel_rfl) (by kernel_rfl) (by kernel_rfl) (fun _ _ _ h=>h) (Or.inl ⟨by rfl,?_⟩) (by assumption) ?_
 rotate_left
 ·intro W hSw
  go_simp
  rfl
 refine wpAnyH_done (by kernel_rfl) ?_ _
 go_simp
 go_wp2_with fail
 go_ret
 simp only [World.size_alloc] at hl4
 exact ⟨B4,c4,rfl,hc4,by omega,R4,HBW.out.trans (HBX.mono (by omega))⟩
end
section
open Go.RowKit
def xorL (a b:List Int): List Int:=(List.range a.length).map fun j=>xor8 (a.getD j 0) (b.getD j 0)
theorem zju (a b:List Int): (xorL a b).length=a.length:=by simp [xorL]
set_option maxHeartbeats 600000 in
theorem z1k (A B:Option Addr)(n c d:Nat)(xs ys:List Int)(w:World)(hn:xs.length=n)(hm:ys.length=n)(hb:n≤4000)(hp:0<n)(hx:Rd w A (nums .u8 xs))(hy:Rd w B (nums .u8 ys)):
  Calls Lead.prog 64 #[.slice A n c,.slice B n d] w fun e w'=>e=.returned (.tuple #[.slice (some ⟨w.heap.size,0,none⟩) n n,.int .i64 0])∧Brow w' w.heap.size (xorL xs ys)∧w.heap.size<w'.heap.size∧Below w.heap.size w w':=by
 obtain ⟨i0,hi,hz0,hz1,hz2⟩:=info_parts zbz
 obtain ⟨b1,o1,rfl,hl1,hx1⟩:=hx.at_ (by simp [hn];exact hp)
 obtain ⟨b2,o2,rfl,hl2,hy1⟩:=hy.at_ (by simp [hm];exact hp)
 have HX:=Lib.hid hx1
 have HY:=Lib.hid hy1
 have HN:=Lib.hid hn
 have HM:=Lib.hid hm
 clear hx hy hx1 hy1 hn hm
 go_enter Lead.func64,Tryd.ntmps64
 go_wp2_with (at_make;refine wpList_make_full _ rfl _ _ 33 rfl w.heap.size 5 i0 (.int .u8 0) 1 (Lead.of Tryd.underlying33) hi hz0 hz1 .i64 .i64 _ _ n rfl rfl (by omega) (by omega) (by rw [hz2];omega) (by unfold maxLen;omega) (Nat.le_refl _) ?_;intro w1 hown1 hgrow1)
 obtain ⟨hB1,hb1,hlw⟩:=zk0 hown1 hgrow1 hp
 have HB1:=Lib.hid hB1
 clear hown1 hgrow1 hB1 hi hz0 hz1 hz2
 go_loopw [7,18] (fun _ i wr=>∃ k:Nat,k≤n∧i=.int .i64 k∧Brow wr w.heap.size (zli (fun j=>xor8 (xs.getD j 0) (ys.getD j 0)) n k)∧w.heap.size<wr.heap.size∧Below w.heap.size w wr) (fun _ i _=>n - (intOf i).toNat)
 case atStart=>exact ⟨0,Nat.zero_le _,rfl,by rw [zow];exact HB1.out,hlw,hb1⟩
 case round =>
  obtain ⟨k,hk,rfl,hB,hl,hb4⟩:=hrel
  have r0:(0:Int)≤(k:Int):=by omega
  by_cases hlt:k<n
  ·have r1:(k:Int)<n:=by omega
   have c1:wr.cell? ⟨w.heap.size,k,none⟩=some (.int .u8 _):=hB.1 k (by rw [zhy];exact hlt)
   have f1:wr.frozen? ⟨w.heap.size,k,none⟩=false:=hB.2 _
   have c2:=(hb4.cell (p:=⟨b1,o1+k,none⟩) hl1).trans (HX.out k _ (za9 (by rw [HN.out];exact hlt)))
   have c3:=(hb4.cell (p:=⟨b2,o2+k,none⟩) hl2).trans (HY.out k _ (za9 (by rw [HM.out];exact hlt)))
   have HB:=Lib.hid hB
   clear hB
   go_wp2_with fail
   go_region
   go_wp2_with fail
   refine ⟨⟨k+1,by omega,by congr 1,?_,by show w.heap.size<(wr.setCell _ _).heap.size;rw [zah];exact hl,(hb4.setCell (p:=⟨w.heap.size,k,none⟩) (Nat.le_refl _) _).drew⟩,by show n - ((k:Int)+1).toNat<n - (k:Int).toNat;omega⟩
   have:=HB.out.set (k:=k) (xor8 (xs.getD k 0) (ys.getD k 0)) (by rw [zhy];exact hlt)
   rw [zr9 (fun j=>xor8 (xs.getD j 0) (ys.getD j 0))] at this
   exact this
  ·have hk8:k=n:=by omega
   have r1:¬ (k:Int)<n:=by omega
   rw [hk8,zox] at hB
   have e:(List.range n).map (fun j=>xor8 (xs.getD j 0) (ys.getD j 0))=xorL xs ys:=by rw [xorL,HN.out]
   rw [e] at hB
   have HB:=Lib.hid hB
   clear hB hk8 e
   go_wp2_with fail
   go_ret2
   exact ⟨rfl,HB.out,hl,hb4⟩
theorem zym (A B:Option Addr)(c d:Nat)(w:World):
  Calls Lead.prog 64 #[.slice A 0 c,.slice B 0 d] w fun e w'=>∃ A',e=.returned (.tuple #[.slice A' 0 0,.int .i64 0])∧Below w.heap.size w w':=by
 obtain ⟨i0,hi,hz0,hz1,hz2⟩:=info_parts zbz
 go_enter Lead.func64,Tryd.ntmps64
 go_wp2_with (at_make;refine wpList_make_full _ rfl _ _ 33 rfl w.heap.size 5 i0 (.int .u8 0) 1 (Lead.of Tryd.underlying33) hi hz0 hz1 .i64 .i64 _ _ 0 rfl rfl (by omega) (by omega) (by rw [hz2];omega) (by unfold maxLen;omega) (Nat.le_refl _) ?_;intro w1 hown1 hgrow1)
 have hb1:Below w.heap.size w w1:=brf.grown hgrow1 (Nat.le_refl _) (fun k e=>by cases e)
 clear hown1 hgrow1
 refine wp_loop_rounds 1 ?_
 rw [rounds_succ]
 go_wp2_with fail
 go_ret2
 exact ⟨_,rfl,hb1⟩
end
section
open Go.RowKit Go.ChangeShapes Go.WideShapes Go.ChangeAt
theorem zmf (a b:Nat)(ha:a<256)(hb:b<256): xor8 (a:Int) (b:Int)=((a ^^^ b:Nat):Int):=by
 have ha':a % 2 ^ IntKind.u8.bits=a:=Nat.mod_eq_of_lt ha
 have hb':b % 2 ^ IntKind.u8.bits=b:=Nat.mod_eq_of_lt hb
 have hx:a ^^^ b<2 ^ 8:=Nat.xor_lt_two_pow ha hb
 unfold xor8
 simp only [bits,BitVec.ofInt_natCast,BitVec.toNat_xor,BitVec.toNat_ofNat,ha',hb']
 exact IntWalk.u8_in _ (by omega)
theorem zuh (a b:Int)(ha:0≤a∧a≤255)(hb:0≤b∧b≤255): xor8 (xor8 a b) b=a∧xor8 a b=xor8 b a∧0≤xor8 a b∧xor8 a b≤255:=by
 obtain ⟨m,rfl⟩:=Int.eq_ofNat_of_zero_le ha.1
 obtain ⟨n,rfl⟩:=Int.eq_ofNat_of_zero_le hb.1
 have hm:m<256:=by omega
 have hn:n<256:=by omega
 have hx:m ^^^ n<2 ^ 8:=Nat.xor_lt_two_pow hm hn
 rw [zmf m n hm hn,zmf n m hn hm,zmf (m ^^^ n) n hx hn]
 exact ⟨by rw [Nat.xor_assoc,Nat.xor_self,Nat.xor_zero],by rw [Nat.xor_comm],by omega,by omega⟩
theorem zse {l:List Int}(h:Byt l)(j:Nat): 0≤l.getD j 0∧l.getD j 0≤255:=by
 rw [List.getD]
 by_cases hj:j<l.length
 ·rw [List.getElem?_eq_getElem hj]
  exact h _ (List.getElem_mem hj)
 ·rw [List.getElem?_eq_none (by omega)]
  exact ⟨Int.le_refl _,by decide⟩
theorem zyn {a b:List Int}(ha:Byt a)(hb:Byt b): Byt (xorL a b):=by
 intro x hx
 obtain ⟨j,_,rfl⟩:=List.mem_map.1 hx
 exact (zuh _ _ (zse ha j) (zse hb j)).2.2
theorem z1l {a b:List Int}(j:Nat)(hj:j<a.length): (xorL a b).getD j 0=xor8 (a.getD j 0) (b.getD j 0):=by
 rw [List.getD,xorL,List.getElem?_map,List.getElem?_range hj]
 rfl
theorem zsk {a b:List Int}(ha:Byt a)(hb:Byt b): xorL (xorL a b) b=a:=by
 apply List.ext_getElem?
 intro i
 by_cases hi:i<a.length
 ·rw [xorL,zju,List.getElem?_map,List.getElem?_range hi,Option.map_some,z1l i hi,(zuh _ _ (zse ha i) (zse hb i)).1,List.getD,List.getElem?_eq_getElem hi]
  rfl
 ·rw [List.getElem?_eq_none (by rw [zju,zju];omega),List.getElem?_eq_none (by omega)]
end
section
open Go.RowKit
def VRow (w:World)(B:Nat)(vs:List Value): Prop:=∀ j v,vs[j]?=some v→w.cell? ⟨B,j,none⟩=some v∧w.frozen? ⟨B,j,none⟩=false
theorem VRow.below {w w':World}{B b:Nat}{vs:List Value}(h:VRow w B vs)(hb:Below b w w')(hlt:B<b): VRow w' B vs :=
 fun j v hj=>⟨(hb.cell (p:=⟨B,j,none⟩) hlt).trans (h j v hj).1,(hb.frozen (p:=⟨B,j,none⟩) hlt).trans (h j v hj).2⟩
theorem VRow.set {w:World}{B k:Nat}{vs:List Value}(h:VRow w B vs)(u:Value): VRow (w.setCell ⟨B,k,none⟩ u) B (vs.set k u):=by
 intro j v hj
 rw [World.frozen?_setCell]
 by_cases hjk:j=k
 ·subst hjk
  rw [List.getElem?_set_self' ] at hj
  cases hx:vs[j]? with
  | none=>rw [hx] at hj;cases hj
  | some x =>
    rw [hx] at hj
    have:u=v:=by simpa using hj
    subst this
    exact ⟨zba (h j x hx).1,(h j x hx).2⟩
 ·rw [List.getElem?_set_ne (Ne.symm hjk)] at hj
  exact ⟨(zb5 (Ne.symm hjk)).trans (h j v hj).1,(h j v hj).2⟩
theorem VRow.far {w:World}{B c i:Nat}{vs:List Value}(h:VRow w B vs)(hne:c≠B)(u:Value): VRow (w.setCell ⟨c,i,none⟩ u) B vs :=
 fun j v hj=>⟨(zaa hne).trans (h j v hj).1,(World.frozen?_setCell _ _ _ _).trans (h j v hj).2⟩
theorem VRow.rd {w:World}{B:Nat}{vs:List Value}(h:VRow w B vs)(hB:B<w.heap.size): Rd w (some ⟨B,0,none⟩) vs :=
 .inr ⟨B,0,rfl,hB,fun i v hv=>by rw [Nat.zero_add];exact (h i v hv).1⟩
theorem VRow.kept {W W':World}{row:Option Nat}{B:Nat}{vs:List Value}(hg:W.grownBy W' row)(hr:∀ r,row=some r→∃ o:Obj,W.heap[r]?=some o∧o.isCells=false)(h:VRow W B vs): VRow W' B vs:=by
 intro j v hj
 obtain ⟨o,ho,hc⟩:=cells_of_cell (h j v hj).1
 have hk:W'.heap[B]?=W.heap[B]?:=grownBy_keeps_cells hg hr ho hc
 exact ⟨(World.cell?_of_block (a:=⟨B,j,none⟩) hk).trans (h j v hj).1,(World.frozen?_of_block (a:=⟨B,j,none⟩) hk).trans (h j v hj).2⟩
theorem zce {w w1:World}{e:TypeId}{m c:Nat}{z:Value}(hz:z.cells=#[z])(hown:w1.ownsRow w.heap.size e 1 (.slice (some ⟨w.heap.size,0,none⟩) m c) m (madeCells z.cells (m * 1)).toList)(hg:w.grownBy w1 none):
  VRow w1 w.heap.size (List.replicate m z)∧Below w.heap.size w w1∧w.heap.size<w1.heap.size:=by
 have hb:Below w.heap.size w w1:=brf.grown hg (Nat.le_refl _) (fun k e=>by cases e)
 refine ⟨fun j v hj=>?_,hb,(hown.lt w.heap.size rfl).2⟩
 have hj2:=hj
 rw [List.getElem?_replicate] at hj2
 split at hj2
 case isFalse=>cases hj2
 rename_i hjm
 obtain rfl:z=v:=by simpa using hj2
 refine ⟨?_,?_⟩
 ·have:=hown.cells (g:=w.heap.size) rfl j z (by
   rw [hz]
   simp [madeCells,hjm,Nat.mod_one])
  have hadd:(Addr.mk w.heap.size 0 none).add j=⟨w.heap.size,0+j,none⟩:=by
   unfold Addr.add
   by_cases h:j=0 <;> simp [h]
  rw [hadd,Nat.zero_add] at this
  exact this
 ·rcases hown.2 with ⟨h1,_⟩|⟨g,cap,cur,h1,_,hg,_⟩
  ·cases h1
  ·simp only [Value.slice.injEq,Option.some.injEq,Addr.mk.injEq] at h1
   obtain ⟨⟨rfl,_⟩,_⟩:=h1
   simp [World.frozen?,hg]
theorem zgv {F:Fence}{n:Nat}{P:Program}(w:World){ops:Array Oper}{rest:List Oper}{o:Oper}{a:Act}{Q:Exit→Act→World→Prop}(hg:o.guard=none)(l c:Operand)(t:TypeId)(hop:o.op=Op.makeSlice t l c)(base:Nat)(e:TypeId)(i:TypeInfo)(z:Value)(size:Nat)(h1:P.underlying t=some (.slice e))(h2:P.info? e=some i)(h3:i.zero=some z)(h4:i.size=size)(kl kc:IntKind)(L C:Int)(m:Nat)(hl:a.eval l=.int kl L)(hc:a.eval c=.int kc C)(hL:L=(m:Int))(hC:C=(m:Int))(b2:i.bytes * m≤281474976710656)(b3:m≤maxLen)(b4:base≤w.heap.size)(hK:∀ w',w'.ownsRow base e size (.slice (some ⟨w.heap.size,0,none⟩) m m) m (madeCells z.cells (m * size)).toList→w.grownBy w' none→wpListIn F n P ops Q rest (a.put o.dst (.slice (some ⟨w.heap.size,0,none⟩) m m)) w'):
  wpListIn F n P ops Q (o :: rest) a w:=by
 refine wpListIn_plain hg fun K hK'=>?_
 obtain ⟨w',hrun,r1,r2⟩:=run_make_full (P:=P) w base t e i z size h1 h2 h3 h4 kl kc m b2 b3 b4
 subst hL
 subst hC
 unfold Oper.wpIn
 refine ⟨?_,?_⟩
 ·simp [Oper.about,hop]
 ·rw [Oper.semAt_plain F _ _ (by rw [hop];intro c hc';cases hc')]
  simp [execOp,hop,hl,hc,hrun,Result.andThen]
  exact hK' _ _ (hK w' r1 r2)
def Box (w:World)(B:Nat)(v:Value): Prop:=w.cell? ⟨B,0,none⟩=some v∧w.frozen? ⟨B,0,none⟩=false
theorem Box.below {w w':World}{B b:Nat}{v:Value}(h:Box w B v)(hb:Below b w w')(hlt:B<b): Box w' B v :=
 ⟨(hb.cell (p:=⟨B,0,none⟩) hlt).trans h.1,(hb.frozen (p:=⟨B,0,none⟩) hlt).trans h.2⟩
theorem Box.far {w:World}{B c i:Nat}{v:Value}(h:Box w B v)(hne:c≠B)(u:Value): Box (w.setCell ⟨c,i,none⟩ u) B v :=
 ⟨(zaa hne).trans h.1,(World.frozen?_setCell _ _ _ _).trans h.2⟩
theorem Box.set {w:World}{B:Nat}{v:Value}(h:Box w B v)(u:Value): Box (w.setCell ⟨B,0,none⟩ u) B u :=
 ⟨zba h.1,(World.frozen?_setCell _ _ _ _).trans h.2⟩
theorem Box.kept {W W':World}{row:Option Nat}{B:Nat}{v:Value}(hg:W.grownBy W' row)(hr:∀ r,row=some r→∃ o:Obj,W.heap[r]?=some o∧o.isCells=false)(h:Box W B v): Box W' B v:=by
 obtain ⟨o,ho,hc⟩:=cells_of_cell h.1
 have hk:W'.heap[B]?=W.heap[B]?:=grownBy_keeps_cells hg hr ho hc
 exact ⟨(World.cell?_of_block (a:=⟨B,0,none⟩) hk).trans h.1,(World.frozen?_of_block (a:=⟨B,0,none⟩) hk).trans h.2⟩
theorem Box.alloc {w:World}{v:Value}{t:TypeId}: Box (w.alloc (.cells #[v] t)) w.heap.size v :=
 ⟨by rw [World.cell?_alloc_at _ _ _ _ rfl];rfl,by simp [go_sem]⟩
end
section
open Go.RowKit
theorem zb6 (b o j:Nat): (Addr.mk b o none).add j=⟨b,o+j,none⟩:=by
 unfold Addr.add
 by_cases h:j=0 <;> simp [h]
theorem zo8 (w:World)(vs:Array Value)(t:TypeId)(j:Nat)(u:Value)(h:vs.toList[j]?=some u): (w.alloc (.cells vs t)).cell? ((Addr.mk w.heap.size 0 none).add j)=some u:=by
 rw [zb6,Nat.zero_add,World.cell?_alloc_at _ _ _ _ rfl]
 simpa using h
theorem ziy {P:Program}{ops:Array Oper}{rest:List Oper}{o:Oper}{a:Act}{w:World}{Q:Exit→Act→World→Prop}(hgd:o.guard=none)(s x:Operand)(t:TypeId)(ho:o.op=.call { callee:=.builtin .append,args:=#[s,x],argTypes:=#[t,t] })(base:Nat)(e:TypeId)(i:TypeInfo)(z:Value)(bytes:Nat)(ht:P.underlying t=some (.slice e))(hi:P.info? e=some i)(hz:i.zero=some z)(hsize:i.size=1)(hby:i.bytes=bytes)(hzs:z.cells.size=1)(v:Value)(k:Nat)(xs:List Value)(hs:a.eval s=v)(hown:w.ownsRow base e 1 v k xs)(u:Value)(te:TypeId)(hu:u.oneCell'=true)(hx:a.eval x=.slice (some ⟨w.heap.size,0,none⟩) 1 1)(h63:k+1≤maxLen)(hbytes:(k+1) * bytes≤140737488355328)(hbase:base≤w.heap.size)(h:∀ v' w',w'.ownsRow base e 1 v' (k+1) (xs++[u])→(w.alloc (.cells #[u] te)).grownBy w' v.ownBlock→wpList P ops Q rest (a.put o.dst v') w'): wpList P ops Q (o :: rest) a (w.alloc (.cells #[u] te)) :=
 wpList_append_own _ hgd s x t ho base e i z 1 bytes ht hi hz hsize hby hzs (by decide) v k xs hs (hown.alloc _) ⟨w.heap.size,0,none⟩ 1 1 [u] hx rfl (fun j y hy=>zo8 w #[u] te j y hy) (fun y hy=>by simp at hy;rw [hy];exact hu)
  h63 hbytes (by rw [World.size_alloc];omega) (fun v' w' h1 h2 _=>h v' w' h1 h2)
theorem zjg {P:Program}(w:World)(t ty e:TypeId)(i:TypeInfo)(ht:P.underlying t=some (.slice e))(hi:P.info? e=some i)(base size c:Nat)(v:Value)(n:Nat)(xs:List Value)(hown:w.ownsRow base e size v n xs):
  (Builtin.append_ #[t,t] ty #[v,.slice none 0 c]).run P w=.ok v w:=by
 rcases hown.2 with ⟨rfl,rfl⟩|⟨g,cap,cur,rfl,_,_,hnc,_⟩
 ·simp [Builtin.append_,run_underlying ht,sizeOf,typeInfo,hi,Builtin.lenOf,Builtin.firstCells]
 ·simp [Builtin.append_,run_underlying ht,sizeOf,typeInfo,hi,Builtin.lenOf,Builtin.firstCells,hnc,storeCells]
theorem zx9 {P:Program}{ops:Array Oper}{rest:List Oper}{o:Oper}{a:Act}{w:World}{Q:Exit→Act→World→Prop}(hgd:o.guard=none)(s x:Operand)(t:TypeId)(ho:o.op=.call { callee:=.builtin .append,args:=#[s,x],argTypes:=#[t,t] })(base:Nat)(e:TypeId)(i:TypeInfo)(z:Value)(bytes:Nat)(ht:P.underlying t=some (.slice e))(hi:P.info? e=some i)(hz:i.zero=some z)(hsize:i.size=1)(hby:i.bytes=bytes)(hzs:z.cells.size=1)(v:Value)(k:Nat)(xs:List Value)(hs:a.eval s=v)(hown:w.ownsRow base e 1 v k xs)(A:Option Addr)(n c:Nat)(ys:List Value)(hx:a.eval x=.slice A n c)(hn:ys.length=n)(hr:Rd w A ys)(hy:∀ u∈ys,u.oneCell'=true)(h63:k+n≤maxLen)(hbytes:(k+n) * bytes≤140737488355328)(hbase:base≤w.heap.size)(h:∀ v' w',w'.ownsRow base e 1 v' (k+n) (xs++ys)→w.grownBy w' v.ownBlock→wpList P ops Q rest (a.put o.dst v') w'): wpList P ops Q (o :: rest) a w:=by
 have hsome:∀ ad:Addr,A=some ad→(∀ j u,ys[j]?=some u→w.cell? (ad.add j)=some u)→wpList P ops Q (o :: rest) a w:=by
  intro ad hA hc
  subst hA
  exact wpList_append_own _ hgd s x t ho base e i z 1 bytes ht hi hz hsize hby hzs (by decide) v k xs hs hown ad n c ys hx (by simp [hn]) hc hy h63 hbytes hbase (fun v' w' h1 h2 _=>h v' w' h1 h2)
 cases A with
 | some ad =>
   rcases Nat.eq_zero_or_pos n with h0|h0
   ·have:ys=[]:=List.eq_nil_of_length_eq_zero (by omega)
    subst this
    exact hsome ad rfl (fun j u hu=>by simp at hu)
   ·obtain ⟨b,off,he,hlt,hc⟩:=hr.at_ (by omega)
    cases he
    exact hsome _ rfl (fun j u hu=>by rw [zb6];exact hc j u hu)
 | none =>
   have h0:ys=[]:=by
    rcases hr with h|⟨_,_,h,_⟩
    ·exact h
    ·cases h
   subst h0
   have h0:n=0:=by simpa using hn.symm
   subst h0
   refine wpList_plain hgd fun K hK=>?_
   have hr:=zjg (P:=P) w t o.type e i ht hi base 1 c v k xs hown
   unfold Oper.wp execOp
   simp only [ho,resolve,invoke,builtin,Sem.run_bind,Sem.run_pure,Result.andThen_ok,List.map_toArray,List.map_cons,List.map_nil,hs,hx,hr]
   exact hK _ _ (h v w (by simpa using hown) (World.grownBy.refl _ _))
end
section
open Go.RowKit
theorem zgg {xs:List Int}: ∀ u∈nums .u8 xs,u.oneCell'=true:=fun u hu=>by
 obtain ⟨x,_,rfl⟩:=List.mem_map.1 hu;rfl
end
section
open Go.RowKit Go.ChangeShapes Go.WideShapes Go.ChangeAt
theorem za3 (k b:List Int): (tagL k b).length=32:=zdk _
theorem zuz (k b:List Int): Byt (tagL k b):=zq8 _
theorem zxl (A B:Option Addr)(n c m d:Nat)(xs ys:List Int)(w:World)(hn:xs.length=n)(hm:ys.length=m)(hx:Rd w A (nums .u8 xs))(hy:Rd w B (nums .u8 ys))(bx:Byt xs)(by_:Byt ys):
  Calls Lead.prog 63 #[.slice A n c,.slice B m d] w (zyk w xs ys):=by
 obtain ⟨s,hs,h1⟩:=zfu (c:=c) hx
 obtain ⟨t,ht,h2⟩:=zfu (c:=d) hy
 rw [hn] at h1
 rw [hm] at h2
 have HS:=Lib.hid hs
 have HT:=Lib.hid ht
 clear hs ht hn hm hx hy
 go_enter Lead.func63,Tryd.ntmps63
 go_wp2
 go_ret
 have e:(s.toList == t.toList)=decide (xs=ys):=by
  have HS:s=strOfNums xs:=HS
  have HT:t=strOfNums ys:=HT
  by_cases h:xs=ys
  ·subst h
   rw [HS,HT]
   simp
  ·have h3:s.toList≠t.toList:=by
    intro h4
    apply h
    apply zu3 bx by_
    rw [← HS,← HT]
    exact zo4 h4
   simp [h,h3]
 rw [e]
 exact ⟨rfl,rfl⟩
def zfd (key b tag:List Int): Int:=if tag=tagL key b then 0 else 4
theorem zo3 (A B T:Option Addr)(n c m d t f:Nat)(key b tag:List Int)(w:World)(hn:key.length=n)(hm:b.length=m)(ht:tag.length=t)(hbn:n≤4000)(hbm:m≤3000)(hx:Rd w A (nums .u8 key))(hy:Rd w B (nums .u8 b))(hz:Rd w T (nums .u8 tag))(hbt:Byt tag)(hK:za2 w):
  Calls Lead.prog 37 #[.slice A n c,.slice B m d,.slice T t f] w fun e w'=>e=.returned (.int .i64 (zfd key b tag))∧Below w.heap.size w w':=by
 have CT:=zmn A B n c m d key b w hn hm hbn hbm hx hy hK
 have HZ:=Lib.hid hz
 have HT:=Lib.hid ht
 have CE:=fun A1 c1 W (h1:Rd W T (nums .u8 tag)) (h2:Rd W A1 (nums .u8 (tagL key b)))=>zxl T A1 t f 32 c1 tag (tagL key b) W HT.out (za3 _ _) h1 h2 hbt (zuz _ _)
 by_cases he:tag=tagL key b
 ·have hv:zfd key b tag=0:=by rw [zfd,if_pos he]
  rw [hv]
  have hd:decide (tag=tagL key b)=true:=decide_eq_true he
  have HD:=Lib.hid hd
  clear hn hm ht hx hy hz he hv hd
  go_enter Lead.func37,Tryd.ntmps37
  go_wp2_with (first
   | (go_at_call 43;refine CT.mono ?_;rintro e w1 ⟨B1,c1,rfl,hc1,hl1,hr1,hb1⟩;rw [za3] at hc1 ⊢)
   | (go_at_call 63;refine (CE _ _ _ (HZ.out.below hb1) hr1).mono ?_;rintro e w2 ⟨he,rfl⟩;rw [HD.out] at he;subst he))
  go_ret
  exact ⟨rfl,hb1⟩
 ·have hv:zfd key b tag=4:=by rw [zfd,if_neg he]
  rw [hv]
  have hd:decide (tag=tagL key b)=false:=decide_eq_false he
  have HD:=Lib.hid hd
  clear hn hm ht hx hy hz he hv hd
  go_enter Lead.func37,Tryd.ntmps37
  go_wp2_with (first
   | (go_at_call 43;refine CT.mono ?_;rintro e w1 ⟨B1,c1,rfl,hc1,hl1,hr1,hb1⟩;rw [za3] at hc1 ⊢)
   | (go_at_call 63;refine (CE _ _ _ (HZ.out.below hb1) hr1).mono ?_;rintro e w2 ⟨he,rfl⟩;rw [HD.out] at he;subst he))
  go_ret
  exact ⟨rfl,hb1⟩
theorem za2.le {w:World}(h:za2 w): 0<w.heap.size:=za5 (h 0 (by omega))
theorem za2.go {w w':World}(h:za2 w)(hb:Below w.heap.size w w'): za2 w':=h.below hb h.le
end
section
open Go.RowKit
section
variable {F:Fence} {n:Nat} {P:Program} {α β:Type}
def zyg (F:Fence)(n:Nat)(P:Program)(g:Nat)(lb:Array Value)(encs:α→Array Value)(Good:α→World→Prop)(Kp:World→World→Prop)(S:List α→Prop)(N:Nat)(w:World): Prop :=
 ∀ (l:Nat) (J:List α→World→Prop) (W:World),Below w.heap.size w W→AbidesFrom W.heap.size J →
  (∀ pre x W1,J pre W1→Good x W1→pre.length<N→YieldAt F (n - 1) P l (encs x) W1 fun e W'=>e=.returned (.bool true)∧J (pre++[x]) W'∧Kp W1 W') →
  J [] W →
  CallsIn F n P g (#[.func (.yield l) #[] #[]]++lb) W fun e W'=>(∃ v,e=.returned v)∧∃ xs,S xs∧J xs W'
def zw9 (Kp:World→World→Prop)(I:β→World→Prop)(xs:β)(W:World): Exit→Act→World→Prop
 | .normal,_,W'=>KeepsOthers W W'∧Kp W W'∧I xs W'
 | _,_,_=>False
def zgt (l D:Nat)(r:Loop)(W:World): Prop:=W.heap[l]?=some (.loop r)∧W.heap[D]?=some (.deferred (some []))
theorem zgt.grown {l D:Nat}{r:Loop}{W W':World}{row:Option Nat}(h:zgt l D r W)(hg:W.grownBy W' row)(hr:∀ k,row=some k→∃ o:Obj,W.heap[k]?=some o∧o.isWalk=true): zgt l D r W' :=
 ⟨(grownBy_keeps hg hr h.1 rfl).trans h.1,(grownBy_keeps hg hr h.2 rfl).trans h.2⟩
theorem zs2 {l D m:Nat}{r:Loop}{W:World}{args:Array Value}{a1:Act}{Post:World→Prop}(hne:D≠l)(hfn:F.fn r.fn)(hst:r.state=.ready)(hpe:r.pending=none)(hsz:args.size=r.params.size)(hR:zgt l D r W)(hassign:∀ K:Act→World→Prop,K a1 W→r.assign.wpIn (F.inRound l) m P (Exit.then K (fun _ _ _=>False)) { tmps:=(r.params.zip args).foldl (fun t (p,v)=>t.setIfInBounds p v) r.tmps,defers:=[] } W)(hbody:r.body.wpIn (F.inRound l) m P (zw9 (fun _ _=>True) (fun (_:Unit) W'=>Post W') () (W.putObj l (.loop { r with state:=.busy }))) a1 (W.putObj l (.loop { r with state:=.busy }))):
  YieldAt F m P l args W fun e W'=>e=.returned (.bool true)∧∃ W3,Post W3∧W3.heap[l]?=some (.loop { r with state:=.busy })∧W'=W3.putObj l (.loop r)∧zgt l D r W':=by
 have hlt:l<W.heap.size:=(Array.getElem?_eq_some_iff.1 hR.1).1
 refine ⟨r.fn,_,r.assign,r.body,run_yield hR.1 hsz,roundIn_of_wpIn hfn (hassign _ ⟨_,run_beginRound hR.1 hst,wpIn_mono hbody ?_⟩)⟩
 intro e a3 W3 hp
 cases e with
 | normal =>
   obtain ⟨hk,_,hp⟩:=hp
   have hl3:=hk.same l _ (World.putObj_heap_same hlt) rfl
   have hd3:=hk.same D (.deferred (some [])) ((World.putObj_heap_other hne).trans hR.2) rfl
   have hend:=run_endRound (P:=P) none hl3
   have hrr:({ ({ r with state:=.busy }:Loop) with state:=(if (none:Option Code).isNone then LoopState.ready else .done),pending:=none }:Loop)=r:=by
    cases r;simp at hst hpe;subst hst;subst hpe;rfl
   rw [hrr] at hend
   exact ⟨_,_,hend,rfl,W3,hp,hl3,rfl,World.putObj_heap_same (Array.getElem?_eq_some_iff.1 hl3).1,(World.putObj_heap_other hne).trans hd3⟩
 | _=>exact hp.elim
theorem zf9 {g:Operand}{ps:Array Tmp}{assign body:Code}{Q:Exit→Act→World→Prop}{a:Act}{w:World}(hro:F.round=none)(h1:1≤n){gf:Nat}{lb:Array Value}(hg:a.eval g=.func (.func gf) #[] lb)(hFg:F.fn gf)(eg:∀ args w,(callFunc gf args).run P w=.ok (.enter gf args) w){encs:α→Array Value}{Good:α→World→Prop}{Kp:World→World→Prop}{S:List α→Prop}{N:Nat}(hseq:zyg F (n - 1) P gf lb encs Good Kp S N w)(hKt:∀ {A B C:World},Kp A B→Kp B C→Kp A C)(hKb:∀ (W:World) (l:Nat) (o o':Obj),w.heap.size≤l→W.heap[l]?=some o→o.isCells=false→o.isWalk=false→Kp W (W.putObj l o'))(hGb:∀ (x:α) (W:World) (l:Nat) (o o':Obj),Good x W→W.heap[l]?=some o→o.isCells=false→Good x (W.putObj l o'))(hps:∀ x,(encs x).size=ps.size)(I:List α→World→Prop)(hI:OwnFrom w.heap.size I)(h0:I [] w)(a₁:α→Act)(hassign:∀ (l:Nat) (x:α) (W:World) (K:Act→World→Prop),K (a₁ x) W →
   assign.wpIn (F.inRound l) (n - 1 - 1) P (Exit.then K (fun _ _ _=>False)) { tmps:=(ps.zip (encs x)).foldl (fun t (p,v)=>t.setIfInBounds p v) a.tmps,defers:=[] } W)(hbody:∀ (l:Nat) (pre:List α) (x:α) (W:World),I pre W→Good x W→pre.length<N→body.wpIn (F.inRound l) (n - 1 - 1) P (zw9 Kp I (pre++[x]) W) (a₁ x) W)(hdone:∀ (D:Nat) (xs:List α) (W:World),w.heap.size≤D→S xs→I xs W→W.heap[D]?=some (.deferred (some []))→Q .normal { a with defers:={ target:=.collected D,args:=#[] } :: a.defers } W):
  (Code.rangeFunc g ps assign body).wpIn F n P Q a w:=by
 refine wpIn_rangeFunc fun fn hfn=>?_
 obtain ⟨D,hD⟩:∃ D,D=w.heap.size:=⟨_,rfl⟩
 obtain ⟨r,hr⟩:∃ r:Loop,r={ state:=.ready,pending:=none,fn,tmps:=a.tmps,params:=ps,assign,body,defers:=D }:=⟨_,rfl⟩
 have hst:r.state=.ready:=by rw [hr]
 have hpe:r.pending=none:=by rw [hr]
 have henter:=run_enterLoop_outer (P:=P) (w:=w) fn a.tmps ps assign body
 rw [← hD,← hr] at henter
 obtain ⟨W1,hW1⟩:∃ W1,W1=(w.alloc (.deferred (some []))).alloc (.loop r):=⟨_,rfl⟩
 rw [← hW1] at henter
 have hb1:Below w.heap.size w W1:=by rw [hW1];exact ((Below.refl _ w).alloc (Nat.le_refl _) _).alloc (by simp) _
 have hB1:zgt (D+1) D r W1:=by
  rw [hW1,hD]
  refine ⟨?_,(Below.heap_alloc _ _ _ (by simp)).trans (World.alloc_heap_new w _)⟩
  have:=World.alloc_heap_new (w.alloc (.deferred (some []))) (.loop r)
  rwa [World.size_alloc] at this
 have hI1:I [] W1:=by rw [hW1];exact hI.alloc _ (hI.alloc _ h0)
 have hz1:W1.heap.size=D+2:=by rw [hW1,World.size_alloc,World.size_alloc,hD]
 refine ⟨D+1,_,W1,{ target:=.fn (.func gf) lb,args:=#[.func (.yield (D+1)) #[] #[]] },W1,gf,#[.func (.yield (D+1)) #[] #[]]++lb,W1,by rw [hro];exact henter,?_,?_,?_,fun _=>h1,?_⟩
 ·simp only [resolve,hg]
  simp [go_sem]
 ·intro f' hf'
  simp [Target.leads] at hf'
  subst hf'
  exact hFg
 ·simp [invoke,go_sem,eg]
 refine (hseq (D+1) (fun pre W=>I pre W∧zgt (D+1) D r W) W1 hb1 ?_ ?_ ⟨hI1,hB1⟩).mono ?_
 ·intro s A B row hs hg' hr'
  exact ⟨hI s A B row hs.1 hg' (fun k e=>by
   obtain ⟨h2,o,h3,h4⟩:=hr' k e
   exact ⟨by omega,o,h3,Obj.not_cells_of_walk h4⟩),hs.2.grown hg' (fun k e=>(hr' k e).2)⟩
 ·rintro pre x W ⟨hi,hb⟩ hgood hlen
  have hi2:=hI.putObj (.loop { r with state:=.busy }) hi (show w.heap.size≤D+1 by omega) hb.1 rfl
  have hg2:=hGb x W (D+1) _ (.loop { r with state:=.busy }) hgood hb.1 rfl
  have hk2:=hKb W (D+1) _ (.loop { r with state:=.busy }) (by omega) hb.1 rfl rfl
  have hbd:=hbody (D+1) pre x _ hi2 hg2 hlen
  have key:=zs2 (F:=F) (P:=P) (m:=n - 1 - 1) (args:=encs x) (a1:=a₁ x) (Post:=fun W3=>Kp (W.putObj (D+1) (.loop { r with state:=.busy })) W3∧I (pre++[x]) W3) (show D≠D+1 by omega) (by rw [hr];exact hfn) hst hpe (by rw [hr];exact hps x) hb
   (by rw [hr];exact fun K hK=>hassign (D+1) x W K hK)
   (by
    subst hr
    refine wpIn_mono hbd fun e a3 W3 hp=>?_
    cases e with
    | normal=>exact ⟨hp.1,trivial,hp.2.1,hp.2.2⟩
    | _=>exact hp.elim)
  obtain ⟨fn',tm',as',bo',hy,hround⟩:=key
  refine ⟨fn',tm',as',bo',hy,hround.mono ?_⟩
  rintro e W' ⟨rfl,W3,⟨hk3,hi3⟩,hl3,rfl,hb3⟩
  exact ⟨rfl,⟨hI.putObj _ hi3 (show w.heap.size≤D+1 by omega) hl3 rfl,hb3⟩,hKt (hKt hk2 hk3) (hKb W3 (D+1) _ _ (by omega) hl3 rfl rfl)⟩
 ·rintro e W2 ⟨⟨v,rfl⟩,xs,hS,hi,hb⟩
  have hend:=run_endLoop (P:=P) hb.1 (by rw [hst];simp)
  rw [hpe] at hend
  exact ⟨none,_,hend,hdone D xs _ (by omega) hS (hI.putObj _ hi (by omega) hb.1 rfl) ((World.putObj_heap_other (by omega)).trans hb.2)⟩
end
end
section
open Go.RowKit
def zgh (ops:Array Oper): Bool:=ops.all fun o=>match o.op with|.defer _=>false|_=>true
theorem zi9 {ops:Array Oper}(h:zgh ops=true)(j:Nat)(o:Oper)(ho:ops[j]?=some o): ∀ c,o.op≠.defer c:=by
 intro c heq
 have hm:=Array.mem_of_getElem? ho
 have:=Array.all_eq_true_iff_forall_mem.1 h o hm
 simp [heq] at this
section
variable {P:Program} {ops:Array Oper} {md:Region.Mode} {w:World} {l n:Nat}
theorem Oper.wpIn_of_still {o:Oper}{a:Act}{K:Act→Prop}{K':Act→World→Prop}{Q':Exit→Act→World→Prop}(hnd:∀ c,o.op≠.defer c)(h:∀ a,K a→K' a w)(hh:o.still P a w K):
  o.wpIn (Fence.wide.inRound l) n P a w K' Q':=by
 unfold Oper.still at hh
 unfold Oper.wpIn
 refine ⟨fun _ _=>trivial,?_⟩
 rw [Oper.semAt_plain _ _ _ hnd]
 generalize (execOp a.eval o).run P w=r at *
 cases r with
 | ok x w' =>
   cases x <;> simp only [Oper.stillUpon] at hh <;> simp only [Oper.uponIn]
   case enter f args =>
    obtain ⟨rfl,v,hc,hn⟩:=hh
    refine ⟨fun h=>by simp [Fence.wide,Fence.inRound] at h,(CallsIn.inRound l (callsIn_wide.2 hc)).mono fun e w'' ⟨he,hw⟩=>?_⟩
    subst he;subst hw;exact h _ hn
   all_goals (obtain ⟨rfl,h2⟩:=hh;exact h _ h2)
 | halt x w'=>simp only [Oper.stillUpon] at hh
theorem zlc {i:Nat}{a:Act}{K:Act→Prop}{K':Act→World→Prop}{Q':Exit→Act→World→Prop}(hnd:zgh ops=true)(h:∀ a,K a→K' a w)(hh:stOp P ops w i K a): wpOpIn (Fence.wide.inRound l) n P ops Q' i K' a w:=by
 unfold stOp at hh
 unfold wpOpIn
 split
 ·rename_i ho;simp only [ho] at hh;exact h _ hh
 ·rename_i o ho
  simp only [ho] at hh
  split
  ·rename_i hw;simp only [hw,if_true] at hh;exact Oper.wpIn_of_still (zi9 hnd _ _ ho) h hh
  ·rename_i hw;simp only [hw] at hh;exact ⟨fun _ _=>trivial,h _ hh⟩
theorem ze0 {m g:Nat}{L:Array Bool→Act→Prop}{Q':Exit→Act→World→Prop}(hnd:zgh ops=true)(hL:∀ listed a,L listed a→wpAnyIn (Fence.wide.inRound l) n P md ops Q' g listed a w):
  ∀ (f:Nat) (listed:Array Bool) (a:Act),wpAnyL P md ops w m L f listed a→wpAnyIn (Fence.wide.inRound l) n P md ops Q' (f+g) listed a w
 | 0,listed,a,h=>by rw [Nat.zero_add];exact hL _ _ h
 | f+1,listed,a,h=>by
   rw [show f+1+g=(f+g)+1 by omega]
   exact ⟨fun h0=>absurd h0 h.1,fun i hi=>zlc hnd (fun a' h'=>ze0 hnd hL f _ a' h') (h.2 i hi).2⟩
theorem zfy {F:Fence}{Q':Exit→Act→World→Prop}: ∀ (l:List Oper) (k:Nat) (listed:Array Bool) (a:Act) (w:World),(∀ j,l[j]?=ops[k+j]?) →
  Region.seqB md ops l.length k listed=true→wpListIn F n P ops Q' l a w→wpAnyIn F n P md ops Q' l.length listed a w
 | [],_,_,_,_,_,hB,h=>⟨by simpa [Region.seqB] using hB,h⟩
 | o :: l,k,listed,a,w,hl,hB,h=>by
   have h0:ops[k]?=some o:=by simpa using (hl 0).symm
   simp only [List.length_cons,Region.seqB,Bool.and_eq_true,decide_eq_true_eq] at hB
   refine ⟨fun h1=>(by rw [hB.1] at h1;cases h1),fun i hi=>?_⟩
   rw [hB.1] at hi
   have hik:i=k:=by simpa using hi
   subst hik
   have hw:wpOpIn F n P ops Q' i (wpListIn F n P ops Q' l) a w:=by unfold wpOpIn;simp only [h0];exact h
   exact wpOpIn_mono (fun a' w' h'=>zfy l (i+1) _ a' w' (fun j=>by have:=hl (j+1);simpa [Nat.add_assoc,Nat.add_comm 1 j] using this) hB.2 h') hw
theorem zdz {id:Nat}{Q:Exit→Act→World→Prop}{a:Act}{w:World}{L:List Oper}(m:Nat)(hm:P.follows .mixedOrders=true)(hB:Region.lexTailB .any L.toArray m=true)(hnd:zgh L.toArray=true)(h:wpStill P L.toArray w.drew (fun a'=>wpListIn (Fence.wide.inRound l) n P L.toArray Q (L.drop m) a' w.drew) (L.take m) a): (Code.region id L.toArray true).wpIn (Fence.wide.inRound l) n P Q a w:=by
 simp only [Region.lexTailB,Bool.and_eq_true,decide_eq_true_eq] at hB
 obtain ⟨⟨⟨⟨hsel,hn⟩,hs⟩,hc⟩,hlex⟩:=hB
 have hn':m<L.length:=by simpa using hn
 have htl:(L.take m).length=m:=by simp;omega
 have hdl:(L.drop m).length=L.toArray.size - m:=by simp
 have inv0:HeadInv .any L.toArray m (Array.replicate L.toArray.size false) :=
  ⟨by simp,fun j oj _ hl=>(by rw [getD_replicate_false] at hl;cases hl),fun t _ ht=>getD_in (by simpa using ht) (getD_replicate_false _ _)⟩
 have H:=wpAnyL_lex (md:=.any) (g:=L.toArray.size - m) hsel hs hc hn (L.take m) 0 _ a (fun j hj=>by
  have hj':j<m:=by rw [htl] at hj;exact hj
  simp [hj']) (by simpa using htl) inv0 (by rw [htl];exact hlex) h
 refine wpIn_region_any hm ?_
 have:=ze0 (l:=l) (n:=n) (Q':=Q) (g:=L.toArray.size - m) hnd (fun listed a' hL=>by
  have:=zfy (n:=n) (F:=Fence.wide.inRound l) (md:=.any) (Q':=Q) (L.drop m) m listed a' w.drew (fun j=>by simp [List.getElem?_drop]) (by rw [hdl];exact hL.1) hL.2
  rwa [hdl] at this) _ _ _ H
 rw [htl,show m+(L.toArray.size - m)=L.toArray.size by omega] at this
 exact this
theorem zlb {i:Nat}{a:Act}{K K':Act→World→Prop}{Q':Exit→Act→World→Prop}(hnd:zgh ops=true)(hno:¬ LetsOut Q')(h:∀ a w,K a w→K' a w)(hh:wpOp P ops Q' i K a w): wpOpIn (Fence.wide.inRound l) n P ops Q' i K' a w:=by
 unfold wpOp at hh
 unfold wpOpIn
 split
 ·rename_i ho;simp only [ho] at hh;exact h _ _ hh
 ·rename_i o ho
  simp only [ho] at hh
  split
  ·rename_i hw
   simp only [hw,if_true] at hh
   rcases hh with hh|⟨_,hh⟩
   ·unfold Oper.wp at hh
    unfold Oper.wpIn
    refine ⟨fun _ _=>trivial,?_⟩
    rw [Oper.semAt_plain _ _ _ (zi9 hnd _ _ ho)]
    generalize (execOp a.eval o).run P w=r at *
    have hd:∀ {m:Nat},((Fence.wide.inRound l).depth.isSome=true→1≤m):=fun h=>by simp [Fence.wide,Fence.inRound] at h
    cases r with
    | ok x w' =>
      cases x <;> simp only [Oper.upon] at hh <;> simp only [Oper.uponIn]
      case value v=>exact h _ _ hh
      case skip=>exact h _ _ hh
      case defer d=>exact h _ _ hh
      case enter f args =>
       refine ⟨hd,(CallsIn.inRound l (callsIn_wide.2 hh)).mono fun e w'' he=>?_⟩
       cases e with
       | returned v=>exact h _ _ he
       | panicked c=>exact he
       | outgrown=>exact he
      case row row args =>
       refine ⟨hd,fun c cs _=>?_⟩
       obtain ⟨v,w'',r,s⟩:=hh c cs
       exact ⟨v,w'',h _ _ r,stepsIn_wide.2 s⟩
    | halt x w' =>
      cases x <;> simp only [Oper.upon] at hh <;> simp only [Oper.uponIn]
      case panic v=>exact hh
   ·exact absurd hh hno
  ·rename_i hw
   simp only [hw] at hh
   exact ⟨fun _ _=>trivial,h _ _ hh⟩
theorem zeu {Q':Exit→Act→World→Prop}(hnd:zgh ops=true)(hno:¬ LetsOut Q'): ∀ (fuel:Nat) (listed:Array Bool) (a:Act) (w:World),wpAny P md ops Q' fuel listed a w→wpAnyIn (Fence.wide.inRound l) n P md ops Q' fuel listed a w
 | 0,listed,a,w,h=>h
 | fuel+1,listed,a,w,h=>⟨h.1,fun i hi=>zlb hnd hno (fun a' w' h'=>zeu hnd hno fuel _ a' w' h') (h.2 i hi)⟩
theorem zbk {id:Nat}{Q:Exit→Act→World→Prop}{a:Act}{w:World}{ops:Array Oper}(S:World→Prop)(hm:P.follows .mixedOrders=true)(hnd:zgh ops=true)(hno:¬ LetsOut Q)(hS:S w.drew)(h:S w.drew→wpAnyH P .any ops Q S ops.size (Array.replicate ops.size false) a w.drew): (Code.region id ops true).wpIn (Fence.wide.inRound l) n P Q a w :=
 wpIn_region_any hm (zeu hnd hno _ _ _ _ (wpAny_of_held _ _ _ _ (h hS)))
end
end
section
open Go.RowKit Go.Shelf
attribute [local go_sem] Oper.semAt_some
def numL (v:Nat): List Int:=zgc v 8
theorem zjo (v:Nat): (numL v).length=8:=by simp [numL,zgc]
def ztm (key:List Int)(k:Nat): List Int:=sumL (key++numL k)
theorem zoo (key:List Int)(k:Nat): (ztm key k).length=32:=zdk _
set_option maxHeartbeats 1000000 in
theorem zs8 (v:Nat)(w:World)(hv:v<18446744073709551616):
  Calls Lead.prog 75 #[.int .u64 v] w (zgs w (numL v)):=by
 obtain ⟨i0,hi,hz0,hz1,hz2⟩:=info_parts zbz
 go_enter Lead.func75,Tryd.ntmps75
 go_wp2_with (at_make;refine wpList_make_full _ rfl _ _ 33 rfl w.heap.size 5 i0 (.int .u8 0) 1 (Lead.of Tryd.underlying33) hi hz0 hz1 .i64 .i64 _ _ 8 rfl rfl rfl rfl (by rw [hz2];omega) (by unfold maxLen;omega) (Nat.le_refl _) ?_;intro w1 hown1 hgrow1)
 obtain ⟨hrow1,hb1,hl1⟩:=zce rfl hown1 hgrow1
 have HR:=Lib.hid hrow1
 clear hown1 hgrow1 hrow1 hi hz0 hz1 hz2
 go_loopw [8] (fun i wr=>∃ k:Nat,k≤8∧i=.int .i64 k∧VRow wr w.heap.size (nums .u8 (zgc v k++List.replicate (8 - k) 0))∧w.heap.size<wr.heap.size∧Below w.heap.size w wr) (fun i _=>8 - (intOf i).toNat)
 case atStart=>exact ⟨0,Nat.zero_le _,rfl,by simpa [zgc,nums] using HR.out,hl1,hb1⟩
 case round =>
  obtain ⟨k,hk,rfl,hrow,hl,hb⟩:=hrel
  have r0:(0:Int)≤k:=by omega
  by_cases hlt:k<8
  ·have r1:(k:Int)<8:=by omega
   have hlen:(zgc v k++List.replicate (8 - k) (0:Int)).length=8:=by simp [zgc];omega
   obtain ⟨ck,fk⟩:=hrow k _ (za9 (by rw [hlen];exact hlt))
   have hset:(zgc v k++List.replicate (8 - k) (0:Int)).set k (((v / 2 ^ (56 - 8 * k)) % 256:Nat):Int)=zgc v (k+1)++List.replicate (8 - (k+1)) 0:=by
    obtain ⟨m,hm⟩:∃ m,8 - k=m+1:=⟨8 - k - 1,by omega⟩
    have hl8:(zgc v k).length=k:=by simp [zgc]
    rw [hm,show 8 - (k+1)=m by omega,List.replicate_succ,List.set_append_right _ _ (by omega),hl8,Nat.sub_self,zss]
    simp
   have hst:=hrow.set (k:=k) (.int .u8 (((v / 2 ^ (56 - 8 * k)) % 256:Nat):Int))
   rw [show (nums .u8 (zgc v k++List.replicate (8 - k) (0:Int))).set k (.int .u8 (((v / 2 ^ (56 - 8 * k)) % 256:Nat):Int))=nums .u8 ((zgc v k++List.replicate (8 - k) (0:Int)).set k (((v / 2 ^ (56 - 8 * k)) % 256:Nat):Int)) by simp [nums,List.map_set],hset] at hst
   have HST:=Lib.hid hst
   have he:((v:Int) / 2 ^ (56 - 8 * k) % 256)=((v / 2 ^ (56 - 8 * k) % 256:Nat):Int):=by rw [Int.natCast_emod,Int.natCast_ediv,Int.natCast_pow];rfl
   have HE:=Lib.hid he
   clear hst hset hlen hrow he
   go_wp2_with fail
   rw [HE.out]
   exact ⟨⟨k+1,by omega,by congr 1,HST.out,by rw [zah];exact hl,hb.setCell (p:=⟨w.heap.size,k,none⟩) (Nat.le_refl _) _⟩,by show 8 - ((k:Int)+1).toNat<8 - (k:Int).toNat;omega⟩
  ·have hk8:k=8:=by omega
   subst hk8
   have HRD:=Lib.hid (hrow.rd hl)
   clear hrow
   go_wp2_with fail
   go_ret
   have:=HRD.out
   rw [Nat.sub_self,List.replicate_zero,List.append_nil] at this
   exact ⟨w.heap.size,8,by rw [zjo];rfl,by rw [zjo];omega,Nat.le_refl _,this,hb⟩
theorem ztl (a:Option Addr)(len cap:Nat)(n:Int)(w:World):
  Calls Lead.prog 65 #[.slice a len cap,.int .i64 n] w fun e w'=>e=.returned (.func (.func 74) #[] #[.pointer (some ⟨w.heap.size+1,0,none⟩),.pointer (some ⟨w.heap.size,0,none⟩)])∧w'=(w.alloc (.cells #[.slice a len cap] 33)).alloc (.cells #[.int .i64 n] 3):=by
 go_enter Lead.func65,Tryd.ntmps65
 go_wp2_with fail
 go_ret
 refine ⟨?_,rfl⟩
 simp
def Env (bk bn:Nat)(A:Option Addr)(n c:Nat)(N:Int)(key:List Int)(W:World): Prop :=
 W.cell? ⟨bk,0,none⟩=some (.slice A n c)∧W.cell? ⟨bn,0,none⟩=some (.int .i64 N)∧Rd W A (nums .u8 key)∧za2 W
theorem Env.below {bk bn:Nat}{A:Option Addr}{n c:Nat}{N:Int}{key:List Int}{W W':World}(h:Env bk bn A n c N key W)(hb:Below W.heap.size W W'): Env bk bn A n c N key W' :=
 ⟨(hb.cell (p:=⟨bk,0,none⟩) (za5 h.1)).trans h.1,(hb.cell (p:=⟨bn,0,none⟩) (za5 h.2.1)).trans h.2.1,h.2.2.1.below hb,h.2.2.2.go hb⟩
theorem Rd.kept {W W':World}{row:Option Nat}{A:Option Addr}{vs:List Value}(hg:W.grownBy W' row)(hr:∀ r,row=some r→∃ o:Obj,W.heap[r]?=some o∧o.isCells=false)(h:Rd W A vs): Rd W' A vs:=by
 rcases h with h|⟨b,o,hA,hlt,hc⟩
 ·exact .inl h
 ·exact .inr ⟨b,o,hA,Nat.lt_of_lt_of_le hlt hg.size,fun i v hv=>cell_kept (hc i v hv) hg hr⟩
theorem Env.kept {bk bn:Nat}{A:Option Addr}{n c:Nat}{N:Int}{key:List Int}{W W':World}{row:Option Nat}(hg:W.grownBy W' row)(hr:∀ r,row=some r→∃ o:Obj,W.heap[r]?=some o∧o.isCells=false)(h:Env bk bn A n c N key W): Env bk bn A n c N key W' :=
 ⟨cell_kept h.1 hg hr,cell_kept h.2.1 hg hr,h.2.2.1.kept hg hr,h.2.2.2.kept hg hr⟩
theorem zlh {W W':World}(hb:Below W.heap.size W W'): W.grownBy W' none:=⟨hb.os,hb.tape,hb.output,hb.size,fun k hk _=>hb.block k hk⟩
abbrev Hsh:=Nat×Nat×Nat
def hEnc (x:Hsh): Array Value:=#[.slice (some ⟨x.2.1,0,none⟩) 32 x.2.2]
def z0b (key:List Int)(x:Hsh)(W:World): Prop:=Rd W (some ⟨x.2.1,0,none⟩) (nums .u8 (ztm key x.1))∧32≤x.2.2
theorem z0b.kept {key:List Int}{x:Hsh}{W W':World}{row:Option Nat}(hg:W.grownBy W' row)(hr:∀ r,row=some r→∃ o:Obj,W.heap[r]?=some o∧o.isCells=false)(h:z0b key x W): z0b key x W':=⟨h.1.kept hg hr,h.2⟩
set_option maxRecDepth 100000 in
set_option maxHeartbeats 2000000 in
theorem zon (n:Nat)(hn:2≤n)(bk bn:Nat)(A:Option Addr)(kn c:Nat)(N q:Nat)(key:List Int)(hkn:key.length=kn)(hk:kn≤3000)(hq1:32 * q<N+32)(hq2:N≤32 * q)(hN:N≤1048576)(w:World)(hE:Env bk bn A kn c N key w):
  zyg Fence.wide n Lead.prog 74 #[.pointer (some ⟨bn,0,none⟩),.pointer (some ⟨bk,0,none⟩)] hEnc (z0b key) (fun X Y=>Env bk bn A kn c N key X→Env bk bn A kn c N key Y) (fun xs=>xs.map (·.1)=List.range q) q w:=fun l J W hW hJ hY h0=>by
 have hEW:=hE.below hW
 have HKN:=Lib.hid hkn
 have mixed:Lead.prog.follows .mixedOrders=true:=by kernel_rfl
 clear hE hkn
 refine callsIn_of_wp Lead.func74 rfl trivial ?_ rfl
 simp only [Tryd.ntmps74,List.size_toArray,List.length_cons,List.length_nil,Nat.reduceAdd,Nat.reduceSub,Array.replicate_succ,Array.replicate_zero,List.push_toArray,List.append_toArray,List.nil_append,List.cons_append]
 have hn1:1≤n - 1:=by omega
 have hn2:1≤n:=by omega
 have HE:=Lib.hid hEW
 clear hEW
 gi_wp2
 gi_loopw [4] (fun i wr=>∃ (k:Nat) (xs:List Hsh),k≤q∧Hid (xs.map (·.1)=List.range k)∧i=.int .i64 k∧J xs wr∧Hid (Env bk bn A kn c N key wr))
  (fun i _=>q - (intOf i).toNat)
 case atStart=>exact ⟨0,[],Nat.zero_le _,Lib.hid rfl,rfl,h0,HE⟩
 case round =>
  obtain ⟨k,xs,hkq,HXS,rfl,hJx,HE2⟩:=hrel
  have cbn:=HE2.out.2.1
  by_cases hlt:k<q
  ·have r1:(k:Int) * 32<N:=by omega
   have cbk:=HE2.out.1
   have hxl:xs.length<q:=by
    have:=congrArg List.length HXS.out
    simp at this
    omega
   have CN:=fun W'=>zs8 k W' (by omega)
   have hu64:IntKind.u64.wrap (k:Int)=k:=IntWalk.u64_in _ (by omega)
   have CH:=fun W' P0 B1 c1 (hp0:W'.cell? ⟨P0,0,none⟩=some (.slice A kn c)) (hp1:W'.cell? ⟨P0,1,none⟩=some (.slice (some ⟨B1,0,none⟩) 8 c1)) hx hy hK=>zne P0 A (some ⟨B1,0,none⟩) kn c 8 c1 key (numL k) W' hp0 hp1 HKN.out (zjo k) hx hy (by omega) hK
   have HJ:=Lib.hid hJ
   have HY:=Lib.hid hY
   have HJX:=Lib.hid hJx
   clear hJ hY hJx
   gi_wp2
   gi_region_with_o (first
    | (refine ⟨trivial,?_⟩;gi_at_call 75;refine (callsIn_wide.2 (CN _)).mono ?_;rintro e w1 ⟨B1,c1,rfl,hc1,hl1,hr1,hb1⟩;rw [zjo] at hc1 ⊢;have hw1:=bgo (bdr (brf (w:=wr))) hb1;have hE1:=HE2.out.below hw1;have cbk1:=hE1.1;have HE3:=Lib.hid hE1;clear hE1)
    | (refine ⟨trivial,?_⟩;gi_at_call 67;refine (callsIn_wide.2 (CH _ _ B1 c1 (zwg _ _ _ _) (zwf _ _ _ _) (HE3.out.below (bal brf _)).2.2.1 (hr1.below (bal brf _)) (HE3.out.below (bal brf _)).2.2.2)).mono ?_;rintro e w2 ⟨B2,c2,rfl,hc2,hl2,hr2,hb2⟩;rw [zdk] at hc2 ⊢;have hw2:=bgo (bal hw1 _) hb2;have hj2:=HJ.out xs wr w2 none HJX.out (zlh hw2) (fun r e=>by cases e);obtain ⟨fn,tmps,assign,body,hy,hR⟩:=HY.out xs (k,B2,c2) w2 hj2 ⟨hr2,hc2⟩ hxl;unfold hEnc at hy;dsimp only at hy;have HE4:=Lib.hid (HE2.out.below hw2))
    | (refine hR.mono ?_;rintro e W3 ⟨rfl,hJ3,hk3⟩))
   all_goals
    gi_wp2
    have hE5:=hk3 HE4.out
    exact ⟨⟨k+1,xs++[(k,B2,c2)],by omega,Lib.hid (by rw [List.map_append,HXS.out,List.range_succ];rfl),by congr 1,hJ3,Lib.hid hE5⟩,by show q - ((k:Int)+1).toNat<q - (k:Int).toNat;omega⟩
  ·have hkq2:q=k:=by omega
   subst hkq2
   have r1:¬ (q:Int) * 32<N:=by omega
   gi_wp2
   go_end0
   exact ⟨⟨_,rfl⟩,_,HXS.out,hJx⟩
end
end Go.Proofs.YtelgmbomkojmaaaDoor
