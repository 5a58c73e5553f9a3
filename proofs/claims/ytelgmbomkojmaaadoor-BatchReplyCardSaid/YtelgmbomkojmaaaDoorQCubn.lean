/- A pack: Bu. -/
import Derived.Test.YtelgmbomkojmaaaDoorQCrbk
import Derived.Test.YtelgmbomkojmaaaDoorQCjbi
namespace Go.Proofs.YtelgmbomkojmaaaDoor
set_option linter.unusedSimpArgs false
set_option linter.unusedVariables false
set_option linter.unusedSectionVars false
set_option maxRecDepth 100000
section
open Go.RowKit
structure zrs (g:Nat)(w:World)(sv:List Int)(hop hops:Int)(L:List (List Int))(ds:List Int)(X Y Z:Option Addr)(q x y z:Nat)(vo vk:List Value): Prop where
 c0:w.cell? ⟨g,0,none⟩=some (.slice X q x)
 c1:w.cell? ⟨g,1,none⟩=some (.slice Y q y)
 c2:w.cell? ⟨g,2,none⟩=some (.slice Z q z)
 ro:Rd w X vo
 po:zfo w vo ((zd5 sv hop hops L ds).map fun p=>zcr sv hop.toNat hops.toNat (L.getD p []))
 rf:Rd w Y (nums .i64 (zdf sv hop hops L ds))
 rk:Rd w Z vk
 pk:zpv w vk ((zd5 sv hop hops L ds).map fun p=>zdm sv hop.toNat (L.getD p []))
theorem zpv.below {w w':World}{vs:List Value}{L:List (List Int)}(h:zpv w vs L)(hb:Below w.heap.size w w'): zpv w' vs L:=⟨h.1,fun i hi=>by
 obtain ⟨A,c,e,hr⟩:=h.2 i hi
 exact ⟨A,c,e,hr.below hb⟩⟩
section
variable {g:Nat} {w w':World} {sv:List Int} {hop hops:Int} {L:List (List Int)} {ds:List Int} {X Y Z:Option Addr} {q x y z:Nat} {vo vk:List Value}
theorem zrs.below (h:zrs g w sv hop hops L ds X Y Z q x y z vo vk)(hb:Below w.heap.size w w'): zrs g w' sv hop hops L ds X Y Z q x y z vo vk :=
 ⟨(hb.cell (p:=⟨g,0,none⟩) (zas h.c0)).trans h.c0,(hb.cell (p:=⟨g,1,none⟩) (zas h.c1)).trans h.c1,(hb.cell (p:=⟨g,2,none⟩) (zas h.c2)).trans h.c2,h.ro.below hb,h.po.below hb,h.rf.below hb,h.rk.below hb,h.pk.below hb⟩
theorem z4b {α β:Type}(l:List α)(f:α→β)(a:α)(b:β){i:Nat}(hi:i<l.length): (l.map f).getD i b=f (l.getD i a):=by simp [List.getD,hi]
theorem zrs.at_ (h:zrs g w sv hop hops L ds X Y Z q x y z vo vk)(hq:q=(zao sv hop hops L).length){j:Nat}(hj:j<q):
  ∃ bx ox by_ oy bz oz A1 c1 B1 d1,X=some ⟨bx,ox,none⟩∧Y=some ⟨by_,oy,none⟩∧Z=some ⟨bz,oz,none⟩∧w.cell? ⟨by_,oy+j,none⟩=some (.int .i64 (zaq sv hop hops L ds j:Nat)) ∧
   w.cell? ⟨bx,ox+j,none⟩=some (.slice A1 (zcr sv hop.toNat hops.toNat (L.getD (zaq sv hop hops L ds j) [])).length c1)∧Rd w A1 (nums .u8 (zcr sv hop.toNat hops.toNat (L.getD (zaq sv hop hops L ds j) []))) ∧
   w.cell? ⟨bz,oz+j,none⟩=some (.slice B1 32 d1)∧Rd w B1 (nums .u8 (zdm sv hop.toNat (L.getD (zaq sv hop hops L ds j) []))):=by
 subst hq
 have hf:(zd5 sv hop hops L ds).length=(zao sv hop hops L).length:=zxs
 obtain ⟨bx,ox,rfl,_,hx⟩:=h.ro.at_ (by have:=h.po.1;simp at this;omega)
 obtain ⟨by_,oy,rfl,_,hy⟩:=h.rf.at_ (by simp [zdc];omega)
 obtain ⟨bz,oz,rfl,_,hz⟩:=h.rk.at_ (by have:=h.pk.1;simp at this;omega)
 have cy:=hy j _ (za4 (by rw [zdc];exact hj))
 rw [zco hj] at cy
 obtain ⟨A1,c1,e1,l1,r1⟩:=h.po.2 j (by rw [List.length_map,hf];exact hj)
 obtain ⟨B1,d1,e2,r2⟩:=h.pk.2 j (by rw [List.length_map,hf];exact hj)
 rw [z4b _ _ 0 [] (by rw [hf];exact hj),z0s hj] at e1 r1 e2 r2
 have cx:=hx j _ (zik (by rw [h.po.1,List.length_map,hf];exact hj))
 have cz:=hz j _ (zik (by rw [h.pk.1,List.length_map,hf];exact hj))
 rw [e1] at cx
 rw [e2,zhj] at cz
 exact ⟨bx,ox,by_,oy,bz,oz,A1,c1,B1,d1,rfl,rfl,rfl,cy,cx,r1,cz,r2⟩
end
end
end Go.Proofs.YtelgmbomkojmaaaDoor
