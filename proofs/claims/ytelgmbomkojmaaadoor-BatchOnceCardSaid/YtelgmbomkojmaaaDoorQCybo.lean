/- A pack: By. -/
import Derived.Test.YtelgmbomkojmaaaDoorQCubn
namespace Go.Proofs.YtelgmbomkojmaaaDoor
set_option linter.unusedSimpArgs false
set_option linter.unusedVariables false
set_option linter.unusedSectionVars false
set_option maxRecDepth 100000
section
open Go.RowKit
theorem zot (w:World): Calls Lead.prog 21 #[.slice none 0 0,.slice none 0 0] w fun e w'=>e=.returned (.bool true)∧w=w':=by
 go_enter Lead.func21,Tryd.ntmps21
 go_wp2_with fail
 go_loop [13] (fun i=>i=.int .i64 0) (fun i=>0)
 case atStart=>rfl
 case round =>
  subst hrel
  go_wp2_with fail
  go_ret
  exact ⟨rfl,rfl⟩
def Nil3 (g:Nat)(w:World): Prop:=w.cell? ⟨g,0,none⟩=some (.slice none 0 0)∧w.cell? ⟨g,1,none⟩=some (.slice none 0 0)∧w.cell? ⟨g,2,none⟩=some (.slice none 0 0)
theorem Nil3.below {g:Nat}{w w':World}(h:Nil3 g w)(hb:Below w.heap.size w w'): Nil3 g w' :=
 ⟨(hb.cell (p:=⟨g,0,none⟩) (zas h.1)).trans h.1,(hb.cell (p:=⟨g,1,none⟩) (zas h.2.1)).trans h.2.1,(hb.cell (p:=⟨g,2,none⟩) (zas h.2.2)).trans h.2.2⟩
theorem znm (w:World): Nil3 w.heap.size (w.alloc (.cells #[.slice none 0 0,.slice none 0 0,.slice none 0 0] 25)):=⟨zo1 w _ _ _ 25,zk1 w _ _ _ 25,zw1 w _ _ _ 25⟩
theorem zwx (w:World)(o:Obj): Nil3 (w.heap.size+1) ((w.alloc o).alloc (.cells #[.slice none 0 0,.slice none 0 0,.slice none 0 0] 25)):=by
 have:=znm (w.alloc o)
 rwa [World.size_alloc] at this
set_option maxHeartbeats 1000000 in
theorem ztp (w:World): Calls Lead.prog 14 #[.agg #[.slice none 0 0,.slice none 0 0,.slice none 0 0],.agg #[.slice none 0 0,.slice none 0 0,.slice none 0 0]] w fun e w'=>e=.returned (.bool true)∧Below w.heap.size w w':=by
 have CS:∀ W:World,Calls Lead.prog 12 #[.slice none 0 0,.slice none 0 0] W (fun e w'=>e=.returned (.bool true)∧Below W.heap.size W w'):=fun W=>zlw none none 0 0 0 [] [] [] W rfl (by unfold maxLen;omega) .nil zcd.nil .nil zcd.nil (fun xs hx=>by cases hx)
 have h2:Nil3 w.heap.size ((w.alloc (.cells #[.slice none 0 0,.slice none 0 0,.slice none 0 0] 25)).alloc (.cells #[.slice none 0 0,.slice none 0 0,.slice none 0 0] 25)):=(znm w).below (bal brf _)
 have h3:=zwx w (.cells #[.slice none 0 0,.slice none 0 0,.slice none 0 0] 25)
 have hb0:Below w.heap.size w ((w.alloc (.cells #[.slice none 0 0,.slice none 0 0,.slice none 0 0] 25)).alloc (.cells #[.slice none 0 0,.slice none 0 0,.slice none 0 0] 25)):=bal (bal brf _) _
 go_enter Lead.func14,Tryd.ntmps14
 go_upto_region 1 with fail
 generalize ((w.alloc (.cells #[.slice none 0 0,.slice none 0 0,.slice none 0 0] 25)).alloc (.cells #[.slice none 0 0,.slice none 0 0,.slice none 0 0] 25))=w0 at *
 have H2:=Lib.hid h2
 have H3:=Lib.hid h3
 have HB:=Lib.hid hb0
 obtain ⟨a0,a1,a2⟩:=h2
 obtain ⟨b0,b1,b2⟩:=h3
 clear hb0
 go_wp2_with (first
  | (go_at_call 12;refine (CS _).mono ?_;rintro e w1 ⟨rfl,hb1⟩;have H2:=Lib.hid (H2.out.below hb1);have H3:=Lib.hid (H3.out.below hb1);have HB:=Lib.hid (bgo HB.out hb1);clear a0 a1 a2 b0 b1 b2 hb1;obtain ⟨a0,a1,a2⟩:=H2.out;obtain ⟨b0,b1,b2⟩:=H3.out)
  | (go_at_call 21;refine (zot _).mono ?_;rintro e w1 ⟨rfl,rfl⟩))
 go_ret
 exact ⟨rfl,HB.out⟩
set_option maxHeartbeats 2000000 in
theorem zl2 (A D E:Option Addr)(n c m d r t:Nat)(hop hops:Int)(sv ds:List Int)(vs:List Value)(L:List (List Int))(w:World)(hn:sv.length=n)(hnc:n≤c)(hcm:c≤maxLen)(hx:Rd w A (nums .u8 sv))(bs:Byt sv)(hm:L.length=m)(hmd:m≤d)(hdm:d≤maxLen)(hy:Rd w D vs)(hp:zcd w vs L)(hB:∀ xs∈L,Byt xs)(hr:ds.length=r)(hrm:r≤maxLen)(hz:Rd w E (nums .i64 ds))(hK:za1 w):
  Calls Lead.prog 4 #[.slice A n c,.int .i64 hop,.int .i64 hops,.slice D m d,.slice E r t] w (Yes w):=by
 have hlt:=zas (hK 0 (by omega))
 have CL:=znp w hK
 unfold maxLen at hcm hdm hrm
 have HX:=Lib.hid hx
 have HY:=Lib.hid hy
 have HP:=Lib.hid hp
 have HN:=Lib.hid hn
 have HM:=Lib.hid hm
 have HR:=Lib.hid hr
 have HZ:=Lib.hid hz
 have HBY:=Lib.hid hB
 have HBS:=Lib.hid bs
 have HK:=Lib.hid hK
 clear hx hy hp hn hm hr hz hB bs hK
 go_enter Lead.func4,Tryd.ntmps4
 go_upto_region 3 with ((with_reducible refine CL.mono ?_);rintro e w1 ⟨rfl,hb1⟩)
 clear CL
 by_cases h200:200<n
 ·have q1:(200:Int)<n:=by omega
  go_wp2_with fail
  go_ret
  exact ⟨rfl,hb1⟩
 have q1:¬ (200:Int)<n:=by omega
 have CF:Calls Lead.prog 9 #[.slice D m d,.int .i64 40] w1 (z1f w1 L 40):=zrk D m d 40 vs L w1 (by rw [← HM.out];exact HP.out.1) (by unfold maxLen;omega) (by omega) (HY.out.below hb1) (HP.out.below hb1)
 by_cases hf:fewB L 40=true
 case neg =>
  have hf':fewB L 40=false:=by simpa using hf
  go_wp2_with ((with_reducible refine CF.mono ?_);rintro e w2 ⟨b,rfl,hb,rfl⟩;rw [hf'] at hb;subst hb)
  go_ret
  exact ⟨rfl,hb1⟩
 by_cases hr200:200<r
 ·have q2:(200:Int)<r:=by omega
  go_wp2_with ((with_reducible refine CF.mono ?_);rintro e w2 ⟨b,rfl,hb,rfl⟩;rw [hf] at hb;subst hb)
  go_ret
  exact ⟨rfl,hb1⟩
 have q2:¬ (200:Int)<r:=by omega
 have HFEW:=Lib.hid (show fewP L 40 from of_decide_eq_true hf)
 go_upto_region 5 with ((with_reducible refine CF.mono ?_);rintro e w2 ⟨b,rfl,hb,rfl⟩;rw [hf] at hb;subst hb)
 clear CF hf
 by_cases hmm:zmm hop hops m
 case neg =>
  have C1:=zq4 A D E n c m d r t hop hops w1 hmm
  go_upto_region 6 with ((with_reducible refine C1.mono ?_);rintro e w2 ⟨rfl,hb2⟩)
  have HBW:=Lib.hid (show Below w.heap.size w (w2.alloc (.cells #[.slice none 0 0,.slice none 0 0,.slice none 0 0] 25)) from bal (bgo hb1 hb2) _)
  obtain ⟨e0,e1,e2⟩:=znm w2
  have CS:=ztp (w2.alloc (.cells #[.slice none 0 0,.slice none 0 0,.slice none 0 0] 25))
  go_wp2_with ((with_reducible refine CS.mono ?_);rintro e w3 ⟨rfl,hb3⟩)
  go_ret
  exact ⟨rfl,bgo HBW.out hb3⟩
 have C1:=zk3 A D E n c m d r t hop hops sv ds vs L w1 HN.out (by omega) hnc HM.out hmm hmd HR.out (by omega) (HX.out.below hb1) HBS.out (HY.out.below hb1) (HP.out.below hb1).o HBY.out (fun xs hxs=>by have:=HFEW.out.1 xs hxs;omega) (HZ.out.below hb1) (HK.out.below hb1 hlt)
 obtain ⟨q,hq⟩:∃ q,q=(zao sv hop hops L).length:=⟨_,rfl⟩
 have hqm:q≤m:=by
  have h1:=zei (sv:=sv) (hop:=hop) (hops:=hops) (L:=L) L.length
  have h2:=HM.out
  rw [hq]
  unfold zao
  omega
 unfold z3o at C1
 rw [← hq] at C1
 have HQ:=Lib.hid hq
 clear hq
 go_upto_region 6 with ((with_reducible refine C1.mono ?_);rintro e w2 ⟨X,Y,Z,x,y,z,vo,vk,rfl,l1,l2,l3,rX,pX,rY,rZ,pZ,hb2⟩)
 have hbo:Below w2.heap.size w2 (w2.alloc (.cells #[.slice X q x,.slice Y q y,.slice Z q z] 25)):=bal brf _
 have hMA:zrs w2.heap.size (w2.alloc (.cells #[.slice X q x,.slice Y q y,.slice Z q z] 25)) sv hop hops L ds X Y Z q x y z vo vk :=
  ⟨zo1 w2 _ _ _ 25,zk1 w2 _ _ _ 25,zw1 w2 _ _ _ 25,rX.below hbo,pX.below hbo,rY.below hbo,rZ.below hbo,pZ.below hbo⟩
 have HMA:=Lib.hid hMA
 have HBW:=Lib.hid (show Below w.heap.size w (w2.alloc (.cells #[.slice X q x,.slice Y q y,.slice Z q z] 25)) from bal (bgo hb1 hb2) _)
 have c0:=hMA.c0
 have c1:=hMA.c1
 have c2:=hMA.c2
 clear rX pX rY rZ pZ hMA hbo hb1 hb2 C1
 generalize w2.alloc (.cells #[.slice X q x,.slice Y q y,.slice Z q z] 25)=w3 at *
 generalize w2.heap.size=G at *
 have r0:¬ (m:Int)<q:=by omega
 have hm40:m≤40:=by have:=HFEW.out.2;rw [HM.out] at this;exact this
 go_wp2_with fail
 go_loopw [80] (fun i wr=>∃ k:Nat,k≤m∧i=.int .i64 k∧Hid (Below w3.heap.size w3 wr)) (fun i _=>m - (intOf i).toNat)
 case atStart=>exact ⟨0,Nat.zero_le _,rfl,Lib.hid brf⟩
 case round =>
  rename World=>W
  obtain ⟨k,hk,rfl,HB⟩:=hrel
  have HMW:=Lib.hid (HMA.out.below HB.out)
  have d0:=HMW.out.c0
  have d1:=HMW.out.c1
  have d2:=HMW.out.c2
  clear c0 c1 c2
  by_cases hkm:k<m
  ·have r1:(k:Int)<m:=by omega
   have hbW:=bgo HBW.out HB.out
   obtain ⟨b,o,rfl,hlb,hc⟩:=(HY.out.below hbW).at_ (by rw [HP.out.1,HM.out];omega)
   have ck:=hc k _ (zik (by rw [HP.out.1,HM.out];exact hkm))
   obtain ⟨A1,a1,hv,h1,h2,hrr⟩:=(HP.out.below hbW).2 k (by rw [HM.out];exact hkm)
   obtain ⟨p,hp⟩:∃ p,p=(L.getD k []).length:=⟨_,rfl⟩
   rw [hv,← hp] at ck
   have hbk:Byt (L.getD k []):=HBY.out _ (by rw [List.getD,List.getElem?_eq_getElem (by rw [HM.out];exact hkm)];exact List.getElem_mem _)
   have HPL:=Lib.hid hp
   have HBK:=Lib.hid hbk
   clear hc hv hp hbk
   by_cases hz0:zd3 sv hop hops (L.getD k [])=0
   ·have CP:=zni A A1 n c p a1 hop hops sv (L.getD k []) W HN.out HPL.out.symm (by omega) (by rw [HPL.out];exact h1) (HX.out.below hbW) hrr HBK.out (HK.out.below hbW hlt) hz0
    have hin:k∈zao sv hop hops L:=zpa hz0 _ (by rw [HM.out];exact hkm)
    have HIN:=Lib.hid hin
    obtain ⟨lo,hlo⟩:∃ lo,lo=(zcr sv hop.toNat hops.toNat (L.getD k [])).length:=⟨_,rfl⟩
    unfold zpx at CP
    rw [← hlo,zhj] at CP
    have HLO:=Lib.hid hlo
    have BO:=Lib.hid (zwl (server:=sv) (i:=hop.toNat) (H:=hops.toNat) HBK.out)
    clear hin hlo
    go_upto_region 14 with ((with_reducible refine CP.mono ?_);rintro e w4 ⟨PA,PB,ca,cb,rfl,hla,ra,rb,hb4⟩)
    have HM4:=Lib.hid (HMW.out.below hb4)
    have f0:=HM4.out.c0
    have f1:=HM4.out.c1
    have f2:=HM4.out.c2
    have HB4:=Lib.hid (HB.out.trans (hb4.mono HB.out.size))
    have RA:=Lib.hid ra
    have RB:=Lib.hid rb
    clear d0 d1 d2 hb4 ck CP hrr hbW ra rb
    go_wp2_with fail
    go_loop [19,97] (fun v i=>∃ j:Nat,j≤q∧i=.int .i64 j∧v=.int .i64 (cnt (zdf sv hop hops L ds) (k:Int) j:Nat)) (fun _ i=>q - (intOf i).toNat)
    case atStart=>exact ⟨0,Nat.zero_le _,rfl,rfl⟩
    case round =>
     obtain ⟨j,hj,rfl,rfl⟩:=hrel
     by_cases hjq:j<q
     ·have r2:(j:Int)<q:=by omega
      obtain ⟨bx,ox,by_,oy,bz,oz,B1,c1,C1,d1,rfl,rfl,rfl,cy,cx,rx,cz,rz⟩:=HM4.out.at_ HQ.out hjq
      have hfa:=zco (sv:=sv) (hop:=hop) (hops:=hops) (L:=L) (ds:=ds) (i:=j) (by rw [← HQ.out];exact hjq)
      have hle:=zx9 (l:=zdf sv hop hops L ds) (v:=(k:Int)) j
      obtain ⟨u,hu⟩:∃ u,u=zaq sv hop hops L ds j:=⟨_,rfl⟩
      obtain ⟨mt,hmt⟩:∃ mt,mt=cnt (zdf sv hop hops L ds) (k:Int) j:=⟨_,rfl⟩
      rw [← hu] at cy cx rx rz hfa
      rw [← hmt] at hle ⊢
      have HFA:=Lib.hid hfa
      have HMT:=Lib.hid hmt
      clear hu hfa hmt
      by_cases e:u=k
      ·subst e
       rw [← HLO.out] at cx
       have CS1:=zhf B1 PA lo c1 lo ca _ _ w4 HLO.out.symm HLO.out.symm rx RA.out BO.out BO.out
       have CS2:=zhf C1 PB 32 d1 32 cb _ _ w4 (zhj _ _ _) (zhj _ _ _) rz RB.out (zox _ _ _) (zox _ _ _)
       clear rx rz
       go_wp2_with (first
        | ((with_reducible refine CS1.mono ?_);rintro e w5 ⟨he,rfl⟩;simp only [decide_true] at he;subst he)
        | ((with_reducible refine CS2.mono ?_);rintro e w5 ⟨he,rfl⟩;simp only [decide_true] at he;subst he))
       refine ⟨⟨j+1,by omega,by congr 1,?_⟩,by show q - ((j:Int)+1).toNat<q - (j:Int).toNat;omega⟩
       rw [cnt,HFA.out,if_pos rfl,← HMT.out]
       rfl
      ·have e':¬ (u:Int)=k:=by omega
       clear cx cz rx rz
       go_wp2_with fail
       refine ⟨⟨j+1,by omega,by congr 1,?_⟩,by show q - ((j:Int)+1).toNat<q - (j:Int).toNat;omega⟩
       rw [cnt,HFA.out,if_neg e',← HMT.out]
       rfl
     ·have hjq':q=j:=by omega
      subst hjq'
      have h1:=zpc (ds:=ds) HIN.out
      rw [← HQ.out] at h1
      rw [h1]
      go_wp2_with fail
      exact ⟨⟨k+1,by omega,by congr 1,HB4⟩,by show m - ((k:Int)+1).toNat<m - (k:Int).toNat;omega⟩
   ·have CP:=zqv A A1 n c p a1 hop hops sv (L.getD k []) W HN.out HPL.out.symm (by omega) (by rw [HPL.out];exact h1) (HX.out.below hbW) hrr HBK.out (HK.out.below hbW hlt) hz0
    have hno:k ∉ zao sv hop hops L:=fun h=>hz0 (zdz _ _ h).2
    obtain ⟨zz,hzz⟩:∃ zz,zz=zd3 sv hop hops (L.getD k []):=⟨_,rfl⟩
    rw [← hzz] at CP hz0
    have HNO:=Lib.hid hno
    clear hno hzz
    go_upto_region 14 with ((with_reducible refine CP.mono ?_);rintro e w4 ⟨rfl,hb4⟩)
    have HM4:=Lib.hid (HMW.out.below hb4)
    have f0:=HM4.out.c0
    have f1:=HM4.out.c1
    have f2:=HM4.out.c2
    have HB4:=Lib.hid (HB.out.trans (hb4.mono HB.out.size))
    clear d0 d1 d2 hb4 ck CP hrr hbW
    go_wp2_with fail
    go_loop [19,97] (fun v i=>∃ j:Nat,j≤q∧i=.int .i64 j∧v=.int .i64 0) (fun _ i=>q - (intOf i).toNat)
    case atStart=>exact ⟨0,Nat.zero_le _,rfl,rfl⟩
    case round =>
     obtain ⟨j,hj,rfl,rfl⟩:=hrel
     by_cases hjq:j<q
     ·have r2:(j:Int)<q:=by omega
      obtain ⟨bx,ox,by_,oy,bz,oz,B1,c1,C1,d1,rfl,rfl,rfl,cy,cx,_,cz,_⟩:=HM4.out.at_ HQ.out hjq
      have hne:zaq sv hop hops L ds j≠k:=fun e=>HNO.out (by rw [← e];exact zch (by rw [← HQ.out];exact hjq))
      obtain ⟨u,hu⟩:∃ u,u=zaq sv hop hops L ds j:=⟨_,rfl⟩
      rw [← hu] at cy hne
      have hne':¬ (u:Int)=k:=by omega
      clear cx cz hu
      go_wp2_with fail
      exact ⟨⟨j+1,by omega,by congr 1,rfl⟩,by show q - ((j:Int)+1).toNat<q - (j:Int).toNat;omega⟩
     ·have hjq':q=j:=by omega
      subst hjq'
      go_wp2_with fail
      exact ⟨⟨k+1,by omega,by congr 1,HB4⟩,by show m - ((k:Int)+1).toNat<m - (k:Int).toNat;omega⟩
  ·have hkm':m=k:=by omega
   subst hkm'
   have hbW:=bgo HBW.out HB.out
   go_wp2_with fail
   go_loop [148] (fun i=>∃ j:Nat,j≤q∧i=.int .i64 j) (fun i=>q - (intOf i).toNat)
   case atStart=>exact ⟨0,Nat.zero_le _,rfl⟩
   case round =>
    obtain ⟨j,hj,rfl⟩:=hrel
    by_cases hjq:j<q
    ·have r2:(j:Int)<q:=by omega
     obtain ⟨bx,ox,by_,oy,bz,oz,B1,c1,C1,d1,rfl,rfl,rfl,cy,cx,_,cz,_⟩:=HMW.out.at_ HQ.out hjq
     have hpm:=(zdz _ _ (zch (sv:=sv) (hop:=hop) (hops:=hops) (L:=L) (ds:=ds) (i:=j) (by rw [← HQ.out];exact hjq))).1
     rw [HM.out] at hpm
     obtain ⟨u,hu⟩:∃ u,u=zaq sv hop hops L ds j:=⟨_,rfl⟩
     rw [← hu] at cy hpm
     have r3:¬ (u:Int)<0:=by omega
     have r4:¬ (m:Int)≤u:=by omega
     clear cx cz hu
     go_wp2_with fail
     exact ⟨⟨j+1,by omega,by congr 1⟩,by show q - ((j:Int)+1).toNat<q - (j:Int).toNat;omega⟩
    ·have hjq':q=j:=by omega
     subst hjq'
     go_wp2_with fail
     go_ret
     exact ⟨rfl,hbW⟩
end
end Go.Proofs.YtelgmbomkojmaaaDoor
