/- A pack: Bs. -/
import Derived.Test.YtelgmbomkojmaaaDoorQCrbk
namespace Go.Proofs.YtelgmbomkojmaaaDoor
set_option linter.unusedSimpArgs false
set_option linter.unusedVariables false
set_option linter.unusedSectionVars false
set_option maxRecDepth 100000
section
open Go.RowKit
def z5a (w:World)(q:Nat)(xs:List Int)(z:Int)(e:Ending)(w':World): Prop :=
 ∃ X Y Z x y z' k,e=.returned (.tuple #[.agg #[.slice X q x,.slice Y q y,.slice Z q z'],.int .i64 k,.int .i64 z])∧Rd w' Y (nums .i64 xs)∧xs.length=q∧Below w.heap.size w w'
theorem z2t (hop hops:Int)(sv:List Int)(L:List (List Int)): ∃ (q:Nat) (F:List Int→List Int) (z:Int),q≤64∧(∀ ds es i,i<q→cnt (F es) ((F ds).getD i 0) q=1) ∧
  ∀ (A D E:Option Addr) (n c m d r t:Nat) (ds:List Int) (vs:List Value) (w:World),sv.length=n→n≤4000→n≤c→L.length=m→m≤d→ds.length=r→r≤100000→Rd w A (nums .u8 sv)→Byt sv→Rd w D vs→zfo w vs L→(∀ xs∈L,Byt xs)→(∀ xs∈L,xs.length≤100000)→Rd w E (nums .i64 ds)→za1 w →
   Calls Lead.prog 13 #[.slice A n c,.int .i64 hop,.int .i64 hops,.slice D m d,.slice E r t] w (z5a w q (F ds) z):=by
 by_cases h:zmm hop hops L.length
 ·refine ⟨(zao sv hop hops L).length,zdf sv hop hops L,0,?_,fun ds es i hi=>?_,fun A D E n c m d r t ds vs w h1 h2 h3 h4 h5 h6 h7 h8 h9 h10 h11 h12 h13 h14 h15=>?_⟩
  ·have h1:=zei (sv:=sv) (hop:=hop) (hops:=hops) (L:=L) L.length
   have h2:=h.2.2.2.2
   unfold zao
   omega
  ·rw [zco hi]
   exact zpc (zch hi)
  ·subst h4
   refine (zk3 A D E n c L.length d r t hop hops sv ds vs L w h1 h2 h3 rfl h h5 h6 h7 h8 h9 h10 h11 h12 h13 h14 h15).mono ?_
   rintro e w1 ⟨X,Y,Z,x,y,z,vo,vk,rfl,l1,l2,l3,rX,pX,rY,rZ,pZ,hb2⟩
   exact ⟨X,Y,Z,x,y,z,_,rfl,rY,zdc,hb2⟩
 ·refine ⟨0,fun _=>[],1,by omega,fun ds es i hi=>absurd hi (Nat.not_lt_zero i),fun A D E n c m d r t ds vs w h1 h2 h3 h4 h5 h6 h7 h8 h9 h10 h11 h12 h13 h14 h15=>?_⟩
  subst h4
  refine (zq4 A D E n c L.length d r t hop hops w h).mono ?_
  rintro e w1 ⟨rfl,hb⟩
  exact ⟨none,none,none,0,0,0,0,rfl,.nil,rfl,hb⟩
set_option maxHeartbeats 1000000 in
theorem zll (A D E E2:Option Addr)(n c m d r t r2 t2:Nat)(hop hops:Int)(sv ds es:List Int)(vs:List Value)(L:List (List Int))(w:World)(hn:sv.length=n)(hnc:n≤c)(hcm:c≤maxLen)(hx:Rd w A (nums .u8 sv))(bs:Byt sv)(hm:L.length=m)(hmd:m≤d)(hdm:d≤maxLen)(hy:Rd w D vs)(hp:zcd w vs L)(hB:∀ xs∈L,Byt xs)(hr:ds.length=r)(hrm:r≤maxLen)(hz:Rd w E (nums .i64 ds))(hr2:es.length=r2)(hrm2:r2≤maxLen)(hz2:Rd w E2 (nums .i64 es))(hK:za1 w):
  Calls Lead.prog 7 #[.slice A n c,.int .i64 hop,.int .i64 hops,.slice D m d,.slice E r t,.slice E2 r2 t2] w (Yes w):=by
 have hlt:=zas (hK 0 (by omega))
 have CL:=znp w hK
 obtain ⟨q,F,z,hq64,hF,CM⟩:=z2t hop hops sv L
 unfold maxLen at hcm hdm hrm hrm2
 have HX:=Lib.hid hx
 have HY:=Lib.hid hy
 have HP:=Lib.hid hp
 have HN:=Lib.hid hn
 have HM:=Lib.hid hm
 have HR:=Lib.hid hr
 have HR2:=Lib.hid hr2
 have HZ:=Lib.hid hz
 have HZ2:=Lib.hid hz2
 have HBY:=Lib.hid hB
 have HBS:=Lib.hid bs
 have HK:=Lib.hid hK
 have HF:=Lib.hid hF
 have HCM:=Lib.hid CM
 clear hx hy hp hn hm hr hr2 hz hz2 hB bs hK hF CM
 go_enter Lead.func7,Tryd.ntmps7
 go_upto_region 3 with ((with_reducible refine CL.mono ?_);rintro e w1 ⟨rfl,hb1⟩)
 clear CL
 by_cases h200:200<n
 ·have q1:(200:Int)<n:=by omega
  go_wp2_with fail
  go_ret
  exact ⟨rfl,hb1⟩
 have q1:¬ (200:Int)<n:=by omega
 have CF:Calls Lead.prog 9 #[.slice D m d,.int .i64 40] w1 (z1f w1 L 40):=zrk D m d 40 vs L w1 (by rw [← HM.out];exact HP.out.1) (by unfold maxLen;omega) (by omega) (HY.out.below hb1) (HP.out.below hb1)
 by_cases hf:fewB L 40=true
 case neg =>
  have hf':fewB L 40=false:=by simpa using hf
  go_wp2_with ((with_reducible refine CF.mono ?_);rintro e w2 ⟨b,rfl,hb,rfl⟩;rw [hf'] at hb;subst hb)
  go_ret
  exact ⟨rfl,hb1⟩
 by_cases hr200:200<r
 ·have q2:(200:Int)<r:=by omega
  go_wp2_with ((with_reducible refine CF.mono ?_);rintro e w2 ⟨b,rfl,hb,rfl⟩;rw [hf] at hb;subst hb)
  go_ret
  exact ⟨rfl,hb1⟩
 have q2:¬ (200:Int)<r:=by omega
 by_cases hr2200:200<r2
 ·have q3:(200:Int)<r2:=by omega
  go_wp2_with ((with_reducible refine CF.mono ?_);rintro e w2 ⟨b,rfl,hb,rfl⟩;rw [hf] at hb;subst hb)
  go_ret
  exact ⟨rfl,hb1⟩
 have q3:¬ (200:Int)<r2:=by omega
 have hfew:fewP L 40:=of_decide_eq_true hf
 have C1:=HCM.out A D E n c m d r t ds vs w1 HN.out (by omega) hnc HM.out hmd HR.out (by omega) (HX.out.below hb1) HBS.out (HY.out.below hb1) (HP.out.below hb1).o HBY.out (fun xs hxs=>by have:=hfew.1 xs hxs;omega) (HZ.out.below hb1) (HK.out.below hb1 hlt)
 have HFEW:=Lib.hid hfew
 clear hfew
 go_upto_region 5 with ((with_reducible refine CF.mono ?_);rintro e w2 ⟨b,rfl,hb,rfl⟩;rw [hf] at hb;subst hb)
 clear CF hf
 go_upto_region 6 with ((with_reducible refine C1.mono ?_);rintro e w2 ⟨X1,Y1,Z1,x1,y1,z1,k1,rfl,rY1,l1,hb2⟩)
 have hbw:Below w.heap.size w (w2.alloc (.cells #[.slice X1 q x1,.slice Y1 q y1,.slice Z1 q z1] 25)):=bal (bgo hb1 hb2) _
 have C2:=HCM.out A D E2 n c m d r2 t2 es vs (w2.alloc (.cells #[.slice X1 q x1,.slice Y1 q y1,.slice Z1 q z1] 25)) HN.out (by omega) hnc HM.out hmd HR2.out (by omega) (HX.out.below hbw) HBS.out (HY.out.below hbw) (HP.out.below hbw).o HBY.out (fun xs hxs=>by have:=HFEW.out.1 xs hxs;omega) (HZ2.out.below hbw) (HK.out.below hbw hlt)
 have e1:=zk1 w2 (.slice X1 q x1) (.slice Y1 q y1) (.slice Z1 q z1) 25
 have RY1:=Lib.hid (rY1.below (bal brf (.cells #[.slice X1 q x1,.slice Y1 q y1,.slice Z1 q z1] 25)))
 have L1:=Lib.hid l1
 have hs2:=World.size_alloc w2 (.cells #[.slice X1 q x1,.slice Y1 q y1,.slice Z1 q z1] 25)
 clear rY1 l1 C1
 go_upto_region 7 with ((with_reducible refine C2.mono ?_);rintro e w3 ⟨X2,Y2,Z2,x2,y2,z2,k2,rfl,rY2,l2,hb3⟩)
 have e2:=Lib.cell?_alloc_marked (.cells #[.slice X2 q x2,.slice Y2 q y2,.slice Z2 q z2] 25) ((hb3.cell (p:=⟨w2.heap.size,1,none⟩) (show w2.heap.size<_ by omega)).trans e1)
 have e3:=zk1 w3 (.slice X2 q x2) (.slice Y2 q y2) (.slice Z2 q z2) 25
 have RX:=Lib.hid ((RY1.out.below hb3).below (bal brf (.cells #[.slice X2 q x2,.slice Y2 q y2,.slice Z2 q z2] 25)))
 have RY:=Lib.hid (rY2.below (bal brf (.cells #[.slice X2 q x2,.slice Y2 q y2,.slice Z2 q z2] 25)))
 have L2:=Lib.hid l2
 have HBW:=Lib.hid (show Below w.heap.size w (w3.alloc (.cells #[.slice X2 q x2,.slice Y2 q y2,.slice Z2 q z2] 25)) from bal (bgo hbw hb3) _)
 clear rY2 l2 C2 e1 RY1 hbw hb1 hb2 hb3
 generalize w3.alloc (.cells #[.slice X2 q x2,.slice Y2 q y2,.slice Z2 q z2] 25)=w4 at *
 go_wp2_with fail
 go_loop [79] (fun i=>∃ k:Nat,k≤q∧i=.int .i64 k) (fun i=>q - (intOf i).toNat)
 case atStart=>exact ⟨0,Nat.zero_le _,rfl⟩
 case round =>
  obtain ⟨k,hk,rfl⟩:=hrel
  by_cases hlt:k<q
  ·have r1:(k:Int)<q:=by omega
   obtain ⟨x,hx⟩:∃ x,x=(F ds).getD k 0:=⟨_,rfl⟩
   obtain ⟨b,o,rfl,hlb,hc⟩:=RX.out.at_ (by simp [L1.out];omega)
   have ck:=hc k _ (za4 (by rw [L1.out];exact hlt))
   rw [← hx] at ck
   have HV:=Lib.hid hx
   clear hc hx
   go_wp2_with fail
   go_loop [21,86] (fun v i=>∃ j:Nat,j≤q∧i=.int .i64 j∧v=.int .i64 (cnt (F es) x j:Nat)) (fun _ i=>q - (intOf i).toNat)
   case atStart=>exact ⟨0,Nat.zero_le _,rfl,rfl⟩
   case round =>
    obtain ⟨j,hj,rfl,rfl⟩:=hrel
    by_cases hjq:j<q
    ·have r2:(j:Int)<q:=by omega
     obtain ⟨y,hy⟩:∃ y,y=(F es).getD j 0:=⟨_,rfl⟩
     obtain ⟨b2,o2,rfl,hlb2,hc2⟩:=RY.out.at_ (by simp [L2.out];omega)
     have cj:=hc2 j _ (za4 (by rw [L2.out];exact hjq))
     rw [← hy] at cj
     have HYV:=Lib.hid hy
     clear hc2 hy
     have hle:=zx9 (l:=F es) (v:=x) j
     obtain ⟨u,hu⟩:∃ u,u=cnt (F es) x j:=⟨_,rfl⟩
     rw [← hu] at hle ⊢
     have HU:=Lib.hid hu
     clear hu
     by_cases e:x=y
     ·subst e
      go_wp2_with fail
      refine ⟨⟨j+1,by omega,by congr 1,?_⟩,by show q - ((j:Int)+1).toNat<q - (j:Int).toNat;omega⟩
      rw [cnt,if_pos HYV.out.symm,← HU.out]
      rfl
     ·go_wp2_with fail
      refine ⟨⟨j+1,by omega,by congr 1,?_⟩,by show q - ((j:Int)+1).toNat<q - (j:Int).toNat;omega⟩
      rw [cnt,if_neg (by rw [← HYV.out];exact fun h=>e h.symm),← HU.out]
      rfl
    ·have hjq':q=j:=by omega
     subst hjq'
     have h1:=HF.out ds es k hlt
     rw [← HV.out] at h1
     rw [h1]
     go_wp2_with fail
     exact ⟨⟨k+1,by omega,by congr 1⟩,by show q - ((k:Int)+1).toNat<q - (k:Int).toNat;omega⟩
  ·have hkn:q=k:=by omega
   subst hkn
   go_wp2_with fail
   go_ret
   exact ⟨rfl,HBW.out⟩
end
end Go.Proofs.YtelgmbomkojmaaaDoor
