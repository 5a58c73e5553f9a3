/- A pack: Bw. -/
import Derived.Test.YtelgmbomkojmaaaDoorQCubn
import Derived.Test.YtelgmbomkojmaaaDoorQCnbj
namespace Go.Proofs.YtelgmbomkojmaaaDoor
set_option linter.unusedSimpArgs false
set_option linter.unusedVariables false
set_option linter.unusedSectionVars false
set_option maxRecDepth 100000
section
open Go.RowKit
def rpl (p:Nat): List Int:=((p:Int)+1) :: List.replicate 31 0
theorem znf (p:Nat): (rpl p).length=32:=by simp [rpl]
theorem z2h {p:Nat}(h:p<255): Byt (rpl p):=fun x hx=>by
 unfold rpl at hx
 rcases List.mem_cons.1 hx with rfl|hx
 ·omega
 ·rw [List.eq_of_mem_replicate hx];omega
theorem zsc (p:Nat): (nums .u8 (List.replicate 32 0)).set 0 (.int .u8 ((p:Int)+1))=nums .u8 (rpl p):=rfl
theorem z2g (p:Nat): (nums .u8 (rpl p)).set 0 (.int .u8 ((p:Int)+1))=nums .u8 (rpl p):=rfl
section
variable {sv:List Int} {hop hops:Int} {L:List (List Int)} {ds:List Int}
noncomputable def repL (sv:List Int)(hop hops:Int)(L:List (List Int))(ds:List Int)(k:Nat): List (List Int):=(List.range k).map fun j=>rpl (zaq sv hop hops L ds j)
theorem zng (k:Nat): (repL sv hop hops L ds k).length=k:=by simp [repL]
theorem zkr {k i:Nat}(h:i<k): (repL sv hop hops L ds k).getD i []=rpl (zaq sv hop hops L ds i):=by simp [repL,List.getD,h]
theorem zv9 {m:Nat}(hm:L.length=m): zz5 (zdf sv hop hops L ds) m (repL sv hop hops L ds (zao sv hop hops L).length):=by
 refine ⟨⟨fun i hi=>?_,fun i j hi hj e=>?_⟩,by rw [zng,zdc],fun i hi=>?_⟩
 ·rw [zdc] at hi
  rw [zco hi]
  have:=(zdz _ _ (zch (ds:=ds) hi)).1
  rw [hm] at this
  omega
 ·rw [zdc] at hi hj
  rw [zco hi,zco hj] at e
  exact zmj (ds:=ds) hi hj (by omega)
 ·rw [zng] at hi
  rw [zkr hi,znf]
theorem zs3 {i:Nat}: ∀ k,k≤(zao sv hop hops L).length→zbc (zdf sv hop hops L ds) (repL sv hop hops L ds (zao sv hop hops L).length) i k=List.replicate 32 0∨zbc (zdf sv hop hops L ds) (repL sv hop hops L ds (zao sv hop hops L).length) i k=rpl i
 | 0,_=>.inl rfl
 | k+1,hk=>by
   rw [zbc,zco (by omega)]
   split
   ·rename_i e
    rw [zkr (by omega)]
    right
    congr 1
    omega
   ·exact zs3 k (by omega)
theorem z08 {i k:Nat}(hk:k<(zao sv hop hops L).length)(e:zaq sv hop hops L ds k=i):
  (nums .u8 (zbc (zdf sv hop hops L ds) (repL sv hop hops L ds (zao sv hop hops L).length) i k)).set 0 (.int .u8 ((i:Int)+1))=nums .u8 (zbc (zdf sv hop hops L ds) (repL sv hop hops L ds (zao sv hop hops L).length) i (k+1)):=by
 rw [zbc,zco hk,if_pos (by rw [e]),zkr hk,e]
 rcases zs3 (sv:=sv) (hop:=hop) (hops:=hops) (L:=L) (ds:=ds) (i:=i) k (by omega) with h|h <;> rw [h]
 ·exact zsc i
 ·exact z2g i
end
set_option maxHeartbeats 2000000 in
theorem zli (A D E:Option Addr)(n c m d r t:Nat)(hop hops:Int)(sv ds:List Int)(vs:List Value)(L:List (List Int))(w:World)(hn:sv.length=n)(hnc:n≤c)(hcm:c≤maxLen)(hx:Rd w A (nums .u8 sv))(bs:Byt sv)(hm:L.length=m)(hmd:m≤d)(hdm:d≤maxLen)(hy:Rd w D vs)(hp:zcd w vs L)(hB:∀ xs∈L,Byt xs)(hr:ds.length=r)(hrm:r≤maxLen)(hz:Rd w E (nums .i64 ds))(hK:za1 w):
  Calls Lead.prog 5 #[.slice A n c,.int .i64 hop,.int .i64 hops,.slice D m d,.slice E r t] w (Yes w):=by
 obtain ⟨i1,hi1,hz1,hz2,hz3⟩:=info_parts zfz
 obtain ⟨i2,hi2,hy1,hy2,hy3⟩:=info_parts zk8
 have hlt:=zas (hK 0 (by omega))
 have CL:=znp w hK
 unfold maxLen at hcm hdm hrm
 have HX:=Lib.hid hx
 have HY:=Lib.hid hy
 have HP:=Lib.hid hp
 have HN:=Lib.hid hn
 have HM:=Lib.hid hm
 have HR:=Lib.hid hr
 have HZ:=Lib.hid hz
 have HBY:=Lib.hid hB
 have HBS:=Lib.hid bs
 have HK:=Lib.hid hK
 clear hx hy hp hn hm hr hz hB bs hK
 go_enter Lead.func5,Tryd.ntmps5
 go_upto_region 3 with ((with_reducible refine CL.mono ?_);rintro e w1 ⟨rfl,hb1⟩)
 clear CL
 by_cases h200:200<n
 ·have q1:(200:Int)<n:=by omega
  go_wp2_with fail
  go_ret
  exact ⟨rfl,hb1⟩
 have q1:¬ (200:Int)<n:=by omega
 have CF:Calls Lead.prog 9 #[.slice D m d,.int .i64 40] w1 (z1f w1 L 40):=zrk D m d 40 vs L w1 (by rw [← HM.out];exact HP.out.1) (by unfold maxLen;omega) (by omega) (HY.out.below hb1) (HP.out.below hb1)
 by_cases hf:fewB L 40=true
 case neg =>
  have hf':fewB L 40=false:=by simpa using hf
  go_wp2_with ((with_reducible refine CF.mono ?_);rintro e w2 ⟨b,rfl,hb,rfl⟩;rw [hf'] at hb;subst hb)
  go_ret
  exact ⟨rfl,hb1⟩
 by_cases hr200:200<r
 ·have q2:(200:Int)<r:=by omega
  go_wp2_with ((with_reducible refine CF.mono ?_);rintro e w2 ⟨b,rfl,hb,rfl⟩;rw [hf] at hb;subst hb)
  go_ret
  exact ⟨rfl,hb1⟩
 have q2:¬ (200:Int)<r:=by omega
 have HFEW:=Lib.hid (show fewP L 40 from of_decide_eq_true hf)
 go_upto_region 5 with ((with_reducible refine CF.mono ?_);rintro e w2 ⟨b,rfl,hb,rfl⟩;rw [hf] at hb;subst hb)
 clear CF hf
 by_cases hmm:zmm hop hops m
 case neg =>
  have C1:=zq4 A D E n c m d r t hop hops w1 hmm
  go_upto_region 6 with ((with_reducible refine C1.mono ?_);rintro e w2 ⟨rfl,hb2⟩)
  have HBW:=Lib.hid (show Below w.heap.size w (w2.alloc (.cells #[.slice none 0 0,.slice none 0 0,.slice none 0 0] 25)) from bal (bgo hb1 hb2) _)
  go_wp2_with fail
  go_ret
  exact ⟨rfl,HBW.out⟩
 have C1:=zk3 A D E n c m d r t hop hops sv ds vs L w1 HN.out (by omega) hnc HM.out hmm hmd HR.out (by omega) (HX.out.below hb1) HBS.out (HY.out.below hb1) (HP.out.below hb1).o HBY.out (fun xs hxs=>by have:=HFEW.out.1 xs hxs;omega) (HZ.out.below hb1) (HK.out.below hb1 hlt)
 obtain ⟨q,hq⟩:∃ q,q=(zao sv hop hops L).length:=⟨_,rfl⟩
 have hqm:q≤m:=by
  have h1:=zei (sv:=sv) (hop:=hop) (hops:=hops) (L:=L) L.length
  have h2:=HM.out
  rw [hq]
  unfold zao
  omega
 unfold z3o at C1
 rw [← hq] at C1
 have HQ:=Lib.hid hq
 clear hq
 go_upto_region 6 with ((with_reducible refine C1.mono ?_);rintro e w2 ⟨X,Y,Z,x,y,z,vo,vk,rfl,l1,l2,l3,rX,pX,rY,rZ,pZ,hb2⟩)
 have hbo:Below w2.heap.size w2 (w2.alloc (.cells #[.slice X q x,.slice Y q y,.slice Z q z] 25)):=bal brf _
 have hMA:zrs w2.heap.size (w2.alloc (.cells #[.slice X q x,.slice Y q y,.slice Z q z] 25)) sv hop hops L ds X Y Z q x y z vo vk :=
  ⟨zo1 w2 _ _ _ 25,zk1 w2 _ _ _ 25,zw1 w2 _ _ _ 25,rX.below hbo,pX.below hbo,rY.below hbo,rZ.below hbo,pZ.below hbo⟩
 have HMA:=Lib.hid hMA
 have HBW:=Lib.hid (show Below w.heap.size w (w2.alloc (.cells #[.slice X q x,.slice Y q y,.slice Z q z] 25)) from bal (bgo hb1 hb2) _)
 have c0:=hMA.c0
 have c1:=hMA.c1
 have c2:=hMA.c2
 clear rX pX rY rZ pZ hMA hbo hb1 hb2 C1
 generalize w2.alloc (.cells #[.slice X q x,.slice Y q y,.slice Z q z] 25)=w3 at *
 generalize w2.heap.size=G at *
 have r0:¬ (m:Int)<q:=by omega
 have hm40:m≤40:=by have:=HFEW.out.2;rw [HM.out] at this;exact this
 go_wp2_with fail
 go_loopw [14,65] (fun v i wr=>∃ k:Nat,k≤q∧i=.int .i64 k∧Hid (∃ us,wr.ownsRow w3.heap.size 33 1 v k us∧zbj wr w3.heap.size us (repL sv hop hops L ds k))∧Hid (Below w3.heap.size w3 wr)) (fun _ i _=>q - (intOf i).toNat)
 case atStart=>exact ⟨0,Nat.zero_le _,rfl,Lib.hid ⟨[],⟨rfl,.inl ⟨rfl,rfl⟩⟩,zbj.nil⟩,Lib.hid brf⟩
 case round =>
  rename World=>W
  obtain ⟨k,hk,rfl,HO,HB⟩:=hrel
  obtain ⟨us,hown,hpar⟩:=HO.out
  obtain ⟨A14,c14,rfl⟩:=zfg hown
  have HOWN:=Lib.hid hown
  have HPAR:=Lib.hid hpar
  have HMW:=Lib.hid (HMA.out.below HB.out)
  have hszW:=HB.out.size
  clear hown hpar HO c0 c1 c2
  have d0:=HMW.out.c0
  have d1:=HMW.out.c1
  have d2:=HMW.out.c2
  by_cases hkq:k<q
  ·have r1:(k:Int)<q:=by omega
   obtain ⟨bx,ox,by_,oy,bz,oz,B1,b1,C1,b2,rfl,rfl,rfl,cy,cx,_,cz,_⟩:=HMW.out.at_ HQ.out hkq
   have hpm:=(zdz _ _ (zch (sv:=sv) (hop:=hop) (hops:=hops) (L:=L) (ds:=ds) (i:=k) (by rw [← HQ.out];exact hkq))).1
   rw [HM.out] at hpm
   obtain ⟨u,hu⟩:∃ u,u=zaq sv hop hops L ds k:=⟨_,rfl⟩
   rw [← hu] at cy hpm
   have HU:=Lib.hid hu
   clear cx cz hu
   go_upto_region 14 with (at_make;refine wpList_make_full _ rfl _ _ 33 rfl W.heap.size 5 i2 (.int .u8 0) 1 (Lead.of Tryd.underlying33) hi2 hy1 hy2 .i64 .i64 _ _ 32 rfl rfl (by omega) (by omega) (by rw [hy3];omega) (by unfold maxLen;omega) (Nat.le_refl _) ?_;intro w4 hown4 hgrow4;obtain ⟨hrow4,hb4,hl4⟩:=zc7 rfl hown4 hgrow4;obtain ⟨z0,f0⟩:=hrow4 0 _ rfl;rw [z50] at hown4;have HS4:=Lib.hid (zwn hown4 (.int .u8 ((u:Int)+1)) (show 0<32 by omega));clear hown4 hgrow4 hrow4)
   have hb5:Below W.heap.size W (w4.setCell ⟨W.heap.size,0,none⟩ (.int .u8 ((u:Int)+1))):=hb4.setCell (p:=⟨W.heap.size,0,none⟩) (Nat.le_refl _) _
   have hown5:=zhn HOWN.out hb5
   have hs6:w3.heap.size≤(w4.setCell ⟨W.heap.size,0,none⟩ (.int .u8 ((u:Int)+1))).heap.size:=by rw [zah];have:=hb4.size;omega
   have HS5:=Lib.hid (zwp HS4.out hszW)
   clear HS4 d0 d1 d2
   generalize w4.setCell ⟨W.heap.size,0,none⟩ (.int .u8 ((u:Int)+1))=w5 at *
   have hk40:k≤40:=by omega
   go_wp2_with (at_builtin;refine zuz rfl _ _ 22 rfl w3.heap.size 33 i1 (.slice none 0 0) 24 (Lead.of Tryd.underlying22) hi1 hz1 hz2 hz3 rfl _ _ _ rfl hown5 _ _ rfl rfl (by unfold maxLen;omega) (by omega) hs6 ?_;intro v6 w6 hown6 hgrow6)
   refine ⟨⟨k+1,by omega,by congr 1,Lib.hid ⟨_,hown6,?_⟩,Lib.hid (zt3 hown5 hgrow6 (bgo HB.out hb5) hs6 (Nat.le_refl _))⟩,by show q - ((k:Int)+1).toNat<q - (k:Int).toNat;omega⟩
   have hen:=zq0 (e:=5) (hown5.alloc (.cells #[.slice (some ⟨W.heap.size,0,none⟩) 32 32] 33)) (by decide)
   have hp5:zbj w5 w3.heap.size us (repL sv hop hops L ds k):=⟨HPAR.out.1,fun i hi=>zhn (HPAR.out.2 i hi) hb5⟩
   have e:repL sv hop hops L ds (k+1)=repL sv hop hops L ds k++[rpl u]:=by
    unfold repL
    rw [List.range_succ,List.map_append,HU.out]
    rfl
   rw [e]
   refine ((hp5.alloc _).keep hgrow6 hen).snoc ?_
   have h7:=zsk (HS5.out.alloc (.cells #[.slice (some ⟨W.heap.size,0,none⟩) 32 32] 33)) hgrow6 hen
   rw [znf,← zsc]
   exact h7
  ·have hkq':q=k:=by omega
   subst hkq'
   have hbW:=bgo HBW.out HB.out
   have hmb:=zv9 (sv:=sv) (hop:=hop) (hops:=hops) (ds:=ds) HM.out
   rw [← HQ.out] at hmb
   have C2:=zs2 (.slice X q x) (.slice Z q z) Y A14 q y m q c14 (zdf sv hop hops L ds) us (repL sv hop hops L ds q) W rfl rfl (by rw [zdc];exact HQ.out.symm) HMW.out.rf (by omega) (zng q) (Rd.of_own HOWN.out) HPAR.out.parts.o (by unfold maxLen;omega) (by unfold maxLen;omega) hmb
   have hfl:(zdf sv hop hops L ds).length=q:=by rw [zdc];exact HQ.out.symm
   have HFL:=Lib.hid hfl
   clear hfl hmb
   go_upto_region 17 with ((with_reducible refine C2.mono ?_);rintro e w5 ⟨A2,bs2,rfl,rU,pU,hb5⟩)
   have HM5:=Lib.hid (HMW.out.below hb5)
   have HB5:=Lib.hid (bgo hbW hb5)
   have RU:=Lib.hid rU
   have PU:=Lib.hid pU
   clear rU pU hb5 hbW d0 d1 d2 C2
   go_wp2_with fail
   go_loopw [99] (fun i wr=>∃ k:Nat,k≤m∧i=.int .i64 k∧Hid (Below w5.heap.size w5 wr)) (fun i _=>m - (intOf i).toNat)
   case atStart=>exact ⟨0,Nat.zero_le _,rfl,Lib.hid brf⟩
   case round =>
    rename World=>V
    obtain ⟨i,hi,rfl,HV⟩:=hrel
    by_cases him:i<m
    ·have r3:(i:Int)<m:=by omega
     obtain ⟨b,o,rfl,hlb,hc⟩:=(RU.out.below HV.out).at_ (by rw [PU.out.1,zro];omega)
     have ci:=hc i _ (zik (by rw [PU.out.1,zro];exact him))
     obtain ⟨B1,b1,hv,h1,_,hrr⟩:=(PU.out.below HV.out).2 i (by rw [zro];exact him)
     have hbk:(bkL (zdf sv hop hops L ds) (repL sv hop hops L ds q) m).getD i []=zbc (zdf sv hop hops L ds) (repL sv hop hops L ds q) i q:=by
      unfold bkL
      rw [HFL.out]
      simp [List.getD,him]
     have h32:(zbc (zdf sv hop hops L ds) (repL sv hop hops L ds q) i q).length=32:=zek q fun j hj=>by rw [zkr hj,znf]
     rw [hbk] at hrr
     rw [hv,hbk,h32] at ci
     have H32:=Lib.hid h32
     have HRR:=Lib.hid hrr
     have HMV:=Lib.hid (HM5.out.below HV.out)
     have d0:=HMV.out.c0
     have d1:=HMV.out.c1
     have d2:=HMV.out.c2
     have r4:(i:Int)<64:=by omega
     clear hc hv h1 hrr hbk h32
     go_wp2_with (at_make;refine wpList_make_full _ rfl _ _ 33 rfl V.heap.size 5 i2 (.int .u8 0) 1 (Lead.of Tryd.underlying33) hi2 hy1 hy2 .i64 .i64 _ _ 32 rfl rfl (by omega) (by omega) (by rw [hy3];omega) (by unfold maxLen;omega) (Nat.le_refl _) ?_;intro w6 hown6 hgrow6;obtain ⟨hrow6,hb6,hl6⟩:=zc7 rfl hown6 hgrow6;clear hown6 hgrow6;have HM6:=Lib.hid (HMV.out.below hb6);clear d0 d1 d2;have d0:=HM6.out.c0;have d1:=HM6.out.c1;have d2:=HM6.out.c2)
     have HR6:=Lib.hid hrow6
     clear hrow6
     rename World=>w6
     go_loopw [108] (fun x wr=>∃ j:Nat,j≤q∧x=.int .i64 j∧Hid (VRow wr V.heap.size (nums .u8 (zbc (zdf sv hop hops L ds) (repL sv hop hops L ds q) i j)))∧Hid (Below V.heap.size V wr)∧V.heap.size<wr.heap.size) (fun x _=>q - (intOf x).toNat)
     case atStart=>exact ⟨0,Nat.zero_le _,rfl,Lib.hid (by rw [zbc,nums,List.map_replicate];exact HR6.out),Lib.hid hb6,hl6⟩
     case round =>
      rename World=>U
      obtain ⟨j,hj,rfl,HRW,HBU,hlU⟩:=hrel
      have HMU:=Lib.hid (HMV.out.below HBU.out)
      clear d0 d1 d2
      have d0:=HMU.out.c0
      have d1:=HMU.out.c1
      have d2:=HMU.out.c2
      by_cases hjq:j<q
      ·have r2:(j:Int)<q:=by omega
       obtain ⟨bx,ox,by_,oy,bz,oz,B2,b2,C2,b3,rfl,rfl,rfl,cy,cx,_,cz,_⟩:=HMU.out.at_ HQ.out hjq
       obtain ⟨u,hu⟩:∃ u,u=zaq sv hop hops L ds j:=⟨_,rfl⟩
       rw [← hu] at cy
       have HU:=Lib.hid hu
       clear cx cz hu ci
       by_cases e:u=i
       ·subst e
        have hset:=HRW.out.set (k:=0) (.int .u8 ((u:Int)+1))
        have hbs:=z08 (sv:=sv) (hop:=hop) (hops:=hops) (L:=L) (ds:=ds) (k:=j) (by rw [← HQ.out];exact hjq) HU.out.symm
        rw [← HQ.out] at hbs
        rw [hbs] at hset
        obtain ⟨a0,g0⟩:=HRW.out 0 _ (za4 (by rw [zek j fun i hi=>by rw [zkr (by omega),znf]];omega))
        have HSET:=Lib.hid hset
        clear hset hbs
        go_wp2_with fail
        refine ⟨⟨j+1,by omega,by congr 1,HSET,Lib.hid (HBU.out.setCell (p:=⟨V.heap.size,0,none⟩) (Nat.le_refl _) _),by rw [zah];exact hlU⟩,by show q - ((j:Int)+1).toNat<q - (j:Int).toNat;omega⟩
       ·have e':¬ (u:Int)=i:=by omega
        have hst:zbc (zdf sv hop hops L ds) (repL sv hop hops L ds q) i (j+1)=zbc (zdf sv hop hops L ds) (repL sv hop hops L ds q) i j:=by
         rw [zbc,zco (by rw [← HQ.out];exact hjq),← HU.out,if_neg e']
        have HST:=Lib.hid hst
        clear hst
        go_wp2_with fail
        exact ⟨⟨j+1,by omega,by congr 1,Lib.hid (by rw [HST.out];exact HRW.out),HBU,hlU⟩,by show q - ((j:Int)+1).toNat<q - (j:Int).toNat;omega⟩
      ·have hjq':q=j:=by omega
       subst hjq'
       have hby:Byt (zbc (zdf sv hop hops L ds) (repL sv hop hops L ds q) i q):=zmx (fun ys hy=>by
        obtain ⟨a,ha,rfl⟩:=List.mem_map.1 hy
        have:=(zdz _ _ (zch (sv:=sv) (hop:=hop) (hops:=hops) (L:=L) (ds:=ds) (i:=a) (by rw [← HQ.out];simpa using ha))).1
        rw [HM.out] at this
        exact z2h (by omega)) q
       have CS:=zhf B1 (some ⟨V.heap.size,0,none⟩) 32 b1 32 32 _ _ U H32.out H32.out (HRR.out.below HBU.out) (HRW.out.rd hlU) hby hby
       clear ci hby
       go_wp2_with ((with_reducible refine CS.mono ?_);rintro e w7 ⟨he,rfl⟩;simp only [decide_true] at he;subst he)
       exact ⟨⟨i+1,by omega,by congr 1,Lib.hid (bgo HV.out HBU.out)⟩,by show m - ((i:Int)+1).toNat<m - (i:Int).toNat;omega⟩
    ·have him':m=i:=by omega
     subst him'
     go_wp2_with fail
     go_ret
     exact ⟨rfl,bgo HB5.out HV.out⟩
end
end Go.Proofs.YtelgmbomkojmaaaDoor
