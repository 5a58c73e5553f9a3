/- A pack: Vo. -/
import Derived.Test.YtelgmbomkojmaaaDoorQVnaz
namespace Go.Proofs.YtelgmbomkojmaaaDoor
set_option linter.all false
set_option maxRecDepth 100000
section
open Go.Conc Go.ConcN Go.ConcN.Gen Go.RowKit Go.Conc.Lib Go.ConcR.Gen
open Go.ConcR (KK wgBlock WgAt stA smA rd wr Payload DC0)
section
variable {E:zar} {S:World→Prop} {Mi M o:Nat→Prop} {b₀:Frame} {a₀:Act} {ops₀:Array Oper} {i₀:Nat} {rest₀:List Nat} {k₀:List Item} {cs:List Frame}
def SM (S:World→Prop)(M:Nat→Prop)(w:World): Prop:=S w∧∀ b,M b→b<w.heap.size
theorem SM.rely (hS:∀ {w w₁:World},S w→Oth E.ty E.Wg Mi w w₁→S w₁)(hMi:∀ b,Mi b→M b){w w₁:World}(h:SM S M w)(r:Oth E.ty E.Wg M w w₁): SM S M w₁ :=
 ⟨hS h.1 (r.weak hMi),fun b hb=>Nat.lt_of_lt_of_le (h.2 b hb) r.size⟩
set_option maxRecDepth 100000 in
set_option maxHeartbeats 8000000 in
theorem z4g (hP:E.P=Tryd.prog)(hn64:E.n≤64)(hS:∀ {w w₁:World},S w→Oth E.ty E.Wg Mi w w₁→S w₁)(hSl:∀ {w},S w→WgLive E.ty E.Wg w)(hMi:∀ b,Mi b→M b){Next:Kp}(hN:∀ bA T w,¬ M bA→bA≠E.Wg→(∃ w',S w'∧w'.heap.size=bA)→IsQ E bA 0 T→GKn S (fun b=>M b∨b=bA) bA (zbc E.n []) w→RunM E Next (fun b=>M b∨b=bA) (fun b=>o b∨b=bA) (atG T cs) w)(w:World)(hK:SM S M w): RunM E Next M o (G ((base 32).at ⟨#[.chan (some E.cG),.chan (some E.cB),.int .i64 E.n,undef,undef,undef,undef,undef,undef,undef,undef,undef,undef,undef,undef,undef,undef,undef,undef,undef,undef,undef,undef,undef,undef,undef,undef,undef,undef,undef,undef,undef,undef,undef,undef],[]⟩ [.code zjd]) cs) w:=by
 simp only [atG,LB3,tl12,zjd,Tryd.f32,Option.getD_some] at hN ⊢
 have rel:∀ {w w₁:World},SM S M w→Oth E.ty E.Wg M w w₁→SM S M w₁:=fun h r=>h.rely hS hMi r
 show Run E.P true E.ty E.Wg true _ _ _ _ _
 rw [hP]
 refine zc0 60 ?_
 (refine Goes.step rfl (fun _ h₁=>?_);replace hK:=rel hK h₁;clear h₁;rw [stepG_seq];simp only [goes_go];refine ⟨d1_e,?_⟩)
 (refine Goes.step rfl (fun _ h₁=>?_);replace hK:=rel hK h₁;clear h₁;rw [stepG_region];simp only [goes_go,List.size_toArray,List.length_cons,List.length_nil,Nat.reduceAdd,Nat.zero_add,List.range,List.range.loop];refine ⟨d1_e,?_⟩)
 (refine Goes.step rfl (fun _ h₁=>?_);replace hK:=rel hK h₁;clear h₁;refine goes_oper_k rfl rfl (by k_ne) (fun K9 hK9=>?_);go_simp;refine hK9 _ _ ⟨?_,?_⟩;(focus (refine zaf ?_;intro e he;have hm:=mem_listed he;simp [go_sem, *] at hm));clear hK9 K9;try w_num)
 (refine Goes.step rfl (fun _ h₁=>?_);replace hK:=rel hK h₁;clear h₁;rw [stepG_region_end];simp only [goes_go];refine ⟨d1_e,?_⟩)
 (refine Goes.step rfl (fun _ h₁=>?_);replace hK:=rel hK h₁;clear h₁;rw [stepG_seq];simp only [goes_go];refine ⟨d1_e,?_⟩)
 (refine Goes.step rfl (fun _ h₁=>?_);replace hK:=rel hK h₁;clear h₁;rw [stepG_region];simp only [goes_go,List.size_toArray,List.length_cons,List.length_nil,Nat.reduceAdd,Nat.zero_add,List.range,List.range.loop];refine ⟨d1_e,?_⟩)
 (refine Goes.step rfl (fun _ h₁=>?_);replace hK:=rel hK h₁;clear h₁;refine goes_oper_k rfl rfl (by k_ne) (fun K9 hK9=>?_);go_simp;refine hK9 _ _ ⟨?_,?_⟩;(focus (refine zaf ?_;intro e he;have hm:=mem_listed he;simp [go_sem, *] at hm));clear hK9 K9;try w_num)
 refine Goes.stop (fun w₀ h₀=>Run.stepK rfl (fun w₁ h₁=>?_))
 replace hK:=rel (rel hK h₀) h₁
 clear h₀ h₁
 obtain ⟨i54,hi54,hb54⟩:=Option.map_eq_some_iff.1 (show (Tryd.prog.info? 54).map (fun i=>(i.bytes,i.size,i.zero))=some (64,4,some zAns) by kernel_rfl)
 simp only [Prod.mk.injEq] at hb54
 obtain ⟨hb,hs,hz⟩:=hb54
 have hmk:=run_make (P:=Tryd.prog) w₁ 49 54 i54 zAns (by simp) hi54 hz .i64 .i64 E.n E.n (by omega) (by omega) (by rw [hb];omega) (by omega)
 have hme:=fun es=>events_make (P:=Tryd.prog) w₁ 49 54 i54 zAns (by simp) hi54 hz .i64 .i64 E.n E.n (by omega) (by omega) (by rw [hb];omega) (by omega) (by rw [hb];omega) es
 refine goes_oper_k rfl rfl (by k_ne) (fun K hKx=>?_)
 go_simp
 refine hKx _ _ ⟨zbo _ _ _,fun e he=>?_,?_⟩
 ·have hm:=mem_listed he
  simp [go_sem, *] at hm
 clear hKx K
 rw [zal,zal]
 have hcel:madeCells zAns.cells ((E.n:Int).toNat * i54.size)=zbc E.n []:=by rw [hs,zn6,Int.toNat_natCast];rfl
 have hnn:(E.n:Int).toNat=E.n:=Int.toNat_natCast _
 simp only [hcel,hnn] at *
 obtain ⟨bA,hq⟩:∃ q,w₁.heap.size=q:=⟨_,rfl⟩
 rw [hq]
 have hSA:∃ w',S w'∧w'.heap.size=bA:=⟨w₁,hK.1,hq⟩
 have hMA:¬ M bA:=fun h=>by have:=hK.2 bA h;omega
 have hAW:bA≠E.Wg:=fun e=>by
  obtain ⟨st,sm,hl⟩:=hSl hK.1
  unfold WgAt at hl
  have:=(Array.getElem?_eq_some_iff.1 hl).1
  omega
 have hK4:GKn S (fun b=>M b∨b=bA) bA (zbc E.n []) (w₁.alloc (.cells (zbc E.n []) 54)):=by
  refine ⟨hS hK.1 (zhc (fun b hb=>hK.2 b (hMi b hb)) (hSl hK.1) _),fun b hb=>?_,by rw [← hq];exact heap_alloc_new _ _⟩
  rw [World.size_alloc]
  rcases hb with hb|hb
  ·exact Nat.lt_succ_of_lt (hK.2 b hb)
  ·omega
 clear hK hmk hme hq hcel hnn
 change Run _ _ _ _ _ _ _ _ _ (w₁.alloc (.cells (zbc E.n []) 54))
 generalize w₁.alloc (.cells (zbc E.n []) 54)=wa at hK4 ⊢
 have relq:∀ {row:Array Value} {w w₁:World},GKn S (fun b=>M b∨b=bA) bA row w→Oth E.ty E.Wg (fun b=>M b∨b=bA) w w₁→GKn S (fun b=>M b∨b=bA) bA row w₁:=fun h r=>h.rely hS (fun b hb=>.inl (hMi b hb)) (.inr rfl) r
 refine zc0 60 ?_
 (refine Goes.step rfl (fun _ h₁=>?_);replace hK4:=relq hK4 h₁;clear h₁;refine goes_oper_k rfl rfl (by k_ne) (fun K9 hK9=>?_);go_simp;refine hK9 _ _ ⟨?_,?_⟩;(focus (refine zaf ?_;intro e he;have hm:=mem_listed he;simp [go_sem, *] at hm));clear hK9 K9;try w_num)
 (refine Goes.step rfl (fun _ h₁=>?_);replace hK4:=relq hK4 h₁;clear h₁;rw [stepG_region_end];simp only [goes_go];refine ⟨d1_e,?_⟩)
 (refine Goes.step rfl (fun _ h₁=>?_);replace hK4:=relq hK4 h₁;clear h₁;rw [stepG_seq];simp only [goes_go];refine ⟨d1_e,?_⟩)
 (refine Goes.step rfl (fun _ h₁=>?_);replace hK4:=relq hK4 h₁;clear h₁;rw [stepG_seq];simp only [goes_go];refine ⟨d1_e,?_⟩)
 (refine Goes.step rfl (fun _ h₁=>?_);replace hK4:=relq hK4 h₁;clear h₁;rw [stepG_region];simp only [goes_go,List.size_toArray,List.length_cons,List.length_nil,Nat.reduceAdd,Nat.zero_add,List.range,List.range.loop];refine ⟨d1_e,?_⟩)
 (refine Goes.step rfl (fun _ h₁=>?_);replace hK4:=relq hK4 h₁;clear h₁;refine goes_oper_k rfl rfl (by k_ne) (fun K9 hK9=>?_);go_simp;refine hK9 _ _ ⟨?_,?_⟩;(focus (refine zaf ?_;intro e he;have hm:=mem_listed he;simp [go_sem, *] at hm));clear hK9 K9;try w_num)
 (refine Goes.step rfl (fun _ h₁=>?_);replace hK4:=relq hK4 h₁;clear h₁;refine goes_oper_k rfl rfl (by k_ne) (fun K9 hK9=>?_);go_simp;refine hK9 _ _ ⟨?_,?_⟩;(focus (refine zaf ?_;intro e he;have hm:=mem_listed he;simp [go_sem, *] at hm));clear hK9 K9;try w_num)
 (refine Goes.step rfl (fun _ h₁=>?_);replace hK4:=relq hK4 h₁;clear h₁;rw [stepG_region_end];simp only [goes_go];refine ⟨d1_e,?_⟩)
 (refine Goes.step rfl (fun _ h₁=>?_);replace hK4:=relq hK4 h₁;clear h₁;rw [stepG_block];simp only [goes_go];refine ⟨d1_e,?_⟩)
 (refine Goes.step rfl (fun _ h₁=>?_);replace hK4:=relq hK4 h₁;clear h₁;rw [stepG_loop];simp only [goes_go];refine ⟨d1_e,?_⟩)
 refine Goes.stop (fun w₆ h₆=>?_)
 rw [← hP]
 exact hN bA _ w₆ hMA hAW hSA ⟨_,_,_,_,_,_,_,_,_,_,_,_,_,_,_,_,_,_,_,_,_,_,_,_,rfl⟩ (relq hK4 h₆)
set_option maxRecDepth 100000 in
set_option maxHeartbeats 8000000 in
theorem z38 (hP:E.P=Tryd.prog)(hS:∀ {w w₁:World},S w→Oth E.ty E.Wg Mi w w₁→S w₁)(hMi:∀ b,Mi b→M b){bA:Nat}(hMb:M bA){row:Array Value}{Next:Kp}(hN:∀ w,GKn S M bA row w→RunM E Next M o (G (b₀.at (a₀.put ((ops₀[i₀]?).bind (·.dst)) (.slice (some ⟨bA,0,none⟩) E.n E.n)) (.inRegion ops₀ rest₀ :: k₀)) cs) w){T:Array Value}(hT:IsQ E bA E.n T)(w:World)(hK:GKn S M bA row w): RunM E Next M o (atG T (b₀.at a₀ (.inRegion ops₀ (i₀ :: rest₀) :: k₀) :: cs)) w:=by
 obtain ⟨v8,v9,v10,v11,v14,v15,v16,v17,v18,v19,v20,v21,v22,v23,v24,v25,v26,v27,v28,v29,v30,v31,v32,v33,rfl⟩:=hT
 simp only [atG,LB3,tl12,zjd,Tryd.f32,Option.getD_some]
 have hk2:¬ (E.n:Int)<(E.n:Int):=by omega
 have rel:∀ {w w₁:World},GKn S M bA row w→Oth E.ty E.Wg M w w₁→GKn S M bA row w₁:=fun h r=>h.rely hS hMi hMb r
 show Run E.P true E.ty E.Wg true _ _ _ _ _
 rw [hP]
 refine zc0 60 ?_
 (refine Goes.step rfl (fun _ h₁=>?_);replace hK:=rel hK h₁;clear h₁;rw [stepG_seq];simp only [goes_go];refine ⟨d1_e,?_⟩)
 (refine Goes.step rfl (fun _ h₁=>?_);replace hK:=rel hK h₁;clear h₁;rw [stepG_region];simp only [goes_go,List.size_toArray,List.length_cons,List.length_nil,Nat.reduceAdd,Nat.zero_add,List.range,List.range.loop];refine ⟨d1_e,?_⟩)
 (refine Goes.step rfl (fun _ h₁=>?_);replace hK:=rel hK h₁;clear h₁;refine goes_oper_k rfl rfl (by k_ne) (fun K9 hK9=>?_);go_simp;refine hK9 _ _ ⟨?_,?_⟩;(focus (refine zaf ?_;intro e he;have hm:=mem_listed he;simp [go_sem, *] at hm));clear hK9 K9;try w_num)
 (refine Goes.step rfl (fun _ h₁=>?_);replace hK:=rel hK h₁;clear h₁;rw [stepG_region_end];simp only [goes_go];refine ⟨d1_e,?_⟩)
 (refine Goes.step rfl (fun _ h₁=>?_);replace hK:=rel hK h₁;clear h₁;rw [stepG_seq];simp only [goes_go];refine ⟨d1_e,?_⟩)
 (refine Goes.step rfl (fun _ h₁=>?_);replace hK:=rel hK h₁;clear h₁;rw [stepG_cond (t:=false) (by first|rfl|(simp [Act.eval];omega))];simp only [goes_go,if_true,if_false,Bool.false_eq_true,↓reduceIte];refine ⟨d1_e,?_⟩)
 (refine Goes.step rfl (fun _ h₁=>?_);replace hK:=rel hK h₁;clear h₁;refine goes_exit rfl ?_;refine ⟨d1_e,?_⟩)
 (refine Goes.step rfl (fun _ h₁=>?_);replace hK:=rel hK h₁;clear h₁;rw [stepG_seq];simp only [goes_go];refine ⟨d1_e,?_⟩)
 (refine Goes.step rfl (fun _ h₁=>?_);replace hK:=rel hK h₁;clear h₁;rw [stepG_region];simp only [goes_go,List.size_toArray,List.length_cons,List.length_nil,Nat.reduceAdd,Nat.zero_add,List.range,List.range.loop];refine ⟨d1_e,?_⟩)
 (refine Goes.step rfl (fun _ h₁=>?_);replace hK:=rel hK h₁;clear h₁;refine goes_oper_k rfl rfl (by k_ne) (fun K9 hK9=>?_);go_simp;refine hK9 _ _ ⟨?_,?_⟩;(focus (refine zaf ?_;intro e he;have hm:=mem_listed he;simp [go_sem, *] at hm));clear hK9 K9;try w_num)
 (refine Goes.step rfl (fun _ h₁=>?_);replace hK:=rel hK h₁;clear h₁;refine goes_oper_k rfl rfl (by k_ne) (fun K9 hK9=>?_);go_simp;refine hK9 _ _ ⟨?_,?_⟩;(focus (refine zaf ?_;intro e he;have hm:=mem_listed he;simp [go_sem, *] at hm));clear hK9 K9;try w_num)
 (refine Goes.step rfl (fun _ h₁=>?_);replace hK:=rel hK h₁;clear h₁;rw [stepG_region_end];simp only [goes_go];refine ⟨d1_e,?_⟩)
 (refine Goes.step rfl (fun _ h₁=>?_);replace hK:=rel hK h₁;clear h₁;rw [stepG_ret'];simp only [goes_go];refine ⟨d1_e,?_⟩)
 (refine Goes.step rfl (fun _ h₁=>?_);replace hK:=rel hK h₁;clear h₁;refine goes_leave1 rfl rfl Tryd.func32 rfl ⟨d1_e,?_⟩;walk_nrm)
 refine Goes.stop (fun w₆ h₆=>?_)
 rw [← hP]
 exact hN w₆ (rel hK h₆)
theorem allG (hP:E.P=Tryd.prog)(hty:E.ty=link.tWg)(hz:E.zG=zAns)(hn64:E.n≤64)(hS:∀ {w w₁:World},S w→Oth E.ty E.Wg Mi w w₁→S w₁)(hSl:∀ {w},S w→WgLive E.ty E.Wg w){bA:Nat}(hAi:¬ Mi bA){Fin:List (Nat×Ans)→Kp}{M₀:Nat→Prop}(hF:∀ got M o T w,got.length=E.n→(∀ b,Mi b→M b)→(∀ b,M b→M₀ b∨¬ Mi b∧b≠E.Wg)→M bA→IsQ E bA E.n T→GKn S M bA (zbc E.n got) w→RunM E (Fin got) M o (atG T cs) w):
  ∀ (r k:Nat),k+r=E.n→∀ got (M o:Nat→Prop) T w,got.length=k→(∀ b,Mi b→M b)→(∀ b,M b→M₀ b∨¬ Mi b∧b≠E.Wg)→M bA→o bA→IsQ E bA k T→GKn S M bA (zbc E.n got) w→RunM E (zc2 E Fin r got) M o (atG T cs) w
 | 0,k,hk,got,M,o,T,w,hg,hMi,hM0,hMb,hob,hT,hK=>by
   obtain rfl:k=E.n:=by omega
   exact hF got M o T w hg hMi hM0 hMb hT hK
 | r+1,k,hk,got,M,o,T,w,hg,hMi,hM0,hMb,hob,hT,hK=>by
   refine z5f hP hty hz hn64 hS hSl hMi hMb hob hAi (by omega) (fun p a M' o' T w hp h1 h2 h3 hT hK=>?_) hT w hK
   exact allG hP hty hz hn64 hS hSl hAi hF r (k+1) (by omega) _ M' o' T w (by simp [hg]) (fun b hb=>h1 b (hMi b hb)) (fun b hb=>(h3 b hb).elim (hM0 b) .inr) (h1 _ hMb) (h2 _ hob) hT hK
end
noncomputable def tl18:Code:=match tl16 with|.seq _ (.seq _ c)=>c|_=>.skip
noncomputable def zx6 (T:Array Value)(cs:List Frame): Goroutine:=G ((base 19).at ⟨T,[]⟩ [.code tl18]) cs
def IsO (E:zar)(s:SBx)(a0 a1 a2 a3:Value)(N bA:Nat)(T:Array Value): Prop:=∃ v12 v13 v14 v19 v20 v21 v22 v23 v24 v25 v26 v30 v31 v32 v33 v34 v35 v36 v37 v38 v39 v41 v42 v43 v44 v45 v46 v47 v48 v49 v50 v51 v52:Value,T=#[a0,a1,a2,a3,.pointer (some ⟨s.b4,0,none⟩),.pointer (some ⟨s.b5,0,none⟩),.pointer (some ⟨s.b6,0,none⟩),.pointer (some ⟨s.b7,0,none⟩),.slice none 0 0,.pointer (some ⟨s.b9,0,none⟩),.pointer (some ⟨s.b10,0,none⟩),.pointer (some ⟨E.Wg,0,none⟩),v12,v13,v14,.slice (some ⟨bA,0,none⟩) E.n E.n,undef,undef,undef,v19,v20,v21,v22,v23,v24,v25,v26,.int .i64 N,.int .i64 N,.bool false,v30,v31,v32,v33,v34,v35,v36,v37,v38,v39,(if N=0 then undef else .bool false),v41,v42,v43,v44,v45,v46,v47,v48,v49,v50,v51,v52,undef,undef,undef,undef,undef,undef,undef,undef,undef,undef,undef,undef,undef,undef]∧∀ v∈[v12,v13,v14,v19,v20,v21,v22,v23,v24,v25,v26,v30,v31,v32,v33,v34,v35,v36,v37,v38,v39,v41,v42,v43,v44,v45,v46,v47,v48,v49,v50,v51,v52],Tame v
theorem zt1 (Wg:Nat): Frame.enter Tryd.prog 33 #[.pointer (some ⟨Wg,0,none⟩)] .normal=(base link.wait).at ⟨#[.pointer (some ⟨Wg,0,none⟩),undef,undef,undef,undef,undef,undef,undef,undef,undef,undef,undef,undef,undef,undef,undef,undef,undef,undef,undef,undef,undef,undef,undef,undef,undef,undef,undef,undef,undef,undef,undef,undef,undef,undef,undef,undef,undef,undef,undef,undef,undef,undef,undef,undef,undef,undef,undef,undef,undef,undef,undef,undef,undef,undef,undef,undef,undef,undef,undef,undef,undef,undef,undef,undef,undef,undef,undef,undef,undef,undef,undef,undef,undef,undef,undef,undef,undef,undef,undef,undef,undef,undef,undef],[]⟩ [.code (body_wait link)]:=(enter_at _ Tryd.func33 (c:=body_wait link) rfl).trans (by kernel_rfl)
def EndR (E:zar)(s:SBx)(y:WIn)(Mi:Nat→Prop)(w0:World)(a0 a1 a2 a3:Value)(N:Nat)(cs:List Frame)(got:List (Nat×Ans)): Kp:=fun M o g w=>∃ bA T,g=zx6 T cs∧IsO E s a0 a1 a2 a3 N bA T∧¬ Mi bA∧M bA∧(∀ b,Mi b→M b)∧w0.heap.size≤bA∧GKn (SKn E s y Mi w0) M bA (zbc E.n got) w
section
variable {E:zar} {s:SBx} {y:WIn} {Mi M o:Nat→Prop} {w0:World} {a0 a1 a2 a3:Value} {N:Nat} {cs:List Frame}
set_option maxRecDepth 100000 in
set_option maxHeartbeats 8000000 in
theorem z43 (hP:E.P=Tryd.prog)(hty:E.ty=link.tWg)(hn:E.n=y.n)(hcG:y.cG=E.cG)(hcB:y.cB=E.cB)(hz:E.zG=zAns)(hn64:E.n≤64)(hMl:∀ b,Mi b→b<w0.heap.size)(hMi:∀ b,Mi b→M b)(hMW:¬ M E.Wg){T:Array Value}(hT:IsH E s a0 a1 a2 a3 N N T)(w:World)(hMs:∀ b,M b→b<w.heap.size)(hK:SKn E s y Mi w0 w): RunM E (MAft E (fun got=>zi0 E link (EndR E s y Mi w0 a0 a1 a2 a3 N cs got))) M (fun _=>False) (zdq T cs) w:=by
 obtain ⟨v12,v13,v14,v19,v20,v21,v22,v23,v24,v25,v26,v29,v30,v31,v32,v33,v34,v35,v36,v37,v38,v39,v41,v42,v43,v44,v45,v46,rfl,hv⟩:=hT
 simp only [zdq,LB19,tl16,zdf,Tryd.f19,Option.getD_some]
 have hNN:¬ (N:Int)<(N:Int):=by omega
 replace hK:SKM E s y Mi M w0 w:=⟨hK,hMs⟩
 clear hMs
 have rel:∀ {w w₁:World},SKM E s y Mi M w0 w→Oth E.ty E.Wg M w w₁→SKM E s y Mi M w0 w₁:=fun h r=>h.rely hMi r
 show Run E.P true E.ty E.Wg true _ _ _ _ _
 rw [hP]
 refine zc0 60 ?_
 (refine Goes.step rfl (fun _ h₁=>?_);replace hK:=rel hK h₁;clear h₁;rw [stepG_seq];simp only [goes_go];refine ⟨d1_e,?_⟩)
 (refine Goes.step rfl (fun _ h₁=>?_);replace hK:=rel hK h₁;clear h₁;rw [stepG_region];simp only [goes_go,List.size_toArray,List.length_cons,List.length_nil,Nat.reduceAdd,Nat.zero_add,List.range,List.range.loop];refine ⟨d1_e,?_⟩)
 (refine Goes.step rfl (fun _ h₁=>?_);replace hK:=rel hK h₁;clear h₁;refine goes_oper_k rfl rfl (by k_ne) (fun K9 hK9=>?_);go_simp;refine hK9 _ _ ⟨?_,?_⟩;(focus (refine zaf ?_;intro e he;have hm:=mem_listed he;simp [go_sem, *] at hm));clear hK9 K9;try w_num)
 (refine Goes.step rfl (fun _ h₁=>?_);replace hK:=rel hK h₁;clear h₁;rw [stepG_region_end];simp only [goes_go];refine ⟨d1_e,?_⟩)
 (refine Goes.step rfl (fun _ h₁=>?_);replace hK:=rel hK h₁;clear h₁;rw [stepG_seq];simp only [goes_go];refine ⟨d1_e,?_⟩)
 (refine Goes.step rfl (fun _ h₁=>?_);replace hK:=rel hK h₁;clear h₁;rw [stepG_cond (t:=false) (by first|rfl|(simp [Act.eval];omega))];simp only [goes_go,if_true,if_false,Bool.false_eq_true,↓reduceIte];refine ⟨d1_e,?_⟩)
 (refine Goes.step rfl (fun _ h₁=>?_);replace hK:=rel hK h₁;clear h₁;refine goes_exit rfl ?_;refine ⟨d1_e,?_⟩)
 (refine Goes.step rfl (fun _ h₁=>?_);replace hK:=rel hK h₁;clear h₁;rw [stepG_seq];simp only [goes_go];refine ⟨d1_e,?_⟩)
 (refine Goes.step rfl (fun _ h₁=>?_);replace hK:=rel hK h₁;clear h₁;rw [stepG_region];simp only [goes_go,List.size_toArray,List.length_cons,List.length_nil,Nat.reduceAdd,Nat.zero_add,List.range,List.range.loop];refine ⟨d1_e,?_⟩)
 (refine Goes.step rfl (fun _ h₁=>?_);replace hK:=rel hK h₁;clear h₁)
 refine goes_oper_k rfl rfl (by k_ne) (fun K hKx=>?_)
 have hx:=hK.1.2.fG
 go_simp
 refine hKx _ _ ⟨⟨rfl,fun e he=>?_⟩,?_⟩
 ·have hm:=mem_listed he
  simp [go_sem, *] at hm
  subst hm
  exact ⟨rfl,za0 (hMi _ hK.1.2.mG)⟩
 clear hKx K hx
 (refine Goes.step rfl (fun _ h₁=>?_);replace hK:=rel hK h₁;clear h₁)
 refine goes_oper_k rfl rfl (by k_ne) (fun K hKx=>?_)
 have hx:=hK.1.2.fB
 go_simp
 refine hKx _ _ ⟨⟨rfl,fun e he=>?_⟩,?_⟩
 ·have hm:=mem_listed he
  simp [go_sem, *] at hm
  subst hm
  exact ⟨rfl,za0 (hMi _ hK.1.2.mB)⟩
 clear hKx K hx
 (refine Goes.step rfl (fun _ h₁=>?_);replace hK:=rel hK h₁;clear h₁)
 refine goes_oper_k rfl rfl (by k_ne) (fun K hKx=>?_)
 have hx:=hK.1.2.fL
 go_simp
 refine hKx _ _ ⟨⟨rfl,fun e he=>?_⟩,?_⟩
 ·have hm:=mem_listed he
  simp [go_sem, *] at hm
  subst hm
  exact ⟨rfl,za0 (hMi _ hK.1.2.mL)⟩
 clear hKx K hx
 (refine Goes.step rfl (fun _ h₁=>?_);replace hK:=rel hK h₁;clear h₁;refine goes_oper_k rfl rfl (by k_ne) (fun K9 hK9=>?_);go_simp;refine hK9 _ _ ⟨?_,?_⟩;(focus (refine zaf ?_;intro e he;have hm:=mem_listed he;simp [go_sem, *] at hm));clear hK9 K9;try w_num)
 refine Goes.stop (fun w₁ h₁=>?_)
 replace hK:=rel hK h₁
 clear h₁
 refine zjl (i:=4) (by simp only [List.getElem?_toArray,List.getElem?_cons_succ,List.getElem?_cons_zero];rfl) (by rfl) (by k_ne) rfl Tryd.func32 (by kernel_rfl) rfl (fun w₂ h₂=>?_)
 replace hK:=rel hK h₂
 clear h₂
 walk_nrm
 rw [zoy,← hn,← hP]
 refine z4g (Mi:=Mi) (S:=SKn E s y Mi w0) hP hn64 (fun h r=>h.rely r) (fun h=>h.1.2) hMi (fun bA T w h1 h2 h8 hT hK=>?_) w₂ hK
 refine allG (Mi:=Mi) (S:=SKn E s y Mi w0) (M₀:=M) hP hty hz hn64 (fun h r=>h.rely r) (fun h=>h.1.2) (fun h=>h1 (hMi _ h)) (fun got M' o' T w hg hMi' hM0 hMb hT hK=>?_) E.n 0 (by omega) [] _ _ T w rfl (fun b hb=>.inl (hMi b hb)) (fun b hb=>hb.elim .inl fun e=>.inr (e ▸ ⟨fun h=>h1 (hMi _ h),h2⟩)) (.inr rfl) (.inr rfl) hT hK
 refine z38 (Mi:=Mi) (S:=SKn E s y Mi w0) hP (fun h r=>h.rely r) hMi' hMb (fun w hK=>?_) hT w hK
 have rel2:∀ {w w₁:World},GKn (SKn E s y Mi w0) M' bA (zbc E.n got) w→Oth E.ty E.Wg M' w w₁→GKn (SKn E s y Mi w0) M' bA (zbc E.n got) w₁:=fun h r=>h.rely (E:=E) (fun h r=>h.rely r) hMi' hMb r
 have hMW':¬ M' E.Wg:=fun h=>(hM0 _ h).elim hMW fun h=>h.2 rfl
 show Run E.P true E.ty E.Wg true _ _ _ _ _
 rw [hP]
 walk_nrm
 refine zc0 60 ?_
 (refine Goes.step rfl (fun _ h₁=>?_);replace hK:=rel2 hK h₁;clear h₁;refine goes_oper_k rfl rfl (by k_ne) (fun K9 hK9=>?_);go_simp;refine hK9 _ _ ⟨?_,?_⟩;(focus (refine zaf ?_;intro e he;have hm:=mem_listed he;simp [go_sem, *] at hm));clear hK9 K9;try w_num)
 (refine Goes.step rfl (fun _ h₁=>?_);replace hK:=rel2 hK h₁;clear h₁;rw [stepG_region_end];simp only [goes_go];refine ⟨d1_e,?_⟩)
 (refine Goes.step rfl (fun _ h₁=>?_);replace hK:=rel2 hK h₁;clear h₁;rw [stepG_seq];simp only [goes_go];refine ⟨d1_e,?_⟩)
 (refine Goes.step rfl (fun _ h₁=>?_);replace hK:=rel2 hK h₁;clear h₁;rw [stepG_region];simp only [goes_go,List.size_toArray,List.length_cons,List.length_nil,Nat.reduceAdd,Nat.zero_add,List.range,List.range.loop];refine ⟨d1_e,?_⟩)
 refine Goes.stop (fun w₃ h₃=>?_)
 replace hK:=rel2 hK h₃
 clear h₃
 refine zjl (i:=0) (by simp only [List.getElem?_toArray,List.getElem?_cons_succ,List.getElem?_cons_zero];rfl) (by rfl) (by k_ne) rfl Tryd.func33 (by kernel_rfl) rfl (fun w₄ h₄=>?_)
 replace hK:=rel2 hK h₄
 clear h₄
 walk_nrm
 rw [zt1]
 have H:WgLib E.P link:=hP ▸ zup
 rw [← hP]
 refine z5e H hty hMW' (w0:=w₄) (fun w₅ h₅=>?_) w₄ ⟨.refl _ _,hK.1.1.2⟩
 replace hK:=rel2 hK h₅.1
 clear h₅
 show Run E.P true E.ty E.Wg true _ _ _ _ _
 rw [hP]
 walk_nrm
 refine zc0 30 ?_
 (refine Goes.step rfl (fun _ h₁=>?_);replace hK:=rel2 hK h₁;clear h₁;rw [stepG_region_end];simp only [goes_go];refine ⟨d1_e,?_⟩)
 refine Goes.stop (fun w₆ h₆=>Run.stop (fun w₇ h₇=>?_))
 replace hK:=rel2 hK h₆
 rw [← hn]
 refine ⟨bA,_,rfl,⟨_,_,_,_,_,_,_,_,_,_,_,_,_,_,_,_,_,_,_,_,_,_,_,_,_,_,_,_,_,_,_,_,_,rfl,?_⟩,fun h=>h1 (hMi _ h),hMb,hMi',(by obtain ⟨w',hS',e⟩:=h8;have:=hS'.1.1.size;omega),rel2 hK h₇⟩
 simp only [List.forall_mem_cons,List.not_mem_nil,false_implies,implies_true,and_true] at hv ⊢
 simp [hv,zee,zec,zco,zc5,zc6,zed,zcn]
end
end
end Go.Proofs.YtelgmbomkojmaaaDoor
