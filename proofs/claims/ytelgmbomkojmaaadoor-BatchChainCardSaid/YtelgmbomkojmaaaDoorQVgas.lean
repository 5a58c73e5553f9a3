/- A pack: Vg. -/
import Derived.Test.YtelgmbomkojmaaaDoorQVcao
import Derived.Test.YtelgmbomkojmaaaDoorQVeaq
namespace Go.Proofs.YtelgmbomkojmaaaDoor
set_option linter.all false
set_option maxRecDepth 100000
section
open Go.Conc Go.ConcN Go.ConcN.Gen Go.RowKit Go.Conc.Lib Go.ConcR.Gen
open Go.ConcR (KK wgBlock WgAt stA smA rd wr Payload DC0)
def D1 (ld:Bool)(M o:Nat→Prop)(w w':World)(es:Array Event): Prop:=w'=w∧∀ e∈es,ld=true∧EvI M o e
theorem zaf {ld:Bool}{M o:Nat→Prop}{w:World}{es:Array Event}(h:∀ e∈es,False): D1 ld M o w w es:=⟨rfl,fun e he=>(h e he).elim⟩
theorem d1_e {ld:Bool}{M o:Nat→Prop}{w:World}: D1 ld M o w w #[]:=zaf (fun e he=>by simp at he)
section
variable {P:Program} {main:Bool} {ty:TypeId} {Wg:Nat} {ld:Bool} {M o:Nat→Prop} {g:Goroutine} {w:World}
theorem zqo (n:Nat){S:(Nat→Prop)→(Nat→Prop)→Goroutine→World→Prop}(h:Goes P main (Oth ty Wg M) (D1 ld M o) (fun g w=>S M o g w) n g w): Run P main ty Wg ld S M o g w :=
 (zgf (o:=o) (fun _ _ h=>h) (fun a b es hd=>by obtain ⟨rfl,h⟩:=hd;exact ⟨.rfl',rfl,h⟩) n g w h).mono fun M' o' g w ⟨e1,e2,hs⟩=>by subst e1 e2;exact hs
theorem zc0 (n:Nat){S:(Nat→Prop)→(Nat→Prop)→Goroutine→World→Prop}(h:Goes P main (Oth ty Wg M) (D1 ld M o) (fun g w=>Run P main ty Wg ld S M o g w) n g w): Run P main ty Wg ld S M o g w :=
 (zqo (S:=fun M' o' g w=>Run P main ty Wg ld S M' o' g w) n h).bind fun _ _ _ _ h=>h
end
theorem za0 {M o:Nat→Prop}{b i:Nat}(h:M b): EvI M o ⟨.cell ⟨b,i,none⟩,false,false⟩:=⟨rfl,h,fun e=>by cases e⟩
structure zey where
 Wg:Nat
 bP:Nat
 bS:Nat
 bH:Nat
 bK:Nat
 bL:Nat
 bB:Nat
 bG:Nat
def zey.ptrs (x:zey): Array Value:=#[.pointer (some ⟨x.Wg,0,none⟩),.pointer (some ⟨x.bP,0,none⟩),.pointer (some ⟨x.bS,0,none⟩),.pointer (some ⟨x.bH,0,none⟩),.pointer (some ⟨x.bK,0,none⟩),.pointer (some ⟨x.bL,0,none⟩),.pointer (some ⟨x.bB,0,none⟩),.pointer (some ⟨x.bG,0,none⟩)]
structure WIn where
 c:Nat
 cB:Nat
 cG:Nat
 n:Nat
 cap:Nat
 server:Value
 hop:Int
 hops:Int
 ad:Option Addr
 bR:Nat
 oR:Nat
 part:Nat→Value
structure WFct (x:zey)(y:WIn)(M:Nat→Prop)(w:World): Prop where
 mP:M x.bP
 mS:M x.bS
 mH:M x.bH
 mK:M x.bK
 mL:M x.bL
 mB:M x.bB
 mG:M x.bG
 mR:0<y.n→M y.bR
 fP:w.cell? ⟨x.bP,0,none⟩=some (.chan (some y.c))
 fS:w.cell? ⟨x.bS,0,none⟩=some y.server
 fH:w.cell? ⟨x.bH,0,none⟩=some (.int .i64 y.hop)
 fK:w.cell? ⟨x.bK,0,none⟩=some (.int .i64 y.hops)
 fL:w.cell? ⟨x.bL,0,none⟩=some (.slice y.ad y.n y.cap)
 fA:0<y.n→y.ad=some ⟨y.bR,y.oR,none⟩
 fB:w.cell? ⟨x.bB,0,none⟩=some (.chan (some y.cB))
 fG:w.cell? ⟨x.bG,0,none⟩=some (.chan (some y.cG))
 fR:∀ p,p<y.n→w.cell? ⟨y.bR,y.oR+p,none⟩=some (y.part p)
theorem zbf {ty:TypeId}{Wg:Nat}{M:Nat→Prop}{w w₁:World}(r:Oth ty Wg M w w₁){b i:Nat}(hb:M b): w₁.cell? ⟨b,i,none⟩=w.cell? ⟨b,i,none⟩:=by
 unfold World.cell?
 rw [r.keep b hb]
theorem WFct.rely {x:zey}{y:WIn}{ty:TypeId}{Wg:Nat}{M:Nat→Prop}{w w₁:World}(h:WFct x y M w)(r:Oth ty Wg M w w₁): WFct x y M w₁ :=
 ⟨h.mP,h.mS,h.mH,h.mK,h.mL,h.mB,h.mG,h.mR,(zbf r h.mP).trans h.fP,(zbf r h.mS).trans h.fS,(zbf r h.mH).trans h.fH,(zbf r h.mK).trans h.fK,(zbf r h.mL).trans h.fL,h.fA,(zbf r h.mB).trans h.fB,(zbf r h.mG).trans h.fG,
  fun p hp=>(zbf r (h.mR (by omega))).trans (h.fR p hp)⟩
def WKn (E:zar)(x:zey)(y:WIn)(M:Nat→Prop)(w0 w:World): Prop:=Kn E M w0 w∧WFct x y M w
theorem WKn.rely {E:zar}{x:zey}{y:WIn}{M:Nat→Prop}{w0 w w₁:World}(h:WKn E x y M w0 w)(r:Oth E.ty E.Wg M w w₁): WKn E x y M w0 w₁:=⟨rl h.1 r,h.2.rely r⟩
noncomputable def zk2:Code:=Tryd.f30.body.getD .skip
noncomputable def LB30:Code:=match zk2 with|.seq _ (.seq _ (.block _ (.loop c)))=>c|_=>.skip
noncomputable def bot:Frame:={ (default:Frame) with fn:=Tryd.prog.funcs.size,defers:=[],mode:=.panicking [goexitEntry] }
def call30 (x:zey): Deferred:={ target:=.fn (.func 30) x.ptrs,args:=#[] }
theorem zxy (x:zey)(w:World): stepG Tryd.prog false (born Tryd.prog (call30 x)) w=.go (G ((baseD 30).at ⟨#[.pointer (some ⟨x.Wg,0,none⟩),.pointer (some ⟨x.bP,0,none⟩),.pointer (some ⟨x.bS,0,none⟩),.pointer (some ⟨x.bH,0,none⟩),.pointer (some ⟨x.bK,0,none⟩),.pointer (some ⟨x.bL,0,none⟩),.pointer (some ⟨x.bB,0,none⟩),.pointer (some ⟨x.bG,0,none⟩),undef,undef,undef,undef,undef,undef,undef,undef,undef,undef,undef,undef,undef,undef,undef,undef,undef,undef,undef,undef,undef,undef,undef,undef,undef,undef,undef,undef,undef],[]⟩ [.code zk2]) [bot]) w #[]:=by
 simp [born,call30,zey.ptrs,stepG,unwind,callDeferred,invoke,callFunc,Tryd.func30,Tryd.f30,seen,GStep.after,G,Frame.enter,Frame.at,baseD,bot,zk2]
theorem zvv (T:Array Value): QuitsD Tryd.prog 2 0 (G { (baseD 30).at ⟨T,[]⟩ [] with mode:=.returning } [bot]):=by
 refine QuitsD.ctl (g':=G bot []) rfl (fun w=>?_) ?_
 ·simp [G,stepG,unwind,doReturn,results,Frame.at,baseD,bot,Tryd.func30,Tryd.f30,seen,GStep.after,goexitEntry]
 refine QuitsD.ctl (g':={ G bot [] with status:=.finished }) rfl (fun w=>?_) ⟨rfl,rfl⟩
 simp [G,stepG,unwind,bot,goexitEntry,Frame.catches]
 rfl
def IsT (x:zey)(y:WIn)(T:Array Value): Prop:=∃ v8 v9 v10 v11 v13 v14 v15 v16 v17 v18 v19 v20 v21 v22 v23 v24 v25 v26 v27 v28 v29 v30 v31 v32 v33 v34 v35 v36:Value,T=#[.pointer (some ⟨x.Wg,0,none⟩),.pointer (some ⟨x.bP,0,none⟩),.pointer (some ⟨x.bS,0,none⟩),.pointer (some ⟨x.bH,0,none⟩),.pointer (some ⟨x.bK,0,none⟩),.pointer (some ⟨x.bL,0,none⟩),.pointer (some ⟨x.bB,0,none⟩),.pointer (some ⟨x.bG,0,none⟩),v8,v9,v10,v11,.chan (some y.c),v13,v14,v15,v16,v17,v18,v19,v20,v21,v22,v23,v24,v25,v26,v27,v28,v29,v30,v31,v32,v33,v34,v35,v36]
noncomputable def ops2:Array Oper:=match LB30 with|.seq (.region _ o _) _=>o|_=>#[]
noncomputable def tl2:Code:=match LB30 with|.seq _ c=>c|_=>.skip
def z28 (x:zey): Deferred:=dcall 31 #[.pointer (some ⟨x.Wg,0,none⟩)]
noncomputable def zf7 (x:zey)(T:Array Value): Goroutine:=G ((baseD 30).at ⟨T,[z28 x]⟩ [.inRegion ops2 [0,1],.code tl2,.inLoop LB30,.inBlock 0]) [bot]
section
variable {E:zar} {x:zey} {y:WIn} {M o:Nat→Prop} {w0:World}
set_option maxRecDepth 100000 in
set_option maxHeartbeats 4000000 in
theorem z4u (hP:E.P=Tryd.prog){S:Kp}(hS:∀ T w,IsT x y T→WKn E x y M w0 w→S M o (zf7 x T) w)(w:World)(hK:WKn E x y M w0 w): RunW E S M o (born Tryd.prog (call30 x)) w:=by
 show Run E.P false E.ty E.Wg true S M o _ _
 rw [hP]
 refine zqo 40 ?_
 refine Goes.step rfl (fun w₁ h₁=>?_)
 replace hK:=WKn.rely hK h₁
 clear h₁
 rw [zxy]
 simp only [goes_go]
 refine ⟨by (refine zaf ?_;intro e he;simp at he),?_⟩
 simp only [zk2,Tryd.f30,Option.getD_some]
 (refine Goes.step rfl (fun _ h₁=>?_);replace hK:=WKn.rely hK h₁;clear h₁;rw [stepG_seq];simp only [goes_go];refine ⟨d1_e,?_⟩)
 (refine Goes.step rfl (fun _ h₁=>?_);replace hK:=WKn.rely hK h₁;clear h₁;rw [stepG_region];simp only [goes_go,List.size_toArray,List.length_cons,List.length_nil,Nat.reduceAdd,Nat.zero_add,List.range,List.range.loop];refine ⟨d1_e,?_⟩)
 (refine Goes.step rfl (fun _ h₁=>?_);replace hK:=WKn.rely hK h₁;clear h₁;rw [stepG_defer rfl rfl (by k_ne) rfl];simp only [goes_go];refine ⟨d1_e,?_⟩;walk_nrm)
 (refine Goes.step rfl (fun _ h₁=>?_);replace hK:=WKn.rely hK h₁;clear h₁;rw [stepG_region_end];simp only [goes_go];refine ⟨d1_e,?_⟩)
 (refine Goes.step rfl (fun _ h₁=>?_);replace hK:=WKn.rely hK h₁;clear h₁;rw [stepG_seq];simp only [goes_go];refine ⟨d1_e,?_⟩)
 (refine Goes.step rfl (fun _ h₁=>?_);replace hK:=WKn.rely hK h₁;clear h₁;rw [stepG_region];simp only [goes_go,List.size_toArray,List.length_cons,List.length_nil,Nat.reduceAdd,Nat.zero_add,List.range,List.range.loop];refine ⟨d1_e,?_⟩)
 (refine Goes.step rfl (fun _ h₁=>?_);replace hK:=WKn.rely hK h₁;clear h₁)
 refine goes_oper_k rfl rfl (by k_ne) (fun K hKx=>?_)
 have hx:=hK.2.fP
 go_simp
 refine hKx _ _ ⟨⟨rfl,fun e he=>?_⟩,?_⟩
 ·have hm:=mem_listed he
  simp [go_sem, *] at hm
  subst hm
  exact ⟨rfl,za0 hK.2.mP⟩
 clear hKx K hx
 (refine Goes.step rfl (fun _ h₁=>?_);replace hK:=WKn.rely hK h₁;clear h₁;rw [stepG_region_end];simp only [goes_go];refine ⟨d1_e,?_⟩)
 (refine Goes.step rfl (fun _ h₁=>?_);replace hK:=WKn.rely hK h₁;clear h₁;rw [stepG_block];simp only [goes_go];refine ⟨d1_e,?_⟩)
 (refine Goes.step rfl (fun _ h₁=>?_);replace hK:=WKn.rely hK h₁;clear h₁;rw [stepG_loop];simp only [goes_go];refine ⟨d1_e,?_⟩)
 (refine Goes.step rfl (fun _ h₁=>?_);replace hK:=WKn.rely hK h₁;clear h₁;rw [stepG_seq];simp only [goes_go];refine ⟨d1_e,?_⟩)
 (refine Goes.step rfl (fun _ h₁=>?_);replace hK:=WKn.rely hK h₁;clear h₁;rw [stepG_region];simp only [goes_go,List.size_toArray,List.length_cons,List.length_nil,Nat.reduceAdd,Nat.zero_add,List.range,List.range.loop];refine ⟨d1_e,?_⟩)
 refine Goes.stop (fun w₁ h₁=>?_)
 exact hS _ _ ⟨_,_,_,_,_,_,_,_,_,_,_,_,_,_,_,_,_,_,_,_,_,_,_,_,_,_,_,_,rfl⟩ (hK.rely h₁)
end
end
end Go.Proofs.YtelgmbomkojmaaaDoor
