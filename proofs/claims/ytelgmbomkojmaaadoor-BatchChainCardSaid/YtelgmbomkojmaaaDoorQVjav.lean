/- A pack: Vj. -/
import Derived.Test.YtelgmbomkojmaaaDoorQViau
import Derived.Test.YtelgmbomkojmaaaDoorQVdap
import Derived.Conc.TokenWalk
namespace Go.Proofs.YtelgmbomkojmaaaDoor
set_option linter.all false
set_option maxRecDepth 100000
section
open Go.Conc Go.ConcN Go.ConcN.Gen Go.RowKit Go.Conc.Lib Go.ConcR.Gen
open Go.ConcR (KK wgBlock WgAt stA smA rd wr Payload DC0)
def oddB (v:Value): Bool:=match v with|.int ..|.pointer _|.slice ..|.func ..|.nilFunc|.chan _=>true|_=>false
def Tame (v:Value): Prop:=oddB v=true∨v=.tuple #[]
theorem zee (k:IntKind)(n:Int): Tame (.int k n):=.inl rfl
theorem zec (a:Option Addr): Tame (.pointer a):=.inl rfl
theorem zco (a:Option Addr)(n c:Nat): Tame (.slice a n c):=.inl rfl
theorem zc5 (f:Fn)(x c:Array Value): Tame (.func f x c):=.inl rfl
theorem zc6 (c:Option Nat): Tame (.chan c):=.inl rfl
theorem zed:Tame (.tuple #[]):=.inr rfl
theorem zcn:Tame undef:=.inr rfl
structure SBx where
 b4:Nat
 b5:Nat
 b6:Nat
 b7:Nat
 b9:Nat
 b10:Nat
def IsH (E:zar)(s:SBx)(a0 a1 a2 a3:Value)(N k:Nat)(T:Array Value): Prop:=∃ v12 v13 v14 v19 v20 v21 v22 v23 v24 v25 v26 v29 v30 v31 v32 v33 v34 v35 v36 v37 v38 v39 v41 v42 v43 v44 v45 v46:Value,T=#[a0,a1,a2,a3,.pointer (some ⟨s.b4,0,none⟩),.pointer (some ⟨s.b5,0,none⟩),.pointer (some ⟨s.b6,0,none⟩),.pointer (some ⟨s.b7,0,none⟩),.slice none 0 0,.pointer (some ⟨s.b9,0,none⟩),.pointer (some ⟨s.b10,0,none⟩),.pointer (some ⟨E.Wg,0,none⟩),v12,v13,v14,undef,undef,undef,undef,v19,v20,v21,v22,v23,v24,v25,v26,.int .i64 N,.int .i64 k,v29,v30,v31,v32,v33,v34,v35,v36,v37,v38,v39,(if k=0 then undef else .bool false),v41,v42,v43,v44,v45,v46,undef,undef,undef,undef,undef,undef,undef,undef,undef,undef,undef,undef,undef,undef,undef,undef,undef,undef,undef,undef]∧∀ v∈[v12,v13,v14,v19,v20,v21,v22,v23,v24,v25,v26,v30,v31,v32,v33,v34,v35,v36,v37,v38,v39,v41,v42,v43,v44,v45,v46],Tame v
def SBx.wk (s:SBx)(Wg bP:Nat): zey:=⟨Wg,bP,s.b4,s.b5,s.b6,s.b7,s.b10,s.b9⟩
structure SFct (s:SBx)(y:WIn)(M:Nat→Prop)(w:World): Prop where
 mS:M s.b4
 mH:M s.b5
 mK:M s.b6
 mL:M s.b7
 mG:M s.b9
 mB:M s.b10
 mR:0<y.n→M y.bR
 fS:w.cell? ⟨s.b4,0,none⟩=some y.server
 fH:w.cell? ⟨s.b5,0,none⟩=some (.int .i64 y.hop)
 fK:w.cell? ⟨s.b6,0,none⟩=some (.int .i64 y.hops)
 fL:w.cell? ⟨s.b7,0,none⟩=some (.slice y.ad y.n y.cap)
 fA:0<y.n→y.ad=some ⟨y.bR,y.oR,none⟩
 fG:w.cell? ⟨s.b9,0,none⟩=some (.chan (some y.cG))
 fB:w.cell? ⟨s.b10,0,none⟩=some (.chan (some y.cB))
 fR:∀ p,p<y.n→w.cell? ⟨y.bR,y.oR+p,none⟩=some (y.part p)
theorem SFct.rely {s:SBx}{y:WIn}{ty:TypeId}{Wg:Nat}{M:Nat→Prop}{w w₁:World}(h:SFct s y M w)(r:Oth ty Wg M w w₁): SFct s y M w₁ :=
 ⟨h.mS,h.mH,h.mK,h.mL,h.mG,h.mB,h.mR,(zbf r h.mS).trans h.fS,(zbf r h.mH).trans h.fH,(zbf r h.mK).trans h.fK,(zbf r h.mL).trans h.fL,h.fA,(zbf r h.mG).trans h.fG,(zbf r h.mB).trans h.fB,
  fun p hp=>(zbf r (h.mR (by omega))).trans (h.fR p hp)⟩
def SKn (E:zar)(s:SBx)(y:WIn)(M:Nat→Prop)(w0 w:World): Prop:=Kn E M w0 w∧SFct s y M w
theorem SKn.rely {E:zar}{s:SBx}{y:WIn}{M:Nat→Prop}{w0 w w₁:World}(h:SKn E s y M w0 w)(r:Oth E.ty E.Wg M w w₁): SKn E s y M w0 w₁:=⟨rl h.1 r,h.2.rely r⟩
section
variable {P:Program} {main:Bool} {ty:TypeId} {Wg:Nat} {ld:Bool} {Stop:(Nat→Prop)→(Nat→Prop)→Goroutine→World→Prop} {M o:Nat→Prop}
theorem Run.stepK {g:Goroutine}{w:World}(hs:g.status=.running)(h:∀ w₁,Oth ty Wg M w w₁→(stepG P main g w₁).goes fun g' w' es=>Own1 o w₁ w'∧(∀ e∈es,ld=true∧EvI (more M w₁ w') (more o w₁ w') e)∧Run P main ty Wg ld Stop (more M w₁ w') (more o w₁ w') g' w'):
  Run P main ty Wg ld Stop M o g w:=Run.step hs fun w₁ h₁=>by
 have:=h w₁ h₁
 cases hg:stepG P main g w₁ with
 | go g' w' es=>rw [hg,goes_go] at this;exact ⟨g',w',es,rfl,this⟩
 | _=>rw [hg] at this;exact this.elim
theorem zal (K:Nat→Prop)(w:World)(ob:Obj): more K w (w.alloc ob)=fun b=>K b∨b=w.heap.size:=by
 funext b
 simp only [more,newB,World.size_alloc,eq_iff_iff]
 constructor
 ·rintro (h|h)
  ·exact .inl h
  ·exact .inr (by omega)
 ·rintro (h|h)
  ·exact .inl h
  ·exact .inr (by omega)
theorem zbo (K:Nat→Prop)(w:World)(ob:Obj): Own1 K w (w.alloc ob):=⟨fun b hb _=>Below.heap_alloc w ob b hb,by simp,rfl,rfl,rfl⟩
theorem zp8 (K:Nat→Prop)(w:World)(a:Addr)(v:Value)(h:K a.block): Own1 K w (w.setCell a v):=⟨fun b hb hk=>(aside_setCell w a v).block b (fun e=>hk (e ▸ h)),by simp,rfl,rfl,rfl⟩
theorem zfn (K:Nat→Prop)(w:World)(a:Addr)(v:Value): more K w (w.setCell a v)=K:=zdc K (by simp)
end
noncomputable def zdf:Code:=Tryd.f19.body.getD .skip
noncomputable def LB19:Code:=match zdf with|.seq _ (.seq _ (.seq _ (.seq _ (.seq (.seq _ (.block _ (.loop c))) _))))=>c|_=>.skip
noncomputable def tl16:Code:=match zdf with|.seq _ (.seq _ (.seq _ (.seq _ (.seq _ c))))=>c|_=>.skip
noncomputable def zdq (T:Array Value)(cs:List Frame): Goroutine:=G ((base 19).at ⟨T,[]⟩ [.code LB19,.inLoop LB19,.inBlock 0,.code tl16]) cs
section
variable {E:zar} {s:SBx} {y:WIn} {Mi M o:Nat→Prop} {w0:World} {a0 a1 a2 a3:Value} {N k:Nat} {cs:List Frame}
theorem SKn.relyW (hMi:∀ b,Mi b→M b){w w₁:World}(h:SKn E s y Mi w0 w)(r:Oth E.ty E.Wg M w w₁): SKn E s y Mi w0 w₁:=h.rely (r.weak hMi)
theorem zhc {w:World}(h:∀ b,Mi b→b<w.heap.size)(hl:WgLive E.ty E.Wg w)(ob:Obj): Oth E.ty E.Wg Mi w (w.alloc ob) :=
 ⟨fun b hb=>Below.heap_alloc w ob b (h b hb),by simp,rfl,rfl,rfl,fun ⟨st,sm,h2⟩=>⟨st,sm,h2.of_block (Below.heap_alloc w ob _ (by
  unfold WgAt at h2
  exact (Array.getElem?_eq_some_iff.1 h2).1))⟩⟩
def SKM (E:zar)(s:SBx)(y:WIn)(Mi M:Nat→Prop)(w0 w:World): Prop:=SKn E s y Mi w0 w∧∀ b,M b→b<w.heap.size
theorem SKM.rely (hMi:∀ b,Mi b→M b){w w₁:World}(h:SKM E s y Mi M w0 w)(r:Oth E.ty E.Wg M w w₁): SKM E s y Mi M w0 w₁:=⟨h.1.relyW hMi r,fun b hb=>Nat.lt_of_lt_of_le (h.2 b hb) r.size⟩
def RKn (E:zar)(s:SBx)(y:WIn)(Mi:Nat→Prop)(w0:World)(c bP:Nat)(w:World): Prop:=SKn E s y Mi w0 w∧w.heap[c]?=some (.chan y.n #[] false 0 0 false)∧w.cell? ⟨bP,0,none⟩=some (.chan (some c))
theorem RKn.relyW {c bP:Nat}(hMi:∀ b,Mi b→M b)(hc:M c)(hb:M bP){w w₁:World}(h:RKn E s y Mi w0 c bP w)(r:Oth E.ty E.Wg M w w₁): RKn E s y Mi w0 c bP w₁:=⟨h.1.relyW hMi r,(r.keep c hc).trans h.2.1,(zbf r hb).trans h.2.2⟩
theorem zxn (Wg:Nat): Frame.enter Tryd.prog 29 #[.pointer (some ⟨Wg,0,none⟩),.int .i64 1] .normal=(base link.add).at ⟨#[.pointer (some ⟨Wg,0,none⟩),.int .i64 1,undef,undef,undef,undef,undef,undef,undef,undef,undef,undef,undef,undef,undef,undef,undef,undef,undef,undef,undef,undef,undef,undef,undef,undef,undef,undef,undef,undef,undef,undef,undef,undef,undef,undef,undef,undef,undef,undef,undef,undef,undef,undef,undef,undef,undef,undef,undef,undef,undef,undef,undef,undef,undef,undef,undef,undef,undef,undef,undef,undef,undef,undef,undef,undef,undef,undef,undef,undef,undef,undef,undef,undef,undef,undef,undef,undef,undef,undef,undef,undef,undef,undef,undef,undef,undef,undef,undef,undef,undef,undef,undef,undef,undef,undef,undef,undef,undef,undef,undef,undef,undef,undef,undef,undef,undef,undef,undef,undef,undef,undef,undef,undef,undef,undef,undef],[]⟩ [.code (body_add link)]:=(enter_at _ zup.f_add (c:=body_add link) rfl).trans (by kernel_rfl)
def IsG (E:zar)(s:SBx)(a0 a1 a2 a3:Value)(N k bP:Nat)(T:Array Value): Prop:=∃ v14 v19 v20 v21 v22 v23 v24 v25 v26 v29 v30 v31 v32 v33 v34 v35 v36 v37 v38 v39 v40 v41 v42 v43 v44 v45 v46:Value,T=#[a0,a1,a2,a3,.pointer (some ⟨s.b4,0,none⟩),.pointer (some ⟨s.b5,0,none⟩),.pointer (some ⟨s.b6,0,none⟩),.pointer (some ⟨s.b7,0,none⟩),.slice none 0 0,.pointer (some ⟨s.b9,0,none⟩),.pointer (some ⟨s.b10,0,none⟩),.pointer (some ⟨E.Wg,0,none⟩),.int .i64 k,.pointer (some ⟨bP,0,none⟩),v14,undef,undef,undef,undef,v19,v20,v21,v22,v23,v24,v25,v26,.int .i64 N,.int .i64 k,v29,v30,v31,v32,v33,v34,v35,v36,v37,v38,v39,v40,v41,v42,v43,v44,v45,v46,undef,undef,undef,undef,undef,undef,undef,undef,undef,undef,undef,undef,undef,undef,undef,undef,undef,undef,undef,undef]∧∀ v∈[v14,v19,v20,v21,v22,v23,v24,v25,v26,v30,v31,v32,v33,v34,v35,v36,v37,v38,v39,v41,v42,v43,v44,v45,v46],Tame v
noncomputable def tl9:Code:=match LB19 with|.seq _ (.seq _ (.seq (.block _ (.seq _ (.seq _ (.seq _ c)))) _))=>c|_=>.skip
noncomputable def r15:Code:=match LB19 with|.seq _ (.seq _ (.seq _ c))=>c|_=>.skip
noncomputable def atGo (T:Array Value)(cs:List Frame): Goroutine:=G ((base 19).at ⟨T,[]⟩ [.code tl9,.inBlock 1,.code r15,.inLoop LB19,.inBlock 0,.code tl16]) cs
set_option maxRecDepth 100000 in
set_option maxHeartbeats 8000000 in
theorem z3w (hP:E.P=Tryd.prog)(hty:E.ty=link.tWg)(hMi:∀ b,Mi b→M b)(hMl:∀ b,Mi b→b<w0.heap.size)(hMW:¬ M E.Wg)(hkN:k<N)(hN4:N≤4)(hn:y.n≤64){Next:Kp}(hN:∀ c bP w T,c<w.heap.size→bP<w.heap.size→c≠bP→¬ M c→¬ M bP→(∀ b,(M b∨b=c)∨b=bP→b<w.heap.size)→RKn E s y Mi w0 c bP w→IsG E s a0 a1 a2 a3 N k bP T→RunM E Next (fun b=>(M b∨b=c)∨b=bP) (fun b=>(o b∨b=c)∨b=bP) (atGo T cs) w){T:Array Value}(hT:IsH E s a0 a1 a2 a3 N k T)(w:World)(hK:SKM E s y Mi M w0 w): RunM E (MMk E .disable (MAdd E fun v=>said E v (MMk E .enable Next))) M o (zdq T cs) w:=by
 obtain ⟨v12,v13,v14,v19,v20,v21,v22,v23,v24,v25,v26,v29,v30,v31,v32,v33,v34,v35,v36,v37,v38,v39,v41,v42,v43,v44,v45,v46,rfl,hv⟩:=hT
 simp only [zdq,LB19,tl16,zdf,Tryd.f19,Option.getD_some]
 have hkN2:(k:Int)<(N:Int):=by omega
 show Run E.P true E.ty E.Wg true _ M o _ _
 rw [hP]
 refine zc0 60 ?_
 (refine Goes.step rfl (fun _ h₁=>?_);replace hK:=(SKM.rely hMi) hK h₁;clear h₁;rw [stepG_seq];simp only [goes_go];refine ⟨d1_e,?_⟩)
 (refine Goes.step rfl (fun _ h₁=>?_);replace hK:=(SKM.rely hMi) hK h₁;clear h₁;rw [stepG_region];simp only [goes_go,List.size_toArray,List.length_cons,List.length_nil,Nat.reduceAdd,Nat.zero_add,List.range,List.range.loop];refine ⟨d1_e,?_⟩)
 (refine Goes.step rfl (fun _ h₁=>?_);replace hK:=(SKM.rely hMi) hK h₁;clear h₁;refine goes_oper_k rfl rfl (by k_ne) (fun K9 hK9=>?_);go_simp;refine hK9 _ _ ⟨?_,?_⟩;(focus (refine zaf ?_;intro e he;have hm:=mem_listed he;simp [go_sem, *] at hm));clear hK9 K9;try w_num)
 (refine Goes.step rfl (fun _ h₁=>?_);replace hK:=(SKM.rely hMi) hK h₁;clear h₁;rw [stepG_region_end];simp only [goes_go];refine ⟨d1_e,?_⟩)
 (refine Goes.step rfl (fun _ h₁=>?_);replace hK:=(SKM.rely hMi) hK h₁;clear h₁;rw [stepG_seq];simp only [goes_go];refine ⟨d1_e,?_⟩)
 (refine Goes.step rfl (fun _ h₁=>?_);replace hK:=(SKM.rely hMi) hK h₁;clear h₁;rw [stepG_cond (t:=true) rfl];simp only [goes_go,if_true,if_false,Bool.false_eq_true,↓reduceIte];refine ⟨d1_e,?_⟩)
 (refine Goes.step rfl (fun _ h₁=>?_);replace hK:=(SKM.rely hMi) hK h₁;clear h₁;rw [stepG_skip];simp only [goes_go];refine ⟨d1_e,?_⟩)
 (refine Goes.step rfl (fun _ h₁=>?_);replace hK:=(SKM.rely hMi) hK h₁;clear h₁;rw [stepG_seq];simp only [goes_go];refine ⟨d1_e,?_⟩)
 (refine Goes.step rfl (fun _ h₁=>?_);replace hK:=(SKM.rely hMi) hK h₁;clear h₁;rw [stepG_block];simp only [goes_go];refine ⟨d1_e,?_⟩)
 (refine Goes.step rfl (fun _ h₁=>?_);replace hK:=(SKM.rely hMi) hK h₁;clear h₁;rw [stepG_seq];simp only [goes_go];refine ⟨d1_e,?_⟩)
 (refine Goes.step rfl (fun _ h₁=>?_);replace hK:=(SKM.rely hMi) hK h₁;clear h₁;rw [stepG_region];simp only [goes_go,List.size_toArray,List.length_cons,List.length_nil,Nat.reduceAdd,Nat.zero_add,List.range,List.range.loop];refine ⟨d1_e,?_⟩)
 (refine Goes.step rfl (fun _ h₁=>?_);replace hK:=(SKM.rely hMi) hK h₁;clear h₁;refine goes_oper_k rfl rfl (by k_ne) (fun K9 hK9=>?_);go_simp;refine hK9 _ _ ⟨?_,?_⟩;(focus (refine zaf ?_;intro e he;have hm:=mem_listed he;simp [go_sem, *] at hm));clear hK9 K9;try w_num)
 (refine Goes.step rfl (fun _ h₁=>?_);replace hK:=(SKM.rely hMi) hK h₁;clear h₁;refine goes_oper_k rfl rfl (by k_ne) (fun K9 hK9=>?_);go_simp;refine hK9 _ _ ⟨?_,?_⟩;(focus (refine zaf ?_;intro e he;have hm:=mem_listed he;simp [go_sem, *] at hm));clear hK9 K9;try w_num)
 (refine Goes.step rfl (fun _ h₁=>?_);replace hK:=(SKM.rely hMi) hK h₁;clear h₁;rw [stepG_region_end];simp only [goes_go];refine ⟨d1_e,?_⟩)
 (refine Goes.step rfl (fun _ h₁=>?_);replace hK:=(SKM.rely hMi) hK h₁;clear h₁;rw [stepG_seq];simp only [goes_go];refine ⟨d1_e,?_⟩)
 (refine Goes.step rfl (fun _ h₁=>?_);replace hK:=(SKM.rely hMi) hK h₁;clear h₁;rw [stepG_region];simp only [goes_go,List.size_toArray,List.length_cons,List.length_nil,Nat.reduceAdd,Nat.zero_add,List.range,List.range.loop];refine ⟨d1_e,?_⟩)
 (refine Goes.step rfl (fun _ h₁=>?_);replace hK:=(SKM.rely hMi) hK h₁;clear h₁)
 refine goes_oper_k rfl rfl (by k_ne) (fun K hKx=>?_)
 have hx:=hK.1.2.fL
 go_simp
 refine hKx _ _ ⟨⟨rfl,fun e he=>?_⟩,?_⟩
 ·have hm:=mem_listed he
  simp [go_sem, *] at hm
  subst hm
  exact ⟨rfl,za0 (hMi _ hK.1.2.mL)⟩
 clear hKx K hx
 (refine Goes.step rfl (fun _ h₁=>?_);replace hK:=(SKM.rely hMi) hK h₁;clear h₁;refine goes_oper_k rfl rfl (by k_ne) (fun K9 hK9=>?_);go_simp;refine hK9 _ _ ⟨?_,?_⟩;(focus (refine zaf ?_;intro e he;have hm:=mem_listed he;simp [go_sem, *] at hm));clear hK9 K9;try w_num)
 refine Goes.stop (fun w₁ h₁=>?_)
 replace hK:=hK.rely hMi h₁
 clear h₁
 obtain ⟨i0,hi,hib⟩:=Option.map_eq_some_iff.1 (show (Tryd.prog.info? 3).map (·.bytes)=some 8 by kernel_rfl)
 have hmk:=fun w=>run_makeChan (P:=Tryd.prog) (w:=w) (t:=66) Tryd.underlying66 hi .i64 y.n (by omega) (by rw [hib];omega)
 have hme:=fun w es=>events_makeChan (P:=Tryd.prog) (w:=w) (t:=66) Tryd.underlying66 hi .i64 y.n (by omega) (by rw [hib];omega) es
 refine Run.stepK rfl (fun w₁ h₁=>?_)
 replace hK:=hK.rely hMi h₁
 clear h₁
 refine goes_oper_k rfl rfl (by k_ne) (fun K hKx=>?_)
 go_simp
 refine hKx _ _ ⟨zbo _ _ _,fun e he=>?_,?_⟩
 ·have hm:=mem_listed he
  simp [go_sem, *] at hm
 clear hKx K hmk hme
 rw [zal,zal]
 obtain ⟨c,hc⟩:∃ c,w₁.heap.size=c:=⟨_,rfl⟩
 rw [hc]
 have hMic:∀ b,Mi b→M b∨b=c:=fun b hb=>.inl (hMi b hb)
 have hMc:¬ M c:=fun h=>by have:=hK.2 c h;omega
 have hK2:SKM E s y Mi (fun b=>M b∨b=c) w0 (w₁.alloc (.chan y.n #[] false 0 0 false))∧(w₁.alloc (.chan y.n #[] false 0 0 false)).heap[c]?=some (.chan y.n #[] false 0 0 false) :=
  ⟨⟨hK.1.rely (zhc (fun b hb=>hK.2 b (hMi b hb)) hK.1.1.2 _),fun b hb=>by rw [World.size_alloc];rcases hb with hb|hb;exact Nat.lt_succ_of_lt (hK.2 b hb);omega⟩,by rw [← hc];exact heap_alloc_new _ _⟩
 clear hc
 generalize w₁.alloc (.chan y.n #[] false 0 0 false)=wa at hK2
 refine Run.stepK rfl (fun w₂ h₂=>?_)
 replace hK2:SKM E s y Mi (fun b=>M b∨b=c) w0 w₂∧w₂.heap[c]?=some (.chan y.n #[] false 0 0 false):=⟨hK2.1.rely hMic h₂,(h₂.keep c (.inr rfl)).trans hK2.2⟩
 clear h₂
 refine goes_oper_k rfl rfl (by k_ne) (fun K hKx=>?_)
 go_simp
 refine hKx _ _ ⟨zbo _ _ _,fun e he=>?_,?_⟩
 ·have hm:=mem_listed he
  simp [go_sem, *] at hm
 clear hKx K
 rw [zal,zal]
 obtain ⟨bP,hbP⟩:∃ bP,w₂.heap.size=bP:=⟨_,rfl⟩
 rw [hbP]
 have hcb:c≠bP:=fun e=>by have:=hK2.1.2 c (.inr rfl);omega
 have hMb:¬ (M bP):=fun h=>by have:=hK2.1.2 bP (.inl h);omega
 have hK3:SKM E s y Mi (fun b=>(M b∨b=c)∨b=bP) w0 (w₂.alloc (.cells #[.chan none] 66))∧(w₂.alloc (.cells #[.chan none] 66)).heap[c]?=some (.chan y.n #[] false 0 0 false)∧(w₂.alloc (.cells #[.chan none] 66)).heap[bP]?=some (.cells #[.chan none] 66) :=
  ⟨⟨hK2.1.1.rely (zhc (fun b hb=>hK2.1.2 b (.inl (hMi b hb))) hK2.1.1.1.2 _),fun b hb=>by rw [World.size_alloc];rcases hb with hb|hb;exact Nat.lt_succ_of_lt (hK2.1.2 b hb);omega⟩,
   (Below.heap_alloc _ _ _ (hK2.1.2 c (.inr rfl))).trans hK2.2,by rw [← hbP];exact heap_alloc_new _ _⟩
 clear hbP
 generalize w₂.alloc (.cells #[.chan none] 66)=wb at hK3
 have hMib:∀ b,Mi b→(M b∨b=c)∨b=bP:=fun b hb=>.inl (.inl (hMi b hb))
 refine Run.stepK rfl (fun w₃ h₃=>?_)
 replace hK3:SKM E s y Mi (fun b=>(M b∨b=c)∨b=bP) w0 w₃∧w₃.heap[c]?=some (.chan y.n #[] false 0 0 false)∧w₃.heap[bP]?=some (.cells #[.chan none] 66):=⟨hK3.1.rely hMib h₃,(h₃.keep c (.inl (.inr rfl))).trans hK3.2.1,(h₃.keep bP (.inr rfl)).trans hK3.2.2⟩
 clear h₃
 have hcl:w₃.cell? ⟨bP,0,none⟩=some (.chan none):=by unfold World.cell?;rw [hK3.2.2];rfl
 have hfz:w₃.frozen? ⟨bP,0,none⟩=false:=by unfold World.frozen?;rw [hK3.2.2];rfl
 refine goes_oper_k rfl rfl (by k_ne) (fun K hKx=>?_)
 go_simp
 try (unfold stored;go_simp)
 refine hKx _ _ ⟨zp8 _ _ _ _ (.inr rfl),fun e he=>?_,?_⟩
 ·have hm:=mem_listed he
  simp [go_sem,storedEv, *] at hm
  subst hm
  exact ⟨rfl,rfl,.inl (.inr rfl),fun _=>.inl (.inr rfl)⟩
 clear hKx K
 rw [zfn,zfn]
 have hK4:SKM E s y Mi (fun b=>(M b∨b=c)∨b=bP) w0 (w₃.setCell ⟨bP,0,none⟩ (.chan (some c)))∧RKn E s y Mi w0 c bP (w₃.setCell ⟨bP,0,none⟩ (.chan (some c))):=by
  have hWb:bP≠E.Wg:=fun e=>(by
   exfalso
   obtain ⟨st,sm,hl⟩:=hK3.1.1.1.2
   unfold WgAt at hl
   rw [← e,hK3.2.2] at hl
   cases hl)
  have ho:Oth E.ty E.Wg Mi w₃ (w₃.setCell ⟨bP,0,none⟩ (.chan (some c))):=⟨fun b hb=>(aside_setCell w₃ ⟨bP,0,none⟩ _).block b (fun e=>by have e:b=bP:=e;subst e;exact hMb (hMi _ hb)),by simp,rfl,rfl,rfl,fun ⟨st,sm,hl⟩=>⟨st,sm,hl.of_block ((aside_setCell w₃ ⟨bP,0,none⟩ _).block _ (Ne.symm hWb))⟩⟩
  refine ⟨⟨hK3.1.1.rely ho,fun b hb=>by rw [(aside_setCell w₃ ⟨bP,0,none⟩ _).size];exact hK3.1.2 b hb⟩,hK3.1.1.rely ho,((aside_setCell w₃ ⟨bP,0,none⟩ _).block c hcb).trans hK3.2.1,?_⟩
  rw [setCell_eq_setRow w₃ bP 0 _ _ (0,0) _ hK3.2.2]
  unfold World.cell?
  rw [setRow_heap w₃ bP _ _ _ _ hK3.2.2]
  rfl
 clear hcl hfz hK3
 generalize w₃.setCell ⟨bP,0,none⟩ (.chan (some c))=wc at hK4
 have rel4:∀ {w w₁:World},(SKM E s y Mi (fun b=>(M b∨b=c)∨b=bP) w0 w∧RKn E s y Mi w0 c bP w)→Oth E.ty E.Wg (fun b=>(M b∨b=c)∨b=bP) w w₁→(SKM E s y Mi (fun b=>(M b∨b=c)∨b=bP) w0 w₁∧RKn E s y Mi w0 c bP w₁) :=
  fun h r=>⟨h.1.rely hMib r,h.2.relyW hMib (.inl (.inr rfl)) (.inr rfl) r⟩
 refine zc0 60 ?_
 (refine Goes.step rfl (fun _ h₁=>?_);replace hK4:=rel4 hK4 h₁;clear h₁;rw [stepG_region_end];simp only [goes_go];refine ⟨d1_e,?_⟩)
 (refine Goes.step rfl (fun _ h₁=>?_);replace hK4:=rel4 hK4 h₁;clear h₁;rw [stepG_seq];simp only [goes_go];refine ⟨d1_e,?_⟩)
 (refine Goes.step rfl (fun _ h₁=>?_);replace hK4:=rel4 hK4 h₁;clear h₁;rw [stepG_region];simp only [goes_go,List.size_toArray,List.length_cons,List.length_nil,Nat.reduceAdd,Nat.zero_add,List.range,List.range.loop];refine ⟨d1_e,?_⟩)
 refine Goes.stop (fun w₄ h₄=>?_)
 replace hK4:=rel4 hK4 h₄
 clear h₄
 refine zjl (i:=0) (by simp only [List.getElem?_toArray,List.getElem?_cons_zero];rfl) (by rfl) (by k_ne) rfl Tryd.func29 (by kernel_rfl) rfl (fun w₅ h₅=>?_)
 replace hK4:=rel4 hK4 h₅
 clear h₅
 walk_nrm
 rw [zxn]
 have hMW2:¬ ((M E.Wg∨E.Wg=c)∨E.Wg=bP):=by
  rintro ((h|h)|h)
  ·exact hMW h
  ·obtain ⟨st,sm,hl⟩:=hK4.1.1.1.2
   unfold WgAt at hl
   rw [h,hK4.2.2.1] at hl
   cases hl
  ·obtain ⟨st,sm,hl⟩:=hK4.1.1.1.2
   have:=hl.cellSt
   have h2:=hK4.2.2.2
   rw [← h] at h2
   rw [show (⟨E.Wg,0,none⟩:Addr)=stA E.Wg from rfl] at h2
   rw [h2] at this
   cases this
 have H:WgLib E.P link:=hP ▸ zup
 rw [← hP]
 refine addP H hty hMW2 (w0:=w₅) (fun w₆ h₆=>?_) w₅ ⟨.refl _ _,hK4.1.1.1.2⟩
 replace hK4:=rel4 hK4 h₆.1
 clear h₆
 show Run E.P true E.ty E.Wg true Next _ _ _ _
 rw [hP]
 walk_nrm
 refine zc0 30 ?_
 (refine Goes.step rfl (fun _ h₁=>?_);replace hK4:=rel4 hK4 h₁;clear h₁;rw [stepG_region_end];simp only [goes_go];refine ⟨d1_e,?_⟩)
 refine Goes.stop (fun w₇ h₇=>?_)
 replace hK4:=rel4 hK4 h₇
 rw [← hP]
 refine hN c bP w₇ _ (hK4.1.2 c (.inl (.inr rfl))) (hK4.1.2 bP (.inr rfl)) hcb hMc hMb hK4.1.2 hK4.2 ?_
 refine ⟨_,_,_,_,_,_,_,_,_,_,_,_,_,_,_,_,_,_,_,_,_,_,_,_,_,_,_,rfl,?_⟩
 simp only [List.forall_mem_cons,List.not_mem_nil,false_implies,implies_true,and_true] at hv ⊢
 simp [hv,zee,zec,zco,zc5,zc6,zed,zcn]
end
end
end Go.Proofs.YtelgmbomkojmaaaDoor
