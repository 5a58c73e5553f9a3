/- A pack: Vn. -/
import Derived.Test.YtelgmbomkojmaaaDoorQVmay
import Derived.Laws.MakeOwn
import Derived.Conc.AppendWalk
namespace Go.Proofs.YtelgmbomkojmaaaDoor
set_option linter.all false
set_option maxRecDepth 100000
section
open Go.Conc Go.ConcN Go.ConcN.Gen Go.RowKit Go.Conc.Lib Go.ConcR.Gen
open Go.ConcR (KK wgBlock WgAt stA smA rd wr Payload DC0)
noncomputable def zjd:Code:=Tryd.f32.body.getD .skip
noncomputable def LB3:Code:=match zjd with|.seq _ (.seq _ (.seq (.seq _ (.block _ (.loop c))) _))=>c|_=>.skip
noncomputable def tl12:Code:=match zjd with|.seq _ (.seq _ (.seq _ c))=>c|_=>.skip
theorem zoy (a b c:Value): Frame.enter Tryd.prog 32 #[a,b,c] .normal=(base 32).at ⟨#[a,b,c,undef,undef,undef,undef,undef,undef,undef,undef,undef,undef,undef,undef,undef,undef,undef,undef,undef,undef,undef,undef,undef,undef,undef,undef,undef,undef,undef,undef,undef,undef,undef,undef],[]⟩ [.code zjd]:=(enter_at _ Tryd.func32 (c:=zjd) rfl).trans (by kernel_rfl)
def zAns:Value:=.agg #[.int .i64 0,.bool false,.slice none 0 0,.slice none 0 0]
def IsQ (E:zar)(bA k:Nat)(T:Array Value): Prop:=∃ v8 v9 v10 v11 v14 v15 v16 v17 v18 v19 v20 v21 v22 v23 v24 v25 v26 v27 v28 v29 v30 v31 v32 v33:Value,T=#[.chan (some E.cG),.chan (some E.cB),.int .i64 E.n,undef,undef,undef,.slice none 0 0,.slice (some ⟨bA,0,none⟩) E.n E.n,v8,v9,v10,v11,.int .i64 E.n,.int .i64 k,v14,v15,v16,v17,v18,v19,v20,v21,v22,v23,v24,v25,v26,v27,v28,v29,v30,v31,v32,v33,undef]
noncomputable def atG (T:Array Value)(cs:List Frame): Goroutine:=G ((base 32).at ⟨T,[]⟩ [.code LB3,.inLoop LB3,.inBlock 0,.code tl12]) cs
def GKn (S:World→Prop)(M:Nat→Prop)(bA:Nat)(row:Array Value)(w:World): Prop:=S w∧(∀ b,M b→b<w.heap.size)∧w.heap[bA]?=some (.cells row 54 (0,0))
section
variable {E:zar} {S:World→Prop} {Mi M o:Nat→Prop} {b₀:Frame} {a₀:Act} {ops₀:Array Oper} {i₀:Nat} {rest₀:List Nat} {k₀:List Item} {cs:List Frame}
theorem GKn.rely (hS:∀ {w w₁:World},S w→Oth E.ty E.Wg Mi w w₁→S w₁)(hMi:∀ b,Mi b→M b){bA:Nat}(hb:M bA){row:Array Value}{w w₁:World}(h:GKn S M bA row w)(r:Oth E.ty E.Wg M w w₁): GKn S M bA row w₁ :=
 ⟨hS h.1 (r.weak hMi),fun b hb=>Nat.lt_of_lt_of_le (h.2.1 b hb) r.size,(r.keep bA hb).trans h.2.2⟩
theorem zqa {w:World}{K:Nat→Prop}{g:Nat}{cur row:Array Value}{t:TypeId}(hg:w.heap[g]?=some (.cells cur t (0,0)))(hK:¬ K g)(hW:g≠E.Wg): Oth E.ty E.Wg K w (w.setRow g row) :=
 ⟨fun b hb=>setRow_other w g b row (fun e=>hK (e ▸ hb)),by simp,rfl,rfl,rfl,fun ⟨st,sm,hl⟩=>⟨st,sm,hl.of_block (setRow_other w g _ row (Ne.symm hW))⟩⟩
theorem zxw {w:World}{q:Nat}{cs:Array Value}{t:TypeId}(h:w.heap[q]?=some (.cells cs t (0,0)))(j:Nat)(v:Value)(hv:cs[j]?=some v): w.cell? ⟨q,j,none⟩=some v:=by
 unfold World.cell?
 rw [h]
 exact hv
theorem z5d {w:World}{g:Nat}{cur:Array Value}(hg:w.heap[g]?=some (.cells cur 54 (0,0)))(hl:WgLive E.ty E.Wg w)(hty:E.ty=link.tWg): g≠E.Wg:=fun e=>by
 obtain ⟨st,sm,h⟩:=hl
 unfold WgAt at h
 rw [← e,hg] at h
 have h:=Option.some.inj h
 unfold wgBlock at h
 injection h with h1 h2
 rw [hty] at h2
 exact absurd h2 (by unfold link;decide)
set_option maxRecDepth 100000 in
set_option maxHeartbeats 8000000 in
theorem z5f (hP:E.P=Tryd.prog)(hty:E.ty=link.tWg)(hz:E.zG=zAns)(hn64:E.n≤64)(hS:∀ {w w₁:World},S w→Oth E.ty E.Wg Mi w w₁→S w₁)(hSl:∀ {w},S w→WgLive E.ty E.Wg w)(hMi:∀ b,Mi b→M b){bA k:Nat}(hMb:M bA)(hob:o bA)(hAi:¬ Mi bA)(hk:k<E.n){Next:Nat→Ans→Kp}{got:List (Nat×Ans)}(hN:∀ p a M' o' T w,p<E.n→(∀ b,M b→M' b)→(∀ b,o b→o' b)→(∀ b,M' b→M b∨¬ Mi b∧b≠E.Wg)→IsQ E bA (k+1) T→GKn S M' bA (zbc E.n (got++[(p,a)])) w→RunM E (Next p a) M' o' (atG T cs) w){T:Array Value}(hT:IsQ E bA k T)(w:World)(hK:GKn S M bA (zbc E.n got) w): RunM E (MSel E Next) M o (atG T cs) w:=by
 obtain ⟨v8,v9,v10,v11,v14,v15,v16,v17,v18,v19,v20,v21,v22,v23,v24,v25,v26,v27,v28,v29,v30,v31,v32,v33,rfl⟩:=hT
 simp only [atG,LB3,tl12,zjd,Tryd.f32,Option.getD_some]
 have hk2:(k:Int)<(E.n:Int):=by omega
 have hwk:IntKind.i64.wrap ((k:Int)+1)=((k+1:Nat):Int):=by rw [IntKind.wrap_i64];omega
 have rel:∀ {row:Array Value} {w w₁:World},GKn S M bA row w→Oth E.ty E.Wg M w w₁→GKn S M bA row w₁:=fun h r=>h.rely hS hMi hMb r
 show Run E.P true E.ty E.Wg true _ _ _ _ _
 rw [hP]
 refine zc0 60 ?_
 (refine Goes.step rfl (fun _ h₁=>?_);replace hK:=rel hK h₁;clear h₁;rw [stepG_seq];simp only [goes_go];refine ⟨d1_e,?_⟩)
 (refine Goes.step rfl (fun _ h₁=>?_);replace hK:=rel hK h₁;clear h₁;rw [stepG_region];simp only [goes_go,List.size_toArray,List.length_cons,List.length_nil,Nat.reduceAdd,Nat.zero_add,List.range,List.range.loop];refine ⟨d1_e,?_⟩)
 (refine Goes.step rfl (fun _ h₁=>?_);replace hK:=rel hK h₁;clear h₁;refine goes_oper_k rfl rfl (by k_ne) (fun K9 hK9=>?_);go_simp;refine hK9 _ _ ⟨?_,?_⟩;(focus (refine zaf ?_;intro e he;have hm:=mem_listed he;simp [go_sem, *] at hm));clear hK9 K9;try w_num)
 (refine Goes.step rfl (fun _ h₁=>?_);replace hK:=rel hK h₁;clear h₁;rw [stepG_region_end];simp only [goes_go];refine ⟨d1_e,?_⟩)
 (refine Goes.step rfl (fun _ h₁=>?_);replace hK:=rel hK h₁;clear h₁;rw [stepG_seq];simp only [goes_go];refine ⟨d1_e,?_⟩)
 (refine Goes.step rfl (fun _ h₁=>?_);replace hK:=rel hK h₁;clear h₁;rw [stepG_cond (t:=true) (by first|rfl|(simp [Act.eval];omega))];simp only [goes_go,if_true,if_false,Bool.false_eq_true,↓reduceIte];refine ⟨d1_e,?_⟩)
 (refine Goes.step rfl (fun _ h₁=>?_);replace hK:=rel hK h₁;clear h₁;rw [stepG_skip];simp only [goes_go];refine ⟨d1_e,?_⟩)
 (refine Goes.step rfl (fun _ h₁=>?_);replace hK:=rel hK h₁;clear h₁;rw [stepG_seq];simp only [goes_go];refine ⟨d1_e,?_⟩)
 (refine Goes.step rfl (fun _ h₁=>?_);replace hK:=rel hK h₁;clear h₁;rw [stepG_block];simp only [goes_go];refine ⟨d1_e,?_⟩)
 (refine Goes.step rfl (fun _ h₁=>?_);replace hK:=rel hK h₁;clear h₁;rw [stepG_seq];simp only [goes_go];refine ⟨d1_e,?_⟩)
 (refine Goes.step rfl (fun _ h₁=>?_);replace hK:=rel hK h₁;clear h₁;rw [stepG_seq];simp only [goes_go];refine ⟨d1_e,?_⟩)
 (refine Goes.step rfl (fun _ h₁=>?_);replace hK:=rel hK h₁;clear h₁;rw [stepG_region];simp only [goes_go,List.size_toArray,List.length_cons,List.length_nil,Nat.reduceAdd,Nat.zero_add,List.range,List.range.loop];refine ⟨d1_e,?_⟩)
 (refine Goes.step rfl (fun _ h₁=>?_);replace hK:=rel hK h₁;clear h₁;refine goes_oper_k rfl rfl (by k_ne) (fun K9 hK9=>?_);go_simp;refine hK9 _ _ ⟨?_,?_⟩;(focus (refine zaf ?_;intro e he;have hm:=mem_listed he;simp [go_sem, *] at hm));clear hK9 K9;try w_num)
 (refine Goes.step rfl (fun _ h₁=>?_);replace hK:=rel hK h₁;clear h₁;rw [stepG_region_end];simp only [goes_go];refine ⟨d1_e,?_⟩)
 (refine Goes.step rfl (fun _ h₁=>?_);replace hK:=rel hK h₁;clear h₁;rw [stepG_region];simp only [goes_go,List.size_toArray,List.length_cons,List.length_nil,Nat.reduceAdd,Nat.zero_add,List.range,List.range.loop];refine ⟨d1_e,?_⟩)
 (refine Goes.step rfl (fun _ h₁=>?_);replace hK:=rel hK h₁;clear h₁;refine goes_oper_k rfl rfl (by k_ne) (fun K9 hK9=>?_);go_simp;refine hK9 _ _ ⟨?_,?_⟩;(focus (refine zaf ?_;intro e he;have hm:=mem_listed he;simp [go_sem, *] at hm));clear hK9 K9;try w_num)
 (refine Goes.step rfl (fun _ h₁=>?_);replace hK:=rel hK h₁;clear h₁;rw [stepG_region_end];simp only [goes_go];refine ⟨d1_e,?_⟩)
 (refine Goes.step rfl (fun _ h₁=>?_);replace hK:=rel hK h₁;clear h₁;rw [stepG_seq];simp only [goes_go];refine ⟨d1_e,?_⟩)
 (refine Goes.step rfl (fun _ h₁=>?_);replace hK:=rel hK h₁;clear h₁;rw [stepG_region];simp only [goes_go,List.size_toArray,List.length_cons,List.length_nil,Nat.reduceAdd,Nat.zero_add,List.range,List.range.loop];refine ⟨d1_e,?_⟩)
 refine Goes.stop (fun w₁ h₁=>Run.stop (fun w₂ h₂=>?_))
 replace hK:=rel (rel hK h₁) h₂
 clear h₁ h₂
 refine ⟨rfl,?_,?_⟩
 ·rw [hP,core_G,stepG_comm (cases:=zbb E) (blocking:=true) (shape:=.select) (w':=w₂) rfl rfl (by k_ne) (by simp [go_sem,zbb,rcase,zP,hz,zAns] <;> rfl)]
  refine congrArg (fun es=>GStep.comm _ _ _ _ _ es) ?_
  unfold listed
  refine (congrArg (seen _ _) (show _=#[] from ?_)).trans ?_
  ·kernel_rfl
  ·simp [seen]
 intro p an hp
 have hp2:(p:Int)<(E.n:Int):=by omega
 have hp0:(0:Int)≤(p:Int):=by omega
 rw [zou]
 have hW:∀ {g:Nat} {cur:Array Value} {w:World},w.heap[g]?=some (.cells cur 54 (0,0))→S w→g≠E.Wg:=fun h h2=>z5d h (hSl h2) hty
 have hu54:(match (Tryd.prog.underlying 54) with|some (.struct _)=>true|_=>false)=true:=by kernel_rfl
 cases an with
 | bad =>
   have hc:commResult (zbb E) .select (Ans.idx .bad) (Ans.val p .bad) true=.tuple #[.int .i64 1,.bool true,E.zG,.int .i64 p]:=by simp [commResult,zbb,rcase,Ans.idx,Ans.val,goInt,List.zipIdx]
   rw [hc]
   clear hc
   walk_nrm
   show Run E.P true E.ty E.Wg true (Next p .bad) _ _ _ _
   rw [hP]
   have hbd:∀ w,(Instr.build 54 #[(0,.int .i64 p)]).run Tryd.prog w=.ok (.agg #[.int .i64 p,.bool false,.slice none 0 0,.slice none 0 0]) w:=fun w=>run_build w 54 _ _ (by kernel_rfl)
   have hbe:∀ w es,(Instr.build 54 #[(0,.int .i64 p)]).events Tryd.prog w es=es:=fun w es=>by kernel_rfl
   refine zc0 60 ?_
   (refine Goes.step rfl (fun _ h₁=>?_);replace hK:=rel hK h₁;clear h₁;refine goes_oper_k rfl rfl (by k_ne) (fun K9 hK9=>?_);go_simp;refine hK9 _ _ ⟨?_,?_⟩;(focus (refine zaf ?_;intro e he;have hm:=mem_listed he;simp [go_sem, *] at hm));clear hK9 K9;try w_num)
   (refine Goes.step rfl (fun _ h₁=>?_);replace hK:=rel hK h₁;clear h₁;refine goes_oper_k rfl rfl (by k_ne) (fun K9 hK9=>?_);go_simp;refine hK9 _ _ ⟨?_,?_⟩;(focus (refine zaf ?_;intro e he;have hm:=mem_listed he;simp [go_sem, *] at hm));clear hK9 K9;try w_num)
   (refine Goes.step rfl (fun _ h₁=>?_);replace hK:=rel hK h₁;clear h₁;refine goes_oper_k rfl rfl (by k_ne) (fun K9 hK9=>?_);go_simp;refine hK9 _ _ ⟨?_,?_⟩;(focus (refine zaf ?_;intro e he;have hm:=mem_listed he;simp [go_sem, *] at hm));clear hK9 K9;try w_num)
   (refine Goes.step rfl (fun _ h₁=>?_);replace hK:=rel hK h₁;clear h₁;rw [stepG_region_end];simp only [goes_go];refine ⟨d1_e,?_⟩)
   (refine Goes.step rfl (fun _ h₁=>?_);replace hK:=rel hK h₁;clear h₁;rw [stepG_block];simp only [goes_go];refine ⟨d1_e,?_⟩)
   (refine Goes.step rfl (fun _ h₁=>?_);replace hK:=rel hK h₁;clear h₁;rw [stepG_cond (t:=false) rfl];simp only [goes_go,if_true,if_false,Bool.false_eq_true,↓reduceIte];refine ⟨d1_e,?_⟩)
   (refine Goes.step rfl (fun _ h₁=>?_);replace hK:=rel hK h₁;clear h₁;rw [stepG_cond (t:=true) rfl];simp only [goes_go,if_true,if_false,Bool.false_eq_true,↓reduceIte];refine ⟨d1_e,?_⟩)
   (refine Goes.step rfl (fun _ h₁=>?_);replace hK:=rel hK h₁;clear h₁;rw [stepG_seq];simp only [goes_go];refine ⟨d1_e,?_⟩)
   (refine Goes.step rfl (fun _ h₁=>?_);replace hK:=rel hK h₁;clear h₁;rw [stepG_region];simp only [goes_go,List.size_toArray,List.length_cons,List.length_nil,Nat.reduceAdd,Nat.zero_add,List.range,List.range.loop];refine ⟨d1_e,?_⟩)
   (refine Goes.step rfl (fun _ h₁=>?_);replace hK:=rel hK h₁;clear h₁;refine goes_oper_k rfl rfl (by k_ne) (fun K9 hK9=>?_);go_simp;refine hK9 _ _ ⟨?_,?_⟩;(focus (refine zaf ?_;intro e he;have hm:=mem_listed he;simp [go_sem, *] at hm));clear hK9 K9;try w_num)
   (refine Goes.step rfl (fun _ h₁=>?_);replace hK:=rel hK h₁;clear h₁;refine goes_oper_k rfl rfl (by k_ne) (fun K9 hK9=>?_);go_simp;refine hK9 _ _ ⟨?_,?_⟩;(focus (refine zaf ?_;intro e he;have hm:=mem_listed he;simp [go_sem, *] at hm));clear hK9 K9;try w_num)
   (refine Goes.step rfl (fun _ h₁=>?_);replace hK:=rel hK h₁;clear h₁;rw [stepG_region_end];simp only [goes_go];refine ⟨d1_e,?_⟩)
   (refine Goes.step rfl (fun _ h₁=>?_);replace hK:=rel hK h₁;clear h₁;rw [stepG_region];simp only [goes_go,List.size_toArray,List.length_cons,List.length_nil,Nat.reduceAdd,Nat.zero_add,List.range,List.range.loop];refine ⟨d1_e,?_⟩)
   (refine Goes.step rfl (fun _ h₁=>?_);replace hK:=rel hK h₁;clear h₁;refine goes_oper_k rfl rfl (by k_ne) (fun K9 hK9=>?_);go_simp;refine hK9 _ _ ⟨?_,?_⟩;(focus (refine zaf ?_;intro e he;have hm:=mem_listed he;simp [go_sem, *] at hm));clear hK9 K9;try w_num)
   (refine Goes.step rfl (fun _ h₁=>?_);replace hK:=rel hK h₁;clear h₁;refine goes_oper_k rfl rfl (by k_ne) (fun K9 hK9=>?_);go_simp;refine hK9 _ _ ⟨?_,?_⟩;(focus (refine zaf ?_;intro e he;have hm:=mem_listed he;simp [go_sem, *] at hm));clear hK9 K9;try w_num)
   (refine Goes.step rfl (fun _ h₁=>?_);replace hK:=rel hK h₁;clear h₁;refine goes_oper_k rfl rfl (by k_ne) (fun K9 hK9=>?_);go_simp;refine hK9 _ _ ⟨?_,?_⟩;(focus (refine zaf ?_;intro e he;have hm:=mem_listed he;simp [go_sem, *] at hm));clear hK9 K9;try w_num)
   (refine Goes.step rfl (fun _ h₁=>?_);replace hK:=rel hK h₁;clear h₁;refine goes_oper_k rfl rfl (by k_ne) (fun K9 hK9=>?_);go_simp;refine hK9 _ _ ⟨?_,?_⟩;(focus (refine zaf ?_;intro e he;have hm:=mem_listed he;simp [go_sem, *] at hm));clear hK9 K9;try w_num)
   (refine Goes.step rfl (fun _ h₁=>?_);replace hK:=rel hK h₁;clear h₁;refine goes_oper_k rfl rfl (by k_ne) (fun K9 hK9=>?_);go_simp;refine hK9 _ _ ⟨?_,?_⟩;(focus (refine zaf ?_;intro e he;have hm:=mem_listed he;simp [go_sem, *] at hm));clear hK9 K9;try w_num)
   refine Goes.stop (fun w3 h3=>?_)
   replace hK:=rel hK h3
   clear h3
   refine zim (te:=54) (i:=5) (by simp only [List.getElem?_toArray,List.getElem?_cons_succ,List.getElem?_cons_zero];rfl) (by rfl) (by k_ne) rfl (g:=bA) (off:=p * 4) (vs:=#[.int .i64 p,.bool false,.slice none 0 0,.slice none 0 0]) rfl rfl (by kernel_rfl) (by simp [Value.oneCell']) hMb hob (fun w₁ h₁=>(rel hK h₁).2.2) (by rw [zcr];simp;omega) (fun w₄ h₄=>?_)
   replace hK:=rel hK h₄
   clear h₄
   have hK4:GKn S M bA (zbc E.n (got++[(p,.bad)])) (w₄.setRow bA (putC (zbc E.n got) (p * 4) (#[.int .i64 p,.bool false,.slice none 0 0,.slice none 0 0]:Array Value).toList)):=by
    refine ⟨hS hK.1 (zqa hK.2.2 hAi (hW hK.2.2 hK.1)),fun b hb=>by rw [setRow_size];exact hK.2.1 b hb,?_⟩
    rw [zfl]
    exact setRow_heap _ _ _ _ _ _ hK.2.2
   generalize w₄.setRow bA (putC (zbc E.n got) (p * 4) (#[.int .i64 p,.bool false,.slice none 0 0,.slice none 0 0]:Array Value).toList)=w5 at hK4
   clear hK
   walk_nrm
   refine zc0 60 ?_
   (refine Goes.step rfl (fun _ h₁=>?_);replace hK4:=rel hK4 h₁;clear h₁;rw [stepG_region_end];simp only [goes_go];refine ⟨d1_e,?_⟩)
   (refine Goes.step rfl (fun _ h₁=>?_);replace hK4:=rel hK4 h₁;clear h₁;rw [stepG_inBlock];simp only [goes_go];refine ⟨d1_e,?_⟩)
   (refine Goes.step rfl (fun _ h₁=>?_);replace hK4:=rel hK4 h₁;clear h₁;rw [stepG_inBlock];simp only [goes_go];refine ⟨d1_e,?_⟩)
   (refine Goes.step rfl (fun _ h₁=>?_);replace hK4:=rel hK4 h₁;clear h₁;rw [stepG_region];simp only [goes_go,List.size_toArray,List.length_cons,List.length_nil,Nat.reduceAdd,Nat.zero_add,List.range,List.range.loop];refine ⟨d1_e,?_⟩)
   (refine Goes.step rfl (fun _ h₁=>?_);replace hK4:=rel hK4 h₁;clear h₁;refine goes_oper_k rfl rfl (by k_ne) (fun K9 hK9=>?_);go_simp;refine hK9 _ _ ⟨?_,?_⟩;(focus (refine zaf ?_;intro e he;have hm:=mem_listed he;simp [go_sem, *] at hm));clear hK9 K9;try w_num)
   (refine Goes.step rfl (fun _ h₁=>?_);replace hK4:=rel hK4 h₁;clear h₁;refine goes_oper_k rfl rfl (by k_ne) (fun K9 hK9=>?_);go_simp;refine hK9 _ _ ⟨?_,?_⟩;(focus (refine zaf ?_;intro e he;have hm:=mem_listed he;simp [go_sem, *] at hm));clear hK9 K9;try w_num)
   (refine Goes.step rfl (fun _ h₁=>?_);replace hK4:=rel hK4 h₁;clear h₁;rw [stepG_region_end];simp only [goes_go];refine ⟨d1_e,?_⟩)
   (refine Goes.step rfl (fun _ h₁=>?_);replace hK4:=rel hK4 h₁;clear h₁;rw [stepG_inLoop];simp only [goes_go];refine ⟨d1_e,?_⟩)
   refine Goes.stop (fun w₆ h₆=>?_)
   rw [← hP]
   exact hN p .bad M o _ w₆ hp (fun b hb=>hb) (fun b hb=>hb) (fun b hb=>.inl hb) ⟨_,_,_,_,_,_,_,_,_,_,_,_,_,_,_,_,_,_,_,_,_,_,_,_,rfl⟩ (rel hK4 h₆)
 | good ou ke =>
   have hc:commResult (zbb E) .select (Ans.idx (.good ou ke)) (Ans.val p (.good ou ke)) true=.tuple #[.int .i64 0,.bool true,.agg #[.int .i64 p,.bool true,sl ou,sl ke],zP]:=by simp [commResult,zbb,rcase,Ans.idx,Ans.val,goInt,List.zipIdx]
   rw [hc]
   clear hc
   walk_nrm
   show Run E.P true E.ty E.Wg true (Next p (.good ou ke)) _ _ _ _
   rw [hP]
   refine zc0 60 ?_
   (refine Goes.step rfl (fun _ h₁=>?_);replace hK:=rel hK h₁;clear h₁;refine goes_oper_k rfl rfl (by k_ne) (fun K9 hK9=>?_);go_simp;refine hK9 _ _ ⟨?_,?_⟩;(focus (refine zaf ?_;intro e he;have hm:=mem_listed he;simp [go_sem, *] at hm));clear hK9 K9;try w_num)
   (refine Goes.step rfl (fun _ h₁=>?_);replace hK:=rel hK h₁;clear h₁;refine goes_oper_k rfl rfl (by k_ne) (fun K9 hK9=>?_);go_simp;refine hK9 _ _ ⟨?_,?_⟩;(focus (refine zaf ?_;intro e he;have hm:=mem_listed he;simp [go_sem, *] at hm));clear hK9 K9;try w_num)
   (refine Goes.step rfl (fun _ h₁=>?_);replace hK:=rel hK h₁;clear h₁;refine goes_oper_k rfl rfl (by k_ne) (fun K9 hK9=>?_);go_simp;refine hK9 _ _ ⟨?_,?_⟩;(focus (refine zaf ?_;intro e he;have hm:=mem_listed he;simp [go_sem, *] at hm));clear hK9 K9;try w_num)
   (refine Goes.step rfl (fun _ h₁=>?_);replace hK:=rel hK h₁;clear h₁;rw [stepG_region_end];simp only [goes_go];refine ⟨d1_e,?_⟩)
   (refine Goes.step rfl (fun _ h₁=>?_);replace hK:=rel hK h₁;clear h₁;rw [stepG_block];simp only [goes_go];refine ⟨d1_e,?_⟩)
   (refine Goes.step rfl (fun _ h₁=>?_);replace hK:=rel hK h₁;clear h₁;rw [stepG_cond (t:=true) rfl];simp only [goes_go,if_true,if_false,Bool.false_eq_true,↓reduceIte];refine ⟨d1_e,?_⟩)
   (refine Goes.step rfl (fun _ h₁=>?_);replace hK:=rel hK h₁;clear h₁;rw [stepG_seq];simp only [goes_go];refine ⟨d1_e,?_⟩)
   (refine Goes.step rfl (fun _ h₁=>?_);replace hK:=rel hK h₁;clear h₁;rw [stepG_region];simp only [goes_go,List.size_toArray,List.length_cons,List.length_nil,Nat.reduceAdd,Nat.zero_add,List.range,List.range.loop];refine ⟨d1_e,?_⟩)
   (refine Goes.step rfl (fun _ h₁=>?_);replace hK:=rel hK h₁;clear h₁;refine goes_oper_k rfl rfl (by k_ne) (fun K9 hK9=>?_);go_simp;refine hK9 _ _ ⟨?_,?_⟩;(focus (refine zaf ?_;intro e he;have hm:=mem_listed he;simp [go_sem, *] at hm));clear hK9 K9;try w_num)
   refine Goes.stop (fun w3 h3=>?_)
   replace hK:=rel hK h3
   clear h3
   refine Run.stepK rfl (fun w₁ h₁=>?_)
   replace hK:=rel hK h₁
   clear h₁
   refine goes_oper_k rfl rfl (by k_ne) (fun K hKx=>?_)
   go_simp
   refine hKx _ _ ⟨zbo _ _ _,fun e he=>?_,?_⟩
   ·have hm:=mem_listed he
    simp [go_sem, *] at hm
   clear hKx K
   rw [zal,zal]
   obtain ⟨q,hq⟩:∃ q,w₁.heap.size=q:=⟨_,rfl⟩
   rw [hq]
   have hqA:q≠bA:=fun e=>by have:=hK.2.1 bA hMb;omega
   have hqM:¬ M q:=fun h=>by have:=hK.2.1 q h;omega
   have hMq:∀ b,M b→M b∨b=q:=fun b hb=>.inl hb
   have relq:∀ {row:Array Value} {w w₁:World},GKn S (fun b=>M b∨b=q) bA row w→Oth E.ty E.Wg (fun b=>M b∨b=q) w w₁→GKn S (fun b=>M b∨b=q) bA row w₁:=fun h r=>h.rely hS (fun b hb=>.inl (hMi b hb)) (.inl hMb) r
   have hKq:GKn S (fun b=>M b∨b=q) bA (zbc E.n got) (w₁.alloc (.cells #[.int .i64 0,.bool false,.slice none 0 0,.slice none 0 0] 54))∧(w₁.alloc (.cells #[.int .i64 0,.bool false,.slice none 0 0,.slice none 0 0] 54)).heap[q]?=some (.cells #[.int .i64 0,.bool false,.slice none 0 0,.slice none 0 0] 54):=by
    refine ⟨⟨hS hK.1 (zhc (fun b hb=>hK.2.1 b (hMi b hb)) (hSl hK.1) _),fun b hb=>?_,(Below.heap_alloc _ _ _ (hK.2.1 bA hMb)).trans hK.2.2⟩,by rw [← hq];exact heap_alloc_new _ _⟩
    rw [World.size_alloc]
    rcases hb with hb|hb
    ·exact Nat.lt_succ_of_lt (hK.2.1 b hb)
    ·omega
   have hqWg:q≠E.Wg:=hW hKq.2 hKq.1.1
   clear hK hq
   generalize w₁.alloc (.cells #[.int .i64 0,.bool false,.slice none 0 0,.slice none 0 0] 54)=wa at hKq
   have relq2:∀ {row cs:Array Value} {w w₁:World},GKn S (fun b=>M b∨b=q) bA row w∧w.heap[q]?=some (.cells cs 54)→Oth E.ty E.Wg (fun b=>M b∨b=q) w w₁→GKn S (fun b=>M b∨b=q) bA row w₁∧w₁.heap[q]?=some (.cells cs 54):=fun h r=>⟨relq h.1 r,(r.keep q (.inr rfl)).trans h.2⟩
   refine zim (te:=54) (i:=2) (by simp only [List.getElem?_toArray,List.getElem?_cons_succ,List.getElem?_cons_zero];rfl) (by rfl) (by k_ne) rfl (g:=q) (off:=0) (vs:=#[.int .i64 p,.bool true,sl ou,sl ke]) rfl rfl (by kernel_rfl) (by simp [Value.oneCell',sl]) (.inr rfl) (.inr rfl) (fun w₁ h₁=>(relq2 hKq h₁).2) (by simp) (fun w₄ h₄=>?_)
   replace hKq:=relq2 hKq h₄
   clear h₄
   have hK4:GKn S (fun b=>M b∨b=q) bA (zbc E.n got) (w₄.setRow q #[.int .i64 p,.bool true,sl ou,sl ke])∧(w₄.setRow q #[.int .i64 p,.bool true,sl ou,sl ke]).heap[q]?=some (.cells #[.int .i64 p,.bool true,sl ou,sl ke] 54):=by
    refine ⟨⟨hS hKq.1.1 (zqa hKq.2 (fun h=>hqM (hMi _ h)) (hW hKq.2 hKq.1.1)),fun b hb=>by rw [setRow_size];exact hKq.1.2.1 b hb,(setRow_other _ _ _ _ (Ne.symm hqA)).trans hKq.1.2.2⟩,setRow_heap _ _ _ _ _ _ hKq.2⟩
   rw [show putC #[.int .i64 0,.bool false,.slice none 0 0,.slice none 0 0] 0 (#[.int .i64 p,.bool true,sl ou,sl ke]:Array Value).toList=#[.int .i64 p,.bool true,sl ou,sl ke] from rfl]
   clear hKq
   generalize w₄.setRow q #[.int .i64 p,.bool true,sl ou,sl ke]=w5 at hK4
   walk_nrm
   refine zc0 60 ?_
   (refine Goes.step rfl (fun _ h₁=>?_);replace hK4:=relq2 hK4 h₁;clear h₁;rw [stepG_region_end];simp only [goes_go];refine ⟨d1_e,?_⟩)
   (refine Goes.step rfl (fun _ h₁=>?_);replace hK4:=relq2 hK4 h₁;clear h₁;rw [stepG_region];simp only [goes_go,List.size_toArray,List.length_cons,List.length_nil,Nat.reduceAdd,Nat.zero_add,List.range,List.range.loop];refine ⟨d1_e,?_⟩)
   (refine Goes.step rfl (fun _ h₁=>?_);replace hK4:=relq2 hK4 h₁;clear h₁;refine goes_oper_k rfl rfl (by k_ne) (fun K9 hK9=>?_);go_simp;refine hK9 _ _ ⟨?_,?_⟩;(focus (refine zaf ?_;intro e he;have hm:=mem_listed he;simp [go_sem, *] at hm));clear hK9 K9;try w_num)
   (refine Goes.step rfl (fun _ h₁=>?_);replace hK4:=relq2 hK4 h₁;clear h₁;refine goes_oper_k rfl rfl (by k_ne) (fun K9 hK9=>?_);go_simp;refine hK9 _ _ ⟨?_,?_⟩;(focus (refine zaf ?_;intro e he;have hm:=mem_listed he;simp [go_sem, *] at hm));clear hK9 K9;try w_num)
   (refine Goes.step rfl (fun _ h₁=>?_);replace hK4:=relq2 hK4 h₁;clear h₁)
   refine goes_oper_k rfl rfl (by k_ne) (fun K hKx=>?_)
   have hx:=zxw hK4.2 0 _ rfl
   go_simp
   refine hKx _ _ ⟨⟨rfl,fun e he=>?_⟩,?_⟩
   ·have hm:=mem_listed he
    simp [go_sem, *] at hm
    subst hm
    exact ⟨rfl,za0 (.inr rfl)⟩
   clear hKx K hx
   refine Goes.stop (fun w6 h6=>?_)
   replace hK4:=relq2 hK4 h6
   clear h6
   refine zvl (i:=3) (by simp only [List.getElem?_toArray,List.getElem?_cons_succ,List.getElem?_cons_zero];rfl) (by rfl) (by k_ne) rfl (g:=q) (off:=0) (vs:=[.int .i64 p,.bool true,sl ou,sl ke]) rfl Tryd.underlying54 rfl (by kernel_rfl) (.inr rfl) (fun w₁ h₁ j v hv=>by rw [Nat.zero_add];exact zxw (relq2 hK4 h₁).2 j v (by simpa using hv)) (fun w₇ h₇=>?_)
   replace hK4:=relq2 hK4 h₇
   clear h₇
   walk_nrm
   refine zc0 60 ?_
   (refine Goes.step rfl (fun _ h₁=>?_);replace hK4:=relq2 hK4 h₁;clear h₁;refine goes_oper_k rfl rfl (by k_ne) (fun K9 hK9=>?_);go_simp;refine hK9 _ _ ⟨?_,?_⟩;(focus (refine zaf ?_;intro e he;have hm:=mem_listed he;simp [go_sem, *] at hm));clear hK9 K9;try w_num)
   refine Goes.stop (fun w8 h8=>?_)
   replace hK4:=relq2 hK4 h8
   clear h8
   refine zim (te:=54) (i:=5) (by simp only [List.getElem?_toArray,List.getElem?_cons_succ,List.getElem?_cons_zero];rfl) (by rfl) (by k_ne) rfl (g:=bA) (off:=p * 4) (vs:=#[.int .i64 p,.bool true,sl ou,sl ke]) rfl rfl (by kernel_rfl) (by simp [Value.oneCell',sl]) (.inl hMb) (.inl hob) (fun w₁ h₁=>(relq2 hK4 h₁).1.2.2) (by rw [zcr];simp;omega) (fun w₉ h₉=>?_)
   replace hK4:=(relq2 hK4 h₉).1
   clear h₉
   have hK6:GKn S (fun b=>M b∨b=q) bA (zbc E.n (got++[(p,.good ou ke)])) (w₉.setRow bA (putC (zbc E.n got) (p * 4) (#[.int .i64 p,.bool true,sl ou,sl ke]:Array Value).toList)):=by
    refine ⟨hS hK4.1 (zqa hK4.2.2 hAi (hW hK4.2.2 hK4.1)),fun b hb=>by rw [setRow_size];exact hK4.2.1 b hb,?_⟩
    rw [zfl]
    exact setRow_heap _ _ _ _ _ _ hK4.2.2
   generalize w₉.setRow bA (putC (zbc E.n got) (p * 4) (#[.int .i64 p,.bool true,sl ou,sl ke]:Array Value).toList)=wb at hK6
   have hqW:¬ Mi q∧q≠E.Wg:=⟨fun h=>hqM (hMi _ h),hqWg⟩
   clear hK4
   walk_nrm
   refine zc0 60 ?_
   (refine Goes.step rfl (fun _ h₁=>?_);replace hK6:=relq hK6 h₁;clear h₁;rw [stepG_region_end];simp only [goes_go];refine ⟨d1_e,?_⟩)
   (refine Goes.step rfl (fun _ h₁=>?_);replace hK6:=relq hK6 h₁;clear h₁;rw [stepG_inBlock];simp only [goes_go];refine ⟨d1_e,?_⟩)
   (refine Goes.step rfl (fun _ h₁=>?_);replace hK6:=relq hK6 h₁;clear h₁;rw [stepG_inBlock];simp only [goes_go];refine ⟨d1_e,?_⟩)
   (refine Goes.step rfl (fun _ h₁=>?_);replace hK6:=relq hK6 h₁;clear h₁;rw [stepG_region];simp only [goes_go,List.size_toArray,List.length_cons,List.length_nil,Nat.reduceAdd,Nat.zero_add,List.range,List.range.loop];refine ⟨d1_e,?_⟩)
   (refine Goes.step rfl (fun _ h₁=>?_);replace hK6:=relq hK6 h₁;clear h₁;refine goes_oper_k rfl rfl (by k_ne) (fun K9 hK9=>?_);go_simp;refine hK9 _ _ ⟨?_,?_⟩;(focus (refine zaf ?_;intro e he;have hm:=mem_listed he;simp [go_sem, *] at hm));clear hK9 K9;try w_num)
   (refine Goes.step rfl (fun _ h₁=>?_);replace hK6:=relq hK6 h₁;clear h₁;refine goes_oper_k rfl rfl (by k_ne) (fun K9 hK9=>?_);go_simp;refine hK9 _ _ ⟨?_,?_⟩;(focus (refine zaf ?_;intro e he;have hm:=mem_listed he;simp [go_sem, *] at hm));clear hK9 K9;try w_num)
   (refine Goes.step rfl (fun _ h₁=>?_);replace hK6:=relq hK6 h₁;clear h₁;rw [stepG_region_end];simp only [goes_go];refine ⟨d1_e,?_⟩)
   (refine Goes.step rfl (fun _ h₁=>?_);replace hK6:=relq hK6 h₁;clear h₁;rw [stepG_inLoop];simp only [goes_go];refine ⟨d1_e,?_⟩)
   refine Goes.stop (fun w₆ h₆=>?_)
   rw [← hP]
   exact hN p (.good ou ke) _ _ _ w₆ hp (fun b hb=>.inl hb) (fun b hb=>.inl hb) (fun b hb=>hb.elim .inl fun e=>.inr (e ▸ hqW)) ⟨_,_,_,_,_,_,_,_,_,_,_,_,_,_,_,_,_,_,_,_,_,_,_,_,rfl⟩ (relq hK6 h₆)
end
end
end Go.Proofs.YtelgmbomkojmaaaDoor
