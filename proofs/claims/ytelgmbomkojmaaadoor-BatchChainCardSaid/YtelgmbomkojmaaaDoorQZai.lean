/- A pack: Zl Zm Zn Zo. -/
import Derived.Test.YtelgmbomkojmaaaDoorQZah
namespace Go.Proofs.YtelgmbomkojmaaaDoor
set_option linter.all false
set_option maxRecDepth 100000
open Exts (ext stop anyOk gapOk)
section
variable [Exts]
section
variable {P P':Program} {B:Bas} {nw xt:List Nat}
theorem ztz {σ:Nat→Option (Nat×Nat)}(id:Nat){t t':List Item}(h:zgr P B σ t t'): (exitTo id t=none∧exitTo id t'=none)∨∃ k k',exitTo id t=some k∧exitTo id t'=some k'∧zgr P B σ k k':=by
 induction h with
 | nil=>exact .inl ⟨rfl,rfl⟩
 | cons hi ht ih =>
   cases hi <;> unfold exitTo <;> first
    | exact ih
    | (split
       ·exact .inr ⟨_,_,rfl,rfl,ht⟩
       ·exact ih)
theorem zov {cv:Bool}(l:Nat): ∀ {c r:Code},zam P cv c=true→findLabel c l=some r→zam P cv r=true:=by
 intro c
 induction c with
 | seq a b iha ihb =>
   intro r h hr
   rw [zam,Bool.and_eq_true] at h
   unfold findLabel at hr
   split at hr
   ·rename_i x hx
    cases hr
    rw [zam,Bool.and_eq_true]
    exact ⟨iha h.1 hx,h.2⟩
   ·exact ihb h.2 hr
 | label l' =>
   intro r h hr
   unfold findLabel at hr
   split at hr
   ·cases hr;rfl
   ·cases hr
 | _=>intro r h hr;unfold findLabel at hr;cases hr
theorem ztn {σ:Nat→Option (Nat×Nat)}(id:Nat){t t':List Item}(h:zgr P B σ t t'): (gotoIn id t=none∧gotoIn id t'=none)∨∃ k k',gotoIn id t=some k∧gotoIn id t'=some k'∧zgr P B σ k k':=by
 induction h with
 | nil=>exact .inl ⟨rfl,rfl⟩
 | cons hi ht ih =>
   cases hi <;> unfold gotoIn <;> first
    | exact ih
    | skip
   rename_i c hc
   cases hl:findLabel c id with
   | none=>exact ih
   | some r=>exact .inr ⟨_,_,rfl,rfl,.cons (.code _ (zov id hc hl)) (.cons (.inScope _ hc) ht)⟩
theorem stage {α β:Type}{s:Sem α}{s':Sem β}{R:List Nat→α→β→Prop}(hs:Sim P P' B nw s s' R){w w':World}(hw:WRel B nw w w'){a:α}{w2:World}{e2:Array Event}(hx:s.runT P w #[]=(.ok a w2,e2)):
  ∃ x1 b w2' l,s'.runT P' w' #[]=(.ok b w2',l)∧R (nw++x1) a b∧WRel B (nw++x1) w2 w2' ∧
   ∀ (base:List Frame) (f':FuncId) (s:GStep) (fr1:Frame) (cs1:List Frame) (w1:World),Did P P' B (nw++x1) base w2' s fr1 cs1 w1→Did P P' B nw base w' (GStep.after (seen P' f' l) s) fr1 cs1 w1:=by
 obtain ⟨xt,b,w2',l,r,hw2,hR,hk,he⟩:=hs.1 w w' #[] #[] a w2 e2 hw hx
 exact ⟨xt,b,w2',l,by rw [r,Array.empty_append],hR,hw2,fun base f' s fr1 cs1 w1 hd=>hd.after hk fun e h=>he e (zrh _ _ _ _ h)⟩
theorem zfb (F:zb3 P P' B){base cs cs':List Frame}{fr fr':Frame}{w w' w1:World}(hw:WRel B nw w w')(hf:zbp P B (cor B nw) fr fr')(hc:zbl P B (cor B nw) base cs cs'){v v':Value}(hv:VRel (cor B nw) v v')(main:Bool){fr1:Frame}{cs1:List Frame}{es1:Array Event}(h:doReturn P true fr cs none v w=.go { frame:=fr1,callers:=cs1,status:=.running,dying:=none } w1 es1)(hx:ext fr1.fn=false):
  Did P P' B nw base w' (doReturn P' main fr' cs' none v' w') fr1 cs1 w1:=by
 cases hc with
 | base =>
   unfold doReturn at h
   simp only [hf.kind.1,GStep.go.injEq,Goroutine.mk.injEq] at h
   obtain ⟨⟨rfl,rfl,-⟩,rfl,-⟩:=h
   have:=F.door
   change ext P.funcs.size=false at hx
   rw [this] at hx
   cases hx
 | cons hq ht =>
   unfold doReturn at h ⊢
   simp only [hf.kind.1,GStep.go.injEq,Goroutine.mk.injEq] at h
   obtain ⟨⟨rfl,rfl,-⟩,rfl,-⟩:=h
   simp only [hf.kind.2]
   exact .now hw (.inl (zft hq hv)) ht
theorem evs (F:zb3 P P' B){fr fr':Frame}(h:zbp P B (cor B nw) fr fr'): Evs B nw fr.eval fr'.eval:=by
 intro x hx
 cases x with
 | tmp t=>exact h.tmps.getD VRel.undef_ t
 | const v=>exact z21 hx _
 | global g =>
   obtain rfl:g=0:=by simpa [okA] using hx
   exact .ptr _ _ ⟨rfl,0,0,by rw [zbs F.glob.1];exact F.glob.2,rfl⟩
 | func f=>exact .func _ _ _ _ _ _ (.func f (by have:=hx;simp [okA] at this;exact this.1) (by have:=hx;simp [okA] at this;exact this.2)) rfl rfl (fun i v v' h=>by simp at h) (fun i v v' h=>by simp at h)
def ze6 (p:Program)(main:Bool)(fr:Frame)(cs:List Frame)(j:Option Code)(w:World): GStep :=
 match fr.roundOf with
 | none=>if j matches none|some .ret then .go { frame:={ fr with mode:=.returning },callers:=cs,status:=.running,dying:=none } w else .ended (.stuck "exit, goto: no such block or label" (fr.pos p)) w
 | some l=>GStep.after (seen p fr.fn ((Instr.endRound l j).runT p w #[]).2) (match ((Instr.endRound l j).runT p w #[]).1 with
   | .ok v w=>doReturn p main fr cs none v w
   | .halt _ w=>.ended (.stuck "range over a function: no such loop" (fr.pos p)) w)
section
variable {p:Program} {main:Bool} {fr:Frame} {cs:List Frame} {w:World} {k:List Item}
theorem znh (hT:fr.todo=[]): stepG.exec p main true fr cs none w=ze6 p main fr cs none w:=by unfold stepG.exec ze6;simp only [hT];first|rfl|(cases fr.roundOf <;> rfl)
theorem zng (hT:fr.todo=.code .ret :: k): stepG.exec p main true fr cs none w=ze6 p main fr cs (some .ret) w:=by unfold stepG.exec ze6;simp only [hT];first|rfl|(cases fr.roundOf <;> rfl)
theorem zh3 {id:Nat}(hT:fr.todo=.code (.exit id) :: k): stepG.exec p main true fr cs none w=(exitTo id k).elim (ze6 p main fr cs (some (.exit id)) w) fun t=>.go { frame:={ fr with todo:=t },callers:=cs,status:=.running,dying:=none } w:=by
 unfold stepG.exec ze6;simp only [hT];first|rfl|(cases fr.roundOf <;> rfl)
theorem zh2 {id:Nat}(hT:fr.todo=.code (.goto id) :: k): stepG.exec p main true fr cs none w=(gotoIn id k).elim (ze6 p main fr cs (some (.goto id)) w) fun t=>.go { frame:={ fr with todo:=t },callers:=cs,status:=.running,dying:=none } w:=by
 unfold stepG.exec ze6;simp only [hT];first|rfl|(cases fr.roundOf <;> rfl)
end
theorem zho (F:zb3 P P' B){base cs cs':List Frame}{fr fr':Frame}{w w' w1:World}(hw:WRel B nw w w')(hf:zbp P B (cor B nw) fr fr')(hm:fr.mode=.run)(hc:zbl P B (cor B nw) base cs cs')(main:Bool)(j:Option Code)(hj:∀ c,j=some c→zam P B.cv c=true){fr1:Frame}{cs1:List Frame}{es1:Array Event}(h:ze6 P true fr cs j w=.go { frame:=fr1,callers:=cs1,status:=.running,dying:=none } w1 es1)(hx:ext fr1.fn=false):
  Did P P' B nw base w' (ze6 P' main fr' cs' j w') fr1 cs1 w1:=by
 have hr:=hf.round
 unfold ze6 at h ⊢
 generalize hR:fr.roundOf=r at h hr
 generalize hR':fr'.roundOf=r' at hr ⊢
 cases hr with
 | none =>
   have fin:GStep.go { frame:={ fr with mode:=.returning,roundOf:=none },callers:=cs,status:=.running,dying:=none } w=.go { frame:=fr1,callers:=cs1,status:=.running,dying:=none } w1 es1 →
     Did P P' B nw base w' (.go { frame:={ fr' with mode:=.returning,roundOf:=none },callers:=cs',status:=.running,dying:=none } w') fr1 cs1 w1:=by
    intro h
    simp only [GStep.go.injEq,Goroutine.mk.injEq] at h
    obtain ⟨⟨rfl,rfl,-⟩,rfl,-⟩:=h
    exact .now hw (.inl ⟨hf.fn,hf.tmps,hf.todo,hf.defers,.inr ⟨rfl,rfl⟩,hf.kind,.none,hf.ok⟩) hc
   cases j with
   | none=>exact fin h
   | some c=>cases c <;> first
     | exact fin h
     | cases h
 | some l l' hl =>
   dsimp only at h ⊢
   match hxx:(Instr.endRound l j).runT P w #[] with
   | (.ok a w2,e2) =>
     obtain ⟨x1,b,w2',l2,r,hv,hw2,fin⟩:=stage (zi6 hl j (fun c e=>(F.code c).2 (hj c e))) hw hxx
     rw [hxx] at h
     rw [r]
     obtain ⟨e',h,-⟩:=zbi h
     exact fin _ _ _ _ _ _ (zfb F hw2 hf.up hc.up hv main h hx)
   | (.halt hh w2,e2) =>
     rw [hxx] at h
     obtain ⟨e',h,-⟩:=zbi h
     cases h
theorem zpc {σ:Nat→Option (Nat×Nat)}{t t':Array Value}(h:RRel σ t t')(ops:Array Oper): yielded ops t=yielded ops t':=by
 funext j
 unfold yielded
 cases hb:(ops[j]?).bind (·.dst) with
 | none=>rfl
 | some d =>
   simp only [Option.bind_some]
   cases hv:t[d]? with
   | none =>
     have:t'[d]?=none:=by
      rw [Array.getElem?_eq_none_iff] at hv ⊢
      rw [← h.1];exact hv
     rw [this]
   | some v =>
     obtain ⟨v',h1,h2⟩:=h.get hv
     rw [h1]
     cases h2
     case any hv2=>cases v' <;> first|rfl|exact absurd hv2 Bool.false_ne_true
     all_goals rfl
theorem zqb {p q:Program}{cv:Bool}{fr:Frame}{cs:List Frame}{w:World}{ops:Array Oper}{i:Nat}{l:List Nat}{k:List Item}{o:Oper}(hT:fr.todo=.inRegion ops (i :: l) :: k)(ho:ops[i]?=some o)(hok:okOp q cv o.op=true):
  stepG.oper p true fr cs none w=stepG.apply p true fr cs none (execOp fr.eval o) w:=by
 unfold stepG.oper Frame.oper?
 simp only [hT,ho]
 split
 ·rename_i l c h1 h2
  rw [h2] at hok
  cases hok
 ·rfl
theorem znk (A:zbt P P')(d:Departure): P'.follows d=P.follows d:=by
 have:=A.tab
 obtain ⟨T,F⟩:=P
 obtain ⟨T',F'⟩:=P'
 simp only at this
 subst this
 rfl
theorem z0k (F:zb3 P P' B){base cs cs':List Frame}{fr fr':Frame}{w w' w1:World}(hw:WRel B nw w w')(hf:zbp P B (cor B nw) fr fr')(hm:fr.mode=.run)(hc:zbl P B (cor B nw) base cs cs')(main:Bool){fr1:Frame}{cs1:List Frame}{es1:Array Event}(h:stepG.exec P true true fr cs none w=.go { frame:=fr1,callers:=cs1,status:=.running,dying:=none } w1 es1)(hp:∀ ch,fr1.mode≠.panicking ch)(hx:ext fr1.fn=false):
  Did P P' B nw base w' (stepG.exec P' main true fr' cs' none w') fr1 cs1 w1:=by
 have ev:=evs F hf
 have go:∀ (t t':List Item),zgr P B (cor B nw) t t'→GStep.go { frame:={ fr with todo:=t },callers:=cs,status:=.running,dying:=none } w=.go { frame:=fr1,callers:=cs1,status:=.running,dying:=none } w1 es1 →
   Did P P' B nw base w' (.go { frame:={ fr' with todo:=t' },callers:=cs',status:=.running,dying:=none } w') fr1 cs1 w1:=by
  intro t t' ht e
  simp only [GStep.go.injEq,Goroutine.mk.injEq] at e
  obtain ⟨⟨rfl,rfl,-⟩,rfl,-⟩:=e
  exact .now hw (.inl ⟨hf.fn,hf.tmps,ht,hf.defers,hf.mode,hf.kind,hf.round,hf.ok⟩) hc
 have ht:=hf.todo
 obtain ⟨T,hT⟩:∃ T,fr.todo=T:=⟨_,rfl⟩
 obtain ⟨T',hT'⟩:∃ T',fr'.todo=T':=⟨_,rfl⟩
 rw [hT,hT'] at ht
 cases ht with
 | nil =>
   rw [znh hT] at h
   rw [znh hT']
   exact zho F hw hf hm hc main none (fun c e=>by cases e) h hx
 | @cons i i' k k' hi ht =>
   cases hi with
   | inBlock id=>unfold stepG.exec at h ⊢;simp only [hT] at h;simp only [hT'];exact go _ _ ht h
   | inLoop c hc2=>unfold stepG.exec at h ⊢;simp only [hT] at h;simp only [hT'];exact go _ _ (.cons (.code c hc2) (.cons (.inLoop c hc2) ht)) h
   | inScope c hc2=>unfold stepG.exec at h ⊢;simp only [hT] at h;simp only [hT'];exact go _ _ ht h
   | inRange l l' hl=>unfold stepG.exec at h;simp only [hT] at h;cases h
   | inRegion ops l ho =>
     cases l with
     | nil=>unfold stepG.exec at h ⊢;simp only [hT] at h;simp only [hT'];exact go _ _ ht h
     | cons i l =>
       unfold stepG.exec at h ⊢
       simp only [hT] at h
       simp only [hT']
       rw [← zpc hf.tmps ops]
       split at h
       ·rename_i hwant
        rw [if_pos hwant]
        cases hoi:ops[i]? with
        | none=>rw [hoi] at hwant;simp at hwant
        | some o =>
          have hok:okOp P B.cv o.op=true:=by
           obtain ⟨hi,rfl⟩:=Array.getElem?_eq_some_iff.1 hoi
           exact (Array.all_eq_true.1 ho) i hi
          rw [zqb hT hoi hok] at h
          rw [zqb hT' hoi hok]
          exact zk7 F (zlt F.toProg ev (fun g=>⟨rfl,rfl⟩) hok) hw hf hc h hp
       ·rename_i hwant
        rw [if_neg hwant]
        simp only [GStep.go.injEq,Goroutine.mk.injEq] at h
        obtain ⟨⟨rfl,rfl,-⟩,rfl,-⟩:=h
        exact .now hw (.inl (zft hf VRel.undef_)) hc
   | endRange l l' hl =>
     unfold stepG.exec at h ⊢
     simp only [hT] at h
     simp only [hT']
     match hxx:(Instr.endLoop l).runT P w #[] with
     | (.halt hh w2,e2) =>
       rw [hxx] at h
       obtain ⟨e',h,-⟩:=zbi h
       cases hh with
       | panic v =>
         simp only [GStep.go.injEq,Goroutine.mk.injEq] at h
         obtain ⟨⟨rfl,-⟩,-⟩:=h
         obtain ⟨ch,hch⟩:=zcc fr [{ v,recovered:=false }]
         exact absurd hch (hp ch)
       | _=>cases h
     | (.ok a w2,e2) =>
       obtain ⟨x1,b,w2',l2,r,hv,hw2,fin⟩:=stage (zj7 hl) hw hxx
       rw [hxx] at h
       rw [r]
       obtain ⟨e',h,-⟩:=zbi h
       obtain ⟨rfl,hcode⟩:=hv
       simp only [GStep.go.injEq,Goroutine.mk.injEq] at h
       obtain ⟨⟨rfl,rfl,-⟩,rfl,-⟩:=h
       refine fin _ _ _ _ _ _ (.now hw2 (.inl ⟨hf.fn,hf.tmps.up,?_,hf.defers.up,hf.mode,hf.kind,hf.round.up,hf.ok⟩) hc.up)
       cases a with
       | none=>exact ht.up
       | some c=>exact .cons (.code c ((F.code c).1 (hcode c rfl))) ht.up
   | begin =>
     unfold stepG.exec at h ⊢
     simp only [hT] at h
     simp only [hT']
     refine zk7 F ?_ hw hf hc h hp
     have hr:=hf.round
     generalize fr.roundOf=r at hr ⊢
     generalize fr'.roundOf=r' at hr ⊢
     cases hr with
     | none=>exact Sim.never (zaj.bind1 (zaj.halt _))
     | some l l' hl=>exact Sim.bind_ (zf3 hl) fun x1 _ _ _=>Sim.pure_ .skip
   | code c hok =>
     cases c with
     | skip=>unfold stepG.exec at h ⊢;simp only [hT] at h;simp only [hT'];exact go _ _ ht h
     | label l=>unfold stepG.exec at h ⊢;simp only [hT] at h;simp only [hT'];exact go _ _ ht h
     | seq a b =>
       unfold stepG.exec at h ⊢;simp only [hT] at h;simp only [hT']
       rw [zam,Bool.and_eq_true] at hok
       exact go _ _ (.cons (.code _ hok.1) (.cons (.code _ hok.2) ht)) h
     | cond c a b =>
       rw [zam,Bool.and_eq_true,Bool.and_eq_true] at hok
       have hv:=ev c hok.1.1
       unfold stepG.exec at h ⊢;simp only [hT] at h;simp only [hT']
       generalize fr.eval c=v at h hv
       generalize fr'.eval c=v' at hv ⊢
       cases hv with
       | bool b2 =>
         cases b2
         ·exact go _ _ (.cons (.code _ hok.2) ht) h
         ·exact go _ _ (.cons (.code _ hok.1.2) ht) h
       | _=>cases h
     | block id b=>unfold stepG.exec at h ⊢;simp only [hT] at h;simp only [hT'];exact go _ _ (.cons (.code _ hok) (.cons (.inBlock id) ht)) h
     | loop b=>unfold stepG.exec at h ⊢;simp only [hT] at h;simp only [hT'];exact go _ _ (.cons (.code b hok) (.cons (.inLoop b hok) ht)) h
     | scope b=>unfold stepG.exec at h ⊢;simp only [hT] at h;simp only [hT'];exact go _ _ (.cons (.code b hok) (.cons (.inScope b hok) ht)) h
     | exit id =>
       rw [zh3 hT] at h
       rw [zh3 hT']
       rcases ztz id ht with ⟨e1,e2⟩|⟨q,q',e1,e2,e3⟩
       ·rw [e1,Option.elim_none] at h
        rw [e2,Option.elim_none]
        exact zho F hw hf hm hc main _ (fun c e=>by cases e;rfl) h hx
       ·rw [e1,Option.elim_some] at h
        rw [e2,Option.elim_some]
        exact go _ _ e3 h
     | goto id =>
       rw [zh2 hT] at h
       rw [zh2 hT']
       rcases ztn id ht with ⟨e1,e2⟩|⟨q,q',e1,e2,e3⟩
       ·rw [e1,Option.elim_none] at h
        rw [e2,Option.elim_none]
        exact zho F hw hf hm hc main _ (fun c e=>by cases e;rfl) h hx
       ·rw [e1,Option.elim_some] at h
        rw [e2,Option.elim_some]
        exact go _ _ e3 h
     | ret =>
       rw [zng hT] at h
       rw [zng hT']
       exact zho F hw hf hm hc main _ (fun c e=>by cases e;rfl) h hx
     | refuse why=>unfold stepG.exec at h;simp only [hT] at h;cases h
     | rangeFunc f ps a b =>
       rw [zam,Bool.and_eq_true,Bool.and_eq_true] at hok
       unfold stepG.exec at h ⊢
       simp only [hT] at h
       simp only [hT']
       rw [← hf.fn]
       match hxx:(Instr.enterLoop fr.fn fr.tmps ps a b fr.roundOf).runT P w #[] with
       | (.halt hh w2,e2) =>
         rw [hxx] at h
         obtain ⟨e',h,-⟩:=zbi h
         cases h
       | (.ok x w2,e2) =>
       obtain ⟨x1,x',w2',l2,r,hv,hw2,fin⟩:=stage (zg4 hf.ok hf.tmps ps ((F.code a).2 hok.1.2) ((F.code b).2 hok.2) hf.round) hw hxx
       rw [hxx] at h
       rw [r]
       obtain ⟨e',h,-⟩:=zbi h
       obtain ⟨l,mk⟩:=x
       obtain ⟨l',mk'⟩:=x'
       obtain ⟨hl,hmk⟩:=hv
       dsimp only at h ⊢
       have hf2:zbp P B (cor B (nw++x1)) { fr with todo:=.inRangeFunc l :: k,defers:=mk++fr.defers } { fr' with todo:=.inRangeFunc l' :: k',defers:=mk'++fr'.defers } :=
        ⟨hf.fn,hf.tmps.up,.cons (.inRange l l' hl) ht.up,hmk.append hf.defers.up,hf.mode,hf.kind,hf.round.up,hf.ok⟩
       have ev2:=evs F hf2
       rw [← hf.fn] at hf2
       refine fin _ _ _ _ _ _ (zk7 F ?_ hw2 hf2 hc.up h hp)
       refine Sim.bind_ (R:=fun m d d'=>DRel P (cor B m) d d') ?_ fun x2 d d' hd=>zik F.toProg hd
       have one:RRel (cor B (nw++x1)) #[Value.func (.yield l) #[] #[]] #[Value.func (.yield l') #[] #[]]:=RRel.one (.func _ _ _ _ _ _ (.yield l l' hl) rfl rfl (fun i v v' h=>by simp at h) (fun i v v' h=>by simp at h))
       refine zeg (ev2 f hok.1.1) ?_
       simp only [List.map_toArray,List.map_cons,List.map_nil,Frame.eval]
       exact one
     | region id ops draw =>
       rw [zam] at hok
       unfold stepG.exec at h ⊢
       simp only [hT] at h
       simp only [hT']
       cases draw with
       | false=>exact go _ _ (.cons (.inRegion ops _ hok) ht) h
       | true =>
         simp only [Bool.not_true,Bool.false_eq_true,if_false] at h ⊢
         rw [← hf.fn,← Sem.runT_fst (es:=#[])]
         rw [← Sem.runT_fst (es:=#[])] at h
         have hs:=(zcb (P:=P) (P':=P') (B:=B) (nw:=nw) (.order fr.fn id)).1 w w' #[] #[]
         match hxx:(choose (.order fr.fn id)).runT P w #[] with
         | (.ok t w2,e2) =>
           obtain ⟨x1,t',w2',l,r,hw2,rfl,hk,he⟩:=hs t w2 e2 hw hxx
           rw [hxx] at h
           rw [r]
           dsimp only at h ⊢
           simp only [GStep.go.injEq,Goroutine.mk.injEq] at h
           obtain ⟨⟨rfl,rfl,-⟩,rfl,-⟩:=h
           rw [znk F.alike]
           exact ⟨x1,_,_,_,_,rfl,hw2,.inl ⟨rfl,hf.tmps.up,.cons (.inRegion ops _ hok) ht.up,hf.defers.up,hf.mode,hf.kind,hf.round.up,hf.ok⟩,hc.up,hk,fun e h=>by simp at h⟩
         | (.halt hh w2,e2)=>rw [hxx] at h;cases h
theorem zkc (F:zb3 P P' B){fn fn':Func}(hr:fn.results=fn'.results){t t':Array Value}(ht:RRel (cor B nw) t t'): Sim P P' B nw (results fn t) (results fn' t') (fun m v v'=>VRel (cor B m) v v'):=by
 unfold results
 rw [hr]
 have key:∀ (l:List ResultVar) (m:List Nat),RRel (cor B m) t t'→Sim P P' B m (l.mapM fun
   | .tmp x=>pure (t.getD x undef)
   | .cell a ty=>do loadVar ty (← asAddr (t.getD a undef))) (l.mapM fun
   | .tmp x=>pure (t'.getD x undef)
   | .cell a ty=>do loadVar ty (← asAddr (t'.getD a undef))) (fun m l l'=>LRl (cor B m) l l'):=by
  intro l
  induction l with
  | nil=>intro m h;exact Sim.pure_ .nil
  | cons x l ih =>
    intro m h
    simp only [List.mapM_cons]
    refine Sim.bind_ (R:=fun m v v'=>VRel (cor B m) v v') ?_ fun x1 v v' hv=>?_
    ·cases x with
     | tmp x=>exact Sim.pure_ (h.getD VRel.undef_ x)
     | cell a ty =>
       refine Sim.bind_ (R:=fun m a a'=>ARel (cor B m) a a') ?_ fun x2 a a' ha=>zj4 F.alike ha ty
       have hv:=h.getD VRel.undef_ a
       change VRel (cor B m) (t.getD a undef) (t'.getD a undef) at hv
       generalize t.getD a undef=v at hv ⊢
       generalize t'.getD a undef=v' at hv ⊢
       cases hv with
       | nilp=>unfold asAddr;exact Sim.rtPanic
       | ptr a a' ha=>exact Sim.pure_ ha
       | _=>exact Sim.halt
    ·exact Sim.bind_ (ih _ h.up) fun x2 l l' hl=>Sim.pure_ (.cons hv.up hl)
 refine Sim.bind_ (R:=fun m c c'=>RRel (cor B m) c c') ?_ fun x1 c c' hcc=>Sim.pure_ ?_
 ·rw [Array.mapM_eq_mapM_toList,Array.mapM_eq_mapM_toList,map_eq_pure_bind,map_eq_pure_bind]
  exact Sim.bind_ (key _ _ ht) fun x1 l l' hl=>Sim.pure_ hl.arr
 ·by_cases h1:c.size=1
  ·have h2:c'.size=1:=by rw [← hcc.1];exact h1
   rw [dif_pos h1,dif_pos h2]
   exact hcc.2 0 _ _ (Array.getElem?_eq_getElem (by omega)) (Array.getElem?_eq_getElem (by omega))
  ·have h2:¬ c'.size=1:=by rw [← hcc.1];exact h1
   rw [dif_neg h1,dif_neg h2]
   exact .tuple _ _ hcc.1 hcc.2
theorem zsn (F:zb3 P P' B){base cs cs':List Frame}{fr fr':Frame}{w w' w1:World}(hw:WRel B nw w w')(hf:zbp P B (cor B nw) fr fr')(hm:fr.mode=.returning∧fr'.mode=.returning)(hc:zbl P B (cor B nw) base cs cs')(main:Bool){fr1:Frame}{cs1:List Frame}{es1:Array Event}(h:unwind P true fr cs none w=.go { frame:=fr1,callers:=cs1,status:=.running,dying:=none } w1 es1)(hx:ext fr1.fn=false):
  Did P P' B nw base w' (unwind P' main fr' cs' none w') fr1 cs1 w1:=by
 have hd:=hf.defers
 unfold unwind at h ⊢
 obtain ⟨D,hD⟩:∃ D,fr.defers=D:=⟨_,rfl⟩
 obtain ⟨D',hD'⟩:∃ D',fr'.defers=D':=⟨_,rfl⟩
 rw [hD,hD'] at hd
 cases hd with
 | cons r r' l l' hr ht =>
   simp only [hD] at h
   simp only [hD']
   match hxx:(Instr.takeDeferred r).runT P w #[] with
   | (.halt hh w2,e2) =>
     rw [hxx] at h
     obtain ⟨e',h,-⟩:=zbi h
     cases h
   | (.ok x w2,e2) =>
   obtain ⟨x1,x',w2',l2,r2,hv,hw2,fin⟩:=stage (zev hr) hw hxx
   rw [hxx] at h
   rw [r2]
   obtain ⟨e',h,-⟩:=zbi h
   obtain ⟨rfl,rfl⟩:=hv
   simp only [GStep.go.injEq,Goroutine.mk.injEq] at h
   obtain ⟨⟨rfl,rfl,-⟩,rfl,-⟩:=h
   exact fin _ _ _ _ _ _ (.now hw2 (.inl ⟨hf.fn,hf.tmps.up,hf.todo.up,ht.up,hf.mode,hf.kind,hf.round.up,hf.ok⟩) hc.up)
 | nil =>
   simp only [hD,hm.1] at h
   simp only [hD',hm.2]
   have A:=F.alike.fn fr.fn
   rw [← hf.fn]
   cases hg:P.funcs[fr.fn]? with
   | none =>
     have hg':P'.funcs[fr.fn]?=none:=by
      cases h2:P'.funcs[fr.fn]? with
      | none=>rfl
      | some x=>rw [hg,h2] at A;simp at A
     rw [hg] at h
     rw [hg']
     exact zfb F hw hf hc (hf.tmps.getD VRel.undef_ 0) main h hx
   | some fn =>
     cases hg':P'.funcs[fr.fn]? with
     | none=>rw [hg,hg'] at A;simp at A
     | some fn' =>
       rw [hg,hg'] at A
       simp only [Option.map_some,Option.some.injEq,Prod.mk.injEq] at A
       rw [hg] at h
       dsimp only at h ⊢
       match hxx:(results fn fr.tmps).runT P w #[] with
       | (.halt hh w2,e2) =>
         rw [hxx] at h
         obtain ⟨e',h,-⟩:=zbi h
         cases hh <;> cases h
       | (.ok x w2,e2) =>
       obtain ⟨x1,x',w2',l2,r2,hv,hw2,fin⟩:=stage (zkc F A.2.2.1 hf.tmps) hw hxx
       rw [hxx] at h
       rw [r2]
       obtain ⟨e',h,-⟩:=zbi h
       exact fin _ _ _ _ _ _ (zfb F hw2 hf.up hc.up hv main h hx)
theorem zg1 (F:zb3 P P' B){base cs cs':List Frame}{fr fr':Frame}{w w' w1:World}(hw:WRel B nw w w')(hf:zbp P B (cor B nw) fr fr')(hc:zbl P B (cor B nw) base cs cs')(main:Bool)(of:Option (Array CommCase×CommShape))(st:GoStatus){fr1:Frame}{cs1:List Frame}{es1:Array Event}(h:stepG P true { frame:=fr,callers:=cs,status:=.running,dying:=none } w=.go { frame:=fr1,callers:=cs1,status:=.running,dying:=none } w1 es1)(hp:∀ ch,fr1.mode≠.panicking ch)(hx:ext fr1.fn=false): Did P P' B nw base w' (stepG P' main { frame:=fr',callers:=cs',status:=st,dying:=none,offers:=of } w') fr1 cs1 w1:=by
 rcases hf.mode with hm|hm
 ·unfold stepG at h ⊢
  simp only [hm.1] at h
  simp only [hm.2]
  exact z0k F hw hf hm.1 hc main h hp hx
 ·unfold stepG at h ⊢
  simp only [hm.1] at h
  simp only [hm.2]
  exact zsn F hw hf hm hc main h hx
end
end
section
variable [Exts]
def z3f (l:List Deferred): Prop:=∀ d∈l,∃ r,d={ target:=.collected r,args:=#[] }
def Calm (fr:Frame): Prop:=∀ ch,fr.mode≠.panicking ch
def z44 (P:Program)(cs:List Frame): Prop:=∃ l,cs=l++[door P]∧∀ c∈l,z3f c.defers∧Calm c∧ext c.fn=false
def Pan (P:Program)(fr:Frame)(cs:List Frame): Prop:=(∃ ch,fr.mode=.panicking ch)∧((z3f fr.defers∧z44 P cs∧ext fr.fn=false)∨∃ ch,fr=(door P).raise ch∧cs=[])
def Home (P:Program)(fr:Frame)(cs:List Frame): Prop:=ext fr.fn=false∨∃ v,fr=(door P).finish v∧cs=[]
def LOut (P:Program)(f:World→GStep)(w:World): Prop :=
 (∃ o w1 es,f w=.ended o w1 es) ∨
 ∃ fr1 cs1 w1 es,f w=.go { frame:=fr1,callers:=cs1,status:=.running,dying:=none } w1 es∧Tidy w1 ∧
  (Pan P fr1 cs1∨(Calm fr1∧Home P fr1 cs1∧w.drawn≤w1.drawn∧w1.tape=w.tape∧∀ t',zno w.drawn w1.drawn w.tape t'→f (relay w t')=.go { frame:=fr1,callers:=cs1,status:=.running,dying:=none } (relay w1 t') es))
section
variable {P P':Program} {B:Bas} {nw xt:List Nat}
theorem LOut.go {fr1:Frame}{cs1:List Frame}{w:World}(ht:Tidy w)(hc:Calm fr1)(hh:Home P fr1 cs1): LOut P (fun w=>.go { frame:=fr1,callers:=cs1,status:=.running,dying:=none } w) w :=
 .inr ⟨fr1,cs1,w,_,rfl,ht,.inr ⟨hc,hh,Nat.le_refl _,rfl,fun t' _=>rfl⟩⟩
theorem LOut.ended {o:World→Outcome}{w:World}: LOut P (fun w=>.ended (o w) w) w:=.inl ⟨_,_,_,rfl⟩
theorem LOut.stage {α β:Type}{s:Sem α}{s':Sem β}{R:List Nat→α→β→Prop}(hs:Sim P P' B nw s s' R){w w':World}(hw:WRel B nw w w')(ht:Tidy w){f:FuncId}{K:Result α→GStep}(hok:∀ x1 a b w2 w2',R (nw++x1) a b→WRel B (nw++x1) w2 w2'→Tidy w2→LOut P (fun w=>K (.ok a w)) w2)(hno:∀ h w2,HOk h→Tidy w2→(∃ o w1 es,K (.halt h w2)=.ended o w1 es)∨∃ fr1 cs1 es,K (.halt h w2)=.go { frame:=fr1,callers:=cs1,status:=.running,dying:=none } w2 es∧Pan P fr1 cs1):
  LOut P (fun w=>GStep.after (seen P f (s.runT P w #[]).2) (K (s.runT P w #[]).1)) w:=by
 have h2:=hs.2.1 w w' #[] hw ht
 match hx:s.runT P w #[] with
 | (.ok a w2,e2) =>
   rw [hx] at h2
   obtain ⟨x1,b,w2',l,r,hw2,hR,hk,he⟩:=hs.1 w w' #[] #[] a w2 e2 hw hx
   obtain ⟨g1,g2,g3⟩:=hs.2.2 w w' #[] a w2 e2 hw hx
   rcases hok x1 a b w2 w2' hR hw2 h2 with ⟨o,w3,es,e⟩|⟨fr1,cs1,w3,es,e,ht3,hq⟩
   ·exact .inl ⟨o,w3,_,by simp only [hx];dsimp only at e;rw [e];rfl⟩
   ·refine .inr ⟨fr1,cs1,w3,seen P f e2++es,by simp only [hx];dsimp only at e;rw [e];rfl,ht3,?_⟩
    rcases hq with hq|⟨k0,kh,k1,k2,k3⟩
    ·exact .inl hq
    ·refine .inr ⟨k0,kh,Nat.le_trans g1 k1,k2.trans g2,fun t' ha=>?_⟩
     have q1:=g3 t' fun p q hp hq=>ha p q hp (Nat.lt_of_lt_of_le hq k1)
     have q2:=k3 t' fun p q hp hq=>by rw [g2];exact ha p q (Nat.le_trans g1 hp) hq
     simp only [q1]
     dsimp only at q2
     rw [q2]
     rfl
 | (.halt h w2,e2) =>
   rw [hx] at h2
   rcases hno h w2 h2.1 h2.2 with ⟨o,w1,es,e⟩|⟨fr1,cs1,es,e,hp⟩
   ·exact .inl ⟨o,w1,_,by simp only [hx];rw [e];rfl⟩
   ·exact .inr ⟨fr1,cs1,w2,seen P f e2++es,by simp only [hx];rw [e];rfl,h2.2,.inl hp⟩
theorem zff.marks {σ:Nat→Option (Nat×Nat)}{l l':List Deferred}(h:zff σ l l'): z3f l:=by
 induction h with
 | nil=>intro d hd;cases hd
 | cons r r' l l' h t ih =>
   intro d hd
   rcases List.mem_cons.1 hd with rfl|hd
   ·exact ⟨r,rfl⟩
   ·exact ih d hd
theorem zbp.calm {σ:Nat→Option (Nat×Nat)}{fr fr':Frame}(h:zbp P B σ fr fr'): Calm fr:=by
 intro ch e
 rcases h.mode with h|h <;> rw [h.1] at e <;> cases e
theorem zbl.stack {σ:Nat→Option (Nat×Nat)}{base cs cs':List Frame}(h:zbl P B σ base cs cs'): z44 P cs:=by
 induction h with
 | base=>exact ⟨[],rfl,fun c hc=>by cases hc⟩
 | @cons fr fr' l l' h t ih =>
   obtain ⟨l,rfl,hl⟩:=ih
   refine ⟨fr :: l,rfl,fun c hc=>?_⟩
   rcases List.mem_cons.1 hc with rfl|hc
   ·exact ⟨h.defers.marks,h.calm,h.ok⟩
   ·exact hl c hc
theorem zg7 (fr:Frame)(vs:List PanicEntry): (fr.raise vs).fn=fr.fn∧(fr.raise vs).defers=fr.defers:=by
 unfold Frame.raise
 split <;> exact ⟨rfl,rfl⟩
theorem zoa {σ:Nat→Option (Nat×Nat)}{base cs cs':List Frame}{fr fr':Frame}(hf:zbp P B σ fr fr')(hc:zbl P B σ base cs cs')(vs:List PanicEntry): Pan P (fr.raise vs) cs :=
 ⟨zcc fr vs,.inl ⟨by rw [(zg7 fr vs).2];exact hf.defers.marks,hc.stack,by rw [(zg7 fr vs).1];exact hf.ok⟩⟩
theorem zqr (fr:Frame)(v:Value): (fr.finish v).mode=fr.mode:=by
 unfold Frame.finish
 split <;> rfl
theorem zhx (fr:Frame)(v:Value): (fr.finish v).fn=fr.fn:=by
 unfold Frame.finish
 split <;> rfl
theorem zde {fr:Frame}(h:Calm fr)(v:Value): Calm (fr.finish v):=fun ch=>by rw [zqr];exact h ch
theorem zk8 (F:zb3 P P' B){base cs cs':List Frame}{fr fr':Frame}{w w':World}{s s':Sem Next}(hs:Sim P P' B nw s s' (fun m x x'=>XRel P B (cor B m) x x'))(hw:WRel B nw w w')(ht:Tidy w)(hf:zbp P B (cor B nw) fr fr')(hc:zbl P B (cor B nw) base cs cs'): LOut P (fun w=>stepG.apply P true fr cs none s w) w:=by
 obtain ⟨k1,k2⟩:=zq7 hf.todo
 have h2:=hs.2.1 w w' #[] hw ht
 match hx:s.runT P w #[] with
 | (.ok a w2,e2) =>
   rw [hx] at h2
   obtain ⟨x1,b,w2',l,r,hw2,hR,hk,he⟩:=hs.1 w w' #[] #[] a w2 e2 hw hx
   obtain ⟨g1,g2,g3⟩:=hs.2.2 w w' #[] a w2 e2 hw hx
   have ap:∀ (fr1:Frame) (cs1:List Frame),Calm fr1→Home P fr1 cs1→(∀ W W2,s.runT P W #[]=(.ok a W2,e2)→stepG.apply P true fr cs none s W=GStep.after (seen P fr.fn e2) (.go { frame:=fr1,callers:=cs1,status:=.running,dying:=none } W2)) →
     LOut P (fun w=>stepG.apply P true fr cs none s w) w:=by
    intro fr1 cs1 hcalm hhome h
    refine .inr ⟨fr1,cs1,w2,_,h w w2 hx,h2,.inr ⟨hcalm,hhome,g1,g2,fun t' ha=>?_⟩⟩
    exact h _ _ (g3 t' ha)
   cases hR with
   | value v v' hv=>exact ap _ _ (zde hf.calm v) (.inl (by rw [zhx];exact hf.ok)) fun W W2 e=>by unfold stepG.apply;simp only [if_true,e,hf.kind.1];rw [if_neg (by decide)]
   | skip=>exact ap _ _ (zde hf.calm undef) (.inl (by rw [zhx];exact hf.ok)) fun W W2 e=>by unfold stepG.apply;simp only [if_true,e,hf.kind.1];rw [if_neg (by decide)]
   | enter f a a' hef ha=>exact ap _ _ (fun ch e=>by cases e) (.inl hef) fun W W2 e=>zgq e hf.kind.1 k1
   | round l0 l0' f t t' a b hl ht ha hb hff=>exact ap _ _ (fun ch e=>by cases e) (.inl hff) fun W W2 e=>zgp e hf.kind.1
 | (.halt hh w2,e2) =>
   rw [hx] at h2
   have e0:∀ K,stepG.apply P true fr cs none s w=GStep.after K (match (s.runT P w #[]).1 with
    | .halt (.panic v) w=>.go { frame:=fr.raise [{ v,recovered:=false }],callers:=cs,status:=.running,dying:=none } w
    | .halt (.stuck s) w=>.ended (.stuck s (fr.pos P)) w
    | .halt (.unsupported u) w=>.ended (.unsupported u (fr.pos P)) w
    | _=>.ended (.stuck "" "") w)→LOut P (fun w=>stepG.apply P true fr cs none s w) w:=by
    intro K e
    rw [hx] at e
    cases hh with
    | panic v=>exact .inr ⟨_,_,w2,_,e,h2.2,.inl (zoa hf hc _)⟩
    | stuck s=>exact .inl ⟨_,_,_,e⟩
    | unsupported u=>exact .inl ⟨_,_,_,e⟩
    | _=>exact absurd h2.1 (by simp [HOk])
   refine e0 (seen P fr.fn e2) ?_
   unfold stepG.apply
   simp only [if_true,hx,hf.kind.1]
   rw [if_neg (by decide)]
   have hok:=h2.1
   cases hh with
   | panic v=>rfl
   | stuck s=>rfl
   | unsupported u=>cases u <;> first|rfl|exact absurd hok (by simp [HOk])
   | _=>exact absurd hok (by simp [HOk])
theorem zfc {base cs cs':List Frame}{fr fr':Frame}{w:World}(ht:Tidy w)(hf:zbp P B (cor B nw) fr fr')(hc:zbl P B (cor B nw) base cs cs')(v:Value): LOut P (fun w=>doReturn P true fr cs none v w) w:=by
 cases hc with
 | base =>
   have e:(fun w=>doReturn P true fr [door P] none v w)=fun w=>.go { frame:=(door P).finish v,callers:=[],status:=.running,dying:=none } w:=funext fun w=>by
    unfold doReturn;simp only [hf.kind.1]
   rw [e]
   exact .go ht (zde (fun ch e=>by cases e) v) (.inr ⟨v,rfl,rfl⟩)
 | @cons c c' l l' hq hl =>
   have e:(fun w=>doReturn P true fr (c :: l) none v w)=fun w=>.go { frame:=c.finish v,callers:=l,status:=.running,dying:=none } w:=funext fun w=>by
    unfold doReturn;simp only [hf.kind.1]
   rw [e]
   exact .go ht (zde hq.calm v) (.inl (by rw [zhx];exact hq.ok))
theorem zhp (F:zb3 P P' B){base cs cs':List Frame}{fr fr':Frame}{w w':World}(hw:WRel B nw w w')(ht:Tidy w)(hf:zbp P B (cor B nw) fr fr')(hc:zbl P B (cor B nw) base cs cs')(j:Option Code)(hj:∀ c,j=some c→zam P B.cv c=true): LOut P (fun w=>ze6 P true fr cs j w) w:=by
 have hr:=hf.round
 unfold ze6
 generalize hR:fr.roundOf=r at hr ⊢
 generalize hR':fr'.roundOf=r' at hr
 cases hr with
 | none =>
   dsimp only
   cases j with
   | none=>exact .go ht (fun ch e=>by cases e) (.inl hf.ok)
   | some c=>cases c <;> first
     | exact .go ht (fun ch e=>by cases e) (.inl hf.ok)
     | exact .ended (o:=fun _=>.stuck "exit, goto: no such block or label" (fr.pos P))
 | some l l' hl =>
   dsimp only
   refine LOut.stage (P':=P') (K:=fun r=>match r with|.ok v w=>doReturn P true fr cs none v w|.halt _ w=>.ended (.stuck "range over a function: no such loop" (fr.pos P)) w) (zi6 hl j (fun c e=>(F.code c).2 (hj c e))) hw ht (fun x1 a b w2 w2' _ hw2 ht2=>?_) (fun h w2 _ _=>.inl ⟨_,_,_,rfl⟩)
   exact zfc ht2 hf hc a
theorem z0l (F:zb3 P P' B){base cs cs':List Frame}{fr fr':Frame}{w w':World}(hw:WRel B nw w w')(htd:Tidy w)(hf:zbp P B (cor B nw) fr fr')(hc:zbl P B (cor B nw) base cs cs'): LOut P (fun w=>stepG.exec P true true fr cs none w) w:=by
 have ev:=evs F hf
 have go:∀ (t:List Item),LOut P (fun w=>GStep.go { frame:={ fr with todo:=t },callers:=cs,status:=.running,dying:=none } w) w:=fun t=>.go htd hf.calm (.inl hf.ok)
 have ht:=hf.todo
 obtain ⟨T,hT⟩:∃ T,fr.todo=T:=⟨_,rfl⟩
 obtain ⟨T',hT'⟩:∃ T',fr'.todo=T':=⟨_,rfl⟩
 rw [hT,hT'] at ht
 have easy:∀ (t:List Item),(∀ w,stepG.exec P true true fr cs none w=GStep.go { frame:={ fr with todo:=t },callers:=cs,status:=.running,dying:=none } w)→LOut P (fun w=>stepG.exec P true true fr cs none w) w:=fun t e=>by
  rw [show (fun w=>stepG.exec P true true fr cs none w)=_ from funext e];exact go t
 have stop:∀ (o:World→Outcome),(∀ w,stepG.exec P true true fr cs none w=.ended (o w) w)→LOut P (fun w=>stepG.exec P true true fr cs none w) w:=fun o e=>by
  rw [show (fun w=>stepG.exec P true true fr cs none w)=_ from funext e];exact .ended
 cases ht with
 | nil =>
   rw [show (fun w=>stepG.exec P true true fr cs none w)=_ from funext fun w=>znh hT]
   exact zhp F hw htd hf hc none (fun c e=>by cases e)
 | @cons i i' k k' hi ht =>
   cases hi with
   | inBlock id=>exact easy k fun w=>by unfold stepG.exec;simp only [hT]
   | inLoop c hc2=>exact easy (.code c :: .inLoop c :: k) fun w=>by unfold stepG.exec;simp only [hT]
   | inScope c hc2=>exact easy k fun w=>by unfold stepG.exec;simp only [hT]
   | inRange l l' hl=>exact stop (fun _=>.unsupported (.noEntry "a range function without a Go body that blocks") (fr.pos P)) fun w=>by unfold stepG.exec;simp only [hT]
   | inRegion ops l ho =>
     cases l with
     | nil=>exact easy k fun w=>by unfold stepG.exec;simp only [hT]
     | cons i l =>
       by_cases hwant:((ops[i]?).map (Region.wanted · (yielded ops fr.tmps))).getD false=true
       ·cases hoi:ops[i]? with
        | none=>rw [hoi] at hwant;simp at hwant
        | some o =>
          have hok:okOp P B.cv o.op=true:=by
           obtain ⟨hi,rfl⟩:=Array.getElem?_eq_some_iff.1 hoi
           exact (Array.all_eq_true.1 ho) i hi
          have e:(fun w=>stepG.exec P true true fr cs none w)=fun w=>stepG.apply P true fr cs none (execOp fr.eval o) w:=funext fun w=>by
           rw [← zqb hT hoi hok]
           unfold stepG.exec
           simp only [hT]
           rw [if_pos hwant]
          rw [e]
          exact zk8 F (zlt F.toProg ev (fun g=>⟨rfl,rfl⟩) hok) hw htd hf hc
       ·have e:(fun w=>stepG.exec P true true fr cs none w)=fun w=>.go { frame:=fr.finish undef,callers:=cs,status:=.running,dying:=none } w:=funext fun w=>by
         unfold stepG.exec
         simp only [hT]
         rw [if_neg hwant]
        rw [e]
        exact .go htd (zde hf.calm undef) (.inl (by rw [zhx];exact hf.ok))
   | endRange l l' hl =>
     have e:(fun w=>stepG.exec P true true fr cs none w)=fun w=>GStep.after (seen P fr.fn ((Instr.endLoop l).runT P w #[]).2) ((fun r:Result (Option Code)=>match r with
      | .ok jump w=>.go { frame:={ fr with todo:=(jump.map Item.code).toList++k },callers:=cs,status:=.running,dying:=none } w
      | .halt (.panic v) w=>.go { frame:=fr.raise [{ v,recovered:=false }],callers:=cs,status:=.running,dying:=none } w
      | .halt _ w=>.ended (.stuck "range over a function: no such loop" (fr.pos P)) w) ((Instr.endLoop l).runT P w #[]).1):=funext fun w=>by
      unfold stepG.exec
      simp only [hT]
      cases ((Instr.endLoop l).runT P w #[]).1 with
      | ok j w=>rfl
      | halt h w=>cases h <;> rfl
     rw [e]
     refine LOut.stage (P':=P') (K:=fun r:Result (Option Code)=>match r with|.ok jump w=>.go { frame:={ fr with todo:=(jump.map Item.code).toList++k },callers:=cs,status:=.running,dying:=none } w|.halt (.panic v) w=>.go { frame:=fr.raise [{ v,recovered:=false }],callers:=cs,status:=.running,dying:=none } w|.halt _ w=>.ended (.stuck "range over a function: no such loop" (fr.pos P)) w) (zj7 hl) hw htd (fun x1 a b w2 w2' _ hw2 ht2=>.go ht2 hf.calm (.inl hf.ok)) (fun h w2 hh _=>?_)
     cases h with
     | panic v=>exact .inr ⟨_,_,_,rfl,zoa hf hc _⟩
     | _=>exact .inl ⟨_,_,_,rfl⟩
   | begin =>
     have e:(fun w=>stepG.exec P true true fr cs none w)=fun w=>stepG.apply P true fr cs none (do fr.roundOf.elim (stuck "beginRound: no round") Instr.beginRound;pure .skip) w:=funext fun w=>by
      unfold stepG.exec
      simp only [hT]
     rw [e]
     refine zk8 F (s':=(do fr'.roundOf.elim (stuck "beginRound: no round") Instr.beginRound;pure .skip)) ?_ hw htd hf hc
     have hr:=hf.round
     generalize fr.roundOf=r at hr ⊢
     generalize fr'.roundOf=r' at hr ⊢
     cases hr with
     | none=>exact Sim.never (zaj.bind1 (zaj.halt _))
     | some l l' hl=>exact Sim.bind_ (zf3 hl) fun x1 _ _ _=>Sim.pure_ .skip
   | code c hok =>
     cases c with
     | skip=>exact easy k fun w=>by unfold stepG.exec;simp only [hT]
     | label l=>exact easy k fun w=>by unfold stepG.exec;simp only [hT]
     | seq a b=>exact easy (.code a :: .code b :: k) fun w=>by unfold stepG.exec;simp only [hT]
     | cond c a b =>
       by_cases hb:∃ b2,fr.eval c=.bool b2
       ·obtain ⟨b2,hb⟩:=hb
        exact easy (.code (if b2 then a else b) :: k) fun w=>by unfold stepG.exec;simp only [hT,hb]
       ·exact stop (fun _=>.stuck "cond: bool expected" (fr.pos P)) fun w=>by
         unfold stepG.exec
         simp only [hT]
         split
         ·rename_i b2 h2;exact absurd ⟨b2,h2⟩ hb
         ·rfl
     | block id b=>exact easy (.code b :: .inBlock id :: k) fun w=>by unfold stepG.exec;simp only [hT]
     | loop b=>exact easy (.code b :: .inLoop b :: k) fun w=>by unfold stepG.exec;simp only [hT]
     | scope b=>exact easy (.code b :: .inScope b :: k) fun w=>by unfold stepG.exec;simp only [hT]
     | exit id =>
       cases e:exitTo id k with
       | none =>
         rw [show (fun w=>stepG.exec P true true fr cs none w)=fun w=>ze6 P true fr cs (some (.exit id)) w from funext fun w=>by rw [zh3 hT,e];rfl]
         exact zhp F hw htd hf hc _ (fun c e=>by cases e;rfl)
       | some t=>exact easy t fun w=>by rw [zh3 hT,e];rfl
     | goto id =>
       cases e:gotoIn id k with
       | none =>
         rw [show (fun w=>stepG.exec P true true fr cs none w)=fun w=>ze6 P true fr cs (some (.goto id)) w from funext fun w=>by rw [zh2 hT,e];rfl]
         exact zhp F hw htd hf hc _ (fun c e=>by cases e;rfl)
       | some t=>exact easy t fun w=>by rw [zh2 hT,e];rfl
     | ret =>
       rw [show (fun w=>stepG.exec P true true fr cs none w)=_ from funext fun w=>zng hT]
       exact zhp F hw htd hf hc _ (fun c e=>by cases e;rfl)
     | refuse why=>exact stop (fun _=>_) fun w=>by unfold stepG.exec;simp only [hT];rfl
     | rangeFunc f ps a b =>
       rw [zam,Bool.and_eq_true,Bool.and_eq_true] at hok
       have e:(fun w=>stepG.exec P true true fr cs none w)=fun w=>GStep.after (seen P fr.fn ((Instr.enterLoop fr.fn fr.tmps ps a b fr.roundOf).runT P w #[]).2) ((fun r:Result (Nat×List Deferred)=>match r with
        | .ok (l,mark) w=>stepG.apply P true { fr with todo:=.inRangeFunc l :: k,defers:=mark++fr.defers } cs none (do let d ← resolve ({ fr with todo:=.inRangeFunc l :: k,defers:=mark++fr.defers }:Frame).eval { callee:=.value f,args:=#[.const (.func (.yield l) #[] #[])],argTypes:=#[] } 0;invoke d.target d.args) w
        | .halt _ w=>.ended (.stuck "range over a function: no such loop" (fr.pos P)) w) ((Instr.enterLoop fr.fn fr.tmps ps a b fr.roundOf).runT P w #[]).1):=funext fun w=>by
        unfold stepG.exec
        simp only [hT]
        cases ((Instr.enterLoop fr.fn fr.tmps ps a b fr.roundOf).runT P w #[]).1 <;> rfl
       rw [e]
       refine LOut.stage (P':=P') (K:=fun r:Result (Nat×List Deferred)=>match r with|.ok (l,mark) w=>stepG.apply P true { fr with todo:=.inRangeFunc l :: k,defers:=mark++fr.defers } cs none (do let d ← resolve ({ fr with todo:=.inRangeFunc l :: k,defers:=mark++fr.defers }:Frame).eval { callee:=.value f,args:=#[.const (.func (.yield l) #[] #[])],argTypes:=#[] } 0;invoke d.target d.args) w|.halt _ w=>.ended (.stuck "range over a function: no such loop" (fr.pos P)) w) (zg4 hf.ok hf.tmps ps ((F.code a).2 hok.1.2) ((F.code b).2 hok.2) hf.round) hw htd (fun x1 x x' w2 w2' hv hw2 ht2=>?_) (fun h w2 hh _=>.inl ⟨_,_,_,rfl⟩)
       obtain ⟨l,mk⟩:=x
       obtain ⟨l',mk'⟩:=x'
       obtain ⟨hl,hmk⟩:=hv
       have hf2:zbp P B (cor B (nw++x1)) { fr with todo:=.inRangeFunc l :: k,defers:=mk++fr.defers } { fr' with todo:=.inRangeFunc l' :: k',defers:=mk'++fr'.defers } :=
        ⟨hf.fn,hf.tmps.up,.cons (.inRange l l' hl) ht.up,hmk.append hf.defers.up,hf.mode,hf.kind,hf.round.up,hf.ok⟩
       have ev2:=evs F hf2
       refine zk8 F (s':=(do let d ← resolve ({ fr' with todo:=.inRangeFunc l' :: k',defers:=mk'++fr'.defers }:Frame).eval { callee:=.value f,args:=#[.const (.func (.yield l') #[] #[])],argTypes:=#[] } 0;invoke d.target d.args)) ?_ hw2 ht2 hf2 hc.up
       refine Sim.bind_ (R:=fun m d d'=>DRel P (cor B m) d d') ?_ fun x2 d d' hd=>zik F.toProg hd
       have one:RRel (cor B (nw++x1)) #[Value.func (.yield l) #[] #[]] #[Value.func (.yield l') #[] #[]]:=RRel.one (.func _ _ _ _ _ _ (.yield l l' hl) rfl rfl (fun i v v' h=>by simp at h) (fun i v v' h=>by simp at h))
       refine zeg (ev2 f hok.1.1) ?_
       simp only [List.map_toArray,List.map_cons,List.map_nil,Frame.eval]
       exact one
     | region id ops draw =>
       cases draw with
       | false=>exact easy (.inRegion ops (List.range ops.size) :: k) fun w=>by unfold stepG.exec;simp only [hT];rfl
       | true =>
         have e:(fun w=>stepG.exec P true true fr cs none w)=fun w=>.go { frame:={ fr with todo:=.inRegion ops (Region.schedule (P.follows .mixedOrders) ops (w.tape w.drawn (.order fr.fn id))) :: k },callers:=cs,status:=.running,dying:=none } { w with drawn:=w.drawn+1 }:=funext fun w=>by
          unfold stepG.exec
          simp only [hT,Bool.not_true,Bool.false_eq_true,if_false,choose,Sem.run,Question.forced,Question.cut]
         rw [e]
         refine .inr ⟨_,_,{ w with drawn:=w.drawn+1 },_,rfl,htd,.inr ⟨hf.calm,.inl hf.ok,Nat.le_succ _,rfl,fun t' ha=>?_⟩⟩
         have:(relay w t').tape (relay w t').drawn (.order fr.fn id)=w.tape w.drawn (.order fr.fn id):=(ha _ _ (Nat.le_refl _) (Nat.lt_succ_self _)).symm
         dsimp only
         rw [this]
         rfl
theorem zso (F:zb3 P P' B){base cs cs':List Frame}{fr fr':Frame}{w w':World}(hw:WRel B nw w w')(htd:Tidy w)(hf:zbp P B (cor B nw) fr fr')(hm:fr.mode=.returning)(hc:zbl P B (cor B nw) base cs cs'): LOut P (fun w=>unwind P true fr cs none w) w:=by
 have hd:=hf.defers
 obtain ⟨D,hD⟩:∃ D,fr.defers=D:=⟨_,rfl⟩
 obtain ⟨D',hD'⟩:∃ D',fr'.defers=D':=⟨_,rfl⟩
 rw [hD,hD'] at hd
 cases hd with
 | cons r r' l l' hr ht =>
   have e:(fun w=>unwind P true fr cs none w)=fun w=>GStep.after (seen P fr.fn ((Instr.takeDeferred r).runT P w #[]).2) ((fun x:Result (List Deferred)=>match x with
    | .ok calls w=>.go { frame:={ fr with defers:=calls++l },callers:=cs,status:=.running,dying:=none } w
    | .halt _ w=>.ended (.stuck "the deferred calls of a range-over-func loop have been taken" (fr.pos P)) w) ((Instr.takeDeferred r).runT P w #[]).1):=funext fun w=>by
    unfold unwind
    simp only [hD]
    cases ((Instr.takeDeferred r).runT P w #[]).1 <;> rfl
   rw [e]
   exact LOut.stage (P':=P') (K:=fun x:Result (List Deferred)=>match x with|.ok calls w=>.go { frame:={ fr with defers:=calls++l },callers:=cs,status:=.running,dying:=none } w|.halt _ w=>.ended (.stuck "the deferred calls of a range-over-func loop have been taken" (fr.pos P)) w) (zev hr) hw htd (fun x1 a b w2 w2' _ hw2 ht2=>.go ht2 hf.calm (.inl hf.ok)) (fun h w2 hh _=>.inl ⟨_,_,_,rfl⟩)
 | nil =>
   have A:=F.alike.fn fr.fn
   cases hg:P.funcs[fr.fn]? with
   | none =>
     rw [show (fun w=>unwind P true fr cs none w)=fun w=>doReturn P true fr cs none (fr.tmps.getD 0 undef) w from funext fun w=>by unfold unwind;simp only [hD,hm,hg]]
     exact zfc htd hf hc _
   | some fn =>
     have e:(fun w=>unwind P true fr cs none w)=fun w=>GStep.after (seen P fr.fn ((results fn fr.tmps).runT P w #[]).2) ((fun x:Result Value=>match x with
      | .ok v w=>doReturn P true fr cs none v w
      | .halt (.stuck s) w=>.ended (.stuck s (fr.pos P)) w
      | .halt _ w=>.ended (.stuck "return: the result variables cannot be read" (fr.pos P)) w) ((results fn fr.tmps).runT P w #[]).1):=funext fun w=>by
      unfold unwind
      simp only [hD,hm,hg]
      cases ((results fn fr.tmps).runT P w #[]).1 with
      | ok v w=>rfl
      | halt h w=>cases h <;> rfl
     rw [e]
     refine LOut.stage (P':=P') (K:=fun x:Result Value=>match x with|.ok v w=>doReturn P true fr cs none v w|.halt (.stuck s) w=>.ended (.stuck s (fr.pos P)) w|.halt _ w=>.ended (.stuck "return: the result variables cannot be read" (fr.pos P)) w) (zkc F (rfl:fn.results=fn.results) hf.tmps) hw htd (fun x1 a b w2 w2' _ hw2 ht2=>zfc ht2 hf hc a) (fun h w2 hh _=>?_)
     cases h <;> exact .inl ⟨_,_,_,rfl⟩
theorem zzs (F:zb3 P P' B){base cs cs':List Frame}{fr fr':Frame}{w w':World}(hw:WRel B nw w w')(htd:Tidy w)(hf:zbp P B (cor B nw) fr fr')(hc:zbl P B (cor B nw) base cs cs'):
  LOut P (fun w=>stepG P true { frame:=fr,callers:=cs,status:=.running,dying:=none } w) w:=by
 rcases hf.mode with hm|hm
 ·rw [show (fun w=>stepG P true { frame:=fr,callers:=cs,status:=.running,dying:=none } w)=fun w=>stepG.exec P true true fr cs none w from funext fun w=>by unfold stepG;simp only [hm.1]]
  exact z0l F hw htd hf hc
 ·rw [show (fun w=>stepG P true { frame:=fr,callers:=cs,status:=.running,dying:=none } w)=fun w=>unwind P true fr cs none w from funext fun w=>by unfold stepG;simp only [hm.1]]
  exact zso F hw htd hf hm.1 hc
end
end
section
variable [Exts]
theorem zo0 (ch:List PanicEntry)(P:Program): ((door P).raise ch).catches P=true:=by
 unfold Frame.catches Frame.raise door
 simp only [Array.getElem?_size]
 decide +kernel
theorem z33:Extern.next "fmt's door" = none:=by decide
section
variable {P P':Program} {B:Bas} {nw xt:List Nat}
theorem zzg {fr:Frame}{cs:List Frame}{w:World}(hp:Pan P fr cs)(ht:Tidy w):
  (∃ o w1 es,stepG P true { frame:=fr,callers:=cs,status:=.running,dying:=none } w=.ended o w1 es) ∨
   ∃ fr1 cs1 w1 es,stepG P true { frame:=fr,callers:=cs,status:=.running,dying:=none } w=.go { frame:=fr1,callers:=cs1,status:=.running,dying:=none } w1 es∧Pan P fr1 cs1∧Tidy w1:=by
 obtain ⟨⟨ch,hm⟩,hp⟩:=hp
 have e0:stepG P true { frame:=fr,callers:=cs,status:=.running,dying:=none } w=unwind P true fr cs none w:=by unfold stepG;simp only [hm]
 rw [e0]
 rcases hp with ⟨hmk,hst,hx⟩|⟨ch2,rfl,rfl⟩
 ·cases hD:fr.defers with
  | nil =>
    unfold unwind
    simp only [hD,hm]
    split
    ·exact .inl ⟨_,_,_,rfl⟩
    ·obtain ⟨l,rfl,hl⟩:=hst
     cases l with
     | nil=>exact .inr ⟨_,_,_,_,rfl,⟨zcc _ _,.inr ⟨_,rfl,rfl⟩⟩,ht⟩
     | cons c l =>
       refine .inr ⟨_,_,_,_,rfl,⟨zcc _ _,.inl ⟨?_,⟨l,rfl,fun x hx=>hl x (List.mem_cons_of_mem _ hx)⟩,?_⟩⟩,ht⟩
       ·rw [(zg7 _ _).2];exact (hl c List.mem_cons_self).1
       ·rw [(zg7 _ _).1];exact (hl c List.mem_cons_self).2.2
  | cons d ds =>
    obtain ⟨r,rfl⟩:=hmk d (by rw [hD];exact List.mem_cons_self)
    unfold unwind
    simp only [hD]
    have key:(∃ h w2 e2,(Instr.takeDeferred r).runT P w #[]=(.halt h w2,e2))∨∃ w2 e2,(Instr.takeDeferred r).runT P w #[]=(.ok [] w2,e2)∧Tidy w2:=by
     unfold Instr.takeDeferred
     change (∃ h w2 e2,((getObj r).bind _).runT P w #[]=_)∨∃ w2 e2,((getObj r).bind _).runT P w #[]=_∧_
     rw [zan]
     unfold getObj
     simp only [Sem.runT]
     cases hb:w.heap[r]? with
     | none=>exact .inl ⟨_,_,_,rfl⟩
     | some o =>
       cases o <;> first
        | exact .inl ⟨_,_,_,rfl⟩
        | skip
       rename_i q
       cases q with
       | none=>exact .inl ⟨_,_,_,rfl⟩
       | some q =>
         have:=ht r q hb
         subst this
         refine .inr ⟨{ w with heap:=w.heap.setIfInBounds r (.deferred none) },((#[]:Array Event).push ⟨.obj r,false,Obj.isChan (.deferred (some []))⟩).push ⟨.obj r,true,Obj.isChan (.deferred none)⟩,?_,fun b l hbl=>?_⟩
         rotate_left
         ·rw [zbm _ _ hb] at hbl
          split at hbl
          ·cases hbl
          ·exact ht _ _ hbl
         ·dsimp only []
          change ((setObj r (.deferred none)).bind _).runT P w _=_
          rw [zan]
          unfold setObj
          simp only [Sem.runT,hb]
          rfl
    rcases key with ⟨h,w2,e2,e⟩|⟨w2,e2,e,ht2⟩
    ·rw [e];exact .inl ⟨_,_,_,rfl⟩
    ·rw [e]
     refine .inr ⟨_,_,_,_,rfl,⟨⟨ch,hm⟩,.inl ⟨fun d hd=>hmk d (by rw [hD];exact List.mem_cons_of_mem _ hd),hst,hx⟩⟩,ht2⟩
 ·refine .inl ?_
  have hc:=zo0 ch2 P
  unfold unwind
  have hd:((door P).raise ch2).defers=[]:=(zg7 _ _).2
  simp only [hd,hm,hc,if_true]
  exact ⟨_,_,_,rfl⟩
theorem zfj {fr fr1:Frame}{cs cs1:List Frame}{w w1:World}{es:Array Event}(h:stepG P true { frame:=fr,callers:=cs,status:=.running,dying:=none } w=.go { frame:=fr1,callers:=cs1,status:=.running,dying:=none } w1 es):
  step P (lone fr cs w)=.next (lone fr1 cs1 w1):=step_lone_go (by rw [h];rfl)
theorem zge {fr:Frame}{cs:List Frame}{w w1:World}{o:Outcome}{es:Array Event}(h:stepG P true { frame:=fr,callers:=cs,status:=.running,dying:=none } w=.ended o w1 es):
  step P (lone fr cs w)=.ended o w1:=step_lone_ended (by rw [h];rfl)
theorem zhl {fr fr1:Frame}{cs cs1:List Frame}{w w1:World}(h:lone fr cs w=lone fr1 cs1 w1): fr=fr1∧cs=cs1∧w=w1:=by
 unfold lone at h
 simp only [Machine.mk.injEq,Array.mk.injEq,List.cons.injEq,Goroutine.mk.injEq] at h
 exact ⟨h.2.1.1.1,h.2.1.1.2.1,h.1⟩
theorem zg6 {m m1:Machine}{n:Nat}(h:step P m=.next m1): runN P (n+1) m=runN P n m1:=by simp [runN,h]
theorem zmv {m:Machine}{n:Nat}{o:Outcome}{w:World}(h:step P m=.ended o w): runN P (n+1) m=.ended o w:=by simp [runN,h]
theorem zv4:∀ (n:Nat) {fr fr2:Frame} {cs cs2:List Frame} {w w2:World},Pan P fr cs→Tidy w→runN P n (lone fr cs w)=.next (lone fr2 cs2 w2)→Calm fr2→False:=by
 intro n
 induction n with
 | zero =>
   intro fr fr2 cs cs2 w w2 hp ht h hc
   simp only [runN,Stepped.next.injEq] at h
   obtain ⟨rfl,-,-⟩:=zhl h
   obtain ⟨⟨ch,hm⟩,-⟩:=hp
   exact hc ch hm
 | succ n ih =>
   intro fr fr2 cs cs2 w w2 hp ht h hc
   rcases zzg hp ht with ⟨o,w1,es,e⟩|⟨fr1,cs1,w1,es,e,hp1,ht1⟩
   ·rw [zmv (zge e)] at h;cases h
   ·rw [zg6 (zfj e)] at h;exact ih hp1 ht1 h hc
theorem zt5 (v:Value): ∀ (n:Nat) {fr2:Frame} {w w2:World},runN P n (lone ((door P).finish v) [] w)=.next (lone fr2 [door P] w2)→False:=by
 intro n fr2 w w2 h
 cases n with
 | zero =>
   simp only [runN,Stepped.next.injEq] at h
   have:=(zhl h).2.1
   cases this
 | succ n =>
   have e:stepG P true { frame:=(door P).finish v,callers:=[],status:=.running,dying:=none } w=.ended (.stuck ("no extern row "++ "fmt's door") (((door P).finish v).pos P)) w:=by
    unfold stepG door Frame.finish
    simp only [stepG.exec,z33]
    rfl
   rw [zmv (zge e)] at h
   cases h
theorem zw6 (F:zb3 P P' B){base cs cs':List Frame}{fr fr':Frame}{w w':World}(hw:WRel B nw w w')(htd:Tidy w)(hf:zbp P B (cor B nw) fr fr')(hc:zbl P B (cor B nw) base cs cs'){n:Nat}{fr2:Frame}{w2:World}(h:runN P (n+1) (lone fr cs w)=.next (lone fr2 [door P] w2))(hcalm:Calm fr2):
  ∃ fr1 cs1 w1 es,stepG P true { frame:=fr,callers:=cs,status:=.running,dying:=none } w=.go { frame:=fr1,callers:=cs1,status:=.running,dying:=none } w1 es∧Tidy w1∧Calm fr1∧ext fr1.fn=false∧w.drawn≤w1.drawn∧w1.tape=w.tape ∧
   (∀ t',zno w.drawn w1.drawn w.tape t'→stepG P true { frame:=fr,callers:=cs,status:=.running,dying:=none } (relay w t')=.go { frame:=fr1,callers:=cs1,status:=.running,dying:=none } (relay w1 t') es) ∧
   runN P n (lone fr1 cs1 w1)=.next (lone fr2 [door P] w2):=by
 rcases zzs F hw htd hf hc with ⟨o,w1,es,e⟩|⟨fr1,cs1,w1,es,e,ht1,hq⟩
 ·dsimp only at e
  rw [zmv (zge e)] at h;cases h
 ·dsimp only at e
  rw [zg6 (zfj e)] at h
  rcases hq with hq|⟨k0,kh,k1,k2,k3⟩
  ·exact absurd (zv4 n hq ht1 h hcalm) id
  ·rcases kh with kh|⟨v,rfl,rfl⟩
   ·exact ⟨fr1,cs1,w1,es,e,ht1,k0,kh,k1,k2,k3,h⟩
   ·exact absurd (zt5 v n h) id
end
end
section
variable [Exts]
def Past (d:Nat)(t t':Tape): Prop:=∀ p q,p<d→t p q=t' p q
inductive Term (P:Program)(Q:Frame→World→Prop): Frame→List Frame→World→Prop
 | done (fr:Frame) (w:World) (T:Tape) (hT:Past w.drawn T w.tape) (h:Q fr (relay w T)):Term P Q fr [door P] w
 | step (fr:Frame) (cs:List Frame) (w:World) (fr1:Tape→Frame) (cs1:Tape→List Frame) (w1:Tape→World) (es:Tape→Array Event)
   (h:∀ t,Past w.drawn t w.tape→stepG P true { frame:=fr,callers:=cs,status:=.running,dying:=none } (relay w t)=.go { frame:=fr1 t,callers:=cs1 t,status:=.running,dying:=none } (w1 t) (es t))
   (hc:∀ t,Past w.drawn t w.tape→Calm (fr1 t)) (hx:∀ t,Past w.drawn t w.tape→ext (fr1 t).fn=false) (hn:∀ t,Past w.drawn t w.tape→Term P Q (fr1 t) (cs1 t) (w1 t)):Term P Q fr cs w
structure Conf where
 fr:Frame
 cs:List Frame
 w:World
def Inv (P P':Program)(B:Bas)(base:List Frame)(c:Conf): Prop:=Tidy c.w∧∃ nw fr' cs' w',WRel B nw c.w w'∧zbp P B (cor B nw) c.fr fr'∧zbl P B (cor B nw) base c.cs cs'
def Ends (P:Program)(Q:Frame→World→Prop)(c:Conf): Prop:=∀ T,Past c.w.drawn T c.w.tape→∃ n fr2 w2,runN P n (lone c.fr c.cs (relay c.w T))=.next (lone fr2 [door P] w2)∧Calm fr2∧Q fr2 w2
def Bad (P P':Program)(B:Bas)(base:List Frame)(Q:Frame→World→Prop)(c:Conf): Prop:=Inv P P' B base c∧Ends P Q c∧¬ Term P Q c.fr c.cs c.w
section
variable {P P':Program} {B:Bas} {nw xt:List Nat}
theorem WRel.relay {w w':World}(h:WRel B nw w w')(t:Tape): ∃ t',WRel B nw (Proofs.YtelgmbomkojmaaaDoor.relay w t) (Proofs.YtelgmbomkojmaaaDoor.relay w' t') :=
 ⟨fun p q=>t (p - w'.drawn+w.drawn) q,h.size,h.msize,h.inNew,h.nodup,h.lowOld,h.old,h.new,fun k q=>by
  change t (w.drawn+k) q=t (w'.drawn+k - w'.drawn+w.drawn) q
  rw [Nat.add_sub_cancel_left,Nat.add_comm],h.calm⟩
theorem z0v (F:zb3 P P' B)(hs:∀ f,stop f=false){base:List Frame}{Q:Frame→World→Prop}{c:Conf}(h:Bad P P' B base Q c):
  ∃ (t:Tape) (c1:Conf) (es:Array Event),Past c.w.drawn t c.w.tape∧c.w.drawn≤c1.w.drawn∧c1.w.tape=t ∧
   (∀ t',zno c.w.drawn c1.w.drawn t t'→stepG P true { frame:=c.fr,callers:=c.cs,status:=.running,dying:=none } (relay c.w t')=.go { frame:=c1.fr,callers:=c1.cs,status:=.running,dying:=none } (relay c1.w t') es)∧Bad P P' B base Q c1:=by
 obtain ⟨⟨htd,nw,fr',cs',w',hw,hf,hc⟩,hE,hT⟩:=h
 obtain ⟨fr,cs,w⟩:=c
 simp only at htd hw hf hc hT
 have one:∀ t,Past w.drawn t w.tape→∃ fr1 cs1 w1 es,stepG P true { frame:=fr,callers:=cs,status:=.running,dying:=none } (relay w t)=.go { frame:=fr1,callers:=cs1,status:=.running,dying:=none } w1 es∧Tidy w1∧Calm fr1∧ext fr1.fn=false∧w.drawn≤w1.drawn∧w1.tape=t ∧
   (∀ t',zno w.drawn w1.drawn t t'→stepG P true { frame:=fr,callers:=cs,status:=.running,dying:=none } (relay w t')=.go { frame:=fr1,callers:=cs1,status:=.running,dying:=none } (relay w1 t') es):=by
  intro t ht
  obtain ⟨n,fr2,w2,hr,hcalm,hq⟩:=hE t ht
  cases n with
  | zero =>
    simp only [runN,Stepped.next.injEq] at hr
    obtain ⟨rfl,rfl,rfl⟩:=zhl hr
    exact absurd (Term.done fr w t ht hq) hT
  | succ n =>
    obtain ⟨t2,hw2⟩:=hw.relay t
    obtain ⟨fr1,cs1,w1,es,k1,k2,k3,k4,k5,k6,k7,k8⟩:=zw6 F hw2 htd hf hc hr hcalm
    exact ⟨fr1,cs1,w1,es,k1,k2,k3,k4,k5,k6,k7⟩
 have bad:∃ t fr1 cs1 w1 es,Past w.drawn t w.tape∧(stepG P true { frame:=fr,callers:=cs,status:=.running,dying:=none } (relay w t)=.go { frame:=fr1,callers:=cs1,status:=.running,dying:=none } w1 es∧Tidy w1∧Calm fr1∧ext fr1.fn=false∧w.drawn≤w1.drawn∧w1.tape=t ∧
   (∀ t',zno w.drawn w1.drawn t t'→stepG P true { frame:=fr,callers:=cs,status:=.running,dying:=none } (relay w t')=.go { frame:=fr1,callers:=cs1,status:=.running,dying:=none } (relay w1 t') es))∧¬ Term P Q fr1 cs1 w1:=by
  apply Classical.byContradiction
  intro hno
  have all:∀ t (ht:Past w.drawn t w.tape),Term P Q (one t ht).choose (one t ht).choose_spec.choose (one t ht).choose_spec.choose_spec.choose:=fun t ht=>Classical.byContradiction fun h=>hno (by
   obtain ⟨es,g⟩:=(one t ht).choose_spec.choose_spec.choose_spec
   exact ⟨t,_,_,_,es,ht,g,h⟩)
  refine hT ?_
  have sk:∀ t,∃ (fr1:Frame) (cs1:List Frame) (w1:World) (es:Array Event),Past w.drawn t w.tape→stepG P true { frame:=fr,callers:=cs,status:=.running,dying:=none } (relay w t)=.go { frame:=fr1,callers:=cs1,status:=.running,dying:=none } w1 es∧Calm fr1∧ext fr1.fn=false∧Term P Q fr1 cs1 w1:=by
   intro t
   by_cases ht:Past w.drawn t w.tape
   ·obtain ⟨es,g⟩:=(one t ht).choose_spec.choose_spec.choose_spec
    exact ⟨_,_,_,es,fun _=>⟨g.1,g.2.2.1,g.2.2.2.1,all t ht⟩⟩
   ·exact ⟨fr,cs,w,#[],fun h=>absurd h ht⟩
  obtain ⟨f1,sk⟩:=Classical.axiomOfChoice sk
  obtain ⟨f2,sk⟩:=Classical.axiomOfChoice sk
  obtain ⟨f3,sk⟩:=Classical.axiomOfChoice sk
  obtain ⟨f4,sk⟩:=Classical.axiomOfChoice sk
  exact .step fr cs w f1 f2 f3 f4 (fun t ht=>(sk t ht).1) (fun t ht=>(sk t ht).2.1) (fun t ht=>(sk t ht).2.2.1) (fun t ht=>(sk t ht).2.2.2)
 obtain ⟨t,fr1,cs1,w1,es,ht,⟨k1,k2,k3,k4,k5,k6,k7⟩,hnT⟩:=bad
 refine ⟨t,⟨fr1,cs1,w1⟩,es,ht,k5,k6,k7,⟨k2,?_⟩,?_,hnT⟩
 ·obtain ⟨t2,hw2⟩:=hw.relay t
  obtain ⟨x1,fr1',cs1',w1',l,_,hw3,hf3,hc3,_⟩:=zg1 F hw2 hf hc true none .running k1 k3 k4
  refine ⟨_,fr1',cs1',w1',hw3,?_,hc3⟩
  rcases hf3 with hf3|⟨f,_,_,hst,_⟩
  ·exact hf3
  ·rw [hs] at hst;cases hst
 ·intro T hT2
  simp only at hT2
  rw [k6] at hT2
  obtain ⟨n,fr2,w2,hr,hcalm,hq⟩:=hE T (fun p q hp=>(hT2 p q (Nat.lt_of_lt_of_le hp k5)).trans (ht p q hp))
  have hst:=k7 T (fun p q hp hq=>(hT2 p q hq).symm)
  cases n with
  | zero =>
    simp only [runN,Stepped.next.injEq] at hr
    obtain ⟨rfl,rfl,rfl⟩:=zhl hr
    exact absurd (Term.done fr w T (fun p q hp=>(hT2 p q (Nat.lt_of_lt_of_le hp k5)).trans (ht p q hp)) hq) hT
  | succ n =>
    rw [zg6 (zfj hst)] at hr
    exact ⟨n,fr2,w2,hr,hcalm,hq⟩
open Classical in
theorem zux (F:zb3 P P' B)(hs:∀ f,stop f=false){base:List Frame}{Q:Frame→World→Prop}{c:Conf}(hi:Inv P P' B base c)(he:Ends P Q c): Term P Q c.fr c.cs c.w:=by
 apply Classical.byContradiction
 intro hT
 have nx:∀ x:{ c:Conf // Bad P P' B base Q c },∃ y:{ c:Conf // Bad P P' B base Q c },∃ (t:Tape) (es:Array Event),Past x.1.w.drawn t x.1.w.tape∧x.1.w.drawn≤y.1.w.drawn∧y.1.w.tape=t ∧
   (∀ t',zno x.1.w.drawn y.1.w.drawn t t'→stepG P true { frame:=x.1.fr,callers:=x.1.cs,status:=.running,dying:=none } (relay x.1.w t')=.go { frame:=y.1.fr,callers:=y.1.cs,status:=.running,dying:=none } (relay y.1.w t') es):=fun x=>by
  obtain ⟨t,c1,es,h1,h2,h3,h4,h5⟩:=z0v F hs x.2
  exact ⟨⟨c1,h5⟩,t,es,h1,h2,h3,h4⟩
 obtain ⟨g,hg⟩:=Classical.axiomOfChoice nx
 let row:Nat→{ c:Conf // Bad P P' B base Q c }:=fun k=>Nat.rec ⟨c,hi,he,hT⟩ (fun _ x=>g x) k
 have row0:(row 0).1=c:=rfl
 have rowS:∀ k,row (k+1)=g (row k):=fun k=>rfl
 have st:∀ k,∃ es,Past (row k).1.w.drawn (row (k+1)).1.w.tape (row k).1.w.tape∧(row k).1.w.drawn≤(row (k+1)).1.w.drawn ∧
   (∀ t',zno (row k).1.w.drawn (row (k+1)).1.w.drawn (row (k+1)).1.w.tape t'→stepG P true { frame:=(row k).1.fr,callers:=(row k).1.cs,status:=.running,dying:=none } (relay (row k).1.w t')=.go { frame:=(row (k+1)).1.fr,callers:=(row (k+1)).1.cs,status:=.running,dying:=none } (relay (row (k+1)).1.w t') es):=fun k=>by
  obtain ⟨t,es,h1,h2,h3,h4⟩:=hg (row k)
  rw [rowS]
  subst h3
  exact ⟨es,h1,h2,h4⟩
 have mono:∀ j k,j≤k→(row j).1.w.drawn≤(row k).1.w.drawn:=by
  intro j k h
  induction h with
  | refl=>exact Nat.le_refl _
  | step h ih=>exact Nat.le_trans ih (st _).choose_spec.2.1
 have past:∀ j k,j≤k→Past (row j).1.w.drawn (row k).1.w.tape (row j).1.w.tape:=by
  intro j k h
  induction h with
  | refl=>exact fun p q _=>rfl
  | @step k h ih=>exact fun p q hp=>((st k).choose_spec.1 p q (Nat.lt_of_lt_of_le hp (mono j k h))).trans (ih p q hp)
 obtain ⟨T,hTT⟩:∃ T:Tape,∀ k p q,p<(row k).1.w.drawn→T p q=(row k).1.w.tape p q:=by
  refine ⟨fun p q=>if h:∃ k,p<(row k).1.w.drawn then (row h.choose).1.w.tape p q else 0,fun k p q hp=>?_⟩
  have hex:∃ k,p<(row k).1.w.drawn:=⟨k,hp⟩
  dsimp only
  rw [dif_pos hex]
  have hq:=hex.choose_spec
  rcases Nat.le_total hex.choose k with h|h
  ·exact (past _ _ h p q hq).symm
  ·exact past _ _ h p q hp
 have hstep:∀ k,step P (lone (row k).1.fr (row k).1.cs (relay (row k).1.w T))=.next (lone (row (k+1)).1.fr (row (k+1)).1.cs (relay (row (k+1)).1.w T)):=fun k=>by
  obtain ⟨es,h1,h2,h3⟩:=st k
  exact zfj (h3 T fun p q hp hq=>(hTT (k+1) p q hq).symm)
 have hrun:∀ n k,runN P n (lone (row k).1.fr (row k).1.cs (relay (row k).1.w T))=.next (lone (row (k+n)).1.fr (row (k+n)).1.cs (relay (row (k+n)).1.w T)):=by
  intro n
  induction n with
  | zero=>intro k;rfl
  | succ n ih =>
    intro k
    rw [zg6 (hstep k),ih (k+1),show k+(n+1)=k+1+n by omega]
 obtain ⟨n,fr2,w2,hr,hcalm,hq⟩:=he T (hTT 0)
 have h0:=hrun n 0
 rw [row0,Nat.zero_add] at h0
 rw [h0] at hr
 simp only [Stepped.next.injEq] at hr
 obtain ⟨e1,e2,e3⟩:=zhl hr
 refine (row n).2.2.2 ?_
 rw [e2]
 refine .done _ _ T (hTT n) ?_
 rw [e1,e3]
 exact hq
end
end
end Go.Proofs.YtelgmbomkojmaaaDoor
