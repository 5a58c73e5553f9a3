/- A pack: Vf. -/
import Derived.Test.YtelgmbomkojmaaaDoorQZai
import Derived.Test.YtelgmbomkojmaaaDoorQYaj
namespace Go.Proofs.YtelgmbomkojmaaaDoor
set_option linter.all false
set_option maxRecDepth 100000
open Exts (ext stop anyOk gapOk)
section
open Go.Conc Go.ConcN
variable [Exts]
def zia (w:World)(u:World): Tape:=fun p q=>if p<w.drawn then w.tape p q else u.tape (p - w.drawn+u.drawn) q
theorem zcs (w u:World): Past w.drawn (zia w u) w.tape:=fun p q h=>by unfold zia;rw [if_pos h]
theorem zh9 (w u:World)(k q:Nat)(h:Question): zia w u (w.drawn+k) h=u.tape (u.drawn+k) h:=by
 unfold zia
 rw [if_neg (by omega),Nat.add_sub_cancel_left,Nat.add_comm]
inductive zlk (P:Program): Frame→List Frame→World→Frame→List Frame→World→Prop
 | refl (fr:Frame) (cs:List Frame) (w:World) (t:Tape) (ht:Past w.drawn t w.tape):zlk P fr cs w fr cs (relay w t)
 | step {fr fr1 fr2:Frame} {cs cs1 cs2:List Frame} {w w1 w2:World} (t:Tape) (es:Array Event) (ht:Past w.drawn t w.tape)
   (h:stepG P true { frame:=fr,callers:=cs,status:=.running,dying:=none } (relay w t)=.go { frame:=fr1,callers:=cs1,status:=.running,dying:=none } w1 es) (hc:Calm fr1) (hx:ext fr1.fn=false)
   (n:zlk P fr1 cs1 w1 fr2 cs2 w2):zlk P fr cs w fr2 cs2 w2
section
variable {P P':Program} {B:Bas} {nw xt:List Nat}
theorem WRel.oth {ty:TypeId}{Wg:Nat}{M:Nat→Prop}{w w' w₁:World}(h:WRel B nw w w')(hr:Oth ty Wg M w' w₁)(hM:∀ b b' d,cor B nw b=some (b',d)→M b')(hcv:B.cv=false): WRel B nw (Proofs.YtelgmbomkojmaaaDoor.relay w (zia w w₁)) w₁ :=
 ⟨h.size,Nat.le_trans h.msize hr.size,fun k hk=>⟨(h.inNew k hk).1,Nat.lt_of_lt_of_le (h.inNew k hk).2 hr.size⟩,h.nodup,h.lowOld,fun b b' d hb hB=>by
  obtain ⟨x,x',h1,h2,h3⟩:=h.old b b' d hb hB
  exact ⟨x,x',h1,by rw [hr.keep b' (hM b b' d (by rw [zbs hb];exact hB))];exact h2,h3⟩,fun i k hk=>by
  obtain ⟨x,x',h1,h2,h3⟩:=h.new i k hk
  exact ⟨x,x',h1,by rw [hr.keep k (hM (B.N+i) k 0 (by rw [zcj,hk];rfl))];exact h2,h3⟩,fun k q=>zh9 w w₁ k 0 q,fun hc=>by rw [hcv] at hc;cases hc⟩
theorem zbl.door {σ:Nat→Option (Nat×Nat)}{base cs':List Frame}(F:zb3 P P' B)(h:zbl P B σ base [Proofs.YtelgmbomkojmaaaDoor.door P] cs'): cs'=base:=by
 cases h with
 | base=>rfl
 | cons h t =>
   have:=h.ok
   change ext P.funcs.size=false at this
   rw [F.door] at this
   cases this
theorem z4e (F:zb3 P P' B)(hs:∀ f,stop f=false)(hcv:B.cv=false){main:Bool}{ty:TypeId}{Wg:Nat}{base:List Frame}{Q:Frame→World→Prop}(hQ:∀ fr w T,Q fr w→Q fr (relay w T)){Stop:(Nat→Prop)→(Nat→Prop)→Goroutine→World→Prop}{K0:Nat→Prop}{fr:Frame}{cs:List Frame}{w:World}(hT:Term P Q fr cs w):
  ∀ (nw:List Nat) (fr':Frame) (cs':List Frame) (w':World) (M o:Nat→Prop),WRel B nw w w'→zbp P B (cor B nw) fr fr'→zbl P B (cor B nw) base cs cs' →
   (∀ b b' d,cor B nw b=some (b',d)→M b')→(∀ k∈nw,o k)→(∀ b,K0 b→M b∧¬ o b∧b<w'.heap.size)→(¬ o Wg∧Wg<w'.heap.size) →
   (∀ (nw2:List Nat) (fr2:Frame) (w2:World) (fr2':Frame) (w2':World) (S:Nat→Prop),zlk P fr cs w fr2 [Proofs.YtelgmbomkojmaaaDoor.door P] w2→Q fr2 w2→WRel B nw2 w2 w2'→zbp P B (cor B nw2) fr2 fr2'→(∀ b,S b→w'.heap.size≤b)→(∀ k∈nw2,k∈nw∨S k)→(∀ b b' d,cor B nw2 b=some (b',d)→M b'∨S b')→Oth ty Wg K0 w' w2' →
    Stop (fun b=>M b∨S b) (fun b=>o b∨S b) { frame:=fr2',callers:=base,status:=.running,dying:=none } w2') →
   Run P' main ty Wg true Stop M o { frame:=fr',callers:=cs',status:=.running,dying:=none } w':=by
 induction hT with
 | done fr w T hpT hq =>
   intro nw fr' cs' w' M o hw hf hc hM ho hK0 hWg hE
   obtain rfl:=hc.door F
   refine Run.stop fun w₁ h₁=>?_
   have:=hE nw fr _ fr' w₁ (fun _=>False) (.refl fr _ w _ (zcs w w₁)) (hQ fr (relay w T) (zia w w₁) hq) (hw.oth h₁ hM hcv) hf (fun b h=>h.elim) (fun k h=>.inl h) (fun b b' d h=>.inl (hM b b' d h)) (h₁.weak fun b hb=>(hK0 b hb).1)
   simpa using this
 | step fr cs w fr1 cs1 w1 es h hcalm hx hn ih =>
   intro nw fr' cs' w' M o hw hf hc hM ho hK0 hWg hE
   refine Run.step rfl fun w₁ h₁=>?_
   have hp:=zcs w w₁
   have hw1:=hw.oth h₁ hM hcv
   obtain ⟨xt,fr1',cs1',w1',l,k1,k2,k3,k4,k5,k6⟩:=zg1 F hw1 hf hc main none .running (h _ hp) (hcalm _ hp) (hx _ hp)
   have hf1:zbp P B (cor B (nw++xt)) (fr1 (zia w w₁)) fr1':=by
    rcases k3 with k3|⟨f,_,_,hst,_⟩
    ·exact k3
    ·rw [hs] at hst;cases hst
   have hxt:∀ k∈xt,newB w₁ w1' k:=fun k hk=>⟨k5.fresh k hk,(k2.inNew k (List.mem_append_right _ hk)).2⟩
   have hM1:∀ b b' d,cor B (nw++xt) b=some (b',d)→more M w₁ w1' b':=fun b b' d hb=>by
    unfold cor at hb
    split at hb
    ·exact .inl (hM b b' d (by unfold cor;rw [if_pos (by assumption)];exact hb))
    ·obtain ⟨k,hk,e⟩:=Option.map_eq_some_iff.1 hb
     cases e
     have hm:=List.mem_of_getElem? hk
     rcases List.mem_append.1 hm with hm|hm
     ·rw [List.getElem?_append] at hk
      split at hk
      ·exact .inl (hM b b' 0 (by unfold cor;rw [if_neg (by assumption),hk];rfl))
      ·exact .inr (hxt _ (List.mem_of_getElem? hk))
     ·exact .inr (hxt _ hm)
   have ho1:∀ k∈nw++xt,more o w₁ w1' k:=fun k hk=>(List.mem_append.1 hk).elim (fun h=>.inl (ho k h)) (fun h=>.inr (hxt k h))
   have hst:∀ b,b<w₁.heap.size→¬ o b→w1'.heap[b]?=w₁.heap[b]?:=fun b hb hob=>k5.stay b hb (fun hm=>hob (ho b hm)) (.inl hcv)
   have hsz1:=k5.sz
   have hsz0:=h₁.size
   have hoth:Oth ty Wg K0 w' w1':=(h₁.weak fun b hb=>(hK0 b hb).1).trans ⟨fun b hb=>hst b (by have:=(hK0 b hb).2.2;omega) (hK0 b hb).2.1,by omega,k5.tp,k5.os,k5.out,fun ⟨st,sm,hl⟩=>⟨st,sm,hl.of_block (hst Wg (by have:=hWg.2;omega) hWg.1)⟩⟩
   refine ⟨_,w1',l,k1,⟨fun b hb hob=>k5.stay b hb (fun hm=>hob (ho b hm)) (.inl hcv),by have:=k5.sz;omega,k5.tp,k5.os,k5.out⟩,fun e he=>⟨rfl,?_⟩,?_⟩
   ·have:=k6 e he
    obtain ⟨loc,wr,sy⟩:=e
    cases loc with
    | cell a=>obtain ⟨g1,g2,b,d,g3⟩:=this;exact ⟨g1,hM1 _ _ _ g3,fun hw=>ho1 _ (g2 hw)⟩
    | obj r=>obtain ⟨g1,g2,b,d,g3⟩:=this;exact ⟨g1,hM1 _ _ _ g3,fun hw=>ho1 _ (g2 hw)⟩
    | output=>exact this
    | goroutines=>exact this
    | mark m=>cases m <;> exact this
   ·refine ih _ hp (nw++xt) fr1' cs1' w1' _ _ k2 hf1 k4 hM1 ho1 (fun b hb=>⟨.inl (hK0 b hb).1,fun hh=>hh.elim (hK0 b hb).2.1 fun hh=>by have:=hh.1;have:=(hK0 b hb).2.2;omega,by have:=(hK0 b hb).2.2;omega⟩) ⟨fun hh=>hh.elim hWg.1 fun hh=>by have:=hh.1;have:=hWg.2;omega,by have:=hWg.2;omega⟩ fun nw2 fr2 w2 fr2' w2' S g1 g2 g3 g4 g5 g6 g7 g8=>?_
    have:=hE nw2 fr2 w2 fr2' w2' (fun b=>newB w₁ w1' b∨S b) (.step _ _ hp (h _ hp) (hcalm _ hp) (hx _ hp) g1) g2 g3 g4 (fun b hb=>hb.elim (fun x=>Nat.le_trans h₁.size x.1) fun x=>Nat.le_trans h₁.size (Nat.le_trans (by have:=k5.sz;omega) (g5 b x)))
     (fun k hk=>(g6 k hk).elim (fun x=>(List.mem_append.1 x).elim .inl fun x=>.inr (.inl (hxt k x))) fun x=>.inr (.inr x)) (fun b b' d hb=>by rcases g7 b b' d hb with (x|x)|x <;> first|exact .inl x|exact .inr (.inl x)|exact .inr (.inr x)) (hoth.trans g8)
    have e1:(fun b=>more M w₁ w1' b∨S b)=fun b=>M b∨(newB w₁ w1' b∨S b):=by funext b;simp only [more,or_assoc]
    have e2:(fun b=>more o w₁ w1' b∨S b)=fun b=>o b∨(newB w₁ w1' b∨S b):=by funext b;simp only [more,or_assoc]
    rw [e1,e2]
    exact this
inductive To (P:Program)(G:Frame→List Frame→World→Prop): Frame→List Frame→World→Prop
 | goal {fr:Frame} {cs:List Frame} {w:World} (t:Tape) (ht:Past w.drawn t w.tape) (h:G fr cs (relay w t)):To P G fr cs w
 | step {fr:Frame} {cs:List Frame} {w:World} (hcs:cs≠[Proofs.YtelgmbomkojmaaaDoor.door P]) (t:Tape) (ht:Past w.drawn t w.tape)
   (h:∀ fr1 cs1 w1 es,stepG P true { frame:=fr,callers:=cs,status:=.running,dying:=none } (relay w t)=.go { frame:=fr1,callers:=cs1,status:=.running,dying:=none } w1 es→Calm fr1→To P G fr1 cs1 w1):To P G fr cs w
theorem Past.trans_ {d:Nat}{a b c:Tape}(h:Past d a b)(h2:Past d b c): Past d a c:=fun p q hp=>(h p q hp).trans (h2 p q hp)
theorem To.lay {G:Frame→List Frame→World→Prop}{fr:Frame}{cs:List Frame}{w:World}{t:Tape}(ht:Past w.drawn t w.tape)(h:To P G fr cs (relay w t)): To P G fr cs w:=by
 cases h with
 | goal t2 ht2 h=>exact .goal t2 (ht2.trans_ ht) h
 | step hcs t2 ht2 h=>exact .step hcs t2 (ht2.trans_ ht) h
theorem z0q {σ:Nat→Option (Nat×Nat)}{base cs cs':List Frame}(hb:base≠[])(hb1:base≠[Proofs.YtelgmbomkojmaaaDoor.door P'])(h:zbl P B σ base cs cs'): cs'≠[Proofs.YtelgmbomkojmaaaDoor.door P']:=by
 cases h with
 | base=>exact hb1
 | cons h t =>
   intro e
   cases t with
   | base=>simp only [List.cons.injEq] at e;exact hb e.2
   | cons=>simp at e
theorem WRel.lay {w w':World}(h:WRel B nw w w')(t:Tape): WRel B nw (Proofs.YtelgmbomkojmaaaDoor.relay w t) (Proofs.YtelgmbomkojmaaaDoor.relay w' (zia w' (Proofs.YtelgmbomkojmaaaDoor.relay w t))) :=
 ⟨h.size,h.msize,h.inNew,h.nodup,h.lowOld,h.old,h.new,fun k q=>(zh9 w' (Proofs.YtelgmbomkojmaaaDoor.relay w t) k 0 q).symm,h.calm⟩
theorem z3x (F:zb3 P P' B)(hs:∀ f,stop f=false){base:List Frame}(hb:base≠[])(hb1:base≠[Proofs.YtelgmbomkojmaaaDoor.door P']){G:Frame→List Frame→World→Prop}{fr fr2:Frame}{cs cs2:List Frame}{w w2:World}(hT:zlk P fr cs w fr2 cs2 w2):
  ∀ (nw:List Nat) (fr':Frame) (cs':List Frame) (w':World),WRel B nw w w'→zbp P B (cor B nw) fr fr'→zbl P B (cor B nw) base cs cs' →
   (∀ xt fr2' cs2' w2',WRel B (nw++xt) w2 w2'→zbp P B (cor B (nw++xt)) fr2 fr2'→zbl P B (cor B (nw++xt)) base cs2 cs2'→Kept B nw xt w' (relay w2' w'.tape)→To P' G fr2' cs2' w2')→To P' G fr' cs' w':=by
 induction hT with
 | refl fr cs w t ht =>
   intro nw fr' cs' w' hw hf hc k
   refine To.lay (zcs w' (relay w t)) (k [] fr' cs' _ (by rw [List.append_nil];exact hw.lay t) (by rw [List.append_nil];exact hf) (by rw [List.append_nil];exact hc) .rfl')
 | @step fa fb fc ca cb cc wa wb wc t es ht h hcalm hx n ih =>
   intro nw fr' cs' w' hw hf hc k
   refine .step (z0q hb hb1 hc) (zia w' (relay wa t)) (zcs w' (relay wa t)) fun g1 d1 v1 es1 hst _=>?_
   obtain ⟨xt,fr1',cs1',w1',l,k1,k2,k3,k4,k5,k6⟩:=zg1 F (hw.lay t) hf hc true none .running h hcalm hx
   rw [k1] at hst
   simp only [GStep.go.injEq,Goroutine.mk.injEq] at hst
   obtain ⟨⟨rfl,rfl,-⟩,rfl,-⟩:=hst
   have hf1:zbp P B (cor B (nw++xt)) fb fr1':=by
    rcases k3 with k3|⟨f,_,_,hst,_⟩
    ·exact k3
    ·rw [hs] at hst;cases hst
   refine ih (nw++xt) fr1' cs1' w1' k2 hf1 k4 fun x2 fr2' cs2' w2' q1 q2 q3 q4=>?_
   refine k (xt++x2) fr2' cs2' w2' (by rw [← List.append_assoc];exact q1) (by rw [← List.append_assoc];exact q2) (by rw [← List.append_assoc];exact q3) ?_
   have k5':Kept B nw xt w' (relay w1' w'.tape):=⟨k5.os,k5.out,rfl,k5.sz,k5.seq,k5.stay⟩
   have q4':Kept B (nw++xt) x2 (relay w1' w'.tape) (relay w2' w'.tape):=⟨q4.os,q4.out,rfl,q4.sz,q4.seq,q4.stay⟩
   exact k5'.trans q4'
end
end
end Go.Proofs.YtelgmbomkojmaaaDoor
