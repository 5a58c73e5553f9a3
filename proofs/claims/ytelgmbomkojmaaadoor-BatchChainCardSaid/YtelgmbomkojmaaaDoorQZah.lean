/- A pack: Zg Zh Zi Zj Zk. -/
import Derived.Test.YtelgmbomkojmaaaDoorQZag
import Derived.RunT
import Derived.Calls
namespace Go.Proofs.YtelgmbomkojmaaaDoor
set_option linter.all false
set_option maxRecDepth 100000
open Exts (ext stop anyOk gapOk)
section
variable [Exts]
section
variable {α β γ δ:Type} {P P':Program} {B:Bas} {nw:List Nat}
theorem Sim.ite_ {s t:Sem α}{s' t':Sem β}{R:List Nat→α→β→Prop}(c:Prop)[Decidable c](h1:Sim P P' B nw s s' R)(h2:Sim P P' B nw t t' R): Sim P P' B nw (if c then s else t) (if c then s' else t') R:=by
 split
 ·exact h1
 ·exact h2
theorem zpw (F:Fit P P' B){t:TypeId}(hT:zib P t)(op:BinOp)(x y:Operand){a a' b b':Value}(ha:VRel (cor B nw) a a')(hb:VRel (cor B nw) b b'): Sim P P' B nw (eqGuard op t x y a b) (eqGuard op t x y a' b') (fun _ _ _=>True):=by
 have hi:∀ m,∀ (v w v' w':Value),Sim P P' B m (Op.eqGuardIn Op.maxDepth t v w) (Op.eqGuardIn Op.maxDepth t v' w') (fun _ a b=>a=b):=by
  intro m v w v' w'
  unfold Op.maxDepth Op.eqGuardIn
  refine Sim.bind_ (zae F.alike t) fun x1 d d' e=>?_
  obtain ⟨rfl,hd⟩:=e
  rcases hT.1 with ⟨k,h⟩|h|h <;> rw [h] at hd <;> cases hd <;> exact Sim.pure_ rfl
 have key:∀ m,∀ (v w v' w':Value) (u u':Unsupported) (_:HOk (.unsupported u)),Sim P P' B m (do if ← Op.eqGuardIn Op.maxDepth t v w then unsupported u:Sem Unit) (do if ← Op.eqGuardIn Op.maxDepth t v' w' then unsupported u':Sem Unit) (fun _ _ _=>True):=by
  intro m v w v' w' u u' hu
  refine Sim.bind_ (hi m v w v' w') fun x1 a b e=>?_
  subst e
  cases a
  ·exact Sim.pure_ trivial
  ·exact Sim.halt hu
 unfold eqGuard
 have tb:(P'.eqGuardType P'.depth t)=(P.eqGuardType P.depth t):=by
  have:=F.alike.tab
  obtain ⟨T,F1⟩:=P
  obtain ⟨T',F1'⟩:=P'
  simp only at this
  subst this
  have k:∀ (n:Nat) (t:TypeId),Program.eqGuardType { toTables:=T,funcs:=F1' } n t=Program.eqGuardType { toTables:=T,funcs:=F1 } n t:=by
   intro n
   induction n with
   | zero=>intro t;rfl
   | succ n ih =>
     intro t
     simp only [Program.eqGuardType,ih]
     rfl
  exact k _ t
 cases op <;> first
  | exact Sim.pure_ trivial
  | skip
 all_goals simp only [Bool.not_true,Bool.false_eq_true,if_false]
 all_goals
  cases ha <;> cases hb <;> first
   | exact Sim.pure_ trivial
   | (dsimp only []
      exact Sim.ite_ _ (Sim.pure_ trivial) (key _ _ _ _ _ _ _ trivial))
   | (have hq:oddV b'=true:=by assumption
      cases b' <;> first
       | exact Sim.pure_ trivial
       | exact absurd hq Bool.false_ne_true
       | (have hq2:oddV a'=true:=by assumption
          cases a' <;> first
           | exact Sim.pure_ trivial
           | exact absurd hq2 Bool.false_ne_true))
   | (have hq:oddV a'=true:=by assumption
      cases a' <;> first
       | exact Sim.pure_ trivial
       | exact absurd hq Bool.false_ne_true)
   | skip
 all_goals
  dsimp only []
  refine Sim.bind_ zct fun x1 p p' hp=>?_
  obtain ⟨rfl,rfl⟩:=hp
  refine Sim.bind_ zct fun x2 p p' hp=>?_
  obtain ⟨rfl,rfl⟩:=hp
  rw [tb]
  split
  ·exact Sim.pure_ trivial
  ·exact key _ _ _ _ _ _ _ trivial
theorem zu8 (op:UnOp){v v':Value}(h:VRel (cor B nw) v v'): Sim P P' B nw (Op.unary op v) (Op.unary op v') (fun m v v'=>VRel (cor B m) v v'):=by
 cases op <;> cases h <;> unfold Op.unary <;> dsimp only [] <;> first
  | exact Sim.halt
  | exact Sim.pure_ (.bool _)
  | exact zi5 _ _ _ _
  | exact zj6 _ _ _ _
theorem zpu (F:Fit P P' B){s:TypeId}{fi:Nat}(hs:∀ fs f i,P.underlying s=some (.struct fs)→fs[fi]?=some f→P.info? f.type=some i→i.size≠0){v v':Value}(h:VRel (cor B nw) v v'):
  Sim P P' B nw (Instr.fieldAt s v fi) (Instr.fieldAt s v' fi) (fun m v v'=>VRel (cor B m) v v'):=by
 unfold Instr.fieldAt
 refine Sim.bind_ (zae F.alike s) fun x1 d d' e=>?_
 obtain ⟨rfl,hd⟩:=e
 split
 case h_2=>exact Sim.halt
 rename_i fs
 cases hf:fs[fi]? with
 | none=>exact Sim.halt
 | some f =>
   dsimp only []
   refine Sim.bind_ (zcx h.up) fun x2 a a' ha=>?_
   unfold fieldPlace
   refine Sim.bind_ (s:=do if (← sizeOf f.type)=0 then partAt a f.offset f.byteOffset else pure (a.add f.offset)) (s':=do if (← sizeOf f.type)=0 then partAt a' f.offset f.byteOffset else pure (a'.add f.offset)) (R:=fun m a a'=>ARel (cor B m) a a') ?_ fun x3 a a' ha=>Sim.pure_ (.ptr _ _ ha)
   refine Sim.bind_ (zau F.alike f.type) fun x4 n n' e=>?_
   obtain ⟨rfl,i,hi,hn⟩:=e
   rw [if_neg (by rw [hn];exact hs fs f i hd hf hi),if_neg (by rw [hn];exact hs fs f i hd hf hi)]
   exact Sim.pure_ (ha.add _).up
theorem zpt (A:zbt P P'){t:TypeId}{v v' x x':Value}(h:VRel (cor B nw) v v')(hx:VRel (cor B nw) x x'): Sim P P' B nw (Instr.indexAt t v x) (Instr.indexAt t v' x') (fun m v v'=>VRel (cor B m) v v'):=by
 unfold Instr.indexAt
 refine Sim.bind_ (zei hx) fun x1 a b e=>?_
 subst e
 obtain ⟨k,i⟩:=a
 dsimp only []
 refine Sim.bind_ (zae A t) fun x2 d d' e=>?_
 obtain ⟨rfl,hd⟩:=e
 have h:=(h.up (xt:=x1)).up (xt:=x2)
 have fin:∀ (m:List Nat) (base base':Option Addr) (len:Nat) (elem:TypeId) (ar:Bool),(∀ a,base=some a→∃ a',base'=some a'∧ARel (cor B m) a a') →
   Sim P P' B m (match base with|some a=>do (if 0≤i∧i<len then (do pure (.pointer (some (a.add (i.toNat * (← sizeOf elem)))))) else if ar=true then unsupported (.noEntry "op/indexAddr.an index out of range at an array of length 0 or 1 (ledger 616)") else boundsPanic k i len .index)|none=>boundsPanic k i 0 .index)
    (match base' with|some a=>do (if 0≤i∧i<len then (do pure (.pointer (some (a.add (i.toNat * (← sizeOf elem)))))) else if ar=true then unsupported (.noEntry "op/indexAddr.an index out of range at an array of length 0 or 1 (ledger 616)") else boundsPanic k i len .index)|none=>boundsPanic k i 0 .index) (fun m v v'=>VRel (cor B m) v v'):=by
  intro m base base' len elem ar hb
  cases base with
  | none=>exact Sim.bdPanic
  | some a =>
    obtain ⟨a',rfl,ha⟩:=hb a rfl
    dsimp only []
    by_cases hi:0≤i∧i<len
    ·rw [if_pos hi,if_pos hi]
     refine Sim.bind_ (zau A _) fun x3 n n' e=>?_
     obtain ⟨rfl,_⟩:=e
     exact Sim.pure_ (.ptr _ _ (ha.add _).up)
    ·rw [if_neg hi,if_neg hi]
     cases ar
     ·exact Sim.bdPanic
     ·exact Sim.halt
 cases d <;> first
  | exact Sim.never (zaj.bind1 (zaj.halt _))
  | skip
 case array len elem =>
  refine Sim.bind_ (zcx h) fun x3 a a' ha=>?_
  refine Sim.bind_ (Sim.pure_ (R:=fun m (q q':Option Addr×Nat×TypeId)=>q=(some a,len,elem)∧q'=(some a',len,elem)) ⟨rfl,rfl⟩) fun x4 q q' hq=>?_
  obtain ⟨rfl,rfl⟩:=hq
  refine Sim.bind_ (zae A t) fun x5 d d' e=>?_
  obtain ⟨rfl,hd⟩:=e
  exact fin _ (some a) (some a') len elem _ (fun b hb=>by cases hb;exact ⟨a',rfl,ha.up.up⟩)
 case slice elem =>
  cases h with
  | nils n c =>
    dsimp only []
    refine Sim.bind_ (Sim.pure_ (R:=fun m (q q':Option Addr×Nat×TypeId)=>q=(none,n,elem)∧q'=(none,n,elem)) ⟨rfl,rfl⟩) fun x4 q q' hq=>?_
    obtain ⟨rfl,rfl⟩:=hq
    refine Sim.bind_ (zae A t) fun x5 d d' e=>?_
    obtain ⟨rfl,hd⟩:=e
    exact fin _ none none n elem false (fun b hb=>by cases hb)
  | gap a' hg =>
    dsimp only []
    refine Sim.bind_ (Sim.pure_ (R:=fun m (q q':Option Addr×Nat×TypeId)=>q=(none,0,elem)∧q'=(some a',0,elem)) ⟨rfl,rfl⟩) fun x4 q q' hq=>?_
    obtain ⟨rfl,rfl⟩:=hq
    refine Sim.bind_ (zae A t) fun x5 d d' e=>?_
    obtain ⟨rfl,hd⟩:=e
    exact fin _ none (some a') 0 elem _ (fun b hb=>by cases hb)
  | slice a a' n c ha =>
    dsimp only []
    refine Sim.bind_ (Sim.pure_ (R:=fun m (q q':Option Addr×Nat×TypeId)=>q=(some a,n,elem)∧q'=(some a',n,elem)) ⟨rfl,rfl⟩) fun x4 q q' hq=>?_
    obtain ⟨rfl,rfl⟩:=hq
    refine Sim.bind_ (zae A t) fun x5 d d' e=>?_
    obtain ⟨rfl,hd⟩:=e
    exact fin _ (some a) (some a') n elem _ (fun b hb=>by cases hb;exact ⟨a',rfl,ha.up.up⟩)
  | _=>exact Sim.never (zaj.bind1 (zaj.halt _))
theorem zj5 {v v':Value}(h:VRel (cor B nw) v v'): Sim P P' B nw (Builtin.lenOf v) (Builtin.lenOf v') (fun _ a b=>a=b∧(v=.slice none 0 0→a=0)):=by
 cases h <;> first|exact Sim.pure_ ⟨rfl,fun e=>by cases e;rfl⟩|exact Sim.pure_ ⟨rfl,fun e=>by cases e⟩|exact Sim.halt
theorem zaw {v v':Value}(h:VRel (cor B nw) v v')(size n:Nat)(hn:v=.slice none 0 0→n=0): Sim P P' B nw (Builtin.firstCells size n v) (Builtin.firstCells size n v') (fun m c c'=>RRel (cor B m) c c'):=by
 cases h with
 | nils k c=>exact Sim.pure_ RRel.nil
 | gap a' hg =>
   obtain rfl:=hn rfl
   show Sim P P' B nw (pure #[]) (loadCells a' (0 * size)) _
   rw [Nat.zero_mul]
   exact Sim.pure_ RRel.nil
 | slice a a' k c ha=>exact (zeh ha _).mono fun xt c c' h=>h.1
 | string s =>
   refine Sim.pure_ ⟨rfl,fun i v v' h1 h2=>?_⟩
   rw [h1] at h2
   cases h2
   simp only [Array.getElem?_map] at h1
   obtain ⟨b,_,rfl⟩:=Option.map_eq_some_iff.1 h1
   exact .int _ _
 | _=>exact Sim.halt
theorem zbq {σ:Nat→Option (Nat×Nat)}{z z':Array Value}(hz:RRel σ z z')(n:Nat): RRel σ (Builtin.zeroCells z n) (Builtin.zeroCells z' n):=by
 unfold Builtin.zeroCells
 rw [hz.1]
 have:=zin hz (n * z'.size)
 rw [hz.1] at this
 exact this
theorem ARel.pre {m:List Nat}{a a':Addr}(h:ARel (cor B nw) a a')(hp:nw <+: m): ARel (cor B m) a a':=by
 obtain ⟨t,rfl⟩:=hp
 exact h.up
theorem VRel.pre {m:List Nat}{a a':Value}(h:VRel (cor B nw) a a')(hp:nw <+: m): VRel (cor B m) a a':=by
 obtain ⟨t,rfl⟩:=hp
 exact h.up
theorem zof {m:Mark}: Mild (mark m):=fun P w es ht=>ht
theorem zs9 (r:Nat): Mild (shape r):=fun P w es ht=>ht
theorem zqf (a:Addr): Mild (frozen a):=fun P w es ht=>ht
theorem zl0 (a:Addr)(n:Nat): Mild (Builtin.holdsCells a n):=by
 unfold Builtin.holdsCells
 exact Mild.bind (zs9 _) fun s=>by cases s <;> exact Mild.pure _
theorem zhh (size sLen n:Nat)(base:Option Addr)(x:Value): Mild (Builtin.mayShare size sLen n base x):=by
 unfold Builtin.mayShare
 have tail:∀ b:Bool,Mild (if (!b)=true then (pure true:Sem Bool) else match x with
   | .slice (some b) _ _=>do pure (!(← Builtin.holdsCells b (n * size)) || base.any (·.block == b.block))
   | _=>pure false):=fun b=>by
  split
  ·exact Mild.pure _
  ·split
   ·exact Mild.bind (zl0 _ _) fun _=>Mild.pure _
   ·exact Mild.pure _
 cases base with
 | none=>exact Mild.bind (Mild.pure _) tail
 | some a =>
   refine Mild.bind (s:=Builtin.holdsCells a (sLen * size)) (zl0 _ _) fun _=>?_
   refine Mild.bind (s:=frozen (a.add (sLen / 2 * size))) (zqf _) fun _=>?_
   exact Mild.bind (Mild.pure _) tail
theorem zcw (A:zbt P P')(elem:TypeId)(Z:zfw P elem)(size n:Nat)(m:List Nat): Sim P P' B m (if n * size=0 then pure #[] else do pure (Builtin.zeroCells (← zeroValue elem).cells n):Sem (Array Value)) (if n * size=0 then pure #[] else do pure (Builtin.zeroCells (← zeroValue elem).cells n):Sem (Array Value)) (fun m c c'=>RRel (cor B m) c c'):=by
 refine Sim.ite_ _ (Sim.pure_ RRel.nil) ?_
 refine Sim.bind_ (zav A elem Z) fun xc z z' hz=>?_
 obtain ⟨rfl,hz⟩:=hz
 exact Sim.pure_ (zbq (hz _).cells _)
set_option maxHeartbeats 3000000 in
theorem zj9 (A:zbt P P')(ts:Array TypeId)(ty:TypeId)(Z:∀ s,ts[0]?=some s→zic P s){v v' x x':Value}(h:VRel (cor B nw) v v')(hng:∀ a',¬ (v=.slice none 0 0∧v'=.slice (some a') 0 0))(hx:VRel (cor B nw) x x'):
  Sim P P' B nw (Builtin.append_ ts ty #[v,x]) (Builtin.append_ ts ty #[v',x']) (fun m v v'=>VRel (cor B m) v v'):=by
 unfold Builtin.append_
 cases h0:ts[0]? with
 | none=>exact Sim.halt
 | some sType =>
 have g0:∀ (a b:Value),#[a,b][0]?=some a:=fun a b=>rfl
 have g1:∀ (a b:Value),#[a,b][1]?=some b:=fun a b=>rfl
 simp only [g0,g1]
 refine Sim.bind_ (zae A sType) fun x1 d d' e=>?_
 obtain ⟨rfl,hd⟩:=e
 cases d <;> first
  | exact Sim.halt
  | skip
 case slice elem =>
 have Ze:=Z sType h0 elem hd
 have hv0:=h
 cases h <;> first
  | exact Sim.halt
  | skip
 case gap a' hg=>exact absurd ⟨rfl,rfl⟩ (hng a')
 case' nils sLen sCap=>skip
 case' slice a a' sLen sCap ha=>skip
 all_goals
  dsimp only []
  refine Sim.bind_ (zau A elem) fun x2 size size' e=>?_
  obtain ⟨rfl,_⟩:=e
  cases h1:ts[1]?
 all_goals
  dsimp only []
  first
   | refine Sim.bind_ (Sim.pure_ (R:=fun _ a b=>a=b) rfl) fun x3 z z' hz=>?_
   | (refine Sim.bind_ (zae A _) fun x3' d d' e=>?_
      obtain ⟨rfl,hd2⟩:=e
      refine Sim.bind_ (Sim.pure_ (R:=fun _ a b=>a=b) rfl) fun x3 z z' hz=>?_)
  subst hz
  cases z
 all_goals
  simp only [Bool.false_eq_true,if_false,Bool.not_false,Bool.not_true,if_true,false_or,true_or,and_true]
 case slice.none.true =>
  refine Sim.bind_ (zcy (hx.pre (by simp only [List.append_assoc];exact List.prefix_append _ _))) fun x4 l l' e=>?_
  subst e
  refine Sim.ite_ _ (Sim.never (zaj.bind1 (zac _))) ?_
  refine Sim.bind_ (zai A elem) fun y1 i i' e=>?_
  obtain ⟨rfl,_⟩:=e
  refine Sim.ite_ _ (Sim.never (zaj.bind (zbx _) fun _=>zaj.bind1 (zac _))) ?_
  refine Sim.bind_ (Sim.pure_ (R:=fun _ a b=>a=b) rfl) fun y2 n n' e=>?_
  subst e
  refine Sim.ite_ _ ?_ ?_
  ·refine Sim.bind_ (zcw A elem Ze size n _) fun y3 c c' hc=>?_
   refine Sim.bind_ (zb2 ((ha.add _).pre (by simp only [List.append_assoc];exact List.prefix_append _ _)) hc.list 0) fun y4 _ _ _=>?_
   exact Sim.pure_ (.slice _ _ _ _ (ha.pre (by simp only [List.append_assoc];exact List.prefix_append _ _)))
  ·refine Sim.bind_ (zai A elem) fun y4 j j' e=>?_
   obtain ⟨rfl,_⟩:=e
   refine Sim.ite_ _ (Sim.never (zaj.bind1 (zac _))) ?_
   refine Sim.bind_ (zai A elem) fun y5 j2 j2' e=>?_
   obtain ⟨rfl,_⟩:=e
   refine Sim.ite_ _ (Sim.never (zaj.bind1 (zac _))) ?_
   refine Sim.bind_ (zcb _) fun y6 c c' e=>?_
   subst e
   refine Sim.bind_ (zai A elem) fun y7 j3 j3' e=>?_
   obtain ⟨rfl,_⟩:=e
   refine Sim.bind_ (zcq _) fun y8 _ _ _=>?_
   refine Sim.bind_ (zaw (hv0.pre (by simp only [List.append_assoc];exact List.prefix_append _ _)) size sLen (fun e=>by cases e <;> rfl)) fun y9 o o' ho=>?_
   refine Sim.bind_ (zcw A elem Ze size n _) fun ya q q' hq=>?_
   refine Sim.bind_ (zav A elem Ze) fun yb z z' hz=>?_
   obtain ⟨rfl,hz⟩:=hz
   refine Sim.bind_ (zby ((ho.up.up.append hq.up).append (zbq (hz _).cells _)) elem) fun yc a2 a2' ha2=>?_
   exact Sim.pure_ (.slice a2 a2' _ _ ha2)
 case slice.some.true =>
  refine Sim.bind_ (zcy (hx.pre (by simp only [List.append_assoc];exact List.prefix_append _ _))) fun x4 l l' e=>?_
  subst e
  refine Sim.ite_ _ (Sim.never (zaj.bind1 (zac _))) ?_
  refine Sim.bind_ (zai A elem) fun y1 i i' e=>?_
  obtain ⟨rfl,_⟩:=e
  refine Sim.ite_ _ (Sim.never (zaj.bind (zbx _) fun _=>zaj.bind1 (zac _))) ?_
  refine Sim.bind_ (Sim.pure_ (R:=fun _ a b=>a=b) rfl) fun y2 n n' e=>?_
  subst e
  refine Sim.ite_ _ ?_ ?_
  ·refine Sim.bind_ (zcw A elem Ze size n _) fun y3 c c' hc=>?_
   refine Sim.bind_ (zb2 ((ha.add _).pre (by simp only [List.append_assoc];exact List.prefix_append _ _)) hc.list 0) fun y4 _ _ _=>?_
   exact Sim.pure_ (.slice _ _ _ _ (ha.pre (by simp only [List.append_assoc];exact List.prefix_append _ _)))
  ·refine Sim.bind_ (zai A elem) fun y4 j j' e=>?_
   obtain ⟨rfl,_⟩:=e
   refine Sim.ite_ _ (Sim.never (zaj.bind1 (zac _))) ?_
   refine Sim.bind_ (zai A elem) fun y5 j2 j2' e=>?_
   obtain ⟨rfl,_⟩:=e
   refine Sim.ite_ _ (Sim.never (zaj.bind1 (zac _))) ?_
   refine Sim.bind_ (zcb _) fun y6 c c' e=>?_
   subst e
   refine Sim.bind_ (zai A elem) fun y7 j3 j3' e=>?_
   obtain ⟨rfl,_⟩:=e
   refine Sim.bind_ (zcq _) fun y8 _ _ _=>?_
   refine Sim.bind_ (zaw (hv0.pre (by simp only [List.append_assoc];exact List.prefix_append _ _)) size sLen (fun e=>by cases e <;> rfl)) fun y9 o o' ho=>?_
   refine Sim.bind_ (zcw A elem Ze size n _) fun ya q q' hq=>?_
   refine Sim.bind_ (zav A elem Ze) fun yb z z' hz=>?_
   obtain ⟨rfl,hz⟩:=hz
   refine Sim.bind_ (zby ((ho.up.up.append hq.up).append (zbq (hz _).cells _)) elem) fun yc a2 a2' ha2=>?_
   exact Sim.pure_ (.slice a2 a2' _ _ ha2)
 case nils.none.true =>
  refine Sim.bind_ (zcy (hx.pre (by simp only [List.append_assoc];exact List.prefix_append _ _))) fun x4 l l' e=>?_
  subst e
  refine Sim.ite_ _ (Sim.never (zaj.bind1 (zac _))) ?_
  refine Sim.bind_ (zai A elem) fun y1 i i' e=>?_
  obtain ⟨rfl,_⟩:=e
  refine Sim.ite_ _ (Sim.never (zaj.bind (zbx _) fun _=>zaj.bind1 (zac _))) ?_
  refine Sim.bind_ (Sim.pure_ (R:=fun _ a b=>a=b) rfl) fun y2 n n' e=>?_
  subst e
  refine Sim.ite_ _ ?_ ?_
  ·refine Sim.bind_ (zcw A elem Ze size n _) fun y3 c c' hc=>?_
   exact Sim.pure_ (.nils _ _)
  ·refine Sim.bind_ (zai A elem) fun y4 j j' e=>?_
   obtain ⟨rfl,_⟩:=e
   refine Sim.ite_ _ (Sim.never (zaj.bind1 (zac _))) ?_
   refine Sim.bind_ (zai A elem) fun y5 j2 j2' e=>?_
   obtain ⟨rfl,_⟩:=e
   refine Sim.ite_ _ (Sim.never (zaj.bind1 (zac _))) ?_
   refine Sim.bind_ (zcb _) fun y6 c c' e=>?_
   subst e
   refine Sim.bind_ (zai A elem) fun y7 j3 j3' e=>?_
   obtain ⟨rfl,_⟩:=e
   refine Sim.bind_ (zcq _) fun y8 _ _ _=>?_
   refine Sim.bind_ (zaw (hv0.pre (by simp only [List.append_assoc];exact List.prefix_append _ _)) size sLen (fun e=>by cases e <;> rfl)) fun y9 o o' ho=>?_
   refine Sim.bind_ (zcw A elem Ze size n _) fun ya q q' hq=>?_
   refine Sim.bind_ (zav A elem Ze) fun yb z z' hz=>?_
   obtain ⟨rfl,hz⟩:=hz
   refine Sim.bind_ (zby ((ho.up.up.append hq.up).append (zbq (hz _).cells _)) elem) fun yc a2 a2' ha2=>?_
   exact Sim.pure_ (.slice a2 a2' _ _ ha2)
 case nils.some.true =>
  refine Sim.bind_ (zcy (hx.pre (by simp only [List.append_assoc];exact List.prefix_append _ _))) fun x4 l l' e=>?_
  subst e
  refine Sim.ite_ _ (Sim.never (zaj.bind1 (zac _))) ?_
  refine Sim.bind_ (zai A elem) fun y1 i i' e=>?_
  obtain ⟨rfl,_⟩:=e
  refine Sim.ite_ _ (Sim.never (zaj.bind (zbx _) fun _=>zaj.bind1 (zac _))) ?_
  refine Sim.bind_ (Sim.pure_ (R:=fun _ a b=>a=b) rfl) fun y2 n n' e=>?_
  subst e
  refine Sim.ite_ _ ?_ ?_
  ·refine Sim.bind_ (zcw A elem Ze size n _) fun y3 c c' hc=>?_
   exact Sim.pure_ (.nils _ _)
  ·refine Sim.bind_ (zai A elem) fun y4 j j' e=>?_
   obtain ⟨rfl,_⟩:=e
   refine Sim.ite_ _ (Sim.never (zaj.bind1 (zac _))) ?_
   refine Sim.bind_ (zai A elem) fun y5 j2 j2' e=>?_
   obtain ⟨rfl,_⟩:=e
   refine Sim.ite_ _ (Sim.never (zaj.bind1 (zac _))) ?_
   refine Sim.bind_ (zcb _) fun y6 c c' e=>?_
   subst e
   refine Sim.bind_ (zai A elem) fun y7 j3 j3' e=>?_
   obtain ⟨rfl,_⟩:=e
   refine Sim.bind_ (zcq _) fun y8 _ _ _=>?_
   refine Sim.bind_ (zaw (hv0.pre (by simp only [List.append_assoc];exact List.prefix_append _ _)) size sLen (fun e=>by cases e <;> rfl)) fun y9 o o' ho=>?_
   refine Sim.bind_ (zcw A elem Ze size n _) fun ya q q' hq=>?_
   refine Sim.bind_ (zav A elem Ze) fun yb z z' hz=>?_
   obtain ⟨rfl,hz⟩:=hz
   refine Sim.bind_ (zby ((ho.up.up.append hq.up).append (zbq (hz _).cells _)) elem) fun yc a2 a2' ha2=>?_
   exact Sim.pure_ (.slice a2 a2' _ _ ha2)
 all_goals
  refine Sim.bind_ (R:=fun _ a b=>a=b∧(x=.slice none 0 0→a=0)) (by first|exact zj5 (hx.pre (by simp only [List.append_assoc];exact List.prefix_append _ _))|exact zj5 (hx.pre (List.prefix_append _ _))) fun x4 n n' e=>?_
  obtain ⟨rfl,hxn⟩:=e
  refine Sim.ite_ _ ?_ ?_
 all_goals first
  | (refine Sim.bind_ (zaw (hx.pre (by simp only [List.append_assoc];exact List.prefix_append _ _)) size n hxn) fun x5 c c' hc=>?_
     refine Sim.bind_ (zb2 ((ha.add _).pre (by simp only [List.append_assoc];exact List.prefix_append _ _)) hc.list 0) fun x6 _ _ _=>?_
     exact Sim.pure_ (.slice _ _ _ _ (ha.pre (by simp only [List.append_assoc];exact List.prefix_append _ _))))
  | (refine Sim.bind_ (zaw (hx.pre (by simp only [List.append_assoc];exact List.prefix_append _ _)) size n hxn) fun x5 c c' hc=>?_
     exact Sim.pure_ (.nils _ _))
  | (refine Sim.bind_ (zai A elem) fun x5 i i' e=>?_
     obtain ⟨rfl,_⟩:=e
     split
     ·exact Sim.never (zaj.bind1 (zac _))
     refine Sim.bind_ (zai A elem) fun x6 i2 i2' e=>?_
     obtain ⟨rfl,_⟩:=e
     split
     ·exact Sim.never (zaj.bind1 (zaj.bind (zhh _ _ _ _ _) fun b=>by cases b <;> first|exact zaj.halt _|exact zaj.bind zof fun _=>zaj.halt _))
     refine Sim.bind_ (zcb _) fun x7 c c' e=>?_
     subst e
     refine Sim.bind_ (zai A elem) fun x8 i3 i3' e=>?_
     obtain ⟨rfl,_⟩:=e
     refine Sim.bind_ (zcq _) fun x9 _ _ _=>?_
     refine Sim.bind_ (zaw (hv0.pre (by simp only [List.append_assoc];exact List.prefix_append _ _)) size sLen (fun e=>by cases e <;> rfl)) fun xa o o' ho=>?_
     refine Sim.bind_ (zaw (hx.pre (by simp only [List.append_assoc];exact List.prefix_append _ _)) size n hxn) fun xb q q' hq=>?_
     refine Sim.bind_ (zav A elem Ze) fun xc z z' hz=>?_
     obtain ⟨rfl,hz⟩:=hz
     refine Sim.bind_ (zby ((ho.up.up.append hq.up).append (zbq (hz _).cells _)) elem) fun xd a2 a2' ha2=>?_
     exact Sim.pure_ (.slice a2 a2' _ _ ha2))
def Like {α:Type}(P:Program)(s s':Sem α)(R:α→α→Prop): Prop:=∀ (w:World) (es:Array Event) b w1 e1,s.runT P w es=(.ok b w1,e1)→∃ b',s'.runT P w es=(.ok b' w1,e1)∧R b b'
theorem Like.bind {α β:Type}{P:Program}{s s':Sem α}{k k':α→Sem β}{R:α→α→Prop}{R':β→β→Prop}(h:Like P s s' R)(hk:∀ a b,R a b→Like P (k a) (k' b) R'): Like P (s.bind k) (s'.bind k') R':=fun w es b w1 e1 hr=>by
 rw [zan] at hr
 match hs:s.runT P w es with
 | (.ok a w2,e2) =>
   rw [hs] at hr
   obtain ⟨a',h1,h2⟩:=h w es a w2 e2 hs
   obtain ⟨b',h3,h4⟩:=hk a a' h2 w2 e2 b w1 e1 hr
   exact ⟨b',by rw [zan,h1];exact h3,h4⟩
 | (.halt hh w2,e2)=>rw [hs] at hr;cases hr
theorem Like.refl {α:Type}{P:Program}{s:Sem α}{R:α→α→Prop}(h:∀ a,R a a): Like P s s R:=fun w es b w1 e1 hr=>⟨b,hr,h b⟩
theorem Like.never {α:Type}{P:Program}{s s':Sem α}{R:α→α→Prop}(h:zaj s): Like P s s' R:=fun w es b w1 e1 hr=>by
 obtain ⟨hh,w2,e2,e,_⟩:=h P w es
 rw [e] at hr
 cases hr
theorem Like.pure {α:Type}{P:Program}{a b:α}{R:α→α→Prop}(h:R a b): Like P (Sem.pure a) (Sem.pure b) R:=fun w es c w1 e1 hr=>by
 simp only [Sem.runT,Prod.mk.injEq,Result.ok.injEq] at hr
 obtain ⟨⟨rfl,rfl⟩,rfl⟩:=hr
 exact ⟨b,rfl,h⟩
theorem Sim.right {α β:Type}{s:Sem α}{s' s'':Sem β}{R R':List Nat→α→β→Prop}{Q:β→β→Prop}(h:Sim P P' B nw s s' R)(hl:Like P' s' s'' Q)(hQ:∀ m a b b',R m a b→Q b b'→R' m a b'): Sim P P' B nw s s'' R':=by
 refine ⟨?_,h.2⟩
 intro w w' es es' a w1 e1 hw hr
 obtain ⟨x,b,w1',l,r,hw1,hR1,hk,he⟩:=h.1 w w' es es' a w1 e1 hw hr
 obtain ⟨b',h1,h2⟩:=hl w' es' b w1' _ r
 exact ⟨x,b',w1',l,h1,hw1,hQ _ _ _ _ hR1 h2,hk,he⟩
theorem Like.same {α β:Type}{P:Program}{s:Sem α}{k k':α→Sem β}{R':β→β→Prop}(hk:∀ a,Like P (k a) (k' a) R'): Like P (s >>= k) (s >>= k') R':=Like.bind (R:=Eq) (Like.refl fun _=>rfl) fun a b e=>by
 subst e
 exact hk a
theorem Like.bind_ {α β:Type}{P:Program}{s s':Sem α}{k k':α→Sem β}{R:α→α→Prop}{R':β→β→Prop}(h:Like P s s' R)(hk:∀ a b,R a b→Like P (k a) (k' b) R'): Like P (s >>= k) (s' >>= k') R':=Like.bind h hk
theorem Like.ite {α:Type}{P:Program}{c:Prop}[Decidable c]{s s' t t':Sem α}{R:α→α→Prop}(h1:c→Like P s s' R)(h2:¬ c→Like P t t' R): Like P (if c then s else t) (if c then s' else t') R:=by
 split
 ·exact h1 (by assumption)
 ·exact h2 (by assumption)
theorem zkz (size:Nat)(x:Value)(P:Program): Like P (Builtin.firstCells size 0 x) (Builtin.firstCells size 0 x) (fun a b=>a=#[]∧b=#[]):=by
 unfold Builtin.firstCells
 split
 ·rw [Nat.zero_mul]
  exact Like.pure ⟨rfl,rfl⟩
 ·exact Like.pure ⟨rfl,rfl⟩
 ·rename_i s
  have e:((s.extract 0 0).data.map fun b=>(Value.int .u8 b.toNat))=#[]:=by
   have:(s.extract 0 0).data=#[]:=by
    rw [← Array.size_eq_zero_iff]
    simp
   rw [this]
   simp
  rw [e]
  exact Like.pure ⟨rfl,rfl⟩
 ·exact Like.never (zaj.halt _)
theorem zjb (s:ByteArray): ((s.extract 0 0).data.map fun b=>(Value.int .u8 b.toNat))=#[]:=by
 have:(s.extract 0 0).data=#[]:=by
  rw [← Array.size_eq_zero_iff]
  simp
 rw [this]
 simp
theorem zpq {v v':Value}(h:VRel (cor B nw) v v')(size:Nat): Sim P P' B nw (Builtin.firstCells size 0 v) (Builtin.firstCells size 0 v') (fun m c c'=>c=#[]∧c'=#[]):=by
 cases h with
 | nils k c=>exact Sim.pure_ ⟨rfl,rfl⟩
 | gap a' hg =>
   show Sim P P' B nw (pure #[]) (loadCells a' (0 * size)) _
   rw [Nat.zero_mul]
   exact Sim.pure_ ⟨rfl,rfl⟩
 | slice a a' k c ha =>
   show Sim P P' B nw (loadCells a (0 * size)) (loadCells a' (0 * size)) _
   rw [Nat.zero_mul]
   exact Sim.pure_ ⟨rfl,rfl⟩
 | string s=>exact Sim.pure_ ⟨zjb s,zjb s⟩
 | _=>exact Sim.halt
theorem zud (P:Program)(ts:Array TypeId)(ty:TypeId)(x:Value)(a':Addr): Like P (Builtin.append_ ts ty #[.slice none 0 0,x]) (Builtin.append_ ts ty #[.slice (some a') 0 0,x]) (fun b b'=>b'=b∨b=.slice none 0 0∧b'=.slice (some a') 0 0):=by
 unfold Builtin.append_
 cases h0:ts[0]? with
 | none=>exact Like.never (zaj.halt _)
 | some sType =>
 have g0:∀ (a b:Value),#[a,b][0]?=some a:=fun a b=>rfl
 have g1:∀ (a b:Value),#[a,b][1]?=some b:=fun a b=>rfl
 simp only [g0,g1]
 refine Like.same fun d=>?_
 cases d <;> first
  | exact Like.never (zaj.halt _)
  | skip
 case slice elem =>
 dsimp only []
 refine Like.same fun size=>?_
 have old:Like P (Builtin.firstCells size 0 (.slice none 0 0)) (Builtin.firstCells size 0 (.slice (some a') 0 0)) Eq:=by
  show Like P (pure #[]) (loadCells a' (0 * size)) Eq
  rw [Nat.zero_mul]
  exact Like.pure rfl
 cases h1:ts[1]?
 all_goals dsimp only []
 case' none=>refine Like.same fun z=>?_
 case' some=>refine Like.same fun d=>?_
 case' some=>refine Like.same fun z=>?_
 all_goals
  cases z
 all_goals
  simp only [Bool.false_eq_true,if_false,Bool.not_false,Bool.not_true,if_true,false_or,true_or,and_true]
 case' none.false=>refine Like.same fun n=>?_
 case' some.false=>refine Like.same fun n=>?_
 case' none.true =>
  refine Like.same fun l=>?_
  refine Like.ite (fun _=>Like.never (zaj.bind1 (zac _))) (fun _=>?_)
  refine Like.same fun i=>?_
  refine Like.ite (fun _=>Like.never (zaj.bind (zbx _) fun _=>zaj.bind1 (zac _))) (fun _=>?_)
  refine Like.same fun n=>?_
 case' some.true =>
  refine Like.same fun l=>?_
  refine Like.ite (fun _=>Like.never (zaj.bind1 (zac _))) (fun _=>?_)
  refine Like.same fun i=>?_
  refine Like.ite (fun _=>Like.never (zaj.bind (zbx _) fun _=>zaj.bind1 (zac _))) (fun _=>?_)
  refine Like.same fun n=>?_
 all_goals refine Like.ite (fun hn=>?_) (fun hn=>?_)
 all_goals first
  | (obtain rfl:n=0:=by omega
     refine Like.bind_ (R:=fun a b=>a=#[]∧b=#[]) ?_ fun c c' e=>?_
     ·first
       | exact zkz _ _ _
       | (rw [if_pos (Nat.zero_mul _)]
          exact Like.pure ⟨rfl,rfl⟩)
     ·obtain ⟨rfl,rfl⟩:=e
      exact Like.pure (.inr ⟨rfl,rfl⟩))
  | (refine Like.same fun i=>?_
     refine Like.ite (fun _=>Like.never (zaj.bind1 (zac _))) (fun _=>?_)
     refine Like.same fun i2=>?_
     refine Like.ite (fun _=>Like.never (by first|exact zaj.bind1 (zac _)|exact zaj.bind1 (zaj.bind (zhh _ _ _ _ _) fun b=>by cases b <;> first|exact zaj.halt _|exact zaj.bind zof fun _=>zaj.halt _))) (fun _=>?_)
     refine Like.same fun c=>?_
     refine Like.same fun i3=>?_
     refine Like.same fun _=>?_
     refine Like.bind_ old fun o o' e=>?_
     subst e
     refine Like.same fun q=>?_
     refine Like.same fun z=>?_
     refine Like.same fun a2=>?_
     exact Like.pure (.inl rfl))
theorem zsy (A:zbt P P')(ts:Array TypeId)(ty:TypeId)(Z:∀ s,ts[0]?=some s→zic P s){v v' x x':Value}(h:VRel (cor B nw) v v')(hx:VRel (cor B nw) x x'):
  Sim P P' B nw (Builtin.append_ ts ty #[v,x]) (Builtin.append_ ts ty #[v',x']) (fun m v v'=>VRel (cor B m) v v'):=by
 by_cases hg:∃ a',v=.slice none 0 0∧v'=.slice (some a') 0 0
 ·obtain ⟨a',rfl,rfl⟩:=hg
  have hok:gapOk=true:=by cases h with|gap _ hg=>exact hg
  refine Sim.right (zj9 A ts ty Z (.nils 0 0) (fun a e=>by cases e.2) hx) (zud P' ts ty x' a') fun m a b b' h1 h2=>?_
  rcases h2 with rfl|⟨rfl,rfl⟩
  ·exact h1
  ·cases h1 with
   | nils=>exact .gap _ hok
   | any v' h ha=>exact .any _ rfl ha
 ·exact zj9 A ts ty Z h (fun a e=>hg ⟨a,e⟩) hx
end
end
section
variable [Exts]
section
variable {α β γ δ:Type} {P P':Program} {B:Bas} {nw:List Nat}
theorem z1y (A:zbt P P')(ts:Array TypeId)(ty:TypeId){v v':Value}(h:VRel (cor B nw) v v'): Sim P P' B nw (Builtin.len_ ts ty #[v]) (Builtin.len_ ts ty #[v']) (fun m v v'=>VRel (cor B m) v v'):=by
 unfold Builtin.len_
 cases h0:ts[0]? with
 | none=>exact Sim.halt
 | some t =>
 have g0:∀ (a:Value),#[a][0]?=some a:=fun a=>rfl
 simp only [g0]
 refine Sim.bind_ (zae A t) fun x1 d d' e=>?_
 obtain ⟨rfl,hd⟩:=e
 cases d <;> cases h <;> first
  | exact Sim.pure_ (.int _ _)
  | exact Sim.halt
  | (refine Sim.bind_ (zae A _) fun x1 d d' e=>?_
     obtain ⟨rfl,hd⟩:=e
     cases d <;> first|exact Sim.pure_ (.int _ _)|exact Sim.halt)
theorem z12 (A:zbt P P')(ts:Array TypeId)(ty:TypeId){v v':Value}(h:VRel (cor B nw) v v'): Sim P P' B nw (Builtin.cap_ ts ty #[v]) (Builtin.cap_ ts ty #[v']) (fun m v v'=>VRel (cor B m) v v'):=by
 unfold Builtin.cap_
 cases h0:ts[0]? with
 | none=>exact Sim.halt
 | some t =>
 have g0:∀ (a:Value),#[a][0]?=some a:=fun a=>rfl
 simp only [g0]
 refine Sim.bind_ (zae A t) fun x1 d d' e=>?_
 obtain ⟨rfl,hd⟩:=e
 cases d <;> cases h <;> first
  | exact Sim.pure_ (.int _ _)
  | exact Sim.halt
  | (refine Sim.bind_ (zae A _) fun x1 d d' e=>?_
     obtain ⟨rfl,hd⟩:=e
     cases d <;> first|exact Sim.pure_ (.int _ _)|exact Sim.halt)
theorem zy0 (A:zbt P P')(ts:Array TypeId)(ty:TypeId){v v' x x':Value}(h:VRel (cor B nw) v v')(hx:VRel (cor B nw) x x'): Sim P P' B nw (Builtin.copy_ ts ty #[v,x]) (Builtin.copy_ ts ty #[v',x']) (fun m v v'=>VRel (cor B m) v v'):=by
 unfold Builtin.copy_
 cases h0:ts[0]? with
 | none=>exact Sim.halt
 | some t =>
 have g0:∀ (a b:Value),#[a,b][0]?=some a:=fun a b=>rfl
 have g1:∀ (a b:Value),#[a,b][1]?=some b:=fun a b=>rfl
 simp only [g0,g1]
 refine Sim.bind_ (zae A t) fun x1 d d' e=>?_
 obtain ⟨rfl,hd⟩:=e
 cases d <;> first
  | exact Sim.halt
  | skip
 case slice elem =>
 cases h <;> first
  | exact Sim.halt
  | skip
 case' nils dLen dCap=>skip
 case' slice a a' dLen dCap ha=>skip
 case' gap a' hg=>skip
 all_goals
  dsimp only []
  refine Sim.bind_ (zj5 hx.up) fun x2 n n' e=>?_
  obtain ⟨rfl,hxn⟩:=e
  refine Sim.bind_ (zau A elem) fun x3 size size' e=>?_
  obtain ⟨rfl,_⟩:=e
 case gap =>
  rw [show Nat.min n 0=0 from Nat.min_zero n]
  refine Sim.bind_ (zpq (hx.pre (by simp only [List.append_assoc];exact List.prefix_append _ _)) size) fun x4 c c' hc=>?_
  obtain ⟨rfl,rfl⟩:=hc
  exact Sim.pure_ (.int _ _)
 all_goals
  refine Sim.bind_ (zaw (hx.pre (by simp only [List.append_assoc];exact List.prefix_append _ _)) size _ (fun e=>by rw [hxn e];exact Nat.zero_min _)) fun x4 c c' hc=>?_
 ·refine Sim.bind_ (zb2 (ha.pre (by simp only [List.append_assoc];exact List.prefix_append _ _)) hc.list 0) fun x5 _ _ _=>?_
  exact Sim.pure_ (.int _ _)
 ·exact Sim.pure_ (.int _ _)
theorem zyx {v v' x x':Value}(h:VRel (cor B nw) v v')(hx:VRel (cor B nw) x x'): Sim P P' B nw (Builtin.min2 v x) (Builtin.min2 v' x') (fun m v v'=>VRel (cor B m) v v'):=by
 unfold Builtin.min2
 cases h <;> cases hx <;> first
  | exact Sim.pure_ (.int _ _)
  | exact Sim.halt
  | skip
 refine Sim.bind_ (zi4 _ _ _) fun x1 b b' hb=>?_
 refine Sim.bind_ (zlu hb) fun x2 c c' e=>?_
 subst e
 exact Sim.pure_ (.string _)
theorem z1x (ts:Array TypeId)(ty:TypeId){l l':Array Value}(h:RRel (cor B nw) l l'): Sim P P' B nw (Builtin.min_ ts ty l) (Builtin.min_ ts ty l') (fun m v v'=>VRel (cor B m) v v'):=by
 unfold Builtin.min_
 have h:=h.list
 generalize l.toList=q at h ⊢
 generalize l'.toList=q' at h ⊢
 cases h with
 | nil=>exact Sim.halt
 | cons hv hq =>
   rename_i a a' m m'
   dsimp only []
   clear h
   clear l l'
   induction m generalizing m' a a' nw with
   | nil=>cases hq;exact Sim.pure_ hv
   | cons y m ih =>
     cases hq with
     | cons hy hm =>
     simp only [List.foldlM_cons]
     exact Sim.bind_ (zyx hv hy) fun x1 b b' hb=>ih hb hm.up
theorem zyv (A:zbt P P')(t:TypeId){c c':Array Value}(h:RRel (cor B nw) c c')(i:Nat): Sim P P' B nw (part t c i) (part t c' i) (fun m v v'=>VRel (cor B m) v v'):=by
 unfold part
 refine Sim.bind_ (zn1 A t) fun x1 b b' e=>?_
 subst e
 have h:=h.up (xt:=x1)
 refine Sim.ite_ _ ?_ ?_
 ·refine Sim.bind_ (zau A t) fun x2 n n' e=>?_
  obtain ⟨rfl,_⟩:=e
  have h:=h.up (xt:=x2)
  refine Sim.pure_ (.agg _ _ (by simp [h.1]) fun j v v' h1 h2=>?_)
  rw [Array.getElem?_extract] at h1 h2
  rw [h.1] at h1
  split at h1
  ·rw [if_pos (by assumption)] at h2
   exact h.2 _ _ _ h1 h2
  ·cases h1
 ·cases hv:c[i]? with
  | none=>exact Sim.halt
  | some v =>
    obtain ⟨v',h1,h2⟩:=h.get hv
    rw [h1]
    exact Sim.pure_ h2
theorem zvb (A:zbt P P')(t:TypeId){v v' x x':Value}(h:VRel (cor B nw) v v')(hx:VRel (cor B nw) x x'): Sim P P' B nw (Instr.index t v x) (Instr.index t v' x') (fun m v v'=>VRel (cor B m) v v'):=by
 unfold Instr.index
 refine Sim.bind_ (zei hx) fun x1 a b e=>?_
 subst e
 obtain ⟨k,i⟩:=a
 dsimp only []
 refine Sim.bind_ (zae A t) fun x2 d d' e=>?_
 obtain ⟨rfl,hd⟩:=e
 cases d <;> cases h <;> first
  | exact Sim.halt
  | skip
 ·dsimp only []
  split
  ·exact Sim.pure_ (.int _ _)
  ·exact Sim.bdPanic
 ·rename_i ha he
  dsimp only []
  split
  ·refine Sim.bind_ (zau A _) fun x3 size size' e=>?_
   obtain ⟨rfl,_⟩:=e
   exact zyv A _ (RRel.up (RRel.up (RRel.up ⟨ha,he⟩))) _
  ·exact Sim.bdPanic
theorem zii (A:zbt P P')(t:TypeId){v v':Value}(h:VRel (cor B nw) v v'): Sim P P' B nw (Instr.makeInterface t v) (Instr.makeInterface t v') (fun m v v'=>VRel (cor B m) v v'):=by
 unfold Instr.makeInterface
 refine Sim.bind_ (zae A t) fun x2 d d' e=>?_
 obtain ⟨rfl,hd⟩:=e
 cases d <;> first
  | exact Sim.halt
  | exact Sim.pure_ (.iface _ _ _ h.up)
def fz (off:Nat): Obj→Obj
 | .cells c e (lo,hi)=>.cells c e (if lo == hi then (off,off+1) else (min lo off,max hi (off+1)))
 | o=>o
theorem zak (w:World)(b off k:Nat): (w.freeze { block:=b,off:=off } 1).heap[k]?=if k=b then (w.heap[k]?).map (fz off) else w.heap[k]?:=by
 unfold World.freeze
 simp only [Nat.one_ne_zero,if_false,Array.getElem?_modify]
 by_cases h:b=k
 ·subst h
  simp only [if_true]
  congr 1
 ·rw [if_neg h,if_neg (fun e=>h e.symm)]
theorem zr5 (off:Nat)(c:Array Value)(e:TypeId)(fr:Nat×Nat): ∃ f,fz off (.cells c e fr)=.cells c e f:=by
 obtain ⟨lo,hi⟩:=fr
 exact ⟨_,rfl⟩
theorem zwd {σ:Nat→Option (Nat×Nat)}{o o':Obj}(h:NRel B σ o o')(off:Nat): NRel B σ (fz off o) (fz off o'):=by
 cases h with
 | cells c c' e fr h=>obtain ⟨lo,hi⟩:=fr;exact .cells _ _ _ _ h
 | loop l l' h=>exact .loop l l' h
 | defNone=>exact .defNone
 | defNil=>exact .defNil
 | number a a' l h=>exact .number a a' l h
theorem zdx (hcv:B.cv=true){a a':Addr}(ha:ARel (cor B nw) a a'): Sim P P' B nw (markStringish a) (markStringish a') (fun _ _ _=>True):=by
 refine ⟨?_,fun w w' es hw ht=>?_,fun w w' es u w1 e1 hw hr=>?_⟩
 case refine_3 =>
  unfold markStringish at hr ⊢
  change (Sem.shape a.block fun s=>_).runT P w es=_ at hr
  change _∧_∧∀ t',_→(Sem.shape a.block fun s=>_).runT P (relay w t') es=_
  simp only [Sem.runT] at hr ⊢
  have e:∀ t' off,(relay w t').freeze { block:=a.block,off:=off } 1=relay (w.freeze { block:=a.block,off:=off } 1) t':=fun t' off=>rfl
  cases hsh:w.shape? a.block with
  | none =>
    rw [hsh] at hr
    cases hr
    exact ⟨Nat.le_refl _,rfl,fun t' _=>by rw [show (relay w t').shape? a.block=none from hsh];rfl⟩
  | some p =>
    obtain ⟨ty,n⟩:=p
    rw [hsh] at hr
    change ((Result.ok () (w.freeze { block:=a.block,off:=n } 1),es):Result Unit×Array Event)=_ at hr
    cases hr
    exact ⟨Nat.le_refl _,rfl,fun t' _=>by rw [show (relay w t').shape? a.block=some (ty,n) from hsh];rfl⟩
 case refine_2 =>
  unfold markStringish
  change Fine ((Sem.shape a.block fun s=>_).runT P w es).1
  simp only [Sem.runT]
  cases hsh:w.shape? a.block with
  | none=>exact ht
  | some p =>
    obtain ⟨e,n⟩:=p
    change Tidy (w.freeze { block:=a.block,off:=n } 1)
    intro b l hb
    rw [zak] at hb
    split at hb
    ·obtain ⟨o,ho,e⟩:=Option.map_eq_some_iff.1 hb
     cases o <;> first|(cases e;done)|skip
     all_goals first
      | (simp only [fz] at e;cases e;done)
      | (simp only [fz] at e;cases e;exact ht _ _ ho)
    ·exact ht _ _ hb
 intro w w' es es' x w1 e1 hw hr
 obtain ⟨hs,b',d,hc,rfl⟩:=ha
 unfold markStringish at hr ⊢
 change (Sem.shape a.block fun s=>_).runT P w es=_ at hr
 change ∃ xt b w1' l,(Sem.shape b' fun s=>_).runT P' w' es'=_∧_
 simp only [Sem.runT] at hr ⊢
 obtain ⟨o,o',h1,h2,h3⟩:=hw.block hc
 unfold World.shape? at hr ⊢
 rw [h1] at hr
 rw [h2]
 have sz:∀ (w:World) (b off:Nat),(w.freeze { block:=b,off:=off } 1).heap.size=w.heap.size:=fun w b off=>by simp [World.freeze]
 rcases h3 with ⟨hb,h3⟩|⟨i,hbi,rfl,hni,h3⟩
 ·have hb':b'<B.M:=hw.lowOld _ _ _ hb (by rw [← zbs hb];exact hc)
  cases h3 with
  | dull _ _ _ _ hz=>rw [hcv] at hz;cases hz
  | num _ _ _ _ _ hz=>rw [hcv] at hz;cases hz
  | cells c c' e e' fr fr' h0 hs2 hg hcell =>
    change ((Result.ok () (w.freeze { block:=a.block,off:=c.size } 1),es):Result Unit×Array Event)=_ at hr
    simp only [Prod.mk.injEq,Result.ok.injEq] at hr
    obtain ⟨⟨-,rfl⟩,rfl⟩:=hr
    refine ⟨[],(),w'.freeze { block:=b',off:=c'.size } 1,#[],by rw [Array.append_empty];rfl,?_,trivial,⟨rfl,rfl,rfl,by rw [sz];simp,rfl,fun k h4 h5 h6=>?_⟩,fun e he=>by simp at he⟩
    ·rw [List.append_nil]
     have hfz:∃ m,fz c.size (.cells c e fr)=.cells c e (0,m)∧c.size<m:=by
      obtain ⟨lo,hi⟩:=fr
      simp only at h0 hs2
      subst h0
      unfold fz
      dsimp only []
      by_cases hq:(0:Nat) == hi
      ·rw [if_pos hq]
       have:0=hi:=by simpa using hq
       have:c.size=0:=by omega
       exact ⟨c.size+1,by rw [this],by omega⟩
      ·rw [if_neg hq]
       exact ⟨max hi (c.size+1),by rw [Nat.zero_min],by omega⟩
     obtain ⟨m,hm,hm2⟩:=hfz
     refine ⟨by rw [sz];exact hw.size,by rw [sz];exact hw.msize,fun k hk=>by rw [sz];exact hw.inNew k hk,hw.nodup,hw.lowOld,fun b0 b0' d0 hb0 hB=>?_,fun j k hj=>?_,fun k q=>hw.tape k q,fun _=>.inr ?_⟩
     ·obtain ⟨o0,o0',g1,g2,g3⟩:=hw.old b0 b0' d0 hb0 hB
      rw [zak,zak,g1,g2]
      cases g3 with
      | dull _ _ _ _ hz=>rw [hcv] at hz;cases hz
      | num _ _ _ _ _ hz=>rw [hcv] at hz;cases hz
      | cells q q' t t' f f' k0 k1 kg kc =>
        have hq':∃ g',(if b0'=b' then Option.map (fz c'.size) (some (Obj.cells q' t' f')) else some (.cells q' t' f'))=some (.cells q' t' g'):=by
         split
         ·obtain ⟨g',hg'⟩:=zr5 c'.size q' t' f';exact ⟨g',by simp [hg']⟩
         ·exact ⟨f',rfl⟩
        obtain ⟨g',hg'⟩:=hq'
        rw [hg']
        by_cases hbb:b0=a.block
        ·subst hbb
         rw [h1] at g1
         cases g1
         rw [if_pos rfl,Option.map_some,hm]
         exact ⟨_,_,rfl,rfl,.cells _ _ _ _ _ _ rfl (Nat.le_of_lt hm2) kg kc⟩
        ·rw [if_neg hbb]
         exact ⟨_,_,rfl,rfl,.cells _ _ _ _ _ _ k0 k1 kg kc⟩
     ·obtain ⟨o0,o0',g1,g2,g3⟩:=hw.new j k hj
      have:=hw.inNew k (List.mem_of_getElem? hj)
      rw [zak,zak,if_neg (by omega),if_neg (by omega)]
      exact ⟨o0,o0',g1,g2,g3⟩
     ·exact ⟨a.block,c,e,m,hb,by rw [zak,if_pos rfl,h1,Option.map_some,hm],hm2⟩
    ·rw [zak,if_neg]
     intro e
     rcases h6 with h6|h6
     ·rw [hcv] at h6;cases h6
     ·omega
 ·have hbM:=(hw.inNew b' (List.mem_of_getElem? hni)).1
  cases h3 with
  | cells c c' e fr hcell =>
    change ((Result.ok () (w.freeze { block:=a.block,off:=c.size } 1),es):Result Unit×Array Event)=_ at hr
    simp only [Prod.mk.injEq,Result.ok.injEq] at hr
    obtain ⟨⟨-,rfl⟩,rfl⟩:=hr
    refine ⟨[],(),w'.freeze { block:=b',off:=c'.size } 1,#[],by rw [Array.append_empty];rfl,?_,trivial,⟨rfl,rfl,rfl,by rw [sz];simp,rfl,fun k h4 h5 h6=>?_⟩,fun e he=>by simp at he⟩
    ·rw [List.append_nil,← hcell.1]
     refine ⟨by rw [sz];exact hw.size,by rw [sz];exact hw.msize,fun k hk=>by rw [sz];exact hw.inNew k hk,hw.nodup,hw.lowOld,fun b0 b0' d0 hb0 hB=>?_,fun j k hj=>?_,fun k q=>hw.tape k q,fun hq=>?_⟩
     ·have:=hw.lowOld b0 b0' d0 hb0 hB
      rw [zak,zak,if_neg (by omega),if_neg (by omega)]
      exact hw.old b0 b0' d0 hb0 hB
     ·obtain ⟨o0,o0',g1,g2,g3⟩:=hw.new j k hj
      rw [zak,zak,g1,g2]
      by_cases hij:j=i
      ·subst hij
       rw [hni] at hj
       cases hj
       rw [if_pos hbi.symm,if_pos rfl]
       exact ⟨_,_,rfl,rfl,zwd g3 _⟩
      ·rw [if_neg (by omega),if_neg (by intro e;subst e;exact hij (zhe hw.nodup hj hni))]
       exact ⟨o0,o0',rfl,rfl,g3⟩
     ·rcases hw.calm hq with g|⟨b,q,t,m,g1,g2,g3⟩
      ·exact .inl fun k hk=>by rw [zak,if_neg (by omega)];exact g k hk
      ·exact .inr ⟨b,q,t,m,g1,by rw [zak,if_neg (by omega)];exact g2,g3⟩
    ·rw [zak,if_neg]
     intro e
     exact h5 (e ▸ List.mem_of_getElem? hni)
  | _ =>
    change ((Result.ok () w,es):Result Unit×Array Event)=_ at hr
    simp only [Prod.mk.injEq,Result.ok.injEq] at hr
    obtain ⟨⟨-,rfl⟩,rfl⟩:=hr
    exact ⟨[],(),w',#[],by rw [Array.append_empty];rfl,by simpa using hw,trivial,.rfl',fun e he=>by simp at he⟩
theorem zyw {o o':Obj}(h:∀ k,NRel B (cor B (nw++[k])) o o'): Sim P P' B nw (newObj o) (newObj o') (fun n r r'=>cor B n r=some (r',0)∧B.N≤r):=by
 refine ⟨?_,fun w w' es hw ht=>?_,fun w w' es u w1 e1 hw hr=>by cases hr;exact ⟨Nat.le_refl _,rfl,fun t' _=>rfl⟩⟩
 case refine_2 =>
  intro b l hb
  simp only [newObj,Sem.runT] at hb
  rw [Array.getElem?_push] at hb
  split at hb
  ·cases hb
   have:=h 0
   cases this
   rfl
  ·exact ht _ _ hb
 intro w w' es es' r w1 e1 hw hr
 unfold newObj at hr ⊢
 simp only [Sem.runT,Prod.mk.injEq,Result.ok.injEq] at hr ⊢
 obtain ⟨⟨rfl,rfl⟩,rfl⟩:=hr
 have hcor:cor B (nw++[w'.heap.size]) w.heap.size=some (w'.heap.size,0):=by
  rw [hw.size,zcj];simp
 refine ⟨[w'.heap.size],w'.heap.size,_,#[],⟨⟨rfl,rfl⟩,by simp⟩,?_,⟨hcor,by have:=hw.size;omega⟩,?_,fun e he=>by simp at he⟩
 ·refine ⟨by simp [hw.size];omega,by simp;have:=hw.msize;omega,fun k hk=>?_,?_,hw.lowOld,fun b b' d hb hc=>?_,fun i k hk=>?_,hw.tape,fun hcv=>?_⟩
  ·simp
   rcases List.mem_append.1 hk with h1|h1
   ·have:=hw.inNew k h1;exact ⟨this.1,by omega⟩
   ·simp at h1;subst h1;exact ⟨hw.msize,by omega⟩
  ·rw [List.nodup_append]
   refine ⟨hw.nodup,by simp,fun x hx y hy=>?_⟩
   simp at hy
   subst hy
   have:=(hw.inNew x hx).2
   omega
  ·obtain ⟨o1,o1',h1,h2,h3⟩:=hw.old b b' d hb hc
   have l1:=(Array.getElem?_eq_some_iff.1 h1).1
   have l2:=(Array.getElem?_eq_some_iff.1 h2).1
   refine ⟨o1,o1',?_,?_,h3.up⟩
   ·rw [Array.getElem?_push,if_neg (by omega)];exact h1
   ·rw [Array.getElem?_push,if_neg (by omega)];exact h2
  ·rw [List.getElem?_append] at hk
   split at hk
   ·obtain ⟨o1,o1',h1,h2,h3⟩:=hw.new i k hk
    have l1:=(Array.getElem?_eq_some_iff.1 h1).1
    have l2:=(Array.getElem?_eq_some_iff.1 h2).1
    refine ⟨o1,o1',?_,?_,h3.up⟩
    ·rw [Array.getElem?_push,if_neg (by omega)];exact h1
    ·rw [Array.getElem?_push,if_neg (by omega)];exact h2
   ·rename_i hge
    have hi:i=nw.length:=by
     rcases Nat.lt_or_ge (i - nw.length) 1 with h1|h1
     ·omega
     ·rw [List.getElem?_eq_none (by simpa using h1)] at hk;cases hk
    subst hi
    simp at hk
    subst hk
    refine ⟨o,o',?_,?_,h _⟩
    ·rw [Array.getElem?_push,if_pos hw.size.symm]
    ·rw [Array.getElem?_push,if_pos rfl]
  ·rcases hw.calm hcv with h1|⟨b,c,e,m,h1,h2,h3⟩
   ·refine .inl fun x hx=>?_
    have:=hw.msize
    rw [Array.getElem?_push,if_neg (by omega)];exact h1 x hx
   ·have l1:=(Array.getElem?_eq_some_iff.1 h2).1
    exact .inr ⟨b,c,e,m,h1,by rw [Array.getElem?_push,if_neg (by omega)];exact h2,h3⟩
 ·refine ⟨rfl,rfl,rfl,by simp,rfl,fun k hk hn _=>?_⟩
  rw [Array.getElem?_push,if_neg (by omega)]
theorem zps {a a':Addr}(hcv:B.cv=true∨B.N≤a.block)(ha:ARel (cor B nw) a a'): Sim P P' B nw (markStringish a) (markStringish a') (fun _ _ _=>True):=by
 refine ⟨?_,fun w w' es hw ht=>?_,fun w w' es u w1 e1 hw hr=>?_⟩
 case refine_3 =>
  unfold markStringish at hr ⊢
  change (Sem.shape a.block fun s=>_).runT P w es=_ at hr
  change _∧_∧∀ t',_→(Sem.shape a.block fun s=>_).runT P (relay w t') es=_
  simp only [Sem.runT] at hr ⊢
  have e:∀ t' off,(relay w t').freeze { block:=a.block,off:=off } 1=relay (w.freeze { block:=a.block,off:=off } 1) t':=fun t' off=>rfl
  cases hsh:w.shape? a.block with
  | none =>
    rw [hsh] at hr
    cases hr
    exact ⟨Nat.le_refl _,rfl,fun t' _=>by rw [show (relay w t').shape? a.block=none from hsh];rfl⟩
  | some p =>
    obtain ⟨ty,n⟩:=p
    rw [hsh] at hr
    change ((Result.ok () (w.freeze { block:=a.block,off:=n } 1),es):Result Unit×Array Event)=_ at hr
    cases hr
    exact ⟨Nat.le_refl _,rfl,fun t' _=>by rw [show (relay w t').shape? a.block=some (ty,n) from hsh];rfl⟩
 case refine_2 =>
  unfold markStringish
  change Fine ((Sem.shape a.block fun s=>_).runT P w es).1
  simp only [Sem.runT]
  cases hsh:w.shape? a.block with
  | none=>exact ht
  | some p =>
    obtain ⟨e,n⟩:=p
    change Tidy (w.freeze { block:=a.block,off:=n } 1)
    intro b l hb
    rw [zak] at hb
    split at hb
    ·obtain ⟨o,ho,e⟩:=Option.map_eq_some_iff.1 hb
     cases o <;> first|(cases e;done)|skip
     all_goals first
      | (simp only [fz] at e;cases e;done)
      | (simp only [fz] at e;cases e;exact ht _ _ ho)
    ·exact ht _ _ hb
 intro w w' es es' x w1 e1 hw hr
 obtain ⟨hs,b',d,hc,rfl⟩:=ha
 unfold markStringish at hr ⊢
 change (Sem.shape a.block fun s=>_).runT P w es=_ at hr
 change ∃ xt b w1' l,(Sem.shape b' fun s=>_).runT P' w' es'=_∧_
 simp only [Sem.runT] at hr ⊢
 obtain ⟨o,o',h1,h2,h3⟩:=hw.block hc
 unfold World.shape? at hr ⊢
 rw [h1] at hr
 rw [h2]
 have sz:∀ (w:World) (b off:Nat),(w.freeze { block:=b,off:=off } 1).heap.size=w.heap.size:=fun w b off=>by simp [World.freeze]
 rcases h3 with ⟨hb,h3⟩|⟨i,hbi,rfl,hni,h3⟩
 ·have hcv:B.cv=true:=hcv.resolve_right (by omega)
  have hb':b'<B.M:=hw.lowOld _ _ _ hb (by rw [← zbs hb];exact hc)
  cases h3 with
  | dull _ _ _ _ hz=>rw [hcv] at hz;cases hz
  | num _ _ _ _ _ hz=>rw [hcv] at hz;cases hz
  | cells c c' e e' fr fr' h0 hs2 hg hcell =>
    change ((Result.ok () (w.freeze { block:=a.block,off:=c.size } 1),es):Result Unit×Array Event)=_ at hr
    simp only [Prod.mk.injEq,Result.ok.injEq] at hr
    obtain ⟨⟨-,rfl⟩,rfl⟩:=hr
    refine ⟨[],(),w'.freeze { block:=b',off:=c'.size } 1,#[],by rw [Array.append_empty];rfl,?_,trivial,⟨rfl,rfl,rfl,by rw [sz];simp,rfl,fun k h4 h5 h6=>?_⟩,fun e he=>by simp at he⟩
    ·rw [List.append_nil]
     have hfz:∃ m,fz c.size (.cells c e fr)=.cells c e (0,m)∧c.size<m:=by
      obtain ⟨lo,hi⟩:=fr
      simp only at h0 hs2
      subst h0
      unfold fz
      dsimp only []
      by_cases hq:(0:Nat) == hi
      ·rw [if_pos hq]
       have:0=hi:=by simpa using hq
       have:c.size=0:=by omega
       exact ⟨c.size+1,by rw [this],by omega⟩
      ·rw [if_neg hq]
       exact ⟨max hi (c.size+1),by rw [Nat.zero_min],by omega⟩
     obtain ⟨m,hm,hm2⟩:=hfz
     refine ⟨by rw [sz];exact hw.size,by rw [sz];exact hw.msize,fun k hk=>by rw [sz];exact hw.inNew k hk,hw.nodup,hw.lowOld,fun b0 b0' d0 hb0 hB=>?_,fun j k hj=>?_,fun k q=>hw.tape k q,fun _=>.inr ?_⟩
     ·obtain ⟨o0,o0',g1,g2,g3⟩:=hw.old b0 b0' d0 hb0 hB
      rw [zak,zak,g1,g2]
      cases g3 with
      | dull _ _ _ _ hz=>rw [hcv] at hz;cases hz
      | num _ _ _ _ _ hz=>rw [hcv] at hz;cases hz
      | cells q q' t t' f f' k0 k1 kg kc =>
        have hq':∃ g',(if b0'=b' then Option.map (fz c'.size) (some (Obj.cells q' t' f')) else some (.cells q' t' f'))=some (.cells q' t' g'):=by
         split
         ·obtain ⟨g',hg'⟩:=zr5 c'.size q' t' f';exact ⟨g',by simp [hg']⟩
         ·exact ⟨f',rfl⟩
        obtain ⟨g',hg'⟩:=hq'
        rw [hg']
        by_cases hbb:b0=a.block
        ·subst hbb
         rw [h1] at g1
         cases g1
         rw [if_pos rfl,Option.map_some,hm]
         exact ⟨_,_,rfl,rfl,.cells _ _ _ _ _ _ rfl (Nat.le_of_lt hm2) kg kc⟩
        ·rw [if_neg hbb]
         exact ⟨_,_,rfl,rfl,.cells _ _ _ _ _ _ k0 k1 kg kc⟩
     ·obtain ⟨o0,o0',g1,g2,g3⟩:=hw.new j k hj
      have:=hw.inNew k (List.mem_of_getElem? hj)
      rw [zak,zak,if_neg (by omega),if_neg (by omega)]
      exact ⟨o0,o0',g1,g2,g3⟩
     ·exact ⟨a.block,c,e,m,hb,by rw [zak,if_pos rfl,h1,Option.map_some,hm],hm2⟩
    ·rw [zak,if_neg]
     intro e
     rcases h6 with h6|h6
     ·rw [hcv] at h6;cases h6
     ·omega
 ·have hbM:=(hw.inNew b' (List.mem_of_getElem? hni)).1
  cases h3 with
  | cells c c' e fr hcell =>
    change ((Result.ok () (w.freeze { block:=a.block,off:=c.size } 1),es):Result Unit×Array Event)=_ at hr
    simp only [Prod.mk.injEq,Result.ok.injEq] at hr
    obtain ⟨⟨-,rfl⟩,rfl⟩:=hr
    refine ⟨[],(),w'.freeze { block:=b',off:=c'.size } 1,#[],by rw [Array.append_empty];rfl,?_,trivial,⟨rfl,rfl,rfl,by rw [sz];simp,rfl,fun k h4 h5 h6=>?_⟩,fun e he=>by simp at he⟩
    ·rw [List.append_nil,← hcell.1]
     refine ⟨by rw [sz];exact hw.size,by rw [sz];exact hw.msize,fun k hk=>by rw [sz];exact hw.inNew k hk,hw.nodup,hw.lowOld,fun b0 b0' d0 hb0 hB=>?_,fun j k hj=>?_,fun k q=>hw.tape k q,fun hq=>?_⟩
     ·have:=hw.lowOld b0 b0' d0 hb0 hB
      rw [zak,zak,if_neg (by omega),if_neg (by omega)]
      exact hw.old b0 b0' d0 hb0 hB
     ·obtain ⟨o0,o0',g1,g2,g3⟩:=hw.new j k hj
      rw [zak,zak,g1,g2]
      by_cases hij:j=i
      ·subst hij
       rw [hni] at hj
       cases hj
       rw [if_pos hbi.symm,if_pos rfl]
       exact ⟨_,_,rfl,rfl,zwd g3 _⟩
      ·rw [if_neg (by omega),if_neg (by intro e;subst e;exact hij (zhe hw.nodup hj hni))]
       exact ⟨o0,o0',rfl,rfl,g3⟩
     ·rcases hw.calm hq with g|⟨b,q,t,m,g1,g2,g3⟩
      ·exact .inl fun k hk=>by rw [zak,if_neg (by omega)];exact g k hk
      ·exact .inr ⟨b,q,t,m,g1,by rw [zak,if_neg (by omega)];exact g2,g3⟩
    ·rw [zak,if_neg]
     intro e
     exact h5 (e ▸ List.mem_of_getElem? hni)
  | _ =>
    change ((Result.ok () w,es):Result Unit×Array Event)=_ at hr
    simp only [Prod.mk.injEq,Result.ok.injEq] at hr
    obtain ⟨⟨-,rfl⟩,rfl⟩:=hr
    exact ⟨[],(),w',#[],by rw [Array.append_empty];rfl,by simpa using hw,trivial,.rfl',fun e he=>by simp at he⟩
theorem zpr {c c':Array Value}(h:RRel (cor B nw) c c')(e:TypeId): Sim P P' B nw (newRow e c) (newRow e c') (fun m a a'=>ARel (cor B m) a a'∧B.N≤a.block):=by
 unfold newRow
 refine Sim.bind_ (zyw (o:=.cells c e) (o':=.cells c' e) fun k=>.cells c c' e (0,0) h.up) fun xt r r' hr=>?_
 exact Sim.pure_ ⟨⟨rfl,r',0,hr.1,rfl⟩,hr.2⟩
theorem zj1 (e:TypeId)(s:ByteArray): Sim P P' B nw (Conv.stringToBytes e s) (Conv.stringToBytes e s) (fun m v v'=>VRel (cor B m) v v'):=by
 unfold Conv.stringToBytes
 dsimp only []
 refine Sim.bind_ (zcb _) fun x4 c c' e4=>?_
 subst e4
 have flat:∀ (m:List Nat),RRel (cor B m) (s.data.map fun b=>Value.int .u8 b.toNat) (s.data.map fun b=>Value.int .u8 b.toNat):=fun m=>⟨rfl,fun i v v' h1 h2=>by
  rw [h1] at h2
  cases h2
  simp only [Array.getElem?_map] at h1
  obtain ⟨b,_,rfl⟩:=Option.map_eq_some_iff.1 h1
  exact .int _ _⟩
 have flat2:∀ (m:List Nat) n,RRel (cor B m) (Array.replicate n (Value.int .u8 0)) (Array.replicate n (Value.int .u8 0)):=fun m n=>⟨rfl,fun i v v' h1 h2=>by
  rw [h1] at h2
  cases h2
  rw [Array.getElem?_replicate] at h1
  split at h1
  ·cases h1;exact .int _ _
  ·cases h1⟩
 refine Sim.bind_ (zpr ((flat _).append (flat2 _ _)) e) fun x5 a a' ha=>?_
 refine Sim.bind_ (zps (.inr ha.2) ha.1) fun x6 _ _ _=>?_
 exact Sim.pure_ (.slice _ _ _ _ ha.1.up)
def z1i (P:Program)(B:Bas)(src dst:TypeId): Prop :=
 (∃ k k',P.underlying src=some (.int k')∧P.underlying dst=some (.int k))∨(∃ e,P.underlying src=some (.slice e)∧P.underlying dst=some .string∧P.underlying e=some (.int .u8)) ∨
  (B.cv=true∧src=dst∧∃ e,P.underlying src=some (.slice e)∧P.underlying e=some (.int .u8)) ∨
  (∃ e,P.underlying src=some .string∧P.underlying dst=some (.slice e)∧P.underlying e=some (.int .u8))
theorem zil {v v':Value}(h:VRel (cor B nw) v v'): Sim P P' B nw (Conv.bytesToString v) (Conv.bytesToString v') (fun m v v'=>VRel (cor B m) v v'):=by
 unfold Conv.bytesToString
 cases h with
 | nils n c=>exact Sim.pure_ (.string _)
 | gap a' hg=>exact Sim.pure_ (.string _)
 | slice a a' n c ha =>
   dsimp only []
   refine Sim.bind_ (zeh ha n) fun x1 c c' hc=>?_
   obtain ⟨hc,-⟩:=hc
   have hc:=hc.list
   rw [← Array.forIn_toList,← Array.forIn_toList]
   have key:∀ (l l':List Value) (m:List Nat) (s:ByteArray),LRl (cor B m) l l'→Sim P P' B m (forIn l s fun c r=>match c with
     | .int .u8 n=>(do pure PUnit.unit;pure (ForInStep.yield (r.push (UInt8.ofNat n.toNat))):Sem (ForInStep ByteArray))
     | _=>stuck "bytesToString: byte expected") (forIn l' s fun c r=>match c with
     | .int .u8 n=>(do pure PUnit.unit;pure (ForInStep.yield (r.push (UInt8.ofNat n.toNat))):Sem (ForInStep ByteArray))
     | _=>stuck "bytesToString: byte expected") (fun _ a b=>a=b):=by
    intro l
    induction l with
    | nil=>intro l' m s h;cases h;exact Sim.pure_ rfl
    | cons y l ih =>
      intro l' m s h
      cases h with
      | cons hy hl =>
      simp only [List.forIn_cons]
      cases hy <;> first
       | exact Sim.never (zaj.bind1 (zaj.halt _))
       | skip
      rename_i k n
      cases k <;> first
       | exact Sim.never (zaj.bind1 (zaj.halt _))
       | exact ih _ _ _ hl
   refine Sim.bind_ (R:=fun _ a b=>a=b) (key _ _ _ _ hc) fun x2 a b e=>?_
   subst e
   exact Sim.pure_ (.string _)
 | _=>exact Sim.halt
theorem zpx (A:zbt P P'){src dst:TypeId}(hk:z1i P B src dst){v v':Value}(h:VRel (cor B nw) v v'): Sim P P' B nw (convert src dst v) (convert src dst v') (fun m v v'=>VRel (cor B m) v v'):=by
 unfold convert
 refine Sim.bind_ (zae A src) fun x1 d d' e=>?_
 obtain ⟨rfl,hd⟩:=e
 refine Sim.bind_ (zae A dst) fun x2 f f' e=>?_
 obtain ⟨rfl,hf⟩:=e
 rcases hk with ⟨k,k',hk',hk⟩|⟨e,h1,h2,h3⟩|⟨hcv,rfl,e,h1,h3⟩|⟨e,h1,h2,h3⟩
 ·rw [hk] at hf
  rw [hk'] at hd
  cases hf
  cases hd
  cases h <;> first
   | exact Sim.pure_ (.int _ _)
   | exact Sim.halt
 ·rw [h1] at hd
  rw [h2] at hf
  cases hd
  cases hf
  have tail:Sim P P' B (nw++x1++x2) (do match ← underlying e with
   | .int .u8=>Conv.bytesToString v
   | .int .i32=>Conv.runesToString v
   | _=>stuck "Convert: a slice of what to string?") (do match ← underlying e with
   | .int .u8=>Conv.bytesToString v'
   | .int .i32=>Conv.runesToString v'
   | _=>stuck "Convert: a slice of what to string?") (fun m v v'=>VRel (cor B m) v v'):=by
   refine Sim.bind_ (zae A e) fun x3 d d' hh=>?_
   obtain ⟨rfl,hd⟩:=hh
   rw [h3] at hd
   cases hd
   exact zil h.up.up.up
  cases h
  case any hv =>
   refine Sim.vac (γ:=Value) (s1:=do let d ← underlying e;stuck "") (Sim.bind_ (zae A e) fun x d d' hh=>?_)
   obtain ⟨rfl,hd⟩:=hh
   rw [h3] at hd
   cases hd
   exact Sim.halt
  all_goals first
   | exact tail
   | exact Sim.pure_ (.string _)
 ·rw [h1] at hd hf
  cases hd
  cases hf
  have hh:=h
  cases h <;> first
   | exact Sim.halt
   | skip
  case string s =>
   refine Sim.bind_ (zae A e) fun x3 d d' hh=>?_
   obtain ⟨rfl,hd⟩:=hh
   rw [h3] at hd
   cases hd
   unfold Conv.stringToBytes
   dsimp only []
   refine Sim.bind_ (zcb _) fun x4 c c' e=>?_
   subst e
   have flat:∀ (m:List Nat),RRel (cor B m) (s.data.map fun b=>Value.int .u8 b.toNat) (s.data.map fun b=>Value.int .u8 b.toNat):=fun m=>⟨rfl,fun i v v' h1 h2=>by
    rw [h1] at h2
    cases h2
    simp only [Array.getElem?_map] at h1
    obtain ⟨b,_,rfl⟩:=Option.map_eq_some_iff.1 h1
    exact .int _ _⟩
   have flat2:∀ (m:List Nat) n,RRel (cor B m) (Array.replicate n (Value.int .u8 0)) (Array.replicate n (Value.int .u8 0)):=fun m n=>⟨rfl,fun i v v' h1 h2=>by
    rw [h1] at h2
    cases h2
    rw [Array.getElem?_replicate] at h1
    split at h1
    ·cases h1;exact .int _ _
    ·cases h1⟩
   refine Sim.bind_ (zby ((flat _).append (flat2 _ _)) e) fun x5 a a' ha=>?_
   refine Sim.bind_ (zdx hcv ha) fun x6 _ _ _=>?_
   exact Sim.pure_ (.slice _ _ _ _ ha.up)
  case slice a a' n c ha =>
   refine Sim.bind_ (zae A e) fun x3 d d' hh2=>?_
   obtain ⟨rfl,hd⟩:=hh2
   rw [h3] at hd
   cases hd
   simp only [beq_self_eq_true]
   refine Sim.bind_ (zdx hcv (ha.pre (by simp only [List.append_assoc];exact List.prefix_append _ _))) fun x4 _ _ _=>?_
   exact Sim.pure_ (hh.pre (by simp only [List.append_assoc];exact List.prefix_append _ _))
 ·rw [h1] at hd
  rw [h2] at hf
  cases hd
  cases hf
  cases h <;> first
   | exact Sim.halt
   | skip
  case string s =>
   refine Sim.bind_ (zae A e) fun x3 d d' hh=>?_
   obtain ⟨rfl,hd⟩:=hh
   rw [h3] at hd
   cases hd
   exact zj1 e s
end
end
section
variable [Exts]
section
variable {α β γ δ:Type} {P P':Program} {B:Bas} {nw:List Nat}
theorem zbm (w:World){b k:Nat}(o:Obj){q:Obj}(h:w.heap[b]?=some q): ({ w with heap:=w.heap.setIfInBounds b o }:World).heap[k]?=if k=b then some o else w.heap[k]?:=by
 have hb:b<w.heap.size:=(Array.getElem?_eq_some_iff.1 h).1
 simp only [Array.getElem?_setIfInBounds]
 by_cases hk:b=k
 ·subst hk;rw [if_pos rfl,if_pos hb,if_pos rfl]
 ·rw [if_neg hk,if_neg (fun e=>hk e.symm)]
theorem zfk {b b' i:Nat}{o o':Obj}(hb:b=B.N+i)(hk:nw[i]?=some b')(hn:NRel B (cor B nw) o o')(hc:o'.isChan=false): Sim P P' B nw (setObj b o) (setObj b' o') (fun _ _ _=>True):=by
 refine ⟨?_,fun w w' es hw ht=>?_,fun w w' es u w1 e1 hw hr=>?_⟩
 case refine_3 =>
  unfold setObj at hr ⊢
  simp only [Sem.runT] at hr ⊢
  cases hq:w.heap[b]? with
  | none=>rw [hq] at hr;cases hr
  | some q =>
    rw [hq] at hr
    cases q <;> first
     | (cases hr;done)
     | (cases hr
        refine ⟨Nat.le_refl _,rfl,fun t' _=>?_⟩
        rw [show (relay w t').heap[b]?=_ from hq]
        rfl)
 case refine_2 =>
  unfold setObj
  simp only [Sem.runT]
  cases hq:w.heap[b]? with
  | none=>exact ⟨trivial,ht⟩
  | some q =>
    have key:Tidy ({ w with heap:=w.heap.setIfInBounds b o }:World):=by
     intro c l hcl
     rw [zbm _ _ hq] at hcl
     split at hcl
     ·cases hcl;cases hn;rfl
     ·exact ht _ _ hcl
    cases q <;> first|exact ⟨trivial,ht⟩|exact key
 intro w w' es es' x w1 e1 hw hr
 subst hb
 have hbM:=(hw.inNew b' (List.mem_of_getElem? hk)).1
 unfold setObj at hr ⊢
 simp only [Sem.runT] at hr ⊢
 obtain ⟨q,q',h1,h2,h3⟩:=hw.new i b' hk
 rw [h1] at hr
 rw [h2]
 have key:(Result.ok () ({ w with heap:=w.heap.setIfInBounds (B.N+i) o }:World),es.push ⟨.obj (B.N+i),true,o.isChan⟩)=(Result.ok x w1,e1) →
   ∃ xt b_1 w1' l,(Result.ok () ({ w' with heap:=w'.heap.setIfInBounds b' o' }:World),es'.push ⟨.obj b',true,o'.isChan⟩)=(Result.ok b_1 w1',es'++l)∧WRel B (nw++xt) w1 w1'∧True∧Kept B nw xt w' w1'∧∀ e∈l,EvOk B (nw++xt) e:=by
  intro e
  simp only [Prod.mk.injEq,Result.ok.injEq] at e
  obtain ⟨⟨-,rfl⟩,rfl⟩:=e
  refine ⟨[],(),{ w' with heap:=w'.heap.setIfInBounds b' o' },#[⟨.obj b',true,o'.isChan⟩],by simp,?_,trivial,⟨rfl,rfl,rfl,by simp,rfl,fun k h4 h5 h6=>?_⟩,fun e he=>?_⟩
  ·rw [List.append_nil]
   refine ⟨by simpa using hw.size,by simpa using hw.msize,fun k hk=>by simpa using hw.inNew k hk,hw.nodup,hw.lowOld,fun b0 b0' d0 hb0 hB=>?_,fun j k hj=>?_,hw.tape,fun hq=>?_⟩
   ·have:=hw.lowOld b0 b0' d0 hb0 hB
    rw [zbm _ _ h1,zbm _ _ h2,if_neg (by omega),if_neg (by omega)]
    exact hw.old b0 b0' d0 hb0 hB
   ·rw [zbm _ _ h1,zbm _ _ h2]
    by_cases hij:j=i
    ·subst hij
     rw [hk] at hj
     cases hj
     rw [if_pos rfl,if_pos rfl]
     exact ⟨_,_,rfl,rfl,hn⟩
    ·rw [if_neg (by omega),if_neg (by intro e;subst e;exact hij (zhe hw.nodup hj hk))]
     exact hw.new j k hj
   ·rcases hw.calm hq with g|⟨b,q,t,m,g1,g2,g3⟩
    ·exact .inl fun k hk=>by rw [zbm _ _ h2,if_neg (by omega)];exact g k hk
    ·exact .inr ⟨b,q,t,m,g1,by rw [zbm _ _ h1,if_neg (by omega)];exact g2,g3⟩
  ·rw [zbm _ _ h2,if_neg]
   intro e
   exact h5 (e ▸ List.mem_of_getElem? hk)
  ·simp only [List.append_nil,List.mem_toArray,List.mem_cons,List.not_mem_nil,or_false] at he ⊢
   subst he
   exact ⟨hc,fun _=>List.mem_of_getElem? hk,B.N+i,0,by rw [zcj,hk];rfl⟩
 cases h3 with
 | cells c c' e fr hr2=>simp at hr
 | _=>exact key hr
theorem zc8 {l l':Nat}(h:cor B nw l=some (l',0)): Sim P P' B nw (Instr.getLoop l) (Instr.getLoop l') (fun m r r'=>LRel B (cor B m) r r'∧∃ i,l=B.N+i∧m[i]?=some l'):=by
 unfold Instr.getLoop
 refine Sim.bind_ (zls h) fun x1 o o' ho=>?_
 rcases ho with ⟨a,a',l0,rfl,rfl,_⟩|⟨ho,-,-,i,h1,h2⟩
 ·exact Sim.halt
 cases ho <;> first
  | exact Sim.halt
  | skip
 rename_i r r' hr
 exact Sim.pure_ ⟨hr,i,h1,h2⟩
def okBi (P:Program)(b:Builtin)(ts:Array TypeId)(n:Nat): Bool :=
 match b with
 | .len|.cap=>n == 1
 | .copy=>n == 2
 | .append=>n == 2 && (match ts[0]? with|some s=>zoz P s|none=>true)
 | .min|.panic=>true
 | _=>false
inductive TRel (P:Program)(σ:Nat→Option (Nat×Nat))(n:Nat): Target→Target→Prop
 | fn (f f':Fn) (c c':Array Value) (h:ziz σ f f') (hc:RRel σ c c'):TRel P σ n (.fn f c) (.fn f' c')
 | nil:TRel P σ n .nil .nil
 | direct (g:FuncId) (h:stop g=true) (hx:ext g=false) (hn:n=4∧g=19):TRel P σ n (.fn (.func g) #[]) (.fn (.func g) #[])
 | bi (b:Builtin) (ts:Array TypeId) (t:TypeId) (cs:Array Bool) (h:okBi P b ts n=true):TRel P σ n (.builtin b ts t cs) (.builtin b ts t cs)
structure DRel (P:Program)(σ:Nat→Option (Nat×Nat))(d d':Deferred): Prop where
 t:TRel P σ d.args.size d.target d'.target
 a:RRel σ d.args d'.args
inductive zff (σ:Nat→Option (Nat×Nat)): List Deferred→List Deferred→Prop
 | nil:zff σ [] []
 | cons (r r':Nat) (l l':List Deferred) (h:σ r=some (r',0)) (t:zff σ l l'):zff σ ({ target:=.collected r,args:=#[] } :: l) ({ target:=.collected r',args:=#[] } :: l')
theorem zff.up {xt:List Nat}{l l':List Deferred}(h:zff (cor B nw) l l'): zff (cor B (nw++xt)) l l':=by
 induction h with
 | nil=>exact .nil
 | cons r r' l l' h t ih=>exact .cons r r' l l' (za1 h) ih
theorem zff.append {σ:Nat→Option (Nat×Nat)}{l l' m m':List Deferred}(h:zff σ l l')(h2:zff σ m m'): zff σ (l++m) (l'++m'):=by
 induction h with
 | nil=>exact h2
 | cons r r' l l' h t ih=>exact .cons r r' _ _ h ih
inductive zpa (σ:Nat→Option (Nat×Nat)): Option Nat→Option Nat→Prop
 | none:zpa σ none none
 | some (l l':Nat) (h:σ l=some (l',0)):zpa σ (some l) (some l')
theorem zpa.up {xt:List Nat}{l l':Option Nat}(h:zpa (cor B nw) l l'): zpa (cor B (nw++xt)) l l':=by
 cases h with
 | none=>exact .none
 | some l l' h=>exact .some l l' (za1 h)
theorem zg4 {fn:FuncId}(hfn:ext fn=false){c c':Array Value}(hc:RRel (cor B nw) c c')(ps:Array Tmp){a b:Code}(ha:B.code a)(hb:B.code b){l l':Option Nat}(hl:zpa (cor B nw) l l'):
  Sim P P' B nw (Instr.enterLoop fn c ps a b l) (Instr.enterLoop fn c' ps a b l') (fun m x x'=>cor B m x.1=some (x'.1,0)∧zff (cor B m) x.2 x'.2):=by
 unfold Instr.enterLoop
 have tail:∀ (m:List Nat) (d d':Nat) (k k':List Deferred),RRel (cor B m) c c'→cor B m d=some (d',0)→zff (cor B m) k k' →
   Sim P P' B m (do pure (← newObj (.loop { state:=.ready,pending:=none,fn,tmps:=c,params:=ps,assign:=a,body:=b,defers:=d }),k):Sem (Nat×List Deferred))
    (do pure (← newObj (.loop { state:=.ready,pending:=none,fn,tmps:=c',params:=ps,assign:=a,body:=b,defers:=d' }),k'):Sem (Nat×List Deferred)) (fun m x x'=>cor B m x.1=some (x'.1,0)∧zff (cor B m) x.2 x'.2):=by
  intro m d d' k k' h1 h2 h3
  refine Sim.bind_ (zms fun k=>.loop _ _ ⟨rfl,rfl,rfl,h1.up,rfl,rfl,rfl,za1 h2,ha,hb,fun c h=>(by cases h),hfn⟩) fun x2 r r' hr=>?_
  exact Sim.pure_ ⟨hr,h3.up⟩
 cases hl with
 | some l l' h =>
   refine Sim.bind_ (zc8 h) fun x1 r r' hr=>?_
   refine Sim.bind_ (Sim.pure_ (R:=fun _ (x x':Nat×List Deferred)=>x=(r.defers,[])∧x'=(r'.defers,[])) ⟨rfl,rfl⟩) fun x2 x x' hx=>?_
   obtain ⟨rfl,rfl⟩:=hx
   exact tail _ _ _ _ _ hc.up.up (za1 hr.1.defers) .nil
 | none =>
   refine Sim.bind_ (zms fun k=>.defNil) fun x1 r r' hr=>?_
   refine Sim.bind_ (Sim.pure_ (R:=fun _ (x x':Nat×List Deferred)=>x=(r,[{ target:=.collected r,args:=#[] }])∧x'=(r',[{ target:=.collected r',args:=#[] }])) ⟨rfl,rfl⟩) fun x2 x x' hx=>?_
   obtain ⟨rfl,rfl⟩:=hx
   exact tail _ _ _ _ _ hc.up.up (za1 hr) (.cons _ _ _ _ (za1 hr) .nil)
theorem zxe {σ:Nat→Option (Nat×Nat)}: ∀ (ps:List Tmp) (l l':List Value) (t t':Array Value),LRl σ l l'→RRel σ t t' →
  RRel σ ((ps.zip l).foldl (fun tmps (x:Tmp×Value)=>tmps.setIfInBounds x.1 x.2) t) ((ps.zip l').foldl (fun tmps (x:Tmp×Value)=>tmps.setIfInBounds x.1 x.2) t'):=by
 intro ps
 induction ps with
 | nil=>intro l l' t t' h ht;exact ht
 | cons p ps ih =>
   intro l l' t t' h ht
   cases h with
   | nil=>exact ht
   | cons hv hl=>exact ih _ _ _ _ hl (ht.set hv p)
inductive XRel (P:Program)(B:Bas)(σ:Nat→Option (Nat×Nat)): Next→Next→Prop
 | value (v v':Value) (h:VRel σ v v'):XRel P B σ (.value v) (.value v')
 | skip:XRel P B σ .skip .skip
 | enter (f:FuncId) (a a':Array Value) (hf:ext f=false) (hq:stop f=true→a.size=4∧f=19) (h:RRel σ a a'):XRel P B σ (.enter f a) (.enter f a')
 | round (l l':Nat) (f:FuncId) (t t':Array Value) (a b:Code) (hl:σ l=some (l',0)) (h:RRel σ t t') (ha:B.code a) (hb:B.code b) (hf:ext f=false):XRel P B σ (.round l f t a b) (.round l' f t' a b)
theorem zu7 {l l':Nat}(h:cor B nw l=some (l',0)){a a':Array Value}(ha:RRel (cor B nw) a a'): Sim P P' B nw (Instr.yield l a) (Instr.yield l' a') (fun m x x'=>XRel P B (cor B m) x x'):=by
 unfold Instr.yield
 refine Sim.bind_ (zc8 h) fun x1 r r' hr=>?_
 obtain ⟨hr,i,-,-⟩:=hr
 rw [← ha.1,← hr.params]
 have fold:RRel (cor B (nw++x1)) ((r.params.zip a).foldl (fun tmps (x:Tmp×Value)=>tmps.setIfInBounds x.1 x.2) r.tmps) ((r.params.zip a').foldl (fun tmps (x:Tmp×Value)=>tmps.setIfInBounds x.1 x.2) r'.tmps):=by
  rw [← Array.foldl_toList,← Array.foldl_toList,Array.toList_zip,Array.toList_zip]
  exact zxe _ _ _ _ _ ha.up.list hr.tmps
 refine Sim.ite_ _ (Sim.never (zaj.bind1 (zaj.halt _))) ?_
 rw [← hr.fn,← hr.assign,← hr.body]
 exact Sim.pure_ (.round _ _ _ _ _ _ _ (za1 h) fold hr.okA hr.okB hr.okF)
theorem zf3 {l l':Nat}(h:cor B nw l=some (l',0)): Sim P P' B nw (Instr.beginRound l) (Instr.beginRound l') (fun _ _ _=>True):=by
 unfold Instr.beginRound
 refine Sim.bind_ (zc8 h) fun x1 r r' hr=>?_
 obtain ⟨hr,i,h1,h2⟩:=hr
 refine Sim.bind_ (zfk h1 h2 (.loop _ _ ⟨rfl,hr.pending,hr.fn,hr.tmps,hr.params,hr.assign,hr.body,hr.defers,hr.okA,hr.okB,hr.okP,hr.okF⟩) rfl) fun x2 _ _ _=>?_
 rw [← hr.state]
 cases r.state <;> first
  | exact Sim.pure_ trivial
  | exact Sim.rtPanic
theorem zi6 {l l':Nat}(h:cor B nw l=some (l',0))(j:Option Code)(hj:∀ c,j=some c→B.code c): Sim P P' B nw (Instr.endRound l j) (Instr.endRound l' j) (fun m v v'=>VRel (cor B m) v v'):=by
 unfold Instr.endRound
 refine Sim.bind_ (zc8 h) fun x1 r r' hr=>?_
 obtain ⟨hr,i,h1,h2⟩:=hr
 refine Sim.bind_ (zfk h1 h2 (.loop _ _ ⟨rfl,rfl,hr.fn,hr.tmps,hr.params,hr.assign,hr.body,hr.defers,hr.okA,hr.okB,hj,hr.okF⟩) rfl) fun x2 _ _ _=>?_
 exact Sim.pure_ (.bool _)
theorem zj7 {l l':Nat}(h:cor B nw l=some (l',0)): Sim P P' B nw (Instr.endLoop l) (Instr.endLoop l') (fun m x x'=>x=x'∧∀ c,x=some c→B.code c):=by
 unfold Instr.endLoop
 refine Sim.bind_ (zc8 h) fun x1 r r' hr=>?_
 obtain ⟨hr,i,h1,h2⟩:=hr
 rw [← hr.state]
 cases hs:(r.state == LoopState.busy)
 ·simp only [Bool.false_eq_true,if_false]
  refine Sim.bind_ (zfk h1 h2 (.loop _ _ ⟨rfl,hr.pending,hr.fn,hr.tmps,hr.params,hr.assign,hr.body,hr.defers,hr.okA,hr.okB,hr.okP,hr.okF⟩) rfl) fun x2 _ _ _=>?_
  exact Sim.pure_ ⟨hr.pending,hr.okP⟩
 ·simp only [if_true]
  exact Sim.never (zaj.bind1 (zac _))
theorem zev {l l':Nat}(h:cor B nw l=some (l',0)): Sim P P' B nw (Instr.takeDeferred l) (Instr.takeDeferred l') (fun m x x'=>x=[]∧x'=[]):=by
 unfold Instr.takeDeferred
 refine Sim.bind_ (zls h) fun x1 o o' ho=>?_
 rcases ho with ⟨a,a',l0,rfl,rfl,_⟩|⟨ho,-,-,i,h1,h2⟩
 ·exact Sim.halt
 cases ho <;> first
  | exact Sim.halt
  | skip
 refine Sim.bind_ (zfk h1 h2 .defNone rfl) fun x2 _ _ _=>?_
 exact Sim.pure_ ⟨rfl,rfl⟩
end
end
section
variable [Exts]
def z22:Value→Bool
 | .bool _|.int ..|.string _|.pointer none|.slice none _ _|.nilFunc|.nilIface=>true
 | .tuple c=>c.isEmpty
 | _=>false
theorem z21 {v:Value}(h:z22 v=true): Flat v:=by
 intro σ
 unfold z22 at h
 split at h <;> first
  | (rename_i c
     have e:c=#[]:=Array.isEmpty_iff.1 h
     subst e
     exact .tuple #[] #[] rfl (fun i v v' hv=>by cases hv))
  | constructor
  | cases h
def okA:Operand→Bool
 | .tmp _=>true
 | .const v=>z22 v
 | .global g=>g == 0
 | .func f=>!ext f && !stop f
def zvy (P:Program)(t:TypeId): Bool :=
 (match P.underlying t with|some (.int _)|some .string|some .bool=>true|_=>false) && (match P.info? t with|some i=>(match i.desc with|.named n _=>n != "sync.copyChecker" | _=>true)|none=>true)
theorem zro {P:Program}{t:TypeId}(h:zvy P t=true): zib P t:=by
 unfold zvy at h
 rw [Bool.and_eq_true] at h
 refine ⟨?_,fun i u hi e=>?_⟩
 ·have h:=h.1
  split at h <;> first
   | (rename_i h1;exact .inl ⟨_,h1⟩)
   | (rename_i h1;exact .inr (.inl h1))
   | (rename_i h1;exact .inr (.inr h1))
   | cases h
 ·have h:=h.2
  rw [hi] at h
  simp only at h
  rw [e] at h
  simp at h
def zma (P:Program)(cv:Bool)(s d:TypeId): Bool :=
 match P.underlying s,P.underlying d with
 | some (.int _),some (.int _)=>true
 | some (.slice e),some .string=>(match P.underlying e with|some (.int .u8)=>true|_=>false)
 | some .string,some (.slice e)=>(match P.underlying e with|some (.int .u8)=>true|_=>false)
 | some (.slice e),some (.slice _)=>cv && s == d && (match P.underlying e with|some (.int .u8)=>true|_=>false)
 | _,_=>false
theorem z29 {P:Program}{B:Bas}{s d:TypeId}(h:zma P B.cv s d=true): z1i P B s d:=by
 unfold zma at h
 split at h
 ·rename_i k k' h1 h2;exact .inl ⟨_,_,h1,h2⟩
 ·rename_i e h1 h2
  split at h
  ·rename_i h3;exact .inr (.inl ⟨_,h1,h2,h3⟩)
  ·cases h
 ·rename_i e h1 h2
  split at h
  ·rename_i h3;exact .inr (.inr (.inr ⟨_,h1,h2,h3⟩))
  ·cases h
 ·rename_i e e' h1 h2
  rw [Bool.and_eq_true,Bool.and_eq_true] at h
  obtain ⟨⟨h3,h4⟩,h5⟩:=h
  split at h5
  ·rename_i h6;exact .inr (.inr (.inl ⟨h3,by simpa using h4,_,h1,h6⟩))
  ·cases h5
 ·cases h
def zqt (P:Program)(s:TypeId)(f:Nat): Bool :=
 match P.underlying s with
 | some (.struct fs)=>(match fs[f]? with|some x=>(match P.info? x.type with|some i=>i.size != 0|none=>true)|none=>true)
 | _=>true
theorem z0j {P:Program}{s:TypeId}{f:Nat}(h:zqt P s f=true): ∀ fs x i,P.underlying s=some (.struct fs)→fs[f]?=some x→P.info? x.type=some i→i.size≠0:=by
 intro fs x i h1 h2 h3
 unfold zqt at h
 rw [h1] at h
 simp only at h
 rw [h2] at h
 simp only at h
 rw [h3] at h
 simpa using h
def okFn:Fn→Bool
 | .func f=>!ext f && !stop f
 | _=>false
def zkj (P:Program)(c:Call): Bool :=
 c.args.all okA && (match c.callee with|.builtin b=>okBi P b c.argTypes c.args.size|.value (.func g)=>okA (.func g) || (stop g && !ext g && c.args.size == 4 && g == 19)|.value f=>okA f|.invoke ..=>false)
def okOp (P:Program)(cv:Bool): Op→Bool
 | .move x|.assign x|.box _ x|.load _ x|.unOp _ _ x|.makeInterface _ x|.extract x _|.panic x=>okA x
 | .pick c a b=>okA c && okA a && okA b
 | .alloc e=>znp P e
 | .build t parts=>znp P t && parts.all fun x=>okA x.2
 | .buildSlice t _ parts=>zoz P t && parts.all fun x=>okA x.2
 | .store _ a x=>okA a && okA x
 | .binOp _ t x y _=>zvy P t && okA x && okA y
 | .convert s d x=>zma P cv s d && okA x
 | .makeFunc f x c=>okFn f && x.all okA && c.all okA
 | .makeSlice t l c=>zoz P t && okA l && okA c
 | .slice _ x lo hi mx=>okA x && lo.all okA && hi.all okA && mx.all okA
 | .fieldAddr s x f=>zqt P s f && okA x
 | .indexAddr _ x i|.index _ x i=>okA x && okA i
 | .call c=>zkj P c
 | _=>false
structure Prog (P P':Program)(B:Bas): Prop extends Fit P P' B where
 fns:∀ f fn,P.funcs[f]?=some fn→ext f=false→fn.body.isSome=true∧(fn.name == "runtime.NumGoroutine")=false
 glob:0<B.N∧B.old 0=some (0,0)
def Evs (B:Bas)(nw:List Nat)(ρ ρ':Operand→Value): Prop:=∀ x,okA x=true→VRel (cor B nw) (ρ x) (ρ' x)
section
variable {α β γ δ:Type} {P P':Program} {B:Bas} {nw:List Nat}
theorem Evs.arr {ρ ρ':Operand→Value}(h:Evs B nw ρ ρ'){l:Array Operand}(hl:l.all okA=true): RRel (cor B nw) (l.map ρ) (l.map ρ'):=by
 rw [Array.all_eq_true] at hl
 refine ⟨by simp,fun i v v' h1 h2=>?_⟩
 simp only [Array.getElem?_map] at h1 h2
 obtain ⟨x,hx,rfl⟩:=Option.map_eq_some_iff.1 h1
 rw [hx] at h2
 cases h2
 obtain ⟨hi,rfl⟩:=Array.getElem?_eq_some_iff.1 hx
 exact h _ (hl i hi)
theorem Evs.opt {ρ ρ':Operand→Value}(h:Evs B nw ρ ρ'){l:Option Operand}(hl:l.all okA=true): ORl (cor B nw) (l.map ρ) (l.map ρ'):=by
 cases l with
 | none=>exact .none
 | some x=>exact .some (h x hl)
theorem Evs.parts {ρ ρ':Operand→Value}(h:Evs B nw ρ ρ'){l:Array (Nat×Operand)}(hl:(l.all fun x=>okA x.2)=true): PRl (cor B nw) (l.map fun x=>(x.1,ρ x.2)).toList (l.map fun x=>(x.1,ρ' x.2)).toList:=by
 rw [← Array.all_toList] at hl
 rw [Array.toList_map,Array.toList_map]
 generalize l.toList=q at hl
 induction q with
 | nil=>exact .nil
 | cons y q ih =>
   simp only [List.all_cons,Bool.and_eq_true] at hl
   exact .cons (h _ hl.1) (ih hl.2)
theorem z3t {σ:Nat→Option (Nat×Nat)}{a a':Array Value}(h:RRel σ a a')(n:a.size=1): ∃ v v',a=#[v]∧a'=#[v']∧VRel σ v v':=by
 obtain ⟨l⟩:=a
 obtain ⟨l'⟩:=a'
 have n':=h.1
 rw [n] at n'
 match l,n with
 | [v],_=>match l',n' with
   | [v'],_=>exact ⟨v,v',rfl,rfl,h.2 0 v v' rfl rfl⟩
theorem z3s {σ:Nat→Option (Nat×Nat)}{a a':Array Value}(h:RRel σ a a')(n:a.size=2): ∃ v v' x x',a=#[v,x]∧a'=#[v',x']∧VRel σ v v'∧VRel σ x x':=by
 obtain ⟨l⟩:=a
 obtain ⟨l'⟩:=a'
 have n':=h.1
 rw [n] at n'
 match l,n with
 | [v,x],_=>match l',n' with
   | [v',x'],_=>exact ⟨v,v',x,x',rfl,rfl,h.2 0 v v' rfl rfl,h.2 1 x x' rfl rfl⟩
theorem zzp (c:Sys): Mild (sys c):=fun P w es ht=>by
 have hh:(w.sys c).2.heap=w.heap:=by
  have ask:∀ {γ:Type} (k:Ask γ) (w:World),(w.ask k).2.heap=w.heap:=by
   intro γ k
   induction k with
   | done a=>intro w;rfl
   | ask what range k ih =>
     intro w
     simp only [World.ask]
     split
     ·exact ih _ _
     ·exact ih _ _
  unfold World.sys
  have:=ask (Kernel.perform c w.os) w
  split
  ·rfl
  ·rename_i h;rw [h] at this;exact this
 intro b l hb
 change (w.sys c).2.heap[b]?=_ at hb
 rw [hh] at hb
 exact ht _ _ hb
theorem zm3:Mild Instr.panicnil:=by
 unfold Instr.panicnil
 refine Mild.bind (zzp _) fun r=>?_
 cases r <;> first
  | exact Mild.halt _
  | exact Mild.bind zdm fun _=>Mild.pure _
  | exact Mild.bind (Mild.halt _) fun _=>Mild.bind zdm fun _=>Mild.pure _
theorem zko (x:Value): zaj (Instr.panic x):=by
 unfold Instr.panic
 cases x <;> first
  | exact zaj.halt _
  | skip
 refine zaj.bind zm3 fun n=>?_
 split
 ·exact zaj.halt _
 ·exact zac _
theorem zap {s s':Sem Value}(h:Sim P P' B nw s s' (fun m v v'=>VRel (cor B m) v v')): Sim P P' B nw (do pure (.value (← s)):Sem Next) (do pure (.value (← s')):Sem Next) (fun m x x'=>XRel P B (cor B m) x x') :=
 Sim.bind_ h fun x1 v v' hv=>Sim.pure_ (.value _ _ hv)
theorem zyu {s s':Sem Unit}(h:Sim P P' B nw s s' (fun _ _ _=>True)): Sim P P' B nw (do s;pure .skip:Sem Next) (do s';pure .skip:Sem Next) (fun m x x'=>XRel P B (cor B m) x x') :=
 Sim.bind_ h fun x1 v v' hv=>Sim.pure_ .skip
theorem zpy (F:Fit P P' B){b:Builtin}{ts:Array TypeId}{n:Nat}(hb:okBi P b ts n=true)(t:TypeId)(cs:Array Bool){a a':Array Value}(h:RRel (cor B nw) a a')(hn:a.size=n):
  Sim P P' B nw (builtin b ts t cs a) (builtin b ts t cs a') (fun m x x'=>XRel P B (cor B m) x x'):=by
 subst hn
 unfold okBi at hb
 unfold builtin
 cases b <;> first
  | cases hb
  | skip
 all_goals dsimp only []
 case append =>
  simp only [Bool.and_eq_true] at hb
  obtain ⟨v,v',x,x',rfl,rfl,hv,hx⟩:=z3s h (by simpa using hb.1)
  exact zap (zsy F.alike ts t (fun s hs=>zqu (by have:=hb.2;rw [hs] at this;exact this)) hv hx)
 case cap =>
  obtain ⟨v,v',rfl,rfl,hv⟩:=z3t h (by simpa using hb)
  exact zap (z12 F.alike ts t hv)
 case copy =>
  obtain ⟨v,v',x,x',rfl,rfl,hv,hx⟩:=z3s h (by simpa using hb)
  exact zap (zy0 F.alike ts t hv hx)
 case len =>
  obtain ⟨v,v',rfl,rfl,hv⟩:=z3t h (by simpa using hb)
  exact zap (z1y F.alike ts t hv)
 case min=>exact zap (z1x ts t h)
 case panic=>exact Sim.never (zaj.bind1 (zko _))
theorem zj3 (F:Prog P P' B){f:FuncId}(hf:ext f=false){a a':Array Value}(hq:stop f=true→a.size=4∧f=19)(h:RRel (cor B nw) a a'): Sim P P' B nw (callFunc f a) (callFunc f a') (fun m x x'=>XRel P B (cor B m) x x'):=by
 unfold callFunc
 refine Sim.bind_ zct fun x1 p p' hp=>?_
 obtain ⟨rfl,rfl⟩:=hp
 have A:=F.alike.fn f
 cases hg:p.funcs[f]? with
 | none=>exact Sim.halt
 | some fn =>
   rw [hg] at A
   cases hg':p'.funcs[f]? with
   | none=>rw [hg'] at A;simp at A
   | some fn' =>
     rw [hg'] at A
     simp only [Option.map_some,Option.some.injEq,Prod.mk.injEq] at A
     obtain ⟨A1,A2,-⟩:=A
     obtain ⟨hb,hname⟩:=F.fns f fn hg hf
     have h1:fn.body.isNone=false:=by cases hq:fn.body <;> simp [hq] at hb ⊢
     have h2:fn'.body.isNone=false:=by rw [hb] at A2;cases hq:fn'.body <;> simp [hq] at A2 ⊢
     dsimp only []
     rw [← A1,h1,h2,hname]
     exact Sim.pure_ (.enter f _ _ hf hq h.up)
theorem zik (F:Prog P P' B){d d':Deferred}(h:DRel P (cor B nw) d d'): Sim P P' B nw (invoke d.target d.args) (invoke d'.target d'.args) (fun m x x'=>XRel P B (cor B m) x x'):=by
 obtain ⟨ht,ha⟩:=h
 obtain ⟨t,a⟩:=d
 obtain ⟨t',a'⟩:=d'
 simp only at ht ha ⊢
 unfold invoke
 cases ht with
 | nil=>exact Sim.rtPanic
 | direct g hg hx hn=>exact zj3 F hx (fun _=>by simpa using hn) (ha.append RRel.nil)
 | bi b ts t cs h=>exact zpy F.toFit h t cs ha rfl
 | fn f f' c c' h hc =>
   cases h with
   | func f hf hs=>exact zj3 F hf (fun e=>by rw [hs] at e;cases e) (ha.append hc)
   | yield l l' h=>exact zu7 h ha
theorem zeg {f f':Value}(hf:VRel (cor B nw) f f'){a a':Array Value}(h:RRel (cor B nw) a a'): Sim P P' B nw (Deferred.ofValue f a) (Deferred.ofValue f' a') (fun m d d'=>DRel P (cor B m) d d'):=by
 unfold Deferred.ofValue
 cases hf <;> first
  | exact Sim.halt
  | skip
 case nilFunc=>exact Sim.pure_ ⟨.nil,h⟩
 case func f f' x x' c c' hf hx hc ex ec=>exact Sim.pure_ ⟨.fn _ _ _ _ hf ⟨hc,ec⟩,RRel.append ⟨hx,ex⟩ h⟩
theorem zpp {ρ ρ':Operand→Value}(h:Evs B nw ρ ρ')(hd:∀ g,ρ (.func g)=.func (.func g) #[] #[]∧ρ' (.func g)=.func (.func g) #[] #[]){c:Call}(hc:zkj P c=true)(t:TypeId): Sim P P' B nw (resolve ρ c t) (resolve ρ' c t) (fun m d d'=>DRel P (cor B m) d d'):=by
 unfold zkj at hc
 rw [Bool.and_eq_true] at hc
 obtain ⟨h1,h2⟩:=hc
 obtain ⟨ce,args,ts⟩:=c
 unfold resolve
 cases ce with
 | builtin b=>exact Sim.pure_ ⟨.bi _ _ _ _ (by simpa using h2),h.arr h1⟩
 | value f =>
   cases f with
   | func g =>
     have h2:(okA (.func g) || (stop g && !ext g && args.size == 4 && g == 19))=true:=h2
     rw [Bool.or_eq_true] at h2
     rcases h2 with h2|h2
     ·exact zeg (h _ h2) (h.arr h1)
     ·simp only [Bool.and_eq_true,Bool.not_eq_true',beq_iff_eq] at h2
      dsimp only
      rw [(hd g).1,(hd g).2]
      exact Sim.pure_ ⟨.direct g h2.1.1.1 h2.1.1.2 ⟨by simpa using h2.1.2,h2.2⟩,by simpa using h.arr h1⟩
   | _=>exact zeg (h _ h2) (h.arr h1)
 | invoke r n=>cases h2
theorem zlt (F:Prog P P' B){ρ ρ':Operand→Value}(h:Evs B nw ρ ρ')(hd:∀ g,ρ (.func g)=.func (.func g) #[] #[]∧ρ' (.func g)=.func (.func g) #[] #[]){o:Oper}(ho:okOp P B.cv o.op=true): Sim P P' B nw (execOp ρ o) (execOp ρ' o) (fun m x x'=>XRel P B (cor B m) x x'):=by
 obtain ⟨d,op,ty,af,gu,ps⟩:=o
 unfold execOp
 cases op
 all_goals dsimp only [okOp] at ho
 all_goals first
  | cases ho
  | skip
 all_goals try simp only [Bool.and_eq_true] at ho
 all_goals dsimp only []
 case move x=>exact Sim.pure_ (.value _ _ (h x ho))
 case assign x=>exact Sim.pure_ (.value _ _ (h x ho))
 case pick c a b =>
  refine Sim.bind_ (zlu (h c ho.1.1)) fun x1 v v' e=>?_
  subst e
  cases v
  ·exact Sim.pure_ (.value _ _ (h b ho.2).up)
  ·exact Sim.pure_ (.value _ _ (h a ho.1.2).up)
 case alloc e=>exact zap (zve F.alike e (zpb ho))
 case box e x=>exact zap (z13 (h x ho) e)
 case build t p=>exact zap (zvc F.alike (h.parts ho.2) t (zpb ho.1))
 case buildSlice t n p=>exact zap (zle F.alike (h.parts ho.2) t n (zqu ho.1))
 case load t x=>exact zap (zsv F.alike (h x ho) t)
 case store t a x=>exact zyu (zpm F.alike (h a ho.1) (h x ho.2) t)
 case binOp op t x y t2 =>
  refine zap (Sim.bind_ (zpw F.toFit (zro ho.1.1) op x y (h x ho.1.2) (h y ho.2)) fun x1 _ _ _=>?_)
  exact zvd F.toFit (zro ho.1.1) op (h x ho.1.2).up (h y ho.2).up
 case unOp op t x=>exact zap (zu8 op (h x ho))
 case convert s d x=>exact zap (zpx F.alike (z29 ho.1) (h x ho.2))
 case makeInterface t x=>exact zap (zii F.alike t (h x ho))
 case makeFunc f x c =>
  have hf:=ho.1.1
  unfold okFn at hf
  split at hf
  ·simp only [Bool.and_eq_true,Bool.not_eq_true'] at hf
   exact zap (zn0 (.func _ hf.1 hf.2) (h.arr ho.1.2) (h.arr ho.2))
  ·cases hf
 case makeSlice t l c=>exact zap (zmt F.alike (h l ho.1.2) (h c ho.2) t (zqu ho.1.1))
 case slice t x lo hi mx=>exact zap (zpn F.alike (h x ho.1.1.1) (h.opt ho.1.1.2) (h.opt ho.1.2) (h.opt ho.2) t)
 case fieldAddr s x f=>exact zap (zpu F.toFit (z0j ho.1) (h x ho.2))
 case indexAddr t x i=>exact zap (zpt F.alike (h x ho.1) (h i ho.2))
 case index t x i=>exact zap (zvb F.alike t (h x ho.1) (h i ho.2))
 case extract x i=>exact zap (zpv (h x ho) i)
 case call c=>exact Sim.bind_ (zpp h hd ho ty) fun x1 d d' hd=>zik F hd
 case panic x=>exact Sim.never (zaj.bind1 (zko _))
end
end
section
variable [Exts]
def zam (P:Program)(cv:Bool): Code→Bool
 | .region _ ops _=>ops.all fun o=>okOp P cv o.op
 | .seq a b=>zam P cv a && zam P cv b
 | .cond c a b=>okA c && zam P cv a && zam P cv b
 | .block _ b|.loop b|.scope b=>zam P cv b
 | .rangeFunc f _ a b=>okA f && zam P cv a && zam P cv b
 | .skip|.exit _|.label _|.goto _|.ret|.refuse _=>true
structure zb3 (P P':Program)(B:Bas): Prop extends Prog P P' B where
 code:∀ c,B.code c↔zam P B.cv c=true
 bodies:∀ f fn c,P.funcs[f]?=some fn→fn.body=some c→ext f=false→stop f=false→zam P B.cv c=true∧∃ fn',P'.funcs[f]?=some fn'∧fn'.body=some c
 door:ext P.funcs.size=true
 noStep:∀ g,P.stepOf g=none
 ahead:P.follows .staticDataAhead=true
inductive IRel (P:Program)(B:Bas)(σ:Nat→Option (Nat×Nat)): Item→Item→Prop
 | code (c:Code) (h:zam P B.cv c=true):IRel P B σ (.code c) (.code c)
 | inBlock (id:Nat):IRel P B σ (.inBlock id) (.inBlock id)
 | inLoop (c:Code) (h:zam P B.cv c=true):IRel P B σ (.inLoop c) (.inLoop c)
 | inScope (c:Code) (h:zam P B.cv c=true):IRel P B σ (.inScope c) (.inScope c)
 | inRegion (ops:Array Oper) (l:List Nat) (h:(ops.all fun o=>okOp P B.cv o.op)=true):IRel P B σ (.inRegion ops l) (.inRegion ops l)
 | inRange (l l':Nat) (h:σ l=some (l',0)):IRel P B σ (.inRangeFunc l) (.inRangeFunc l')
 | endRange (l l':Nat) (h:σ l=some (l',0)):IRel P B σ (.endRangeFunc l) (.endRangeFunc l')
 | begin:IRel P B σ .beginRound .beginRound
inductive zgr (P:Program)(B:Bas)(σ:Nat→Option (Nat×Nat)): List Item→List Item→Prop
 | nil:zgr P B σ [] []
 | cons {i i':Item} {l l':List Item} (h:IRel P B σ i i') (t:zgr P B σ l l'):zgr P B σ (i :: l) (i' :: l')
structure zbp (P:Program)(B:Bas)(σ:Nat→Option (Nat×Nat))(fr fr':Frame): Prop where
 fn:fr.fn=fr'.fn
 tmps:RRel σ fr.tmps fr'.tmps
 todo:zgr P B σ fr.todo fr'.todo
 defers:zff σ fr.defers fr'.defers
 mode:(fr.mode=.run∧fr'.mode=.run)∨(fr.mode=.returning∧fr'.mode=.returning)
 kind:fr.kind=.normal∧fr'.kind=.normal
 round:zpa σ fr.roundOf fr'.roundOf
 ok:ext fr.fn=false
def door (P:Program): Frame:={ fn:=P.funcs.size,tmps:=#[undef],todo:=[.call { target:=.nil,args:=#[] } false "fmt's door" #[]],defers:=[],mode:=.run,kind:=.normal }
inductive zbl (P:Program)(B:Bas)(σ:Nat→Option (Nat×Nat))(base:List Frame): List Frame→List Frame→Prop
 | base:zbl P B σ base [door P] base
 | cons {fr fr':Frame} {l l':List Frame} (h:zbp P B σ fr fr') (t:zbl P B σ base l l'):zbl P B σ base (fr :: l) (fr' :: l')
def zye (P P':Program)(B:Bas)(σ:Nat→Option (Nat×Nat))(fr fr':Frame)(cs:List Frame): Prop :=
 zbp P B σ fr fr'∨∃ f a a',stop f=true∧(a.size=4∧f=19)∧cs≠[door P]∧fr=Frame.enter P f a .normal∧fr'=Frame.enter P' f a' .normal∧RRel σ a a'
section
variable {P P':Program} {B:Bas} {nw xt:List Nat}
theorem IRel.up {i i':Item}(h:IRel P B (cor B nw) i i'): IRel P B (cor B (nw++xt)) i i':=by
 cases h with
 | code c h=>exact .code c h
 | inBlock id=>exact .inBlock id
 | inLoop c h=>exact .inLoop c h
 | inScope c h=>exact .inScope c h
 | inRegion ops l h=>exact .inRegion ops l h
 | inRange l l' h=>exact .inRange l l' (za1 h)
 | endRange l l' h=>exact .endRange l l' (za1 h)
 | begin=>exact .begin
theorem zgr.up {i i':List Item}(h:zgr P B (cor B nw) i i'): zgr P B (cor B (nw++xt)) i i':=by
 induction h with
 | nil=>exact .nil
 | cons h t ih=>exact .cons h.up ih
theorem zbp.up {fr fr':Frame}(h:zbp P B (cor B nw) fr fr'): zbp P B (cor B (nw++xt)) fr fr':=⟨h.fn,h.tmps.up,h.todo.up,h.defers.up,h.mode,h.kind,h.round.up,h.ok⟩
theorem zbl.up {base l l':List Frame}(h:zbl P B (cor B nw) base l l'): zbl P B (cor B (nw++xt)) base l l':=by
 induction h with
 | base=>exact .base
 | cons h t ih=>exact .cons h.up ih
def Did (P P':Program)(B:Bas)(nw:List Nat)(base:List Frame)(w':World)(s:GStep)(fr1:Frame)(cs1:List Frame)(w1:World): Prop :=
 ∃ xt fr1' cs1' w1' l,s=.go { frame:=fr1',callers:=cs1',status:=.running,dying:=none } w1' l∧WRel B (nw++xt) w1 w1'∧zye P P' B (cor B (nw++xt)) fr1 fr1' cs1∧zbl P B (cor B (nw++xt)) base cs1 cs1' ∧
  Kept B nw xt w' w1'∧∀ e∈l,EvOk B (nw++xt) e
theorem zrh (P:Program)(f:FuncId)(es:Array Event)(e:Event)(h:e∈seen P f es): e∈es:=by
 unfold seen at h
 dsimp only at h
 rw [← Array.foldl_toList] at h
 have key:∀ (l:List Event) (q:Bool) (k:Array Event),e∈(l.foldl (fun (x:Bool×Array Event) (e:Event)=>match x with
   | (q,kept)=>match e.loc with
     | .mark (.extern f)=>((P.funcs[f]?).any (·.norace),kept)
     | _=>(q,if q && !e.sync then kept else kept.push e)) (q,k)).2→e∈k∨e∈l:=by
  intro l
  induction l with
  | nil=>intro q k h;exact .inl h
  | cons x l ih =>
    intro q k h
    simp only [List.foldl_cons] at h
    split at h
    ·rcases ih _ _ h with h|h
     ·exact .inl h
     ·exact .inr (List.mem_cons_of_mem _ h)
    ·rcases ih _ _ h with h|h
     ·split at h
      ·exact .inl h
      ·rcases Array.mem_push.1 h with h|h
       ·exact .inl h
       ·exact .inr (h ▸ List.mem_cons_self)
     ·exact .inr (List.mem_cons_of_mem _ h)
 rcases key _ _ _ h with h|h
 ·simp at h
 ·exact Array.mem_toList_iff.1 h
theorem zfa (F:zb3 P P' B){σ:Nat→Option (Nat×Nat)}{f:FuncId}(hf:ext f=false)(hs:stop f=false){a a':Array Value}(h:RRel σ a a'):
  zbp P B σ (Frame.enter P f a .normal) (Frame.enter P' f a' .normal):=by
 have A:=F.alike.fn f
 have undefs:∀ n,RRel σ (Array.replicate n undef) (Array.replicate n undef):=fun n=>⟨rfl,fun i v v' h1 h2=>by
  rw [h1] at h2;cases h2
  rw [Array.getElem?_replicate] at h1
  split at h1
  ·cases h1;exact VRel.undef_
  ·cases h1⟩
 refine ⟨rfl,?_,?_,.nil,.inl ⟨rfl,rfl⟩,⟨rfl,rfl⟩,.none,hf⟩
 ·unfold Frame.enter
  simp only
  have hn:((P.funcs[f]?).map (·.ntmps)).getD 0=((P'.funcs[f]?).map (·.ntmps)).getD 0:=by
   cases h1:P.funcs[f]? <;> cases h2:P'.funcs[f]? <;> rw [h1,h2] at A <;> simp at A ⊢
   exact A.2.2.2.1
  rw [hn,h.1]
  exact h.append (undefs _)
 ·unfold Frame.enter
  simp only
  cases h1:P.funcs[f]? with
  | none =>
    have h2:P'.funcs[f]?=none:=by cases h2:P'.funcs[f]? with
     | none=>rfl
     | some x=>rw [h1,h2] at A;simp at A
    rw [h2]
    exact .cons (.code _ rfl) .nil
  | some fn =>
    have hb:=(F.fns f fn h1 hf).1
    obtain ⟨c,hc⟩:=Option.isSome_iff_exists.1 hb
    obtain ⟨h3,fn',h4,h5⟩:=F.bodies f fn c h1 hc hf hs
    rw [h4]
    simp only [Option.bind_some,hc,h5,Option.getD_some]
    exact .cons (.code _ h3) .nil
theorem zft {σ:Nat→Option (Nat×Nat)}{fr fr':Frame}(h:zbp P B σ fr fr'){v v':Value}(hv:VRel σ v v'): zbp P B σ (fr.finish v) (fr'.finish v'):=by
 obtain ⟨fn,tmps,todo,defers,mode,kind,ro⟩:=fr
 obtain ⟨fn',tmps',todo',defers',mode',kind',ro'⟩:=fr'
 obtain ⟨h1,h2,h3,h4,h5,h6,h7,h8⟩:=h
 simp only at h1 h2 h3 h4 h5 h6 h7 h8
 unfold Frame.finish
 cases h3 with
 | nil=>exact ⟨h1,h2,.nil,h4,h5,h6,h7,h8⟩
 | cons hi ht =>
   cases hi with
   | code c h=>exact ⟨h1,h2,.cons (.code c h) ht,h4,h5,h6,h7,h8⟩
   | inBlock id=>exact ⟨h1,h2,.cons (.inBlock id) ht,h4,h5,h6,h7,h8⟩
   | inLoop c h=>exact ⟨h1,h2,.cons (.inLoop c h) ht,h4,h5,h6,h7,h8⟩
   | inScope c h=>exact ⟨h1,h2,.cons (.inScope c h) ht,h4,h5,h6,h7,h8⟩
   | inRange l l' h=>exact ⟨h1,h2,.cons (.endRange l l' h) ht,h4,h5,h6,h7,h8⟩
   | endRange l l' h=>exact ⟨h1,h2,.cons (.endRange l l' h) ht,h4,h5,h6,h7,h8⟩
   | begin=>exact ⟨h1,h2,ht,h4,h5,h6,h7,h8⟩
   | inRegion ops l h =>
     cases l with
     | nil=>exact ⟨h1,h2,.cons (.inRegion ops [] h) ht,h4,h5,h6,h7,h8⟩
     | cons i l =>
       refine ⟨h1,?_,.cons (.inRegion ops l h) ht,h4,h5,h6,h7,h8⟩
       dsimp only []
       cases (ops[i]?).bind (·.dst) with
       | none=>exact h2
       | some d=>exact h2.set hv d
theorem zbi {es e:Array Event}{s:GStep}{g:Goroutine}{w:World}(h:GStep.after es s=.go g w e): ∃ e',s=.go g w e'∧e=es++e':=by
 cases s <;> simp only [GStep.after,GStep.go.injEq] at h <;> first
  | (obtain ⟨rfl,rfl,rfl⟩:=h;exact ⟨_,rfl,rfl⟩)
  | cases h
theorem zcc (fr:Frame)(vs:List PanicEntry): ∃ ch,(fr.raise vs).mode=.panicking ch:=by
 unfold Frame.raise
 split
 ·exact ⟨_,rfl⟩
 ·exact ⟨_,rfl⟩
theorem zjc {P:Program}{fr:Frame}{cs:List Frame}{m:String}{w w1:World}{g:Goroutine}{e:Array Event}(hg:g.dying=none): endFatal P fr cs none m w≠.go g w1 e:=by
 intro h
 unfold endFatal at h
 dsimp only at h
 split at h
 ·unfold dieOf at h
  simp only [GStep.go.injEq] at h
  obtain ⟨rfl,-,-⟩:=h
  cases hg
 ·cases h
 ·cases h
theorem zxo (F:zb3 P P' B){fr:Frame}{cs:List Frame}{g:Nat}{w w1:World}{g1:Goroutine}{e:Array Event}: early P fr cs none g w≠.go g1 w1 e:=by
 intro h
 unfold early at h
 rw [F.ahead] at h
 simp only [Bool.not_true,Bool.false_eq_true,if_false,F.noStep] at h
 cases h
theorem Did.after {base:List Frame}{w' w1:World}{s:GStep}{fr1:Frame}{cs1:List Frame}{es:Array Event}{x1:List Nat}(h:Did P P' B (nw++x1) base w' s fr1 cs1 w1){w0:World}(hk:Kept B nw x1 w0 w')(he:∀ e∈es,EvOk B (nw++x1) e): Did P P' B nw base w0 (GStep.after es s) fr1 cs1 w1:=by
 obtain ⟨x2,fr1',cs1',w1',l,rfl,hw,ht,hc,hk2,he2⟩:=h
 refine ⟨x1++x2,fr1',cs1',w1',es++l,rfl,by rw [← List.append_assoc];exact hw,by rw [← List.append_assoc];exact ht,by rw [← List.append_assoc];exact hc,hk.trans hk2,fun e h=>?_⟩
 rw [← List.append_assoc]
 rcases Array.mem_append.1 h with h|h
 ·exact (he e h).up
 ·exact he2 e h
theorem Did.now {base cs cs':List Frame}{w w':World}{fr fr':Frame}(hw:WRel B nw w w')(hf:zye P P' B (cor B nw) fr fr' cs)(hc:zbl P B (cor B nw) base cs cs'):
  Did P P' B nw base w' (.go { frame:=fr',callers:=cs',status:=.running,dying:=none } w') fr cs w :=
 ⟨[],fr',cs',w',#[],rfl,by simpa using hw,by simpa using hf,by simpa using hc,.rfl',fun e h=>by simp at h⟩
theorem zvp {σ:Nat→Option (Nat×Nat)}(F:zb3 P P' B){l l':Nat}(hl:σ l=some (l',0))(f:FuncId){t t':Array Value}(ht:RRel σ t t'){a b:Code}(ha:B.code a)(hb:B.code b)(hf:ext f=false):
  zbp P B σ (Frame.round l f t a b .normal) (Frame.round l' f t' a b .normal) :=
 ⟨rfl,ht,.cons (.code _ ((F.code _).1 ha)) (.cons .begin (.cons (.code _ ((F.code _).1 hb)) .nil)),.nil,.inl ⟨rfl,rfl⟩,⟨rfl,rfl⟩,.some _ _ hl,hf⟩
theorem zgq {Q:Program}{fr:Frame}{cs:List Frame}{s:Sem Next}{w w2:World}{e2:Array Event}{f:FuncId}{a:Array Value}(hr:s.runT Q w #[]=(.ok (.enter f a) w2,e2))(hk:fr.kind=.normal)(ht:∀ d r s k,fr.todo≠.call d true r s :: k): stepG.apply Q true fr cs none s w=GStep.after (seen Q fr.fn e2) (.go { frame:=Frame.enter Q f a .normal,callers:=fr :: cs,status:=.running,dying:=none } w2):=by
 unfold stepG.apply
 simp only [if_true,hr,hk]
 rw [if_neg (by decide)]
theorem zgp {Q:Program}{fr:Frame}{cs:List Frame}{s:Sem Next}{w w2:World}{e2:Array Event}{l:Nat}{f:FuncId}{t:Array Value}{a b:Code}(hr:s.runT Q w #[]=(.ok (.round l f t a b) w2,e2))(hk:fr.kind=.normal):
  stepG.apply Q true fr cs none s w=GStep.after (seen Q fr.fn e2) (.go { frame:=Frame.round l f t a b .normal,callers:=fr :: cs,status:=.running,dying:=none } w2):=by
 unfold stepG.apply
 simp only [if_true,hr,hk]
 rw [if_neg (by decide)]
theorem zq7 {σ:Nat→Option (Nat×Nat)}{t t':List Item}(h:zgr P B σ t t'): (∀ d r s k,t≠.call d true r s :: k)∧(∀ d r s k,t'≠.call d true r s :: k):=by
 cases h with
 | nil=>exact ⟨fun _ _ _ _ e=>(by cases e),fun _ _ _ _ e=>(by cases e)⟩
 | cons hi ht=>cases hi <;> exact ⟨fun _ _ _ _ e=>(by cases e),fun _ _ _ _ e=>(by cases e)⟩
theorem zk7 (F:zb3 P P' B){base cs cs':List Frame}{fr fr':Frame}{w w' w1:World}{s s':Sem Next}(hs:Sim P P' B nw s s' (fun m x x'=>XRel P B (cor B m) x x'))(hw:WRel B nw w w')(hf:zbp P B (cor B nw) fr fr')(hc:zbl P B (cor B nw) base cs cs'){fr1:Frame}{cs1:List Frame}{es1:Array Event}(h:stepG.apply P true fr cs none s w=.go { frame:=fr1,callers:=cs1,status:=.running,dying:=none } w1 es1)(hp:∀ ch,fr1.mode≠.panicking ch): Did P P' B nw base w' (stepG.apply P' true fr' cs' none s' w') fr1 cs1 w1:=by
 obtain ⟨k1,k2⟩:=zq7 hf.todo
 have hs:=hs.1 w w' #[] #[]
 match hx:s.runT P w #[] with
 | (.ok a w2,e2) =>
   obtain ⟨xt,b,w2',l,r,hw2,hR,hk,he⟩:=hs a w2 e2 hw hx
   rw [Array.empty_append] at r
   have fin:∀ (s:GStep),Did P P' B (nw++xt) base w2' s fr1 cs1 w1→Did P P' B nw base w' (GStep.after (seen P' fr'.fn l) s) fr1 cs1 w1:=by
    intro s hd
    exact hd.after hk fun e h=>he e (zrh _ _ _ _ h)
   cases hR with
   | value v v' hv =>
     unfold stepG.apply at h ⊢
     simp only [if_true,hx,hf.kind.1] at h
     simp only [if_true,r,hf.kind.2]
     rw [if_neg (by decide)] at h ⊢
     obtain ⟨e',h,-⟩:=zbi h
     simp only [GStep.go.injEq,Goroutine.mk.injEq] at h
     obtain ⟨⟨rfl,rfl,-⟩,rfl,-⟩:=h
     exact fin _ (.now hw2 (.inl (zft hf.up hv)) hc.up)
   | skip =>
     unfold stepG.apply at h ⊢
     simp only [if_true,hx,hf.kind.1] at h
     simp only [if_true,r,hf.kind.2]
     rw [if_neg (by decide)] at h ⊢
     obtain ⟨e',h,-⟩:=zbi h
     simp only [GStep.go.injEq,Goroutine.mk.injEq] at h
     obtain ⟨⟨rfl,rfl,-⟩,rfl,-⟩:=h
     exact fin _ (.now hw2 (.inl (zft hf.up VRel.undef_)) hc.up)
   | enter f a a' hef hq ha =>
     rw [zgq hx hf.kind.1 k1] at h
     rw [zgq r hf.kind.2 k2]
     obtain ⟨e',h,-⟩:=zbi h
     simp only [GStep.go.injEq,Goroutine.mk.injEq] at h
     obtain ⟨⟨rfl,rfl,-⟩,rfl,-⟩:=h
     refine fin _ (.now hw2 ?_ (.cons hf.up hc.up))
     cases hst:stop f
     ·exact .inl (zfa F hef hst ha)
     ·refine .inr ⟨f,a,a',hst,hq hst,fun e=>?_,rfl,rfl,ha⟩
      simp only [List.cons.injEq] at e
      obtain ⟨-,rfl⟩:=e
      cases hc
   | round l0 l0' f t t' a b hl ht ha hb hff =>
     rw [zgp hx hf.kind.1] at h
     rw [zgp r hf.kind.2]
     obtain ⟨e',h,-⟩:=zbi h
     simp only [GStep.go.injEq,Goroutine.mk.injEq] at h
     obtain ⟨⟨rfl,rfl,-⟩,rfl,-⟩:=h
     exact fin _ (.now hw2 (.inl (zvp F hl f ht ha hb hff)) (.cons hf.up hc.up))
 | (.halt hh w2,e2) =>
   exfalso
   unfold stepG.apply at h
   simp only [if_true,hx] at h
   obtain ⟨e',h,-⟩:=zbi h
   cases hh with
   | panic v =>
     simp only [GStep.go.injEq,Goroutine.mk.injEq] at h
     obtain ⟨⟨rfl,-⟩,-⟩:=h
     obtain ⟨ch,hch⟩:=zcc fr [{ v,recovered:=false }]
     exact hp ch hch
   | goexit =>
     simp only [GStep.go.injEq,Goroutine.mk.injEq] at h
     obtain ⟨⟨rfl,-⟩,-⟩:=h
     obtain ⟨ch,hch⟩:=zcc fr [goexitEntry]
     exact hp ch hch
   | fatal m=>exact zjc rfl h
   | throw m=>simp [endThrow,dieOf] at h
   | unsupported u =>
     cases u with
     | initOrder g=>exact zxo F h
     | _=>cases h
   | _=>simp at h
end
end
end Go.Proofs.YtelgmbomkojmaaaDoor
