/- A pack: Bx. -/
import Derived.Test.YtelgmbomkojmaaaDoorQCwbq
import Derived.Test.YtelgmbomkojmaaaDoorQBObh
namespace Go.Proofs.YtelgmbomkojmaaaDoor
set_option linter.unusedSimpArgs false
set_option linter.unusedVariables false
set_option linter.unusedSectionVars false
set_option maxRecDepth 100000
open Exts (ext stop anyOk gapOk)
section
open Go.ChangeShapes Go.WideShapes Go.ChangeAt Go.RowKit Go.Joins Go.Deep
theorem zn6 {H:Type}{enc:TypeId×Value→H}(W:World)(base:Nat)(args:Array Value)(ds:List (DataW H))(p:List MemPlace)(hval:∀ (j:Nat) t v,Tryd.f5.params[j]?=some t→args[j]?=some v→Value.okWide Tryd.prog W .any base t v)(hA:DataW.TrodAll enc Tryd.prog W 0 (fun _=>true) true Tryd.f5.params.toList args.toList ds p)(hlt:∀ x∈p,x.block<W.heap.size)(hz:(DataW.weightsEach Tryd.prog Tryd.f5.params.toList ds).all (·≤reachBytes)=true)(ht:zns W): Lone W args 5:=by
 rw [Tryd.params5] at hA hval hz
 obtain ⟨v0,vs0,d0,ds0,p0,q0,hargs,rfl,rfl,h0,r0⟩:=trodAll_cons hA
 obtain ⟨v1,vs1,d1,ds1,p1,q1,rfl,rfl,rfl,h1,r1⟩:=trodAll_cons r0
 obtain ⟨v2,vs2,d2,ds2,p2,q2,rfl,rfl,rfl,h2,r2⟩:=trodAll_cons r1
 obtain ⟨v3,vs3,d3,ds3,p3,q3,rfl,rfl,rfl,h3,r3⟩:=trodAll_cons r2
 obtain ⟨v4,vs4,d4,ds4,p4,q4,rfl,rfl,rfl,h4,r4⟩:=trodAll_cons r3
 obtain ⟨rfl,rfl,rfl⟩:=trodAll_nil r4
 obtain rfl:args=#[v0,v1,v2,v3,v4]:=by cases args;simp_all
 obtain ⟨hop,rfl⟩:=okWide_int Tryd.underlying3 (hval 1 _ _ rfl rfl)
 obtain ⟨hops,rfl⟩:=okWide_int Tryd.underlying3 (hval 2 _ _ rfl rfl)
 obtain ⟨fu0,h0⟩:=h0
 obtain ⟨A0,m0,k0,rfl⟩:=okWide_slice Tryd.underlying33 (hval 0 _ _ rfl rfl)
 obtain ⟨fu3,h3⟩:=h3
 obtain ⟨A3,m3,k3,rfl⟩:=okWide_slice Tryd.underlying22 (hval 3 _ _ rfl rfl)
 obtain ⟨fu4,h4⟩:=h4
 obtain ⟨A4,m4,k4,rfl⟩:=okWide_slice Tryd.underlying23 (hval 4 _ _ rfl rfl)
 obtain ⟨c0,sv,o0,hw0⟩:=zdw Tryd.underlying33 Tryd.underlying5 (by kernel_rfl) h0
 obtain ⟨c3,V,L,C,o3,op,hB⟩:=zky h3
 obtain ⟨c4,es0,o4,_⟩:=zdw Tryd.underlying23 Tryd.underlying3 (by kernel_rfl) h4
 have bs:Byt sv:=fun x hx=>by
  have:(decide ((0:Int)≤x) && decide (x≤(255:Int)))=true:=hw0 x hx
  simpa using this
 obtain ⟨ws,hws⟩:∃ ws,ws=[win1 (.slice A0 m0 k0) (nums .u8 sv).toArray,win1 (.slice A3 m3 k3) (rowL 3 V L.length),win1 (.slice A4 m4 k4) (nums .i64 es0).toArray]++zhk L V:=⟨_,rfl⟩
 have g0:ws[0]?=some (win1 (.slice A0 m0 k0) (nums .u8 sv).toArray):=by rw [hws];rfl
 have g1:ws[1]?=some (win1 (.slice A3 m3 k3) (rowL 3 V L.length)):=by rw [hws];rfl
 have g2:ws[2]?=some (win1 (.slice A4 m4 k4) (nums .i64 es0).toArray):=by rw [hws];rfl
 have gp:∀ i,i<L.length→ws[3+i]?=some (win1 (V i) (nums .u8 (L.getD i [])).toArray):=fun i hi=>by
  rw [hws,List.getElem?_append_right (by simp),show 3+i - [win1 (.slice A0 m0 k0) (nums .u8 sv).toArray,win1 (.slice A3 m3 k3) (rowL 3 V L.length),win1 (.slice A4 m4 k4) (nums .i64 es0).toArray].length=i by simp]
  exact zkv hi
 have hlen:ws.length=3+L.length:=by rw [hws];simp [zhk];omega
 have hmem:∀ x∈ws,x=win1 (.slice A0 m0 k0) (nums .u8 sv).toArray∨x=win1 (.slice A3 m3 k3) (rowL 3 V L.length)∨x=win1 (.slice A4 m4 k4) (nums .i64 es0).toArray∨∃ i,i<L.length∧x=win1 (V i) (nums .u8 (L.getD i [])).toArray:=fun x hx=>by
  rw [hws,List.mem_append] at hx
  rcases hx with hx|hx
  ·simp only [List.mem_cons,List.mem_nil_iff,or_false] at hx
   rcases hx with h|h|h
   ·exact .inl h
   ·exact .inr (.inl h)
   ·exact .inr (.inr (.inl h))
  ·exact .inr (.inr (.inr (zi1 hx)))
 have hrow2:∀ (j:Nat) u,(rowL 3 V L.length)[j]?=some u→j<L.length∧@VRel E2 (oldW ws) u (V j):=fun j u hu=>by
  obtain ⟨hj,rfl⟩:=ziw hu
  exact ⟨hj,zbm (op j hj) (gp j hj)⟩
 have hrow3:∀ (j:Nat) u,(rowL 3 V L.length)[j]?=some u→@VRel E3 (oldI (1+ws.length)) u u:=fun j u hu=>by
  obtain ⟨hj,rfl⟩:=ziw hu
  exact zbl (op j hj) (by omega)
 clear hws
 refine ⟨ws,#[zee 1 (.slice A0 m0 k0),.int .i64 hop,.int .i64 hops,zee 2 (.slice A3 m3 k3),zee 3 (.slice A4 m4 k4)],⟨ht,fun x hx=>?_,fun x hx=>?_⟩,⟨rfl,?_⟩,⟨rfl,?_⟩,fun w hw=>?_⟩
 ·rcases hmem x hx with rfl|rfl|rfl|⟨i,hi,rfl⟩
  ·exact zb2 o0 ht zc3
  ·exact zb2 o3 ht hrow2
  ·exact zb2 o4 ht zc3
  ·exact zb2 (op i hi) ht zc3
 ·rcases hmem x hx with rfl|rfl|rfl|⟨i,hi,rfl⟩
  ·exact zcu zc4
  ·exact zcu hrow3
  ·exact zcu zc4
  ·exact zcu zc4
 ·intro j v v' hv hv'
  match j with
  | 0=>cases hv;cases hv';exact zbm o0 g0
  | 1=>cases hv;cases hv';exact @VRel.int E2 _ _ _
  | 2=>cases hv;cases hv';exact @VRel.int E2 _ _ _
  | 3=>cases hv;cases hv';exact zbm o3 g1
  | 4=>cases hv;cases hv';exact zbm o4 g2
  | j+5=>simp at hv
 ·intro j v v' hv hv'
  match j with
  | 0=>cases hv;cases hv';exact zbl o0 (by omega)
  | 1=>cases hv;cases hv';exact @VRel.int E3 _ _ _
  | 2=>cases hv;cases hv';exact @VRel.int E3 _ _ _
  | 3=>cases hv;cases hv';exact zbl o3 (by omega)
  | 4=>cases hv;cases hv';exact zbl o4 (by omega)
  | j+5=>simp at hv
 ·obtain ⟨B0,e0,rd0⟩:=zb0 o0 hw g0 (by simp [nums])
  obtain ⟨B3,e3,rd3⟩:=zb0 o3 hw g1 (by simp [rowL])
  obtain ⟨B4,e4,rd4⟩:=zb0 o4 hw g2 (by simp [nums])
  have hp:=zi0 op gp hw
  rw [e0,e3,e4]
  exact zli B0 B3 B4 _ c0 L.length c3 _ c4 hop hops sv es0 _ L w rfl o0.1 o0.2.1 (by simpa using rd0) bs rfl o3.1 o3.2.1 rd3 hp hB rfl (Nat.le_trans o4.1 o4.2.1) (by simpa using rd4) (zgs ht hw)
end
end Go.Proofs.YtelgmbomkojmaaaDoor
