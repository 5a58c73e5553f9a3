/- A pack: Base Lead Open Rd Own Sa Arr ShaSpec Sb Sc Laid Sd Bytes Se Sf. -/
import Derived.Test.YtelgmbomkojmaaaDoorRows
import Derived.WalkKit
import Derived.WalkSpells
import Derived.WalkLawsBesides
import Derived.Lib.Hide
import Derived.RunT
import Derived.Lib.SmallJoins
import Derived.Deep.Slices
import Derived.Deep.Fields
import Derived.ProofKit
import Derived.OpenShut
import Derived.Deep.QuietTactic
import Derived.BigQuiet
import Derived.Deep.AppendLies
import Derived.StillTailTactics
import Derived.Deep.MidRow
import Derived.ShutString
import Derived.ChangeOld
import Derived.Below
import Derived.SizedLaws
import Derived.Test.YtelgmbomkojmaaaDoorTie
import Derived.Test.YtelgmbomkojmaaaDoorCards
import Derived.LaidMore
import Derived.Stop.Joined
import Derived.SevenTiedAt
import Derived.Deep.Cut
import Derived.Laws.CopyOwn
import Derived.RangeFuncNested
import Derived.RangeFuncBound
import Derived.RangeFuncCalls
import Derived.RangeFuncLeaves
import Derived.RangeFuncBox
import Derived.RangeFuncFrom
import Derived.Shelf.Abstract
import Derived.Shelf.RegionOpen
import Derived.OwnWalkIn
import Derived.TacticsInMore
import Derived.LoopNIn
import Derived.LoopIn
namespace Go.Proofs.YtelgmbomkojmaaaDoor
set_option linter.all false
set_option maxRecDepth 100000
section
open Go.RowKit
theorem bgo {w x y:World}(h:Below w.heap.size w x)(hb:Below x.heap.size x y): Below w.heap.size w y:=h.trans (hb.mono h.size)
theorem bal {w x:World}(h:Below w.heap.size w x)(o:Obj): Below w.heap.size w (x.alloc o):=h.alloc h.size o
theorem bdr {w x:World}(h:Below w.heap.size w x): Below w.heap.size w x.drew:=h.drew
theorem bdrN {w x:World}(h:Below w.heap.size w x)(n:Nat): Below w.heap.size w (x.drewN n):=⟨h.os,h.tape,h.output,h.size,h.block⟩
theorem brf {w:World}: Below w.heap.size w w:=Below.refl _ _
def Yes (w:World)(e:Ending)(w':World): Prop:=e=.returned (.bool true)∧Below w.heap.size w w'
end
section
def Lead.behind:Nat→Code→Code
 | 0,c=>c
 | n+1,.seq _ b=>Lead.behind n b
 | _+1,c=>c
noncomputable def Lead.tail:Code:=Lead.behind 7 (Tryd.f19.body.getD .skip)
noncomputable def Lead.k0:Code:=(Code.region 0 #[{ dst:=some 6,op:=(Op.assign (Operand.const (Value.slice none 0 0))),type:=49,pos := "",after:=#[],guard:=none },
  { dst:=some 4,op:=(Op.call { callee:=Callee.builtin Builtin.cap,args:=#[(Operand.tmp 0)],argTypes:=#[33] }),type:=3,pos := "",after:=#[],guard:=none },
  { dst:=some 3,op:=(Op.call { callee:=Callee.builtin Builtin.len,args:=#[(Operand.tmp 0)],argTypes:=#[33] }),type:=3,pos := "",after:=#[],guard:=none },
  { dst:=some 5,op:=(Op.binOp BinOp.lss 3 (Operand.tmp 4) (Operand.tmp 3) 3),type:=4,pos := "",after:=#[],guard:=none },
  { dst:=some 14,op:=(Op.binOp BinOp.lss 3 (Operand.const (Value.int IntKind.i64 1000000)) (Operand.tmp 3) 3),type:=4,pos := "",after:=#[],guard:=none }] false)
noncomputable def Lead.k1:Code:=(Code.region 1 #[{ dst:=some 7,op:=(Op.move (Operand.const (Value.int IntKind.i64 0))),type:=3,pos := "",after:=#[],guard:=none }] false)
noncomputable def Lead.k2:Code:=(Code.region 2 #[{ dst:=some 8,op:=(Op.binOp BinOp.lss 3 (Operand.tmp 7) (Operand.tmp 3) 3),type:=4,pos := "",after:=#[],guard:=none }] false)
noncomputable def Lead.k3:Code:=(Code.region 3 #[{ dst:=some 9,op:=(Op.indexAddr 33 (Operand.tmp 0) (Operand.tmp 7)),type:=0,pos := "",after:=#[],guard:=none },
  { dst:=some 10,op:=(Op.load 5 (Operand.tmp 9)),type:=5,pos := "",after:=#[],guard:=none },
  { dst:=some 11,op:=(Op.binOp BinOp.lss 5 (Operand.const (Value.int IntKind.u8 (-1))) (Operand.tmp 10) 5),type:=4,pos := "",after:=#[],guard:=none },
  { dst:=some 12,op:=(Op.binOp BinOp.lss 5 (Operand.tmp 10) (Operand.const (Value.int IntKind.u8 (256))) 5),type:=4,pos := "",after:=#[],guard:=none }] false)
noncomputable def Lead.k4:Code:=(Code.region 4 #[{ dst:=some 13,op:=(Op.binOp BinOp.add 3 (Operand.tmp 7) (Operand.const (Value.int IntKind.i64 1)) 3),type:=3,pos := "",after:=#[],guard:=none },
  { dst:=some 7,op:=(Op.move (Operand.tmp 13)),type:=3,pos := "",after:=#[],guard:=none }] false)
noncomputable def Lead.q0:Code:=(Code.region 0 #[{ dst:=some 8,op:=(Op.assign (Operand.const (Value.slice none 0 0))),type:=49,pos := "",after:=#[],guard:=none },
  { dst:=some 15,op:=(Op.assign (Operand.const (Value.slice none 0 0))),type:=49,pos := "",after:=#[],guard:=none },
  { dst:=some 23,op:=(Op.binOp BinOp.lss 3 (Operand.tmp 1) (Operand.const (Value.int IntKind.i64 0)) 3),type:=4,pos := "",after:=#[],guard:=none },
  { dst:=some 24,op:=(Op.binOp BinOp.lss 3 (Operand.tmp 2) (Operand.const (Value.int IntKind.i64 0)) 3),type:=4,pos := "",after:=#[],guard:=none },
  { dst:=some 28,op:=(Op.call { callee:=Callee.builtin Builtin.cap,args:=#[(Operand.tmp 0)],argTypes:=#[33] }),type:=3,pos := "",after:=#[],guard:=none },
  { dst:=some 25,op:=(Op.call { callee:=Callee.builtin Builtin.len,args:=#[(Operand.tmp 0)],argTypes:=#[33] }),type:=3,pos := "",after:=#[],guard:=none },
  { dst:=some 30,op:=(Op.binOp BinOp.lss 3 (Operand.const (Value.int IntKind.i64 4000)) (Operand.tmp 25) 3),type:=4,pos := "",after:=#[],guard:=none },
  { dst:=some 29,op:=(Op.call { callee:=Callee.builtin Builtin.cap,args:=#[(Operand.tmp 3)],argTypes:=#[22] }),type:=3,pos := "",after:=#[],guard:=none },
  { dst:=some 26,op:=(Op.call { callee:=Callee.builtin Builtin.len,args:=#[(Operand.tmp 3)],argTypes:=#[22] }),type:=3,pos := "",after:=#[],guard:=none },
  { dst:=some 31,op:=(Op.binOp BinOp.lss 3 (Operand.const (Value.int IntKind.i64 64)) (Operand.tmp 26) 3),type:=4,pos := "",after:=#[],guard:=none }] false)
noncomputable def Lead.q1:Code:=(Code.region 1 #[{ dst:=some 24,op:=(Op.call { callee:=Callee.value (Operand.func 32),args:=#[(Operand.tmp 0),(Operand.const (Value.int IntKind.i64 0)),(Operand.const (Value.int IntKind.i64 0))],argTypes:=#[33,3,3] }),type:=49,pos := "",after:=#[],guard:=none }] false)
noncomputable def Lead.q2:Code:=(Code.region 2 #[{ dst:=some 28,op:=(Op.move (Operand.const (Value.int IntKind.i64 0))),type:=3,pos := "",after:=#[],guard:=none }] false)
noncomputable def Lead.q3:Code:=(Code.region 3 #[{ dst:=some 29,op:=(Op.binOp BinOp.lss 3 (Operand.tmp 28) (Operand.tmp 26) 3),type:=4,pos := "",after:=#[],guard:=none }] false)
noncomputable def Lead.q4:Code:=(Code.region 4 #[{ dst:=some 22,op:=(Op.indexAddr 22 (Operand.tmp 3) (Operand.tmp 28)),type:=0,pos := "",after:=#[],guard:=none },
  { dst:=some 23,op:=(Op.load 33 (Operand.tmp 22)),type:=33,pos := "",after:=#[],guard:=none }] false)
noncomputable def Lead.q5:Code:=(Code.region 5 #[{ dst:=some 24,op:=(Op.call { callee:=Callee.value (Operand.func 32),args:=#[(Operand.tmp 23),(Operand.const (Value.int IntKind.i64 0)),(Operand.const (Value.int IntKind.i64 0))],argTypes:=#[33,3,3] }),type:=49,pos := "",after:=#[],guard:=none }] false)
noncomputable def Lead.q6:Code:=(Code.region 6 #[{ dst:=some 35,op:=(Op.binOp BinOp.add 3 (Operand.tmp 28) (Operand.const (Value.int IntKind.i64 1)) 3),type:=3,pos := "",after:=#[],guard:=none },
  { dst:=some 28,op:=(Op.move (Operand.tmp 35)),type:=3,pos := "",after:=#[],guard:=none }] false)
noncomputable def Lead.r1:Code:=(Code.region 7 #[{ dst:=some 25,op:=(Op.call { callee:=Callee.builtin Builtin.len,args:=#[(Operand.tmp 3)],argTypes:=#[22] }),type:=3,pos := "",after:=#[],guard:=none },
  { dst:=some 26,op:=(Op.makeSlice 49 (Operand.tmp 25) (Operand.tmp 25)),type:=49,pos := "",after:=#[],guard:=none },
  { dst:=some 15,op:=(Op.assign (Operand.tmp 26)),type:=49,pos := "",after:=#[],guard:=none },
  { dst:=some 28,op:=(Op.move (Operand.const (Value.int IntKind.i64 0))),type:=3,pos := "",after:=#[],guard:=none }] false)
noncomputable def Lead.r2:Code:=(Code.region 8 #[{ dst:=some 29,op:=(Op.binOp BinOp.lss 3 (Operand.tmp 28) (Operand.tmp 25) 3),type:=4,pos := "",after:=#[],guard:=none }] false)
noncomputable def Lead.r3:Code:=(Code.region 9 #[{ dst:=some 22,op:=(Op.indexAddr 22 (Operand.tmp 3) (Operand.tmp 28)),type:=0,pos := "",after:=#[],guard:=none },
  { dst:=some 23,op:=(Op.load 33 (Operand.tmp 22)),type:=33,pos := "",after:=#[],guard:=none }] false)
noncomputable def Lead.r4:Code:=(Code.region 10 #[{ dst:=some 24,op:=(Op.call { callee:=Callee.value (Operand.func 15),args:=#[(Operand.tmp 0),(Operand.tmp 1),(Operand.tmp 2),(Operand.tmp 23)],argTypes:=#[33,3,3,33] }),type:=0,pos := "",after:=#[],guard:=none }] false)
noncomputable def Lead.r5:Code:=(Code.region 11 #[{ dst:=some 30,op:=(Op.extract (Operand.tmp 24) 0),type:=33,pos := "",after:=#[],guard:=none },
  { dst:=some 31,op:=(Op.extract (Operand.tmp 24) 1),type:=33,pos := "",after:=#[],guard:=none },
  { dst:=some 32,op:=(Op.extract (Operand.tmp 24) 2),type:=28,pos := "",after:=#[],guard:=none },
  { dst:=some 40,op:=(Op.binOp BinOp.neq 28 (Operand.tmp 32) (Operand.const (Value.int IntKind.i64 0)) 28),type:=4,pos := "",after:=#[],guard:=none }] false)
noncomputable def Lead.r6:Code:=(Code.region 12 #[{ dst:=some 33,op:=(Op.build 54 #[(0,(Operand.tmp 28))]),type:=54,pos := "",after:=#[],guard:=none },
  { dst:=some 34,op:=(Op.indexAddr 49 (Operand.tmp 15) (Operand.tmp 28)),type:=0,pos := "",after:=#[],guard:=none },
  { dst:=none,op:=(Op.store 54 (Operand.tmp 34) (Operand.tmp 33)),type:=0,pos := "",after:=#[],guard:=none }] false)
noncomputable def Lead.r7:Code:=(Code.region 13 #[{ dst:=some 33,op:=(Op.build 54 #[(0,(Operand.tmp 28)),(1,(Operand.const (Value.bool true))),(2,(Operand.tmp 30)),(3,(Operand.tmp 31))]),type:=54,pos := "",after:=#[],guard:=none },
  { dst:=some 34,op:=(Op.indexAddr 49 (Operand.tmp 15) (Operand.tmp 28)),type:=0,pos := "",after:=#[],guard:=none },
  { dst:=none,op:=(Op.store 54 (Operand.tmp 34) (Operand.tmp 33)),type:=0,pos := "",after:=#[],guard:=none }] false)
noncomputable def Lead.r8:Code:=(Code.region 14 #[{ dst:=some 35,op:=(Op.binOp BinOp.add 3 (Operand.tmp 28) (Operand.const (Value.int IntKind.i64 1)) 3),type:=3,pos := "",after:=#[],guard:=none },
  { dst:=some 28,op:=(Op.move (Operand.tmp 35)),type:=3,pos := "",after:=#[],guard:=none },
  { dst:=some 40,op:=(Op.move (Operand.const (Value.bool false))),type:=4,pos := "",after:=#[],guard:=none }] false)
noncomputable def Lead.r9:Code:=(Code.region 15 #[{ dst:=some 22,op:=(Op.move (Operand.const (Value.tuple #[]))),type:=0,pos := "",after:=#[],guard:=none },
  { dst:=some 23,op:=(Op.move (Operand.const (Value.tuple #[]))),type:=0,pos := "",after:=#[],guard:=none },
  { dst:=some 24,op:=(Op.move (Operand.const (Value.tuple #[]))),type:=0,pos := "",after:=#[],guard:=none },
  { dst:=some 25,op:=(Op.move (Operand.const (Value.tuple #[]))),type:=0,pos := "",after:=#[],guard:=none },
  { dst:=some 26,op:=(Op.move (Operand.const (Value.tuple #[]))),type:=0,pos := "",after:=#[],guard:=none },
  { dst:=some 28,op:=(Op.move (Operand.const (Value.tuple #[]))),type:=0,pos := "",after:=#[],guard:=none },
  { dst:=some 30,op:=(Op.move (Operand.const (Value.tuple #[]))),type:=0,pos := "",after:=#[],guard:=none },
  { dst:=some 31,op:=(Op.move (Operand.const (Value.tuple #[]))),type:=0,pos := "",after:=#[],guard:=none },
  { dst:=some 32,op:=(Op.move (Operand.const (Value.tuple #[]))),type:=0,pos := "",after:=#[],guard:=none },
  { dst:=some 33,op:=(Op.move (Operand.const (Value.tuple #[]))),type:=0,pos := "",after:=#[],guard:=none },
  { dst:=some 34,op:=(Op.move (Operand.const (Value.tuple #[]))),type:=0,pos := "",after:=#[],guard:=none },
  { dst:=some 35,op:=(Op.move (Operand.const (Value.tuple #[]))),type:=0,pos := "",after:=#[],guard:=none },
  { dst:=some 29,op:=(Op.move (Operand.const (Value.bool false))),type:=4,pos := "",after:=#[],guard:=none }] false)
noncomputable def Lead.no:Code:=Code.refuse "no"
noncomputable def Lead.each:Code:=(Code.seq Lead.k2 (Code.seq (Code.cond (Operand.tmp 8) Code.skip (Code.exit 0)) (Code.seq Lead.k3 (Code.seq (Code.cond (Operand.tmp 11) Code.skip Lead.no) (Code.seq (Code.cond (Operand.tmp 12) Code.skip Lead.no) Lead.k4)))))
noncomputable def Lead.chk:Code:=(Code.seq Lead.k0 (Code.seq (Code.cond (Operand.tmp 5) Lead.no Code.skip) (Code.seq (Code.cond (Operand.tmp 14) Lead.no Code.skip) (Code.seq Lead.k1 (Code.seq (Code.block 0 (Code.loop Lead.each)) Code.ret)))))
noncomputable def Lead.f32:Func:={ Tryd.f32 with body:=some Lead.chk }
noncomputable def Lead.look:Code:=(Code.seq Lead.q3 (Code.seq (Code.cond (Operand.tmp 29) Code.skip (Code.exit 0)) (Code.seq Lead.q4 (Code.seq Lead.q5 Lead.q6))))
noncomputable def Lead.round:Code:=(Code.seq Lead.r2 (Code.seq (Code.cond (Operand.tmp 29) Code.skip (Code.exit 1)) (Code.seq Lead.r3 (Code.seq Lead.r4 (Code.seq Lead.r5 (Code.seq (Code.cond (Operand.tmp 40) Lead.r6 Lead.r7) Lead.r8))))))
noncomputable def Lead.work:Code:=Code.seq Lead.r1 (Code.seq (Code.block 1 (Code.loop Lead.round)) (Code.seq Lead.r9 Lead.tail))
noncomputable def Lead.body:Code:=Code.seq Lead.q0 (Code.seq (Code.cond (Operand.tmp 30) Lead.no Code.skip) (Code.seq (Code.cond (Operand.tmp 31) Lead.no Code.skip) (Code.seq Lead.q1 (Code.seq Lead.q2 (Code.seq (Code.block 0 (Code.loop Lead.look)) Lead.work)))))
noncomputable def Lead.f19:Func:={ Tryd.f19 with body:=some Lead.body }
noncomputable def Lead.prog:Program:=⟨Tryd.progTables,(Tryd.funcs.setIfInBounds 19 Lead.f19).setIfInBounds 32 Lead.f32⟩
theorem Lead.funcs_ne {i:Nat}(h:i≠19)(h2:i≠32): Lead.prog.funcs[i]?=Tryd.prog.funcs[i]?:=by
 show ((Tryd.funcs.setIfInBounds 19 Lead.f19).setIfInBounds 32 Lead.f32)[i]?=Tryd.funcs[i]?
 rw [Array.getElem?_setIfInBounds_ne (by omega),Array.getElem?_setIfInBounds_ne (by omega)]
@[simp] theorem Lead.func19:Lead.prog.funcs[19]?=some Lead.f19:=by
 show ((Tryd.funcs.setIfInBounds 19 Lead.f19).setIfInBounds 32 Lead.f32)[19]?=_
 have h:Tryd.funcs[19]?=some Tryd.f19:=Tryd.func19
 rw [Array.getElem?_setIfInBounds_ne (by omega),Array.getElem?_setIfInBounds_self_of_lt (Array.getElem?_eq_some_iff.1 h).1]
@[simp] theorem Lead.func32:Lead.prog.funcs[32]?=some Lead.f32:=by
 show ((Tryd.funcs.setIfInBounds 19 Lead.f19).setIfInBounds 32 Lead.f32)[32]?=_
 have h:Tryd.funcs[32]?=some Tryd.f32:=Tryd.func32
 rw [Array.getElem?_setIfInBounds_self_of_lt (by rw [Array.size_setIfInBounds];exact (Array.getElem?_eq_some_iff.1 h).1)]
@[simp] theorem Lead.ntmps19:Lead.f19.ntmps=67:=Tryd.ntmps19
@[simp] theorem Lead.results19:Lead.f19.results=#[ResultVar.tmp 8]:=Tryd.results19
@[simp] theorem Lead.params19:Lead.f19.params=#[33,3,3,22]:=Tryd.params19
@[simp] theorem Lead.nfree19:Lead.f19.nfree=0:=Tryd.nfree19
@[simp] theorem Lead.ntmps32:Lead.f32.ntmps=35:=Tryd.ntmps32
@[simp] theorem Lead.results32:Lead.f32.results=#[ResultVar.tmp 6]:=Tryd.results32
@[simp] theorem Lead.params32:Lead.f32.params=#[99,100,3]:=Tryd.params32
@[simp] theorem Lead.nfree32:Lead.f32.nfree=0:=Tryd.nfree32
@[simp] theorem Lead.tabs:Lead.prog.toTables=Tryd.prog.toTables:=rfl
theorem Lead.g_und (T:Tables)(F F':Array Func)(t:TypeId): Program.underlying ⟨T,F⟩ t=Program.underlying ⟨T,F'⟩ t:=rfl
theorem Lead.g_depth (T:Tables)(F F':Array Func): Program.depth ⟨T,F⟩=Program.depth ⟨T,F'⟩:=rfl
theorem Lead.g_eq (T:Tables)(F F':Array Func): ∀ (n:Nat) (t:TypeId),Program.eqGuardType ⟨T,F⟩ n t=Program.eqGuardType ⟨T,F'⟩ n t:=by
 intro n
 induction n with
 | zero=>intro t;rfl
 | succ n ih =>
   intro t
   simp only [Program.eqGuardType,ih]
   rfl
theorem Lead.g_typeInfo (T:Tables)(F F':Array Func)(t:TypeId)(w:World): Sem.run ⟨T,F⟩ (Go.typeInfo t) w=Sem.run ⟨T,F'⟩ (Go.typeInfo t) w:=by
 show Sem.run ⟨T,F⟩ (match T.info? t with|some i=>Sem.pure i|none=>stuck "no such type") w=Sem.run ⟨T,F'⟩ (match T.info? t with|some i=>Sem.pure i|none=>stuck "no such type") w
 cases T.info? t <;> rfl
theorem Lead.g_sizeOf (T:Tables)(F F':Array Func)(t:TypeId)(w:World): Sem.run ⟨T,F⟩ (Go.sizeOf t) w=Sem.run ⟨T,F'⟩ (Go.sizeOf t) w:=by
 show Sem.run ⟨T,F⟩ ((match T.info? t with|some i=>Sem.pure i|none=>stuck "no such type") >>= fun i=>Sem.pure i.size) w=Sem.run ⟨T,F'⟩ ((match T.info? t with|some i=>Sem.pure i|none=>stuck "no such type") >>= fun i=>Sem.pure i.size) w
 cases T.info? t <;> rfl
theorem Lead.g_runUnderlying (T:Tables)(F F':Array Func)(t:TypeId)(w:World): Sem.run ⟨T,F⟩ (Go.underlying t) w=Sem.run ⟨T,F'⟩ (Go.underlying t) w:=by
 show Sem.run ⟨T,F⟩ (match Program.underlying ⟨T,F⟩ t with|some i=>Sem.pure i|none=>stuck "no such type") w=Sem.run ⟨T,F'⟩ (match Program.underlying ⟨T,F'⟩ t with|some i=>Sem.pure i|none=>stuck "no such type") w
 rw [Lead.g_und T F F']
 cases Program.underlying ⟨T,F'⟩ t <;> rfl
theorem Lead.g_isAgg (T:Tables)(F F':Array Func)(t:TypeId)(w:World): Sem.run ⟨T,F⟩ (Go.isAgg t) w=Sem.run ⟨T,F'⟩ (Go.isAgg t) w:=by
 show Sem.run ⟨T,F⟩ ((match Program.underlying ⟨T,F⟩ t with|some i=>Sem.pure i|none=>stuck "no such type") >>= fun d=>match d with|.struct _|.array _ _=>Sem.pure true|_=>Sem.pure false) w=Sem.run ⟨T,F'⟩ ((match Program.underlying ⟨T,F'⟩ t with|some i=>Sem.pure i|none=>stuck "no such type") >>= fun d=>match d with|.struct _|.array _ _=>Sem.pure true|_=>Sem.pure false) w
 rw [Lead.g_und T F F']
 cases Program.underlying ⟨T,F'⟩ t with
 | none=>rfl
 | some d=>cases d <;> rfl
theorem Lead.g_zeroValue (T:Tables)(F F':Array Func)(t:TypeId)(w:World): Sem.run ⟨T,F⟩ (Go.zeroValue t) w=Sem.run ⟨T,F'⟩ (Go.zeroValue t) w:=by
 show Sem.run ⟨T,F⟩ ((match T.info? t with|some i=>Sem.pure i|none=>stuck "no such type") >>= fun i=>match i.zero with|some v=>Sem.pure v|none=>unsupported (.resourceLimit "a value of more than 2^22 cells")) w=Sem.run ⟨T,F'⟩ ((match T.info? t with|some i=>Sem.pure i|none=>stuck "no such type") >>= fun i=>match i.zero with|some v=>Sem.pure v|none=>unsupported (.resourceLimit "a value of more than 2^22 cells")) w
 cases T.info? t with
 | none=>rfl
 | some i =>
   show Sem.run ⟨T,F⟩ (match i.zero with|some v=>Sem.pure v|none=>unsupported (.resourceLimit "a value of more than 2^22 cells")) w=Sem.run ⟨T,F'⟩ (match i.zero with|some v=>Sem.pure v|none=>unsupported (.resourceLimit "a value of more than 2^22 cells")) w
   cases i.zero <;> rfl
@[simp] theorem Lead.und (t:TypeId): Lead.prog.underlying t=Tryd.prog.underlying t:=Lead.g_und Tryd.progTables _ _ t
@[simp] theorem Lead.depth:Lead.prog.depth=Tryd.prog.depth:=Lead.g_depth Tryd.progTables _ _
@[simp] theorem Lead.eq (n:Nat)(t:TypeId): Lead.prog.eqGuardType n t=Tryd.prog.eqGuardType n t:=Lead.g_eq Tryd.progTables _ _ n t
@[simp] theorem Lead.typeInfo (t:TypeId)(w:World): Sem.run Lead.prog (Go.typeInfo t) w=Sem.run Tryd.prog (Go.typeInfo t) w:=Lead.g_typeInfo Tryd.progTables _ _ t w
@[simp] theorem Lead.sizeOf (t:TypeId)(w:World): Sem.run Lead.prog (Go.sizeOf t) w=Sem.run Tryd.prog (Go.sizeOf t) w:=Lead.g_sizeOf Tryd.progTables _ _ t w
@[simp] theorem Lead.runUnderlying (t:TypeId)(w:World): Sem.run Lead.prog (Go.underlying t) w=Sem.run Tryd.prog (Go.underlying t) w:=Lead.g_runUnderlying Tryd.progTables _ _ t w
@[simp] theorem Lead.isAgg (t:TypeId)(w:World): Sem.run Lead.prog (Go.isAgg t) w=Sem.run Tryd.prog (Go.isAgg t) w:=Lead.g_isAgg Tryd.progTables _ _ t w
@[simp] theorem Lead.zeroValue (t:TypeId)(w:World): Sem.run Lead.prog (Go.zeroValue t) w=Sem.run Tryd.prog (Go.zeroValue t) w:=Lead.g_zeroValue Tryd.progTables _ _ t w
theorem Lead.call (f:FuncId)(fn:Func)(h:Lead.prog.funcs[f]?=some fn)(h1:(fn.name == "runtime.NumGoroutine")=false)(h2:fn.body.isNone=false)(args:Array Value)(w:World): Sem.run Lead.prog (callFunc f args) w=.ok (.enter f args) w:=by
 unfold callFunc
 show Sem.run Lead.prog (match Lead.prog.funcs[f]? with|none=>stuck "call: no such function" | some fn=>_) w=_
 rw [h]
 show Sem.run Lead.prog (if (fn.name == "runtime.NumGoroutine")=true then _ else if fn.body.isNone=true then _ else Sem.pure (Next.enter f args)) w=_
 rw [h1,h2]
 rfl
@[simp] theorem Lead.call19 (args:Array Value)(w:World): Sem.run Lead.prog (callFunc 19 args) w=.ok (.enter 19 args) w:=Lead.call 19 Lead.f19 Lead.func19 (by kernel_rfl) rfl args w
@[simp] theorem Lead.call32 (args:Array Value)(w:World): Sem.run Lead.prog (callFunc 32 args) w=.ok (.enter 32 args) w:=Lead.call 32 Lead.f32 Lead.func32 (by kernel_rfl) rfl args w
@[simp] theorem Lead.func2:Lead.prog.funcs[2]?=some Tryd.f2:=(Lead.funcs_ne (by decide) (by decide)).trans Tryd.func2
@[simp] theorem Lead.call2 (args:Array Value)(w:World): Sem.run Lead.prog (callFunc 2 args) w=.ok (.enter 2 args) w:=Lead.call 2 Tryd.f2 Lead.func2 (by kernel_rfl) (by kernel_rfl) args w
@[simp] theorem Lead.func3:Lead.prog.funcs[3]?=some Tryd.f3:=(Lead.funcs_ne (by decide) (by decide)).trans Tryd.func3
@[simp] theorem Lead.call3 (args:Array Value)(w:World): Sem.run Lead.prog (callFunc 3 args) w=.ok (.enter 3 args) w:=Lead.call 3 Tryd.f3 Lead.func3 (by kernel_rfl) (by kernel_rfl) args w
@[simp] theorem Lead.func4:Lead.prog.funcs[4]?=some Tryd.f4:=(Lead.funcs_ne (by decide) (by decide)).trans Tryd.func4
@[simp] theorem Lead.call4 (args:Array Value)(w:World): Sem.run Lead.prog (callFunc 4 args) w=.ok (.enter 4 args) w:=Lead.call 4 Tryd.f4 Lead.func4 (by kernel_rfl) (by kernel_rfl) args w
@[simp] theorem Lead.func5:Lead.prog.funcs[5]?=some Tryd.f5:=(Lead.funcs_ne (by decide) (by decide)).trans Tryd.func5
@[simp] theorem Lead.call5 (args:Array Value)(w:World): Sem.run Lead.prog (callFunc 5 args) w=.ok (.enter 5 args) w:=Lead.call 5 Tryd.f5 Lead.func5 (by kernel_rfl) (by kernel_rfl) args w
@[simp] theorem Lead.func6:Lead.prog.funcs[6]?=some Tryd.f6:=(Lead.funcs_ne (by decide) (by decide)).trans Tryd.func6
@[simp] theorem Lead.call6 (args:Array Value)(w:World): Sem.run Lead.prog (callFunc 6 args) w=.ok (.enter 6 args) w:=Lead.call 6 Tryd.f6 Lead.func6 (by kernel_rfl) (by kernel_rfl) args w
@[simp] theorem Lead.func7:Lead.prog.funcs[7]?=some Tryd.f7:=(Lead.funcs_ne (by decide) (by decide)).trans Tryd.func7
@[simp] theorem Lead.call7 (args:Array Value)(w:World): Sem.run Lead.prog (callFunc 7 args) w=.ok (.enter 7 args) w:=Lead.call 7 Tryd.f7 Lead.func7 (by kernel_rfl) (by kernel_rfl) args w
@[simp] theorem Lead.func8:Lead.prog.funcs[8]?=some Tryd.f8:=(Lead.funcs_ne (by decide) (by decide)).trans Tryd.func8
@[simp] theorem Lead.call8 (args:Array Value)(w:World): Sem.run Lead.prog (callFunc 8 args) w=.ok (.enter 8 args) w:=Lead.call 8 Tryd.f8 Lead.func8 (by kernel_rfl) (by kernel_rfl) args w
@[simp] theorem Lead.func9:Lead.prog.funcs[9]?=some Tryd.f9:=(Lead.funcs_ne (by decide) (by decide)).trans Tryd.func9
@[simp] theorem Lead.call9 (args:Array Value)(w:World): Sem.run Lead.prog (callFunc 9 args) w=.ok (.enter 9 args) w:=Lead.call 9 Tryd.f9 Lead.func9 (by kernel_rfl) (by kernel_rfl) args w
@[simp] theorem Lead.func10:Lead.prog.funcs[10]?=some Tryd.f10:=(Lead.funcs_ne (by decide) (by decide)).trans Tryd.func10
@[simp] theorem Lead.call10 (args:Array Value)(w:World): Sem.run Lead.prog (callFunc 10 args) w=.ok (.enter 10 args) w:=Lead.call 10 Tryd.f10 Lead.func10 (by kernel_rfl) (by kernel_rfl) args w
@[simp] theorem Lead.func11:Lead.prog.funcs[11]?=some Tryd.f11:=(Lead.funcs_ne (by decide) (by decide)).trans Tryd.func11
@[simp] theorem Lead.call11 (args:Array Value)(w:World): Sem.run Lead.prog (callFunc 11 args) w=.ok (.enter 11 args) w:=Lead.call 11 Tryd.f11 Lead.func11 (by kernel_rfl) (by kernel_rfl) args w
@[simp] theorem Lead.func12:Lead.prog.funcs[12]?=some Tryd.f12:=(Lead.funcs_ne (by decide) (by decide)).trans Tryd.func12
@[simp] theorem Lead.call12 (args:Array Value)(w:World): Sem.run Lead.prog (callFunc 12 args) w=.ok (.enter 12 args) w:=Lead.call 12 Tryd.f12 Lead.func12 (by kernel_rfl) (by kernel_rfl) args w
@[simp] theorem Lead.func13:Lead.prog.funcs[13]?=some Tryd.f13:=(Lead.funcs_ne (by decide) (by decide)).trans Tryd.func13
@[simp] theorem Lead.call13 (args:Array Value)(w:World): Sem.run Lead.prog (callFunc 13 args) w=.ok (.enter 13 args) w:=Lead.call 13 Tryd.f13 Lead.func13 (by kernel_rfl) (by kernel_rfl) args w
@[simp] theorem Lead.func14:Lead.prog.funcs[14]?=some Tryd.f14:=(Lead.funcs_ne (by decide) (by decide)).trans Tryd.func14
@[simp] theorem Lead.call14 (args:Array Value)(w:World): Sem.run Lead.prog (callFunc 14 args) w=.ok (.enter 14 args) w:=Lead.call 14 Tryd.f14 Lead.func14 (by kernel_rfl) (by kernel_rfl) args w
@[simp] theorem Lead.func15:Lead.prog.funcs[15]?=some Tryd.f15:=(Lead.funcs_ne (by decide) (by decide)).trans Tryd.func15
@[simp] theorem Lead.call15 (args:Array Value)(w:World): Sem.run Lead.prog (callFunc 15 args) w=.ok (.enter 15 args) w:=Lead.call 15 Tryd.f15 Lead.func15 (by kernel_rfl) (by kernel_rfl) args w
@[simp] theorem Lead.func16:Lead.prog.funcs[16]?=some Tryd.f16:=(Lead.funcs_ne (by decide) (by decide)).trans Tryd.func16
@[simp] theorem Lead.call16 (args:Array Value)(w:World): Sem.run Lead.prog (callFunc 16 args) w=.ok (.enter 16 args) w:=Lead.call 16 Tryd.f16 Lead.func16 (by kernel_rfl) (by kernel_rfl) args w
@[simp] theorem Lead.func17:Lead.prog.funcs[17]?=some Tryd.f17:=(Lead.funcs_ne (by decide) (by decide)).trans Tryd.func17
@[simp] theorem Lead.call17 (args:Array Value)(w:World): Sem.run Lead.prog (callFunc 17 args) w=.ok (.enter 17 args) w:=Lead.call 17 Tryd.f17 Lead.func17 (by kernel_rfl) (by kernel_rfl) args w
@[simp] theorem Lead.func18:Lead.prog.funcs[18]?=some Tryd.f18:=(Lead.funcs_ne (by decide) (by decide)).trans Tryd.func18
@[simp] theorem Lead.call18 (args:Array Value)(w:World): Sem.run Lead.prog (callFunc 18 args) w=.ok (.enter 18 args) w:=Lead.call 18 Tryd.f18 Lead.func18 (by kernel_rfl) (by kernel_rfl) args w
@[simp] theorem Lead.func20:Lead.prog.funcs[20]?=some Tryd.f20:=(Lead.funcs_ne (by decide) (by decide)).trans Tryd.func20
@[simp] theorem Lead.call20 (args:Array Value)(w:World): Sem.run Lead.prog (callFunc 20 args) w=.ok (.enter 20 args) w:=Lead.call 20 Tryd.f20 Lead.func20 (by kernel_rfl) (by kernel_rfl) args w
@[simp] theorem Lead.func21:Lead.prog.funcs[21]?=some Tryd.f21:=(Lead.funcs_ne (by decide) (by decide)).trans Tryd.func21
@[simp] theorem Lead.call21 (args:Array Value)(w:World): Sem.run Lead.prog (callFunc 21 args) w=.ok (.enter 21 args) w:=Lead.call 21 Tryd.f21 Lead.func21 (by kernel_rfl) (by kernel_rfl) args w
@[simp] theorem Lead.func22:Lead.prog.funcs[22]?=some Tryd.f22:=(Lead.funcs_ne (by decide) (by decide)).trans Tryd.func22
@[simp] theorem Lead.call22 (args:Array Value)(w:World): Sem.run Lead.prog (callFunc 22 args) w=.ok (.enter 22 args) w:=Lead.call 22 Tryd.f22 Lead.func22 (by kernel_rfl) (by kernel_rfl) args w
@[simp] theorem Lead.func23:Lead.prog.funcs[23]?=some Tryd.f23:=(Lead.funcs_ne (by decide) (by decide)).trans Tryd.func23
@[simp] theorem Lead.call23 (args:Array Value)(w:World): Sem.run Lead.prog (callFunc 23 args) w=.ok (.enter 23 args) w:=Lead.call 23 Tryd.f23 Lead.func23 (by kernel_rfl) (by kernel_rfl) args w
@[simp] theorem Lead.func24:Lead.prog.funcs[24]?=some Tryd.f24:=(Lead.funcs_ne (by decide) (by decide)).trans Tryd.func24
@[simp] theorem Lead.call24 (args:Array Value)(w:World): Sem.run Lead.prog (callFunc 24 args) w=.ok (.enter 24 args) w:=Lead.call 24 Tryd.f24 Lead.func24 (by kernel_rfl) (by kernel_rfl) args w
@[simp] theorem Lead.func25:Lead.prog.funcs[25]?=some Tryd.f25:=(Lead.funcs_ne (by decide) (by decide)).trans Tryd.func25
@[simp] theorem Lead.call25 (args:Array Value)(w:World): Sem.run Lead.prog (callFunc 25 args) w=.ok (.enter 25 args) w:=Lead.call 25 Tryd.f25 Lead.func25 (by kernel_rfl) (by kernel_rfl) args w
@[simp] theorem Lead.func26:Lead.prog.funcs[26]?=some Tryd.f26:=(Lead.funcs_ne (by decide) (by decide)).trans Tryd.func26
@[simp] theorem Lead.call26 (args:Array Value)(w:World): Sem.run Lead.prog (callFunc 26 args) w=.ok (.enter 26 args) w:=Lead.call 26 Tryd.f26 Lead.func26 (by kernel_rfl) (by kernel_rfl) args w
@[simp] theorem Lead.func27:Lead.prog.funcs[27]?=some Tryd.f27:=(Lead.funcs_ne (by decide) (by decide)).trans Tryd.func27
@[simp] theorem Lead.call27 (args:Array Value)(w:World): Sem.run Lead.prog (callFunc 27 args) w=.ok (.enter 27 args) w:=Lead.call 27 Tryd.f27 Lead.func27 (by kernel_rfl) (by kernel_rfl) args w
@[simp] theorem Lead.func28:Lead.prog.funcs[28]?=some Tryd.f28:=(Lead.funcs_ne (by decide) (by decide)).trans Tryd.func28
@[simp] theorem Lead.call28 (args:Array Value)(w:World): Sem.run Lead.prog (callFunc 28 args) w=.ok (.enter 28 args) w:=Lead.call 28 Tryd.f28 Lead.func28 (by kernel_rfl) (by kernel_rfl) args w
@[simp] theorem Lead.func29:Lead.prog.funcs[29]?=some Tryd.f29:=(Lead.funcs_ne (by decide) (by decide)).trans Tryd.func29
@[simp] theorem Lead.call29 (args:Array Value)(w:World): Sem.run Lead.prog (callFunc 29 args) w=.ok (.enter 29 args) w:=Lead.call 29 Tryd.f29 Lead.func29 (by kernel_rfl) (by kernel_rfl) args w
@[simp] theorem Lead.func30:Lead.prog.funcs[30]?=some Tryd.f30:=(Lead.funcs_ne (by decide) (by decide)).trans Tryd.func30
@[simp] theorem Lead.call30 (args:Array Value)(w:World): Sem.run Lead.prog (callFunc 30 args) w=.ok (.enter 30 args) w:=Lead.call 30 Tryd.f30 Lead.func30 (by kernel_rfl) (by kernel_rfl) args w
@[simp] theorem Lead.func31:Lead.prog.funcs[31]?=some Tryd.f31:=(Lead.funcs_ne (by decide) (by decide)).trans Tryd.func31
@[simp] theorem Lead.call31 (args:Array Value)(w:World): Sem.run Lead.prog (callFunc 31 args) w=.ok (.enter 31 args) w:=Lead.call 31 Tryd.f31 Lead.func31 (by kernel_rfl) (by kernel_rfl) args w
@[simp] theorem Lead.func33:Lead.prog.funcs[33]?=some Tryd.f33:=(Lead.funcs_ne (by decide) (by decide)).trans Tryd.func33
@[simp] theorem Lead.call33 (args:Array Value)(w:World): Sem.run Lead.prog (callFunc 33 args) w=.ok (.enter 33 args) w:=Lead.call 33 Tryd.f33 Lead.func33 (by kernel_rfl) (by kernel_rfl) args w
@[simp] theorem Lead.func34:Lead.prog.funcs[34]?=some Tryd.f34:=(Lead.funcs_ne (by decide) (by decide)).trans Tryd.func34
@[simp] theorem Lead.call34 (args:Array Value)(w:World): Sem.run Lead.prog (callFunc 34 args) w=.ok (.enter 34 args) w:=Lead.call 34 Tryd.f34 Lead.func34 (by kernel_rfl) (by kernel_rfl) args w
@[simp] theorem Lead.func35:Lead.prog.funcs[35]?=some Tryd.f35:=(Lead.funcs_ne (by decide) (by decide)).trans Tryd.func35
@[simp] theorem Lead.call35 (args:Array Value)(w:World): Sem.run Lead.prog (callFunc 35 args) w=.ok (.enter 35 args) w:=Lead.call 35 Tryd.f35 Lead.func35 (by kernel_rfl) (by kernel_rfl) args w
@[simp] theorem Lead.func36:Lead.prog.funcs[36]?=some Tryd.f36:=(Lead.funcs_ne (by decide) (by decide)).trans Tryd.func36
@[simp] theorem Lead.call36 (args:Array Value)(w:World): Sem.run Lead.prog (callFunc 36 args) w=.ok (.enter 36 args) w:=Lead.call 36 Tryd.f36 Lead.func36 (by kernel_rfl) (by kernel_rfl) args w
@[simp] theorem Lead.func37:Lead.prog.funcs[37]?=some Tryd.f37:=(Lead.funcs_ne (by decide) (by decide)).trans Tryd.func37
@[simp] theorem Lead.call37 (args:Array Value)(w:World): Sem.run Lead.prog (callFunc 37 args) w=.ok (.enter 37 args) w:=Lead.call 37 Tryd.f37 Lead.func37 (by kernel_rfl) (by kernel_rfl) args w
@[simp] theorem Lead.func38:Lead.prog.funcs[38]?=some Tryd.f38:=(Lead.funcs_ne (by decide) (by decide)).trans Tryd.func38
@[simp] theorem Lead.call38 (args:Array Value)(w:World): Sem.run Lead.prog (callFunc 38 args) w=.ok (.enter 38 args) w:=Lead.call 38 Tryd.f38 Lead.func38 (by kernel_rfl) (by kernel_rfl) args w
@[simp] theorem Lead.func39:Lead.prog.funcs[39]?=some Tryd.f39:=(Lead.funcs_ne (by decide) (by decide)).trans Tryd.func39
@[simp] theorem Lead.call39 (args:Array Value)(w:World): Sem.run Lead.prog (callFunc 39 args) w=.ok (.enter 39 args) w:=Lead.call 39 Tryd.f39 Lead.func39 (by kernel_rfl) (by kernel_rfl) args w
@[simp] theorem Lead.func40:Lead.prog.funcs[40]?=some Tryd.f40:=(Lead.funcs_ne (by decide) (by decide)).trans Tryd.func40
@[simp] theorem Lead.call40 (args:Array Value)(w:World): Sem.run Lead.prog (callFunc 40 args) w=.ok (.enter 40 args) w:=Lead.call 40 Tryd.f40 Lead.func40 (by kernel_rfl) (by kernel_rfl) args w
@[simp] theorem Lead.func41:Lead.prog.funcs[41]?=some Tryd.f41:=(Lead.funcs_ne (by decide) (by decide)).trans Tryd.func41
@[simp] theorem Lead.call41 (args:Array Value)(w:World): Sem.run Lead.prog (callFunc 41 args) w=.ok (.enter 41 args) w:=Lead.call 41 Tryd.f41 Lead.func41 (by kernel_rfl) (by kernel_rfl) args w
@[simp] theorem Lead.func42:Lead.prog.funcs[42]?=some Tryd.f42:=(Lead.funcs_ne (by decide) (by decide)).trans Tryd.func42
@[simp] theorem Lead.call42 (args:Array Value)(w:World): Sem.run Lead.prog (callFunc 42 args) w=.ok (.enter 42 args) w:=Lead.call 42 Tryd.f42 Lead.func42 (by kernel_rfl) (by kernel_rfl) args w
@[simp] theorem Lead.func43:Lead.prog.funcs[43]?=some Tryd.f43:=(Lead.funcs_ne (by decide) (by decide)).trans Tryd.func43
@[simp] theorem Lead.call43 (args:Array Value)(w:World): Sem.run Lead.prog (callFunc 43 args) w=.ok (.enter 43 args) w:=Lead.call 43 Tryd.f43 Lead.func43 (by kernel_rfl) (by kernel_rfl) args w
@[simp] theorem Lead.func50:Lead.prog.funcs[50]?=some Tryd.f50:=(Lead.funcs_ne (by decide) (by decide)).trans Tryd.func50
@[simp] theorem Lead.call50 (args:Array Value)(w:World): Sem.run Lead.prog (callFunc 50 args) w=.ok (.enter 50 args) w:=Lead.call 50 Tryd.f50 Lead.func50 (by kernel_rfl) (by kernel_rfl) args w
@[simp] theorem Lead.func51:Lead.prog.funcs[51]?=some Tryd.f51:=(Lead.funcs_ne (by decide) (by decide)).trans Tryd.func51
@[simp] theorem Lead.call51 (args:Array Value)(w:World): Sem.run Lead.prog (callFunc 51 args) w=.ok (.enter 51 args) w:=Lead.call 51 Tryd.f51 Lead.func51 (by kernel_rfl) (by kernel_rfl) args w
@[simp] theorem Lead.func53:Lead.prog.funcs[53]?=some Tryd.f53:=(Lead.funcs_ne (by decide) (by decide)).trans Tryd.func53
@[simp] theorem Lead.call53 (args:Array Value)(w:World): Sem.run Lead.prog (callFunc 53 args) w=.ok (.enter 53 args) w:=Lead.call 53 Tryd.f53 Lead.func53 (by kernel_rfl) (by kernel_rfl) args w
@[simp] theorem Lead.func54:Lead.prog.funcs[54]?=some Tryd.f54:=(Lead.funcs_ne (by decide) (by decide)).trans Tryd.func54
@[simp] theorem Lead.call54 (args:Array Value)(w:World): Sem.run Lead.prog (callFunc 54 args) w=.ok (.enter 54 args) w:=Lead.call 54 Tryd.f54 Lead.func54 (by kernel_rfl) (by kernel_rfl) args w
@[simp] theorem Lead.func59:Lead.prog.funcs[59]?=some Tryd.f59:=(Lead.funcs_ne (by decide) (by decide)).trans Tryd.func59
@[simp] theorem Lead.call59 (args:Array Value)(w:World): Sem.run Lead.prog (callFunc 59 args) w=.ok (.enter 59 args) w:=Lead.call 59 Tryd.f59 Lead.func59 (by kernel_rfl) (by kernel_rfl) args w
@[simp] theorem Lead.func62:Lead.prog.funcs[62]?=some Tryd.f62:=(Lead.funcs_ne (by decide) (by decide)).trans Tryd.func62
@[simp] theorem Lead.call62 (args:Array Value)(w:World): Sem.run Lead.prog (callFunc 62 args) w=.ok (.enter 62 args) w:=Lead.call 62 Tryd.f62 Lead.func62 (by kernel_rfl) (by kernel_rfl) args w
@[simp] theorem Lead.func63:Lead.prog.funcs[63]?=some Tryd.f63:=(Lead.funcs_ne (by decide) (by decide)).trans Tryd.func63
@[simp] theorem Lead.call63 (args:Array Value)(w:World): Sem.run Lead.prog (callFunc 63 args) w=.ok (.enter 63 args) w:=Lead.call 63 Tryd.f63 Lead.func63 (by kernel_rfl) (by kernel_rfl) args w
@[simp] theorem Lead.func64:Lead.prog.funcs[64]?=some Tryd.f64:=(Lead.funcs_ne (by decide) (by decide)).trans Tryd.func64
@[simp] theorem Lead.call64 (args:Array Value)(w:World): Sem.run Lead.prog (callFunc 64 args) w=.ok (.enter 64 args) w:=Lead.call 64 Tryd.f64 Lead.func64 (by kernel_rfl) (by kernel_rfl) args w
@[simp] theorem Lead.func65:Lead.prog.funcs[65]?=some Tryd.f65:=(Lead.funcs_ne (by decide) (by decide)).trans Tryd.func65
@[simp] theorem Lead.call65 (args:Array Value)(w:World): Sem.run Lead.prog (callFunc 65 args) w=.ok (.enter 65 args) w:=Lead.call 65 Tryd.f65 Lead.func65 (by kernel_rfl) (by kernel_rfl) args w
@[simp] theorem Lead.func66:Lead.prog.funcs[66]?=some Tryd.f66:=(Lead.funcs_ne (by decide) (by decide)).trans Tryd.func66
@[simp] theorem Lead.call66 (args:Array Value)(w:World): Sem.run Lead.prog (callFunc 66 args) w=.ok (.enter 66 args) w:=Lead.call 66 Tryd.f66 Lead.func66 (by kernel_rfl) (by kernel_rfl) args w
@[simp] theorem Lead.func67:Lead.prog.funcs[67]?=some Tryd.f67:=(Lead.funcs_ne (by decide) (by decide)).trans Tryd.func67
@[simp] theorem Lead.call67 (args:Array Value)(w:World): Sem.run Lead.prog (callFunc 67 args) w=.ok (.enter 67 args) w:=Lead.call 67 Tryd.f67 Lead.func67 (by kernel_rfl) (by kernel_rfl) args w
@[simp] theorem Lead.func68:Lead.prog.funcs[68]?=some Tryd.f68:=(Lead.funcs_ne (by decide) (by decide)).trans Tryd.func68
@[simp] theorem Lead.call68 (args:Array Value)(w:World): Sem.run Lead.prog (callFunc 68 args) w=.ok (.enter 68 args) w:=Lead.call 68 Tryd.f68 Lead.func68 (by kernel_rfl) (by kernel_rfl) args w
@[simp] theorem Lead.func74:Lead.prog.funcs[74]?=some Tryd.f74:=(Lead.funcs_ne (by decide) (by decide)).trans Tryd.func74
@[simp] theorem Lead.call74 (args:Array Value)(w:World): Sem.run Lead.prog (callFunc 74 args) w=.ok (.enter 74 args) w:=Lead.call 74 Tryd.f74 Lead.func74 (by kernel_rfl) (by kernel_rfl) args w
@[simp] theorem Lead.func75:Lead.prog.funcs[75]?=some Tryd.f75:=(Lead.funcs_ne (by decide) (by decide)).trans Tryd.func75
@[simp] theorem Lead.call75 (args:Array Value)(w:World): Sem.run Lead.prog (callFunc 75 args) w=.ok (.enter 75 args) w:=Lead.call 75 Tryd.f75 Lead.func75 (by kernel_rfl) (by kernel_rfl) args w
@[simp] theorem Lead.func76:Lead.prog.funcs[76]?=some Tryd.f76:=(Lead.funcs_ne (by decide) (by decide)).trans Tryd.func76
@[simp] theorem Lead.call76 (args:Array Value)(w:World): Sem.run Lead.prog (callFunc 76 args) w=.ok (.enter 76 args) w:=Lead.call 76 Tryd.f76 Lead.func76 (by kernel_rfl) (by kernel_rfl) args w
@[simp] theorem Lead.func77:Lead.prog.funcs[77]?=some Tryd.f77:=(Lead.funcs_ne (by decide) (by decide)).trans Tryd.func77
@[simp] theorem Lead.call77 (args:Array Value)(w:World): Sem.run Lead.prog (callFunc 77 args) w=.ok (.enter 77 args) w:=Lead.call 77 Tryd.f77 Lead.func77 (by kernel_rfl) (by kernel_rfl) args w
@[simp] theorem Lead.func78:Lead.prog.funcs[78]?=some Tryd.f78:=(Lead.funcs_ne (by decide) (by decide)).trans Tryd.func78
@[simp] theorem Lead.call78 (args:Array Value)(w:World): Sem.run Lead.prog (callFunc 78 args) w=.ok (.enter 78 args) w:=Lead.call 78 Tryd.f78 Lead.func78 (by kernel_rfl) (by kernel_rfl) args w
@[simp] theorem Lead.func79:Lead.prog.funcs[79]?=some Tryd.f79:=(Lead.funcs_ne (by decide) (by decide)).trans Tryd.func79
@[simp] theorem Lead.call79 (args:Array Value)(w:World): Sem.run Lead.prog (callFunc 79 args) w=.ok (.enter 79 args) w:=Lead.call 79 Tryd.f79 Lead.func79 (by kernel_rfl) (by kernel_rfl) args w
@[simp] theorem Lead.func80:Lead.prog.funcs[80]?=some Tryd.f80:=(Lead.funcs_ne (by decide) (by decide)).trans Tryd.func80
@[simp] theorem Lead.call80 (args:Array Value)(w:World): Sem.run Lead.prog (callFunc 80 args) w=.ok (.enter 80 args) w:=Lead.call 80 Tryd.f80 Lead.func80 (by kernel_rfl) (by kernel_rfl) args w
@[simp] theorem Lead.func81:Lead.prog.funcs[81]?=some Tryd.f81:=(Lead.funcs_ne (by decide) (by decide)).trans Tryd.func81
@[simp] theorem Lead.call81 (args:Array Value)(w:World): Sem.run Lead.prog (callFunc 81 args) w=.ok (.enter 81 args) w:=Lead.call 81 Tryd.f81 Lead.func81 (by kernel_rfl) (by kernel_rfl) args w
@[simp] theorem Lead.func82:Lead.prog.funcs[82]?=some Tryd.f82:=(Lead.funcs_ne (by decide) (by decide)).trans Tryd.func82
@[simp] theorem Lead.call82 (args:Array Value)(w:World): Sem.run Lead.prog (callFunc 82 args) w=.ok (.enter 82 args) w:=Lead.call 82 Tryd.f82 Lead.func82 (by kernel_rfl) (by kernel_rfl) args w
@[simp] theorem Lead.func83:Lead.prog.funcs[83]?=some Tryd.f83:=(Lead.funcs_ne (by decide) (by decide)).trans Tryd.func83
@[simp] theorem Lead.call83 (args:Array Value)(w:World): Sem.run Lead.prog (callFunc 83 args) w=.ok (.enter 83 args) w:=Lead.call 83 Tryd.f83 Lead.func83 (by kernel_rfl) (by kernel_rfl) args w
@[simp] theorem Lead.func84:Lead.prog.funcs[84]?=some Tryd.f84:=(Lead.funcs_ne (by decide) (by decide)).trans Tryd.func84
theorem Lead.ntmps84:Tryd.f84.ntmps=17:=Tryd.ntmps84
@[simp] theorem Lead.call84 (args:Array Value)(w:World): Sem.run Lead.prog (callFunc 84 args) w=.ok (.enter 84 args) w:=Lead.call 84 Tryd.f84 Lead.func84 (by kernel_rfl) (by kernel_rfl) args w
@[simp] theorem Lead.func104:Lead.prog.funcs[104]?=some Tryd.f104:=(Lead.funcs_ne (by decide) (by decide)).trans Tryd.func104
@[simp] theorem Lead.call104 (args:Array Value)(w:World): Sem.run Lead.prog (callFunc 104 args) w=.ok (.enter 104 args) w:=Lead.call 104 Tryd.f104 Lead.func104 (by kernel_rfl) (by kernel_rfl) args w
theorem Lead.of {t:TypeId}{d:Option TypeDesc}(h:Tryd.prog.underlying t=d): Lead.prog.underlying t=d:=(Lead.und t).trans h
end
section
open Go.Joins Go.ChangeShapes Go.WideShapes Go.RowKit Go.Deep
section
variable {H:Type} {enc:TypeId×Value→H} {P:Program} {w:World} {base:Nat} {spare:Nat→Bool} {held:Bool}
end
section
variable {H:Type} {enc:TypeId×Value→H} {P:Program} {w:World} {base:Nat} {spare:Nat→Bool} {held:Bool}
end
end
section
open Go.RowKit
theorem za5 {w:World}{a:Addr}{v:Value}(h:w.cell? a=some v): a.block<w.heap.size:=by
 rcases Nat.lt_or_ge a.block w.heap.size with hl|hl
 ·exact hl
 ·simp [World.cell?,Array.getElem?_eq_none hl] at h
def Rd (w:World)(A:Option Addr)(vs:List Value): Prop :=
 vs=[]∨∃ b off,A=some ⟨b,off,none⟩∧b<w.heap.size∧∀ i v,vs[i]?=some v→w.cell? ⟨b,off+i,none⟩=some v
theorem Rd.nil {w:World}{A:Option Addr}: Rd w A []:=.inl rfl
theorem Rd.below {w w':World}{A:Option Addr}{vs:List Value}(h:Rd w A vs)(hb:Below w.heap.size w w'): Rd w' A vs:=by
 rcases h with h|⟨b,off,hA,hlt,hc⟩
 ·exact .inl h
 ·exact .inr ⟨b,off,hA,Nat.lt_of_lt_of_le hlt hb.size,fun i v hv=>(hb.cell (p:=⟨b,off+i,none⟩) hlt).trans (hc i v hv)⟩
theorem Rd.at_ {w:World}{A:Option Addr}{vs:List Value}(h:Rd w A vs)(hne:0<vs.length): ∃ b off,A=some ⟨b,off,none⟩∧b<w.heap.size∧∀ i v,vs[i]?=some v→w.cell? ⟨b,off+i,none⟩=some v:=by
 rcases h with rfl|h
 ·simp at hne
 ·exact h
abbrev nums (k:IntKind)(xs:List Int): List Value:=xs.map (Value.int k)
theorem za9 {k:IntKind}{xs:List Int}{i:Nat}(h:i<xs.length): (nums k xs)[i]?=some (.int k (xs.getD i 0)):=by
 simp [nums,List.getD,List.getElem?_eq_getElem h]
end
section
open Go.RowKit
theorem Rd.of_own {w:World}{base:Nat}{e:TypeId}{A:Option Addr}{n c:Nat}{vs:List Value}(h:w.ownsRow base e 1 (.slice A n c) n vs): Rd w A vs:=by
 rcases h.2 with ⟨h1,h2⟩|⟨g,cap,cur,h1,hb,hg,hc⟩
 ·have hl:=h.1
  rw [h2] at hl
  exact .inl (List.eq_nil_of_length_eq_zero (by simpa using hl))
 ·simp only [Value.slice.injEq] at h1
  obtain ⟨rfl,_,rfl⟩:=h1
  refine .inr ⟨g,0,rfl,(Array.getElem?_eq_some_iff.1 hg).1,fun i v hv=>?_⟩
  have:=h.cells (g:=g) rfl i v hv
  have hadd:(Addr.mk g 0 none).add i=⟨g,0+i,none⟩:=by
   unfold Addr.add
   by_cases h:i=0 <;> simp [h]
  rwa [hadd] at this
theorem zdb {w:World}{base:Nat}{e:TypeId}{s:Nat}{v:Value}{n:Nat}{vs:List Value}(h:w.ownsRow base e s v n vs): ∃ A c,v=.slice A n c:=by
 rcases h.2 with ⟨h1,h2⟩|⟨g,cap,cur,h1,hb,hg,hc⟩
 ·subst h2;exact ⟨_,_,h1⟩
 ·exact ⟨_,_,h1⟩
section
variable {w w':World} {base:Nat} {e:TypeId} {s n:Nat} {v:Value} {xs:List Value}
theorem zit {B:Nat}{W:World}{o:Obj}(hown:w.ownsRow base e s v n xs)(hg:(w.alloc o).grownBy w' v.ownBlock)(h:Below B W w)(hB:B≤w.heap.size)(hb:B≤base): Below B W w' :=
 (h.alloc hB o).grown hg (by simp;omega) (fun k hk=>by have:=(hown.lt k hk).1;omega)
theorem zeo {B:Nat}{W:World}(hown:w.ownsRow base e s v n xs)(hg:w.grownBy w' v.ownBlock)(h:Below B W w)(hB:B≤w.heap.size)(hb:B≤base): Below B W w' :=
 h.grown hg hB (fun k hk=>by have:=(hown.lt k hk).1;omega)
theorem zay (w:World){a:Addr}{u:Value}{i:Nat}(h:i≠a.block): (w.setCell a u).heap[i]?=w.heap[i]?:=by
 simp [World.setCell,Array.getElem?_modify,Ne.symm h]
theorem zp7 {a:Addr}{u:Value}(h:w.ownsRow base e s v n xs)(hb:a.block<base): (w.setCell a u).ownsRow base e s v n xs:=by
 refine ⟨h.1,?_⟩
 rcases h.2 with h1|⟨g,cap,cur,h1,hbg,hg,hc⟩
 ·exact .inl h1
 ·exact .inr ⟨g,cap,cur,h1,hbg,(zay w (by omega)).trans hg,hc⟩
theorem zah (w:World)(a:Addr)(u:Value): (w.setCell a u).heap.size=w.heap.size:=by simp [World.setCell]
theorem zb5 {b i j:Nat}{u:Value}(h:i≠j): (w.setCell ⟨b,i,none⟩ u).cell? ⟨b,j,none⟩=w.cell? ⟨b,j,none⟩ :=
 World.cell?_setCell_other w ⟨b,i,none⟩ ⟨b,j,none⟩ u (fun e=>h (by injection e))
theorem zba {a:Addr}{u x:Value}(h:w.cell? a=some x): (w.setCell a u).cell? a=some u:=World.cell?_setCell_same' w a u (by rw [h];rfl)
theorem zaa {b c i j:Nat}{u:Value}(h:b≠c): (w.setCell ⟨b,i,none⟩ u).cell? ⟨c,j,none⟩=w.cell? ⟨c,j,none⟩ :=
 World.cell?_setCell_other w ⟨b,i,none⟩ ⟨c,j,none⟩ u (fun e=>h (by injection e))
end
theorem z2u:(Lead.prog.info? 3).map (fun i=>(i.zero,i.size,i.bytes))=some (some (.int .i64 0),1,8):=by kernel_rfl
end
section
open Go.RowKit
def rot (x:Int)(n:Nat): Int:=bits .or .u32 (x / 2 ^ n) (x * 2 ^ (32 - n) % 4294967296)
theorem zbh (a b:Int): bits .or .u32 a b=bits .or .u32 b a:=by
 show IntKind.u32.wrap ((BitVec.ofInt 32 a ||| BitVec.ofInt 32 b).toNat:Int)=IntKind.u32.wrap ((BitVec.ofInt 32 b ||| BitVec.ofInt 32 a).toNat:Int)
 rw [BitVec.or_comm]
theorem rot2 (x:Int): rot x 2=bits .or .u32 (x / 4) (x * 1073741824 % 4294967296):=rfl
theorem z58:bits BinOp.and IntKind.u64 (IntKind.u64.wrap (-2)) 31=30:=by decide
set_option maxHeartbeats 1000000 in
theorem z54 (x:Int)(w:World):
  Calls Lead.prog 83 #[.int .u32 x,.int .i64 2] w fun e w'=>e=.returned (.int .u32 (rot x 2))∧w=w':=by
 have hb:=z58
 have HR:=Lib.hid ((rot2 x).trans (zbh _ _))
 go_enter Lead.func83,Tryd.ntmps83
 go_wp2
 go_ret
 exact ⟨by rw [HR.out];rfl,rfl⟩
theorem rot6 (x:Int): rot x 6=bits .or .u32 (x / 64) (x * 67108864 % 4294967296):=rfl
theorem z57:bits BinOp.and IntKind.u64 (IntKind.u64.wrap (-6)) 31=26:=by decide
set_option maxHeartbeats 1000000 in
theorem z53 (x:Int)(w:World):
  Calls Lead.prog 83 #[.int .u32 x,.int .i64 6] w fun e w'=>e=.returned (.int .u32 (rot x 6))∧w=w':=by
 have hb:=z57
 have HR:=Lib.hid ((rot6 x).trans (zbh _ _))
 go_enter Lead.func83,Tryd.ntmps83
 go_wp2
 go_ret
 exact ⟨by rw [HR.out];rfl,rfl⟩
theorem rot7 (x:Int): rot x 7=bits .or .u32 (x / 128) (x * 33554432 % 4294967296):=rfl
theorem z56:bits BinOp.and IntKind.u64 (IntKind.u64.wrap (-7)) 31=25:=by decide
set_option maxHeartbeats 1000000 in
theorem z52 (x:Int)(w:World):
  Calls Lead.prog 83 #[.int .u32 x,.int .i64 7] w fun e w'=>e=.returned (.int .u32 (rot x 7))∧w=w':=by
 have hb:=z56
 have HR:=Lib.hid ((rot7 x).trans (zbh _ _))
 go_enter Lead.func83,Tryd.ntmps83
 go_wp2
 go_ret
 exact ⟨by rw [HR.out];rfl,rfl⟩
theorem z5r (x:Int): rot x 11=bits .or .u32 (x / 2048) (x * 2097152 % 4294967296):=rfl
theorem z42:bits BinOp.and IntKind.u64 (IntKind.u64.wrap (-11)) 31=21:=by decide
set_option maxHeartbeats 1000000 in
theorem z4o (x:Int)(w:World):
  Calls Lead.prog 83 #[.int .u32 x,.int .i64 11] w fun e w'=>e=.returned (.int .u32 (rot x 11))∧w=w':=by
 have hb:=z42
 have HR:=Lib.hid ((z5r x).trans (zbh _ _))
 go_enter Lead.func83,Tryd.ntmps83
 go_wp2
 go_ret
 exact ⟨by rw [HR.out];rfl,rfl⟩
theorem z5q (x:Int): rot x 13=bits .or .u32 (x / 8192) (x * 524288 % 4294967296):=rfl
theorem z41:bits BinOp.and IntKind.u64 (IntKind.u64.wrap (-13)) 31=19:=by decide
set_option maxHeartbeats 1000000 in
theorem z4n (x:Int)(w:World):
  Calls Lead.prog 83 #[.int .u32 x,.int .i64 13] w fun e w'=>e=.returned (.int .u32 (rot x 13))∧w=w':=by
 have hb:=z41
 have HR:=Lib.hid ((z5q x).trans (zbh _ _))
 go_enter Lead.func83,Tryd.ntmps83
 go_wp2
 go_ret
 exact ⟨by rw [HR.out];rfl,rfl⟩
theorem z5p (x:Int): rot x 17=bits .or .u32 (x / 131072) (x * 32768 % 4294967296):=rfl
theorem z40:bits BinOp.and IntKind.u64 (IntKind.u64.wrap (-17)) 31=15:=by decide
set_option maxHeartbeats 1000000 in
theorem z4m (x:Int)(w:World):
  Calls Lead.prog 83 #[.int .u32 x,.int .i64 17] w fun e w'=>e=.returned (.int .u32 (rot x 17))∧w=w':=by
 have hb:=z40
 have HR:=Lib.hid ((z5p x).trans (zbh _ _))
 go_enter Lead.func83,Tryd.ntmps83
 go_wp2
 go_ret
 exact ⟨by rw [HR.out];rfl,rfl⟩
theorem z5o (x:Int): rot x 18=bits .or .u32 (x / 262144) (x * 16384 % 4294967296):=rfl
theorem z4z:bits BinOp.and IntKind.u64 (IntKind.u64.wrap (-18)) 31=14:=by decide
set_option maxHeartbeats 1000000 in
theorem z4l (x:Int)(w:World):
  Calls Lead.prog 83 #[.int .u32 x,.int .i64 18] w fun e w'=>e=.returned (.int .u32 (rot x 18))∧w=w':=by
 have hb:=z4z
 have HR:=Lib.hid ((z5o x).trans (zbh _ _))
 go_enter Lead.func83,Tryd.ntmps83
 go_wp2
 go_ret
 exact ⟨by rw [HR.out];rfl,rfl⟩
theorem z5n (x:Int): rot x 19=bits .or .u32 (x / 524288) (x * 8192 % 4294967296):=rfl
theorem z4y:bits BinOp.and IntKind.u64 (IntKind.u64.wrap (-19)) 31=13:=by decide
set_option maxHeartbeats 1000000 in
theorem z4k (x:Int)(w:World):
  Calls Lead.prog 83 #[.int .u32 x,.int .i64 19] w fun e w'=>e=.returned (.int .u32 (rot x 19))∧w=w':=by
 have hb:=z4y
 have HR:=Lib.hid ((z5n x).trans (zbh _ _))
 go_enter Lead.func83,Tryd.ntmps83
 go_wp2
 go_ret
 exact ⟨by rw [HR.out];rfl,rfl⟩
theorem z5m (x:Int): rot x 22=bits .or .u32 (x / 4194304) (x * 1024 % 4294967296):=rfl
theorem z4x:bits BinOp.and IntKind.u64 (IntKind.u64.wrap (-22)) 31=10:=by decide
set_option maxHeartbeats 1000000 in
theorem z4j (x:Int)(w:World):
  Calls Lead.prog 83 #[.int .u32 x,.int .i64 22] w fun e w'=>e=.returned (.int .u32 (rot x 22))∧w=w':=by
 have hb:=z4x
 have HR:=Lib.hid ((z5m x).trans (zbh _ _))
 go_enter Lead.func83,Tryd.ntmps83
 go_wp2
 go_ret
 exact ⟨by rw [HR.out];rfl,rfl⟩
theorem z5l (x:Int): rot x 25=bits .or .u32 (x / 33554432) (x * 128 % 4294967296):=rfl
theorem z4w:bits BinOp.and IntKind.u64 (IntKind.u64.wrap (-25)) 31=7:=by decide
set_option maxHeartbeats 1000000 in
theorem z4i (x:Int)(w:World):
  Calls Lead.prog 83 #[.int .u32 x,.int .i64 25] w fun e w'=>e=.returned (.int .u32 (rot x 25))∧w=w':=by
 have hb:=z4w
 have HR:=Lib.hid ((z5l x).trans (zbh _ _))
 go_enter Lead.func83,Tryd.ntmps83
 go_wp2
 go_ret
 exact ⟨by rw [HR.out];rfl,rfl⟩
def rotI (x n:Int): Int:=rot x n.toNat
theorem zdo (x n:Int)(w:World)(h:n=2∨n=6∨n=7∨n=11∨n=13∨n=17∨n=18∨n=19∨n=22∨n=25):
  Calls Lead.prog 83 #[.int .u32 x,.int .i64 n] w fun e w'=>e=.returned (.int .u32 (rotI x n))∧w=w':=by
 rcases h with rfl|rfl|rfl|rfl|rfl|rfl|rfl|rfl|rfl|rfl
 ·exact z54 x w
 ·exact z53 x w
 ·exact z52 x w
 ·exact z4o x w
 ·exact z4n x w
 ·exact z4m x w
 ·exact z4l x w
 ·exact z4k x w
 ·exact z4j x w
 ·exact z4i x w
theorem zvw {P:Program}{f:FuncId}{args:Array Value}{w:World}{n:Nat}{v:Value}(h:Calls P f args (w.drewN n) fun e w'=>e=.returned v∧w.drewN n=w'):
  Calls P f args (w.drewN n) fun e w'=>e=.returned v∧∃ m,w'=w.drewN m:=h.mono fun _ _ ⟨he,hw⟩=>⟨he,n,hw.symm⟩
theorem zrn {P:Program}{f:FuncId}{args:Array Value}{w:World}{a n:Nat}{v:Value}(h:Calls P f args (w.drewN (a+n)) fun e w'=>e=.returned v∧w.drewN (a+n)=w'):
  Calls P f args (w.drewN (a+n)) fun e w'=>e=.returned v∧∃ m,w'=w.drewN (a+m):=h.mono fun _ _ ⟨he,hw⟩=>⟨he,n,hw.symm⟩
end
section
open Go.RowKit
theorem zas {B b:Nat}{W:World}(hb:B≤b): ∀ (vs:List Value) (o:Nat) {w:World},Below B W w→Below B W (w.setCells b o vs)
 | [],_,_,h=>h
 | v :: r,o,_,h=>zas hb r (o+1) (h.setCell (p:=⟨b,o,none⟩) hb v)
theorem zaq (b:Nat): ∀ (vs:List Value) (o:Nat) (w:World),(w.setCells b o vs).heap.size=w.heap.size
 | [],_,_=>rfl
 | v :: r,o,w=>by rw [World.setCells,zaq b r (o+1),zah]
theorem zb4 {P:Program}{fn:Func}{p:Tmp}{ty:TypeId}(h:fn.results=#[.cell p ty])(tmps:Array Value)(w:World)(b o:Nat)(cs:List Value)(d:TypeDesc)(hp:tmps.getD p undef=.pointer (some ⟨b,o,none⟩))(hc:w.rangeAt b o cs)(hu:P.underlying ty=some d)(hd:d.isRow=true)(hi:(P.info? ty).map (·.size)=some cs.length):
  (results fn tmps).run P w=.ok (.agg cs.toArray) w:=by
 have hp':tmps[p]?.getD undef=.pointer (some ⟨b,o,none⟩):=by simpa using hp
 simp [results,h,hp',asAddr,run_loadVar_mid w b o ty cs d hc hu hd hi]
theorem zgw (ws:List Int): ((ws.map (Value.int .u32)).toArray).all (·.oneCell')=true :=
 all_oneCell_toArray fun v hv=>by
  obtain ⟨x,_,rfl⟩:=List.mem_map.1 hv
  rfl
end
section
open Go.RowKit
def u32 (x:Int): Int:=IntKind.u32.wrap x
def xorU (a b:Int): Int:=bits .xor .u32 a b
def andU (a b:Int): Int:=bits .and .u32 a b
def orU (a b:Int): Int:=bits .or .u32 a b
def wd (bs:List Int)(i:Nat): Int :=
 orU (orU (orU (u32 (u32 (bs.getD (4 * i) 0) * 16777216)) (u32 (u32 (bs.getD (4 * i+1) 0) * 65536))) (u32 (u32 (bs.getD (4 * i+2) 0) * 256))) (u32 (bs.getD (4 * i+3) 0))
def zqq (bs:List Int): List Int:=(List.range 16).map (wd bs)
def sg0 (x:Int): Int:=xorU (xorU (rotI x 7) (rotI x 18)) (x / 8)
def sg1 (x:Int): Int:=xorU (xorU (rotI x 17) (rotI x 19)) (x / 1024)
def ze3 (bs:List Int): Nat→List Int
 | 0=>zqq bs
 | n+1=>ze3 bs n++[((ze3 bs n).getD n 0+sg0 ((ze3 bs n).getD (n+1) 0)+(ze3 bs n).getD (n+9) 0+sg1 ((ze3 bs n).getD (n+14) 0)) % 4294967296]
def ze4 (bs:List Int): List Int:=ze3 bs 48
theorem zqp (bs:List Int): (zqq bs).length=16:=by simp [zqq]
theorem zlw (bs:List Int)(n:Nat): (ze3 bs n).length=n+16:=by
 induction n with
 | zero=>exact zqp bs
 | succ n ih=>simp [ze3,ih,Nat.add_right_comm]
theorem zch (bs:List Int): (ze4 bs).length=64:=zlw bs 48
def zdu (w:World)(B:Nat)(l:List Int): Prop:=(∀ j,j<64→w.cell? ⟨B,j,none⟩=some (.int .u32 (l.getD j 0)))∧∀ j,w.frozen? ⟨B,j,none⟩=false
theorem zdu.push {w:World}{B:Nat}{l:List Int}(h:zdu w B l)(x:Int){k:Nat}(hk:l.length=k)(hl:k<64): zdu (w.setCell ⟨B,k,none⟩ (.int .u32 x)) B (l++[x]):=by
 refine ⟨fun j hj=>?_,fun j=>by rw [World.frozen?_setCell];exact h.2 j⟩
 by_cases hjk:j=k
 ·subst hjk
  rw [zba (h.1 j hj)]
  simp [List.getD,hk]
 ·rw [zb5 (Ne.symm hjk),h.1 j hj]
  congr 2
  simp only [List.getD]
  by_cases hlt:j<l.length
  ·rw [List.getElem?_append_left hlt]
  ·rw [List.getElem?_append_right (by omega),List.getElem?_eq_none (by omega),List.getElem?_eq_none (by simp;omega)]
theorem zdu.drew {w:World}{B:Nat}{l:List Int}(h:zdu w B l): zdu w.drew B l:=h
theorem zdu.drewN {w:World}{B:Nat}{l:List Int}(h:zdu w B l)(n:Nat): zdu (w.drewN n) B l:=h
theorem zdu.far {w:World}{B b o:Nat}{l:List Int}{v:Value}(h:zdu w B l)(hne:b≠B): zdu (w.setCell ⟨b,o,none⟩ v) B l :=
 ⟨fun j hj=>by rw [zaa hne];exact h.1 j hj,fun j=>by rw [World.frozen?_setCell];exact h.2 j⟩
def Arr (w:World)(B:Nat)(l:List Int): Prop:=(∀ j,j<l.length→w.cell? ⟨B,j,none⟩=some (.int .u32 (l.getD j 0)))∧∀ j,w.frozen? ⟨B,j,none⟩=false
theorem Arr.drew {w:World}{B:Nat}{l:List Int}(h:Arr w B l): Arr w.drew B l:=h
theorem Arr.drewN {w:World}{B:Nat}{l:List Int}(h:Arr w B l)(n:Nat): Arr (w.drewN n) B l:=h
theorem Arr.below {w w':World}{B b:Nat}{l:List Int}(h:Arr w B l)(hb:Below b w w')(hlt:B<b): Arr w' B l :=
 ⟨fun j hj=>(hb.cell (p:=⟨B,j,none⟩) hlt).trans (h.1 j hj),fun j=>(hb.frozen (p:=⟨B,j,none⟩) hlt).trans (h.2 j)⟩
theorem Arr.far {w:World}{B b o:Nat}{l:List Int}{v:Value}(h:Arr w B l)(hne:b≠B): Arr (w.setCell ⟨b,o,none⟩ v) B l :=
 ⟨fun j hj=>by rw [zaa hne];exact h.1 j hj,fun j=>by rw [World.frozen?_setCell];exact h.2 j⟩
theorem Arr.set {w:World}{B k:Nat}{l:List Int}(h:Arr w B l)(x:Int)(hk:k<l.length): Arr (w.setCell ⟨B,k,none⟩ (.int .u32 x)) B (l.set k x):=by
 refine ⟨fun j hj=>?_,fun j=>by rw [World.frozen?_setCell];exact h.2 j⟩
 rw [List.length_set] at hj
 by_cases hjk:j=k
 ·subst hjk
  rw [zba (h.1 j hj)]
  simp [List.getD,hj]
 ·rw [zb5 (Ne.symm hjk),h.1 j hj]
  simp [List.getD,List.getElem?_set_ne (Ne.symm hjk)]
end
section
open Go.RowKit
def z3g (w:World)(ws:List Int)(e:Ending)(w':World): Prop:=e=.returned (.agg (ws.map (Value.int .u32)).toArray)∧Below w.heap.size w w'
theorem zn8 {w:World}{B:Nat}{l:List Int}(h:zdu w B l)(hl:l.length=64): w.rangeAt B 0 (l.map (Value.int .u32)):=fun j v hv=>by
 have hj:j<l.length:=by
  have:=(List.getElem?_eq_some_iff.1 hv).1
  simpa using this
 rw [Nat.zero_add,h.1 j (by omega)]
 rw [List.getElem?_map,List.getElem?_eq_getElem hj] at hv
 simpa [List.getD,List.getElem?_eq_getElem hj] using hv
theorem z1f:(Lead.prog.info? 124).map (·.size)=some 64:=by kernel_rfl
theorem zwy {ws:List Int}(h:ws.length=64): (Lead.prog.info? 124).map (·.size)=some (ws.map (Value.int .u32)).length:=by rw [z1f];simp [h]
theorem zw0 {ws:List Int}(h:ws.length=64): (Lead.prog.info? 124).map (·.size)=some (ws.map (Value.int .u32)).toArray.size:=by rw [z1f];simp [h]
set_option maxRecDepth 100000 in
set_option maxHeartbeats 2000000 in
theorem zn5 (A:Option Addr)(c:Nat)(bs:List Int)(w:World)(hn:bs.length=64)(hx:Rd w A (nums .u8 bs)):
  Calls Lead.prog 82 #[.slice A 64 c] w (z3g w (ze4 bs)):=by
 have HN:=Lib.hid hn
 clear hn
 obtain ⟨b1,o1,rfl,l1,c1⟩:=hx.at_ (by simp [HN.out])
 have G:Hid (∀ wr,Below w.heap.size w wr→∀ j,j<64→wr.cell? ⟨b1,o1+j,none⟩=some (.int .u8 (bs.getD j 0))):=Lib.hid fun wr hB j hj=>(hB.cell (p:=⟨b1,o1+j,none⟩) l1).trans (c1 j _ (za9 (by rw [HN.out];exact hj)))
 clear hx c1
 go_enter Lead.func82,Tryd.ntmps82
 go_wp2_with fail
 go_loopw [4,10] (fun _ i wr=>∃ k:Nat,k≤16∧i=.int .i64 k∧zdu wr (w.heap.size+1) ((List.range k).map (wd bs))∧zdu wr w.heap.size []∧Below w.heap.size w wr) (fun _ i _=>16 - (intOf i).toNat)
 case atStart =>
  refine ⟨0,Nat.zero_le _,rfl,⟨fun j hj=>?_,fun j=>by simp [go_sem]⟩,⟨fun j hj=>?_,fun j=>by simp [go_sem]⟩,bal (bal brf _) _⟩
  ·rw [World.cell?_alloc_at _ _ _ _ (by simp)]
   show (List.replicate 64 (Value.int .u32 0)).toArray[j]?=_
   rw [List.getElem?_toArray,List.getElem?_replicate,if_pos hj]
   simp
  ·rw [World.cell?_alloc_past _ _ _ (by simp),World.cell?_alloc_at _ _ _ _ rfl]
   show (List.replicate 64 (Value.int .u32 0)).toArray[j]?=_
   rw [List.getElem?_toArray,List.getElem?_replicate,if_pos hj]
   simp
 case round =>
  obtain ⟨k,hk,rfl,hP,hR,hB⟩:=hrel
  have r0:(0:Int)≤(k:Int):=by omega
  by_cases hlt:k<16
  ·have g:=G.out wr hB
   have g0:=g (4 * k) (by omega)
   have g1:=g (4 * k+1) (by omega)
   have g2:=g (4 * k+2) (by omega)
   have g3:=g (4 * k+3) (by omega)
   have hxk:=hP.1 k (by omega)
   have fk:=hP.2 k
   have HP:=Lib.hid hP
   have HR:=Lib.hid hR
   clear hP hR g
   have e0:IntKind.i64.wrap (4 * (k:Int))=4 * (k:Int):=IntWalk.i64_in _ (by omega)
   have e1:IntKind.i64.wrap (4 * (k:Int)+1)=4 * (k:Int)+1:=IntWalk.i64_in _ (by omega)
   have e2:IntKind.i64.wrap (4 * (k:Int)+2)=4 * (k:Int)+2:=IntWalk.i64_in _ (by omega)
   have e3:IntKind.i64.wrap (4 * (k:Int)+3)=4 * (k:Int)+3:=IntWalk.i64_in _ (by omega)
   have n0:(4 * (k:Int)).toNat=4 * k:=by omega
   have n1:(4 * (k:Int)+1).toNat=4 * k+1:=by omega
   have n2:(4 * (k:Int)+2).toNat=4 * k+2:=by omega
   have n3:(4 * (k:Int)+3).toNat=4 * k+3:=by omega
   have p0:(0:Int)≤4 * (k:Int):=by omega
   have p1:(0:Int)≤4 * (k:Int)+1:=by omega
   have p2:(0:Int)≤4 * (k:Int)+2:=by omega
   have p3:(0:Int)≤4 * (k:Int)+3:=by omega
   have q0:4 * (k:Int)<64:=by omega
   have q1:4 * (k:Int)+1<64:=by omega
   have q2:4 * (k:Int)+2<64:=by omega
   have q3:4 * (k:Int)+3<64:=by omega
   have r1:(k:Int)<64:=by omega
   go_wp2_with fail
   go_still_tail 35,(by kernel_rfl)
   change wpList _ _ _ _ _ wr.drew
   clear e0 e1 e2 e3 n0 n1 n2 n3 p0 p1 p2 p3 q0 q1 q2 q3
   go_wp2_with fail
   refine ⟨⟨k+1,by omega,by go_num,?_,?_,hB.drew.setCell (by show _≤w.heap.size+1;omega) _⟩,by simp [intOf];omega⟩
   ·rw [List.range_succ,List.map_append]
    exact HP.out.drew.push (wd bs k) (by simp) (by omega)
   ·exact (HR.out.far (by omega)).drew
  ·have HP:zdu wr (w.heap.size+1) (ze3 bs 0):=by
    have e:k=16:=by omega
    rw [e] at hP
    exact hP
   have hge:(16:Int)≤(k:Int):=by omega
   have HR:=hR
   clear hP hR G
   go_wp2_with fail
   go_loopw [5] (fun i wr=>∃ n:Nat,n≤48∧i=.int .i64 ((n:Int)+16)∧zdu wr (w.heap.size+1) (ze3 bs n)∧zdu wr w.heap.size []∧Below w.heap.size w wr) (fun i _=>64 - (intOf i).toNat)
   case atStart=>exact ⟨0,by omega,rfl,HP,HR,hB⟩
   case round =>
    obtain ⟨n,hn,rfl,hP,hR,hB⟩:=hrel
    by_cases hlt:n<48
    ·have g0:=hP.1 n (by omega)
     have g1:=hP.1 (n+1) (by omega)
     have g9:=hP.1 (n+9) (by omega)
     have g14:=hP.1 (n+14) (by omega)
     have gx:=hP.1 (n+16) (by omega)
     have fx:=hP.2 (n+16)
     have HP:=Lib.hid hP
     have HR:=Lib.hid hR
     clear hP hR
     have r0:(0:Int)≤(n:Int):=by omega
     have r1:(n:Int)<48:=by omega
     have m1:(n:Int)+16 - 15=(n:Int)+1:=by omega
     have m2:(n:Int)+16 - 2=(n:Int)+14:=by omega
     have m3:(n:Int)+16 - 16=(n:Int):=by omega
     have m4:(n:Int)+16 - 7=(n:Int)+9:=by omega
     have e1:IntKind.i64.wrap ((n:Int)+1)=(n:Int)+1:=IntWalk.i64_in _ (by omega)
     have e2:IntKind.i64.wrap ((n:Int)+14)=(n:Int)+14:=IntWalk.i64_in _ (by omega)
     have e3:IntKind.i64.wrap (n:Int)=(n:Int):=IntWalk.i64_in _ (by omega)
     have e4:IntKind.i64.wrap ((n:Int)+9)=(n:Int)+9:=IntWalk.i64_in _ (by omega)
     have n1:((n:Int)+1).toNat=n+1:=by omega
     have n2:((n:Int)+14).toNat=n+14:=by omega
     have n4:((n:Int)+9).toNat=n+9:=by omega
     have n5:((n:Int)+16).toNat=n+16:=by omega
     have p1:(0:Int)≤(n:Int)+1:=by omega
     have p2:(0:Int)≤(n:Int)+14:=by omega
     have p4:(0:Int)≤(n:Int)+9:=by omega
     have p5:(0:Int)≤(n:Int)+16:=by omega
     have q1:(n:Int)+1<64:=by omega
     have q2:(n:Int)+14<64:=by omega
     have q3:(n:Int)<64:=by omega
     have q4:(n:Int)+9<64:=by omega
     have q5:(n:Int)+16<64:=by omega
     go_wp2_with fail
     go_quiet (fail)
     go_wp2_with fail
     refine (zdo _ _ _ (by omega)).mono ?_;rintro e w' ⟨rfl,rfl⟩
     go_wp2_with fail
     refine (zdo _ _ _ (by omega)).mono ?_;rintro e w' ⟨rfl,rfl⟩
     go_wp2_with fail
     refine (zdo _ _ _ (by omega)).mono ?_;rintro e w' ⟨rfl,rfl⟩
     go_wp2_with fail
     refine (zdo _ _ _ (by omega)).mono ?_;rintro e w' ⟨rfl,rfl⟩
     go_wp2_with fail
     have HP2:Hid (zdu (wr.drewN nq) (w.heap.size+1) (ze3 bs n)):=Lib.hid (HP.out.drewN nq)
     have HR2:Hid (zdu (wr.drewN nq) w.heap.size []):=Lib.hid (HR.out.drewN nq)
     have hB2:=bdrN hB nq
     have k0:(wr.drewN nq).cell? ⟨w.heap.size+1,n,none⟩=_:=g0
     have k9:(wr.drewN nq).cell? ⟨w.heap.size+1,n+9,none⟩=_:=g9
     have kx:(wr.drewN nq).cell? ⟨w.heap.size+1,n+16,none⟩=_:=gx
     have kf:(wr.drewN nq).frozen? ⟨w.heap.size+1,n+16,none⟩=false:=fx
     clear g0 g1 g9 g14 gx fx HP HR hB
     generalize wr.drewN nq=w2 at HP2 HR2 hB2 k0 k9 kx kf ⊢
     go_still_tail 15,(by kernel_rfl)
     change wpList _ _ _ _ _ w2.drew
     clear e1 e2 e3 e4 n1 n2 n4 p1 p2 p4 q1 q2 q3 q4 m1 m2 m3 m4
     go_wp2_with fail
     refine ⟨⟨n+1,by omega,by go_num,?_,(HR2.out.far (by omega)).drew,(hB2.setCell (by show _≤w.heap.size+1;omega) _).drew⟩,by simp [intOf];omega⟩
     exact (HP2.out.push _ (zlw bs n) (by omega)).drew
    ·have hge:(48:Int)≤(n:Int):=by omega
     have hP':zdu wr (w.heap.size+1) (ze4 bs):=by
      have e:n=48:=by omega
      rw [e] at hP
      exact hP
     have HG:=Lib.hid (zn8 hP' (zch bs))
     have HT:Hid (wr.there w.heap.size 0 ((ze4 bs).map (Value.int .u32)).toArray.size):=Lib.hid fun j hj=>by
      have hj':j<64:=by simpa [zch] using hj
      rw [Nat.zero_add]
      exact ⟨by rw [hR.1 j hj'];rfl,hR.2 j⟩
     clear hP hR hP'
     go_wp2_with (first
      | (with_reducible show wpList _ _ _ ({ dst:=_,op:=Op.load 124 _,type:=_,pos:=_,after:=_,guard:=_ } :: _) _ _;refine wpList_load_mid rfl 124 _ rfl (w.heap.size+1) 0 rfl _ _ HG.out (Lead.of Tryd.underlying124) rfl (zwy (zch bs)) ?_)
      | (with_reducible show wpList _ _ _ ({ dst:=_,op:=Op.store 124 _ _,type:=_,pos:=_,after:=_,guard:=_ } :: _) _ _;refine wpList_store_mid rfl 124 _ _ rfl w.heap.size 0 _ rfl rfl HT.out (zw0 (zch bs)) (zgw (ze4 bs)) ?_))
     refine bodyPost_ret (v:=.agg ((ze4 bs).map (Value.int .u32)).toArray) (zb4 rfl _ _ w.heap.size 0 _ _ rfl (World.rangeAt_setCells_same _ _ _ _ (by simpa using HT.out)) (Lead.of Tryd.underlying124) rfl (zwy (zch bs))) rfl ⟨rfl,?_⟩
     exact zas (Nat.le_refl _) _ _ hB
end
section
open Go.RowKit
theorem len8 {l:List Int}(h:l.length=8): ∃ a b c d e f g i,l=[a,b,c,d,e,f,g,i]:=by
 match l,h with
 | [a,b,c,d,e,f,g,i],_=>exact ⟨a,b,c,d,e,f,g,i,rfl⟩
def kc:List Int:=[1116352408,1899447441,3049323471,3921009573,961987163,1508970993,2453635748,2870763221,3624381080,310598401,607225278,1426881987,1925078388,2162078206,2614888103,3248222580,3835390401,4022224774,264347078,604807628,770255983,1249150122,1555081692,1996064986,2554220882,2821834349,2952996808,3210313671,3336571891,3584528711,113926993,338241895,666307205,773529912,1294757372,1396182291,1695183700,1986661051,2177026350,2456956037,2730485921,2820302411,3259730800,3345764771,3516065817,3600352804,4094571909,275423344,430227734,506948616,659060556,883997877,958139571,1322822218,1537002063,1747873779,1955562222,2024104815,2227730452,2361852424,2428436474,2756734187,3204031479,3329325298]
def za2 (w:World): Prop:=∀ j,j<64→w.cell? ⟨0,j,none⟩=some (.int .u32 (kc.getD j 0))
theorem za2.below {w w':World}{B:Nat}(h:za2 w)(hb:Below B w w')(hB:0<B): za2 w':=fun j hj=>(hb.cell (p:=⟨0,j,none⟩) hB).trans (h j hj)
def z1w (l:List Int)(k w:Int): List Int :=
 match l with
 | [a,b,c,d,e,f,g,h] =>
   let t1:=h+xorU (xorU (rotI e 6) (rotI e 11)) (rotI e 25)+xorU (andU e f) (andU (xorU IntKind.u32.max e) g)+k+w
   let t2:=xorU (xorU (rotI a 2) (rotI a 13)) (rotI a 22)+xorU (xorU (andU a b) (andU a c)) (andU b c)
   [(t1+t2) % 4294967296,a,b,c,(d+t1) % 4294967296,e,f,g]
 | _=>[]
def runN (ws:List Int)(l:List Int): Nat→List Int
 | 0=>l
 | n+1=>z1w (runN ws l n) (kc.getD n 0) (ws.getD n 0)
theorem zu5 {l:List Int}(h:l.length=8)(k w:Int): (z1w l k w).length=8:=by
 obtain ⟨a,b,c,d,e,f,g,i,rfl⟩:=len8 h
 rfl
theorem zrj (ws l:List Int)(h:l.length=8)(n:Nat): (runN ws l n).length=8:=by
 induction n with
 | zero=>exact h
 | succ n ih=>exact zu5 ih _ _
def addN (l v:List Int): Nat→List Int
 | 0=>l
 | n+1=>(addN l v n).set n (((addN l v n).getD n 0+v.getD n 0) % 4294967296)
theorem zjt (l v:List Int)(n:Nat): (addN l v n).length=l.length:=by
 induction n with
 | zero=>rfl
 | succ n ih=>simp [addN,ih]
def blk (l bs:List Int): List Int:=addN l (runN (ze4 bs) l 64) 8
theorem zk3 {l:List Int}(h:l.length=8)(bs:List Int): (blk l bs).length=8:=by rw [blk,zjt,h]
theorem zpk {P:Program}{ops:Array Oper}{rest:List Oper}{op:Oper}{a:Act}{w:World}{Q:Exit→Act→World→Prop}(hgd:op.guard=none)(ty:TypeId)(x y:Operand)(ho:op.op=.store ty x y)(b o:Nat)(cells:Array Value)(hx:a.eval x=.pointer (some ⟨b,o,none⟩))(hy:a.eval y=.agg cells)(ht:w.there b o cells.size)(hi:(P.info? ty).map (·.size)=some cells.size)(h1:cells.all (·.oneCell')=true)(h:∀ w2,w2=w.setCells b o cells.toList→wpList P ops Q rest (a.put op.dst undef) w2): wpList P ops Q (op :: rest) a w :=
 wpList_store_mid hgd ty x y ho b o cells hx hy ht hi h1 (h _ rfl)
theorem zl9 {P:Program}{ops:Array Oper}{rest:List Oper}{op:Oper}{act:Act}{w:World}{Q:Exit→Act→World→Prop}(hgd:op.guard=none)(d s:Operand)(dT sT elem:TypeId)(ho:op.op=.call { callee:=.builtin .copy,args:=#[d,s],argTypes:=#[dT,sT] })(b o dLen dCap:Nat)(a:Addr)(sLen sCap:Nat)(cs:List Value)(hd:act.eval d=.slice (some ⟨b,o,none⟩) dLen dCap)(hs:act.eval s=.slice (some a) sLen sCap)(hu:P.underlying dT=some (.slice elem))(hi:(P.info? elem).map (·.size)=some 1)(hn:cs.length=Nat.min sLen dLen)(hsrc:∀ j v,cs[j]?=some v→w.cell? (a.add j)=some v)(hc:∀ j,j<cs.length→(w.cell? ⟨b,o+j,none⟩).isSome=true)(hf:∀ j,j<cs.length→w.frozen? ⟨b,o+j,none⟩=false)(h1:∀ v∈cs,v.oneCell'=true)(h:∀ w2,w2=w.setCells b o cs→wpList P ops Q rest (act.put op.dst (goInt cs.length)) w2): wpList P ops Q (op :: rest) act w :=
 wpList_plain hgd fun K hK=>by
  have hr:=fun ty=>run_copy_cells (P:=P) w dT sT ty elem b o dLen dCap a sLen sCap cs hu hi hn hsrc hc hf h1
  unfold Oper.wp execOp
  simp only [ho,resolve,invoke,builtin,Sem.run_bind,Sem.run_pure,Result.andThen_ok,List.map_toArray,List.map_cons,List.map_nil,hd,hs,hr]
  exact hK _ _ (h _ rfl)
theorem z5w {w w2:World}{B:Nat}{a b c d e f g i:Int}(h:Arr w B [a,b,c,d,e,f,g,i])(hw:w2=w.setCells B 1 [.int .u32 a,.int .u32 b,.int .u32 c,.int .u32 d,.int .u32 e,.int .u32 f,.int .u32 g]):
  Arr w2 B [a,a,b,c,d,e,f,g]∧Below B w w2∧w2.heap.size=w.heap.size:=by
 subst hw
 refine ⟨⟨fun j hj=>?_,fun j=>by rw [World.frozen?_setCells];exact h.2 j⟩,zas (Nat.le_refl _) _ _ (Below.refl _ _),by rw [zaq]⟩
 have hin:=World.cell?_setCells_in B [Value.int .u32 a,.int .u32 b,.int .u32 c,.int .u32 d,.int .u32 e,.int .u32 f,.int .u32 g] 1 w (fun j hj=>by
  rw [Nat.add_comm,h.1 (j+1) (by simp at hj ⊢;omega)];rfl)
 match j,hj with
 | 0,_ =>
   rw [World.cell?_setCells_out _ _ _ _ _ (fun _ _=>.inl (by simp))]
   exact h.1 0 (by simp)
 | 1,_=>exact hin 0 (by simp)
 | 2,_=>exact hin 1 (by simp)
 | 3,_=>exact hin 2 (by simp)
 | 4,_=>exact hin 3 (by simp)
 | 5,_=>exact hin 4 (by simp)
 | 6,_=>exact hin 5 (by simp)
 | 7,_=>exact hin 6 (by simp)
theorem zkn (w:World)(z:Array Value)(t:TypeId)(n:Nat)(hz:z.size=n): (w.alloc (.cells z t)).there w.heap.size 0 n:=fun j hj=>by
 rw [Nat.zero_add,World.cell?_alloc_at _ _ _ _ rfl]
 exact ⟨by rw [Array.getElem?_eq_getElem (by omega)];rfl,by simp [go_sem]⟩
theorem zwe (w w2:World)(z:Array Value)(t:TypeId)(ws:List Int)(hz:z.size=ws.length)(hw:w2=(w.alloc (.cells z t)).setCells w.heap.size 0 (ws.map (Value.int .u32)).toArray.toList):
  Arr w2 w.heap.size ws∧Below w.heap.size w w2∧w2.heap.size=w.heap.size+1:=by
 subst hw
 refine ⟨⟨fun j hj=>?_,fun j=>by rw [World.frozen?_setCells];simp [go_sem]⟩,zas (Nat.le_refl _) _ _ (bal brf _),by rw [zaq];simp⟩
 have:=World.rangeAt_setCells_same (w.alloc (.cells z t)) w.heap.size 0 (ws.map (Value.int .u32)) (by simpa using zkn w z t ws.length hz) j (.int .u32 (ws.getD j 0)) (by simp [List.getD,List.getElem?_eq_getElem hj])
 rwa [Nat.zero_add] at this
def z6c (w:World)(l:List Int)(e:Ending)(w':World): Prop:=e=.returned (.tuple #[.agg (l.map (Value.int .u32)).toArray,.int .i64 0])∧Below w.heap.size w w'
set_option maxRecDepth 100000 in
set_option maxHeartbeats 4000000 in
theorem zxz (A:Option Addr)(c:Nat)(h0 h1 h2 h3 h4 h5 h6 h7:Int)(bs:List Int)(w:World)(hn:bs.length=64)(hx:Rd w A (nums .u8 bs))(hK:za2 w):
  Calls Lead.prog 80 #[.agg #[.int .u32 h0,.int .u32 h1,.int .u32 h2,.int .u32 h3,.int .u32 h4,.int .u32 h5,.int .u32 h6,.int .u32 h7],.slice A 64 c] w (z6c w (blk [h0,h1,h2,h3,h4,h5,h6,h7] bs)):=by
 have HN:=Lib.hid hn
 have HK:=Lib.hid hK
 have HX:=Lib.hid hx
 clear hn hK hx
 go_enter Lead.func80,Tryd.ntmps80
 go_wp2_with fail
 refine (zn5 A c bs _ HN.out (HX.out.below (bal (bal brf _) _))).mono ?_;rintro e w1 ⟨rfl,hb1⟩
 have hsz:=hb1.size
 simp only [World.size_alloc] at hsz
 have hl1:w.heap.size<w1.heap.size:=by omega
 have hl2:w.heap.size+1<w1.heap.size:=by omega
 have hA1:Arr w1 w.heap.size [h0,h1,h2,h3,h4,h5,h6,h7]:=⟨fun j hj=>(hb1.cell (p:=⟨w.heap.size,j,none⟩) (by simp;omega)).trans (by
   rw [World.cell?_alloc_past _ _ _ (by simp),World.cell?_alloc_at _ _ _ _ rfl]
   match j,hj with
   | 0,_|1,_|2,_|3,_|4,_|5,_|6,_|7,_=>rfl),fun j=>(hb1.frozen (p:=⟨w.heap.size,j,none⟩) (by simp;omega)).trans (by simp [go_sem])⟩
 have hA2:Arr w1 (w.heap.size+1) [0,0,0,0,0,0,0,0]:=⟨fun j hj=>(hb1.cell (p:=⟨w.heap.size+1,j,none⟩) (by simp)).trans (by
   rw [World.cell?_alloc_at _ _ _ _ (by simp)]
   match j,hj with
   | 0,_|1,_|2,_|3,_|4,_|5,_|6,_|7,_=>rfl),fun j=>(hb1.frozen (p:=⟨w.heap.size+1,j,none⟩) (by simp)).trans (by simp [go_sem])⟩
 have hB1:Below w.heap.size w w1:=bgo (bal (bal brf _) _) hb1
 have HK1:=Lib.hid (HK.out.below hB1 (by have:=za5 (HK.out 0 (by omega));simp at this;omega))
 have a0:=hA1.1 0 (by simp)
 have a1:=hA1.1 1 (by simp)
 have a2:=hA1.1 2 (by simp)
 have a3:=hA1.1 3 (by simp)
 have a4:=hA1.1 4 (by simp)
 have a5:=hA1.1 5 (by simp)
 have a6:=hA1.1 6 (by simp)
 have a7:=hA1.1 7 (by simp)
 simp at a0 a1 a2 a3 a4 a5 a6 a7
 have HA1:=Lib.hid hA1
 have HA2:=Lib.hid hA2
 clear hA1 hA2 hb1 hsz HX HK
 dsimp only
 iterate 4 go_step
 refine zpk rfl 124 _ _ rfl w1.heap.size 0 _ rfl rfl ?ht (zw0 (zch bs)) (zgw (ze4 bs)) ?_
 case ht=>simpa [zch] using zkn w1 _ 124 64 rfl
 intro w2 hw2
 obtain ⟨hS2,hB2,hz2⟩:=zwe w1 w2 _ _ (ze4 bs) (by rw [zch];rfl) hw2
 clear hw2
 have k0:=(hB2.cell (p:=⟨w.heap.size,0,none⟩) hl1).trans a0
 have k1:=(hB2.cell (p:=⟨w.heap.size,1,none⟩) hl1).trans a1
 have k2:=(hB2.cell (p:=⟨w.heap.size,2,none⟩) hl1).trans a2
 have k3:=(hB2.cell (p:=⟨w.heap.size,3,none⟩) hl1).trans a3
 have k4:=(hB2.cell (p:=⟨w.heap.size,4,none⟩) hl1).trans a4
 have k5:=(hB2.cell (p:=⟨w.heap.size,5,none⟩) hl1).trans a5
 have k6:=(hB2.cell (p:=⟨w.heap.size,6,none⟩) hl1).trans a6
 have k7:=(hB2.cell (p:=⟨w.heap.size,7,none⟩) hl1).trans a7
 have HS2:=Lib.hid hS2
 have HA12:=Lib.hid (HA1.out.below hB2 hl1)
 have HA22:=Lib.hid (HA2.out.below hB2 hl2)
 have HK2:=Lib.hid (HK1.out.below hB2 (by omega))
 have hB3:=hB1.trans (hB2.mono (by omega))
 have HZ2:=Lib.hid hz2
 have hl3:w.heap.size<w2.heap.size:=by omega
 have hl4:w.heap.size+1<w2.heap.size:=by omega
 have hl5:w1.heap.size<w2.heap.size:=by omega
 clear hS2 hz2 a0 a1 a2 a3 a4 a5 a6 a7 HA1 HA2 HK1 hB2 hB1
 go_wp2_with fail
 go_loopw [8,9,10,11,12,21] (fun _ _ _ _ _ i wr=>∃ k:Nat,k≤64∧i=.int .i64 k∧Arr wr w2.heap.size (runN (ze4 bs) [h0,h1,h2,h3,h4,h5,h6,h7] k)∧w2.heap.size<wr.heap.size∧Below w2.heap.size w2 wr) (fun _ _ _ _ _ i _=>64 - (intOf i).toNat)
 case atStart =>
  refine ⟨0,Nat.zero_le _,rfl,⟨fun j hj=>?_,fun j=>by simp [go_sem]⟩,by simp,bal brf _⟩
  rw [World.cell?_alloc_at _ _ _ _ rfl]
  match j,hj with
  | 0,_|1,_|2,_|3,_|4,_|5,_|6,_|7,_=>rfl
 case round =>
  obtain ⟨k,hk,rfl,hA,hls,hB⟩:=hrel
  have r0:(0:Int)≤(k:Int):=by omega
  by_cases hlt:k<64
  ·have r1:(k:Int)<64:=by omega
   have HR:Hid (runN (ze4 bs) [h0,h1,h2,h3,h4,h5,h6,h7] (k+1)=z1w (runN (ze4 bs) [h0,h1,h2,h3,h4,h5,h6,h7] k) (kc.getD k 0) ((ze4 bs).getD k 0)):=Lib.hid rfl
   obtain ⟨v0,v1,v2,v3,v4,v5,v6,v7,hv⟩:=len8 (zrj (ze4 bs) [h0,h1,h2,h3,h4,h5,h6,h7] rfl k)
   rw [hv] at hA
   have HV:=Lib.hid hv
   have gK:=(HK2.out.below hB (by omega)) k hlt
   have gS:=(HS2.out.below hB hl5).1 k (by rw [zch];omega)
   have c0:=hA.1 0 (by simp)
   have c1:=hA.1 1 (by simp)
   have c2:=hA.1 2 (by simp)
   have c3:=hA.1 3 (by simp)
   have c4:=hA.1 4 (by simp)
   have c5:=hA.1 5 (by simp)
   have c6:=hA.1 6 (by simp)
   have c7:=hA.1 7 (by simp)
   simp at c0 c1 c2 c3 c4 c5 c6 c7
   have HA:=Lib.hid hA
   clear hA hv k0 k1 k2 k3 k4 k5 k6 k7
   go_wp2_with fail
   go_quiet (fail)
   rename Nat=>q1
   go_wp2_with fail
   go_quiet ((go_at_call 83;first|(with_reducible exact zvw (zdo _ _ _ (by omega)))|(with_reducible exact zrn (zdo _ _ _ (by omega)))))
   rename Nat=>q2
   go_wp2_with fail
   go_quiet ((go_at_call 83;first|(with_reducible exact zvw (zdo _ _ _ (by omega)))|(with_reducible exact zrn (zdo _ _ _ (by omega)))))
   go_wp2_with fail
   have HA3:Hid (Arr ((wr.drewN (q1+q2)).drewN nq) w2.heap.size [v0,v1,v2,v3,v4,v5,v6,v7]):=Lib.hid ((HA.out.drewN (q1+q2)).drewN nq)
   have hB3:Below w2.heap.size w2 ((wr.drewN (q1+q2)).drewN nq):=bdrN (bdrN hB _) nq
   have hls3:w2.heap.size<((wr.drewN (q1+q2)).drewN nq).heap.size:=hls
   clear c0 c1 c2 c3 c4 c5 c6 c7 gK gS HA hB hls
   generalize (wr.drewN (q1+q2)).drewN nq=w3 at HA3 hB3 hls3 ⊢
   go_still_tail 2,(by kernel_rfl)
   change wpList _ _ _ _ _ w3.drew
   refine zl9 rfl _ _ 127 127 74 rfl w2.heap.size 1 7 7 ⟨w2.heap.size,0,none⟩ 7 8 [.int .u32 v0,.int .u32 v1,.int .u32 v2,.int .u32 v3,.int .u32 v4,.int .u32 v5,.int .u32 v6] rfl rfl (Lead.of Tryd.underlying127) (by kernel_rfl) rfl ?_ ?_ ?_ ?_ ?_
   ·intro j v hv
    rw [Addr.add_mid,Nat.zero_add]
    have hA:=HA3.out.drew
    match j,hv with
    | 0,hv|1,hv|2,hv|3,hv|4,hv|5,hv|6,hv=>(rw [hA.1 _ (by simp)];simpa using hv)
   ·intro j hj
    rw [Nat.add_comm,HA3.out.drew.1 (j+1) (by simp at hj ⊢;omega)];rfl
   ·exact fun j _=>HA3.out.drew.2 _
   ·simp [Value.oneCell']
   ·intro w4 hw4
    obtain ⟨hA4,hB4,hz4⟩:=z5w HA3.out.drew hw4
    clear hw4
    have c0:=hA4.1 0 (by simp)
    have c4:=hA4.1 4 (by simp)
    have f0:=hA4.2 0
    have f4:=hA4.2 4
    simp at c0 c4
    have HA4:=Lib.hid hA4
    clear hA4
    go_wp2_with fail
    refine ⟨⟨k+1,by omega,by go_num,?_,?_,?_⟩,by simp [intOf];omega⟩
    ·rw [HR.out,HV.out]
     exact (HA4.out.set _ (by simp)).set _ (by simp)
    ·rw [zah,zah,hz4]
     exact hls3
    ·exact ((hB3.drew.trans hB4).setCell (Nat.le_refl _) _).setCell (Nat.le_refl _) _
  ·have hk64:k=64:=by omega
   rw [hk64] at hA
   have hge:(64:Int)≤(k:Int):=by omega
   have HV:=Lib.hid hA
   have hBw:Below w.heap.size w wr:=hB3.trans (hB.mono (by omega))
   have HH:=Lib.hid (HA12.out.below hB hl3)
   have HO:=Lib.hid (HA22.out.below hB hl4)
   have hl6:w.heap.size+1<wr.heap.size:=by omega
   clear hA hk64 k0 k1 k2 k3 k4 k5 k6 k7 HS2 HA12 HA22 HK2 hB3 HZ2 hB
   obtain ⟨w5,rfl⟩:∃ x:World,x=wr:=⟨_,rfl⟩
   go_wp2_with fail
   go_loopw [13,95] (fun _ i wr=>∃ n:Nat,n≤8∧i=.int .i64 n∧Arr wr w.heap.size (addN [h0,h1,h2,h3,h4,h5,h6,h7] (runN (ze4 bs) [h0,h1,h2,h3,h4,h5,h6,h7] 64) n)∧Arr wr w2.heap.size (runN (ze4 bs) [h0,h1,h2,h3,h4,h5,h6,h7] 64) ∧
    Arr wr (w.heap.size+1) [0,0,0,0,0,0,0,0]∧Below w.heap.size w wr) (fun _ i _=>8 - (intOf i).toNat)
   case atStart=>exact ⟨0,Nat.zero_le _,rfl,HH.out,HV.out,HO.out,hBw⟩
   case round =>
    obtain ⟨n,hn,rfl,hA,hV,hO,hB⟩:=hrel
    have r0:(0:Int)≤(n:Int):=by omega
    by_cases hlt:n<8
    ·have r1:(n:Int)<8:=by omega
     have gH:=hA.1 n (by rw [zjt];exact hlt)
     have gV:=hV.1 n (by rw [zrj _ _ rfl];exact hlt)
     have fH:=hA.2 n
     have HA:=Lib.hid hA
     have HV2:=Lib.hid hV
     have HO2:=Lib.hid hO
     clear hA hV hO HH HV HO
     go_wp2_with fail
     go_still_tail 8,(by kernel_rfl)
     change wpList _ _ _ _ _ wr.drew
     go_wp2_with fail
     refine ⟨⟨n+1,by omega,by go_num,?_,(HV2.out.far (by omega)).drew,(HO2.out.far (by omega)).drew,(hB.setCell (Nat.le_refl _) _).drew⟩,by simp [intOf];omega⟩
     exact (HA.out.set _ (by rw [zjt];exact hlt)).drew
    ·have hn8:n=8:=by omega
     rw [hn8] at hA
     have hge8:(8:Int)≤(n:Int):=by omega
     obtain ⟨x0,x1,x2,x3,x4,x5,x6,x7,hx⟩:=len8 (zk3 (l:=[h0,h1,h2,h3,h4,h5,h6,h7]) rfl bs)
     have hA':Arr wr w.heap.size [x0,x1,x2,x3,x4,x5,x6,x7]:=by rw [← hx];exact hA
     have HX:=Lib.hid hx
     have a0:=hA'.1 0 (by simp)
     have o0:=hO.1 0 (by simp)
     have z0:=hO.2 0
     have a1:=hA'.1 1 (by simp)
     have o1:=hO.1 1 (by simp)
     have z1:=hO.2 1
     have a2:=hA'.1 2 (by simp)
     have o2:=hO.1 2 (by simp)
     have z2:=hO.2 2
     have a3:=hA'.1 3 (by simp)
     have o3:=hO.1 3 (by simp)
     have z3:=hO.2 3
     have a4:=hA'.1 4 (by simp)
     have o4:=hO.1 4 (by simp)
     have z4:=hO.2 4
     have a5:=hA'.1 5 (by simp)
     have o5:=hO.1 5 (by simp)
     have z5:=hO.2 5
     have a6:=hA'.1 6 (by simp)
     have o6:=hO.1 6 (by simp)
     have z6:=hO.2 6
     have a7:=hA'.1 7 (by simp)
     have o7:=hO.1 7 (by simp)
     have z7:=hO.2 7
     simp at a0 a1 a2 a3 a4 a5 a6 a7 o0 o1 o2 o3 o4 o5 o6 o7
     have hl7:w.heap.size+1<wr.heap.size:=za5 o0
     clear hA hA' hV hO hn8 hx HH HV HO
     go_wp2_with fail
     rw [HX.out]
     refine bodyPost_ret (v:=.tuple #[.agg #[.int .u32 x0,.int .u32 x1,.int .u32 x2,.int .u32 x3,.int .u32 x4,.int .u32 x5,.int .u32 x6,.int .u32 x7],.int .i64 0]) ?_ rfl ⟨rfl,?_⟩
     ·simp [results,Tryd.results80,go_sem,o0,o1,o2,o3,o4,o5,o6,o7]
     ·exact (((((((hB.setCell (Nat.le_succ _) _).setCell (Nat.le_succ _) _).setCell (Nat.le_succ _) _).setCell (Nat.le_succ _) _).setCell (Nat.le_succ _) _).setCell (Nat.le_succ _) _).setCell (Nat.le_succ _) _).setCell (Nat.le_succ _) _
end
section
open Go.ChangeShapes Go.WideShapes Go.ChangeAt Go.RowKit
theorem own:ownKnob Tryd.prog.godebug=none:=by kernel_rfl
theorem z2r:laidOutB Tryd.prog=true:=by kernel_rfl
abbrev zoj {H:Type}: List (String×DataW H):=[("shallot/sha.constants",Rows.laid_shallot_sha_constants)]
theorem gK:Tryd.prog.globalNamed "shallot/sha.constants" = some 0:=by kernel_rfl
theorem tK:(Tryd.prog.globals[0]?).map (·.type)=some 124:=by kernel_rfl
theorem met0 (os:Os)(args:Array Value): laidMetH Tryd.prog zoj ((World.doorLaid Tryd.prog 400 os).forCall (fun _ _=>0) ⟨#[],args,[]⟩).memory :=
 laidMetH_of_parts3 (fuel:=8) (laidMet_of_run' 8 (by kernel_rfl) (by kernel_rfl)) (by kernel_rfl) (by kernel_rfl)
theorem z2f {W:World}(h:laidMetH Tryd.prog zoj W): za2 W:=by
 rw [MakeChecks.laidMetH_plain _ _ _ (by kernel_rfl)] at h
 obtain ⟨ps,⟨g0,t0,cs0,f0,p0,q0,hg0,ht0,hv0,hd0,hrest⟩,_⟩:=h
 obtain rfl:=Option.some.inj (gK.symm.trans hg0)
 obtain rfl:=Option.some.inj (tK.symm.trans ht0)
 obtain ⟨xs,m1,rfl,hx1,hlen,hn3,hel⟩:=DataW.trod_array Tryd.underlying124 hd0
 have c1:Tryd.prog.cellsOf 74=1:=by kernel_rfl
 intro j hj
 have h0:=hel j (by omega)
 rw [List.getElem?_eq_getElem (show j<xs.length by omega)] at h0
 obtain ⟨k,e1,e2,_⟩:=DataW.trod_int Tryd.underlying74 h0
 have hL:(Rows.laid_shallot_sha_constants:DataW Unit)=.agg (kc.map fun k=>.lit (.int .u32 k)):=rfl
 have h1:=(Prod.mk.inj hx1).1
 rw [hL] at h1
 have h2:=DataW.agg.inj h1
 have h3:(kc.map fun k=>(DataW.lit (.int .u32 k):DataW Unit))[j]?=(xs.map fun x=>x.fst)[j]?:=by rw [h2]
 have hkl:j<kc.length:=hj
 rw [List.getElem?_map,List.getElem?_map,List.getElem?_eq_getElem (show j<xs.length by omega),List.getElem?_eq_getElem hkl] at h3
 simp only [Option.map_some,Option.some.injEq] at h3
 rw [e2] at h3
 simp only [DataW.lit.injEq,Lit.int.injEq,true_and] at h3
 rw [World.var?_cell hg0 hv0 j]
 rw [c1,Nat.mul_one] at e1
 have h4:cs0.toList[j]?=some (.int .u32 k):=by
  have:=congrArg (fun l=>l[0]?) e1
  simpa using this
 rw [← Array.getElem?_toList,h4,← h3]
 simp [List.getD,hkl]
section
variable {H:Type} {enc:TypeId×Value→H}
theorem zgz {P:Program}(hl:laidOutB P=true){W W':World}(hb:Below W.heap.size W W'): ∀ {ts:List TypeId} {vs:List Value} {ds:List (DataW H)} {p:List MemPlace},
  (ts.all fun t=>P.readableRec t && decide (t<P.types.size))=true→DataW.TrodAll enc P W 0 (fun _=>true) true ts vs ds p→(∀ x∈p,x.block<W.heap.size) →
  DataW.TrodAll enc P W' 0 (fun b=>decide (b<W.heap.size)) true ts vs ds p
 | [],[],[],_,_,h,_=>h
 | t :: ts,v :: vs,d :: ds,_,hr,⟨p,q,h1,h2,e⟩,hlt=>by
   subst e
   simp only [List.all_cons,Bool.and_eq_true,decide_eq_true_eq] at hr
   exact ⟨p,q,Below.trod hl hr.1.1 hr.1.2 h1 hb (fun x hx=>hlt x (List.mem_append_left _ hx)),zgz hl hb hr.2 h2 (fun x hx=>hlt x (List.mem_append_right _ hx)),rfl⟩
 | [],_ :: _,_,_,_,h,_=>h.elim
 | [],[],_ :: _,_,_,h,_=>h.elim
 | _ :: _,[],_,_,_,h,_=>h.elim
 | _ :: _,_ :: _,[],_,_,h,_=>h.elim
theorem zjy {P:Program}{W:World}{b:Nat}{sp:Nat→Bool}{hd:Bool}: ∀ {ts:List TypeId} {vs:List Value} {ds:List (DataW H)} {p:List MemPlace},
  DataW.TrodAll enc P W b sp hd ts vs ds p→ds.length=ts.length
 | [],[],[],_,_=>rfl
 | _ :: _,_ :: _,_ :: _,_,⟨_,_,_,h2,_⟩=>by simp [zjy h2]
 | [],_ :: _,_,_,h=>h.elim
 | [],[],_ :: _,_,h=>h.elim
 | _ :: _,[],_,_,h=>h.elim
 | _ :: _,_ :: _,[],_,h=>h.elim
end
end
section
open Go.RowKit
end
section
open Go.RowKit
def Byt (xs:List Int): Prop:=∀ x∈xs,0≤x∧x≤255
theorem zu3 {xs ys:List Int}(hx:Byt xs)(hy:Byt ys)(h:strOfNums xs=strOfNums ys): xs=ys:=by
 have h1:xs.map (fun n=>UInt8.ofNat n.toNat)=ys.map (fun n=>UInt8.ofNat n.toNat):=by
  have:=congrArg (fun b:ByteArray=>b.data.toList) h
  simpa [strOfNums] using this
 have hl:xs.length=ys.length:=by simpa using congrArg List.length h1
 apply List.ext_getElem hl
 intro i hi1 hi2
 have h2:=congrArg (fun l=>l[i]?) h1
 simp [hi1,hi2] at h2
 have a:=hx _ (List.getElem_mem hi1)
 have b:=hy _ (List.getElem_mem hi2)
 have h3:=congrArg UInt8.toNat h2
 simp at h3
 omega
theorem zo4 {s t:ByteArray}(h:s.toList=t.toList): s=t:=by
 have h2:s.data.toList=t.data.toList:=by
  simpa [ByteArray.toList_eq] using h
 have:=Array.ext' h2
 cases s;cases t;simp_all
theorem zfu {A:Option Addr}{c:Nat}{xs:List Int}{w:World}(hx:Rd w A (nums .u8 xs)):
  ∃ s,s=strOfNums xs∧(convert 33 9 (.slice A xs.length c)).run Lead.prog w=.ok (.string s) w:=by
 refine ⟨_,rfl,?_⟩
 rcases Nat.eq_zero_or_pos xs.length with h0|h0
 ·have:xs=[]:=List.eq_nil_of_length_eq_zero h0
  subst this
  cases A with
  | none=>exact run_convert_bytes_nil w 33 5 (Lead.of Tryd.underlying33) (Lead.of Tryd.underlying5) 0 c 9 (Lead.of Tryd.underlying9)
  | some a =>
    show (convert 33 9 (.slice (some a) 0 c)).run Lead.prog w=_
    rw [run_convert_bytes_string w 33 9 5 (some a) 0 c (Lead.of Tryd.underlying33) (Lead.of Tryd.underlying5) (Lead.of Tryd.underlying9)]
    rfl
 ·obtain ⟨b,off,rfl,_,hc⟩:=hx.at_ (by simpa using h0)
  exact run_convert_bytes_arg w 33 5 (Lead.of Tryd.underlying33) (Lead.of Tryd.underlying5) b off xs.length c xs rfl (fun i hi=>hc i _ (za9 hi)) 9 (Lead.of Tryd.underlying9)
def zyk (w:World)(xs ys:List Int)(e:Ending)(w':World): Prop:=e=.returned (.bool (decide (xs=ys)))∧w=w'
theorem zri (A B:Option Addr)(n c m d:Nat)(xs ys:List Int)(w:World)(hn:xs.length=n)(hm:ys.length=m)(hx:Rd w A (nums .u8 xs))(hy:Rd w B (nums .u8 ys))(bx:Byt xs)(by_:Byt ys):
  Calls Lead.prog 16 #[.slice A n c,.slice B m d] w (zyk w xs ys):=by
 obtain ⟨s,hs,h1⟩:=zfu (c:=c) hx
 obtain ⟨t,ht,h2⟩:=zfu (c:=d) hy
 rw [hn] at h1
 rw [hm] at h2
 have HS:=Lib.hid hs
 have HT:=Lib.hid ht
 clear hs ht hn hm hx hy
 go_enter Lead.func16,Tryd.ntmps16
 go_wp2
 go_ret
 have e:(s.toList == t.toList)=decide (xs=ys):=by
  have HS:s=strOfNums xs:=HS
  have HT:t=strOfNums ys:=HT
  by_cases h:xs=ys
  ·subst h
   rw [HS,HT]
   simp
  ·have h3:s.toList≠t.toList:=by
    intro h4
    apply h
    apply zu3 bx by_
    rw [← HS,← HT]
    exact zo4 h4
   simp [h,h3]
 rw [e]
 exact ⟨rfl,rfl⟩
end
section
open Go.RowKit
def Brow (w:World)(B:Nat)(l:List Int): Prop:=(∀ j,j<l.length→w.cell? ⟨B,j,none⟩=some (.int .u8 (l.getD j 0)))∧∀ j,w.frozen? ⟨B,j,none⟩=false
theorem zbz:(Lead.prog.info? 5).map (fun i=>(i.zero,i.size,i.bytes))=some (some (.int .u8 0),1,1):=by kernel_rfl
theorem zku:(Lead.prog.info? 5).map (·.size)=some 1:=by kernel_rfl
def zci (n:Nat): Nat:=n+9+(64 - (n+9) % 64) % 64
theorem Brow.below {w w':World}{B b:Nat}{l:List Int}(h:Brow w B l)(hb:Below b w w')(hlt:B<b): Brow w' B l :=
 ⟨fun j hj=>(hb.cell (p:=⟨B,j,none⟩) hlt).trans (h.1 j hj),fun j=>(hb.frozen (p:=⟨B,j,none⟩) hlt).trans (h.2 j)⟩
theorem Brow.set {w:World}{B k:Nat}{l:List Int}(h:Brow w B l)(x:Int)(hk:k<l.length): Brow (w.setCell ⟨B,k,none⟩ (.int .u8 x)) B (l.set k x):=by
 refine ⟨fun j hj=>?_,fun j=>by rw [World.frozen?_setCell];exact h.2 j⟩
 rw [List.length_set] at hj
 by_cases hjk:j=k
 ·subst hjk
  rw [zba (h.1 j hj)]
  simp [List.getD,hj]
 ·rw [zb5 (Ne.symm hjk),h.1 j hj]
  simp [List.getD,List.getElem?_set_ne (Ne.symm hjk)]
theorem zk0 {w w1:World}{m c:Nat}(hown:w1.ownsRow w.heap.size 5 1 (.slice (some ⟨w.heap.size,0,none⟩) m c) m (madeCells (Value.int .u8 0).cells (m * 1)).toList)(hg:w.grownBy w1 none)(h0:0<m):
  Brow w1 w.heap.size (List.replicate m 0)∧Below w.heap.size w w1∧w.heap.size<w1.heap.size:=by
 have hb:Below w.heap.size w w1:=brf.grown hg (Nat.le_refl _) (fun k e=>by cases e)
 have hl:=hown.lt w.heap.size rfl
 refine ⟨⟨fun j hj=>?_,fun j=>?_⟩,hb,hl.2⟩
 ·have:=hown.cells (g:=w.heap.size) rfl j (.int .u8 ((List.replicate m 0).getD j 0)) (by
   simp at hj
   simp [madeCells,Value.cells,hj,List.getD,Nat.mod_one])
  have hadd:(Addr.mk w.heap.size 0 none).add j=⟨w.heap.size,0+j,none⟩:=by
   unfold Addr.add
   by_cases h:j=0 <;> simp [h]
  rw [hadd,Nat.zero_add] at this
  exact this
 ·rcases hown.2 with ⟨h1,_⟩|⟨g,cap,cur,h1,_,hg,_⟩
  ·cases h1
  ·simp only [Value.slice.injEq,Option.some.injEq,Addr.mk.injEq] at h1
   obtain ⟨⟨rfl,_⟩,_⟩:=h1
   simp [World.frozen?,hg]
theorem zqv {P:Program}{ops:Array Oper}{rest:List Oper}{op:Oper}{act:Act}{w:World}{Q:Exit→Act→World→Prop}(hgd:op.guard=none)(d s:Operand)(dT sT elem:TypeId)(ho:op.op=.call { callee:=.builtin .copy,args:=#[d,s],argTypes:=#[dT,sT] })(hu:P.underlying dT=some (.slice elem))(hi:(P.info? elem).map (·.size)=some 1)(B m dCap:Nat)(A:Option Addr)(n sCap:Nat)(xs l:List Int)(hd:act.eval d=.slice (some ⟨B,0,none⟩) m dCap)(hs:act.eval s=.slice A n sCap)(hn:xs.length=n)(hle:n≤m)(hx:Rd w A (nums .u8 xs))(hB:Brow w B l)(hl:l.length=m)(h:∀ w2,Brow w2 B (xs++l.drop n)→Below B w w2→w2.heap.size=w.heap.size→wpList P ops Q rest (act.put op.dst (goInt n)) w2): wpList P ops Q (op :: rest) act w:=by
 rcases Nat.eq_zero_or_pos n with h0|h0
 ·subst h0
  have:xs=[]:=List.eq_nil_of_length_eq_zero hn
  subst this
  exact wpList_copy_nothing hgd d s dT sT ho elem hu hi _ _ _ _ _ _ hd hs (by simp) (h w (by simpa using hB) (Below.refl _ _) rfl)
 ·obtain ⟨b,off,rfl,hlt,hc⟩:=hx.at_ (by simp;omega)
  have hmin:Nat.min n m=n:=Nat.min_eq_left hle
  refine zl9 hgd d s dT sT elem ho B 0 m dCap ⟨b,off,none⟩ n sCap (nums .u8 xs) hd hs hu hi (by simp [hn,hmin]) ?_ ?_ ?_ ?_ ?_
  ·intro j v hv
   have:=hc j v hv
   have hadd:(Addr.mk b off none).add j=⟨b,off+j,none⟩:=by
    unfold Addr.add
    by_cases h:j=0 <;> simp [h]
   rwa [hadd]
  ·intro j hj
   rw [Nat.zero_add,hB.1 j (by simp at hj;omega)]
   rfl
  ·intro j _
   exact hB.2 _
  ·intro v hv
   obtain ⟨x,_,rfl⟩:=List.mem_map.1 hv
   rfl
  ·intro w2 hw2
   have e:(nums .u8 xs).length=n:=by simp [hn]
   rw [e]
   refine h w2 ?_ ?_ ?_
   ·subst hw2
    refine ⟨fun j hj=>?_,fun j=>by rw [World.frozen?_setCells];exact hB.2 j⟩
    have hj:j<n+(m - n):=by simpa [hn,hl] using hj
    by_cases hjn:j<n
    ·have:=World.cell?_setCells_in B (nums .u8 xs) 0 w (fun j hj=>by
      rw [Nat.zero_add,hB.1 j (by simp at hj;omega)];rfl) j (by simpa [hn] using hjn)
     rw [Nat.zero_add] at this
     rw [this]
     simp [List.getD,List.getElem?_append_left (show j<xs.length by omega),List.getElem?_eq_getElem (show j<xs.length by omega)]
    ·rw [World.cell?_setCells_out _ _ _ _ _ (fun _ _=>.inr (by simp [hn];omega)),hB.1 j (by omega)]
     simp [List.getD,List.getElem?_append_right (show xs.length≤j by omega),hn]
     rw [show n+(j - n)=j by omega]
   ·subst hw2;exact zas (Nat.le_refl _) _ _ (Below.refl _ _)
   ·subst hw2;rw [zaq]
def zuy (m v:Nat)(l:List Int): Nat→List Int
 | 0=>l
 | k+1=>(zuy m v l k).set (m - 1 - k) (((v / 2 ^ (8 * k)) % 256:Nat):Int)
theorem zjz (m v:Nat)(l:List Int)(k:Nat): (zuy m v l k).length=l.length:=by
 induction k with
 | zero=>rfl
 | succ k ih=>simp [zuy,ih]
def zlz (xs:List Int): List Int:=zuy (zci xs.length) (8 * xs.length) ((xs++List.replicate (zci xs.length - xs.length) 0).set xs.length 128) 8
def z02 (w:World)(xs:List Int)(e:Ending)(w':World): Prop :=
 e=.returned (.slice (some ⟨w.heap.size,0,none⟩) (zci xs.length) (zci xs.length))∧Brow w' w.heap.size (zlz xs)∧Below w.heap.size w w'∧w.heap.size<w'.heap.size
set_option maxHeartbeats 1000000 in
theorem z2a (A:Option Addr)(n c:Nat)(xs:List Int)(w:World)(hn:xs.length=n)(hb:n≤4000)(hx:Rd w A (nums .u8 xs)):
  Calls Lead.prog 79 #[.slice A n c] w (z02 w xs):=by
 have HX:=Lib.hid hx
 have HN:=Lib.hid hn
 clear hx hn
 obtain ⟨m,hm⟩:∃ m,m=zci n:=⟨_,rfl⟩
 have hm1:n+9≤m:=by rw [hm];unfold zci;omega
 have hm2:m≤4100:=by rw [hm];unfold zci;omega
 have HM:=Lib.hid hm
 clear hm
 go_enter Lead.func79,Tryd.ntmps79
 obtain ⟨i0,hi,hz0,hz1,hz2⟩:=info_parts zbz
 go_upto_region 4 with (at_make;refine wpList_make_full _ rfl _ _ 33 rfl w.heap.size 5 i0 (.int .u8 0) 1 (Lead.of Tryd.underlying33) hi hz0 hz1 .i64 .i64 _ _ m rfl rfl (by have:=HM.out;unfold zci at this;omega) (by have:=HM.out;unfold zci at this;omega) (by rw [hz2];omega) (by unfold maxLen;omega) (Nat.le_refl _) ?_;intro w1 hown1 hgrow1)
 obtain ⟨hB1,hb1,hl1⟩:=zk0 hown1 hgrow1 (by omega)
 have HB1:=Lib.hid hB1
 have HX1:=Lib.hid (HX.out.below hb1)
 clear hown1 hgrow1 hB1 HX hi hz0 hz1 hz2
 iterate 7 go_step
 refine zqv rfl _ _ 33 33 5 rfl (Lead.of Tryd.underlying33) zku w.heap.size m m A n c xs _ rfl rfl HN.out (by omega) HX1.out HB1.out (by simp) ?_
 intro w2 hB2 hb2 hz2
 have HB2:=Lib.hid hB2
 have hle2:xs.length+(m - n)=m:=by have:=HN.out;omega
 have hlen2:(xs++(List.replicate m (0:Int)).drop n).length=m:=by simp;omega
 have c1:w2.cell? ⟨w.heap.size,n,none⟩=some (.int .u8 _):=hB2.1 n (by omega)
 have f1:w2.frozen? ⟨w.heap.size,n,none⟩=false:=hB2.2 n
 have l1:w.heap.size<w2.heap.size:=by omega
 have hb3:Below w.heap.size w w2:=hb1.trans hb2
 clear hb1 hb2 HX1 HB1 hB2
 go_wp2_with fail
 go_loopw [7,31] (fun _ i wr=>∃ k:Nat,k≤8∧i=.int .i64 k∧Brow wr w.heap.size (zuy m (8 * n) ((xs++(List.replicate m (0:Int)).drop n).set n 128) k)∧w.heap.size<wr.heap.size∧Below w.heap.size w wr) (fun _ i _=>8 - (intOf i).toNat)
 case atStart =>
  exact ⟨0,Nat.zero_le _,rfl,HB2.out.set 128 (by omega),by rw [zah];exact l1,hb3.setCell (p:=⟨w.heap.size,n,none⟩) (Nat.le_refl _) _⟩
 case round =>
  obtain ⟨k,hk,rfl,hB,hl,hb4⟩:=hrel
  have r0:(0:Int)≤(k:Int):=by omega
  by_cases hlt:k<8
  ·have r1:(k:Int)<8:=by omega
   have c1:wr.cell? ⟨w.heap.size,m - 1 - k,none⟩=some (.int .u8 _):=hB.1 (m - 1 - k) (by rw [zjz];simp;omega)
   have f1:wr.frozen? ⟨w.heap.size,m - 1 - k,none⟩=false:=hB.2 _
   have HB:=Lib.hid hB
   clear hB
   go_wp2_with fail
   refine ⟨⟨k+1,by omega,by congr 1,?_,by rw [zah];exact hl,hb4.setCell (p:=⟨w.heap.size,m - 1 - k,none⟩) (Nat.le_refl _) _⟩,by show 8 - ((k:Int)+1).toNat<8 - (k:Int).toNat;omega⟩
   have e:((n:Int) * 8 / 2 ^ (8 * k) % 256)=((((8 * n) / 2 ^ (8 * k)) % 256:Nat):Int):=by
    rw [Nat.mul_comm 8 n,Int.natCast_emod,Int.natCast_ediv,Int.natCast_mul,Int.natCast_pow];rfl
   rw [e]
   exact HB.out.set _ (by rw [zjz];simp;omega)
  ·have hk8:k=8:=by omega
   have r1:(8:Int)≤(k:Int):=by omega
   have HK8:=Lib.hid hk8
   clear hk8
   have HB:=Lib.hid hB
   clear hB
   go_wp2_with fail
   go_ret
   have hk8:=HK8.out
   have hn:=HN.out
   have hm:=HM.out
   have hB:=HB.out
   subst hk8
   subst hn
   subst hm
   refine ⟨rfl,?_,hb4,hl⟩
   have e:(List.replicate (zci xs.length) (0:Int)).drop xs.length=List.replicate (zci xs.length - xs.length) 0:=by simp
   rw [e] at hB
   exact hB
def h0l:List Int:=[1779033703,3144134277,1013904242,2773480762,1359893119,2600822924,528734635,1541459225]
theorem z39:(Lead.prog.info? 119).map (·.size)=some (h0l.map (Value.int .u32)).length:=by kernel_rfl
def z3h (w:World)(e:Ending)(w':World): Prop:=e=.returned (.agg (h0l.map (Value.int .u32)).toArray)∧Below w.heap.size w w'
theorem zu6 (w:World): Calls Lead.prog 77 #[] w (z3h w):=by
 go_enter Lead.func77,Tryd.ntmps77
 go_wp2_with fail
 refine bodyPost_ret (zb4 rfl _ _ w.heap.size 0 (h0l.map (Value.int .u32)) _ rfl ?hc (Lead.of Tryd.underlying119) rfl z39) rfl ?_
 case hc =>
  intro j v hv
  rw [World.cell?_alloc_at _ _ _ _ rfl]
  simpa [h0l] using hv
 exact ⟨rfl,bal brf _⟩
end
section
open Go.RowKit Go.Shelf
attribute [local go_sem] Oper.semAt_some
def upto (k:Nat): List Nat:=List.range k
theorem ze2 (k:Nat): upto (k+1)=upto k++[k]:=by simp [upto,List.range_succ]
theorem zea (k:Nat): (upto k).length=k:=by simp [upto]
def pc (q k:Nat): Nat:=if k<q then k else 0
def zvz (B m q:Nat)(k:Nat): Array Value:=#[.slice (some ⟨B,64 * pc q k,none⟩) 64 (m - 64 * pc q k)]
theorem zza {B m q k:Nat}(h:k<q): zvz B m q k=#[.slice (some ⟨B,64 * k,none⟩) 64 (m - 64 * k)]:=by simp [zvz,pc,h]
theorem z5t {q k:Nat}(h:0<q): pc q k<q:=by unfold pc;split <;> omega
def zfg (Bs:Nat)(W W':World): Prop:=W'.cell? ⟨Bs,0,none⟩=W.cell? ⟨Bs,0,none⟩
theorem zws {Bs:Nat}{A B C:World}(h:zfg Bs A B)(k:zfg Bs B C): zfg Bs A C:=k.trans h
theorem zwt {Bs:Nat}{w:World}(hB:Bs<w.heap.size)(W:World)(l:Nat)(o o':Obj)(hl:w.heap.size≤l)(_:W.heap[l]?=some o)(_:o.isCells=false)(_:o.isWalk=false): zfg Bs W (W.putObj l o') :=
 World.cell?_of_block (World.putObj_heap_other (by show Bs≠l;omega))
set_option maxRecDepth 100000 in
set_option maxHeartbeats 2000000 in
theorem zuc (F:Fence)(n:Nat)(hf:F.fn 81)(hro:F.round=none)(hn:1≤n)(l Bs B m q:Nat)(hm:m=64 * q)(hq:q≤1000000)(J Jx:List Nat→World→Prop)(hY:∀ pre x W,J pre W→pre.length<q→YieldAt F (n - 1) Lead.prog l (zvz B m q x) W fun e W' =>
   (e=.returned (.bool true)∧J (pre++[x]) W'∧zfg Bs W W')∨(e=.returned (.bool false)∧Jx (pre++[x]) W'))(W:World)(hBs:W.cell? ⟨Bs,0,none⟩=some (.slice (some ⟨B,0,none⟩) m m))(h0:J [] W):
  CallsIn F n Lead.prog 81 #[.func (.yield l) #[] #[],.pointer (some ⟨Bs,0,none⟩)] W fun e W'=>(∃ v,e=.returned v) ∧
   ((∃ ys,ys=upto q∧J ys W')∨(∃ pre,(∃ k,k≤q∧pre=upto k)∧Jx pre W')):=by
 refine callsIn_of_wp Lead.func81 rfl hf ?_ hro
 simp only [Tryd.ntmps81,List.size_toArray,List.length_cons,List.length_nil,Nat.reduceAdd,Nat.reduceSub,Array.replicate_succ,Array.replicate_zero,List.push_toArray,List.append_toArray,List.nil_append,List.cons_append]
 have hle0:64 * q≤m:=by omega
 have hle1:m≤64 * q:=by omega
 have HM:=Lib.hid hm
 clear hm
 gi_wp2
 gi_loopw [3] (fun i wr=>∃ k:Nat,k≤q∧i=.int .i64 (64 * k)∧J (upto k) wr∧zfg Bs W wr)
  (fun i _=>m - (intOf i).toNat)
 case atStart=>exact ⟨0,Nat.zero_le _,rfl,h0,rfl⟩
 case round =>
  obtain ⟨k,hk,rfl,hJs,hnx⟩:=hrel
  have hcx:wr.cell? ⟨Bs,0,none⟩=some (.slice (some ⟨B,0,none⟩) m m):=hnx.trans hBs
  by_cases hlt:k<q
  ·obtain ⟨fn,tmps,assign,body,hy,hR⟩:=hY _ k wr hJs (by rw [zea];exact hlt)
   have hle:64 * k+64≤m:=by omega
   rw [zza hlt] at hy
   gi_wp2
   refine hR.mono ?_
   rintro e W3 (⟨rfl,hJ3,hk3⟩|⟨rfl,hJx3⟩)
   ·gi_wp2
    go_roundw
    case rel=>exact ⟨k+1,by omega,by congr 1,by rw [ze2];exact hJ3,hk3.trans hnx⟩
    case measure=>simp [intOf];omega
   ·gi_wp2
    refine bodyPost_ret (results_none rfl _ _ _) rfl ?_
    exact ⟨⟨_,rfl⟩,.inr ⟨_,⟨k+1,by omega,(ze2 _).symm⟩,hJx3⟩⟩
  ·have hle:¬ (64 * k+64≤m):=by omega
   have hkq:k=q:=by omega
   have HKQ:=Lib.hid hkq
   clear hkq
   gi_wp2
   go_end0
   exact ⟨⟨_,rfl⟩,.inl ⟨_,rfl,by rw [← HKQ.out];exact hJs⟩⟩
theorem zub (a:Option Addr)(len cap:Nat)(w:World):
  Calls Lead.prog 78 #[.slice a len cap] w fun e w'=>e=.returned (.func (.func 81) #[] #[.pointer (some ⟨w.heap.size,0,none⟩)])∧w'=w.alloc (.cells #[.slice a len cap] 33):=by
 go_enter Lead.func78,Tryd.ntmps78
 go_wp2_with fail
 go_ret
 exact ⟨rfl,rfl⟩
theorem zo5 (F:Fence)(n:Nat)(hf:F.fn 81)(hro:F.round=none)(hn:1≤n)(Bs B m q:Nat)(hm:m=64 * q)(hq:q≤1000000)(w:World)(hb:Bs<w.heap.size)(hBs:w.cell? ⟨Bs,0,none⟩=some (.slice (some ⟨B,0,none⟩) m m)):
  SeqStopsK F n Lead.prog 81 #[.pointer (some ⟨Bs,0,none⟩)] (zvz B m q) (zfg Bs) (fun ys=>ys=upto q) (fun pre=>True) q w:=fun l J Jx W hW _ _ hY h0=>by
 have hc':=(hW.cell (p:=⟨Bs,0,none⟩) hb).trans hBs
 refine (zuc F n hf hro hn l Bs B m q hm hq J Jx hY W hc' h0).mono ?_
 rintro e W' ⟨he,⟨ys,rfl,hj⟩|⟨pre,_,hj⟩⟩
 ·exact ⟨he,.inl ⟨_,rfl,hj⟩⟩
 ·exact ⟨he,.inr ⟨_,trivial,hj⟩⟩
end
end Go.Proofs.YtelgmbomkojmaaaDoor
