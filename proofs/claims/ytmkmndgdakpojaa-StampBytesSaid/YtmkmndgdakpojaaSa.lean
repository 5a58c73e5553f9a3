/- Words of 32 bits in the walk's own forms; down and turn: one value. -/
import Derived.Test.YtmkmndgdakpojaaOwn
namespace Go.Proofs.Ytmkmndgdakpojaa
open Go.RowKit
set_option linter.unusedSimpArgs false
set_option linter.unusedVariables false

/-- A word turned right by n. -/
def rot (x : Int) (n : Nat) : Int := bits .or .u32 (x / 2 ^ n) (x * 2 ^ (32 - n) % 4294967296)

theorem or_comm_u32 (a b : Int) : bits .or .u32 a b = bits .or .u32 b a := by
  show IntKind.u32.wrap ((BitVec.ofInt 32 a ||| BitVec.ofInt 32 b).toNat : Int) = IntKind.u32.wrap ((BitVec.ofInt 32 b ||| BitVec.ofInt 32 a).toNat : Int)
  rw [BitVec.or_comm]

theorem rot2 (x : Int) : rot x 2 = bits .or .u32 (x / 4) (x * 1073741824 % 4294967296) := rfl
theorem back2 : bits BinOp.and IntKind.u64 (IntKind.u64.wrap (-2)) 31 = 30 := by decide
theorem rot6 (x : Int) : rot x 6 = bits .or .u32 (x / 64) (x * 67108864 % 4294967296) := rfl
theorem back6 : bits BinOp.and IntKind.u64 (IntKind.u64.wrap (-6)) 31 = 26 := by decide
theorem rot7 (x : Int) : rot x 7 = bits .or .u32 (x / 128) (x * 33554432 % 4294967296) := rfl
theorem back7 : bits BinOp.and IntKind.u64 (IntKind.u64.wrap (-7)) 31 = 25 := by decide
theorem rot11 (x : Int) : rot x 11 = bits .or .u32 (x / 2048) (x * 2097152 % 4294967296) := rfl
theorem back11 : bits BinOp.and IntKind.u64 (IntKind.u64.wrap (-11)) 31 = 21 := by decide
theorem rot13 (x : Int) : rot x 13 = bits .or .u32 (x / 8192) (x * 524288 % 4294967296) := rfl
theorem back13 : bits BinOp.and IntKind.u64 (IntKind.u64.wrap (-13)) 31 = 19 := by decide
theorem rot17 (x : Int) : rot x 17 = bits .or .u32 (x / 131072) (x * 32768 % 4294967296) := rfl
theorem back17 : bits BinOp.and IntKind.u64 (IntKind.u64.wrap (-17)) 31 = 15 := by decide
theorem rot18 (x : Int) : rot x 18 = bits .or .u32 (x / 262144) (x * 16384 % 4294967296) := rfl
theorem back18 : bits BinOp.and IntKind.u64 (IntKind.u64.wrap (-18)) 31 = 14 := by decide
theorem rot19 (x : Int) : rot x 19 = bits .or .u32 (x / 524288) (x * 8192 % 4294967296) := rfl
theorem back19 : bits BinOp.and IntKind.u64 (IntKind.u64.wrap (-19)) 31 = 13 := by decide
theorem rot22 (x : Int) : rot x 22 = bits .or .u32 (x / 4194304) (x * 1024 % 4294967296) := rfl
theorem back22 : bits BinOp.and IntKind.u64 (IntKind.u64.wrap (-22)) 31 = 10 := by decide
theorem rot25 (x : Int) : rot x 25 = bits .or .u32 (x / 33554432) (x * 128 % 4294967296) := rfl
theorem back25 : bits BinOp.and IntKind.u64 (IntKind.u64.wrap (-25)) 31 = 7 := by decide
/-- A word turned right, by a number of Go's. -/
def rotI (x n : Int) : Int := rot x n.toNat
/-- A call that only reads, in a region that draws. -/
theorem quiet_w {P : Program} {f : FuncId} {args : Array Value} {w : World} {n : Nat} {v : Value} (h : Calls P f args (w.drewN n) fun e w' => e = .returned v ∧ w.drewN n = w') :
    Calls P f args (w.drewN n) fun e w' => e = .returned v ∧ ∃ m, w' = w.drewN m := h.mono fun _ _ ⟨he, hw⟩ => ⟨he, n, hw.symm⟩
theorem quiet_wa {P : Program} {f : FuncId} {args : Array Value} {w : World} {a n : Nat} {v : Value} (h : Calls P f args (w.drewN (a + n)) fun e w' => e = .returned v ∧ w.drewN (a + n) = w') :
    Calls P f args (w.drewN (a + n)) fun e w' => e = .returned v ∧ ∃ m, w' = w.drewN (a + m) := h.mono fun _ _ ⟨he, hw⟩ => ⟨he, n, hw.symm⟩
end Go.Proofs.Ytmkmndgdakpojaa
