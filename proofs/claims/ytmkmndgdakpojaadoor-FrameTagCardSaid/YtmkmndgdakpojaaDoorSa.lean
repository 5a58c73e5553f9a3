/- Words of 32 bits in the walk's own forms; down and turn: one value. -/
import Derived.Test.YtmkmndgdakpojaaDoorOwn
namespace Go.Proofs.YtmkmndgdakpojaaDoor
open Go.RowKit
set_option linter.unusedSimpArgs false
set_option linter.unusedVariables false

/-- A word turned right by n. -/
def rot (x : Int) (n : Nat) : Int := bits .or .u32 (x / 2 ^ n) (x * 2 ^ (32 - n) % 4294967296)

theorem or_comm_u32 (a b : Int) : bits .or .u32 a b = bits .or .u32 b a := by
  show IntKind.u32.wrap ((BitVec.ofInt 32 a ||| BitVec.ofInt 32 b).toNat : Int) = IntKind.u32.wrap ((BitVec.ofInt 32 b ||| BitVec.ofInt 32 a).toNat : Int)
  rw [BitVec.or_comm]

theorem rot2 (x : Int) : rot x 2 = bits .or .u32 (x / 4) (x * 1073741824 % 4294967296) := rfl
theorem back2 : bits BinOp.and IntKind.u64 (IntKind.u64.wrap (-2)) 31 = 30 := by decide
set_option maxHeartbeats 1000000 in
theorem down2 (x : Int) (w : World) :
    Calls Tryd.prog 61 #[.int .u32 x, .int .i64 2] w fun e w' => e = .returned (.int .u32 (rot x 2)) ∧ w = w' := by
  have hb := back2
  have HR := Lib.hid ((rot2 x).trans (or_comm_u32 _ _))
  go_enter Tryd.func61, Tryd.ntmps61
  go_wp2
  go_ret
  exact ⟨by rw [HR.out]; rfl, rfl⟩
set_option maxHeartbeats 1000000 in
theorem turn2 (x : Int) (w : World) :
    Calls Tryd.prog 63 #[.int .u32 x, .int .u64 2] w fun e w' => e = .returned (.int .u32 (rot x 2)) ∧ w = w' := by
  have HR := Lib.hid (rot2 x)
  go_enter Tryd.func63, Tryd.ntmps63
  go_wp2
  go_ret
  exact ⟨by rw [HR.out]; rfl, rfl⟩

theorem rot6 (x : Int) : rot x 6 = bits .or .u32 (x / 64) (x * 67108864 % 4294967296) := rfl
theorem back6 : bits BinOp.and IntKind.u64 (IntKind.u64.wrap (-6)) 31 = 26 := by decide
set_option maxHeartbeats 1000000 in
theorem down6 (x : Int) (w : World) :
    Calls Tryd.prog 61 #[.int .u32 x, .int .i64 6] w fun e w' => e = .returned (.int .u32 (rot x 6)) ∧ w = w' := by
  have hb := back6
  have HR := Lib.hid ((rot6 x).trans (or_comm_u32 _ _))
  go_enter Tryd.func61, Tryd.ntmps61
  go_wp2
  go_ret
  exact ⟨by rw [HR.out]; rfl, rfl⟩
set_option maxHeartbeats 1000000 in
theorem turn6 (x : Int) (w : World) :
    Calls Tryd.prog 63 #[.int .u32 x, .int .u64 6] w fun e w' => e = .returned (.int .u32 (rot x 6)) ∧ w = w' := by
  have HR := Lib.hid (rot6 x)
  go_enter Tryd.func63, Tryd.ntmps63
  go_wp2
  go_ret
  exact ⟨by rw [HR.out]; rfl, rfl⟩

theorem rot7 (x : Int) : rot x 7 = bits .or .u32 (x / 128) (x * 33554432 % 4294967296) := rfl
theorem back7 : bits BinOp.and IntKind.u64 (IntKind.u64.wrap (-7)) 31 = 25 := by decide
set_option maxHeartbeats 1000000 in
theorem down7 (x : Int) (w : World) :
    Calls Tryd.prog 61 #[.int .u32 x, .int .i64 7] w fun e w' => e = .returned (.int .u32 (rot x 7)) ∧ w = w' := by
  have hb := back7
  have HR := Lib.hid ((rot7 x).trans (or_comm_u32 _ _))
  go_enter Tryd.func61, Tryd.ntmps61
  go_wp2
  go_ret
  exact ⟨by rw [HR.out]; rfl, rfl⟩
set_option maxHeartbeats 1000000 in
theorem turn7 (x : Int) (w : World) :
    Calls Tryd.prog 63 #[.int .u32 x, .int .u64 7] w fun e w' => e = .returned (.int .u32 (rot x 7)) ∧ w = w' := by
  have HR := Lib.hid (rot7 x)
  go_enter Tryd.func63, Tryd.ntmps63
  go_wp2
  go_ret
  exact ⟨by rw [HR.out]; rfl, rfl⟩

theorem rot11 (x : Int) : rot x 11 = bits .or .u32 (x / 2048) (x * 2097152 % 4294967296) := rfl
theorem back11 : bits BinOp.and IntKind.u64 (IntKind.u64.wrap (-11)) 31 = 21 := by decide
set_option maxHeartbeats 1000000 in
theorem down11 (x : Int) (w : World) :
    Calls Tryd.prog 61 #[.int .u32 x, .int .i64 11] w fun e w' => e = .returned (.int .u32 (rot x 11)) ∧ w = w' := by
  have hb := back11
  have HR := Lib.hid ((rot11 x).trans (or_comm_u32 _ _))
  go_enter Tryd.func61, Tryd.ntmps61
  go_wp2
  go_ret
  exact ⟨by rw [HR.out]; rfl, rfl⟩
set_option maxHeartbeats 1000000 in
theorem turn11 (x : Int) (w : World) :
    Calls Tryd.prog 63 #[.int .u32 x, .int .u64 11] w fun e w' => e = .returned (.int .u32 (rot x 11)) ∧ w = w' := by
  have HR := Lib.hid (rot11 x)
  go_enter Tryd.func63, Tryd.ntmps63
  go_wp2
  go_ret
  exact ⟨by rw [HR.out]; rfl, rfl⟩

theorem rot13 (x : Int) : rot x 13 = bits .or .u32 (x / 8192) (x * 524288 % 4294967296) := rfl
theorem back13 : bits BinOp.and IntKind.u64 (IntKind.u64.wrap (-13)) 31 = 19 := by decide
set_option maxHeartbeats 1000000 in
theorem down13 (x : Int) (w : World) :
    Calls Tryd.prog 61 #[.int .u32 x, .int .i64 13] w fun e w' => e = .returned (.int .u32 (rot x 13)) ∧ w = w' := by
  have hb := back13
  have HR := Lib.hid ((rot13 x).trans (or_comm_u32 _ _))
  go_enter Tryd.func61, Tryd.ntmps61
  go_wp2
  go_ret
  exact ⟨by rw [HR.out]; rfl, rfl⟩
set_option maxHeartbeats 1000000 in
theorem turn13 (x : Int) (w : World) :
    Calls Tryd.prog 63 #[.int .u32 x, .int .u64 13] w fun e w' => e = .returned (.int .u32 (rot x 13)) ∧ w = w' := by
  have HR := Lib.hid (rot13 x)
  go_enter Tryd.func63, Tryd.ntmps63
  go_wp2
  go_ret
  exact ⟨by rw [HR.out]; rfl, rfl⟩

theorem rot17 (x : Int) : rot x 17 = bits .or .u32 (x / 131072) (x * 32768 % 4294967296) := rfl
theorem back17 : bits BinOp.and IntKind.u64 (IntKind.u64.wrap (-17)) 31 = 15 := by decide
set_option maxHeartbeats 1000000 in
theorem down17 (x : Int) (w : World) :
    Calls Tryd.prog 61 #[.int .u32 x, .int .i64 17] w fun e w' => e = .returned (.int .u32 (rot x 17)) ∧ w = w' := by
  have hb := back17
  have HR := Lib.hid ((rot17 x).trans (or_comm_u32 _ _))
  go_enter Tryd.func61, Tryd.ntmps61
  go_wp2
  go_ret
  exact ⟨by rw [HR.out]; rfl, rfl⟩
set_option maxHeartbeats 1000000 in
theorem turn17 (x : Int) (w : World) :
    Calls Tryd.prog 63 #[.int .u32 x, .int .u64 17] w fun e w' => e = .returned (.int .u32 (rot x 17)) ∧ w = w' := by
  have HR := Lib.hid (rot17 x)
  go_enter Tryd.func63, Tryd.ntmps63
  go_wp2
  go_ret
  exact ⟨by rw [HR.out]; rfl, rfl⟩

theorem rot18 (x : Int) : rot x 18 = bits .or .u32 (x / 262144) (x * 16384 % 4294967296) := rfl
theorem back18 : bits BinOp.and IntKind.u64 (IntKind.u64.wrap (-18)) 31 = 14 := by decide
set_option maxHeartbeats 1000000 in
theorem down18 (x : Int) (w : World) :
    Calls Tryd.prog 61 #[.int .u32 x, .int .i64 18] w fun e w' => e = .returned (.int .u32 (rot x 18)) ∧ w = w' := by
  have hb := back18
  have HR := Lib.hid ((rot18 x).trans (or_comm_u32 _ _))
  go_enter Tryd.func61, Tryd.ntmps61
  go_wp2
  go_ret
  exact ⟨by rw [HR.out]; rfl, rfl⟩
set_option maxHeartbeats 1000000 in
theorem turn18 (x : Int) (w : World) :
    Calls Tryd.prog 63 #[.int .u32 x, .int .u64 18] w fun e w' => e = .returned (.int .u32 (rot x 18)) ∧ w = w' := by
  have HR := Lib.hid (rot18 x)
  go_enter Tryd.func63, Tryd.ntmps63
  go_wp2
  go_ret
  exact ⟨by rw [HR.out]; rfl, rfl⟩

theorem rot19 (x : Int) : rot x 19 = bits .or .u32 (x / 524288) (x * 8192 % 4294967296) := rfl
theorem back19 : bits BinOp.and IntKind.u64 (IntKind.u64.wrap (-19)) 31 = 13 := by decide
set_option maxHeartbeats 1000000 in
theorem down19 (x : Int) (w : World) :
    Calls Tryd.prog 61 #[.int .u32 x, .int .i64 19] w fun e w' => e = .returned (.int .u32 (rot x 19)) ∧ w = w' := by
  have hb := back19
  have HR := Lib.hid ((rot19 x).trans (or_comm_u32 _ _))
  go_enter Tryd.func61, Tryd.ntmps61
  go_wp2
  go_ret
  exact ⟨by rw [HR.out]; rfl, rfl⟩
set_option maxHeartbeats 1000000 in
theorem turn19 (x : Int) (w : World) :
    Calls Tryd.prog 63 #[.int .u32 x, .int .u64 19] w fun e w' => e = .returned (.int .u32 (rot x 19)) ∧ w = w' := by
  have HR := Lib.hid (rot19 x)
  go_enter Tryd.func63, Tryd.ntmps63
  go_wp2
  go_ret
  exact ⟨by rw [HR.out]; rfl, rfl⟩

theorem rot22 (x : Int) : rot x 22 = bits .or .u32 (x / 4194304) (x * 1024 % 4294967296) := rfl
theorem back22 : bits BinOp.and IntKind.u64 (IntKind.u64.wrap (-22)) 31 = 10 := by decide
set_option maxHeartbeats 1000000 in
theorem down22 (x : Int) (w : World) :
    Calls Tryd.prog 61 #[.int .u32 x, .int .i64 22] w fun e w' => e = .returned (.int .u32 (rot x 22)) ∧ w = w' := by
  have hb := back22
  have HR := Lib.hid ((rot22 x).trans (or_comm_u32 _ _))
  go_enter Tryd.func61, Tryd.ntmps61
  go_wp2
  go_ret
  exact ⟨by rw [HR.out]; rfl, rfl⟩
set_option maxHeartbeats 1000000 in
theorem turn22 (x : Int) (w : World) :
    Calls Tryd.prog 63 #[.int .u32 x, .int .u64 22] w fun e w' => e = .returned (.int .u32 (rot x 22)) ∧ w = w' := by
  have HR := Lib.hid (rot22 x)
  go_enter Tryd.func63, Tryd.ntmps63
  go_wp2
  go_ret
  exact ⟨by rw [HR.out]; rfl, rfl⟩

theorem rot25 (x : Int) : rot x 25 = bits .or .u32 (x / 33554432) (x * 128 % 4294967296) := rfl
theorem back25 : bits BinOp.and IntKind.u64 (IntKind.u64.wrap (-25)) 31 = 7 := by decide
set_option maxHeartbeats 1000000 in
theorem down25 (x : Int) (w : World) :
    Calls Tryd.prog 61 #[.int .u32 x, .int .i64 25] w fun e w' => e = .returned (.int .u32 (rot x 25)) ∧ w = w' := by
  have hb := back25
  have HR := Lib.hid ((rot25 x).trans (or_comm_u32 _ _))
  go_enter Tryd.func61, Tryd.ntmps61
  go_wp2
  go_ret
  exact ⟨by rw [HR.out]; rfl, rfl⟩
set_option maxHeartbeats 1000000 in
theorem turn25 (x : Int) (w : World) :
    Calls Tryd.prog 63 #[.int .u32 x, .int .u64 25] w fun e w' => e = .returned (.int .u32 (rot x 25)) ∧ w = w' := by
  have HR := Lib.hid (rot25 x)
  go_enter Tryd.func63, Tryd.ntmps63
  go_wp2
  go_ret
  exact ⟨by rw [HR.out]; rfl, rfl⟩

/-- A word turned right, by a number of Go's. -/
def rotI (x n : Int) : Int := rot x n.toNat
theorem down_any (x n : Int) (w : World) (h : n = 2 ∨ n = 6 ∨ n = 7 ∨ n = 11 ∨ n = 13 ∨ n = 17 ∨ n = 18 ∨ n = 19 ∨ n = 22 ∨ n = 25) :
    Calls Tryd.prog 61 #[.int .u32 x, .int .i64 n] w fun e w' => e = .returned (.int .u32 (rotI x n)) ∧ w = w' := by
  rcases h with rfl | rfl | rfl | rfl | rfl | rfl | rfl | rfl | rfl | rfl
  · exact down2 x w
  · exact down6 x w
  · exact down7 x w
  · exact down11 x w
  · exact down13 x w
  · exact down17 x w
  · exact down18 x w
  · exact down19 x w
  · exact down22 x w
  · exact down25 x w
theorem turn_any (x n : Int) (w : World) (h : n = 2 ∨ n = 6 ∨ n = 7 ∨ n = 11 ∨ n = 13 ∨ n = 17 ∨ n = 18 ∨ n = 19 ∨ n = 22 ∨ n = 25) :
    Calls Tryd.prog 63 #[.int .u32 x, .int .u64 n] w fun e w' => e = .returned (.int .u32 (rotI x n)) ∧ w = w' := by
  rcases h with rfl | rfl | rfl | rfl | rfl | rfl | rfl | rfl | rfl | rfl
  · exact turn2 x w
  · exact turn6 x w
  · exact turn7 x w
  · exact turn11 x w
  · exact turn13 x w
  · exact turn17 x w
  · exact turn18 x w
  · exact turn19 x w
  · exact turn22 x w
  · exact turn25 x w
/-- A call that only reads, in a region that draws. -/
theorem quiet_w {P : Program} {f : FuncId} {args : Array Value} {w : World} {n : Nat} {v : Value} (h : Calls P f args (w.drewN n) fun e w' => e = .returned v ∧ w.drewN n = w') :
    Calls P f args (w.drewN n) fun e w' => e = .returned v ∧ ∃ m, w' = w.drewN m := h.mono fun _ _ ⟨he, hw⟩ => ⟨he, n, hw.symm⟩
theorem quiet_wa {P : Program} {f : FuncId} {args : Array Value} {w : World} {a n : Nat} {v : Value} (h : Calls P f args (w.drewN (a + n)) fun e w' => e = .returned v ∧ w.drewN (a + n) = w') :
    Calls P f args (w.drewN (a + n)) fun e w' => e = .returned v ∧ ∃ m, w' = w.drewN (a + m) := h.mono fun _ _ ⟨he, hw⟩ => ⟨he, n, hw.symm⟩
end Go.Proofs.YtmkmndgdakpojaaDoor
