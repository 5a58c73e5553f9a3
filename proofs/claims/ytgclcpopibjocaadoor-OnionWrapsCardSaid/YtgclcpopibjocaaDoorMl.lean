/- The hashes of a stream, one by one. -/
import Derived.Test.YtgclcpopibjocaaDoorMi0
import Derived.Test.YtgclcpopibjocaaDoorGood
import Derived.Test.YtgclcpopibjocaaDoorRound
import Derived.Shelf.RegionOpen
import Derived.OwnWalkIn
import Derived.TacticsInMore
import Derived.LoopNIn
import Derived.LoopIn
namespace Go.Proofs.YtgclcpopibjocaaDoor
open Go.RowKit Go.Shelf
set_option linter.unusedSimpArgs false
set_option linter.unusedVariables false
set_option maxRecDepth 100000
attribute [local go_sem] Oper.semAt_some

/-- A number's eight bytes. -/
def numL (v : Nat) : List Int := tail8 v 8
theorem numL_len (v : Nat) : (numL v).length = 8 := by simp [numL, tail8]
/-- A stream's k-th hash. -/
def hashK (key : List Int) (k : Nat) : List Int := sumL (key ++ numL k)
theorem hashK_len (key : List Int) (k : Nat) : (hashK key k).length = 32 := sumL_len _

set_option maxHeartbeats 1000000 in
theorem number_any (v : Nat) (w : World) (hv : v < 18446744073709551616) :
    Calls Tryd.prog 73 #[.int .u64 v] w (IsBytes w (numL v)) := by
  obtain ⟨i0, hi, hz0, hz1, hz2⟩ := info_parts infoByte
  go_enter Tryd.func73, Tryd.ntmps73
  go_wp2_with (at_make; refine wpList_make_full _ rfl _ _ 22 rfl w.heap.size 5 i0 (.int .u8 0) 1 Tryd.underlying22 hi hz0 hz1 .i64 .i64 _ _ 8 rfl rfl rfl rfl (by rw [hz2]; omega) (by unfold maxLen; omega) (Nat.le_refl _) ?_; intro w1 hown1 hgrow1)
  obtain ⟨hrow1, hb1, hl1⟩ := vrow_make rfl hown1 hgrow1
  have HR := Lib.hid hrow1
  clear hown1 hgrow1 hrow1 hi hz0 hz1 hz2
  go_loopw [8] (fun i wr => ∃ k : Nat, k ≤ 8 ∧ i = .int .i64 k ∧ VRow wr w.heap.size (nums .u8 (tail8 v k ++ List.replicate (8 - k) 0)) ∧ w.heap.size < wr.heap.size ∧ Below w.heap.size w wr) (fun i _ => 8 - (intOf i).toNat)
  case atStart => exact ⟨0, Nat.zero_le _, rfl, by simpa [tail8, nums] using HR.out, hl1, hb1⟩
  case round =>
    obtain ⟨k, hk, rfl, hrow, hl, hb⟩ := hrel
    have r0 : (0 : Int) ≤ k := by omega
    by_cases hlt : k < 8
    · have r1 : (k : Int) < 8 := by omega
      have hlen : (tail8 v k ++ List.replicate (8 - k) (0 : Int)).length = 8 := by simp [tail8]; omega
      obtain ⟨ck, fk⟩ := hrow k _ (nums_at (by rw [hlen]; exact hlt))
      have hset : (tail8 v k ++ List.replicate (8 - k) (0 : Int)).set k (((v / 2 ^ (56 - 8 * k)) % 256 : Nat) : Int) = tail8 v (k + 1) ++ List.replicate (8 - (k + 1)) 0 := by
        obtain ⟨m, hm⟩ : ∃ m, 8 - k = m + 1 := ⟨8 - k - 1, by omega⟩
        have hl8 : (tail8 v k).length = k := by simp [tail8]
        rw [hm, show 8 - (k + 1) = m by omega, List.replicate_succ, List.set_append_right _ _ (by omega), hl8, Nat.sub_self, tail8_succ]
        simp
      have hst := hrow.set (k := k) (.int .u8 (((v / 2 ^ (56 - 8 * k)) % 256 : Nat) : Int))
      rw [show (nums .u8 (tail8 v k ++ List.replicate (8 - k) (0 : Int))).set k (.int .u8 (((v / 2 ^ (56 - 8 * k)) % 256 : Nat) : Int)) = nums .u8 ((tail8 v k ++ List.replicate (8 - k) (0 : Int)).set k (((v / 2 ^ (56 - 8 * k)) % 256 : Nat) : Int)) by simp [nums, List.map_set], hset] at hst
      have HST := Lib.hid hst
      have he : ((v : Int) / 2 ^ (56 - 8 * k) % 256) = ((v / 2 ^ (56 - 8 * k) % 256 : Nat) : Int) := by rw [Int.natCast_emod, Int.natCast_ediv, Int.natCast_pow]; rfl
      have HE := Lib.hid he
      clear hst hset hlen hrow he
      go_wp2_with fail
      rw [HE.out]
      exact ⟨⟨k + 1, by omega, by congr 1, HST.out, by rw [size_setCell]; exact hl, hb.setCell (p := ⟨w.heap.size, k, none⟩) (Nat.le_refl _) _⟩, by show 8 - ((k : Int) + 1).toNat < 8 - (k : Int).toNat; omega⟩
    · have hk8 : k = 8 := by omega
      subst hk8
      have HRD := Lib.hid (hrow.rd hl)
      clear hrow
      go_wp2_with fail
      go_ret
      have := HRD.out
      rw [Nat.sub_self, List.replicate_zero, List.append_nil] at this
      exact ⟨w.heap.size, 8, by rw [numL_len]; rfl, by rw [numL_len]; omega, Nat.le_refl _, this, hb⟩

theorem hashes_any (a : Option Addr) (len cap : Nat) (n : Int) (w : World) :
    Calls Tryd.prog 54 #[.slice a len cap, .int .i64 n] w fun e w' => e = .returned (.func (.func 72) #[] #[.pointer (some ⟨w.heap.size + 1, 0, none⟩), .pointer (some ⟨w.heap.size, 0, none⟩)]) ∧ w' = (w.alloc (.cells #[.slice a len cap] 22)).alloc (.cells #[.int .i64 n] 3) := by
  go_enter Tryd.func54, Tryd.ntmps54
  go_wp2_with fail
  go_ret
  refine ⟨?_, rfl⟩
  simp

/-- What stands for good while the hashes come: the two boxes, the key, the table. -/
def Env (bk bn : Nat) (A : Option Addr) (n c : Nat) (N : Int) (key : List Int) (W : World) : Prop :=
  W.cell? ⟨bk, 0, none⟩ = some (.slice A n c) ∧ W.cell? ⟨bn, 0, none⟩ = some (.int .i64 N) ∧ Rd W A (nums .u8 key) ∧ Konst W
theorem Env.below {bk bn : Nat} {A : Option Addr} {n c : Nat} {N : Int} {key : List Int} {W W' : World} (h : Env bk bn A n c N key W) (hb : Below W.heap.size W W') : Env bk bn A n c N key W' :=
  ⟨(hb.cell (p := ⟨bk, 0, none⟩) (cell_lt h.1)).trans h.1, (hb.cell (p := ⟨bn, 0, none⟩) (cell_lt h.2.1)).trans h.2.1, h.2.2.1.below hb, h.2.2.2.go hb⟩
theorem Rd.kept {W W' : World} {row : Option Nat} {A : Option Addr} {vs : List Value} (hg : W.grownBy W' row) (hr : ∀ r, row = some r → ∃ o : Obj, W.heap[r]? = some o ∧ o.isCells = false) (h : Rd W A vs) : Rd W' A vs := by
  rcases h with h | ⟨b, o, hA, hlt, hc⟩
  · exact .inl h
  · exact .inr ⟨b, o, hA, Nat.lt_of_lt_of_le hlt hg.size, fun i v hv => cell_kept (hc i v hv) hg hr⟩
theorem Env.kept {bk bn : Nat} {A : Option Addr} {n c : Nat} {N : Int} {key : List Int} {W W' : World} {row : Option Nat} (hg : W.grownBy W' row) (hr : ∀ r, row = some r → ∃ o : Obj, W.heap[r]? = some o ∧ o.isCells = false) (h : Env bk bn A n c N key W) : Env bk bn A n c N key W' :=
  ⟨cell_kept h.1 hg hr, cell_kept h.2.1 hg hr, h.2.2.1.kept hg hr, h.2.2.2.kept hg hr⟩
theorem grown_of_below {W W' : World} (hb : Below W.heap.size W W') : W.grownBy W' none := ⟨hb.os, hb.tape, hb.output, hb.size, fun k hk _ => hb.block k hk⟩

/-- A value of the iterator: its number, its block, its capacity. -/
abbrev Hsh := Nat × Nat × Nat
def hEnc (x : Hsh) : Array Value := #[.slice (some ⟨x.2.1, 0, none⟩) 32 x.2.2]
def hGood (key : List Int) (x : Hsh) (W : World) : Prop := Rd W (some ⟨x.2.1, 0, none⟩) (nums .u8 (hashK key x.1)) ∧ 32 ≤ x.2.2
theorem hGood.kept {key : List Int} {x : Hsh} {W W' : World} {row : Option Nat} (hg : W.grownBy W' row) (hr : ∀ r, row = some r → ∃ o : Obj, W.heap[r]? = some o ∧ o.isCells = false) (h : hGood key x W) : hGood key x W' := ⟨h.1.kept hg hr, h.2⟩

set_option maxRecDepth 100000 in
set_option maxHeartbeats 2000000 in
theorem hashes1_good (n : Nat) (hn : 2 ≤ n) (bk bn : Nat) (A : Option Addr) (kn c : Nat) (N q : Nat) (key : List Int) (hkn : key.length = kn) (hk : kn ≤ 3000) (hq1 : 32 * q < N + 32) (hq2 : N ≤ 32 * q) (hN : N ≤ 1048576) (w : World) (hE : Env bk bn A kn c N key w) :
    SeqGood Fence.wide n Tryd.prog 72 #[.pointer (some ⟨bn, 0, none⟩), .pointer (some ⟨bk, 0, none⟩)] hEnc (hGood key) (fun X Y => Env bk bn A kn c N key X → Env bk bn A kn c N key Y) (fun xs => xs.map (·.1) = List.range q) q w := fun l J W hW hJ hY h0 => by
  have hEW := hE.below hW
  have HKN := Lib.hid hkn
  have mixed : Tryd.prog.follows .mixedOrders = true := by kernel_rfl
  clear hE hkn
  refine callsIn_of_wp Tryd.func72 rfl trivial ?_ rfl
  simp only [Tryd.ntmps72, List.size_toArray, List.length_cons, List.length_nil, Nat.reduceAdd, Nat.reduceSub, Array.replicate_succ, Array.replicate_zero, List.push_toArray, List.append_toArray, List.nil_append, List.cons_append]
  have hn1 : 1 ≤ n - 1 := by omega
  have hn2 : 1 ≤ n := by omega
  have HE := Lib.hid hEW
  clear hEW
  gi_wp2
  gi_loopw [4] (fun i wr => ∃ (k : Nat) (xs : List Hsh), k ≤ q ∧ Hid (xs.map (·.1) = List.range k) ∧ i = .int .i64 k ∧ J xs wr ∧ Hid (Env bk bn A kn c N key wr))
    (fun i _ => q - (intOf i).toNat)
  case atStart => exact ⟨0, [], Nat.zero_le _, Lib.hid rfl, rfl, h0, HE⟩
  case round =>
    obtain ⟨k, xs, hkq, HXS, rfl, hJx, HE2⟩ := hrel
    have cbn := HE2.out.2.1
    by_cases hlt : k < q
    · have r1 : (k : Int) * 32 < N := by omega
      have cbk := HE2.out.1
      have hxl : xs.length < q := by
        have := congrArg List.length HXS.out
        simp at this
        omega
      have CN := fun W' => number_any k W' (by omega)
      have hu64 : IntKind.u64.wrap (k : Int) = k := IntWalk.u64_in _ (by omega)
      have CH := fun W' P0 B1 c1 (hp0 : W'.cell? ⟨P0, 0, none⟩ = some (.slice A kn c)) (hp1 : W'.cell? ⟨P0, 1, none⟩ = some (.slice (some ⟨B1, 0, none⟩) 8 c1)) hx hy hK => hash_any P0 A (some ⟨B1, 0, none⟩) kn c 8 c1 key (numL k) W' hp0 hp1 HKN.out (numL_len k) hx hy (by omega) hK
      have HJ := Lib.hid hJ
      have HY := Lib.hid hY
      have HJX := Lib.hid hJx
      clear hJ hY hJx
      gi_wp2
      gi_region_with_o (first
        | (refine ⟨trivial, ?_⟩; gi_at_call 73; refine (callsIn_wide.2 (CN _)).mono ?_; rintro e w1 ⟨B1, c1, rfl, hc1, hl1, hr1, hb1⟩; rw [numL_len] at hc1 ⊢; have hw1 := bgo (bdr (brf (w := wr))) hb1; have hE1 := HE2.out.below hw1; have cbk1 := hE1.1; have HE3 := Lib.hid hE1; clear hE1)
        | (refine ⟨trivial, ?_⟩; gi_at_call 51; refine (callsIn_wide.2 (CH _ _ B1 c1 (new_0 _ _ _ _) (new_1 _ _ _ _) (HE3.out.below (bal brf _)).2.2.1 (hr1.below (bal brf _)) (HE3.out.below (bal brf _)).2.2.2)).mono ?_; rintro e w2 ⟨B2, c2, rfl, hc2, hl2, hr2, hb2⟩; rw [sumL_len] at hc2 ⊢; have hw2 := bgo (bal hw1 _) hb2; have hj2 := HJ.out xs wr w2 none HJX.out (grown_of_below hw2) (fun r e => by cases e); obtain ⟨fn, tmps, assign, body, hy, hR⟩ := HY.out xs (k, B2, c2) w2 hj2 ⟨hr2, hc2⟩ hxl; unfold hEnc at hy; dsimp only at hy; have HE4 := Lib.hid (HE2.out.below hw2))
        | (refine hR.mono ?_; rintro e W3 ⟨rfl, hJ3, hk3⟩))
      all_goals
        gi_wp2
        have hE5 := hk3 HE4.out
        exact ⟨⟨k + 1, xs ++ [(k, B2, c2)], by omega, Lib.hid (by rw [List.map_append, HXS.out, List.range_succ]; rfl), by congr 1, hJ3, Lib.hid hE5⟩, by show q - ((k : Int) + 1).toNat < q - (k : Int).toNat; omega⟩
    · have hkq2 : q = k := by omega
      subst hkq2
      have r1 : ¬ (q : Int) * 32 < N := by omega
      gi_wp2
      go_end0
      exact ⟨⟨_, rfl⟩, _, HXS.out, hJx⟩
end Go.Proofs.YtgclcpopibjocaaDoor
