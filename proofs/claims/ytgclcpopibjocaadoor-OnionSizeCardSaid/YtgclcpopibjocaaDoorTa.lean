/- Numbers in eight bytes: both answers' contracts. -/
import Derived.Test.YtgclcpopibjocaaDoorTp
import Derived.Test.YtgclcpopibjocaaDoorApp
namespace Go.Proofs.YtgclcpopibjocaaDoor
open Go.RowKit
set_option linter.unusedSimpArgs false
set_option linter.unusedVariables false

theorem infoByteT : (Tryd.prog.info? 5).map (fun i => (i.zero, i.size, i.bytes)) = some (some (.int .u8 0), 1, 1) := by kernel_rfl

/-- A row of one's own, and no error. -/
def IsNum (w : World) (ys : List Int) (e : Ending) (w' : World) : Prop :=
  ∃ B c, e = .returned (.tuple #[.slice (some ⟨B, 0, none⟩) ys.length c, .int .i64 0]) ∧ ys.length ≤ c ∧ w'.ownsRow w.heap.size 5 1 (.slice (some ⟨B, 0, none⟩) ys.length c) ys.length (nums .u8 ys) ∧ Below w.heap.size w w'

theorem own_make {w w1 : World} {m : Nat} (hown : w1.ownsRow w.heap.size 5 1 (.slice (some ⟨w.heap.size, 0, none⟩) m m) m (madeCells (Value.int .u8 0).cells (m * 1)).toList) : w1.ownsRow w.heap.size 5 1 (.slice (some ⟨w.heap.size, 0, none⟩) m m) m (nums .u8 (List.replicate m 0)) := by
  have e : (madeCells (Value.int .u8 0).cells (m * 1)).toList = nums .u8 (List.replicate m 0) := by
    simp [madeCells, Value.cells, nums, Nat.mod_one, List.map_replicate]
    apply List.ext_getElem <;> simp [Nat.mod_one]
  rwa [e] at hown

/-- A store into a row of one's own. -/
theorem own_store {w : World} {base g n c k : Nat} {e : TypeId} {xs : List Value} (h : w.ownsRow base e 1 (.slice (some ⟨g, 0, none⟩) n c) n xs) (u : Value) (hk : k < n) : (w.setCell ⟨g, k, none⟩ u).ownsRow base e 1 (.slice (some ⟨g, 0, none⟩) n c) n (xs.set k u) := by
  have hl := h.1
  refine ⟨by simpa using hl, ?_⟩
  rcases h.2 with ⟨h1, _⟩ | ⟨g', cap, cur, h1, hb, hg, hc1, hc2, hc3, hc4⟩
  · cases h1
  · have h2 := h1
    simp only [Value.slice.injEq, Option.some.injEq, Addr.mk.injEq] at h2
    obtain ⟨⟨rfl, _⟩, _, rfl⟩ := h2
    refine .inr ⟨g, c, cur.setIfInBounds k u, rfl, hb, ?_, hc1, hc2, by simpa using hc3, ?_⟩
    · simp [World.setCell, Array.getElem?_modify, hg]
    · rw [← hc4]
      apply List.ext_getElem?
      intro i
      simp only [List.getElem?_set, Array.toList_setIfInBounds, List.getElem?_take, List.length_take]
      by_cases hi : k = i
      · subst hi
        simp only [if_true, List.length_take, Array.length_toList, Nat.mul_one]
        rw [if_pos hk, if_pos (by omega), if_pos (by omega)]
      · simp [hi]

theorem low_set (v W k : Nat) (h : k < W) : (List.replicate (W - k) (0 : Int) ++ lowB v k).set (W - 1 - k) (((v / 2 ^ (8 * k)) % 256 : Nat) : Int) = List.replicate (W - (k + 1)) 0 ++ lowB v (k + 1) := by
  obtain ⟨m, hm⟩ : ∃ m, W - k = m + 1 := ⟨W - k - 1, by omega⟩
  rw [hm, show W - (k + 1) = m by omega, show W - 1 - k = m by omega, List.replicate_succ', List.append_assoc, List.set_append_right _ _ (by simp), List.length_replicate, Nat.sub_self, lowB]
  rfl

set_option maxHeartbeats 1000000 in
theorem wput8_any (v : Nat) (w : World) (hv : v < 18446744073709551616) :
    Calls Tryd.prog 59 #[.int .u64 v, .int .i64 8] w (IsNum w (lowB v 8)) := by
  obtain ⟨i0, hi, hz0, hz1, hz2⟩ := info_parts infoByteT
  go_enter Tryd.func59, Tryd.ntmps59
  go_wp2_with (at_make; refine wpList_make_full _ rfl _ _ 22 rfl w.heap.size 5 i0 (.int .u8 0) 1 Tryd.underlying22 hi hz0 hz1 .i64 .i64 _ _ 8 rfl rfl rfl rfl (by rw [hz2]; omega) (by unfold maxLen; omega) (Nat.le_refl _) ?_; intro w1 hown1 hgrow1)
  obtain ⟨hrow1, hb1, hl1⟩ := vrow_make rfl hown1 hgrow1
  have HO := Lib.hid (own_make hown1)
  clear hown1 hgrow1 hrow1 hi hz0 hz1 hz2
  go_loopw [27] (fun i wr => ∃ k : Nat, k ≤ 8 ∧ i = .int .i64 k ∧ wr.ownsRow w.heap.size 5 1 (.slice (some ⟨w.heap.size, 0, none⟩) 8 8) 8 (nums .u8 (List.replicate (8 - k) 0 ++ lowB v k)) ∧ Below w.heap.size w wr) (fun i _ => 8 - (intOf i).toNat)
  case atStart => exact ⟨0, Nat.zero_le _, rfl, by simpa [lowB] using HO.out, hb1⟩
  case round =>
    obtain ⟨k, hk, rfl, hown, hb⟩ := hrel
    have r0 : (0 : Int) ≤ k := by omega
    by_cases hlt : k < 8
    · have r1 : (k : Int) < 8 := by omega
      obtain ⟨g, cc, he, hcc, hrow, hgb, hgl, hl⟩ := vrow_of_own hown (by omega)
      simp only [Value.slice.injEq, Option.some.injEq, Addr.mk.injEq] at he
      obtain ⟨⟨rfl, _⟩, _, rfl⟩ := he
      have hlen : (List.replicate (8 - k) (0 : Int) ++ lowB v k).length = 8 := by simp [lowB_len]; omega
      obtain ⟨ck, fk⟩ := hrow (8 - 1 - k) _ (nums_at (by rw [hlen]; omega))
      have hst := own_store (k := 8 - 1 - k) hown (.int .u8 (((v / 2 ^ (8 * k)) % 256 : Nat) : Int)) (by omega)
      rw [show (nums .u8 (List.replicate (8 - k) (0 : Int) ++ lowB v k)).set (8 - 1 - k) (.int .u8 (((v / 2 ^ (8 * k)) % 256 : Nat) : Int)) = nums .u8 ((List.replicate (8 - k) (0 : Int) ++ lowB v k).set (8 - 1 - k) (((v / 2 ^ (8 * k)) % 256 : Nat) : Int)) by simp [nums, List.map_set], low_set v 8 k hlt] at hst
      have HST := Lib.hid hst
      have he : ((v : Int) / 2 ^ (8 * k) % 256) = ((v / 2 ^ (8 * k) % 256 : Nat) : Int) := by rw [Int.natCast_emod, Int.natCast_ediv, Int.natCast_pow]; rfl
      have HE := Lib.hid he
      clear hst hlen hrow he hown hl
      go_wp2_with fail
      rw [HE.out]
      exact ⟨⟨k + 1, by omega, by congr 1, HST.out, hb.setCell (p := ⟨w.heap.size, 8 - 1 - k, none⟩) (Nat.le_refl _) _⟩, by show 8 - ((k : Int) + 1).toNat < 8 - (k : Int).toNat; omega⟩
    · have hk8 : k = 8 := by omega
      subst hk8
      have HR := Lib.hid hown
      clear hown
      go_wp2_with fail
      go_ret2
      exact ⟨w.heap.size, 8, rfl, Nat.le_refl _, HR.out, hb⟩

theorem own_new (w : World) (x : Int) : (w.alloc (.cells #[.int .u8 x] 5)).ownsRow w.heap.size 5 1 (.slice (some ⟨w.heap.size, 0, none⟩) 1 1) 1 [.int .u8 x] :=
  ⟨rfl, .inr ⟨w.heap.size, 1, _, rfl, Nat.le_refl _, World.alloc_heap_new w _, Nat.le_refl _, by unfold maxLen; omega, rfl, rfl⟩⟩
theorem own_baseT {w : World} {b base : Nat} {e : TypeId} {s n : Nat} {v : Value} {xs : List Value} (h : w.ownsRow base e s v n xs) (hb : b ≤ base) : w.ownsRow b e s v n xs := by
  refine ⟨h.1, ?_⟩
  rcases h.2 with h1 | ⟨g, cap, cur, h1, h2, hh, hc⟩
  · exact .inl h1
  · exact .inr ⟨g, cap, cur, h1, Nat.le_trans hb h2, hh, hc⟩
theorem wdiv (v k : Nat) : ((v / 2 ^ (8 * k) : Nat) : Int) / 256 = ((v / 2 ^ (8 * (k + 1)) : Nat) : Int) := by
  rw [pow8, ← Nat.div_div_eq_div_mul]; rfl

set_option maxRecDepth 100000 in
set_option maxHeartbeats 1000000 in
theorem rput8_any (v : Nat) (w : World) (hv : v < 18446744073709551616) :
    Calls Tryd.prog 83 #[.int .u64 v, .int .i64 8] w (IsNum w (lowB v 8)) := by
  obtain ⟨i0, hi, hz0, hz1, hz2⟩ := info_parts infoByteT
  have h64 : v / 2 ^ (8 * 8) = 0 := Nat.div_eq_of_lt hv
  have H64 := Lib.hid h64
  have hrun : v / 2 ^ (8 * 0) = v := by simp
  have HR0 := Lib.hid hrun
  clear h64 hrun
  go_enter Tryd.func83, Tryd.ntmps83
  go_wp2_with fail
  go_loopw [0, 6, 14] (fun n s i wr => ∃ (k : Nat) (A : Option Addr) (c : Nat), k ≤ 8 ∧ i = .int .i64 k ∧ n = .int .u64 ((v / 2 ^ (8 * k) : Nat) : Int) ∧ s = .slice A k c ∧ wr.ownsRow w.heap.size 5 1 (.slice A k c) k (nums .u8 (lowB v k)) ∧ Below w.heap.size w wr) (fun _ _ i _ => 8 - (intOf i).toNat)
  case atStart => exact ⟨0, none, 0, Nat.zero_le _, rfl, by rw [HR0.out], rfl, ⟨rfl, .inl ⟨rfl, rfl⟩⟩, brf⟩
  case round =>
    obtain ⟨k, A, c, hk, rfl, rfl, rfl, hown, hb⟩ := hrel
    have r0 : (0 : Int) ≤ k := by omega
    by_cases hlt : k < 8
    · have r1 : (k : Int) < 8 := by omega
      have HQ := Lib.hid (wdiv v k)
      obtain ⟨q, hq⟩ : ∃ q, q = v / 2 ^ (8 * k) := ⟨_, rfl⟩
      have hql : q < 18446744073709551616 := by rw [hq]; exact Nat.lt_of_le_of_lt (Nat.div_le_self _ _) hv
      have HL : Hid (lowB v (k + 1) = ((q % 256 : Nat) : Int) :: lowB v k) := Lib.hid (by rw [lowB, hq])
      rw [← hq] at HQ ⊢
      clear hq
      have HRD := Lib.hid (Rd.of_own hown)
      have HZ := Lib.hid hb.size
      clear hown
      go_wp2_with (at_builtin; refine append_vs rfl _ _ 22 rfl wr.heap.size 5 i0 (.int .u8 0) 1 Tryd.underlying22 hi hz0 hz1 hz2 rfl (.slice (some ⟨wr.heap.size, 0, none⟩) 1 1) 1 [.int .u8 ((q : Int) % 256)] rfl ?c2 A k c (nums .u8 (lowB v k)) rfl (by simp [lowB_len]) (HRD.out.below (bal brf _)) (fun u hu => by obtain ⟨x, _, rfl⟩ := List.mem_map.1 hu; rfl) (by unfold maxLen; omega) (by omega) (by simp) ?_; rotate_left; intro v6 w6 hown6 hgrow6; obtain ⟨A6, c6, rfl⟩ := own_slice hown6)
      case c2 => exact own_new _ _
      have hb6 : Below wr.heap.size wr w6 := (bal brf _).grown hgrow6 (by simp) (fun g hg => by simp [Value.ownBlock] at hg; omega)
      have hown7 : w6.ownsRow w.heap.size 5 1 (.slice A6 (k + 1) c6) (k + 1) (nums .u8 (lowB v (k + 1))) := by
        rw [HL.out, Nat.add_comm k 1]
        exact own_baseT hown6 HZ.out
      refine ⟨⟨k + 1, A6, c6, by omega, by congr 1, ?_, ?_, hown7, bgo hb hb6⟩, by show 8 - ((k : Int) + 1).toNat < 8 - (k : Int).toNat; omega⟩
      · rw [← HQ.out]
      · rw [Nat.add_comm]
    · have hk8 : k = 8 := by omega
      subst hk8
      rw [H64.out]
      have HR := Lib.hid hown
      clear hown
      go_wp2_with fail
      go_ret2
      obtain ⟨g, cc, he, hcc, hrow, hgb, hgl, hl⟩ := vrow_of_own HR.out (by omega)
      cases he
      exact ⟨g, _, rfl, hcc, HR.out, hb⟩
end Go.Proofs.YtgclcpopibjocaaDoor
