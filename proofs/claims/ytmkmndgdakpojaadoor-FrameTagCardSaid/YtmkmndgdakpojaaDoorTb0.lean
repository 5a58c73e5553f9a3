/- The contract of stamp.Check: of any list. -/
import Derived.Test.YtmkmndgdakpojaaDoorOwn
import Derived.Test.YtmkmndgdakpojaaDoorBytes
import Derived.Test.YtmkmndgdakpojaaDoorApp
import Derived.Test.YtmkmndgdakpojaaDoorMa
namespace Go.Proofs.YtmkmndgdakpojaaDoor
open Go.RowKit
set_option linter.unusedSimpArgs false
set_option linter.unusedVariables false
set_option maxRecDepth 100000

/-- A chain that may be. -/
def goodSt (xs : List Int) : Prop := 1 ≤ xs.length ∧ xs.length ≤ 8 ∧ (∀ x ∈ xs, 1 ≤ x ∧ x ≤ 16) ∧ xs.Nodup

/-- The first k of them may be in a chain. -/
def goodTo (xs : List Int) (k : Nat) : Prop := (∀ x ∈ xs.take k, 1 ≤ x ∧ x ≤ 16) ∧ (xs.take k).Nodup

theorem take_snoc {xs : List Int} {k : Nat} (h : k < xs.length) : xs.take (k + 1) = xs.take k ++ [xs.getD k 0] := by
  rw [List.take_succ_eq_append_getElem h]
  simp [List.getD, List.getElem?_eq_getElem h]

theorem goodTo_succ {xs : List Int} {k : Nat} (hk : k < xs.length) (h : goodTo xs k) (h1 : 1 ≤ xs.getD k 0) (h2 : xs.getD k 0 ≤ 16) (h3 : xs.getD k 0 ∉ xs.take k) : goodTo xs (k + 1) := by
  unfold goodTo
  rw [take_snoc hk]
  refine ⟨fun x hx => ?_, ?_⟩
  · rcases List.mem_append.1 hx with hx | hx
    · exact h.1 x hx
    · rw [List.mem_singleton] at hx; subst hx; exact ⟨h1, h2⟩
  · rw [List.nodup_append]
    exact ⟨h.2, by simp, fun a ha b hb => by rw [List.mem_singleton] at hb; subst hb; intro e; rw [e] at ha; exact h3 ha⟩

theorem goodSt_of_to {xs : List Int} (h1 : 1 ≤ xs.length) (h2 : xs.length ≤ 8) (h : goodTo xs xs.length) : goodSt xs := by
  unfold goodTo at h
  rw [List.take_length] at h
  exact ⟨h1, h2, h.1, h.2⟩

theorem not_good_range {xs : List Int} {k : Nat} (hk : k < xs.length) (h : xs.getD k 0 < 1 ∨ 16 < xs.getD k 0) : ¬ goodSt xs := fun hg => by
  have hm : xs.getD k 0 ∈ xs := by simp [List.getD, List.getElem?_eq_getElem hk]
  have := hg.2.2.1 _ hm
  omega

theorem not_good_twice {xs : List Int} {k : Nat} (hk : k < xs.length) (h : xs.getD k 0 ∈ xs.take k) : ¬ goodSt xs := fun hg => by
  have hn : (xs.take (k + 1)).Nodup := hg.2.2.2.sublist (List.take_sublist _ _)
  rw [take_snoc hk, List.nodup_append] at hn
  exact hn.2.2 _ h _ (List.mem_singleton.2 rfl) rfl

def StEnds (xs : List Int) (w : World) (e : Ending) (w' : World) : Prop := ((goodSt xs ∧ e = .returned (.int .i64 0)) ∨ (¬ goodSt xs ∧ e = .returned (.int .i64 1))) ∧ Below w.heap.size w w'

set_option maxHeartbeats 2000000 in
theorem stCheck_any (ep ro : Int) (A : Option Addr) (n c : Nat) (xs : List Int) (w : World) (hn : xs.length = n) (hx : Rd w A (nums .i64 xs)) :
    Calls Tryd.prog 36 #[.agg #[.int .u64 ep, .int .u64 ro, .slice A n c]] w (StEnds xs w) := by
  have HN := Lib.hid hn
  clear hn
  by_cases hl : 1 ≤ n ∧ n ≤ 8
  · obtain ⟨hl1, hl2⟩ := hl
    go_enter Tryd.func36, Tryd.ntmps36
    go_wp2_with fail
    go_loopw [5, 19] (fun _ i wr => ∃ k : Nat, k ≤ n ∧ i = .int .i64 k ∧ goodTo xs k ∧ (∀ j : Nat, j ≤ 16 → wr.cell? ⟨w.heap.size + 1, j, none⟩ = some (.bool (decide ((j : Int) ∈ xs.take k)))) ∧ (∀ j : Nat, wr.frozen? ⟨w.heap.size + 1, j, none⟩ = false) ∧ Below w.heap.size w wr) (fun _ i _ => n - (intOf i).toNat)
    case atStart =>
      refine ⟨0, Nat.zero_le _, rfl, ⟨by simp, by simp⟩, fun j hj => ?_, fun j => by simp [go_sem], bal (bal brf _) _⟩
      rw [World.cell?_alloc_at _ _ _ _ (by simp)]
      show (List.replicate 17 (Value.bool false)).toArray[j]? = _
      have hj' : j < 17 := by omega
      rw [List.getElem?_toArray, List.getElem?_replicate, if_pos hj']
      simp
    case round =>
      obtain ⟨k, hk, rfl, hg, hc, hz, hB⟩ := hrel
      by_cases hkn : k < n
      · obtain ⟨b1, o1, rfl, l1, c1⟩ := (hx.below hB).at_ (by simp [HN.out]; omega)
        have g1 := c1 k _ (nums_at (by rw [HN.out]; exact hkn))
        have hlen : k < xs.length := by rw [HN.out]; exact hkn
        clear c1 hx
        by_cases r1 : xs.getD k 0 < 1 ∨ 16 < xs.getD k 0
        · have hend := not_good_range hlen r1
          have HE := Lib.hid hend
          obtain ⟨x, hxk⟩ : ∃ x, xs.getD k 0 = x := ⟨_, rfl⟩
          rw [hxk] at g1 r1
          clear hend hg hc hz hxk
          by_cases r2 : x < 1
          · clear r1
            go_wp2
            go_ret
            exact ⟨.inr ⟨HE.out, rfl⟩, hB⟩
          · have r3 : 16 < x := by omega
            clear r1
            go_wp2
            go_ret
            exact ⟨.inr ⟨HE.out, rfl⟩, hB⟩
        · obtain ⟨m, hm⟩ := Int.eq_ofNat_of_zero_le (show 0 ≤ xs.getD k 0 by omega)
          have hm1 : 1 ≤ m := by omega
          have hm2 : m ≤ 16 := by omega
          have gm := hc m hm2
          have zm := hz m
          have HG := Lib.hid hg
          have HC := Lib.hid hc
          have HZ := Lib.hid hz
          have hm1i : (1 : Int) ≤ (m : Int) := by omega
          have hm2i : (m : Int) ≤ 16 := by omega
          by_cases ht : xs.getD k 0 ∈ xs.take k
          · have HE := Lib.hid (not_good_twice hlen ht)
            rw [hm] at g1 ht
            rw [decide_eq_true ht] at gm
            clear hg hc hz r1 hm ht
            go_wp2
            go_ret
            exact ⟨.inr ⟨HE.out, rfl⟩, hB⟩
          · have HT := Lib.hid ht
            have HM := Lib.hid hm
            rw [hm] at g1 ht
            rw [decide_eq_false ht] at gm
            have hsz : w.heap.size + 1 < wr.heap.size := cell_lt gm
            clear hg hc hz r1 hm ht
            go_wp2
            refine ⟨⟨k + 1, by omega, by go_num, goodTo_succ hlen HG.out (by rw [HM.out]; omega) (by rw [HM.out]; omega) HT.out, fun j hj => ?_, fun j => by simpa using HZ.out j, hB.setCell (by show _ ≤ w.heap.size + 1; omega) _⟩, by simp [intOf]; omega⟩
            rw [take_snoc hlen, HM.out]
            by_cases hjm : j = m
            · subst hjm
              rw [cell_setCell_eq gm]
              simp
            · rw [cell_setCell_off (Ne.symm hjm), HC.out j hj]
              congr 2
              simp
              omega
      · obtain rfl : k = n := by omega
        have HE := Lib.hid (goodSt_of_to (by rw [HN.out]; omega) (by rw [HN.out]; omega) (by rw [HN.out]; exact hg))
        clear hg hc hz
        go_wp2
        go_ret
        exact ⟨.inl ⟨HE.out, rfl⟩, hB⟩
  · have HE : Hid (¬ goodSt xs) := Lib.hid (fun h => hl (by rw [← HN.out]; exact ⟨h.1, h.2.1⟩))
    by_cases h1 : n < 1
    · clear hl
      go_enter Tryd.func36, Tryd.ntmps36
      go_wp2_with fail
      go_ret
      exact ⟨.inr ⟨HE.out, rfl⟩, bal brf _⟩
    · have h2 : 8 < n := by omega
      clear hl
      go_enter Tryd.func36, Tryd.ntmps36
      go_wp2_with fail
      go_ret
      exact ⟨.inr ⟨HE.out, rfl⟩, bal brf _⟩
end Go.Proofs.YtmkmndgdakpojaaDoor
/- Numbers as bytes, and stamps' bytes, in plain lists. -/
namespace Go.Proofs.YtmkmndgdakpojaaDoor
set_option linter.unusedVariables false
set_option linter.unusedSimpArgs false

/-- The last k bytes of a number, the highest one first. -/
def lowB (v : Nat) : Nat → List Int
  | 0 => []
  | k + 1 => (((v / 2 ^ (8 * k)) % 256 : Nat) : Int) :: lowB v k
theorem lowB_len (v k : Nat) : (lowB v k).length = k := by
  induction k with
  | zero => rfl
  | succ k ih => simp [lowB, ih]
theorem lowB_byt (v k : Nat) : Byt (lowB v k) := by
  induction k with
  | zero => intro x hx; cases hx
  | succ k ih =>
    intro x hx
    rcases List.mem_cons.1 hx with rfl | hx
    · have := Nat.mod_lt (v / 2 ^ (8 * k)) (show 0 < 256 by omega)
      omega
    · exact ih x hx
theorem pow8 (k : Nat) : 2 ^ (8 * (k + 1)) = 2 ^ (8 * k) * 256 := by
  rw [Nat.mul_add, Nat.pow_add]
theorem lowB_mod (v m : Nat) : ∀ k, k ≤ m → lowB (v % 2 ^ (8 * m)) k = lowB v k
  | 0, _ => rfl
  | k + 1, h => by
    rw [lowB, lowB, lowB_mod v m k (by omega)]
    congr 2
    obtain ⟨d, rfl⟩ : ∃ d, m = k + 1 + d := ⟨m - (k + 1), by omega⟩
    have e : 2 ^ (8 * (k + 1 + d)) = 2 ^ (8 * k) * (256 * 2 ^ (8 * d)) := by
      rw [Nat.mul_add, Nat.pow_add, pow8, Nat.mul_assoc]
    rw [e, Nat.mod_mul_right_div_self, Nat.mod_mul_right_mod]

/-- The number that bytes are. -/
def valB (l : List Int) : Nat := l.foldl (fun n x => n * 256 + x.toNat) 0
theorem valB_snoc (l : List Int) (x : Int) : valB (l ++ [x]) = valB l * 256 + x.toNat := by simp [valB]
theorem foldB_from (l : List Int) : ∀ n, l.foldl (fun n x => n * 256 + x.toNat) n = n * 2 ^ (8 * l.length) + valB l := by
  induction l with
  | nil => intro n; simp [valB]
  | cons x r ih =>
    intro n
    have h1 := ih (n * 256 + x.toNat)
    have h2 := ih (0 * 256 + x.toNat)
    have e : valB (x :: r) = r.foldl (fun n x => n * 256 + x.toNat) (0 * 256 + x.toNat) := rfl
    rw [List.foldl_cons, h1, e, h2, List.length_cons, pow8, Nat.zero_mul, Nat.zero_add, Nat.add_mul, Nat.mul_assoc, Nat.mul_comm 256, Nat.add_assoc]
theorem valB_cons (x : Int) (r : List Int) : valB (x :: r) = x.toNat * 2 ^ (8 * r.length) + valB r := by
  have h := foldB_from r x.toNat
  have e : valB (x :: r) = r.foldl (fun n x => n * 256 + x.toNat) (0 * 256 + x.toNat) := rfl
  rw [e, Nat.zero_mul, Nat.zero_add, h]
theorem valB_lt {l : List Int} (h : Byt l) : valB l < 2 ^ (8 * l.length) := by
  induction l with
  | nil => simp [valB]
  | cons x r ih =>
    have h1 := ih (fun y hy => h y (List.mem_cons_of_mem _ hy))
    have h2 := h x (List.mem_cons_self ..)
    rw [valB_cons, List.length_cons, pow8]
    have h3 : x.toNat ≤ 255 := by omega
    have h4 := Nat.mul_le_mul_right (2 ^ (8 * r.length)) h3
    rw [Nat.mul_comm (2 ^ (8 * r.length)) 256]
    omega
theorem valB_low (v : Nat) : ∀ k, valB (lowB v k) = v % 2 ^ (8 * k)
  | 0 => by simp [lowB, valB, Nat.mod_one]
  | k + 1 => by
    rw [lowB, valB_cons, lowB_len, valB_low v k, pow8, Int.toNat_natCast, Nat.mod_mul, Nat.mul_comm, Nat.add_comm]
theorem low_valB {l : List Int} (h : Byt l) : lowB (valB l) l.length = l := by
  induction l with
  | nil => rfl
  | cons x r ih =>
    have hr : Byt r := fun y hy => h y (List.mem_cons_of_mem _ hy)
    have h2 := h x (List.mem_cons_self ..)
    have hlt := valB_lt hr
    rw [List.length_cons, lowB]
    have e1 : valB (x :: r) / 2 ^ (8 * r.length) = x.toNat := by
      rw [valB_cons, Nat.mul_comm, Nat.mul_add_div (Nat.two_pow_pos _), Nat.div_eq_of_lt hlt, Nat.add_zero]
    have e2 : lowB (valB (x :: r)) r.length = lowB (valB r) r.length := by
      rw [← lowB_mod (valB (x :: r)) r.length _ (Nat.le_refl _), ← lowB_mod (valB r) r.length _ (Nat.le_refl _)]
      congr 1
      rw [valB_cons, Nat.mul_comm, Nat.mul_add_mod]
    rw [e1, e2, ih hr, Nat.mod_eq_of_lt (by omega)]
    congr 1
    omega

/-- A stamp's bytes. -/
def stB (ep ro : Nat) (xs : List Int) : List Int := (lowB ep 8 ++ lowB ro 8) ++ [((xs.length : Nat) : Int)] ++ xs
theorem stB_len (ep ro : Nat) (xs : List Int) : (stB ep ro xs).length = 17 + xs.length := by
  simp [stB, lowB_len]; omega
theorem stB_byt {ep ro : Nat} {xs : List Int} (h : goodSt xs) : Byt (stB ep ro xs) := fun x hx => by
  obtain ⟨h1, h2, h3, _⟩ := h
  simp only [stB, List.mem_append, List.mem_singleton] at hx
  rcases hx with ((hx | hx) | hx) | hx
  · exact lowB_byt _ _ x hx
  · exact lowB_byt _ _ x hx
  · omega
  · have := h3 x hx; omega
end Go.Proofs.YtmkmndgdakpojaaDoor
/- Numbers in eight bytes: both answers' contracts. -/
namespace Go.Proofs.YtmkmndgdakpojaaDoor
open Go.RowKit
set_option linter.unusedSimpArgs false
set_option linter.unusedVariables false
set_option maxRecDepth 100000

theorem infoByteT : (Tryd.prog.info? 5).map (fun i => (i.zero, i.size, i.bytes)) = some (some (.int .u8 0), 1, 1) := by kernel_rfl

/-- A row of one's own, and no error. -/
def IsNum (w : World) (ys : List Int) (e : Ending) (w' : World) : Prop :=
  ∃ B c, e = .returned (.tuple #[.slice (some ⟨B, 0, none⟩) ys.length c, .int .i64 0]) ∧ ys.length ≤ c ∧ w'.ownsRow w.heap.size 5 1 (.slice (some ⟨B, 0, none⟩) ys.length c) ys.length (nums .u8 ys) ∧ Below w.heap.size w w'

theorem own_make {w w1 : World} {m : Nat} (hown : w1.ownsRow w.heap.size 5 1 (.slice (some ⟨w.heap.size, 0, none⟩) m m) m (madeCells (Value.int .u8 0).cells (m * 1)).toList) : w1.ownsRow w.heap.size 5 1 (.slice (some ⟨w.heap.size, 0, none⟩) m m) m (nums .u8 (List.replicate m 0)) := by
  have e : (madeCells (Value.int .u8 0).cells (m * 1)).toList = nums .u8 (List.replicate m 0) := by
    simp [madeCells, Value.cells, nums, Nat.mod_one, List.map_replicate]
    apply List.ext_getElem <;> simp [Nat.mod_one]
  rwa [e] at hown

/-- A store into a row of one's own. -/
theorem own_store {w : World} {base g n c k : Nat} {e : TypeId} {xs : List Value} (h : w.ownsRow base e 1 (.slice (some ⟨g, 0, none⟩) n c) n xs) (u : Value) (hk : k < n) : (w.setCell ⟨g, k, none⟩ u).ownsRow base e 1 (.slice (some ⟨g, 0, none⟩) n c) n (xs.set k u) := by
  have hl := h.1
  refine ⟨by simpa using hl, ?_⟩
  rcases h.2 with ⟨h1, _⟩ | ⟨g', cap, cur, h1, hb, hg, hc1, hc2, hc3, hc4⟩
  · cases h1
  · have h2 := h1
    simp only [Value.slice.injEq, Option.some.injEq, Addr.mk.injEq] at h2
    obtain ⟨⟨rfl, _⟩, _, rfl⟩ := h2
    refine .inr ⟨g, c, cur.setIfInBounds k u, rfl, hb, ?_, hc1, hc2, by simpa using hc3, ?_⟩
    · simp [World.setCell, Array.getElem?_modify, hg]
    · rw [← hc4]
      apply List.ext_getElem?
      intro i
      simp only [List.getElem?_set, Array.toList_setIfInBounds, List.getElem?_take, List.length_take]
      by_cases hi : k = i
      · subst hi
        simp only [if_true, List.length_take, Array.length_toList, Nat.mul_one]
        rw [if_pos hk, if_pos (by omega), if_pos (by omega)]
      · simp [hi]

theorem low_set (v W k : Nat) (h : k < W) : (List.replicate (W - k) (0 : Int) ++ lowB v k).set (W - 1 - k) (((v / 2 ^ (8 * k)) % 256 : Nat) : Int) = List.replicate (W - (k + 1)) 0 ++ lowB v (k + 1) := by
  obtain ⟨m, hm⟩ : ∃ m, W - k = m + 1 := ⟨W - k - 1, by omega⟩
  rw [hm, show W - (k + 1) = m by omega, show W - 1 - k = m by omega, List.replicate_succ', List.append_assoc, List.set_append_right _ _ (by simp), List.length_replicate, Nat.sub_self, lowB]
  rfl

set_option maxHeartbeats 1000000 in
theorem wput8_any (v : Nat) (w : World) (hv : v < 18446744073709551616) :
    Calls Tryd.prog 29 #[.int .u64 v, .int .i64 8] w (IsNum w (lowB v 8)) := by
  obtain ⟨i0, hi, hz0, hz1, hz2⟩ := info_parts infoByteT
  go_enter Tryd.func29, Tryd.ntmps29
  go_wp2_with (at_make; refine wpList_make_full _ rfl _ _ 22 rfl w.heap.size 5 i0 (.int .u8 0) 1 Tryd.underlying22 hi hz0 hz1 .i64 .i64 _ _ 8 rfl rfl rfl rfl (by rw [hz2]; omega) (by unfold maxLen; omega) (Nat.le_refl _) ?_; intro w1 hown1 hgrow1)
  obtain ⟨hrow1, hb1, hl1⟩ := vrow_make rfl hown1 hgrow1
  have HO := Lib.hid (own_make hown1)
  clear hown1 hgrow1 hrow1 hi hz0 hz1 hz2
  go_loopw [27] (fun i wr => ∃ k : Nat, k ≤ 8 ∧ i = .int .i64 k ∧ wr.ownsRow w.heap.size 5 1 (.slice (some ⟨w.heap.size, 0, none⟩) 8 8) 8 (nums .u8 (List.replicate (8 - k) 0 ++ lowB v k)) ∧ Below w.heap.size w wr) (fun i _ => 8 - (intOf i).toNat)
  case atStart => exact ⟨0, Nat.zero_le _, rfl, by simpa [lowB] using HO.out, hb1⟩
  case round =>
    obtain ⟨k, hk, rfl, hown, hb⟩ := hrel
    have r0 : (0 : Int) ≤ k := by omega
    by_cases hlt : k < 8
    · have r1 : (k : Int) < 8 := by omega
      obtain ⟨g, cc, he, hcc, hrow, hgb, hgl, hl⟩ := vrow_of_own hown (by omega)
      simp only [Value.slice.injEq, Option.some.injEq, Addr.mk.injEq] at he
      obtain ⟨⟨rfl, _⟩, _, rfl⟩ := he
      have hlen : (List.replicate (8 - k) (0 : Int) ++ lowB v k).length = 8 := by simp [lowB_len]; omega
      obtain ⟨ck, fk⟩ := hrow (8 - 1 - k) _ (nums_at (by rw [hlen]; omega))
      have hst := own_store (k := 8 - 1 - k) hown (.int .u8 (((v / 2 ^ (8 * k)) % 256 : Nat) : Int)) (by omega)
      rw [show (nums .u8 (List.replicate (8 - k) (0 : Int) ++ lowB v k)).set (8 - 1 - k) (.int .u8 (((v / 2 ^ (8 * k)) % 256 : Nat) : Int)) = nums .u8 ((List.replicate (8 - k) (0 : Int) ++ lowB v k).set (8 - 1 - k) (((v / 2 ^ (8 * k)) % 256 : Nat) : Int)) by simp [nums, List.map_set], low_set v 8 k hlt] at hst
      have HST := Lib.hid hst
      have he : ((v : Int) / 2 ^ (8 * k) % 256) = ((v / 2 ^ (8 * k) % 256 : Nat) : Int) := by rw [Int.natCast_emod, Int.natCast_ediv, Int.natCast_pow]; rfl
      have HE := Lib.hid he
      clear hst hlen hrow he hown hl
      go_wp2_with fail
      rw [HE.out]
      exact ⟨⟨k + 1, by omega, by congr 1, HST.out, hb.setCell (p := ⟨w.heap.size, 8 - 1 - k, none⟩) (Nat.le_refl _) _⟩, by show 8 - ((k : Int) + 1).toNat < 8 - (k : Int).toNat; omega⟩
    · have hk8 : k = 8 := by omega
      subst hk8
      have HR := Lib.hid hown
      clear hown
      go_wp2_with fail
      go_ret2
      exact ⟨w.heap.size, 8, rfl, Nat.le_refl _, HR.out, hb⟩

theorem own_new (w : World) (x : Int) : (w.alloc (.cells #[.int .u8 x] 5)).ownsRow w.heap.size 5 1 (.slice (some ⟨w.heap.size, 0, none⟩) 1 1) 1 [.int .u8 x] :=
  ⟨rfl, .inr ⟨w.heap.size, 1, _, rfl, Nat.le_refl _, World.alloc_heap_new w _, Nat.le_refl _, by unfold maxLen; omega, rfl, rfl⟩⟩
theorem own_baseT {w : World} {b base : Nat} {e : TypeId} {s n : Nat} {v : Value} {xs : List Value} (h : w.ownsRow base e s v n xs) (hb : b ≤ base) : w.ownsRow b e s v n xs := by
  refine ⟨h.1, ?_⟩
  rcases h.2 with h1 | ⟨g, cap, cur, h1, h2, hh, hc⟩
  · exact .inl h1
  · exact .inr ⟨g, cap, cur, h1, Nat.le_trans hb h2, hh, hc⟩
theorem wdiv (v k : Nat) : ((v / 2 ^ (8 * k) : Nat) : Int) / 256 = ((v / 2 ^ (8 * (k + 1)) : Nat) : Int) := by
  rw [pow8, ← Nat.div_div_eq_div_mul]; rfl

set_option maxRecDepth 100000 in
set_option maxHeartbeats 1000000 in
theorem rput8_any (v : Nat) (w : World) (hv : v < 18446744073709551616) :
    Calls Tryd.prog 45 #[.int .u64 v, .int .i64 8] w (IsNum w (lowB v 8)) := by
  obtain ⟨i0, hi, hz0, hz1, hz2⟩ := info_parts infoByteT
  have h64 : v / 2 ^ (8 * 8) = 0 := Nat.div_eq_of_lt hv
  have H64 := Lib.hid h64
  have hrun : v / 2 ^ (8 * 0) = v := by simp
  have HR0 := Lib.hid hrun
  clear h64 hrun
  go_enter Tryd.func45, Tryd.ntmps45
  go_wp2_with fail
  go_loopw [0, 6, 14] (fun n s i wr => ∃ (k : Nat) (A : Option Addr) (c : Nat), k ≤ 8 ∧ i = .int .i64 k ∧ n = .int .u64 ((v / 2 ^ (8 * k) : Nat) : Int) ∧ s = .slice A k c ∧ wr.ownsRow w.heap.size 5 1 (.slice A k c) k (nums .u8 (lowB v k)) ∧ Below w.heap.size w wr) (fun _ _ i _ => 8 - (intOf i).toNat)
  case atStart => exact ⟨0, none, 0, Nat.zero_le _, rfl, by rw [HR0.out], rfl, ⟨rfl, .inl ⟨rfl, rfl⟩⟩, brf⟩
  case round =>
    obtain ⟨k, A, c, hk, rfl, rfl, rfl, hown, hb⟩ := hrel
    have r0 : (0 : Int) ≤ k := by omega
    by_cases hlt : k < 8
    · have r1 : (k : Int) < 8 := by omega
      have HQ := Lib.hid (wdiv v k)
      obtain ⟨q, hq⟩ : ∃ q, q = v / 2 ^ (8 * k) := ⟨_, rfl⟩
      have hql : q < 18446744073709551616 := by rw [hq]; exact Nat.lt_of_le_of_lt (Nat.div_le_self _ _) hv
      have HL : Hid (lowB v (k + 1) = ((q % 256 : Nat) : Int) :: lowB v k) := Lib.hid (by rw [lowB, hq])
      rw [← hq] at HQ ⊢
      clear hq
      have HRD := Lib.hid (Rd.of_own hown)
      have HZ := Lib.hid hb.size
      clear hown
      go_wp2_with (at_builtin; refine append_vs rfl _ _ 22 rfl wr.heap.size 5 i0 (.int .u8 0) 1 Tryd.underlying22 hi hz0 hz1 hz2 rfl (.slice (some ⟨wr.heap.size, 0, none⟩) 1 1) 1 [.int .u8 ((q : Int) % 256)] rfl ?c2 A k c (nums .u8 (lowB v k)) rfl (by simp [lowB_len]) (HRD.out.below (bal brf _)) (fun u hu => by obtain ⟨x, _, rfl⟩ := List.mem_map.1 hu; rfl) (by unfold maxLen; omega) (by omega) (by simp) ?_; rotate_left; intro v6 w6 hown6 hgrow6; obtain ⟨A6, c6, rfl⟩ := own_slice hown6)
      case c2 => exact own_new _ _
      have hb6 : Below wr.heap.size wr w6 := (bal brf _).grown hgrow6 (by simp) (fun g hg => by simp [Value.ownBlock] at hg; omega)
      have hown7 : w6.ownsRow w.heap.size 5 1 (.slice A6 (k + 1) c6) (k + 1) (nums .u8 (lowB v (k + 1))) := by
        rw [HL.out, Nat.add_comm k 1]
        exact own_baseT hown6 HZ.out
      refine ⟨⟨k + 1, A6, c6, by omega, by congr 1, ?_, ?_, hown7, bgo hb hb6⟩, by show 8 - ((k : Int) + 1).toNat < 8 - (k : Int).toNat; omega⟩
      · rw [← HQ.out]
      · rw [Nat.add_comm]
    · have hk8 : k = 8 := by omega
      subst hk8
      rw [H64.out]
      have HR := Lib.hid hown
      clear hown
      go_wp2_with fail
      go_ret2
      obtain ⟨g, cc, he, hcc, hrow, hgb, hgl, hl⟩ := vrow_of_own HR.out (by omega)
      cases he
      exact ⟨g, _, rfl, hcc, HR.out, hb⟩
end Go.Proofs.YtmkmndgdakpojaaDoor
/- append as a step of a region that draws; three rows of bytes, one behind the other. -/
namespace Go.Proofs.YtmkmndgdakpojaaDoor
open Go.RowKit
set_option linter.unusedSimpArgs false
set_option linter.unusedVariables false
set_option maxRecDepth 100000

theorem own_drew {w : World} {base : Nat} {e : TypeId} {s n : Nat} {v : Value} {xs : List Value} (h : w.ownsRow base e s v n xs) : w.drew.ownsRow base e s v n xs := h

/-- What append does to a row of one's own, run alone: nil let in. -/
theorem run_append_vs {P : Program} (w : World) (t ty : TypeId) (base : Nat) (e : TypeId) (i : TypeInfo) (z : Value) (bytes : Nat) (ht : P.underlying t = some (.slice e)) (hi : P.info? e = some i) (hz : i.zero = some z)
    (hsize : i.size = 1) (hby : i.bytes = bytes) (hzs : z.cells.size = 1)
    (v : Value) (k : Nat) (xs : List Value) (hown : w.ownsRow base e 1 v k xs)
    (A : Option Addr) (n c : Nat) (ys : List Value) (hn : ys.length = n) (hr : Rd w A ys) (hy : ∀ u ∈ ys, u.oneCell' = true)
    (h63 : k + n ≤ maxLen) (hbytes : (k + n) * bytes ≤ 140737488355328) (hbase : base ≤ w.heap.size) :
    ∃ v' w', (Builtin.append_ #[t, t] ty #[v, .slice A n c]).run P w = .ok v' w' ∧ w'.ownsRow base e 1 v' (k + n) (xs ++ ys) ∧ w.grownBy w' v.ownBlock := by
  have hsome : ∀ ad : Addr, A = some ad → (∀ j u, ys[j]? = some u → w.cell? (ad.add j) = some u) → ∃ v' w', (Builtin.append_ #[t, t] ty #[v, .slice A n c]).run P w = .ok v' w' ∧ w'.ownsRow base e 1 v' (k + n) (xs ++ ys) ∧ w.grownBy w' v.ownBlock := by
    intro ad hA hc
    subst hA
    obtain ⟨v', w', h1, h2, h3, _⟩ := run_append_own (P := P) (w := w) base t ty e i z 1 bytes ht hi hz hsize hby hzs (by decide) v k xs hown ad n c ys (by simp [hn]) hc hy h63 hbytes hbase
    exact ⟨v', w', h1, h2, h3⟩
  cases A with
  | some ad =>
    rcases Nat.eq_zero_or_pos n with h0 | h0
    · have : ys = [] := List.eq_nil_of_length_eq_zero (by omega)
      subst this
      exact hsome ad rfl (fun j u hu => by simp at hu)
    · obtain ⟨b, off, he, hlt, hc⟩ := hr.at_ (by omega)
      cases he
      exact hsome _ rfl (fun j u hu => by rw [addr_off]; exact hc j u hu)
  | none =>
    have h0 : ys = [] := by
      rcases hr with h | ⟨_, _, h, _⟩
      · exact h
      · cases h
    subst h0
    have h0 : n = 0 := by simpa using hn.symm
    subst h0
    exact ⟨v, w, append_none' (P := P) w t ty e i ht hi base 1 c v k xs hown, by simpa using hown, World.grownBy.refl _ _⟩

/-- append onto a row of one's own, as one step of a region that draws. -/
theorem step_append_vs {P : Program} {ops : Array Oper} {o : Oper} {a : Act} {w : World} {K : Act → World → Prop} {Q : Exit → Act → World → Prop} {E : Prop} (hgd : o.guard = none) (s x : Operand) (t : TypeId)
    (ho : o.op = .call { callee := .builtin .append, args := #[s, x], argTypes := #[t, t] })
    (base : Nat) (e : TypeId) (i : TypeInfo) (z : Value) (bytes : Nat) (ht : P.underlying t = some (.slice e)) (hi : P.info? e = some i) (hz : i.zero = some z)
    (hsize : i.size = 1) (hby : i.bytes = bytes) (hzs : z.cells.size = 1)
    (v : Value) (k : Nat) (xs : List Value) (hs : a.eval s = v) (hown : w.ownsRow base e 1 v k xs)
    (A : Option Addr) (n c : Nat) (ys : List Value) (hx : a.eval x = .slice A n c) (hn : ys.length = n) (hr : Rd w A ys) (hy : ∀ u ∈ ys, u.oneCell' = true)
    (h63 : k + n ≤ maxLen) (hbytes : (k + n) * bytes ≤ 140737488355328) (hbase : base ≤ w.heap.size)
    (h : ∀ v' w', w'.ownsRow base e 1 v' (k + n) (xs ++ ys) → w.grownBy w' v.ownBlock → K (a.put o.dst v') w') :
    if Region.wanted o (yielded ops a.tmps) = true then Oper.wp P o a w K Q else E := by
  rw [if_pos (by simp [Region.wanted, hgd])]
  obtain ⟨v', w', hrun, h2, h3⟩ := run_append_vs (P := P) w t o.type base e i z bytes ht hi hz hsize hby hzs v k xs hown A n c ys hn hr hy h63 hbytes hbase
  unfold Oper.wp execOp
  simp only [ho, resolve, invoke, builtin, Sem.run_bind, Sem.run_pure, Result.andThen_ok, List.map_toArray, List.map_cons, List.map_nil, hs, hx, hrun]
  exact h v' w' h2 h3

theorem new3_0 (w : World) (a b d : Value) (t : TypeId) : (w.alloc (.cells #[a, b, d] t)).cell? ⟨w.heap.size, 0, none⟩ = some a := by
  rw [World.cell?_alloc_at _ _ _ _ rfl]; rfl
theorem new3_1 (w : World) (a b d : Value) (t : TypeId) : (w.alloc (.cells #[a, b, d] t)).cell? ⟨w.heap.size, 1, none⟩ = some b := by
  rw [World.cell?_alloc_at _ _ _ _ rfl]; rfl
theorem new3_2 (w : World) (a b d : Value) (t : TypeId) : (w.alloc (.cells #[a, b, d] t)).cell? ⟨w.heap.size, 2, none⟩ = some d := by
  rw [World.cell?_alloc_at _ _ _ _ rfl]; rfl

set_option maxHeartbeats 1000000 in
/-- Three rows of bytes, one behind the other. -/
theorem concat3_any (P0 : Nat) (A B C : Option Addr) (n c m d l f : Nat) (xs ys zs : List Int) (w : World) (hp0 : w.cell? ⟨P0, 0, none⟩ = some (.slice A n c)) (hp1 : w.cell? ⟨P0, 1, none⟩ = some (.slice B m d)) (hp2 : w.cell? ⟨P0, 2, none⟩ = some (.slice C l f)) (hn : xs.length = n) (hm : ys.length = m) (hl : zs.length = l) (hx : Rd w A (nums .u8 xs)) (hy : Rd w B (nums .u8 ys)) (hz : Rd w C (nums .u8 zs)) (hb : n + m + l ≤ 20000) :
    Calls Tryd.prog 43 #[.slice (some ⟨P0, 0, none⟩) 3 3] w (IsOwn w (n + m + l) (xs ++ ys ++ zs)) := by
  have hP : P0 < w.heap.size := cell_lt hp0
  have HX := Lib.hid hx
  have HY := Lib.hid hy
  have HZ := Lib.hid hz
  have HN := Lib.hid hn
  have HM := Lib.hid hm
  have HL := Lib.hid hl
  clear hx hy hz hn hm hl
  have x1 : wrap64 (n : Int) = n := IntWalk.wrap64_in _ (by omega)
  have x2 : wrap64 ((n : Int) + m) = (n : Int) + m := IntWalk.wrap64_in _ (by omega)
  have x5 : wrap64 ((n : Int) + m + l) = (n : Int) + m + l := IntWalk.wrap64_in _ (by omega)
  have x3 : ¬ (n : Int) < 0 := by omega
  have x4 : ¬ (n : Int) + m < 0 := by omega
  have x6 : ¬ (n : Int) + m + l < 0 := by omega
  have CG := fun (W : World) => grow_nil (n + m + l) W (by omega)
  rw [Int.natCast_add, Int.natCast_add] at CG
  go_enter Tryd.func43, Tryd.ntmps43
  go_wp2_with fail
  refine wp_loop_rounds 4 ?_
  rw [rounds_succ]
  go_wp2_with fail
  rw [rounds_succ]
  go_wp2_with fail
  rw [rounds_succ]
  go_wp2_with fail
  rw [rounds_succ]
  go_wp2_with (go_at_call 50; go_must (refine (CG _).mono ?_; rintro e w1 ⟨v1, rfl, hown1, hb1⟩; have hq0 := (hb1.cell (p := ⟨P0, 0, none⟩) hP).trans hp0; have hq1 := (hb1.cell (p := ⟨P0, 1, none⟩) hP).trans hp1; have hq2 := (hb1.cell (p := ⟨P0, 2, none⟩) hP).trans hp2; have HX1 := Lib.hid (HX.out.below hb1)))
  refine wp_loop_rounds 4 ?_
  rw [rounds_succ]
  go_wp2_with (at_builtin; refine append_rd rfl _ _ rfl w.heap.size v1 0 [] rfl hown1 A n c xs rfl HN.out HX1.out (by omega) hb1.size ?_; intro v2 w2 hown2 hgrow2; rw [Nat.zero_add, List.nil_append] at hown2; have hb2 : Below w.heap.size w w2 := keep_below0 hown1 hgrow2 hb1 hb1.size (Nat.le_refl _); have hbx : Below w.heap.size w1 w2 := keep_below0 hown1 hgrow2 (Below.refl _ _) hb1.size (Nat.le_refl _); have hq3 := (hbx.cell (p := ⟨P0, 1, none⟩) hP).trans hq1; have hq4 := (hbx.cell (p := ⟨P0, 2, none⟩) hP).trans hq2; have HY2 := Lib.hid (HY.out.below hb2); clear hown1 hgrow2)
  rw [rounds_succ]
  go_wp2_with (at_builtin; refine append_rd rfl _ _ rfl w.heap.size v2 n (nums .u8 xs) rfl hown2 B m d ys rfl HM.out HY2.out (by omega) hb2.size ?_; intro v3 w3 hown3 hgrow3; have hb3 : Below w.heap.size w w3 := keep_below0 hown2 hgrow3 hb2 hb2.size (Nat.le_refl _); have hby : Below w.heap.size w2 w3 := keep_below0 hown2 hgrow3 (Below.refl _ _) hb2.size (Nat.le_refl _); have hq5 := (hby.cell (p := ⟨P0, 2, none⟩) hP).trans hq4; have HZ3 := Lib.hid (HZ.out.below hb3); clear hown2 hgrow3)
  rw [rounds_succ]
  go_wp2_with (at_builtin; refine append_rd rfl _ _ rfl w.heap.size v3 (n + m) (nums .u8 xs ++ nums .u8 ys) rfl hown3 C l f zs rfl HL.out HZ3.out (by omega) hb3.size ?_; intro v4 w4 hown4 hgrow4; have hb4 : Below w.heap.size w w4 := keep_below0 hown3 hgrow4 hb3 hb3.size (Nat.le_refl _); clear hown3 hgrow4)
  rw [rounds_succ]
  go_wp2_with fail
  go_ret
  obtain ⟨A3, cp3, rfl⟩ := own_slice hown4
  have hl : (xs ++ ys ++ zs).length = n + m + l := by rw [List.length_append, List.length_append, HN.out, HM.out, HL.out]
  rw [← List.map_append, ← List.map_append] at hown4
  exact ⟨A3, cp3, rfl, hl, hown4, hb4⟩
end Go.Proofs.YtmkmndgdakpojaaDoor
