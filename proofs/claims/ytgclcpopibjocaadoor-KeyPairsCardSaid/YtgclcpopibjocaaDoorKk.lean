/- Keys: made, Pair, Onion, Secret, and the document's. -/
import Derived.Test.YtgclcpopibjocaaDoorKe0
import Derived.Test.YtgclcpopibjocaaDoorLa
import Derived.Test.YtgclcpopibjocaaDoorTa
import Derived.Deep.DeepMust
namespace Go.Proofs.YtgclcpopibjocaaDoor
open Go.RowKit
set_option linter.unusedSimpArgs false
set_option linter.unusedVariables false
set_option maxRecDepth 100000

/-- Numbers as bytes. -/
def low8 (ns : List Int) : List Int := ns.map (· % 256)
theorem low8_len (ns : List Int) : (low8 ns).length = ns.length := by simp [low8]
theorem low8_take (ns : List Int) (k : Nat) (h : k < ns.length) : low8 (ns.take k) ++ [ns.getD k 0 % 256] = low8 (ns.take (k + 1)) := by
  rw [take_snoc h]; simp [low8]

theorem rd_newI (w : World) (l : List Int) (t : TypeId) : Rd (w.alloc (.cells (nums .i64 l).toArray t)) (some ⟨w.heap.size, 0, none⟩) (nums .i64 l) := by
  refine .inr ⟨w.heap.size, 0, rfl, by simp, fun i v hv => ?_⟩
  rw [Nat.zero_add, World.cell?_alloc_at _ _ _ _ rfl]
  simpa [nums] using hv
section
variable (S : Option Addr) (sn sc : Nat) (seed : List Int) (ch st cl qu clo lo ag wi ro se : Int) (w : World)

set_option maxHeartbeats 1000000 in
theorem kmade_any (what : Int) (B : Option Addr) (m d : Nat) (ns : List Int) (hs : seed.length = sn) (hsn : sn ≤ 4000) (hm : ns.length = m) (hmb : m ≤ 100) (hx : Rd w S (nums .u8 seed)) (hy : Rd w B (nums .i64 ns)) (hK : Konst w) :
    Calls Tryd.prog 47 #[cfgV (.slice S sn sc) ch st cl qu clo lo ag wi ro se, .int .u8 what, .slice B m d] w (IsBytes w (tagL seed (what :: low8 ns))) := by
  obtain ⟨i0, hi, hz0, hz1, hz2⟩ := info_parts infoByteT
  have HS := Lib.hid hs
  have HM := Lib.hid hm
  have HX := Lib.hid hx
  have HY := Lib.hid hy
  have HK := Lib.hid hK
  have hbox : ∀ o x, ((w.alloc o).alloc x).cell? ⟨w.heap.size, 0, none⟩ = (w.alloc o).cell? ⟨w.heap.size, 0, none⟩ := fun o x => World.cell?_alloc_lt _ _ _ (by simp)
  have HBX := Lib.hid hbox
  clear hs hm hx hy hK hbox
  go_enter Tryd.func47, Tryd.ntmps47
  go_wp2_with fail
  go_loopw [7, 14] (fun s i wr => ∃ (k : Nat) (A7 : Option Addr) (c7 : Nat), k ≤ m ∧ i = .int .i64 k ∧ s = .slice A7 (1 + k) c7 ∧ wr.ownsRow (w.heap.size + 1) 5 1 (.slice A7 (1 + k) c7) (1 + k) (nums .u8 (what :: low8 (ns.take k))) ∧ wr.cell? ⟨w.heap.size, 0, none⟩ = some (.slice S sn sc) ∧ Below w.heap.size w wr ∧ w.heap.size + 1 ≤ wr.heap.size) (fun _ i _ => m - (intOf i).toNat)
  case atStart =>
    refine ⟨0, _, 1, Nat.zero_le _, rfl, rfl, ?_, ?_, bal (bal brf _) _, by simp⟩
    · rw [List.take_zero]
      have := own_new (w.alloc (.cells #[.slice S sn sc, .int .i64 ch, .int .i64 st, .int .i64 cl, .int .i64 qu, .int .i64 clo, .int .i64 lo, .int .i64 ag, .int .i64 wi, .int .u64 ro, .int .u64 se] 25)) what
      simp only [World.size_alloc] at this
      exact this
    · rw [HBX.out, World.cell?_alloc_at _ _ _ _ rfl]; rfl
  case round =>
    obtain ⟨k, A7, c7, hk, rfl, rfl, hown, hcell, hb, hsz⟩ := hrel
    have r0 : (0 : Int) ≤ k := by omega
    by_cases hlt : k < m
    · have r1 : (k : Int) < m := by omega
      obtain ⟨b1, o1, rfl, l1, g1⟩ := (HY.out.below hb).at_ (by simp [HM.out]; omega)
      have g1 := g1 k _ (nums_at (by rw [HM.out]; exact hlt))
      have HST := Lib.hid (low8_take ns k (by rw [HM.out]; exact hlt))
      obtain ⟨x, hx⟩ : ∃ x, x = ns.getD k 0 := ⟨_, rfl⟩
      rw [← hx] at g1 HST
      clear hx
      go_wp2_with (at_builtin; refine append_one rfl _ _ 22 rfl (w.heap.size + 1) 5 i0 (.int .u8 0) 1 Tryd.underlying22 hi hz0 hz1 hz2 rfl _ (1 + k) _ rfl hown (.int .u8 (x % 256)) 5 rfl rfl (by unfold maxLen; omega) (by omega) hsz ?_; intro v6 w6 hown6 hgrow6; obtain ⟨A6, c6, rfl⟩ := own_slice hown6)
      have hb6 : Below w.heap.size w w6 := keep_below hown hgrow6 hb hb.size (Nat.le_succ _)
      have hc6 := keep_cell hown hgrow6 (Nat.lt_succ_self _) hcell
      have hz6 : w.heap.size + 1 ≤ w6.heap.size := by have := hgrow6.size; simp at this; omega
      rw [show nums .u8 (what :: low8 (ns.take k)) ++ [Value.int .u8 (x % 256)] = nums .u8 (what :: (low8 (ns.take k) ++ [x % 256])) by simp [nums], HST.out] at hown6
      exact ⟨⟨k + 1, A6, c6, by omega, by congr 1, by rw [Nat.add_assoc], hown6, hc6, hb6, hz6⟩, by show m - ((k : Int) + 1).toNat < m - (k : Int).toNat; omega⟩
    · have hkm : k = m := by omega
      subst hkm
      have hlen : (what :: low8 (ns.take k)).length = 1 + k := by rw [List.length_cons, low8_len]; simp [HM.out]; omega
      have CT := tag_any S A7 sn sc (1 + k) c7 seed (what :: low8 (ns.take k)) wr HS.out hlen (by omega) (by omega) (HX.out.below hb) (Rd.of_own hown) (HK.out.go hb)
      have he : ns.take k = ns := by rw [← HM.out, List.take_length]
      rw [he] at CT
      clear hown hlen he
      go_wp2_with (go_at_call 24; refine CT.mono ?_; rintro e w5 ⟨B5, c5, rfl, hc5, hl5, hr5, hb5⟩)
      go_ret
      exact IsBytes.from hb ⟨B5, c5, rfl, hc5, hl5, hr5, hb5⟩

set_option maxHeartbeats 1000000 in
theorem kpair_any (a b : Int) (hs : seed.length = sn) (hsn : sn ≤ 4000) (hx : Rd w S (nums .u8 seed)) (hK : Konst w) :
    Calls Tryd.prog 17 #[cfgV (.slice S sn sc) ch st cl qu clo lo ag wi ro se, .int .i64 a, .int .i64 b] w (IsBytes w (tagL seed (1 :: low8 [min a b, max a b]))) := by
  have HX := Lib.hid hx
  have hA : Below w.heap.size w (w.alloc (.cells #[.slice S sn sc, .int .i64 ch, .int .i64 st, .int .i64 cl, .int .i64 qu, .int .i64 clo, .int .i64 lo, .int .i64 ag, .int .i64 wi, .int .u64 ro, .int .u64 se] 25)) := bal brf _
  have CT := fun (us : List Int) hu => kmade_any S sn sc seed ch st cl qu clo lo ag wi ro se ((w.alloc (.cells #[.slice S sn sc, .int .i64 ch, .int .i64 st, .int .i64 cl, .int .i64 qu, .int .i64 clo, .int .i64 lo, .int .i64 ag, .int .i64 wi, .int .u64 ro, .int .u64 se] 25)).alloc (.cells (nums .i64 us).toArray 3)) 1 (some ⟨(w.alloc (.cells #[.slice S sn sc, .int .i64 ch, .int .i64 st, .int .i64 cl, .int .i64 qu, .int .i64 clo, .int .i64 lo, .int .i64 ag, .int .i64 wi, .int .u64 ro, .int .u64 se] 25)).heap.size, 0, none⟩) 2 2 us hs hsn hu (by omega) (HX.out.below (bal hA _)) (rd_newI _ us _) (hK.go (bal hA _))
  have CT := fun (us : List Int) hu => (CT us hu).mono fun _ _ h => IsBytes.from (bal hA _) h
  simp only [World.size_alloc] at CT
  clear hs hx hK
  by_cases h : a < b
  · rw [Int.min_eq_left (by omega), Int.max_eq_right (by omega)]
    have C := CT [a, b] rfl
    clear CT
    go_enter Tryd.func17, Tryd.ntmps17
    go_wp2_with (go_at_call 47; refine C.mono ?_; rintro e w5 ⟨B5, c5, rfl, hc5, hl5, hr5, hb5⟩)
    go_ret
    exact ⟨B5, c5, rfl, hc5, hl5, hr5, hb5⟩
  by_cases h2 : b < a
  · rw [Int.min_eq_right (by omega), Int.max_eq_left (by omega)]
    have C := CT [b, a] rfl
    clear CT
    go_enter Tryd.func17, Tryd.ntmps17
    go_wp2_with (go_at_call 47; refine C.mono ?_; rintro e w5 ⟨B5, c5, rfl, hc5, hl5, hr5, hb5⟩)
    go_ret
    exact ⟨B5, c5, rfl, hc5, hl5, hr5, hb5⟩
  · obtain rfl : a = b := by omega
    rw [Int.min_self, Int.max_self]
    clear h h2
    have C := CT [a, a] rfl
    clear CT
    go_enter Tryd.func17, Tryd.ntmps17
    go_wp2_with (go_at_call 47; refine C.mono ?_; rintro e w5 ⟨B5, c5, rfl, hc5, hl5, hr5, hb5⟩)
    go_ret
    exact ⟨B5, c5, rfl, hc5, hl5, hr5, hb5⟩

set_option maxHeartbeats 1000000 in
theorem konion_any (a : Int) (hs : seed.length = sn) (hsn : sn ≤ 4000) (hx : Rd w S (nums .u8 seed)) (hK : Konst w) :
    Calls Tryd.prog 19 #[cfgV (.slice S sn sc) ch st cl qu clo lo ag wi ro se, .int .i64 a] w (IsBytes w (tagL seed (2 :: low8 [a]))) := by
  have HX := Lib.hid hx
  have hA : Below w.heap.size w (w.alloc (.cells #[.slice S sn sc, .int .i64 ch, .int .i64 st, .int .i64 cl, .int .i64 qu, .int .i64 clo, .int .i64 lo, .int .i64 ag, .int .i64 wi, .int .u64 ro, .int .u64 se] 25)) := bal brf _
  have CT := fun (us : List Int) hu => kmade_any S sn sc seed ch st cl qu clo lo ag wi ro se ((w.alloc (.cells #[.slice S sn sc, .int .i64 ch, .int .i64 st, .int .i64 cl, .int .i64 qu, .int .i64 clo, .int .i64 lo, .int .i64 ag, .int .i64 wi, .int .u64 ro, .int .u64 se] 25)).alloc (.cells (nums .i64 us).toArray 3)) 2 (some ⟨(w.alloc (.cells #[.slice S sn sc, .int .i64 ch, .int .i64 st, .int .i64 cl, .int .i64 qu, .int .i64 clo, .int .i64 lo, .int .i64 ag, .int .i64 wi, .int .u64 ro, .int .u64 se] 25)).heap.size, 0, none⟩) 1 1 us hs hsn hu (by omega) (HX.out.below (bal hA _)) (rd_newI _ us _) (hK.go (bal hA _))
  have CT := fun (us : List Int) hu => (CT us hu).mono fun _ _ h => IsBytes.from (bal hA _) h
  simp only [World.size_alloc] at CT
  clear hs hx hK
  have C := CT [a] rfl
  clear CT
  go_enter Tryd.func19, Tryd.ntmps19
  go_wp2_with (go_at_call 47; refine C.mono ?_; rintro e w5 ⟨B5, c5, rfl, hc5, hl5, hr5, hb5⟩)
  go_ret
  exact ⟨B5, c5, rfl, hc5, hl5, hr5, hb5⟩

set_option maxHeartbeats 1000000 in
theorem ksecret_any (a : Int) (hs : seed.length = sn) (hsn : sn ≤ 4000) (hx : Rd w S (nums .u8 seed)) (hK : Konst w) :
    Calls Tryd.prog 21 #[cfgV (.slice S sn sc) ch st cl qu clo lo ag wi ro se, .int .i64 a] w (IsBytes w (tagL seed (3 :: low8 [a]))) := by
  have HX := Lib.hid hx
  have hA : Below w.heap.size w (w.alloc (.cells #[.slice S sn sc, .int .i64 ch, .int .i64 st, .int .i64 cl, .int .i64 qu, .int .i64 clo, .int .i64 lo, .int .i64 ag, .int .i64 wi, .int .u64 ro, .int .u64 se] 25)) := bal brf _
  have CT := fun (us : List Int) hu => kmade_any S sn sc seed ch st cl qu clo lo ag wi ro se ((w.alloc (.cells #[.slice S sn sc, .int .i64 ch, .int .i64 st, .int .i64 cl, .int .i64 qu, .int .i64 clo, .int .i64 lo, .int .i64 ag, .int .i64 wi, .int .u64 ro, .int .u64 se] 25)).alloc (.cells (nums .i64 us).toArray 3)) 3 (some ⟨(w.alloc (.cells #[.slice S sn sc, .int .i64 ch, .int .i64 st, .int .i64 cl, .int .i64 qu, .int .i64 clo, .int .i64 lo, .int .i64 ag, .int .i64 wi, .int .u64 ro, .int .u64 se] 25)).heap.size, 0, none⟩) 1 1 us hs hsn hu (by omega) (HX.out.below (bal hA _)) (rd_newI _ us _) (hK.go (bal hA _))
  have CT := fun (us : List Int) hu => (CT us hu).mono fun _ _ h => IsBytes.from (bal hA _) h
  simp only [World.size_alloc] at CT
  clear hs hx hK
  have C := CT [a] rfl
  clear CT
  go_enter Tryd.func21, Tryd.ntmps21
  go_wp2_with (go_at_call 47; refine C.mono ?_; rintro e w5 ⟨B5, c5, rfl, hc5, hl5, hr5, hb5⟩)
  go_ret
  exact ⟨B5, c5, rfl, hc5, hl5, hr5, hb5⟩

set_option maxHeartbeats 1000000 in
theorem rpair_any (a b : Int) (hs : seed.length = sn) (hsn : sn ≤ 4000) (hx : Rd w S (nums .u8 seed)) :
    Calls Tryd.prog 18 #[cfgV (.slice S sn sc) ch st cl qu clo lo ag wi ro se, .int .i64 a, .int .i64 b] w (IsBytes w (tagL seed (1 :: low8 [min a b, max a b]))) := by
  have HX := Lib.hid hx
  have hA : Below w.heap.size w (w.alloc (.cells #[.slice S sn sc, .int .i64 ch, .int .i64 st, .int .i64 cl, .int .i64 qu, .int .i64 clo, .int .i64 lo, .int .i64 ag, .int .i64 wi, .int .u64 ro, .int .u64 se] 25)) := bal brf _
  have CT := fun (us : List Int) hu => rtag_any S (some ⟨(w.alloc (.cells #[.slice S sn sc, .int .i64 ch, .int .i64 st, .int .i64 cl, .int .i64 qu, .int .i64 clo, .int .i64 lo, .int .i64 ag, .int .i64 wi, .int .u64 ro, .int .u64 se] 25)).heap.size, 0, none⟩) sn sc 3 3 seed us ((w.alloc (.cells #[.slice S sn sc, .int .i64 ch, .int .i64 st, .int .i64 cl, .int .i64 qu, .int .i64 clo, .int .i64 lo, .int .i64 ag, .int .i64 wi, .int .u64 ro, .int .u64 se] 25)).alloc (.cells (nums .u8 us).toArray 5)) hs hu (by omega) (by omega) (HX.out.below (bal hA _)) (rd_new _ us _)
  have CT := fun (us : List Int) hu => (CT us hu).mono fun _ _ h => IsBytes.from (bal hA _) h
  simp only [World.size_alloc] at CT
  clear hs hx
  by_cases h : a < b
  · rw [Int.min_eq_left (by omega), Int.max_eq_right (by omega)]
    have C := CT [1, a % 256, b % 256] rfl
    clear CT
    go_enter Tryd.func18, Tryd.ntmps18
    go_wp2_with (go_at_call 48; refine C.mono ?_; rintro e w5 ⟨B5, c5, rfl, hc5, hl5, hr5, hb5⟩)
    go_ret
    exact ⟨B5, c5, rfl, hc5, hl5, hr5, hb5⟩
  by_cases h2 : b < a
  · rw [Int.min_eq_right (by omega), Int.max_eq_left (by omega)]
    have C := CT [1, b % 256, a % 256] rfl
    clear CT
    go_enter Tryd.func18, Tryd.ntmps18
    go_wp2_with (go_at_call 48; refine C.mono ?_; rintro e w5 ⟨B5, c5, rfl, hc5, hl5, hr5, hb5⟩)
    go_ret
    exact ⟨B5, c5, rfl, hc5, hl5, hr5, hb5⟩
  · obtain rfl : a = b := by omega
    rw [Int.min_self, Int.max_self]
    clear h h2
    have C := CT [1, a % 256, a % 256] rfl
    clear CT
    go_enter Tryd.func18, Tryd.ntmps18
    go_wp2_with (go_at_call 48; refine C.mono ?_; rintro e w5 ⟨B5, c5, rfl, hc5, hl5, hr5, hb5⟩)
    go_ret
    exact ⟨B5, c5, rfl, hc5, hl5, hr5, hb5⟩

set_option maxHeartbeats 1000000 in
theorem ronion_any (a : Int) (hs : seed.length = sn) (hsn : sn ≤ 4000) (hx : Rd w S (nums .u8 seed)) :
    Calls Tryd.prog 20 #[cfgV (.slice S sn sc) ch st cl qu clo lo ag wi ro se, .int .i64 a] w (IsBytes w (tagL seed (2 :: low8 [a]))) := by
  have HX := Lib.hid hx
  have hA : Below w.heap.size w (w.alloc (.cells #[.slice S sn sc, .int .i64 ch, .int .i64 st, .int .i64 cl, .int .i64 qu, .int .i64 clo, .int .i64 lo, .int .i64 ag, .int .i64 wi, .int .u64 ro, .int .u64 se] 25)) := bal brf _
  have CT := fun (us : List Int) hu => rtag_any S (some ⟨(w.alloc (.cells #[.slice S sn sc, .int .i64 ch, .int .i64 st, .int .i64 cl, .int .i64 qu, .int .i64 clo, .int .i64 lo, .int .i64 ag, .int .i64 wi, .int .u64 ro, .int .u64 se] 25)).heap.size, 0, none⟩) sn sc 2 2 seed us ((w.alloc (.cells #[.slice S sn sc, .int .i64 ch, .int .i64 st, .int .i64 cl, .int .i64 qu, .int .i64 clo, .int .i64 lo, .int .i64 ag, .int .i64 wi, .int .u64 ro, .int .u64 se] 25)).alloc (.cells (nums .u8 us).toArray 5)) hs hu (by omega) (by omega) (HX.out.below (bal hA _)) (rd_new _ us _)
  have CT := fun (us : List Int) hu => (CT us hu).mono fun _ _ h => IsBytes.from (bal hA _) h
  simp only [World.size_alloc] at CT
  clear hs hx
  have C := CT [2, a % 256] rfl
  clear CT
  go_enter Tryd.func20, Tryd.ntmps20
  go_wp2_with (go_at_call 48; refine C.mono ?_; rintro e w5 ⟨B5, c5, rfl, hc5, hl5, hr5, hb5⟩)
  go_ret
  exact ⟨B5, c5, rfl, hc5, hl5, hr5, hb5⟩

set_option maxHeartbeats 1000000 in
theorem rsecret_any (a : Int) (hs : seed.length = sn) (hsn : sn ≤ 4000) (hx : Rd w S (nums .u8 seed)) :
    Calls Tryd.prog 22 #[cfgV (.slice S sn sc) ch st cl qu clo lo ag wi ro se, .int .i64 a] w (IsBytes w (tagL seed (3 :: low8 [a]))) := by
  have HX := Lib.hid hx
  have hA : Below w.heap.size w (w.alloc (.cells #[.slice S sn sc, .int .i64 ch, .int .i64 st, .int .i64 cl, .int .i64 qu, .int .i64 clo, .int .i64 lo, .int .i64 ag, .int .i64 wi, .int .u64 ro, .int .u64 se] 25)) := bal brf _
  have CT := fun (us : List Int) hu => rtag_any S (some ⟨(w.alloc (.cells #[.slice S sn sc, .int .i64 ch, .int .i64 st, .int .i64 cl, .int .i64 qu, .int .i64 clo, .int .i64 lo, .int .i64 ag, .int .i64 wi, .int .u64 ro, .int .u64 se] 25)).heap.size, 0, none⟩) sn sc 2 2 seed us ((w.alloc (.cells #[.slice S sn sc, .int .i64 ch, .int .i64 st, .int .i64 cl, .int .i64 qu, .int .i64 clo, .int .i64 lo, .int .i64 ag, .int .i64 wi, .int .u64 ro, .int .u64 se] 25)).alloc (.cells (nums .u8 us).toArray 5)) hs hu (by omega) (by omega) (HX.out.below (bal hA _)) (rd_new _ us _)
  have CT := fun (us : List Int) hu => (CT us hu).mono fun _ _ h => IsBytes.from (bal hA _) h
  simp only [World.size_alloc] at CT
  clear hs hx
  have C := CT [3, a % 256] rfl
  clear CT
  go_enter Tryd.func22, Tryd.ntmps22
  go_wp2_with (go_at_call 48; refine C.mono ?_; rintro e w5 ⟨B5, c5, rfl, hc5, hl5, hr5, hb5⟩)
  go_ret
  exact ⟨B5, c5, rfl, hc5, hl5, hr5, hb5⟩

end
end Go.Proofs.YtgclcpopibjocaaDoor
