/- The law that draws that leave the same over shuffle alike. -/
import Derived.Test.YtmepcpklnpjebaaPk
namespace Go.Proofs.Ytmepcpklnpjebaa
open Go.RowKit Go.ChangeShapes Go.WideShapes Go.ChangeAt
set_option linter.unusedSimpArgs false
set_option linter.unusedVariables false

def factN : Nat → Nat
  | 0 => 1
  | k + 1 => factN k * (k + 1)
theorem factN_le : ∀ k, k ≤ 12 → 1 ≤ factN k ∧ factN k ≤ 479001600 := by
  intro k hk
  have : ∀ k : Fin 13, 1 ≤ factN k ∧ factN k ≤ 479001600 := by decide
  exact this ⟨k, by omega⟩
theorem factN_dvd {m : Nat} : ∀ n, 1 ≤ m → m ≤ n → m ∣ factN n
  | 0, h1, h2 => by omega
  | n + 1, h1, h2 => by
    rw [factN]
    by_cases e : m = n + 1
    · subst e; exact Nat.dvd_mul_left _ _
    · exact Nat.dvd_trans (factN_dvd n h1 (by omega)) (Nat.dvd_mul_right _ _)
def otherL (F P : Int) (ds : List Int) : List Int := ds.map fun d => d.tmod F + P
theorem otherL_succ {F P : Int} {ds : List Int} {k : Nat} (h : k < ds.length) : otherL F P (ds.take (k + 1)) = otherL F P (ds.take k) ++ [(ds.getD k 0).tmod F + P] := by
  rw [List.take_add_one, List.getElem?_eq_getElem h, otherL, otherL, List.map_append]
  simp [List.getD, h]
theorem leftN_other {d b : Int} {F m : Nat} (h : m ∣ F) : leftN (d.tmod F + b * F) m = leftN d m := by
  obtain ⟨q, rfl⟩ := h
  unfold leftN
  congr 1
  have h1 := Int.tmod_def d ((m * q : Nat) : Int)
  obtain ⟨D, hD⟩ : ∃ D, D = d.tdiv ((m * q : Nat) : Int) := ⟨_, rfl⟩
  rw [← hD, Int.natCast_mul] at h1
  rw [Int.natCast_mul, h1]
  have e : d - (m : Int) * q * D + b * ((m : Int) * q) = d + (m : Int) * ((q : Int) * (b - D)) := by
    rw [Int.mul_sub (q : Int) b D, Int.mul_sub (m : Int), ← Int.mul_assoc (m : Int) q b, ← Int.mul_assoc (m : Int) q D, Int.mul_comm b]; omega
  rw [e]
  exact Int.add_mul_emod_self_left _ _ _
theorem shuf_other {n : Nat} {ds : List Int} {b : Int} (hl : n - 1 ≤ ds.length) : shufL n (otherL (factN n) (b * factN n) ds) = shufL n ds := by
  refine shufN_congr _ _ _ _ (Nat.le_refl _) fun j hj => ?_
  have e : (otherL (factN n) (b * factN n) ds).getD j 0 = (ds.getD j 0).tmod (factN n) + b * factN n := by
    simp [otherL, List.getD, List.getElem?_eq_getElem (show j < ds.length by omega)]
  rw [e]
  exact leftN_other (factN_dvd n (by omega) (by omega))
theorem shuf_more {n : Nat} {ds es : List Int} (hl : n - 1 ≤ ds.length) : shufL n (ds.take (n - 1) ++ es) = shufL n ds := by
  refine shufN_congr _ _ _ _ (Nat.le_refl _) fun j hj => ?_
  have e : (ds.take (n - 1) ++ es).getD j 0 = ds.getD j 0 := by
    simp [List.getD, List.getElem?_append_left (show j < (ds.take (n - 1)).length by simp; omega), List.getElem?_take, hj]
  rw [e]

theorem shuf_full (n : Nat) (A : Option Addr) (m c : Nat) (ds : List Int) (w : World) (hn : n ≤ 1024) (h1 : 1 ≤ n) (hm : ds.length = m) (hmax : m ≤ 100000) (hl : n - 1 ≤ m) (hx : Rd w A (nums .i64 ds)) :
    Calls Try.prog 16 #[.int .i64 n, .slice A m c] w fun e w' => ∃ A' c', e = .returned (.tuple #[.slice A' n c', .int .i64 ((n : Int) - 1), .int .i64 0]) ∧ Rd w' A' (nums .i64 (shufL n ds)) ∧ Below w.heap.size w w' :=
  (shuf_any n A m c ds w hn hm hmax hx).mono fun e w' ⟨A', c', he, _, hr, hb⟩ => ⟨A', c', by
    rw [he, hm, Nat.min_eq_left hl, show ((n - 1 : Nat) : Int) = (n : Int) - 1 by omega], hr, hb⟩
theorem Rd.take {w : World} {A : Option Addr} {k : IntKind} {xs : List Int} (h : Rd w A (nums k xs)) (m : Nat) : Rd w A (nums k (xs.take m)) := by
  rcases h with h | ⟨b, o, hA, hlt, hc⟩
  · left
    have : xs = [] := by simpa using h
    subst this
    simp [nums]
  · refine .inr ⟨b, o, hA, hlt, fun i v hv => hc i v ?_⟩
    rw [nums, List.map_take, List.getElem?_take] at hv
    split at hv
    · exact hv
    · cases hv
theorem nums_one {k : IntKind} {xs : List Int} : ∀ u ∈ nums k xs, u.oneCell' = true := fun u hu => by
  obtain ⟨x, _, rfl⟩ := List.mem_map.1 hu; rfl

set_option maxRecDepth 100000 in
set_option maxHeartbeats 3000000 in
theorem permDraws_in (n : Nat) (A B : Option Addr) (m c m2 cB : Nat) (ds es : List Int) (by_ : Int) (w : World) (hm : ds.length = m) (hx : Rd w A (nums .i64 ds)) (hm2 : es.length = m2) (hy : Rd w B (nums .i64 es))
    (hn1 : 1 ≤ n) (hn2 : n ≤ 12) (hl : n - 1 ≤ m) (hm60 : m ≤ 60) (hm260 : m2 ≤ 60) (hb0 : 0 ≤ by_) (hb1 : by_ ≤ 1000) (hmc : m ≤ c) (hc : c ≤ maxLen) :
    Calls Try.prog 4 #[.int .i64 n, .slice A m c, .slice B m2 cB, .int .i64 by_] w (Yes w) := by
  obtain ⟨i0, hi, hz0, hz1, hz2⟩ := info_parts infoInt
  have r1 : ¬ (n : Int) < 1 := by omega
  have r2 : ¬ (12 : Int) < n := by omega
  have r3 : ¬ (m : Int) < (n : Int) - 1 := by omega
  have r4 : ¬ (60 : Int) < m := by omega
  have r5 : ¬ (60 : Int) < m2 := by omega
  have r6 : ¬ by_ < 0 := by omega
  have r7 : ¬ 1000 < by_ := by omega
  unfold maxLen at hc
  have HM := Lib.hid hm
  have HX := Lib.hid hx
  have HM2 := Lib.hid hm2
  have HY := Lib.hid hy
  clear hm hx hm2 hy
  go_enter Try.func4, Try.ntmps4
  go_wp2_with (go_at_call 15; refine (live11_any _).mono ?_; rintro e w1 ⟨rfl, hbw⟩)
  have HX1 := Lib.hid (HX.out.below hbw)
  have HY1 := Lib.hid (HY.out.below hbw)
  go_loop [9, 57] (fun f i => ∃ k : Nat, k ≤ n ∧ i = .int .i64 k ∧ f = .int .i64 (factN k : Nat)) (fun _ i => n - (intOf i).toNat)
  case atStart => exact ⟨0, Nat.zero_le _, rfl, rfl⟩
  case round =>
    obtain ⟨k, hk, rfl, rfl⟩ := hrel
    by_cases hlt : k < n
    · have q1 : (k : Int) < n := by omega
      obtain ⟨hf1, hf2⟩ := factN_le k (by omega)
      obtain ⟨hf3, hf4⟩ := factN_le (k + 1) (by omega)
      have hfe : (factN k : Int) * ((k : Int) + 1) = (factN (k + 1) : Nat) := by rw [factN, Int.natCast_mul, Int.natCast_add]; rfl
      have hw : wrap64 ((factN k : Int) * ((k : Int) + 1)) = (factN (k + 1) : Nat) := by rw [hfe]; exact IntWalk.wrap64_in _ (by omega)
      clear hfe
      go_wp2_with fail
      exact ⟨⟨k + 1, by omega, by congr 1, by rw [hw]⟩, by show n - ((k : Int) + 1).toNat < n - (k : Int).toNat; omega⟩
    · have hkn : n = k := by omega
      subst hkn
      clear hlt hk
      obtain ⟨hf1, hf2⟩ := factN_le n (by omega)
      obtain ⟨FN, hFN⟩ : ∃ FN, FN = factN n := ⟨_, rfl⟩
      rw [← hFN] at hf1 hf2 ⊢
      have HFN := Lib.hid hFN
      clear hFN
      obtain ⟨P, hP⟩ : ∃ P : Int, P = by_ * FN := ⟨_, rfl⟩
      have hP0 : 0 ≤ P := by rw [hP]; exact Int.mul_nonneg hb0 (by omega)
      have hP1 : P ≤ 479001600000 := by
        rw [hP]
        have := Int.mul_le_mul hb1 (show (FN : Int) ≤ 479001600 by omega) (by omega) (by omega)
        omega
      have hwP : wrap64 (by_ * (FN : Int)) = P := by rw [← hP]; exact IntWalk.wrap64_in _ (by omega)
      have hF0 : ¬ (FN : Int) = 0 := by omega
      have HP := Lib.hid hP
      clear hP
      go_wp2_with fail
      go_loopw [11, 67] (fun v i wr => ∃ k : Nat, k ≤ m ∧ i = .int .i64 k ∧ (∃ A c, v = .slice A k c) ∧ wr.ownsRow w1.heap.size 3 1 v k (nums .i64 (otherL FN P (ds.take k))) ∧ Below w1.heap.size w1 wr) (fun _ i _ => m - (intOf i).toNat)
      case atStart => exact ⟨0, Nat.zero_le _, rfl, ⟨_, _, rfl⟩, ⟨rfl, .inl ⟨rfl, rfl⟩⟩, brf⟩
      case round =>
        obtain ⟨k, hk, rfl, ⟨A11, c11, rfl⟩, hown, hb⟩ := hrel
        have hzz := hb.size
        by_cases hlt : k < m
        · have q1 : (k : Int) < m := by omega
          obtain ⟨b, o, rfl, hlb, hcc⟩ := (HX1.out.below hb).at_ (by simp [HM.out]; omega)
          have ck := hcc k _ (nums_at (by rw [HM.out]; exact hlt))
          obtain ⟨x, hx⟩ : ∃ x, x = ds.getD k 0 := ⟨_, rfl⟩
          rw [← hx] at ck
          have HE := Lib.hid hx
          have t1 := tmod_cases x FN (by omega)
          have t2 := Int.emod_lt_of_pos x (b := (FN : Int)) (by omega)
          have t3 := Int.emod_nonneg x (b := (FN : Int)) (by omega)
          have hw1 : wrap64 (x.tmod (FN : Int)) = x.tmod FN := IntWalk.wrap64_in _ (by omega)
          have hw2 : wrap64 (x.tmod (FN : Int) + P) = x.tmod FN + P := IntWalk.wrap64_in _ (by omega)
          have t4 : -479001600 ≤ x.tmod (FN : Int) := by omega
          have t5 : x.tmod (FN : Int) ≤ 479001600 := by omega
          clear hx hcc t1 t2 t3
          go_wp2_with (at_builtin; refine append_one rfl _ _ 22 rfl w1.heap.size 3 i0 (.int .i64 0) 8 Try.underlying22 hi hz0 hz1 hz2 rfl _ _ _ rfl hown _ _ rfl rfl (by unfold maxLen; omega) (by omega) hzz ?_; intro v6 w6 hown6 hgrow6; obtain ⟨A6, c6, rfl⟩ := own_slice hown6)
          refine ⟨⟨k + 1, by omega, by congr 1, ⟨A6, c6, by congr 1⟩, ?_, keep_below hown hgrow6 hb hzz (Nat.le_refl _)⟩, by show m - ((k : Int) + 1).toNat < m - (k : Int).toNat; omega⟩
          have e : otherL FN P (ds.take (k + 1)) = otherL FN P (ds.take k) ++ [x.tmod FN + P] := by rw [otherL_succ (by rw [HM.out]; exact hlt), ← HE.out]
          rw [e, nums, List.map_append]
          exact hown6
        · have hkn : m = k := by omega
          subst hkn
          have hrd := Rd.of_own hown
          rw [List.take_of_length_le (show ds.length ≤ m by rw [HM.out]; exact Nat.le_refl _)] at hrd
          have hol : (otherL FN P ds).length = m := by simp [otherL]; exact HM.out
          have HX2 := Lib.hid (HX1.out.below hb)
          have HY2 := Lib.hid (HY1.out.below hb)
          have hHP := HP.out
          have hHF := HFN.out
          have heq : shufL n (otherL FN P ds) = shufL n ds := by rw [hHP, hHF]; exact shuf_other (by rw [HM.out]; exact hl)
          have heq3 : shufL n (ds.take (n - 1) ++ es) = shufL n ds := shuf_more (by rw [HM.out]; exact hl)
          have hl3 : (ds.take (n - 1) ++ es).length = n - 1 + m2 := by rw [List.length_append, List.length_take, HM.out, HM2.out, Nat.min_eq_left hl]
          have hl4 : (nums .i64 (ds.take (n - 1))).length = n - 1 := by simp [HM.out]; omega
          have CA := fun W (hr : Rd W A (nums .i64 ds)) => shuf_full n A m c ds W (by omega) hn1 HM.out (by omega) hl hr
          have CO := fun W (hr : Rd W A11 (nums .i64 (otherL FN P ds))) => shuf_full n A11 m c11 (otherL FN P ds) W (by omega) hn1 hol (by omega) hl hr
          rw [heq] at CO
          have CT := fun W A' c' (hr : Rd W A' (nums .i64 (ds.take (n - 1) ++ es))) => shuf_full n A' (n - 1 + m2) c' (ds.take (n - 1) ++ es) W (by omega) hn1 hl3 (by omega) (by omega) hr
          rw [heq3] at CT
          have CS := fun A1 A2 c1 c2 W h1 h2 => sameInts_true A1 A2 n c1 n c2 (shufL n ds) (shufL n ds) W rfl (shufL_len _ _) (shufL_len _ _) h1 h2 (by unfold maxLen; omega)
          have q3 : (n : Int) - 1 ≤ c := by omega
          have q4 : (0 : Int) ≤ (n : Int) - 1 := by omega
          have q5 : ((n : Int) - 1).toNat = n - 1 := by omega
          have HL4 := Lib.hid hl4
          have HL3 := Lib.hid hl3
          have hM2 : (nums .i64 es).length = m2 := by simp [HM2.out]
          have HM3 := Lib.hid hM2
          clear hHP hHF heq heq3 hol hl3 hl4 hown hM2
          go_upto_region 19 with (first
            | (go_at_call 16; first
                | ((with_reducible refine (CA _ HX2.out).mono ?_); rintro e w2 ⟨A2, c2, rfl, hr2, hb2⟩)
                | ((with_reducible refine (CO _ (hrd.below hb2)).mono ?_); rintro e w3 ⟨A3, c3, rfl, hr3, hb3⟩)))
          have HX3 := Lib.hid (((HX2.out.below hb2).below hb3).take (n - 1))
          have HY3 := Lib.hid ((HY2.out.below hb2).below hb3)
          have HR2 := Lib.hid (hr2.below hb3)
          have HR3 := Lib.hid hr3
          clear hrd hr2 hr3
          go_wp2_with (first
            | (at_builtin; first
                | (refine append_vs rfl _ _ 22 rfl w3.heap.size 3 i0 (.int .i64 0) 8 Try.underlying22 hi hz0 hz1 hz2 rfl (.slice none 0 0) 0 [] rfl ⟨rfl, .inl ⟨rfl, rfl⟩⟩ A (n - 1) c (nums .i64 (ds.take (n - 1))) rfl HL4.out HX3.out nums_one (by unfold maxLen; omega) (by omega) (Nat.le_refl _) ?_; intro v6 w6 hown6 hgrow6; rw [Nat.zero_add, List.nil_append] at hown6; have hb6 : Below w3.heap.size w3 w6 := brf.grown hgrow6 (Nat.le_refl _) (fun k e => by cases e); have HY6 := Lib.hid (HY3.out.below hb6))
                | (refine append_vs rfl _ _ 22 rfl w3.heap.size 3 i0 (.int .i64 0) 8 Try.underlying22 hi hz0 hz1 hz2 rfl v6 (n - 1) (nums .i64 (ds.take (n - 1))) rfl hown6 B m2 cB (nums .i64 es) rfl HM3.out HY6.out nums_one (by unfold maxLen; omega) (by omega) hb6.size ?_; intro v7 w7 hown7 hgrow7; have hb7 : Below w3.heap.size w3 w7 := keep_below0 hown6 hgrow7 hb6 hb6.size (Nat.le_refl _); obtain ⟨A7, c7, rfl⟩ := own_slice hown7; rw [← List.map_append] at hown7; have HR7 := Lib.hid (Rd.of_own hown7)))
            | (go_at_call 16; refine (CT _ A7 c7 HR7.out).mono ?_; rintro e w8 ⟨A8, c8, rfl, hr8, hb8⟩; have hb38 := hb7.trans (hb8.mono hb7.size); have HR28 := Lib.hid (HR2.out.below hb38); have HR38 := Lib.hid (HR3.out.below hb38))
            | (go_at_call 18; first
                | ((with_reducible refine (CS A2 A3 _ _ _ HR28.out HR38.out).mono ?_); rintro e w9 ⟨rfl, hb9⟩)
                | ((with_reducible refine (CS A2 A8 _ _ _ (HR28.out.below hb9) (hr8.below hb9)).mono ?_); rintro e w10 ⟨rfl, hb10⟩)))
          go_ret
          exact ⟨rfl, hbw.trans ((hb.trans ((bgo (bgo (bgo hb2 hb3) (bgo hb7 hb8)) (bgo hb9 hb10)).mono hb.size)).mono hbw.size)⟩

theorem open_intRowC {H : Type} {enc : TypeId × Value → H} {W : World} {base b0 : Nat} {sp : Nat → Bool} {held : Bool} {v : Value} {d : DataW H} {p : List MemPlace} (h : DataW.Trod enc Try.prog W b0 sp held 22 v d p) (hv : Value.okWide Try.prog W .any base 22 v) :
    ∃ A n c xs, v = .slice A n c ∧ xs.length = n ∧ n ≤ c ∧ c ≤ maxLen ∧ Rd W A (nums .i64 xs) := by
  obtain ⟨A, n, c, rfl⟩ := okWide_slice Try.underlying22 hv
  obtain ⟨fuel, hf⟩ := h
  obtain ⟨A', l, c', xs, he, h1, h2, hl, hr, hw, _⟩ := open_row Try.underlying22 Try.underlying3 (by kernel_rfl) hf
  cases he
  exact ⟨A, n, c, xs, rfl, hl, h1, h2, hr⟩

set_option maxRecDepth 100000 in
set_option maxHeartbeats 4000000 in
theorem permDraws_walk (z by_ : Int) (A B : Option Addr) (m c m2 cB : Nat) (ds es : List Int) (w : World) (hm : ds.length = m) (hx : Rd w A (nums .i64 ds)) (hm2 : es.length = m2) (hy : Rd w B (nums .i64 es)) (hmc : m ≤ c) (hc : c ≤ maxLen)
    (wz : -9223372036854775808 ≤ z ∧ z ≤ 9223372036854775807) : Calls Try.prog 4 #[.int .i64 z, .slice A m c, .slice B m2 cB, .int .i64 by_] w (Yes w) := by
  have HM := Lib.hid hm
  have HX := Lib.hid hx
  have HM2 := Lib.hid hm2
  have HY := Lib.hid hy
  clear hm hx hm2 hy
  by_cases hc1 : z < 1
  · skip
    go_enter Try.func4, Try.ntmps4
    go_wp2_with (go_at_call 15; refine (live11_any _).mono ?_; rintro e w1 ⟨rfl, hb1⟩)
    go_ret
    exact ⟨rfl, hb1⟩
  by_cases hc2 : 12 < z
  · skip
    go_enter Try.func4, Try.ntmps4
    go_wp2_with (go_at_call 15; refine (live11_any _).mono ?_; rintro e w1 ⟨rfl, hb1⟩)
    go_ret
    exact ⟨rfl, hb1⟩
  by_cases hc3 : (m : Int) < z - 1
  · skip
    go_enter Try.func4, Try.ntmps4
    go_wp2_with (go_at_call 15; refine (live11_any _).mono ?_; rintro e w1 ⟨rfl, hb1⟩)
    go_ret
    exact ⟨rfl, hb1⟩
  by_cases hc4 : 60 < m
  · have q : (60 : Int) < m := by omega
    go_enter Try.func4, Try.ntmps4
    go_wp2_with (go_at_call 15; refine (live11_any _).mono ?_; rintro e w1 ⟨rfl, hb1⟩)
    go_ret
    exact ⟨rfl, hb1⟩
  have q4 : ¬ (60 : Int) < m := by omega
  by_cases hc5 : 60 < m2
  · have q : (60 : Int) < m2 := by omega
    go_enter Try.func4, Try.ntmps4
    go_wp2_with (go_at_call 15; refine (live11_any _).mono ?_; rintro e w1 ⟨rfl, hb1⟩)
    go_ret
    exact ⟨rfl, hb1⟩
  have q5 : ¬ (60 : Int) < m2 := by omega
  by_cases hc6 : by_ < 0
  · skip
    go_enter Try.func4, Try.ntmps4
    go_wp2_with (go_at_call 15; refine (live11_any _).mono ?_; rintro e w1 ⟨rfl, hb1⟩)
    go_ret
    exact ⟨rfl, hb1⟩
  by_cases hc7 : 1000 < by_
  · skip
    go_enter Try.func4, Try.ntmps4
    go_wp2_with (go_at_call 15; refine (live11_any _).mono ?_; rintro e w1 ⟨rfl, hb1⟩)
    go_ret
    exact ⟨rfl, hb1⟩
  obtain ⟨n, rfl⟩ := Int.eq_ofNat_of_zero_le (show 0 ≤ z by omega)
  exact permDraws_in n A B m c m2 cB ds es by_ w HM.out HX.out HM2.out HY.out (by omega) (by omega) (by omega) (by omega) (by omega) (by omega) (by omega) hmc hc

theorem permDraws_of {H : Type} {enc : TypeId × Value → H} (W : World) (base : Nat) (args : Array Value) (ds : List (DataW H)) (p : List MemPlace)
    (hval : ∀ (j : Nat) t v, Try.f4.params[j]? = some t → args[j]? = some v → Value.okWide Try.prog W .any base t v)
    (hA : DataW.TrodAll enc Try.prog W 0 (fun _ => true) true Try.f4.params.toList args.toList ds p) (hlt : ∀ x ∈ p, x.block < W.heap.size)
    (hz : (DataW.weightsEach Try.prog Try.f4.params.toList ds).all (· ≤ reachBytes) = true) : Calls Try.prog 4 args W (Yes W) := by
  rw [Try.params4] at hA hval hz
  obtain ⟨v0, vs0, d0, ds0, p0, q0, hargs, rfl, rfl, h0, r0⟩ := trodAll_cons hA
  obtain ⟨v1, vs1, d1, ds1, p1, q1, rfl, rfl, rfl, h1, r1⟩ := trodAll_cons r0
  obtain ⟨v2, vs2, d2, ds2, p2, q2, rfl, rfl, rfl, h2, r2⟩ := trodAll_cons r1
  obtain ⟨v3, vs3, d3, ds3, p3, q3, rfl, rfl, rfl, h3, r3⟩ := trodAll_cons r2
  obtain ⟨rfl, rfl, rfl⟩ := trodAll_nil r3
  obtain rfl : args = #[v0, v1, v2, v3] := by cases args; simp_all

  obtain ⟨z, rfl, rfl, rfl, wz⟩ := open_int Try.underlying3 (hval 0 _ _ rfl rfl) h0
  obtain ⟨A, m, c, xs, rfl, hl1, hc1, hc2, hrd1⟩ := open_intRowC h1 (hval 1 _ _ rfl rfl)
  obtain ⟨B, m2, cB, ys, rfl, hl2, hd1, hd2, hrd2⟩ := open_intRowC h2 (hval 2 _ _ rfl rfl)
  obtain ⟨b, rfl, rfl, rfl, wb⟩ := open_int Try.underlying3 (hval 3 _ _ rfl rfl) h3
  have wz' : -9223372036854775808 ≤ z ∧ z ≤ 9223372036854775807 := by
    have : (decide ((-9223372036854775808 : Int) ≤ z) && decide (z ≤ (9223372036854775807 : Int))) = true := wz
    simpa using this
  exact permDraws_walk z b A B m c m2 cB xs ys W hl1 hrd1 hl2 hrd2 hc1 hc2 wz'
end Go.Proofs.Ytmepcpklnpjebaa
