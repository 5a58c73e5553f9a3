/- A number of at most eight bytes, told: contracts of both answers. -/
import Derived.Test.YtmkmndgdakpojaaDoorTb0
import Derived.Laws.BitsLemmas
import Derived.Test.YtmkmndgdakpojaaDoorTg
import Derived.Test.YtmkmndgdakpojaaDoorTb
import Derived.Test.YtmkmndgdakpojaaDoorApart
namespace Go.Proofs.YtmkmndgdakpojaaDoor
open Go.RowKit
set_option linter.unusedSimpArgs false
set_option linter.unusedVariables false
set_option maxRecDepth 100000

theorem u64_in (n : Int) (h0 : 0 ≤ n) (h1 : n < 2 ^ 64) : IntKind.u64.wrap n = n := by
  have : IntKind.u64.wrap n = n % 18446744073709551616 := by simp [IntKind.wrap, IntKind.bits, IntKind.signed]
  rw [this]; omega
theorem shl_or {v : Nat} {x : Int} (hv : v < 72057594037927936) (h0 : 0 ≤ x) (h1 : x ≤ 255) : bits BinOp.or IntKind.u64 ((v : Int) * 256) x = ((v * 256 + x.toNat : Nat) : Int) := by
  rw [bits_join .u64 64 (by decide) u64_in 8 ((v : Int) * 256) x (by omega) (by omega) (by omega) h0 (by omega) (by omega)]
  omega

theorem val_take {xs : List Int} {k : Nat} (hb : Byt xs) (hk : k < xs.length) (h8 : xs.length ≤ 8) : valB (xs.take k) < 72057594037927936 ∧ valB (xs.take (k + 1)) = valB (xs.take k) * 256 + (xs.getD k 0).toNat ∧ 0 ≤ xs.getD k 0 ∧ xs.getD k 0 ≤ 255 := by
  have hlt := valB_lt (l := xs.take k) (fun x hx => hb x (List.mem_of_mem_take hx))
  have h2 : (xs.take k).length ≤ 7 := by rw [List.length_take]; omega
  have h3 : 2 ^ (8 * (xs.take k).length) ≤ 2 ^ 56 := Nat.pow_le_pow_right (by omega) (by omega)
  have h4 : (2 : Nat) ^ 56 = 72057594037927936 := by decide
  refine ⟨by rw [h4] at h3; exact Nat.lt_of_lt_of_le hlt h3, ?_, hb _ ?_⟩
  · rw [take_snoc hk, valB_snoc]
  · simp [List.getD, List.getElem?_eq_getElem hk]

set_option maxHeartbeats 1000000 in
theorem wget_any (A : Option Addr) (n c : Nat) (xs : List Int) (w : World) (hn : xs.length = n) (hx : Rd w A (nums .u8 xs)) (hb : Byt xs) (h1 : 1 ≤ n) (h8 : n ≤ 8) :
    Calls Tryd.prog 41 #[.slice A n c] w fun e w' => e = .returned (.tuple #[.int .u64 ((valB xs : Nat) : Int), .int .i64 0]) ∧ w = w' := by
  obtain ⟨b, o, rfl, hl, hc⟩ := hx.at_ (by simp; omega)
  have HV : Hid (∀ k, k < n → _) := Lib.hid (fun k (hk : k < n) => val_take hb (by rw [hn]; exact hk) (by rw [hn]; exact h8))
  have HC : Hid (∀ k, k < n → _) := Lib.hid (fun k (hk : k < n) => hc k _ (nums_at (by rw [hn]; exact hk)))
  have HF : Hid (xs.take n = xs) := Lib.hid (List.take_of_length_le (by omega))
  clear hx hb hc hn
  go_enter Tryd.func41, Tryd.ntmps41
  go_wp2_with fail
  go_loop [4, 17] (fun v i => ∃ k : Nat, k ≤ n ∧ i = .int .i64 k ∧ v = .int .u64 ((valB (xs.take k) : Nat) : Int)) (fun _ i => n - (intOf i).toNat)
  case atStart => exact ⟨0, Nat.zero_le _, rfl, rfl⟩
  case round =>
    obtain ⟨k, hk, rfl, rfl⟩ := hrel
    have r0 : (0 : Int) ≤ k := by omega
    by_cases hlt : k < n
    · have r1 : (k : Int) < n := by omega
      have g1 := HC.out k hlt
      obtain ⟨v1, v2, v3, v4⟩ := HV.out k hlt
      obtain ⟨v, hv⟩ : ∃ v, v = valB (xs.take k) := ⟨_, rfl⟩
      obtain ⟨x, hx⟩ : ∃ x, x = xs.getD k 0 := ⟨_, rfl⟩
      rw [← hv] at v1 v2 ⊢
      rw [← hx] at v2 v3 v4 g1
      have HQ := Lib.hid (shl_or v1 v3 v4)
      have HV2 := Lib.hid v2
      clear v2 hv hx
      go_wp2_with fail
      rw [HQ.out]
      exact ⟨⟨k + 1, by omega, by congr 1, by rw [HV2.out]⟩, by show n - ((k : Int) + 1).toNat < n - (k : Int).toNat; omega⟩
    · have hkn : k = n := by omega
      subst hkn
      rw [HF.out]
      go_wp2_with fail
      go_ret2
      exact ⟨rfl, rfl⟩
set_option maxHeartbeats 1000000 in
theorem rget_any (A : Option Addr) (n c : Nat) (xs : List Int) (w : World) (hn : xs.length = n) (hx : Rd w A (nums .u8 xs)) (hb : Byt xs) (h1 : 1 ≤ n) (h8 : n ≤ 8) :
    Calls Tryd.prog 25 #[.slice A n c] w fun e w' => e = .returned (.tuple #[.int .u64 ((valB xs : Nat) : Int), .int .i64 0]) ∧ w = w' := by
  obtain ⟨b, o, rfl, hl, hc⟩ := hx.at_ (by simp; omega)
  have HV : Hid (∀ k, k < n → _) := Lib.hid (fun k (hk : k < n) => val_take hb (by rw [hn]; exact hk) (by rw [hn]; exact h8))
  have HC : Hid (∀ k, k < n → _) := Lib.hid (fun k (hk : k < n) => hc k _ (nums_at (by rw [hn]; exact hk)))
  have HF : Hid (xs.take n = xs) := Lib.hid (List.take_of_length_le (by omega))
  clear hx hb hc hn
  go_enter Tryd.func25, Tryd.ntmps25
  go_wp2_with fail
  go_loop [4, 17] (fun v i => ∃ k : Nat, k ≤ n ∧ i = .int .i64 k ∧ v = .int .u64 ((valB (xs.take k) : Nat) : Int)) (fun _ i => n - (intOf i).toNat)
  case atStart => exact ⟨0, Nat.zero_le _, rfl, rfl⟩
  case round =>
    obtain ⟨k, hk, rfl, rfl⟩ := hrel
    have r0 : (0 : Int) ≤ k := by omega
    by_cases hlt : k < n
    · have r1 : (k : Int) < n := by omega
      have g1 := HC.out k hlt
      obtain ⟨v1, v2, v3, v4⟩ := HV.out k hlt
      obtain ⟨v, hv⟩ : ∃ v, v = valB (xs.take k) := ⟨_, rfl⟩
      obtain ⟨x, hx⟩ : ∃ x, x = xs.getD k 0 := ⟨_, rfl⟩
      rw [← hv] at v1 v2 ⊢
      rw [← hx] at v2 v3 v4 g1
      have HQ := Lib.hid (shl_or v1 v3 v4)
      have HV2 := Lib.hid v2
      clear v2 hv hx
      go_wp2_with fail
      exact ⟨⟨k + 1, by omega, by congr 1, by rw [HV2.out]; congr 1; omega⟩, by show n - ((k : Int) + 1).toNat < n - (k : Int).toNat; omega⟩
    · have hkn : k = n := by omega
      subst hkn
      rw [HF.out]
      go_wp2_with fail
      go_ret2
      exact ⟨rfl, rfl⟩
end Go.Proofs.YtmkmndgdakpojaaDoor
/- Stamps taken: contracts of both answers. -/
namespace Go.Proofs.YtmkmndgdakpojaaDoor
open Go.RowKit
set_option linter.unusedSimpArgs false
set_option linter.unusedVariables false
set_option maxRecDepth 100000

theorem infoIntJ : (Tryd.prog.info? 3).map (fun i => (i.zero, i.size, i.bytes)) = some (some (.int .i64 0), 1, 8) := by kernel_rfl
theorem bset3 {w x : World} (h : Below w.heap.size w x) (u v z : Value) : Below w.heap.size w (((x.setCell ⟨w.heap.size, 0, none⟩ u).setCell ⟨w.heap.size, 1, none⟩ v).setCell ⟨w.heap.size, 2, none⟩ z) :=
  ((h.setCell (p := ⟨w.heap.size, 0, none⟩) (Nat.le_refl _) _).setCell (p := ⟨w.heap.size, 1, none⟩) (Nat.le_refl _) _).setCell (p := ⟨w.heap.size, 2, none⟩) (Nat.le_refl _) _
theorem own_le {w : World} {base n c : Nat} {e : TypeId} {A : Option Addr} {vs : List Value} (h : w.ownsRow base e 1 (.slice A n c) n vs) : n ≤ c := by
  rcases h.2 with ⟨h1, h2⟩ | ⟨g, cap, cur, h1, hb, hg, hc, _⟩
  · cases h1; exact Nat.le_refl _
  · cases h1; omega
theorem own_set3 {x : World} {q base n : Nat} {e : TypeId} {v0 : Value} {vs : List Value} (h : x.ownsRow base e 1 v0 n vs) {B : Nat} (hq : q < base) (hB : B ≤ base) (u v z : Value) : (((x.setCell ⟨q, 0, none⟩ u).setCell ⟨q, 1, none⟩ v).setCell ⟨q, 2, none⟩ z).ownsRow B e 1 v0 n vs :=
  own_baseT (own_setCell (a := ⟨q, 2, none⟩) (own_setCell (a := ⟨q, 1, none⟩) (own_setCell (a := ⟨q, 0, none⟩) h hq) hq) hq) hB
/-- No stamp. -/
def NoTk (w : World) (e : Ending) (w' : World) : Prop := e = .returned (.tuple #[.agg #[.int .u64 0, .int .u64 0, .slice none 0 0], .int .i64 0, .int .i64 3]) ∧ Below w.heap.size w w'
/-- The stamp that bytes say, its servers a row of one's own. -/
def IsTk (w : World) (xs : List Int) (e : Ending) (w' : World) : Prop :=
  ∃ A c, e = .returned (.tuple #[.agg #[.int .u64 ((tkE xs : Nat) : Int), .int .u64 ((tkR xs : Nat) : Int), .slice A (tkM xs) c], .int .i64 (17 + ((tkM xs : Nat) : Int)), .int .i64 0]) ∧ tkM xs ≤ c ∧ w'.ownsRow w.heap.size 3 1 (.slice A (tkM xs) c) (tkM xs) (nums .i64 (tkX xs)) ∧ Below w.heap.size w w'
theorem tk_get {xs : List Int} {k : Nat} (hk : k < tkM xs) (hl : 17 + tkM xs ≤ xs.length) : (tkX xs).take (k + 1) = (tkX xs).take k ++ [xs.getD (17 + k) 0] := by
  have h1 : (tkX xs).length = tkM xs := by rw [tkX, List.length_take, List.length_drop]; omega
  rw [take_snoc (by rw [h1]; exact hk)]
  congr 2
  simp [tkX, List.getD, List.getElem?_take, hk, List.getElem?_drop]

set_option maxHeartbeats 1000000 in
theorem tk_short (A : Option Addr) (n c : Nat) (w : World) (h : n < 17) : Calls Tryd.prog 40 #[.slice A n c] w (NoTk w) := by
  go_enter Tryd.func40, Tryd.ntmps40
  go_wp2_with fail
  refine bodyPost_ret (v := .tuple #[.agg #[.int .u64 0, .int .u64 0, .slice none 0 0], .int .i64 0, .int .i64 3]) (by simp [results, Tryd.results40, go_sem]) rfl ⟨rfl, ?_⟩
  exact bal brf _
set_option maxHeartbeats 1000000 in
theorem tk_many (A : Option Addr) (n c : Nat) (xs : List Int) (w : World) (hn : xs.length = n) (hx : Rd w A (nums .u8 xs)) (h17 : 17 ≤ n) (hm : 0 ≤ xs.getD 16 0 ∧ xs.getD 16 0 ≤ 255) (h : 8 < xs.getD 16 0 ∨ (n : Int) < 17 + xs.getD 16 0) : Calls Tryd.prog 40 #[.slice A n c] w (NoTk w) := by
  obtain ⟨b, o, rfl, hl, hc⟩ := hx.at_ (by simp; omega)
  have g := hc 16 _ (nums_at (by omega))
  obtain ⟨x, hx⟩ : ∃ x, x = xs.getD 16 0 := ⟨_, rfl⟩
  rw [← hx] at g h hm
  obtain ⟨m0, m1⟩ := hm
  clear hc hx hn
  have g2 := (World.cell?_alloc_lt w (.cells #[.int .u64 0, .int .u64 0, .slice none 0 0] 28) ⟨b, o + 16, none⟩ hl).trans g
  by_cases h8 : 8 < x
  rotate_left
  have h9 : (n : Int) < 17 + x := by omega
  all_goals
    go_enter Tryd.func40, Tryd.ntmps40
    go_wp2_with fail
    refine bodyPost_ret (v := .tuple #[.agg #[.int .u64 0, .int .u64 0, .slice none 0 0], .int .i64 0, .int .i64 3]) (by simp [results, Tryd.results40, go_sem]) rfl ⟨rfl, ?_⟩
    exact bal brf _

set_option maxHeartbeats 1000000 in
theorem rtk_short (A : Option Addr) (n c : Nat) (w : World) (h : n < 17) : Calls Tryd.prog 24 #[.slice A n c] w (NoTk w) := by
  go_enter Tryd.func24, Tryd.ntmps24
  go_wp2_with fail
  refine bodyPost_ret (v := .tuple #[.agg #[.int .u64 0, .int .u64 0, .slice none 0 0], .int .i64 0, .int .i64 3]) (by simp [results, Tryd.results24, go_sem]) rfl ⟨rfl, ?_⟩
  exact bal brf _
set_option maxHeartbeats 1000000 in
theorem rtk_many (A : Option Addr) (n c : Nat) (xs : List Int) (w : World) (hn : xs.length = n) (hx : Rd w A (nums .u8 xs)) (h17 : 17 ≤ n) (hm : 0 ≤ xs.getD 16 0 ∧ xs.getD 16 0 ≤ 255) (h : (n : Int) < 17 + xs.getD 16 0) : Calls Tryd.prog 24 #[.slice A n c] w (NoTk w) := by
  obtain ⟨b, o, rfl, hl, hc⟩ := hx.at_ (by simp; omega)
  have g := hc 16 _ (nums_at (by omega))
  obtain ⟨x, hx⟩ : ∃ x, x = xs.getD 16 0 := ⟨_, rfl⟩
  rw [← hx] at g h hm
  obtain ⟨m0, m1⟩ := hm
  clear hc hx hn
  have g2 := (World.cell?_alloc_lt w (.cells #[.int .u64 0, .int .u64 0, .slice none 0 0] 28) ⟨b, o + 16, none⟩ hl).trans g
  skip
  all_goals
    go_enter Tryd.func24, Tryd.ntmps24
    go_wp2_with fail
    refine bodyPost_ret (v := .tuple #[.agg #[.int .u64 0, .int .u64 0, .slice none 0 0], .int .i64 0, .int .i64 3]) (by simp [results, Tryd.results24, go_sem]) rfl ⟨rfl, ?_⟩
    exact bal brf _

set_option maxHeartbeats 2000000 in
theorem tk_walk (A : Option Addr) (n c : Nat) (xs : List Int) (w : World) (hn : xs.length = n) (hnc : n ≤ c) (hx : Rd w A (nums .u8 xs)) (hb : Byt xs) (h17 : 17 ≤ n) (hm : tkM xs ≤ 8) (h : 17 + tkM xs ≤ n) (hcm : c ≤ maxLen) :
    Calls Tryd.prog 40 #[.slice A n c] w fun e w' => (goodSt (tkX xs) ∧ IsTk w xs e w') ∨ (¬ goodSt (tkX xs) ∧ NoTk w e w') := by
  obtain ⟨i0, hi, hz0, hz1, hz2⟩ := info_parts infoIntJ
  unfold maxLen at hcm
  obtain ⟨b, o, rfl, hl, hc⟩ := hx.at_ (by simp; omega)
  have hg16 := hb (xs.getD 16 0) (by simp [List.getD, List.getElem?_eq_getElem (show 16 < xs.length by omega)])
  have hxm : xs.getD 16 0 = ((tkM xs : Nat) : Int) := by rw [tkM]; omega
  have g := hc 16 _ (nums_at (by omega))
  rw [hxm] at g
  have g2 := (World.cell?_alloc_lt w (.cells #[.int .u64 0, .int .u64 0, .slice none 0 0] 28) ⟨b, o + 16, none⟩ hl).trans g
  have CG1 := fun (W : World) h0 => wget_any (some ⟨b, o, none⟩) 8 c (xs.take 8) W (by rw [List.length_take]; omega) h0 (fun x hx => hb x (List.mem_of_mem_take hx)) (by omega) (by omega)
  have CG2 := fun (W : World) h0 => wget_any (some ⟨b, o + 8, none⟩) 8 (c - 8) ((xs.drop 8).take 8) W (by rw [List.length_take, List.length_drop]; omega) h0 (fun x hx => hb x (List.mem_of_mem_drop (List.mem_of_mem_take hx))) (by omega) (by omega)
  have HR := Lib.hid hx
  have HR1 := Lib.hid (hx.take 8)
  have HR2 := Lib.hid (hx.part 8 8)
  have hel : ∀ k, k < tkM xs → (∃ x, xs[17 + k]? = some x) ∧ (tkX xs).take (k + 1) = (tkX xs).take k ++ [xs.getD (17 + k) 0] := fun k hk => ⟨⟨_, List.getElem?_eq_getElem (by omega)⟩, tk_get hk (by omega)⟩
  have HEL := Lib.hid hel
  have hX : (tkX xs).length = tkM xs := by rw [tkX, List.length_take, List.length_drop]; omega
  have HX := Lib.hid hX
  have hfull : (tkX xs).take (tkM xs) = tkX xs := List.take_of_length_le (by omega)
  have HF := Lib.hid hfull
  have HCE : Hid (∀ k, k < tkM xs → w.cell? ⟨b, o + 17 + k, none⟩ = some (.int .u8 (xs.getD (17 + k) 0))) := Lib.hid (fun k hk => by rw [Nat.add_assoc]; exact hc (17 + k) _ (nums_at (by omega)))
  have HBB : Hid (∀ k, k < tkM xs → 0 ≤ xs.getD (17 + k) 0 ∧ xs.getD (17 + k) 0 ≤ 255) := Lib.hid (fun k hk => hb _ (by simp [List.getD, List.getElem?_eq_getElem (show 17 + k < xs.length by omega)]))
  have hsz : Hid ((17 + ((tkM xs : Nat) : Int)).toNat = 17 + tkM xs) := Lib.hid (by omega)
  obtain ⟨m, hM⟩ : ∃ m, m = tkM xs := ⟨_, rfl⟩
  obtain ⟨X, hXX⟩ : ∃ X, X = tkX xs := ⟨_, rfl⟩
  have HE : Hid (IsTk w xs = fun e w' => ∃ A c, e = .returned (.tuple #[.agg #[.int .u64 ((valB (xs.take 8) : Nat) : Int), .int .u64 ((valB ((xs.drop 8).take 8) : Nat) : Int), .slice A m c], .int .i64 (17 + (m : Int)), .int .i64 0]) ∧ m ≤ c ∧ w'.ownsRow w.heap.size 3 1 (.slice A m c) m (nums .i64 X) ∧ Below w.heap.size w w') := Lib.hid (by rw [hM, hXX]; rfl)
  rw [HE.out]
  rw [← hM] at g g2 hm h HEL HX HF HCE HBB hsz
  rw [← hXX] at HEL HX HF ⊢
  obtain ⟨E8, hE8⟩ : ∃ E8, E8 = valB (xs.take 8) := ⟨_, rfl⟩
  obtain ⟨R8, hR8⟩ : ∃ R8, R8 = valB ((xs.drop 8).take 8) := ⟨_, rfl⟩
  rw [← hE8] at CG1 ⊢
  rw [← hR8] at CG2 ⊢
  have hc8 : ¬ c = 8 := by omega
  have hc16 : ¬ c = 16 := by omega
  have r0 : (0 : Int) ≤ (m : Int) := by omega
  have HM := Lib.hid hM
  have CK : Hid (goodSt X → ∀ (W : World) A c, m ≤ c → Rd W A (nums .i64 X) → Calls Tryd.prog 36 #[.agg #[.int .u64 (E8 : Int), .int .u64 (R8 : Int), .slice A m c]] W fun e w' => e = .returned (.int .i64 0) ∧ Below W.heap.size W w') := Lib.hid (fun hg W A c hcc h0 => stCheck_ok W HX.out  h0 hg)
  have CN : Hid (¬ goodSt X → ∀ (W : World) A c, m ≤ c → Rd W A (nums .i64 X) → Calls Tryd.prog 36 #[.agg #[.int .u64 (E8 : Int), .int .u64 (R8 : Int), .slice A m c]] W fun e w' => e = .returned (.int .i64 1) ∧ Below W.heap.size W w') := Lib.hid (fun hg W A c hcc h0 => stCheck_bad W HX.out  h0 hg)
  clear hx hc hg16 hxm hel hX hfull hM hXX hE8 hR8 hb hn HE
  by_cases hc17 : c = 17
  · have hm0 : m = 0 := by omega
    have hg : ¬ goodSt X := fun hg => by have h1 := hg.1; rw [HX.out] at h1; omega
    obtain rfl : n = 17 := by omega
    subst hc17
    subst hm0
    have CC := CN.out hg
    have HG := Lib.hid hg
    have HXN : Hid (X = []) := Lib.hid (List.eq_nil_of_length_eq_zero HX.out)
    clear hg h17 h hm hc8 hc16 hnc r0
    simp only [Int.natCast_zero] at g g2
    go_enter Tryd.func40, Tryd.ntmps40
    go_wp2_with (go_at_call 41; first
      | ((with_reducible refine (CG1 _ (HR1.out.below (by first | exact bal brf _ | exact bal (bal brf _) _))).mono ?_); rintro e w1 ⟨rfl, rfl⟩)
      | ((with_reducible refine (CG2 _ ?_).mono ?_); rotate_left; rintro e w1 ⟨rfl, rfl⟩))
    rotate_left
    · exact HR2.out.below (bal (bal brf _) _)
    refine wp_loop_rounds 1 ?_
    rw [rounds_succ]
    go_wp2_with (go_at_call 36; go_must (refine (CC _ none 0 (Nat.le_refl _) (by rw [HXN.out]; exact .inl rfl)).mono ?_; rintro e w5 ⟨rfl, hb5⟩; have z5 := hb5.size; simp only [World.size_alloc] at z5; have z6 : w.heap.size < w5.heap.size := (by omega); have s0 : w5.cell? ⟨w.heap.size, 0, none⟩ = some (.int .u64 0) := (hb5.cell (p := ⟨w.heap.size, 0, none⟩) (by simp; omega)).trans (by simp [go_sem]); have f0 : w5.frozen? ⟨w.heap.size, 0, none⟩ = false := (hb5.frozen (p := ⟨w.heap.size, 0, none⟩) (by simp; omega)).trans (by simp [go_sem]); have s1 : w5.cell? ⟨w.heap.size, 1, none⟩ = some (.int .u64 0) := (hb5.cell (p := ⟨w.heap.size, 1, none⟩) (by simp; omega)).trans (by simp [go_sem]); have f1 : w5.frozen? ⟨w.heap.size, 1, none⟩ = false := (hb5.frozen (p := ⟨w.heap.size, 1, none⟩) (by simp; omega)).trans (by simp [go_sem]); have s2 : w5.cell? ⟨w.heap.size, 2, none⟩ = some (.slice none 0 0) := (hb5.cell (p := ⟨w.heap.size, 2, none⟩) (by simp; omega)).trans (by simp [go_sem]); have f2 : w5.frozen? ⟨w.heap.size, 2, none⟩ = false := (hb5.frozen (p := ⟨w.heap.size, 2, none⟩) (by simp; omega)).trans (by simp [go_sem])))
    refine bodyPost_ret (v := .tuple #[.agg #[.int .u64 0, .int .u64 0, .slice none 0 0], .int .i64 0, .int .i64 3]) (by simp [results, Tryd.results40, go_sem, s0, s1, s2]) rfl (.inr ⟨HG.out, rfl, ?_⟩)
    exact bset3 (bgo (bal (bal brf _) _) hb5) _ _ _
  · go_enter Tryd.func40, Tryd.ntmps40
    go_wp2_with (go_at_call 41; first
      | ((with_reducible refine (CG1 _ (HR1.out.below (by first | exact bal brf _ | exact bal (bal brf _) _))).mono ?_); rintro e w1 ⟨rfl, rfl⟩)
      | ((with_reducible refine (CG2 _ ?_).mono ?_); rotate_left; rintro e w1 ⟨rfl, rfl⟩))
    rotate_left
    · exact HR2.out.below (bal (bal brf _) _)
    rw [Nat.add_sub_cancel_left]
    go_loopw [8, 46] (fun _ i wr => ∃ (k : Nat) (A : Option Addr) (cc : Nat), k ≤ m ∧ i = .int .i64 k ∧ wr.ownsRow (w.heap.size + 2) 3 1 (.slice A k cc) k (nums .i64 (X.take k)) ∧
        wr.cell? ⟨w.heap.size + 1, 0, none⟩ = some (.int .u64 E8) ∧ wr.cell? ⟨w.heap.size + 1, 1, none⟩ = some (.int .u64 R8) ∧ wr.cell? ⟨w.heap.size + 1, 2, none⟩ = some (.slice A k cc) ∧ wr.frozen? ⟨w.heap.size + 1, 2, none⟩ = false ∧
        w.heap.size + 1 < wr.heap.size ∧ Below (w.heap.size + 1) (w.alloc (.cells #[.int .u64 0, .int .u64 0, .slice none 0 0] 28)) wr) (fun _ i _ => m - (intOf i).toNat)
    case atStart => exact ⟨0, none, 0, Nat.zero_le _, rfl, World.ownsRow_nil _ _ _ _, by simp [go_sem], by simp [go_sem], by simp [go_sem], by simp [go_sem], by simp, by have := bal (brf (w := w.alloc (.cells #[.int .u64 0, .int .u64 0, .slice none 0 0] 28))) (.cells #[.int .u64 E8, .int .u64 R8, .slice none 0 0] 28); rwa [World.size_alloc] at this⟩
    case round =>
      obtain ⟨k, A, cc, hk, rfl, hown, hc0, hc1, hc2, hfz, hlt, hB⟩ := hrel
      have k0 : (0 : Int) ≤ (k : Int) := by omega
      by_cases hkn : k < m
      · have k1 : (k : Int) < (m : Int) := by omega
        have ge := (hB.cell (p := ⟨b, o + 17 + k, none⟩) (by show b < _; omega)).trans ((World.cell?_alloc_lt w _ ⟨b, o + 17 + k, none⟩ hl).trans (HCE.out k hkn))
        obtain ⟨b0, b1⟩ := HBB.out k hkn
        have U := Lib.hid (HEL.out k hkn).2
        obtain ⟨x, hx⟩ : ∃ x, x = xs.getD (17 + k) 0 := ⟨_, rfl⟩
        rw [← hx] at ge b0 b1 U
        clear hx
        go_wp2_with (at_builtin; go_must (refine wpList_append_own _ rfl _ _ 26 rfl (w.heap.size + 2) 3 i0 (.int .i64 0) 1 8 Tryd.underlying26 hi hz0 hz1 hz2 rfl (by decide) _ _ _ rfl (hown.alloc _) ⟨wr.heap.size, 0, none⟩ 1 1 [.int .i64 x] rfl rfl ?c1 ?c2 ?c3 ?c4 ?c5 ?_))
        case c1 => exact cell_one_new _ _ _
        case c2 => simp [Value.oneCell']
        case c3 => unfold maxLen; omega
        case c4 => omega
        case c5 => simp; omega
        intro v' w2 hown' hgrow _
        obtain ⟨A', c', rfl⟩ := own_slice hown'
        have hB2 := keep_below hown hgrow hB (Nat.le_of_lt hlt) (Nat.le_succ _)
        have g0 := keep_cell hown hgrow (Nat.lt_succ_self _) hc0
        have g1 := keep_cell hown hgrow (Nat.lt_succ_self _) hc1
        have g2 := keep_cell hown hgrow (Nat.lt_succ_self _) hc2
        have gz := keep_frozen hown hgrow (Nat.lt_succ_self _) hlt hfz
        have hs2 : w.heap.size + 1 < w2.heap.size := by have := hgrow.size; simp at this; omega
        clear hc0 hc1 hc2 hfz hgrow hown hB
        go_wp2
        refine ⟨⟨k + 1, A', c', by omega, by go_num, ?_, ?_, ?_, ?_, by simpa using gz, by rw [size_setCell]; exact hs2, hB2.setCell (Nat.le_refl _) _⟩, by simp [intOf]; omega⟩
        · rw [U.out]; simpa [nums] using own_setCell (a := ⟨w.heap.size + 1, 2, none⟩) hown' (Nat.lt_succ_self _)
        · rw [cell_setCell_off (by decide)]; exact g0
        · rw [cell_setCell_off (by decide)]; exact g1
        · exact cell_setCell_eq g2
      · obtain rfl : k = m := by omega
        rw [HF.out] at hown
        have hq : ∀ i : Nat, wr.cell? ⟨w.heap.size, i, none⟩ = (w.alloc (.cells #[.int .u64 0, .int .u64 0, .slice none 0 0] 28)).cell? ⟨w.heap.size, i, none⟩ := fun i => hB.cell (p := ⟨w.heap.size, i, none⟩) (Nat.lt_succ_self _)
        have hfq : ∀ i : Nat, wr.frozen? ⟨w.heap.size, i, none⟩ = false := fun i => (hB.frozen (p := ⟨w.heap.size, i, none⟩) (Nat.lt_succ_self _)).trans (by simp [go_sem])
        have t0 : wr.cell? ⟨w.heap.size, 0, none⟩ = some (.int .u64 0) := (hq 0).trans (by simp [go_sem])
        have t1 : wr.cell? ⟨w.heap.size, 1, none⟩ = some (.int .u64 0) := (hq 1).trans (by simp [go_sem])
        have t2 : wr.cell? ⟨w.heap.size, 2, none⟩ = some (.slice none 0 0) := (hq 2).trans (by simp [go_sem])
        have HO := Lib.hid hown
        have hB0 : Below w.heap.size w wr := (bal brf _).trans (hB.mono (Nat.le_succ _))
        have HB := Lib.hid hB0
        have z0 : w.heap.size < wr.heap.size := by omega
        have HFQ := Lib.hid hfq
        have HZZ := Lib.hid (And.intro t0 (And.intro t1 t2))
        clear hq hown hB hB0 hfq t0 t1 t2
        by_cases hg : goodSt X
        · have CC := CK.out hg
          have HG := Lib.hid hg
          clear hg
          go_wp2_with (go_at_call 36; refine (CC _ _ _ (own_le HO.out) (Rd.of_own HO.out)).mono ?_; rintro e w5 ⟨rfl, hb5⟩; have z5 := hb5.size; have z6 : w.heap.size < w5.heap.size := Nat.lt_of_lt_of_le z0 z5; have hc0 := (hb5.cell (p := ⟨w.heap.size + 1, 0, none⟩) hlt).trans hc0; have hc1 := (hb5.cell (p := ⟨w.heap.size + 1, 1, none⟩) hlt).trans hc1; have hc2 := (hb5.cell (p := ⟨w.heap.size + 1, 2, none⟩) hlt).trans hc2; have s0 := (hb5.cell (p := ⟨w.heap.size, 0, none⟩) z0).trans HZZ.out.1; have s1 := (hb5.cell (p := ⟨w.heap.size, 1, none⟩) z0).trans HZZ.out.2.1; have s2 := (hb5.cell (p := ⟨w.heap.size, 2, none⟩) z0).trans HZZ.out.2.2; have f0 := (hb5.frozen (p := ⟨w.heap.size, 0, none⟩) z0).trans (HFQ.out 0); have f1 := (hb5.frozen (p := ⟨w.heap.size, 1, none⟩) z0).trans (HFQ.out 1); have f2 := (hb5.frozen (p := ⟨w.heap.size, 2, none⟩) z0).trans (HFQ.out 2))
          refine bodyPost_ret (v := .tuple #[.agg #[.int .u64 E8, .int .u64 R8, .slice A k cc], .int .i64 (17 + k), .int .i64 0]) (by simp [results, Tryd.results40, go_sem, s0, s1, s2, hc0, hc1, hc2]) rfl (.inl ⟨HG.out, A, cc, rfl, own_le HO.out, ?_, bset3 (bgo HB.out hb5) _ _ _⟩)
          exact own_set3 (own_below HO.out hb5) (by omega) (by omega) _ _ _
        · have CC := CN.out hg
          have HG := Lib.hid hg
          clear hg
          go_wp2_with (go_at_call 36; refine (CC _ _ _ (own_le HO.out) (Rd.of_own HO.out)).mono ?_; rintro e w5 ⟨rfl, hb5⟩; have z5 := hb5.size; have z6 : w.heap.size < w5.heap.size := Nat.lt_of_lt_of_le z0 z5; have s0 := (hb5.cell (p := ⟨w.heap.size, 0, none⟩) z0).trans HZZ.out.1; have s1 := (hb5.cell (p := ⟨w.heap.size, 1, none⟩) z0).trans HZZ.out.2.1; have s2 := (hb5.cell (p := ⟨w.heap.size, 2, none⟩) z0).trans HZZ.out.2.2; have f0 := (hb5.frozen (p := ⟨w.heap.size, 0, none⟩) z0).trans (HFQ.out 0); have f1 := (hb5.frozen (p := ⟨w.heap.size, 1, none⟩) z0).trans (HFQ.out 1); have f2 := (hb5.frozen (p := ⟨w.heap.size, 2, none⟩) z0).trans (HFQ.out 2))
          refine bodyPost_ret (v := .tuple #[.agg #[.int .u64 0, .int .u64 0, .slice none 0 0], .int .i64 0, .int .i64 3]) (by simp [results, Tryd.results40, go_sem, s0, s1, s2]) rfl (.inr ⟨HG.out, rfl, ?_⟩)
          exact bset3 (bgo HB.out hb5) _ _ _

set_option maxHeartbeats 2000000 in
theorem rtk_walk (A : Option Addr) (n c : Nat) (xs : List Int) (w : World) (hn : xs.length = n) (hnc : n ≤ c) (hx : Rd w A (nums .u8 xs)) (hb : Byt xs) (h17 : 17 ≤ n) (hm : tkM xs ≤ 255) (h : 17 + tkM xs ≤ n) (hcm : c ≤ maxLen) :
    Calls Tryd.prog 24 #[.slice A n c] w fun e w' => (goodSt (tkX xs) ∧ IsTk w xs e w') ∨ (¬ goodSt (tkX xs) ∧ NoTk w e w') := by
  obtain ⟨i0, hi, hz0, hz1, hz2⟩ := info_parts infoIntJ
  unfold maxLen at hcm
  obtain ⟨b, o, rfl, hl, hc⟩ := hx.at_ (by simp; omega)
  have hg16 := hb (xs.getD 16 0) (by simp [List.getD, List.getElem?_eq_getElem (show 16 < xs.length by omega)])
  have hxm : xs.getD 16 0 = ((tkM xs : Nat) : Int) := by rw [tkM]; omega
  have g := hc 16 _ (nums_at (by omega))
  rw [hxm] at g
  have g2 := (World.cell?_alloc_lt w (.cells #[.int .u64 0, .int .u64 0, .slice none 0 0] 28) ⟨b, o + 16, none⟩ hl).trans g
  have CG1 := fun (W : World) h0 => rget_any (some ⟨b, o, none⟩) 8 c (xs.take 8) W (by rw [List.length_take]; omega) h0 (fun x hx => hb x (List.mem_of_mem_take hx)) (by omega) (by omega)
  have CG2 := fun (W : World) h0 => rget_any (some ⟨b, o + 8, none⟩) 8 (c - 8) ((xs.drop 8).take 8) W (by rw [List.length_take, List.length_drop]; omega) h0 (fun x hx => hb x (List.mem_of_mem_drop (List.mem_of_mem_take hx))) (by omega) (by omega)
  have HR := Lib.hid hx
  have HR1 := Lib.hid (hx.take 8)
  have HR2 := Lib.hid (hx.part 8 8)
  have hel : ∀ k, k < tkM xs → (∃ x, xs[17 + k]? = some x) ∧ (tkX xs).take (k + 1) = (tkX xs).take k ++ [xs.getD (17 + k) 0] := fun k hk => ⟨⟨_, List.getElem?_eq_getElem (by omega)⟩, tk_get hk (by omega)⟩
  have HEL := Lib.hid hel
  have hX : (tkX xs).length = tkM xs := by rw [tkX, List.length_take, List.length_drop]; omega
  have HX := Lib.hid hX
  have hfull : (tkX xs).take (tkM xs) = tkX xs := List.take_of_length_le (by omega)
  have HF := Lib.hid hfull
  have HCE : Hid (∀ k, k < tkM xs → w.cell? ⟨b, o + 17 + k, none⟩ = some (.int .u8 (xs.getD (17 + k) 0))) := Lib.hid (fun k hk => by rw [Nat.add_assoc]; exact hc (17 + k) _ (nums_at (by omega)))
  have HBB : Hid (∀ k, k < tkM xs → 0 ≤ xs.getD (17 + k) 0 ∧ xs.getD (17 + k) 0 ≤ 255) := Lib.hid (fun k hk => hb _ (by simp [List.getD, List.getElem?_eq_getElem (show 17 + k < xs.length by omega)]))
  have hsz : Hid ((17 + ((tkM xs : Nat) : Int)).toNat = 17 + tkM xs) := Lib.hid (by omega)
  obtain ⟨m, hM⟩ : ∃ m, m = tkM xs := ⟨_, rfl⟩
  obtain ⟨X, hXX⟩ : ∃ X, X = tkX xs := ⟨_, rfl⟩
  have HE : Hid (IsTk w xs = fun e w' => ∃ A c, e = .returned (.tuple #[.agg #[.int .u64 ((valB (xs.take 8) : Nat) : Int), .int .u64 ((valB ((xs.drop 8).take 8) : Nat) : Int), .slice A m c], .int .i64 (17 + (m : Int)), .int .i64 0]) ∧ m ≤ c ∧ w'.ownsRow w.heap.size 3 1 (.slice A m c) m (nums .i64 X) ∧ Below w.heap.size w w') := Lib.hid (by rw [hM, hXX]; rfl)
  rw [HE.out]
  rw [← hM] at g g2 hm h HEL HX HF HCE HBB hsz
  rw [← hXX] at HEL HX HF ⊢
  obtain ⟨E8, hE8⟩ : ∃ E8, E8 = valB (xs.take 8) := ⟨_, rfl⟩
  obtain ⟨R8, hR8⟩ : ∃ R8, R8 = valB ((xs.drop 8).take 8) := ⟨_, rfl⟩
  rw [← hE8] at CG1 ⊢
  rw [← hR8] at CG2 ⊢
  have hc8 : ¬ c = 8 := by omega
  have hc16 : ¬ c = 16 := by omega
  have r0 : (0 : Int) ≤ (m : Int) := by omega
  have HM := Lib.hid hM
  have CK : Hid (goodSt X → ∀ (W : World) A c, m ≤ c → Rd W A (nums .i64 X) → Calls Tryd.prog 37 #[.agg #[.int .u64 (E8 : Int), .int .u64 (R8 : Int), .slice A m c]] W fun e w' => e = .returned (.int .i64 0) ∧ Below W.heap.size W w') := Lib.hid (fun hg W A c hcc h0 => rstCheck_ok W HX.out hcc h0 hg)
  have CN : Hid (¬ goodSt X → ∀ (W : World) A c, m ≤ c → Rd W A (nums .i64 X) → Calls Tryd.prog 37 #[.agg #[.int .u64 (E8 : Int), .int .u64 (R8 : Int), .slice A m c]] W fun e w' => e = .returned (.int .i64 1) ∧ Below W.heap.size W w') := Lib.hid (fun hg W A c hcc h0 => rstCheck_bad W HX.out hcc h0 hg)
  clear hx hc hg16 hxm hel hX hfull hM hXX hE8 hR8 hb hn HE
  by_cases hc17 : c = 17
  · have hm0 : m = 0 := by omega
    have hg : ¬ goodSt X := fun hg => by have h1 := hg.1; rw [HX.out] at h1; omega
    obtain rfl : n = 17 := by omega
    subst hc17
    subst hm0
    have CC := CN.out hg
    have HG := Lib.hid hg
    have HXN : Hid (X = []) := Lib.hid (List.eq_nil_of_length_eq_zero HX.out)
    clear hg h17 h hm hc8 hc16 hnc r0
    simp only [Int.natCast_zero] at g g2
    go_enter Tryd.func24, Tryd.ntmps24
    go_wp2_with (go_at_call 25; first
      | ((with_reducible refine (CG1 _ (HR1.out.below (by first | exact bal brf _ | exact bal (bal brf _) _))).mono ?_); rintro e w1 ⟨rfl, rfl⟩)
      | ((with_reducible refine (CG2 _ ?_).mono ?_); rotate_left; rintro e w1 ⟨rfl, rfl⟩))
    rotate_left
    · exact HR2.out.below (bal (bal brf _) _)
    refine wp_loop_rounds 1 ?_
    rw [rounds_succ]
    go_wp2_with (go_at_call 37; go_must (refine (CC _ none 0 (Nat.le_refl _) (by rw [HXN.out]; exact .inl rfl)).mono ?_; rintro e w5 ⟨rfl, hb5⟩; have z5 := hb5.size; simp only [World.size_alloc] at z5; have z6 : w.heap.size < w5.heap.size := (by omega); have s0 : w5.cell? ⟨w.heap.size, 0, none⟩ = some (.int .u64 0) := (hb5.cell (p := ⟨w.heap.size, 0, none⟩) (by simp; omega)).trans (by simp [go_sem]); have f0 : w5.frozen? ⟨w.heap.size, 0, none⟩ = false := (hb5.frozen (p := ⟨w.heap.size, 0, none⟩) (by simp; omega)).trans (by simp [go_sem]); have s1 : w5.cell? ⟨w.heap.size, 1, none⟩ = some (.int .u64 0) := (hb5.cell (p := ⟨w.heap.size, 1, none⟩) (by simp; omega)).trans (by simp [go_sem]); have f1 : w5.frozen? ⟨w.heap.size, 1, none⟩ = false := (hb5.frozen (p := ⟨w.heap.size, 1, none⟩) (by simp; omega)).trans (by simp [go_sem]); have s2 : w5.cell? ⟨w.heap.size, 2, none⟩ = some (.slice none 0 0) := (hb5.cell (p := ⟨w.heap.size, 2, none⟩) (by simp; omega)).trans (by simp [go_sem]); have f2 : w5.frozen? ⟨w.heap.size, 2, none⟩ = false := (hb5.frozen (p := ⟨w.heap.size, 2, none⟩) (by simp; omega)).trans (by simp [go_sem])))
    refine bodyPost_ret (v := .tuple #[.agg #[.int .u64 0, .int .u64 0, .slice none 0 0], .int .i64 0, .int .i64 3]) (by simp [results, Tryd.results24, go_sem, s0, s1, s2]) rfl (.inr ⟨HG.out, rfl, ?_⟩)
    exact bset3 (bgo (bal (bal brf _) _) hb5) _ _ _
  · go_enter Tryd.func24, Tryd.ntmps24
    go_wp2_with (go_at_call 25; first
      | ((with_reducible refine (CG1 _ (HR1.out.below (by first | exact bal brf _ | exact bal (bal brf _) _))).mono ?_); rintro e w1 ⟨rfl, rfl⟩)
      | ((with_reducible refine (CG2 _ ?_).mono ?_); rotate_left; rintro e w1 ⟨rfl, rfl⟩))
    rotate_left
    · exact HR2.out.below (bal (bal brf _) _)
    rw [Nat.add_sub_cancel_left]
    go_loopw [7, 45] (fun _ i wr => ∃ (k : Nat) (A : Option Addr) (cc : Nat), k ≤ m ∧ i = .int .i64 k ∧ wr.ownsRow (w.heap.size + 2) 3 1 (.slice A k cc) k (nums .i64 (X.take k)) ∧
        wr.cell? ⟨w.heap.size + 1, 0, none⟩ = some (.int .u64 E8) ∧ wr.cell? ⟨w.heap.size + 1, 1, none⟩ = some (.int .u64 R8) ∧ wr.cell? ⟨w.heap.size + 1, 2, none⟩ = some (.slice A k cc) ∧ wr.frozen? ⟨w.heap.size + 1, 2, none⟩ = false ∧
        w.heap.size + 1 < wr.heap.size ∧ Below (w.heap.size + 1) (w.alloc (.cells #[.int .u64 0, .int .u64 0, .slice none 0 0] 28)) wr) (fun _ i _ => m - (intOf i).toNat)
    case atStart => exact ⟨0, none, 0, Nat.zero_le _, rfl, World.ownsRow_nil _ _ _ _, by simp [go_sem], by simp [go_sem], by simp [go_sem], by simp [go_sem], by simp, by have := bal (brf (w := w.alloc (.cells #[.int .u64 0, .int .u64 0, .slice none 0 0] 28))) (.cells #[.int .u64 E8, .int .u64 R8, .slice none 0 0] 28); rwa [World.size_alloc] at this⟩
    case round =>
      obtain ⟨k, A, cc, hk, rfl, hown, hc0, hc1, hc2, hfz, hlt, hB⟩ := hrel
      have k0 : (0 : Int) ≤ (k : Int) := by omega
      by_cases hkn : k < m
      · have k1 : (k : Int) < (m : Int) := by omega
        have ge := (hB.cell (p := ⟨b, o + 17 + k, none⟩) (by show b < _; omega)).trans ((World.cell?_alloc_lt w _ ⟨b, o + 17 + k, none⟩ hl).trans (HCE.out k hkn))
        obtain ⟨b0, b1⟩ := HBB.out k hkn
        have U := Lib.hid (HEL.out k hkn).2
        obtain ⟨x, hx⟩ : ∃ x, x = xs.getD (17 + k) 0 := ⟨_, rfl⟩
        rw [← hx] at ge b0 b1 U
        clear hx
        go_wp2_with (at_builtin; go_must (refine wpList_append_own _ rfl _ _ 26 rfl (w.heap.size + 2) 3 i0 (.int .i64 0) 1 8 Tryd.underlying26 hi hz0 hz1 hz2 rfl (by decide) _ _ _ rfl (hown.alloc _) ⟨wr.heap.size, 0, none⟩ 1 1 [.int .i64 x] rfl rfl ?c1 ?c2 ?c3 ?c4 ?c5 ?_))
        case c1 => exact cell_one_new _ _ _
        case c2 => simp [Value.oneCell']
        case c3 => unfold maxLen; omega
        case c4 => omega
        case c5 => simp; omega
        intro v' w2 hown' hgrow _
        obtain ⟨A', c', rfl⟩ := own_slice hown'
        have hB2 := keep_below hown hgrow hB (Nat.le_of_lt hlt) (Nat.le_succ _)
        have g0 := keep_cell hown hgrow (Nat.lt_succ_self _) hc0
        have g1 := keep_cell hown hgrow (Nat.lt_succ_self _) hc1
        have g2 := keep_cell hown hgrow (Nat.lt_succ_self _) hc2
        have gz := keep_frozen hown hgrow (Nat.lt_succ_self _) hlt hfz
        have hs2 : w.heap.size + 1 < w2.heap.size := by have := hgrow.size; simp at this; omega
        clear hc0 hc1 hc2 hfz hgrow hown hB
        go_wp2
        refine ⟨⟨k + 1, A', c', by omega, by go_num, ?_, ?_, ?_, ?_, by simpa using gz, by rw [size_setCell]; exact hs2, hB2.setCell (Nat.le_refl _) _⟩, by simp [intOf]; omega⟩
        · rw [U.out]; simpa [nums] using own_setCell (a := ⟨w.heap.size + 1, 2, none⟩) hown' (Nat.lt_succ_self _)
        · rw [cell_setCell_off (by decide)]; exact g0
        · rw [cell_setCell_off (by decide)]; exact g1
        · exact cell_setCell_eq g2
      · obtain rfl : k = m := by omega
        rw [HF.out] at hown
        have hq : ∀ i : Nat, wr.cell? ⟨w.heap.size, i, none⟩ = (w.alloc (.cells #[.int .u64 0, .int .u64 0, .slice none 0 0] 28)).cell? ⟨w.heap.size, i, none⟩ := fun i => hB.cell (p := ⟨w.heap.size, i, none⟩) (Nat.lt_succ_self _)
        have hfq : ∀ i : Nat, wr.frozen? ⟨w.heap.size, i, none⟩ = false := fun i => (hB.frozen (p := ⟨w.heap.size, i, none⟩) (Nat.lt_succ_self _)).trans (by simp [go_sem])
        have t0 : wr.cell? ⟨w.heap.size, 0, none⟩ = some (.int .u64 0) := (hq 0).trans (by simp [go_sem])
        have t1 : wr.cell? ⟨w.heap.size, 1, none⟩ = some (.int .u64 0) := (hq 1).trans (by simp [go_sem])
        have t2 : wr.cell? ⟨w.heap.size, 2, none⟩ = some (.slice none 0 0) := (hq 2).trans (by simp [go_sem])
        have HO := Lib.hid hown
        have hB0 : Below w.heap.size w wr := (bal brf _).trans (hB.mono (Nat.le_succ _))
        have HB := Lib.hid hB0
        have z0 : w.heap.size < wr.heap.size := by omega
        have HFQ := Lib.hid hfq
        have HZZ := Lib.hid (And.intro t0 (And.intro t1 t2))
        clear hq hown hB hB0 hfq t0 t1 t2
        by_cases hg : goodSt X
        · have CC := CK.out hg
          have HG := Lib.hid hg
          clear hg
          go_wp2_with (go_at_call 37; refine (CC _ _ _ (own_le HO.out) (Rd.of_own HO.out)).mono ?_; rintro e w5 ⟨rfl, hb5⟩; have z5 := hb5.size; have z6 : w.heap.size < w5.heap.size := Nat.lt_of_lt_of_le z0 z5; have hc0 := (hb5.cell (p := ⟨w.heap.size + 1, 0, none⟩) hlt).trans hc0; have hc1 := (hb5.cell (p := ⟨w.heap.size + 1, 1, none⟩) hlt).trans hc1; have hc2 := (hb5.cell (p := ⟨w.heap.size + 1, 2, none⟩) hlt).trans hc2; have s0 := (hb5.cell (p := ⟨w.heap.size, 0, none⟩) z0).trans HZZ.out.1; have s1 := (hb5.cell (p := ⟨w.heap.size, 1, none⟩) z0).trans HZZ.out.2.1; have s2 := (hb5.cell (p := ⟨w.heap.size, 2, none⟩) z0).trans HZZ.out.2.2; have f0 := (hb5.frozen (p := ⟨w.heap.size, 0, none⟩) z0).trans (HFQ.out 0); have f1 := (hb5.frozen (p := ⟨w.heap.size, 1, none⟩) z0).trans (HFQ.out 1); have f2 := (hb5.frozen (p := ⟨w.heap.size, 2, none⟩) z0).trans (HFQ.out 2))
          go_region
          go_wp2_with fail
          refine bodyPost_ret (v := .tuple #[.agg #[.int .u64 E8, .int .u64 R8, .slice A k cc], .int .i64 (17 + k), .int .i64 0]) (by simp [results, Tryd.results24, go_sem, s0, s1, s2, hc0, hc1, hc2]) rfl (.inl ⟨HG.out, A, cc, rfl, own_le HO.out, ?_, bdr (bset3 (bgo HB.out hb5) _ _ _)⟩)
          exact own_set3 (own_below HO.out hb5) (by omega) (by omega) _ _ _
        · have CC := CN.out hg
          have HG := Lib.hid hg
          clear hg
          go_wp2_with (go_at_call 37; refine (CC _ _ _ (own_le HO.out) (Rd.of_own HO.out)).mono ?_; rintro e w5 ⟨rfl, hb5⟩; have z5 := hb5.size; have z6 : w.heap.size < w5.heap.size := Nat.lt_of_lt_of_le z0 z5; have s0 := (hb5.cell (p := ⟨w.heap.size, 0, none⟩) z0).trans HZZ.out.1; have s1 := (hb5.cell (p := ⟨w.heap.size, 1, none⟩) z0).trans HZZ.out.2.1; have s2 := (hb5.cell (p := ⟨w.heap.size, 2, none⟩) z0).trans HZZ.out.2.2; have f0 := (hb5.frozen (p := ⟨w.heap.size, 0, none⟩) z0).trans (HFQ.out 0); have f1 := (hb5.frozen (p := ⟨w.heap.size, 1, none⟩) z0).trans (HFQ.out 1); have f2 := (hb5.frozen (p := ⟨w.heap.size, 2, none⟩) z0).trans (HFQ.out 2))
          refine bodyPost_ret (v := .tuple #[.agg #[.int .u64 0, .int .u64 0, .slice none 0 0], .int .i64 0, .int .i64 3]) (by simp [results, Tryd.results24, go_sem, s0, s1, s2]) rfl (.inr ⟨HG.out, rfl, ?_⟩)
          exact bset3 (bgo HB.out hb5) _ _ _
end Go.Proofs.YtmkmndgdakpojaaDoor
