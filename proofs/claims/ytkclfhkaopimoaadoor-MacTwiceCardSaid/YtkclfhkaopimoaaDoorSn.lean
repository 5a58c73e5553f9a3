/- The law of padding. -/
import Derived.Test.YtkclfhkaopimoaaDoorSm
namespace Go.Proofs.YtkclfhkaopimoaaDoor
open Go.RowKit Go.ChangeShapes Go.WideShapes Go.ChangeAt
set_option linter.unusedSimpArgs false
set_option linter.unusedVariables false

theorem tailN_byt (m v : Nat) {l : List Int} (h : Byt l) (k : Nat) : Byt (tailN m v l k) := by
  induction k with
  | zero => exact h
  | succ k ih =>
    intro x hx
    rcases List.mem_or_eq_of_mem_set hx with hx | rfl
    · exact ih x hx
    · omega
theorem padded_byt {xs : List Int} (h : Byt xs) : Byt (padded xs) := by
  refine tailN_byt _ _ ?_ 8
  intro x hx
  rcases List.mem_or_eq_of_mem_set hx with hx | rfl
  · rcases List.mem_append.1 hx with hx | hx
    · exact h x hx
    · have := List.eq_of_mem_replicate hx
      omega
  · omega
theorem Brow.whole {w : World} {B : Nat} {l : List Int} (h : Brow w B l) (hB : B < w.heap.size) : Rd w (some ⟨B, 0, none⟩) (nums .u8 l) := by
  refine .inr ⟨B, 0, rfl, hB, fun i v hv => ?_⟩
  have hi : i < l.length := by
    have := (List.getElem?_eq_some_iff.1 hv).1
    simpa using this
  rw [Nat.zero_add, h.1 i hi, ← hv, nums_at hi]

set_option maxHeartbeats 1000000 in
theorem shaPads_walk (A : Option Addr) (n c : Nat) (xs : List Int) (w : World) (hn : xs.length = n) (hx : Rd w A (nums .u8 xs)) (hby : Byt xs) (hK : Konst w) :
    Calls Tryd.prog 3 #[.slice A n c] w (Yes w) := by
  have HN := Lib.hid hn
  have HX := Lib.hid hx
  have HK := Lib.hid hK
  clear hn hx hK
  by_cases hbig : 1000 < n
  · have r1 : (1000 : Int) < n := by omega
    go_enter Tryd.func3, Tryd.ntmps3
    go_wp2_with (go_at_call 15; refine (live_any _ HK.out).mono ?_; rintro e w1 ⟨rfl, hb1⟩)
    go_ret
    exact ⟨rfl, hb1⟩
  have r1 : ¬ (1000 : Int) < n := by omega
  have heq := fun w => eq8 1779033703 3144134277 1013904242 2773480762 1359893119 2600822924 528734635 1541459225 w (by intro x hx; simp at hx; omega)
  go_enter Tryd.func3, Tryd.ntmps3
  go_wp2_with (first
    | (at_builtin; refine append_rd rfl _ _ rfl w1.heap.size (.slice none 0 0) 0 [] rfl ⟨rfl, .inl ⟨rfl, rfl⟩⟩ A n c xs rfl HN.out HX1.out (by omega) (Nat.le_refl _) ?_; intro v2 w2 hown2 hgrow2; rw [Nat.zero_add, List.nil_append] at hown2; obtain ⟨A2, c2, rfl⟩ := own_slice hown2; have hB12 : Below w1.heap.size w1 w2 := keep_below0 (base := w1.heap.size) (w := w1) (s := 1) (e := 5) (n := 0) (v := .slice none 0 0) (xs := []) ⟨rfl, .inl ⟨rfl, rfl⟩⟩ hgrow2 brf (Nat.le_refl _) (Nat.le_refl _); have HR2 := Lib.hid (Rd.of_own hown2); have HX2 := Lib.hid (HX1.out.below hB12); have hz2 := hB12.size; have hB2 := hb1.trans (hB12.mono hz1); clear hown2 hgrow2 hB12)
    | (go_at_call 15; refine (live_any _ HK.out).mono ?_; rintro e w1 ⟨rfl, hb1⟩; have hz1 := hb1.size; have HX1 := Lib.hid (HX.out.below hb1))
    | (go_at_call 16; refine (pad_any A n c xs _ HN.out (by omega) HX2.out).mono ?_; rintro e w3 ⟨rfl, hp3, hb3, hl3⟩; have HP3 := Lib.hid hp3; clear hp3)
    | (go_at_call 18; refine (rpad_any A n c xs _ HN.out (by omega) (HX2.out.below hb3)).mono ?_; rintro e w4 ⟨B4, c4, rfl, hc4, hl4, hr4, hb4⟩)
    | (go_at_call 17; refine (same_any _ _ _ _ _ _ (padded xs) (padded xs) _ (padded_len xs) rfl ((HP3.out.below hb4 hl3).whole (by have := hb4.size; omega)) hr4 (padded_byt hby) (padded_byt hby)).mono ?_; rintro e w5 ⟨he, rfl⟩; rw [decide_eq_true rfl] at he; subst he)
    | (go_at_call 19; refine (start_any _).mono ?_; rintro e w6 ⟨he, hb6⟩; rw [h0a] at he; subst he)
    | (go_at_call 20; refine (rstart_any _).mono ?_; rintro e w7 ⟨he, hb7⟩; rw [h0a] at he; subst he))
  have z4 := hb4.size
  have z6 := hb6.size
  have z7 := hb7.size
  have hB7 : Below w2.heap.size w2 w7 := hb3.trans ((hb4.mono (by omega)).trans ((hb6.mono (by omega)).trans (hb7.mono (by omega))))
  have hP7 : Brow w7 w2.heap.size (padded xs) := ((HP3.out.below hb4 hl3).below hb6 (by omega)).below hb7 (by omega)
  have hpl := padded_len xs
  obtain ⟨m, hm⟩ : ∃ m, m = padLen xs.length := ⟨_, rfl⟩
  rw [← hm] at hpl ⊢
  have hm4 : m ≤ 5000 := by rw [hm, HN.out]; unfold padLen; omega
  have HPL := Lib.hid hpl
  have HP7 := Lib.hid hP7
  clear hm hpl hP7
  go_loopw [6, 27] (fun _ i wr => ∃ (k : Nat) (l : List Int), k ≤ m ∧ i = .int .i64 k ∧ l.length = m ∧ Brow wr w2.heap.size l ∧ Below w2.heap.size w2 wr) (fun _ i _ => m - (intOf i).toNat)
  case atStart => exact ⟨0, _, Nat.zero_le _, rfl, HPL.out, HP7.out, hB7⟩
  case round =>
    obtain ⟨k, l, hk, rfl, hll, hbr, hbw⟩ := hrel
    have r0 : (0 : Int) ≤ (k : Int) := by omega
    by_cases hlt : k < m
    · have r1 : (k : Int) < m := by omega
      have c1 : wr.cell? ⟨w2.heap.size, k, none⟩ = some (.int .u8 (l.getD k 0)) := hbr.1 k (by omega)
      have f1 : wr.frozen? ⟨w2.heap.size, k, none⟩ = false := hbr.2 k
      go_wp2_with fail
      exact ⟨⟨k + 1, _, by omega, by congr 1, by rw [List.length_set]; exact hll, hbr.set _ (by omega), hbw.setCell (p := ⟨w2.heap.size, k, none⟩) (Nat.le_refl _) _⟩, by show m - ((k : Int) + 1).toNat < m - (k : Int).toNat; omega⟩
    · have r1 : ¬ (k : Int) < m := by omega
      go_wp2_with (go_at_call 17; refine (same_any _ _ _ _ _ _ xs xs _ HN.out HN.out (HX2.out.below hbw) (HR2.out.below hbw) hby hby).mono ?_; rintro e w8 ⟨he, rfl⟩; rw [decide_eq_true rfl] at he; subst he)
      go_ret
      exact ⟨rfl, hB2.trans (hbw.mono (by omega))⟩

theorem shaPads_of {H : Type} {enc : TypeId × Value → H} (W : World) (base : Nat) (args : Array Value) (ds : List (DataW H)) (p : List MemPlace)
    (hval : ∀ (j : Nat) t v, Tryd.f3.params[j]? = some t → args[j]? = some v → Value.okWide Tryd.prog W .any base t v)
    (hA : DataW.TrodAll enc Tryd.prog W 0 (fun _ => true) true Tryd.f3.params.toList args.toList ds p) (hlt : ∀ x ∈ p, x.block < W.heap.size)
    (hz : (DataW.weightsEach Tryd.prog Tryd.f3.params.toList ds).all (· ≤ reachBytes) = true) (hK : Konst W) : Calls Tryd.prog 3 args W (Yes W) := by
  rw [Tryd.params3] at hA hval hz
  obtain ⟨v0, vs0, d0, ds0, p0, q0, hargs, rfl, rfl, h0, r0⟩ := trodAll_cons hA
  obtain ⟨rfl, rfl, rfl⟩ := trodAll_nil r0
  obtain rfl : args = #[v0] := by cases args; simp_all

  obtain ⟨A, n, c, xs, rfl, hn, hr, hb⟩ := open_bytes h0 (hval 0 _ _ rfl rfl)
  exact shaPads_walk A n c xs W hn hr hb hK
end Go.Proofs.YtkclfhkaopimoaaDoor
