/- Stamps: the chapter's example; whether stamps are short; a stamp that was read. -/
import Derived.Test.YtmkmndgdakpojaaTb
import Derived.Deep.DeepMust
namespace Go.Proofs.Ytmkmndgdakpojaa
open Go.RowKit
set_option linter.unusedSimpArgs false
set_option linter.unusedVariables false
set_option maxRecDepth 100000

theorem rd_newS (w : World) (vs : Array Value) (t : TypeId) : Rd (w.alloc (.cells vs t)) (some ⟨w.heap.size, 0, none⟩) vs.toList :=
  .inr ⟨_, 0, rfl, by rw [World.size_alloc]; omega, fun i v hv => by
    have := app_there w vs t i v hv
    rwa [addr_off] at this⟩
theorem good31 : goodSt [3, 1] := by
  refine ⟨by decide, by decide, fun x hx => ?_, by decide⟩
  simp at hx
  omega
theorem live4_any (w : World) : Calls Try.prog 9 #[] w (Yes w) := by
  have CP := fun (W : World) A n c h0 h1 => stPut_any 1 2 A n c [3, 1] W h0 h1 good31 (by decide) (by decide)
  have b7 : (nums .u8 (stB 1 2 [3, 1]))[7]? = some (.int .u8 1) := rfl
  have b15 : (nums .u8 (stB 1 2 [3, 1]))[15]? = some (.int .u8 2) := rfl
  have b16 : (nums .u8 (stB 1 2 [3, 1]))[16]? = some (.int .u8 2) := rfl
  have b17 : (nums .u8 (stB 1 2 [3, 1]))[17]? = some (.int .u8 3) := rfl
  have b18 : (nums .u8 (stB 1 2 [3, 1]))[18]? = some (.int .u8 1) := rfl
  have hl : (stB 1 2 [3, 1]).length = 19 := rfl
  obtain ⟨st, hst⟩ : ∃ st, st = stB 1 2 [3, 1] := ⟨_, rfl⟩
  rw [← hst] at CP b7 b15 b16 b17 b18 hl
  have HL := Lib.hid hl
  have H7 := Lib.hid (And.intro b7 (And.intro b15 (And.intro b16 (And.intro b17 b18))))
  clear hst hl b7 b15 b16 b17 b18
  go_enter Try.func9, Try.ntmps9
  go_wp2_with (go_at_call 13; refine (CP _ _ _ _ rfl (rd_newS _ _ _)).mono ?_; rintro e w1 ⟨B, c, he, hc, hown, hb⟩; rw [HL.out] at he hown; subst he; obtain ⟨b1, o1, e1, l1, g1⟩ := (Rd.of_own hown).at_ (by simp [HL.out]); cases e1; obtain ⟨t7, t15, t16, t17, t18⟩ := H7.out; have g7 := g1 7 _ t7; have g15 := g1 15 _ t15; have g16 := g1 16 _ t16; have g17 := g1 17 _ t17; have g18 := g1 18 _ t18; clear g1 hown t7 t15 t16 t17 t18)
  go_ret
  exact ⟨rfl, bgo (bal brf _) hb⟩

/-- A row of stamps, their chains so long. -/
def StRow (W : World) (b : Nat) (ns : List Nat) : Prop := b < W.heap.size ∧ ∀ k, k < ns.length → ∃ (e r : Int) (A : Option Addr) (c : Nat), W.cell? ⟨b, k * 3, none⟩ = some (.int .u64 e) ∧ W.cell? ⟨b, k * 3 + 1, none⟩ = some (.int .u64 r) ∧ W.cell? ⟨b, k * 3 + 2, none⟩ = some (.slice A (ns.getD k 0) c)
theorem StRow.below {W W' : World} {b : Nat} {ns : List Nat} (h : StRow W b ns) (hb : Below W.heap.size W W') : StRow W' b ns :=
  ⟨Nat.lt_of_lt_of_le h.1 hb.size, fun k hk => by
    obtain ⟨e, r, A, c, h0, h1, h2⟩ := h.2 k hk
    exact ⟨e, r, A, c, (hb.cell (p := ⟨b, k * 3, none⟩) h.1).trans h0, (hb.cell (p := ⟨b, k * 3 + 1, none⟩) h.1).trans h1, (hb.cell (p := ⟨b, k * 3 + 2, none⟩) h.1).trans h2⟩⟩
set_option maxHeartbeats 1000000 in
theorem short_any (b : Nat) (m c : Nat) (ns : List Nat) (w : World) (hm : ns.length = m) (hx : StRow w b ns) (hm3 : m ≤ 3) :
    Calls Try.prog 14 #[.slice (some ⟨b, 0, none⟩) m c] w fun e w' => e = .returned (.bool (decide (∀ x ∈ ns, x ≤ 60))) ∧ Below w.heap.size w w' := by
  have HM := Lib.hid hm
  have HX := Lib.hid hx
  clear hm hx
  go_enter Try.func14, Try.ntmps14
  go_wp2
  go_loopw [7] (fun i wr => ∃ k : Nat, k ≤ m ∧ i = .int .i64 ((k : Int)) ∧ (∀ j, j < k → ns.getD j 0 ≤ 60) ∧ Below w.heap.size w wr) (fun i _ => m - (intOf i).toNat)
  case atStart => exact ⟨0, Nat.zero_le _, rfl, fun j hj => absurd hj (Nat.not_lt_zero _), brf⟩
  case round =>
    obtain ⟨k, hk, rfl, hle, hb⟩ := hrel
    have r0 : (0 : Int) ≤ k := by omega
    by_cases hlt : k < m
    · have r1 : (k : Int) < m := by omega
      obtain ⟨hbl, hcs⟩ := HX.out.below hb
      obtain ⟨e, r, A, c', g0, g1, g2⟩ := hcs k (by rw [HM.out]; exact hlt)
      obtain ⟨x, hx⟩ : ∃ x, x = ns.getD k 0 := ⟨_, rfl⟩
      rw [← hx] at g2
      have HE := Lib.hid hle
      have HG := Lib.hid hx
      clear hle hcs hx
      by_cases h6 : x ≤ 60
      · have q : ¬ (60 : Int) < x := by omega
        go_wp2_with fail
        exact ⟨⟨k + 1, by omega, by congr 1, fun j hj => by
          by_cases hjk : j = k
          · subst hjk; rw [← HG.out]; exact h6
          · exact HE.out j (by omega), bal hb _⟩, by show m - ((k : Int) + 1).toNat < m - (k : Int).toNat; omega⟩
      · have q : (60 : Int) < x := by omega
        go_wp2_with fail
        go_ret
        have hd : ¬ ∀ y ∈ ns, y ≤ 60 := fun hall => by
          have hm : ns.getD k 0 ∈ ns := by simp [List.getD, List.getElem?_eq_getElem (show k < ns.length by rw [HM.out]; exact hlt)]
          exact h6 (HG.out ▸ hall _ hm)
        exact ⟨by rw [decide_eq_false hd]; rfl, bal hb _⟩
    · have hkm : k = m := by omega
      subst hkm
      have hall : ∀ x ∈ ns, x ≤ 60 := fun x hx => by
        obtain ⟨j, hj, rfl⟩ := List.getElem_of_mem hx
        have := hle j (by rw [← HM.out]; exact hj)
        simpa [List.getD, List.getElem?_eq_getElem hj] using this
      have HA := Lib.hid hall
      clear hall hle hlt
      go_wp2_with fail
      go_ret
      exact ⟨by rw [decide_eq_true HA.out]; rfl, hb⟩
open Go.Joins Go.Deep in
/-- A stamp that was read: its form. -/
theorem open_stamp {H : Type} {enc : TypeId × Value → H} {W : World} {base b : Nat} {r : Reach} {v : Value} {d : DataW H} {p : List MemPlace} {spare : Nat → Bool} {held : Bool}
    (hv : Value.okWide Try.prog W r base 27 v) (h : DataW.Trod enc Try.prog W b spare held 27 v d p) :
    ∃ (ep ro : Nat) (A : Option Addr) (n c : Nat) (xs : List Int), v = .agg #[.int .u64 ep, .int .u64 ro, .slice A n c] ∧ n ≤ c ∧ c ≤ maxLen ∧ xs.length = n ∧ Rd W A (nums .i64 xs) ∧ ep < 18446744073709551616 ∧ ro < 18446744073709551616 ∧ (∀ x ∈ xs, (Lit.int .i64 x).wf = true) := by
  obtain ⟨v0, v1, v2, y0, y1, y2, n, rfl, rfl, rfl, h0, h1, h2⟩ := open_agg3 Try.underlying27 (by kernel_rfl) (by kernel_rfl) hv h
  obtain ⟨e, rfl, we⟩ := int_of_trod Try.underlying24 h0
  obtain ⟨q, rfl, wq⟩ := int_of_trod Try.underlying24 h1
  obtain ⟨A, m, c, xs, rfl, hc1, hc2, hl, hr, hw, _⟩ := open_row Try.underlying25 Try.underlying3 (by kernel_rfl) h2
  have b1 : (decide ((0 : Int) ≤ e) && decide (e ≤ (18446744073709551615 : Int))) = true := we
  have b2 : (decide ((0 : Int) ≤ q) && decide (q ≤ (18446744073709551615 : Int))) = true := wq
  simp only [Bool.and_eq_true, decide_eq_true_eq] at b1 b2
  obtain ⟨E, rfl⟩ := Int.eq_ofNat_of_zero_le b1.1
  obtain ⟨R, rfl⟩ := Int.eq_ofNat_of_zero_le b2.1
  exact ⟨E, R, A, m, c, xs, rfl, hc1, hc2, hl, hr, by omega, by omega, hw⟩

end Go.Proofs.Ytmkmndgdakpojaa
