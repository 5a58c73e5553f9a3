/- StampCuts: the walk. -/
import Derived.Test.YtmkmndgdakpojaaDoorTk
namespace Go.Proofs.YtmkmndgdakpojaaDoor
open Go.RowKit Go.ChangeShapes Go.WideShapes Go.ChangeAt
set_option linter.unusedSimpArgs false
set_option linter.unusedVariables false
set_option maxRecDepth 100000

theorem own_max {w : World} {base n c : Nat} {e : TypeId} {A : Option Addr} {vs : List Value} (h : w.ownsRow base e 1 (.slice A n c) n vs) : c ≤ maxLen := by
  rcases h.2 with ⟨h1, h2⟩ | ⟨g, cap, cur, h1, hb, hg, hc, hm, _⟩
  · cases h1; exact Nat.zero_le _
  · cases h1; exact hm
theorem stRow1 (W : World) (t : TypeId) (e1 r1 : Int) (A1 : Option Addr) (n1 c1 : Nat) : StRow (W.alloc (.cells #[.int .u64 e1, .int .u64 r1, .slice A1 n1 c1] t)) W.heap.size [n1] :=
  ⟨by simp, fun k hk => by
    have h3 : k < 1 := hk
    match k, h3 with
    | 0, _ => exact ⟨e1, r1, A1, c1, by simp [go_sem], by simp [go_sem], by simp [go_sem]⟩⟩
theorem stRow2 (W : World) (t : TypeId) (e1 r1 e2 r2 : Int) (A1 A2 : Option Addr) (n1 c1 n2 c2 : Nat) : StRow (W.alloc (.cells #[.int .u64 e1, .int .u64 r1, .slice A1 n1 c1, .int .u64 e2, .int .u64 r2, .slice A2 n2 c2] t)) W.heap.size [n1, n2] :=
  ⟨by simp, fun k hk => by
    have h3 : k < 2 := hk
    match k, h3 with
    | 0, _ => exact ⟨e1, r1, A1, c1, by simp [go_sem], by simp [go_sem], by simp [go_sem]⟩
    | 1, _ => exact ⟨e2, r2, A2, c2, by simp [go_sem], by simp [go_sem], by simp [go_sem]⟩⟩

end Go.Proofs.YtmkmndgdakpojaaDoor
/- StampBack: the walk. -/
namespace Go.Proofs.YtmkmndgdakpojaaDoor
open Go.RowKit Go.ChangeShapes Go.WideShapes Go.ChangeAt
set_option linter.unusedSimpArgs false
set_option linter.unusedVariables false
set_option maxRecDepth 100000

theorem tk_put (ep ro : Nat) (xs ys : List Int) (A : Option Addr) (n m c : Nat) (W : World) (hn : xs.length = n) (hm : ys.length = m) (hg : goodSt xs) (hep : ep < 18446744073709551616) (hro : ro < 18446744073709551616) (hy : Byt ys) (hc : 17 + n + m ≤ c) (hcm : c ≤ maxLen) (hx : Rd W A (nums .u8 (stB ep ro xs ++ ys))) :
    Calls Tryd.prog 40 #[.slice A (17 + n + m) c] W fun e w' => ∃ A' c', e = .returned (.tuple #[.agg #[.int .u64 (ep : Int), .int .u64 (ro : Int), .slice A' n c'], .int .i64 (17 + (n : Int)), .int .i64 0]) ∧ n ≤ c' ∧ Rd w' A' (nums .i64 xs) ∧ Below W.heap.size W w' := by
  obtain ⟨p1, p2, p3, p4⟩ := stB_parts (xs := xs) (more := ys) hep hro
  refine (tk_yes W (by rw [List.length_append, stB_len]; omega) hc hcm hx (fun x hx => ?_) (stB_ok hg hep hro)).mono ?_
  · rcases List.mem_append.1 hx with h | h
    · exact stB_byt hg x h
    · exact hy x h
  · rintro e w' ⟨A', c', rfl, h1, h2, h3⟩
    rw [p1] at h1 h2
    rw [p4] at h2
    rw [p1, p2, p3, hn]
    rw [hn] at h1 h2
    exact ⟨A', c', rfl, h1, Rd.of_own h2, h3⟩
theorem stSame_refl (E R : Int) (A B : Option Addr) (n c d : Nat) (xs : List Int) (W : World) (hn : xs.length = n) (hlen : n ≤ maxLen) (hx : Rd W A (nums .i64 xs)) (hy : Rd W B (nums .i64 xs)) :
    Calls Tryd.prog 38 #[.agg #[.int .u64 E, .int .u64 R, .slice A n c], .agg #[.int .u64 E, .int .u64 R, .slice B n d]] W fun e w' => e = .returned (.bool true) ∧ Below W.heap.size W w' :=
  (stSame_any E R E R A B n c n d xs xs W hn hn hx hy hlen).mono fun e w' ⟨he, hb⟩ => ⟨by rw [he]; simp, hb⟩
theorem sameB_refl (A B : Option Addr) (n c d : Nat) (xs ys : List Int) (W : World) (hn : xs.length = n) (hm : ys.length = n) (e : xs = ys) (hb : Byt xs) (hx : Rd W A (nums .u8 xs)) (hy : Rd W B (nums .u8 ys)) :
    Calls Tryd.prog 14 #[.slice A n c, .slice B n d] W fun e w' => e = .returned (.bool true) ∧ W = w' := by
  subst e
  exact (same_any A B n c n d xs xs W hn hn hx hy hb hb).mono fun e w' ⟨he, hw⟩ => ⟨by rw [he]; simp, hw⟩

end Go.Proofs.YtmkmndgdakpojaaDoor
