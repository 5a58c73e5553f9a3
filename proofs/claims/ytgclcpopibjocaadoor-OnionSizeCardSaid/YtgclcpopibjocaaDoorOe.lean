/- Onions: whether there are as many servers, nonces and bytes as are asked for; the places from the last one on. -/
import Derived.Test.YtgclcpopibjocaaDoorOb
import Derived.Test.YtgclcpopibjocaaDoorPart
namespace Go.Proofs.YtgclcpopibjocaaDoor
open Go.RowKit Go.Shelf
set_option linter.unusedSimpArgs false
set_option linter.unusedVariables false
set_option maxRecDepth 100000
attribute [local go_sem] Oper.semAt_some

/-- Bytes wrapped for servers, by nonces: the first one's layer is outside. -/
def wrapL : List (List Int) → List (List Int) → List Int → List Int
  | s :: Ls, n :: Ns, body => sealL s n (wrapL Ls Ns body)
  | _, _, body => body
def mayWr (Ls Ns : List (List Int)) (body : List Int) : Prop := 1 ≤ Ls.length ∧ Ls.length ≤ 8 ∧ Ns.length = Ls.length ∧ (∀ i, i < Ns.length → (Ns.getD i []).length = 16) ∧ body.length = 78

theorem part_at {w : World} {vs : List Value} {L : List (List Int)} {A : Option Addr} {n k : Nat} (hr : Rd w A vs) (hp : Parts w vs L) (hn : L.length = n) (hk : k < n) :
    ∃ b o A' c', A = some ⟨b, o, none⟩ ∧ b < w.heap.size ∧ w.cell? ⟨b, o + k, none⟩ = some (.slice A' (L.getD k []).length c') ∧ (L.getD k []).length ≤ c' ∧ Rd w A' (nums .u8 (L.getD k [])) := by
  have hl := hp.1
  obtain ⟨b, o, rfl, hlt, hc⟩ := hr.at_ (by omega)
  obtain ⟨A', c', hv, h1, _, hr'⟩ := hp.2 k (by omega)
  refine ⟨b, o, A', c', rfl, hlt, ?_, h1, hr'⟩
  rw [← hv]
  exact hc k _ (vs_at (by omega))

def IsMay (b : Bool) (w : World) (e : Ending) (w' : World) : Prop := e = .returned (.bool b) ∧ w = w'
set_option maxHeartbeats 1000000 in
theorem mayWrap_yes (A B C : Option Addr) (n c m d p f : Nat) (vs us : List Value) (Ls Ns : List (List Int)) (body : List Int) (w : World) (hn : Ls.length = n) (hm : Ns.length = m) (hp : body.length = p) (hy : Rd w B us) (hq : Parts w us Ns) (h : mayWr Ls Ns body) :
    Calls Tryd.prog 63 #[.slice A n c, .slice B m d, .slice C p f] w (IsMay true w) := by
  obtain ⟨h1, h2, h3, h4, h5⟩ := h
  have r1 : ¬ (n : Int) < 1 := by omega
  have r2 : ¬ (8 : Int) < n := by omega
  have r3 : ((m : Int) != (n : Int)) = false := by simp; omega
  have r4 : ((p : Int) == 78) = true := by simp; omega
  have HM := Lib.hid hm
  have H4 := Lib.hid h4
  have HP : Hid (p = 78) := Lib.hid (by omega)
  have hm8 : m ≤ 8 := by omega
  clear hn hm hp h1 h2 h3 h4 h5
  go_enter Tryd.func63, Tryd.ntmps63
  go_wp2
  go_loopw [26] (fun i wr => ∃ k : Nat, k ≤ m ∧ i = .int .i64 k ∧ wr = w) (fun i _ => m - (intOf i).toNat)
  case atStart => exact ⟨0, Nat.zero_le _, rfl, rfl⟩
  case round =>
    obtain ⟨k, hk, rfl, rfl⟩ := hrel
    have r0 : (0 : Int) ≤ k := by omega
    by_cases hlt : k < m
    · have r5 : (k : Int) < m := by omega
      obtain ⟨b, o, A', c', rfl, hb, hc, _, _⟩ := part_at hy hq HM.out hlt
      rw [H4.out k (by rw [HM.out]; exact hlt)] at hc
      clear hy hq
      go_wp2
      exact ⟨⟨k + 1, by omega, by go_num, trivial⟩, by show m - ((k : Int) + 1).toNat < m - (k : Int).toNat; omega⟩
    · have hkm : m = k := by omega
      subst hkm
      clear hlt hk hy hq
      go_wp2
      go_ret
      exact ⟨by simp [HP.out], rfl⟩
set_option maxHeartbeats 2000000 in
theorem mayWrap_no (A B C : Option Addr) (n c m d p f : Nat) (vs us : List Value) (Ls Ns : List (List Int)) (body : List Int) (w : World) (hn : Ls.length = n) (hm : Ns.length = m) (hp : body.length = p) (hy : Rd w B us) (hq : Parts w us Ns) (h : ¬ mayWr Ls Ns body) (hbig : ∀ i, i < m → (Ns.getD i []).length ≤ 100000) :
    Calls Tryd.prog 63 #[.slice A n c, .slice B m d, .slice C p f] w (IsMay false w) := by
  by_cases h1 : n < 1
  · clear hn hm hp hy hq h hbig
    go_enter Tryd.func63, Tryd.ntmps63
    go_wp2
    go_ret
    exact ⟨rfl, rfl⟩
  have r1 : ¬ (n : Int) < 1 := by omega
  by_cases h2 : 8 < n
  · have r2 : (8 : Int) < n := by omega
    clear hn hm hp hy hq h hbig
    go_enter Tryd.func63, Tryd.ntmps63
    go_wp2
    go_ret
    exact ⟨rfl, rfl⟩
  have r2 : ¬ (8 : Int) < n := by omega
  by_cases h3 : m ≠ n
  · have r3 : ((m : Int) != (n : Int)) = true := by simp; omega
    have r3' : ¬ (m : Int) = n := by omega
    clear hn hm hp hy hq h hbig
    go_enter Tryd.func63, Tryd.ntmps63
    go_wp2
    go_ret
    exact ⟨rfl, rfl⟩
  have r3 : ((m : Int) != (n : Int)) = false := by simp; omega
  have HM := Lib.hid hm
  have HBIG := Lib.hid hbig
  have HN : Hid (¬ mayWr Ls Ns body) := Lib.hid h
  have HH : Hid ((∀ i, i < m → (Ns.getD i []).length = 16) → ¬ (p = 78)) := Lib.hid (fun h4 h5 => HN.out ⟨by omega, by omega, by omega, fun i hi => h4 i (by omega), by omega⟩)
  have hm8 : m ≤ 8 := by omega
  clear hn hm hp h hbig h3
  go_enter Tryd.func63, Tryd.ntmps63
  go_wp2
  go_loopw [26] (fun i wr => ∃ k : Nat, k ≤ m ∧ i = .int .i64 k ∧ wr = w ∧ Hid (∀ j, j < k → (Ns.getD j []).length = 16)) (fun i _ => m - (intOf i).toNat)
  case atStart => exact ⟨0, Nat.zero_le _, rfl, rfl, Lib.hid (fun j hj => by omega)⟩
  case round =>
    obtain ⟨k, hk, rfl, rfl, HK⟩ := hrel
    have r0 : (0 : Int) ≤ k := by omega
    by_cases hlt : k < m
    · have r5 : (k : Int) < m := by omega
      obtain ⟨b, o, A', c', rfl, hb, hc, _, _⟩ := part_at hy hq HM.out hlt
      obtain ⟨t, ht⟩ : ∃ t, t = (Ns.getD k []).length := ⟨_, rfl⟩
      rw [← ht] at hc
      have HT := Lib.hid ht
      clear hy hq ht
      by_cases h16 : t = 16
      · subst h16
        go_wp2
        exact ⟨⟨k + 1, by omega, by go_num, trivial, Lib.hid (fun j hj => by
          by_cases e : j = k
          · subst e; exact HT.out.symm
          · exact HK.out j (by omega))⟩, by show m - ((k : Int) + 1).toNat < m - (k : Int).toNat; omega⟩
      · have r6 : ((t : Int) != 16) = true := by simp; omega
        have r7 : ¬ (t : Int) = 16 := by omega
        go_wp2
        go_ret
        exact ⟨rfl, rfl⟩
    · have hkm : m = k := by omega
      subst hkm
      have hp78 := HH.out HK.out
      have r8 : ((p : Int) == 78) = false := by simp; omega
      have HP := Lib.hid hp78
      clear hlt hk hy hq hp78
      go_wp2
      go_ret
      exact ⟨by simp, rfl⟩

/-- The place of round x, from the last one of q down. -/
def dn0 (q x : Nat) : Nat := if x < q then q - 1 - x else 0
def piece0 (q : Nat) (x : Nat) : Array Value := #[.int .i64 (dn0 q x : Nat)]
theorem dn0_eq {q x : Nat} (h : x < q) : dn0 q x = q - 1 - x := by simp [dn0, h]
theorem dn0_lt {q x : Nat} (h : 0 < q) : dn0 q x < q := by unfold dn0; split <;> omega
/-- Nothing is asked. -/
def AnyW (W W' : World) : Prop := True

set_option maxHeartbeats 2000000 in
theorem from1_in (F : Fence) (n : Nat) (hf : F.fn 81) (hro : F.round = none) (hn : 1 ≤ n) (l Bs q : Nat) (hq : q ≤ 1000000) (J Jx : List Nat → World → Prop)
    (hY : ∀ pre x W, J pre W → pre.length < q → YieldAt F (n - 1) Tryd.prog l (piece0 q x) W fun e W' =>
      (e = .returned (.bool true) ∧ J (pre ++ [x]) W' ∧ AnyW W W') ∨ (e = .returned (.bool false) ∧ Jx (pre ++ [x]) W'))
    (W : World) (hBs : W.cell? ⟨Bs, 0, none⟩ = some (.int .i64 (q : Int))) (h0 : J [] W) :
    CallsIn F n Tryd.prog 81 #[.func (.yield l) #[] #[], .pointer (some ⟨Bs, 0, none⟩)] W fun e W' => (∃ v, e = .returned v) ∧
      ((∃ ys, ys = upto q ∧ J ys W') ∨ (∃ pre, (∃ k, k ≤ q ∧ pre = upto k) ∧ Jx pre W')) := by
  refine callsIn_of_wp Tryd.func81 rfl hf ?_ hro
  simp only [Tryd.ntmps81, List.size_toArray, List.length_cons, List.length_nil, Nat.reduceAdd, Nat.reduceSub, Array.replicate_succ, Array.replicate_zero, List.push_toArray, List.append_toArray, List.nil_append, List.cons_append]
  gi_wp2
  gi_loopw [3] (fun i wr => ∃ (k : Nat) (z : Int), k ≤ q ∧ z ≤ q - 1 - k ∧ (q : Int) - 1 - k ≤ z ∧ i = .int .i64 z ∧ J (upto k) wr)
    (fun i _ => (intOf i + 1).toNat)
  case atStart => exact ⟨0, (q : Int) - 1, Nat.zero_le _, by omega, by omega, rfl, h0⟩
  case round =>
    obtain ⟨k, z, hk, hz1, hz2, rfl, hJs⟩ := hrel
    by_cases hlt : k < q
    · obtain rfl : z = (dn0 q k : Nat) := by rw [dn0_eq hlt]; omega
      have hd2 : dn0 q k < q := dn0_lt (by omega)
      have hd0 : (0 : Int) ≤ (dn0 q k : Nat) := by omega
      obtain ⟨fn, tmps, assign, body, hy, hR⟩ := hY _ k wr hJs (by rw [upto_length]; exact hlt)
      unfold piece0 at hy
      gi_wp2
      refine hR.mono ?_
      rintro e W3 (⟨rfl, hJ3, _⟩ | ⟨rfl, hJx3⟩)
      · gi_wp2
        go_roundw
        case rel => exact ⟨k + 1, (dn0 q k : Nat) - 1, by omega, by omega, by omega, rfl, by rw [upto_succ]; exact hJ3⟩
        case measure => first | (simp [intOf]; done) | (simp [intOf]; omega)
      · gi_wp2
        refine bodyPost_ret (results_none rfl _ _ _) rfl ?_
        exact ⟨⟨_, rfl⟩, .inr ⟨_, ⟨k + 1, by omega, (upto_succ _).symm⟩, hJx3⟩⟩
    · have hz : z < 0 := by omega
      have hkq : k = q := by omega
      subst hkq
      clear hlt hk
      gi_wp2
      go_end0
      exact ⟨⟨_, rfl⟩, .inl ⟨_, rfl, hJs⟩⟩

theorem fromLast_any (z : Int) (w : World) :
    Calls Tryd.prog 64 #[.int .i64 z] w fun e w' => e = .returned (.func (.func 81) #[] #[.pointer (some ⟨w.heap.size, 0, none⟩)]) ∧ w' = w.alloc (.cells #[.int .i64 z] 3) := by
  go_enter Tryd.func64, Tryd.ntmps64
  go_wp2_with fail
  go_ret
  exact ⟨rfl, rfl⟩

theorem from_stops (F : Fence) (n : Nat) (hf : F.fn 81) (hro : F.round = none) (hn : 1 ≤ n) (Bs q : Nat) (hq : q ≤ 1000000) (w : World) (hb : Bs < w.heap.size)
    (hBs : w.cell? ⟨Bs, 0, none⟩ = some (.int .i64 (q : Int))) :
    SeqStopsK F n Tryd.prog 81 #[.pointer (some ⟨Bs, 0, none⟩)] (piece0 q) AnyW (fun ys => ys = upto q) (fun pre => True) q w := fun l J Jx W hW _ _ hY h0 => by
  have hc' := (hW.cell (p := ⟨Bs, 0, none⟩) hb).trans hBs
  refine (from1_in F n hf hro hn l Bs q hq J Jx hY W hc' h0).mono ?_
  rintro e W' ⟨he, ⟨ys, rfl, hj⟩ | ⟨pre, _, hj⟩⟩
  · exact ⟨he, .inl ⟨_, rfl, hj⟩⟩
  · exact ⟨he, .inr ⟨_, trivial, hj⟩⟩
end Go.Proofs.YtgclcpopibjocaaDoor
