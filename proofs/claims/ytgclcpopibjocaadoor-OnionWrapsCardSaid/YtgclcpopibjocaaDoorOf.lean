/- Onions: whether there are as many servers, nonces and bytes as are asked for; the places from the last one on. -/
import Derived.Test.YtgclcpopibjocaaDoorOb
import Derived.Test.YtgclcpopibjocaaDoorPart
import Derived.Test.YtgclcpopibjocaaDoorRound
namespace Go.Proofs.YtgclcpopibjocaaDoor
open Go.RowKit Go.Shelf
set_option linter.unusedSimpArgs false
set_option linter.unusedVariables false
set_option maxRecDepth 100000
attribute [local go_sem] Oper.semAt_some

/-- Bytes wrapped for servers, by nonces: the first one's layer is outside. -/
def wrapL : List (List Int) → List (List Int) → List Int → List Int
  | s :: Ls, n :: Ns, body => sealL s n (wrapL Ls Ns body)
  | _, _, body => body
def mayWr (Ls Ns : List (List Int)) (body : List Int) : Prop := 1 ≤ Ls.length ∧ Ls.length ≤ 8 ∧ Ns.length = Ls.length ∧ (∀ i, i < Ns.length → (Ns.getD i []).length = 16) ∧ body.length = 78

theorem part_at {w : World} {vs : List Value} {L : List (List Int)} {A : Option Addr} {n k : Nat} (hr : Rd w A vs) (hp : Parts w vs L) (hn : L.length = n) (hk : k < n) :
    ∃ b o A' c', A = some ⟨b, o, none⟩ ∧ b < w.heap.size ∧ w.cell? ⟨b, o + k, none⟩ = some (.slice A' (L.getD k []).length c') ∧ (L.getD k []).length ≤ c' ∧ Rd w A' (nums .u8 (L.getD k [])) := by
  have hl := hp.1
  obtain ⟨b, o, rfl, hlt, hc⟩ := hr.at_ (by omega)
  obtain ⟨A', c', hv, h1, _, hr'⟩ := hp.2 k (by omega)
  refine ⟨b, o, A', c', rfl, hlt, ?_, h1, hr'⟩
  rw [← hv]
  exact hc k _ (vs_at (by omega))

def IsMay (b : Bool) (w : World) (e : Ending) (w' : World) : Prop := e = .returned (.bool b) ∧ w = w'
set_option maxHeartbeats 1000000 in
theorem mayWrap_yes (A B C : Option Addr) (n c m d p f : Nat) (vs us : List Value) (Ls Ns : List (List Int)) (body : List Int) (w : World) (hn : Ls.length = n) (hm : Ns.length = m) (hp : body.length = p) (hy : Rd w B us) (hq : Parts w us Ns) (h : mayWr Ls Ns body) :
    Calls Tryd.prog 63 #[.slice A n c, .slice B m d, .slice C p f] w (IsMay true w) := by
  obtain ⟨h1, h2, h3, h4, h5⟩ := h
  have r1 : ¬ (n : Int) < 1 := by omega
  have r2 : ¬ (8 : Int) < n := by omega
  have r3 : ((m : Int) != (n : Int)) = false := by simp; omega
  have r4 : ((p : Int) == 78) = true := by simp; omega
  have HM := Lib.hid hm
  have H4 := Lib.hid h4
  have HP : Hid (p = 78) := Lib.hid (by omega)
  have hm8 : m ≤ 8 := by omega
  clear hn hm hp h1 h2 h3 h4 h5
  go_enter Tryd.func63, Tryd.ntmps63
  go_wp2
  go_loopw [26] (fun i wr => ∃ k : Nat, k ≤ m ∧ i = .int .i64 k ∧ wr = w) (fun i _ => m - (intOf i).toNat)
  case atStart => exact ⟨0, Nat.zero_le _, rfl, rfl⟩
  case round =>
    obtain ⟨k, hk, rfl, rfl⟩ := hrel
    have r0 : (0 : Int) ≤ k := by omega
    by_cases hlt : k < m
    · have r5 : (k : Int) < m := by omega
      obtain ⟨b, o, A', c', rfl, hb, hc, _, _⟩ := part_at hy hq HM.out hlt
      rw [H4.out k (by rw [HM.out]; exact hlt)] at hc
      clear hy hq
      go_wp2
      exact ⟨⟨k + 1, by omega, by go_num, trivial⟩, by show m - ((k : Int) + 1).toNat < m - (k : Int).toNat; omega⟩
    · have hkm : m = k := by omega
      subst hkm
      clear hlt hk hy hq
      go_wp2
      go_ret
      exact ⟨by simp [HP.out], rfl⟩
set_option maxHeartbeats 2000000 in
theorem mayWrap_no (A B C : Option Addr) (n c m d p f : Nat) (vs us : List Value) (Ls Ns : List (List Int)) (body : List Int) (w : World) (hn : Ls.length = n) (hm : Ns.length = m) (hp : body.length = p) (hy : Rd w B us) (hq : Parts w us Ns) (h : ¬ mayWr Ls Ns body) (hbig : ∀ i, i < m → (Ns.getD i []).length ≤ 100000) :
    Calls Tryd.prog 63 #[.slice A n c, .slice B m d, .slice C p f] w (IsMay false w) := by
  by_cases h1 : n < 1
  · clear hn hm hp hy hq h hbig
    go_enter Tryd.func63, Tryd.ntmps63
    go_wp2
    go_ret
    exact ⟨rfl, rfl⟩
  have r1 : ¬ (n : Int) < 1 := by omega
  by_cases h2 : 8 < n
  · have r2 : (8 : Int) < n := by omega
    clear hn hm hp hy hq h hbig
    go_enter Tryd.func63, Tryd.ntmps63
    go_wp2
    go_ret
    exact ⟨rfl, rfl⟩
  have r2 : ¬ (8 : Int) < n := by omega
  by_cases h3 : m ≠ n
  · have r3 : ((m : Int) != (n : Int)) = true := by simp; omega
    have r3' : ¬ (m : Int) = n := by omega
    clear hn hm hp hy hq h hbig
    go_enter Tryd.func63, Tryd.ntmps63
    go_wp2
    go_ret
    exact ⟨rfl, rfl⟩
  have r3 : ((m : Int) != (n : Int)) = false := by simp; omega
  have HM := Lib.hid hm
  have HBIG := Lib.hid hbig
  have HN : Hid (¬ mayWr Ls Ns body) := Lib.hid h
  have HH : Hid ((∀ i, i < m → (Ns.getD i []).length = 16) → ¬ (p = 78)) := Lib.hid (fun h4 h5 => HN.out ⟨by omega, by omega, by omega, fun i hi => h4 i (by omega), by omega⟩)
  have hm8 : m ≤ 8 := by omega
  clear hn hm hp h hbig h3
  go_enter Tryd.func63, Tryd.ntmps63
  go_wp2
  go_loopw [26] (fun i wr => ∃ k : Nat, k ≤ m ∧ i = .int .i64 k ∧ wr = w ∧ Hid (∀ j, j < k → (Ns.getD j []).length = 16)) (fun i _ => m - (intOf i).toNat)
  case atStart => exact ⟨0, Nat.zero_le _, rfl, rfl, Lib.hid (fun j hj => by omega)⟩
  case round =>
    obtain ⟨k, hk, rfl, rfl, HK⟩ := hrel
    have r0 : (0 : Int) ≤ k := by omega
    by_cases hlt : k < m
    · have r5 : (k : Int) < m := by omega
      obtain ⟨b, o, A', c', rfl, hb, hc, _, _⟩ := part_at hy hq HM.out hlt
      obtain ⟨t, ht⟩ : ∃ t, t = (Ns.getD k []).length := ⟨_, rfl⟩
      rw [← ht] at hc
      have HT := Lib.hid ht
      clear hy hq ht
      by_cases h16 : t = 16
      · subst h16
        go_wp2
        exact ⟨⟨k + 1, by omega, by go_num, trivial, Lib.hid (fun j hj => by
          by_cases e : j = k
          · subst e; exact HT.out.symm
          · exact HK.out j (by omega))⟩, by show m - ((k : Int) + 1).toNat < m - (k : Int).toNat; omega⟩
      · have r6 : ((t : Int) != 16) = true := by simp; omega
        have r7 : ¬ (t : Int) = 16 := by omega
        go_wp2
        go_ret
        exact ⟨rfl, rfl⟩
    · have hkm : m = k := by omega
      subst hkm
      have hp78 := HH.out HK.out
      have r8 : ((p : Int) == 78) = false := by simp; omega
      have HP := Lib.hid hp78
      clear hlt hk hy hq hp78
      go_wp2
      go_ret
      exact ⟨by simp, rfl⟩

/-- The place of round x, from the last one of q down. -/
def dn0 (q x : Nat) : Nat := if x < q then q - 1 - x else 0
def piece0 (q : Nat) (x : Nat) : Array Value := #[.int .i64 (dn0 q x : Nat)]
theorem dn0_eq {q x : Nat} (h : x < q) : dn0 q x = q - 1 - x := by simp [dn0, h]
theorem dn0_lt {q x : Nat} (h : 0 < q) : dn0 q x < q := by unfold dn0; split <;> omega
/-- Nothing is asked. -/
def AnyW (W W' : World) : Prop := True

set_option maxHeartbeats 2000000 in
theorem from1_in (F : Fence) (n : Nat) (hf : F.fn 81) (hro : F.round = none) (hn : 1 ≤ n) (l Bs q : Nat) (hq : q ≤ 1000000) (J Jx : List Nat → World → Prop)
    (hY : ∀ pre x W, J pre W → pre.length < q → YieldAt F (n - 1) Tryd.prog l (piece0 q x) W fun e W' =>
      (e = .returned (.bool true) ∧ J (pre ++ [x]) W' ∧ AnyW W W') ∨ (e = .returned (.bool false) ∧ Jx (pre ++ [x]) W'))
    (W : World) (hBs : W.cell? ⟨Bs, 0, none⟩ = some (.int .i64 (q : Int))) (h0 : J [] W) :
    CallsIn F n Tryd.prog 81 #[.func (.yield l) #[] #[], .pointer (some ⟨Bs, 0, none⟩)] W fun e W' => (∃ v, e = .returned v) ∧
      ((∃ ys, ys = upto q ∧ J ys W') ∨ (∃ pre, (∃ k, k ≤ q ∧ pre = upto k) ∧ Jx pre W')) := by
  refine callsIn_of_wp Tryd.func81 rfl hf ?_ hro
  simp only [Tryd.ntmps81, List.size_toArray, List.length_cons, List.length_nil, Nat.reduceAdd, Nat.reduceSub, Array.replicate_succ, Array.replicate_zero, List.push_toArray, List.append_toArray, List.nil_append, List.cons_append]
  gi_wp2
  gi_loopw [3] (fun i wr => ∃ (k : Nat) (z : Int), k ≤ q ∧ z ≤ q - 1 - k ∧ (q : Int) - 1 - k ≤ z ∧ i = .int .i64 z ∧ J (upto k) wr)
    (fun i _ => (intOf i + 1).toNat)
  case atStart => exact ⟨0, (q : Int) - 1, Nat.zero_le _, by omega, by omega, rfl, h0⟩
  case round =>
    obtain ⟨k, z, hk, hz1, hz2, rfl, hJs⟩ := hrel
    by_cases hlt : k < q
    · obtain rfl : z = (dn0 q k : Nat) := by rw [dn0_eq hlt]; omega
      have hd2 : dn0 q k < q := dn0_lt (by omega)
      have hd0 : (0 : Int) ≤ (dn0 q k : Nat) := by omega
      obtain ⟨fn, tmps, assign, body, hy, hR⟩ := hY _ k wr hJs (by rw [upto_length]; exact hlt)
      unfold piece0 at hy
      gi_wp2
      refine hR.mono ?_
      rintro e W3 (⟨rfl, hJ3, _⟩ | ⟨rfl, hJx3⟩)
      · gi_wp2
        go_roundw
        case rel => exact ⟨k + 1, (dn0 q k : Nat) - 1, by omega, by omega, by omega, rfl, by rw [upto_succ]; exact hJ3⟩
        case measure => first | (simp [intOf]; done) | (simp [intOf]; omega)
      · gi_wp2
        refine bodyPost_ret (results_none rfl _ _ _) rfl ?_
        exact ⟨⟨_, rfl⟩, .inr ⟨_, ⟨k + 1, by omega, (upto_succ _).symm⟩, hJx3⟩⟩
    · have hz : z < 0 := by omega
      have hkq : k = q := by omega
      subst hkq
      clear hlt hk
      gi_wp2
      go_end0
      exact ⟨⟨_, rfl⟩, .inl ⟨_, rfl, hJs⟩⟩

theorem fromLast_any (z : Int) (w : World) :
    Calls Tryd.prog 64 #[.int .i64 z] w fun e w' => e = .returned (.func (.func 81) #[] #[.pointer (some ⟨w.heap.size, 0, none⟩)]) ∧ w' = w.alloc (.cells #[.int .i64 z] 3) := by
  go_enter Tryd.func64, Tryd.ntmps64
  go_wp2_with fail
  go_ret
  exact ⟨rfl, rfl⟩

theorem from_stops (F : Fence) (n : Nat) (hf : F.fn 81) (hro : F.round = none) (hn : 1 ≤ n) (Bs q : Nat) (hq : q ≤ 1000000) (w : World) (hb : Bs < w.heap.size)
    (hBs : w.cell? ⟨Bs, 0, none⟩ = some (.int .i64 (q : Int))) :
    SeqStopsK F n Tryd.prog 81 #[.pointer (some ⟨Bs, 0, none⟩)] (piece0 q) AnyW (fun ys => ys = upto q) (fun pre => True) q w := fun l J Jx W hW _ _ hY h0 => by
  have hc' := (hW.cell (p := ⟨Bs, 0, none⟩) hb).trans hBs
  refine (from1_in F n hf hro hn l Bs q hq J Jx hY W hc' h0).mono ?_
  rintro e W' ⟨he, ⟨ys, rfl, hj⟩ | ⟨pre, _, hj⟩⟩
  · exact ⟨he, .inl ⟨_, rfl, hj⟩⟩
  · exact ⟨he, .inr ⟨_, trivial, hj⟩⟩
end Go.Proofs.YtgclcpopibjocaaDoor
/- Onions: bytes wrapped for servers, by both answers. -/
namespace Go.Proofs.YtgclcpopibjocaaDoor
open Go.RowKit Go.Shelf
set_option linter.unusedSimpArgs false
set_option linter.unusedVariables false
set_option maxRecDepth 100000
attribute [local go_sem] Oper.semAt_some

/-- What rounds make of a body, from the last server on. -/
def wrF (Ls Ns : List (List Int)) (q : Nat) (body : List Int) (xs : List Nat) : List Int := xs.foldl (fun acc x => sealL (Ls.getD (dn0 q x) []) (Ns.getD (dn0 q x) []) acc) body
theorem wrF_snoc (Ls Ns : List (List Int)) (q : Nat) (body : List Int) (xs : List Nat) (x : Nat) : wrF Ls Ns q body (xs ++ [x]) = sealL (Ls.getD (dn0 q x) []) (Ns.getD (dn0 q x) []) (wrF Ls Ns q body xs) := by simp [wrF]
theorem wrF_len {Ls Ns : List (List Int)} {q : Nat} {body : List Int} (h : ∀ i, i < q → (Ns.getD i []).length = 16) (hq : 0 < q) (xs : List Nat) : (wrF Ls Ns q body xs).length = body.length + 48 * xs.length := by
  have hh : ∀ (xs : List Nat) (acc : List Int), (xs.foldl (fun acc x => sealL (Ls.getD (dn0 q x) []) (Ns.getD (dn0 q x) []) acc) acc).length = acc.length + 48 * xs.length := by
    intro xs
    induction xs with
    | nil => intro acc; rfl
    | cons x xs ih =>
      intro acc
      rw [List.foldl_cons, ih, sealL_len, h _ (dn0_lt hq), List.length_cons]
      omega
  exact hh xs body
theorem drop_cons {α : Type} (l : List α) (d : α) (k : Nat) (h : k < l.length) : l.drop k = l.getD k d :: l.drop (k + 1) := by
  rw [List.drop_eq_getElem_cons h]; simp [List.getD, h]
theorem wrF_upto (Ls Ns : List (List Int)) (q : Nat) (body : List Int) (hl : Ls.length = q) (hn : Ns.length = q) : ∀ k, k ≤ q → wrF Ls Ns q body (upto k) = wrapL (Ls.drop (q - k)) (Ns.drop (q - k)) body
  | 0, _ => by rw [Nat.sub_zero, List.drop_of_length_le (by omega)]; rfl
  | k + 1, h => by
    rw [upto_succ, wrF_snoc, wrF_upto Ls Ns q body hl hn k (by omega), dn0_eq (by omega), drop_cons Ls [] (q - (k + 1)) (by omega), drop_cons Ns [] (q - (k + 1)) (by omega), wrapL, show q - (k + 1) + 1 = q - k by omega, show q - (k + 1) = q - 1 - k by omega]
theorem wrF_all (Ls Ns : List (List Int)) (q : Nat) (body : List Int) (hl : Ls.length = q) (hn : Ns.length = q) : wrF Ls Ns q body (upto q) = wrapL Ls Ns body := by
  have := wrF_upto Ls Ns q body hl hn q (Nat.le_refl _)
  rwa [Nat.sub_self, List.drop_zero, List.drop_zero] at this
theorem wrapL_len : ∀ (Ls Ns : List (List Int)) (body : List Int), Ns.length = Ls.length → (∀ i, i < Ns.length → (Ns.getD i []).length = 16) → (wrapL Ls Ns body).length = body.length + 48 * Ls.length
  | [], [], body, _, _ => rfl
  | s :: Ls, n :: Ns, body, h, hh => by
    have h0 := hh 0 (by simp)
    have ih := wrapL_len Ls Ns body (by simpa using h) (fun i hi => by have := hh (i + 1) (by simp; omega); simpa using this)
    have h0' : n.length = 16 := by simpa using h0
    rw [wrapL, sealL_len, ih, h0', List.length_cons]
    omega
  | [], _ :: _, _, h, _ => by simp at h
  | _ :: _, [], _, h, _ => by simp at h

/-- What holds between two rounds: the boxes, and what is wrapped so far. -/
def WrapI (b : Nat) (A B : Option Addr) (n c d : Nat) (Ls Ns : List (List Int)) (body : List Int) (s0 : Nat) (pre : List Nat) (W : World) : Prop :=
  Box W b (.slice A n c) ∧ Box W (b + 1) (.slice B n d) ∧ Box W (b + 2) (.slice none 0 0) ∧ Box W (b + 3) (.int .i64 0) ∧
    (∃ (g o cX : Nat), Box W (b + 4) (.slice (some ⟨g, o, none⟩) (78 + 48 * pre.length) cX) ∧ 78 + 48 * pre.length ≤ cX ∧ Rd W (some ⟨g, o, none⟩) (nums .u8 (wrF Ls Ns n body pre)) ∧ (g < b ∨ b + 4 < g)) ∧ s0 ≤ W.heap.size
theorem WrapI.kept {b : Nat} {A B : Option Addr} {n c d : Nat} {Ls Ns : List (List Int)} {body : List Int} {s0 : Nat} {pre : List Nat} {W W' : World} {row : Option Nat} (hg : W.grownBy W' row) (hr : ∀ r, row = some r → ∃ o : Obj, W.heap[r]? = some o ∧ o.isCells = false) (h : WrapI b A B n c d Ls Ns body s0 pre W) : WrapI b A B n c d Ls Ns body s0 pre W' := by
  obtain ⟨h1, h2, h3, h4, ⟨g, o, cX, h5, h6, h7, h9⟩, h8⟩ := h
  exact ⟨h1.kept hg hr, h2.kept hg hr, h3.kept hg hr, h4.kept hg hr, ⟨g, o, cX, h5.kept hg hr, h6, h7.kept hg hr, h9⟩, Nat.le_trans h8 hg.size⟩
theorem rd_far {w : World} {g o : Nat} {vs : List Value} {p : Addr} {u : Value} (h : Rd w (some ⟨g, o, none⟩) vs) (hne : p.block ≠ g) : Rd (w.setCell p u) (some ⟨g, o, none⟩) vs := by
  rcases h with h | ⟨b', o', he, hl, hc⟩
  · exact .inl h
  · cases he
    exact .inr ⟨g, o, rfl, by rw [size_setCell]; exact hl, fun i v hv => (World.cell?_setCell_other w p ⟨g, o + i, none⟩ u (fun e => hne (by rw [e]))).trans (hc i v hv)⟩

set_option maxHeartbeats 2000000 in
theorem wrap_yes (A B C : Option Addr) (n c d f : Nat) (vs us : List Value) (Ls Ns : List (List Int)) (body : List Int) (w : World) (hn : Ls.length = n) (h : mayWr Ls Ns body) (hls : ∀ i, i < n → (Ls.getD i []).length ≤ 4000) (hf : 78 ≤ f) (hx : Rd w A vs) (hp : Parts w vs Ls) (hy : Rd w B us) (hq : Parts w us Ns) (hz : Rd w C (nums .u8 body)) (hK : Konst w) :
    Calls Tryd.prog 38 #[.slice A n c, .slice B n d, .slice C 78 f] w (IsRow2 w (wrapL Ls Ns body)) := by
  have hh := h
  obtain ⟨q1, q2, q3, q4, q5⟩ := hh
  have CM := fun W h1 h2 => mayWrap_yes A B C n c n d 78 f vs us Ls Ns body W hn (by omega) q5 h1 h2 h
  have hb4 : ∀ o1 o2 o3 o4, Below w.heap.size w ((((w.alloc o1).alloc o2).alloc o3).alloc o4) := fun _ _ _ _ => bal (bal (bal (bal brf _) _) _) _
  have HB4 := Lib.hid hb4
  have HX := Lib.hid hx
  have HP := Lib.hid hp
  have HY := Lib.hid hy
  have HQ := Lib.hid hq
  have HZ := Lib.hid hz
  have HK := Lib.hid hK
  have HN := Lib.hid hn
  have HM : Hid (Ns.length = n) := Lib.hid (by omega)
  have H5 := Lib.hid q5
  have H4 : Hid (∀ i, i < n → (Ns.getD i []).length = 16) := Lib.hid (fun i hi => q4 i (by omega))
  have n1 : 1 ≤ n := by omega
  have n8 : n ≤ 8 := by omega
  have HLS := Lib.hid hls
  obtain ⟨zb, zo, rfl, hzb, _⟩ := hz.at_ (by simp [q5])
  clear hx hp hy hq hz hK hn q1 q2 q3 q4 q5 h hls hb4
  refine (callsIn_wide (n := 8)).1 ?_
  refine callsIn_of_wp_marks Tryd.func38 rfl trivial ?_ rfl
  simp only [Tryd.ntmps38, List.size_toArray, List.length_cons, List.length_nil, Nat.reduceAdd, Nat.reduceSub, Array.replicate_succ, Array.replicate_zero, List.push_toArray, List.append_toArray, List.nil_append, List.cons_append]
  have d1 : 1 ≤ 7 := by omega
  gi_wp2_with (refine ⟨trivial, ?_⟩; first
    | (gi_at_call 63; refine (callsIn_wide.2 (CM _ (HY.out.below (HB4.out _ _ _ _)) (HQ.out.below (HB4.out _ _ _ _)))).mono ?_; rintro e w1 ⟨rfl, rfl⟩)
    | (gi_at_call 64; refine (callsIn_wide.2 (fromLast_any _ _)).mono ?_; rintro e w3 ⟨rfl, rfl⟩))
  have hW : ∀ W6, W6 = ((((((w.alloc (.cells #[.slice A n c] 44)).alloc (.cells #[.slice B n d] 44)).alloc (.cells #[.slice none 0 0] 22)).alloc (.cells #[.int .i64 0] 27)).alloc (.cells #[.slice (some ⟨zb, zo, none⟩) 78 f] 22)).alloc (.cells #[.int .i64 n] 3)) →
      Box W6 w.heap.size (.slice A n c) ∧ Box W6 (w.heap.size + 1) (.slice B n d) ∧ Box W6 (w.heap.size + 1 + 1) (.slice none 0 0) ∧ Box W6 (w.heap.size + 1 + 1 + 1) (.int .i64 0) ∧ Box W6 (w.heap.size + 1 + 1 + 1 + 1) (.slice (some ⟨zb, zo, none⟩) 78 f) ∧ Box W6 (w.heap.size + 1 + 1 + 1 + 1 + 1) (.int .i64 n) ∧ W6.heap.size = w.heap.size + 6 ∧ Below w.heap.size w W6 := by
    intro W6 h
    subst h
    refine ⟨⟨by simp [go_sem], by simp [go_sem]⟩, ⟨by simp [go_sem], by simp [go_sem]⟩, ⟨by simp [go_sem], by simp [go_sem]⟩, ⟨by simp [go_sem], by simp [go_sem]⟩, ⟨by simp [go_sem], by simp [go_sem]⟩, ⟨by simp [go_sem], by simp [go_sem]⟩, by simp, bal (bal (bal (bal (bal (bal brf _) _) _) _) _) _⟩
  obtain ⟨x3, x4, x6, x7, x8, xs, hz6, hB6⟩ := hW _ rfl
  obtain ⟨b, hb⟩ : ∃ b, b = w.heap.size := ⟨_, rfl⟩
  rw [← hb] at x3 x4 x6 x7 x8 xs hz6 ⊢
  generalize ((((((w.alloc (.cells #[.slice A n c] 44)).alloc (.cells #[.slice B n d] 44)).alloc (.cells #[.slice none 0 0] 22)).alloc (.cells #[.int .i64 0] 27)).alloc (.cells #[.slice (some ⟨zb, zo, none⟩) 78 f] 22)).alloc (.cells #[.int .i64 n] 3)) = w6 at x3 x4 x6 x7 x8 xs hz6 hB6 ⊢
  have hwb : w.heap.size ≤ b := by omega
  have hzl : zb < b := by omega
  clear hW hb
  refine wpIn_rangeFunc_ownF rfl (by omega) (gf := 81) (lb := #[.pointer (some ⟨b + 1 + 1 + 1 + 1 + 1, 0, none⟩)]) rfl trivial (enters_of Tryd.func81 (by kernel_rfl) rfl)
    (from_stops Fence.wide 7 trivial rfl (by omega) (b + 1 + 1 + 1 + 1 + 1) n (by omega) w6 (by omega) xs.1) (fun _ _ => trivial) (fun _ _ _ _ _ _ _ _ => trivial) (Below.refl _ _) (fun _ => rfl)
    (fun pre W => WrapI b A B n c d Ls Ns body w6.heap.size pre W ∧ Below w.heap.size w W)
    (fun _ _ _ => False)
    (OwnFrom.and (Own.from (fun s A B row hs hg hr => hs.kept hg hr) _) (ownFrom_below (Nat.le_refl _) (by omega)))
    (fun _ _ _ _ _ hs _ _ => hs)
    ⟨⟨x3, x4, x6, x7, ⟨zb, zo, f, x8, hf, HZ.out.below hB6, .inl (by omega)⟩, Nat.le_refl _⟩, hB6⟩
    ?a1 ?assign ?body ?done ?stop
  case assign =>
    intro l x W K hK
    unfold piece0
    gi_wp2
    exact hK
  case stop =>
    rintro D c pre W _ _ h _
    exact h.elim
  case body =>
    rintro l pre x W ⟨⟨h3, h4, h6, h7, ⟨gX, oX, cX, h8, hcX, hr8, hgX⟩, hsz⟩, hB⟩ hpre
    have hlt := dn0_lt (q := n) (x := x) n1
    have hstep := wrF_snoc Ls Ns n body pre x
    have hlen := wrF_len (Ls := Ls) (body := body) H4.out n1 pre
    obtain ⟨i, hi⟩ : ∃ i, i = dn0 n x := ⟨_, rfl⟩
    rw [← hi] at hlt hstep ⊢
    obtain ⟨bv, ov, A', c', rfl, hbv, cv, hcv, hrv⟩ := part_at (HX.out.below hB) (HP.out.below hB) HN.out hlt
    obtain ⟨bu, ou, B', c'', rfl, hbu, cu, hcu, hru⟩ := part_at (HY.out.below hB) (HQ.out.below hB) HM.out hlt
    have h16 := H4.out i hlt
    have hls := HLS.out i hlt
    rw [h16] at cu
    obtain ⟨m, hm⟩ : ∃ m, m = 78 + 48 * pre.length := ⟨_, rfl⟩
    obtain ⟨s, hs⟩ : ∃ s, s = Ls.getD i [] := ⟨_, rfl⟩
    obtain ⟨nn, hnn⟩ : ∃ nn, nn = Ns.getD i [] := ⟨_, rfl⟩
    obtain ⟨acc, hacc⟩ : ∃ acc, acc = wrF Ls Ns n body pre := ⟨_, rfl⟩
    rw [← hs] at cv hcv hrv hls hstep
    rw [← hnn] at hcu hru h16 hstep
    rw [← hacc] at hr8 hlen hstep
    rw [← hm] at h8 hcX
    obtain ⟨ls, hlse⟩ : ∃ ls, ls = s.length := ⟨_, rfl⟩
    rw [← hlse] at cv hls
    have hbm : m ≤ 2048 := by omega
    have hal : acc.length = m := by rw [hlen, H5.out, hm]
    have CS := fun W1 h1 h2 h3 hK => seal_own A' B' (some ⟨gX, oX, none⟩) ls c' c'' m cX s nn acc W1 hlse.symm h16 hal hls hbm h1 h2 h3 hK
    have hsl : (sealL s nn acc).length = m + 48 := by rw [sealL_len, h16, hal]; omega
    have i0 : (0 : Int) ≤ i := by omega
    have i1 : (i : Int) < n := by omega
    have c3 := h3.1
    have c4 := h4.1
    have c8 := h8.1
    have H8 := Lib.hid h8
    have HI := Lib.hid (And.intro h3 (And.intro h4 (And.intro h6 h7)))
    have HSL := Lib.hid hsl
    have HST := Lib.hid hstep
    have HMM := Lib.hid hm
    have HRV := Lib.hid hrv
    have HRU := Lib.hid hru
    have HR8 := Lib.hid hr8
    have hbW : b + 1 + 1 + 1 + 1 < W.heap.size := by omega
    clear h3 h4 h6 h7 h8 hsl hstep hm hrv hru hr8 hlse h16 hal hs hnn hacc hlen hi hls
    have d2 : 1 ≤ 8 - 1 - 1 := by omega
    gi_wp2
    -- HAND
    refine region_round_held (fun W' => W'.cell? ⟨b, 0, none⟩ = some (.slice (some ⟨bv, ov, none⟩) n c) ∧ W'.cell? ⟨bv, ov + i, none⟩ = some (.slice A' ls c') ∧ W'.cell? ⟨b + 1, 0, none⟩ = some (.slice (some ⟨bu, ou, none⟩) n d) ∧ W'.cell? ⟨bu, ou + i, none⟩ = some (.slice B' 16 c'') ∧ W'.cell? ⟨b + 1 + 1 + 1 + 1, 0, none⟩ = some (.slice (some ⟨gX, oX, none⟩) m cX)) (by kernel_rfl) (by kernel_rfl) (by rintro ⟨a9, w9, h9⟩; exact h9) ⟨c3, cv, c4, cu, c8⟩ (fun hHeld => ?_)
    refine wpAnyH_take (i := 0) (v := ?_) rfl (by kernel_rfl) (by kernel_rfl) (by kernel_rfl) (fun _ _ _ h => h) (Or.inl ⟨by rfl, ?_⟩) (by assumption) ?_
    rotate_left
    · rintro W9 ⟨s1, s2, s3, s4, s5⟩
      go_simp
      rfl
    try simp only [Act.put, List.setIfInBounds_toArray, List.set_cons_zero, List.set_cons_succ]
    refine wpAnyH_take (i := 1) (v := ?_) rfl (by kernel_rfl) (by kernel_rfl) (by kernel_rfl) (fun _ _ _ h => h) (Or.inl ⟨by rfl, ?_⟩) (by assumption) ?_
    rotate_left
    · rintro W9 ⟨s1, s2, s3, s4, s5⟩
      go_simp
      rfl
    try simp only [Act.put, List.setIfInBounds_toArray, List.set_cons_zero, List.set_cons_succ]
    refine wpAnyH_take (i := 2) (v := ?_) rfl (by kernel_rfl) (by kernel_rfl) (by kernel_rfl) (fun _ _ _ h => h) (Or.inl ⟨by rfl, ?_⟩) (by assumption) ?_
    rotate_left
    · rintro W9 ⟨s1, s2, s3, s4, s5⟩
      go_simp
      rfl
    try simp only [Act.put, List.setIfInBounds_toArray, List.set_cons_zero, List.set_cons_succ]
    refine wpAnyH_take (i := 3) (v := ?_) rfl (by kernel_rfl) (by kernel_rfl) (by kernel_rfl) (fun _ _ _ h => h) (Or.inl ⟨by rfl, ?_⟩) (by assumption) ?_
    rotate_left
    · rintro W9 ⟨s1, s2, s3, s4, s5⟩
      go_simp
      rfl
    try simp only [Act.put, List.setIfInBounds_toArray, List.set_cons_zero, List.set_cons_succ]
    refine wpAnyH_take (i := 4) (v := ?_) rfl (by kernel_rfl) (by kernel_rfl) (by kernel_rfl) (fun _ _ _ h => h) (Or.inl ⟨by rfl, ?_⟩) (by assumption) ?_
    rotate_left
    · rintro W9 ⟨s1, s2, s3, s4, s5⟩
      go_simp
      rfl
    try simp only [Act.put, List.setIfInBounds_toArray, List.set_cons_zero, List.set_cons_succ]
    refine wpAnyH_take (i := 5) (v := ?_) rfl (by kernel_rfl) (by kernel_rfl) (by kernel_rfl) (fun _ _ _ h => h) (Or.inl ⟨by rfl, ?_⟩) (by assumption) ?_
    rotate_left
    · rintro W9 ⟨s1, s2, s3, s4, s5⟩
      go_simp
      rfl
    try simp only [Act.put, List.setIfInBounds_toArray, List.set_cons_zero, List.set_cons_succ]
    refine wpAnyH_take (i := 6) (v := ?_) rfl (by kernel_rfl) (by kernel_rfl) (by kernel_rfl) (fun _ _ _ h => h) (Or.inl ⟨by rfl, ?_⟩) (by assumption) ?_
    rotate_left
    · rintro W9 ⟨s1, s2, s3, s4, s5⟩
      go_simp
      rfl
    try simp only [Act.put, List.setIfInBounds_toArray, List.set_cons_zero, List.set_cons_succ]
    refine wpAnyH_take (i := 7) (v := ?_) rfl (by kernel_rfl) (by kernel_rfl) (by kernel_rfl) (fun _ _ _ h => h) (Or.inl ⟨by rfl, ?_⟩) (by assumption) ?_
    rotate_left
    · rintro W9 ⟨s1, s2, s3, s4, s5⟩
      go_simp
      rfl
    try simp only [Act.put, List.setIfInBounds_toArray, List.set_cons_zero, List.set_cons_succ]
    refine wpAnyH_take (i := 8) (v := ?_) rfl (by kernel_rfl) (by kernel_rfl) (by kernel_rfl) (fun _ _ _ h => h) (Or.inl ⟨by rfl, ?_⟩) (by assumption) ?_
    rotate_left
    · rintro W9 ⟨s1, s2, s3, s4, s5⟩
      go_simp
      rfl
    try simp only [Act.put, List.setIfInBounds_toArray, List.set_cons_zero, List.set_cons_succ]
    refine wpAnyH_ready (rs := [9]) (by kernel_rfl) (by simp) ?_
    refine AllReadyH.cons rfl (fun K hK => ?_) AllReadyH.nil
    go_simp
    refine (CS _ (HRV.out.below (bdr brf)) (HRU.out.below (bdr brf)) (HR8.out.below (bdr brf)) (HK.out.go (bdr hB))).mono ?_
    rintro e w4 ⟨A2, c2, he, hc2, hown2, hb4⟩; rw [HSL.out] at he hc2 hown2; subst he; have hb5 : Below W.heap.size W w4 := bgo (bdr brf) hb4
    go_wp2_with fail
    refine hK.out _ _ ?_ (fun hHeld => ?_)
    · exact ⟨(hb5.cell (p := ⟨b, 0, none⟩) (by show b < W.heap.size; omega)).trans c3, (hb5.cell (p := ⟨bv, ov + i, none⟩) hbv).trans cv, (hb5.cell (p := ⟨b + 1, 0, none⟩) (by show b + 1 < W.heap.size; omega)).trans c4, (hb5.cell (p := ⟨bu, ou + i, none⟩) hbu).trans cu, (hb5.cell (p := ⟨b + 1 + 1 + 1 + 1, 0, none⟩) hbW).trans c8⟩
    clear hK K
    try simp only [Act.put, List.setIfInBounds_toArray, List.set_cons_zero, List.set_cons_succ]
    refine wpAnyH_take (i := 10) (v := ?_) rfl (by kernel_rfl) (by kernel_rfl) (by kernel_rfl) (fun _ _ _ h => h) (Or.inl ⟨by rfl, ?_⟩) (by assumption) ?_
    rotate_left
    · rintro W9 ⟨s1, s2, s3, s4, s5⟩
      go_simp
      rfl
    try simp only [Act.put, List.setIfInBounds_toArray, List.set_cons_zero, List.set_cons_succ]
    refine wpAnyH_take (i := 11) (v := ?_) rfl (by kernel_rfl) (by kernel_rfl) (by kernel_rfl) (fun _ _ _ h => h) (Or.inl ⟨by rfl, ?_⟩) (by assumption) ?_
    rotate_left
    · rintro W9 ⟨s1, s2, s3, s4, s5⟩
      go_simp
      rfl
    try simp only [Act.put, List.setIfInBounds_toArray, List.set_cons_zero, List.set_cons_succ]
    refine wpAnyH_take (i := 12) (v := ?_) rfl (by kernel_rfl) (by kernel_rfl) (by kernel_rfl) (fun _ _ _ h => h) (Or.inl ⟨by rfl, ?_⟩) (by assumption) ?_
    rotate_left
    · rintro W9 ⟨s1, s2, s3, s4, s5⟩
      go_simp
      rfl
    try simp only [Act.put, List.setIfInBounds_toArray, List.set_cons_zero, List.set_cons_succ]
    refine wpAnyH_ready (rs := [13]) (by kernel_rfl) (by simp) ?_
    refine AllReadyH.cons rfl (fun K hK => ?_) AllReadyH.nil
    go_simp
    refine hK.out _ _ ?_ (fun hHeld => ?_)
    · exact hHeld
    clear hK K
    try simp only [Act.put, List.setIfInBounds_toArray, List.set_cons_zero, List.set_cons_succ]
    refine wpAnyH_ready (rs := [14]) (by kernel_rfl) (by simp) ?_
    refine AllReadyH.cons rfl (fun K hK => ?_) AllReadyH.nil
    go_simp
    refine hK.out _ _ ?_ (fun hHeld => ?_)
    · exact hHeld
    clear hK K
    try simp only [Act.put, List.setIfInBounds_toArray, List.set_cons_zero, List.set_cons_succ]
    refine wpAnyH_done (by kernel_rfl) ?_ _
    -- ENDHAND
    have h8 := H8.out.below hb5 hbW
    obtain ⟨h3, h4, h6, h7⟩ := HI.out
    have h3 := h3.below hb5 (by omega)
    have h4 := h4.below hb5 (by omega)
    have h6 := h6.below hb5 (by omega)
    have h7 := h7.below hb5 (by omega)
    have c8' := h8.1
    have f8' := h8.2
    have key : ∀ w5, w5 = w4.setCell ⟨b + 1 + 1 + 1 + 1, 0, none⟩ (.slice A2 (m + 48) c2) → (KeepsOthers W w5 ∧ AnyW W w5 ∧ (WrapI b (some ⟨bv, ov, none⟩) (some ⟨bu, ou, none⟩) n c d Ls Ns body w6.heap.size (pre ++ [x]) w5 ∧ Below w.heap.size w w5)) := by
      intro w5 h5
      have hml : 78 + 48 * (pre ++ [x]).length = m + 48 := by rw [List.length_append, HMM.out]; simp; omega
      have hz5 := hb5.size
      obtain ⟨g2, cc2, he2, hg2, hgl2⟩ := hown2.form (by omega)
      simp only [Value.slice.injEq] at he2
      obtain ⟨rfl, _, rfl⟩ := he2
      have hg2' : W.heap.size ≤ g2 := hg2
      refine ⟨?_, trivial, ⟨?_, ?_, ?_, ?_, ⟨g2, 0, c2, ?_, ?_, ?_, .inr (by omega)⟩, ?_⟩, ?_⟩
      · rw [h5]; exact (keepsOthers_below hb5).trans (KeepsOthers.setCell _ _ _)
      · rw [h5]; exact h3.far (by omega) _
      · rw [h5]; exact h4.far (by omega) _
      · rw [h5]; exact h6.far (by omega) _
      · rw [h5]; exact h7.far (by omega) _
      · rw [hml, h5]; exact h8.set _
      · rw [hml]; exact hc2
      · rw [h5, HST.out]; exact Rd.of_own (own_setCell hown2 (by show b + 1 + 1 + 1 + 1 < W.drew.heap.size; exact hbW))
      · rw [h5, size_setCell]; omega
      · rw [h5]; exact (bgo hB hb5).setCell (p := ⟨b + 1 + 1 + 1 + 1, 0, none⟩) (by show w.heap.size ≤ b + 1 + 1 + 1 + 1; omega) _
    have KEY := Lib.hid key
    clear h3 h4 h6 h7 h8 key hHeld c3 c4 c8 cv cu
    gi_wp2
    exact KEY.out _ rfl
  case done =>
    rintro D ys W hD rfl ⟨⟨h3, h4, h6, h7, ⟨gX, oX, cX, h8, hcX, hr8, hgX⟩, hsz⟩, hB⟩ hDD
    rw [upto_length] at h8 hcX
    rw [wrF_all Ls Ns n body HN.out HM.out] at hr8
    obtain ⟨m, hm⟩ : ∃ m, m = 78 + 48 * n := ⟨_, rfl⟩
    rw [← hm] at h8 hcX
    have c8 := h8.1
    have c6 := h6.1
    have f6 := h6.2
    have c7 := h7.1
    have f7 := h7.2
    have HR8 := Lib.hid hr8
    have hDW : D < W.heap.size := (Array.getElem?_eq_some_iff.1 hDD).1
    have hm2 : m = (wrapL Ls Ns body).length := by
      rw [wrapL_len Ls Ns body (by rw [HM.out, HN.out]) (fun i hi => H4.out i (by rw [← HM.out]; exact hi)), H5.out, HN.out, hm]
    have HM2 := Lib.hid hm2
    clear h3 h4 h8 hr8 hm hm2 x3 x4 x6 x7 x8 xs
    gi_wp2
    obtain ⟨W2, hW2⟩ : ∃ W2, W2 = ((W.setCell ⟨b + 1 + 1, 0, none⟩ (.slice (some ⟨gX, oX, none⟩) m cX)).setCell ⟨b + 1 + 1 + 1, 0, none⟩ (.int .i64 0)) := ⟨_, rfl⟩
    have hD2 : W2.heap[D]? = some (.deferred (some [])) := by rw [hW2]; exact (heap_setCell_ne _ (by show D ≠ b + 1 + 1 + 1; omega)).trans ((heap_setCell_ne _ (by show D ≠ b + 1 + 1; omega)).trans hDD)
    have r6 : W2.cell? ⟨b + 1 + 1, 0, none⟩ = some (.slice (some ⟨gX, oX, none⟩) m cX) := by rw [hW2]; exact (cell_setCell_far (by omega)).trans (cell_setCell_eq c6)
    have r7 : W2.cell? ⟨b + 1 + 1 + 1, 0, none⟩ = some (.int .i64 0) := by rw [hW2]; exact cell_setCell_eq ((cell_setCell_far (by omega)).trans c7)
    have hrd : Rd W2 (some ⟨gX, oX, none⟩) (nums .u8 (wrapL Ls Ns body)) := by rw [hW2]; exact rd_far (rd_far HR8.out (by show b + 1 + 1 ≠ gX; omega)) (by show b + 1 + 1 + 1 ≠ gX; omega)
    have hb2 : Below w.heap.size w W2 := by rw [hW2]; exact (hB.setCell (p := ⟨b + 1 + 1, 0, none⟩) (by show w.heap.size ≤ b + 1 + 1; omega) _).setCell (p := ⟨b + 1 + 1 + 1, 0, none⟩) (by show w.heap.size ≤ b + 1 + 1 + 1; omega) _
    rw [← hW2]
    refine ⟨by simp, .inl ⟨_, _, rfl, run_takeDeferred hD2, ?_⟩⟩
    have g6 := (World.cell?_of_block (a := ⟨b + 1 + 1, 0, none⟩) (World.putObj_heap_other (w := W2) (r := D) (o := .deferred none) (by show b + 1 + 1 ≠ D; omega))).trans r6
    have g7 := (World.cell?_of_block (a := ⟨b + 1 + 1 + 1, 0, none⟩) (World.putObj_heap_other (w := W2) (r := D) (o := .deferred none) (by show b + 1 + 1 + 1 ≠ D; omega))).trans r7
    refine ⟨.tuple #[.slice (some ⟨gX, oX, none⟩) m cX, .int .i64 0], by simp [results, Tryd.results38, go_sem, g6, g7], ?_⟩
    have hg := grownBy_putObj' W2 D (.deferred none)
    have hq := hrd.kept hg (fun r e => by cases e; exact ⟨_, hD2, rfl⟩)
    have hz2 := hb2.size
    exact ⟨some ⟨gX, oX, none⟩, cX, by rw [HM2.out], by rw [← HM2.out]; exact hcX, hq, hb2.trans (belowK_b (w := w) (Nat.le_refl _) W2 D _ _ (by omega) hD2 rfl rfl)⟩
end Go.Proofs.YtgclcpopibjocaaDoor
