/- Peeled by all servers, in order, an onion is its body. -/
import Derived.Test.YtgclcpopibjocaaDoorOh
import Derived.Test.YtgclcpopibjocaaDoorOc
import Derived.Deep.RegionHeld3
import Derived.Deep.DeepMust
namespace Go.Proofs.YtgclcpopibjocaaDoor
open Go.RowKit Go.ChangeShapes Go.WideShapes Go.ChangeAt
set_option linter.unusedSimpArgs false
set_option linter.unusedVariables false
set_option maxRecDepth 100000

/-- What is peeled ahead of hop k. -/
def BodyR (Ls Ns : List (List Int)) (body : List Int) (n k : Nat) (bl : List Int) : Prop :=
  (k < n → bl.length = 78 + 48 * n ∧ bl.take (78 + 48 * (n - k)) = wrapL (Ls.drop k) (Ns.drop k) body) ∧ (k = n → bl = body)
theorem mayWr_drop {Ls Ns : List (List Int)} {body : List Int} (h : mayWr Ls Ns body) (k : Nat) : (Ns.drop k).length = (Ls.drop k).length ∧ ∀ i, i < (Ns.drop k).length → ((Ns.drop k).getD i []).length = 16 := by
  obtain ⟨q1, q2, q3, q4, q5⟩ := h
  refine ⟨by simp [q3], fun i hi => ?_⟩
  rw [List.length_drop] at hi
  have := q4 (k + i) (by omega)
  simpa [List.getD, List.getElem?_drop] using this
theorem body_start {Ls Ns : List (List Int)} {body : List Int} {n : Nat} (h : mayWr Ls Ns body) (hn : Ls.length = n) : BodyR Ls Ns body n 0 (wrapL Ls Ns body) := by
  have hl : (wrapL Ls Ns body).length = 78 + 48 * n := by rw [wrapL_len Ls Ns body h.2.2.1 h.2.2.2.1, h.2.2.2.2, hn]
  have h1 := h.1
  refine ⟨fun _ => ⟨hl, ?_⟩, fun e => by omega⟩
  rw [List.drop_zero, List.drop_zero, List.take_of_length_le (by rw [hl]; omega)]
theorem body_step {Ls Ns : List (List Int)} {body bl : List Int} {n k : Nat} (h : mayWr Ls Ns body) (hn : Ls.length = n) (bN : ∀ xs ∈ Ns, Byt xs) (bb : Byt body) (hk : k < n) (hr : BodyR Ls Ns body n k bl) :
    peelZ (Ls.getD k []) k n bl = 0 ∧ peelK (Ls.getD k []) k bl = tagL (Ls.getD k []) (Ns.getD k []) ∧ BodyR Ls Ns body n (k + 1) (peelO (Ls.getD k []) k n bl) := by
  obtain ⟨hl, ht⟩ := hr.1 hk
  have hh := h
  obtain ⟨q1, q2, q3, q4, q5⟩ := hh
  obtain ⟨d1, d2⟩ := mayWr_drop h (k + 1)
  have hpart : partO k bl = sealL (Ls.getD k []) (Ns.getD k []) (wrapL (Ls.drop (k + 1)) (Ns.drop (k + 1)) body) := by
    rw [partO, hl, show 78 + 48 * n - 48 * k = 78 + 48 * (n - k) by omega, ht, drop_cons Ls [] k (by omega), drop_cons Ns [] k (by omega), wrapL]
  have hwl : (wrapL (Ls.drop (k + 1)) (Ns.drop (k + 1)) body).length = 78 + 48 * (n - (k + 1)) := by rw [wrapL_len _ _ body d1 d2, q5, List.length_drop, hn]
  have hwb : Byt (wrapL (Ls.drop (k + 1)) (Ns.drop (k + 1)) body) := wrapL_byt _ _ body (fun xs hxs => bN xs (List.mem_of_mem_drop hxs)) bb
  have h16 := q4 k (by omega)
  have hop : openE (Ls.getD k []) (partO k bl) = 0 := by rw [hpart]; exact sealL_open h16 (by rw [hwl]; omega)
  have hin : inL (Ls.getD k []) (partO k bl) = wrapL (Ls.drop (k + 1)) (Ns.drop (k + 1)) body := by rw [hpart]; exact sealL_in h16 hwb
  have hkey : peelK (Ls.getD k []) k bl = tagL (Ls.getD k []) (Ns.getD k []) := by rw [peelK, hpart, sealL_non h16]
  refine ⟨?_, hkey, fun hlt => ?_, fun e => ?_⟩
  · rw [peelZ_may ⟨by omega, by omega, by omega, by omega, by rw [hl]; omega⟩, Int.toNat_natCast]
    exact hop
  · rw [peelO, hin, padO, if_neg (by omega)]
    refine ⟨by rw [List.length_append, hwl, streamL_len]; omega, ?_⟩
    rw [List.take_append_of_le_length (by rw [hwl]; exact Nat.le_refl _), List.take_of_length_le (by rw [hwl]; exact Nat.le_refl _)]
  · rw [peelO, hin, padO, if_pos e, List.append_nil, List.drop_of_length_le (by omega)]
    rfl

theorem onionBody_f1 (A B C : Option Addr) (n c m d p f : Nat) (vs us : List Value) (Ls Ns : List (List Int)) (body : List Int) (w : World) (hn : Ls.length = n) (hm : Ns.length = m) (hl : body.length = p) (hnc : n ≤ c) (hmd : m ≤ d) (hpf : p ≤ f) (hx : Rd w A vs) (hp : Parts w vs Ls) (hy : Rd w B us) (hq : Parts w us Ns) (hz : Rd w C (nums .u8 body)) (bN : ∀ xs ∈ Ns, Byt xs) (bb : Byt body) (hK : Konst w) (f1 : ¬ fewL Ls) (hmax : n ≤ maxLen) : Calls Tryd.prog 12 #[.slice A n c, .slice B m d, .slice C p f] w (Yes w) := by
  have F1 := fun W h1 h2 => few_no A n c vs Ls W hn h1 h2 f1 hmax
  have HX := Lib.hid hx
  have HP := Lib.hid hp
  have HY := Lib.hid hy
  have HQ := Lib.hid hq
  have HZ := Lib.hid hz
  have HK := Lib.hid hK
  clear hx hp hy hq hz hn hm hl bN bb hK hmax
  go_enter Tryd.func12, Tryd.ntmps12
  go_wp2_with (first
    | (go_at_call 31; refine (live9_any _).mono ?_; rintro e w1 ⟨rfl, rfl⟩)
    | (go_at_call 37; refine (F1 _ HX.out HP.out).mono ?_; rintro e w2 ⟨rfl, rfl⟩))
  go_ret
  exact ⟨rfl, brf⟩
theorem onionBody_f2 (A B C : Option Addr) (n c m d p f : Nat) (vs us : List Value) (Ls Ns : List (List Int)) (body : List Int) (w : World) (hn : Ls.length = n) (hm : Ns.length = m) (hl : body.length = p) (hnc : n ≤ c) (hmd : m ≤ d) (hpf : p ≤ f) (hx : Rd w A vs) (hp : Parts w vs Ls) (hy : Rd w B us) (hq : Parts w us Ns) (hz : Rd w C (nums .u8 body)) (bN : ∀ xs ∈ Ns, Byt xs) (bb : Byt body) (hK : Konst w) (f1 : fewL Ls) (f2 : ¬ fewL Ns) (hmax : m ≤ maxLen) : Calls Tryd.prog 12 #[.slice A n c, .slice B m d, .slice C p f] w (Yes w) := by
  have F1 := fun W h1 h2 => few_yes A n c vs Ls W hn h1 h2 f1
  have F2 := fun W h1 h2 => few_no B m d us Ns W hm h1 h2 f2 hmax
  have HX := Lib.hid hx
  have HP := Lib.hid hp
  have HY := Lib.hid hy
  have HQ := Lib.hid hq
  have HZ := Lib.hid hz
  have HK := Lib.hid hK
  clear hx hp hy hq hz hn hm hl bN bb hK hmax
  go_enter Tryd.func12, Tryd.ntmps12
  go_wp2_with (first
    | (go_at_call 31; refine (live9_any _).mono ?_; rintro e w1 ⟨rfl, rfl⟩)
    | (go_at_call 37; first | ((with_reducible refine (F1 _ HX.out HP.out).mono ?_); rintro e w2 ⟨rfl, rfl⟩) | ((with_reducible refine (F2 _ HY.out HQ.out).mono ?_); rintro e w2 ⟨rfl, rfl⟩)))
  go_ret
  exact ⟨rfl, brf⟩
theorem onionBody_long (A B C : Option Addr) (n c m d p f : Nat) (vs us : List Value) (Ls Ns : List (List Int)) (body : List Int) (w : World) (hn : Ls.length = n) (hm : Ns.length = m) (hl : body.length = p) (hnc : n ≤ c) (hmd : m ≤ d) (hpf : p ≤ f) (hx : Rd w A vs) (hp : Parts w vs Ls) (hy : Rd w B us) (hq : Parts w us Ns) (hz : Rd w C (nums .u8 body)) (bN : ∀ xs ∈ Ns, Byt xs) (bb : Byt body) (hK : Konst w) (f1 : fewL Ls) (f2 : fewL Ns) (hb : 300 < p) : Calls Tryd.prog 12 #[.slice A n c, .slice B m d, .slice C p f] w (Yes w) := by
  have q : (300 : Int) < p := by omega
  have F1 := fun W h1 h2 => few_yes A n c vs Ls W hn h1 h2 f1
  have F2 := fun W h1 h2 => few_yes B m d us Ns W hm h1 h2 f2
  have HX := Lib.hid hx
  have HP := Lib.hid hp
  have HY := Lib.hid hy
  have HQ := Lib.hid hq
  have HZ := Lib.hid hz
  have HK := Lib.hid hK
  clear hx hp hy hq hz hn hm hl bN bb hK
  go_enter Tryd.func12, Tryd.ntmps12
  go_wp2_with (first
    | (go_at_call 31; refine (live9_any _).mono ?_; rintro e w1 ⟨rfl, rfl⟩)
    | (go_at_call 37; first | ((with_reducible refine (F1 _ HX.out HP.out).mono ?_); rintro e w2 ⟨rfl, rfl⟩) | ((with_reducible refine (F2 _ HY.out HQ.out).mono ?_); rintro e w2 ⟨rfl, rfl⟩)))
  go_ret
  exact ⟨rfl, brf⟩
theorem onionBody_no (A B C : Option Addr) (n c m d p f : Nat) (vs us : List Value) (Ls Ns : List (List Int)) (body : List Int) (w : World) (hn : Ls.length = n) (hm : Ns.length = m) (hl : body.length = p) (hnc : n ≤ c) (hmd : m ≤ d) (hpf : p ≤ f) (hx : Rd w A vs) (hp : Parts w vs Ls) (hy : Rd w B us) (hq : Parts w us Ns) (hz : Rd w C (nums .u8 body)) (bN : ∀ xs ∈ Ns, Byt xs) (bb : Byt body) (hK : Konst w) (f1 : fewL Ls) (f2 : fewL Ns) (hb : p ≤ 300) (h : ¬ mayWr Ls Ns body) : Calls Tryd.prog 12 #[.slice A n c, .slice B m d, .slice C p f] w (Yes w) := by
  have q : ¬ (300 : Int) < p := by omega
  have CW := fun W h1 h2 => wrap_no A B C n c m d p f vs us Ls Ns body W hn hm hl h1 h2 h (fun i hi => by have := f2.1 i (by omega); omega)
  have F1 := fun W h1 h2 => few_yes A n c vs Ls W hn h1 h2 f1
  have F2 := fun W h1 h2 => few_yes B m d us Ns W hm h1 h2 f2
  have HX := Lib.hid hx
  have HP := Lib.hid hp
  have HY := Lib.hid hy
  have HQ := Lib.hid hq
  have HZ := Lib.hid hz
  have HK := Lib.hid hK
  clear hx hp hy hq hz hn hm hl bN bb hK f1 f2 h
  go_enter Tryd.func12, Tryd.ntmps12
  go_wp2_with (first
    | (go_at_call 31; refine (live9_any _).mono ?_; rintro e w1 ⟨rfl, rfl⟩)
    | (go_at_call 37; first | ((with_reducible refine (F1 _ HX.out HP.out).mono ?_); rintro e w2 ⟨rfl, rfl⟩) | ((with_reducible refine (F2 _ HY.out HQ.out).mono ?_); rintro e w2 ⟨rfl, rfl⟩))
    | (go_at_call 38; refine (CW _ HY.out HQ.out).mono ?_; rintro e w3 ⟨rfl, hb3⟩))
  go_ret
  exact ⟨by simp, hb3⟩
set_option maxHeartbeats 1000000 in
theorem onionBody_yes (A B C : Option Addr) (n c d f : Nat) (vs us : List Value) (Ls Ns : List (List Int)) (body : List Int) (w : World) (hn : Ls.length = n) (hm : Ns.length = n) (hl : body.length = 78) (hnc : n ≤ c) (hmd : n ≤ d) (hpf : 78 ≤ f) (hx : Rd w A vs) (hp : Parts w vs Ls) (hy : Rd w B us) (hq : Parts w us Ns) (hz : Rd w C (nums .u8 body)) (bN : ∀ xs ∈ Ns, Byt xs) (bb : Byt body) (hK : Konst w) (f1 : fewL Ls) (f2 : fewL Ns) (h : mayWr Ls Ns body) : Calls Tryd.prog 12 #[.slice A n c, .slice B n d, .slice C 78 f] w (Yes w) := by
  have CW := fun W h1 h2 h3 h4 h5 hK => wrap_yes A B C n c d f vs us Ls Ns body W hn h (fun i hi => by have := f1.1 i (by omega); omega) hpf h1 h2 h3 h4 h5 hK
  have n8 : n ≤ 8 := by rw [← hn]; exact h.2.1
  have n1 : 1 ≤ n := by rw [← hn]; exact h.1
  have hwl : (wrapL Ls Ns body).length = 78 + 48 * n := by rw [wrapL_len Ls Ns body h.2.2.1 h.2.2.2.1, hl, hn]
  have hwb : Byt (wrapL Ls Ns body) := wrapL_byt Ls Ns body bN bb
  have hst := body_start (n := n) h hn
  have HSTEP : Hid (∀ k bl, k < n → BodyR Ls Ns body n k bl → _) := Lib.hid (fun k bl hk hr => body_step (n := n) (k := k) (bl := bl) h hn bN bb hk hr)
  have HL2 : Hid (∀ k, k < n → (Ls.getD k []).length ≤ 200) := Lib.hid (fun k hk => f1.1 k (by omega))
  have H16 : Hid (∀ k, k < n → (Ns.getD k []).length = 16) := Lib.hid (fun k hk => h.2.2.2.1 k (by omega))
  obtain ⟨ww, hww⟩ : ∃ ww, ww = wrapL Ls Ns body := ⟨_, rfl⟩
  rw [← hww] at CW hwl hwb hst
  have e1 : lenO n = ((78 + 48 * n : Nat) : Int) := lenO_nat n1 n8
  obtain ⟨M, hM⟩ : ∃ M, M = 78 + 48 * n := ⟨_, rfl⟩
  rw [← hM] at hwl e1
  have F1 := fun W h1 h2 => few_yes A n c vs Ls W hn h1 h2 f1
  have F2 := fun W h1 h2 => few_yes B n d us Ns W hm h1 h2 f2
  have S1 := fun A1 c1 c2 W h1 h2 => same_true A1 C 78 c1 78 c2 body body W rfl hl hl h1 h2 bb
  have HWL := Lib.hid hwl
  have HWB := Lib.hid hwb
  have HST := Lib.hid hst
  have HN := Lib.hid hn
  have HM := Lib.hid hm
  have HL := Lib.hid hl
  have E1 := Lib.hid e1
  have HMM := Lib.hid hM
  have HX := Lib.hid hx
  have HP := Lib.hid hp
  have HY := Lib.hid hy
  have HQ := Lib.hid hq
  have HZ := Lib.hid hz
  have HK := Lib.hid hK
  clear hx hp hy hq hz hn hm hl bN bb hK f1 f2 h hwl hwb hst hww e1 hM
  go_enter Tryd.func12, Tryd.ntmps12
  go_wp2_with (first
    | (go_at_call 31; refine (live9_any _).mono ?_; rintro e w1 ⟨rfl, rfl⟩)
    | (go_at_call 37; first | ((with_reducible refine (F1 _ HX.out HP.out).mono ?_); rintro e w2 ⟨rfl, rfl⟩) | ((with_reducible refine (F2 _ HY.out HQ.out).mono ?_); rintro e w2 ⟨rfl, rfl⟩))
    | (go_at_call 38; refine (CW _ HX.out HP.out HY.out HQ.out HZ.out HK.out).mono ?_; rintro e w3 ⟨A3, c3, he, hc3, hr3, hb3⟩; rw [HWL.out] at he hc3; subst he; have HRw := Lib.hid hr3; clear hr3))
  go_loopw [7, 50] (fun b i wr => ∃ (k : Nat) (A7 : Option Addr) (t7 c7 : Nat) (bl : List Int), k ≤ n ∧ i = .int .i64 k ∧ b = .slice A7 t7 c7 ∧ t7 ≤ c7 ∧ Hid (bl.length = t7 ∧ Rd wr A7 (nums .u8 bl) ∧ Byt bl ∧ BodyR Ls Ns body n k bl) ∧ Below w.heap.size w wr) (fun _ i _ => n - (intOf i).toNat)
  case atStart => exact ⟨0, A3, M, c3, ww, Nat.zero_le _, rfl, rfl, hc3, Lib.hid ⟨HWL.out, HRw.out, HWB.out, HST.out⟩, hb3⟩
  case round =>
    obtain ⟨k, A7, t7, c7, bl, hk, rfl, rfl, hc7, HB, hb⟩ := hrel
    have r0 : (0 : Int) ≤ k := by omega
    by_cases hlt : k < n
    · have r1 : (k : Int) < n := by omega
      obtain ⟨hbl, hrd, hby, hbr⟩ := HB.out
      obtain ⟨z1, z2, z3⟩ := HSTEP.out k bl hlt hbr
      have hlM := (hbr.1 hlt).1
      obtain ⟨bv, ov, A', c', rfl, hbv, cv, hcv, hrv⟩ := part_at (HX.out.below hb) (HP.out.below hb) HN.out hlt
      obtain ⟨bu, ou, B', c'', rfl, hbu, cu, hcu, hru⟩ := part_at (HY.out.below hb) (HQ.out.below hb) HM.out hlt
      have hs200 := HL2.out k hlt
      have h16 := H16.out k hlt
      rw [h16] at cu
      obtain ⟨s, hs⟩ : ∃ s, s = Ls.getD k [] := ⟨_, rfl⟩
      obtain ⟨nn, hnn⟩ : ∃ nn, nn = Ns.getD k [] := ⟨_, rfl⟩
      rw [← hs] at cv hcv hrv hs200 z1 z2 z3
      rw [← hnn] at hcu hru h16 z2
      obtain ⟨ls, hlse⟩ : ∃ ls, ls = s.length := ⟨_, rfl⟩
      rw [← hlse] at cv hs200
      have htM : t7 = M := by rw [← hbl, hlM, ← HMM.out]
      subst htM
      have CP := fun W h1 h2 hK => peel_yes A' A7 ls c' t7 c7 k n s bl W hlse.symm hbl (by omega) hc7 h1 h2 hby hK z1
      rw [Int.toNat_natCast, Int.toNat_natCast] at CP
      rw [z2] at CP
      have CK := fun W h1 h2 hK => lkey_any A' B' ls c' 16 c'' s nn W hlse.symm h16 (by omega) (by omega) h1 h2 hK
      have hby2 : Byt (peelO s k n bl) := peelO_byt hby
      obtain ⟨x, hx⟩ : ∃ x, x = peelO s k n bl := ⟨_, rfl⟩
      obtain ⟨ky, hky⟩ : ∃ ky, ky = tagL s nn := ⟨_, rfl⟩
      have lk : ky.length = 32 := by rw [hky, tag_len]
      have bk : Byt ky := by rw [hky]; exact tag_byt _ _
      rw [← hx] at CP z3 hby2
      rw [← hky] at CP CK
      have S2 := fun A1 A2 c1 c2 W h1 h2 => same_true A1 A2 32 c1 32 c2 ky ky W rfl lk lk h1 h2 bk
      obtain ⟨tx, htx⟩ : ∃ tx, tx = x.length := ⟨_, rfl⟩
      have HTX := Lib.hid htx
      have HLK := Lib.hid lk
      have HZ3 := Lib.hid (And.intro hby2 z3)
      have HRV := Lib.hid hrv
      have HRU := Lib.hid hru
      have HRB := Lib.hid hrd
      have HKr := Lib.hid (HK.out.go hb)
      clear hbl hrd hby hbr z1 z2 z3 hlM hs hnn hlse hrv hru h16 hx hky lk bk htx hby2
      go_wp2_with (first
        | (go_at_call 39; refine (olen_any _ _).mono ?_; rintro e w4 ⟨he, rfl⟩; rw [E1.out] at he; subst he)
        | (go_at_call 35; refine (CP _ HRV.out HRB.out HKr.out).mono ?_; rintro e w5 ⟨A5, B5, c5, d5, he, hc5, hr5, hq5, hb5⟩; rw [← HTX.out, HLK.out] at he; rw [← HTX.out] at hc5; subst he; have HRx := Lib.hid hr5; have HRk := Lib.hid hq5; have cu' := (hb5.cell (p := ⟨bu, ou + k, none⟩) hbu).trans cu; clear hr5 hq5)
        | (go_at_call 29; refine (CK _ (HRV.out.below hb5) (HRU.out.below hb5) (HKr.out.go hb5)).mono ?_; rintro e w6 ⟨B6, c6, he, hc6, hl6, hr6, hb6⟩; rw [HLK.out] at he; subst he; have HRx := Lib.hid (HRx.out.below hb6); have HRk := Lib.hid (HRk.out.below hb6); have HRj := Lib.hid hr6; clear hr6)
        | (go_at_call 16; refine (S2 _ _ _ _ _ HRk.out HRj.out).mono ?_; rintro e w7 ⟨rfl, rfl⟩))
      exact ⟨⟨k + 1, A5, tx, c5, x, by omega, by congr 1, rfl, hc5, Lib.hid ⟨HTX.out.symm, HRx.out, HZ3.out.1, HZ3.out.2⟩, bgo hb (bgo hb5 hb6)⟩, by show n - ((k : Int) + 1).toNat < n - (k : Int).toNat; omega⟩
    · have hkn : k = n := by omega
      obtain ⟨hbl, hrd, hby, hbr⟩ := HB.out
      have he := hbr.2 hkn
      subst hkn
      subst he
      have ht : t7 = 78 := by rw [← hbl]; exact HL.out
      subst ht
      have HRB := Lib.hid hrd
      clear hbl hrd hby hbr hlt hk
      go_wp2_with (go_at_call 16; refine (S1 _ _ _ _ HRB.out (HZ.out.below hb)).mono ?_; rintro e w7 ⟨rfl, rfl⟩)
      go_ret
      exact ⟨rfl, hb⟩

theorem onionBody_walk (A B C : Option Addr) (n c m d p f : Nat) (vs us : List Value) (Ls Ns : List (List Int)) (body : List Int) (w : World) (hn : Ls.length = n) (hm : Ns.length = m) (hl : body.length = p) (hnc : n ≤ c) (hmd : m ≤ d) (hpf : p ≤ f) (hx : Rd w A vs) (hp : Parts w vs Ls) (hy : Rd w B us) (hq : Parts w us Ns) (hz : Rd w C (nums .u8 body)) (bN : ∀ xs ∈ Ns, Byt xs) (bb : Byt body) (hK : Konst w) (x1 : n ≤ maxLen) (x2 : m ≤ maxLen) : Calls Tryd.prog 12 #[.slice A n c, .slice B m d, .slice C p f] w (Yes w) := by
  by_cases f1 : fewL Ls
  · by_cases f2 : fewL Ns
    · by_cases hb : p ≤ 300
      · by_cases h : mayWr Ls Ns body
        · have hmn : m = n := by rw [← hm, ← hn]; exact h.2.2.1
          subst hmn
          have hp78 : p = 78 := by rw [← hl]; exact h.2.2.2.2
          subst hp78
          exact onionBody_yes A B C m c d f vs us Ls Ns body w hn hm hl hnc hmd hpf hx hp hy hq hz bN bb hK f1 f2 h
        · exact onionBody_no A B C n c m d p f vs us Ls Ns body w hn hm hl hnc hmd hpf hx hp hy hq hz bN bb hK f1 f2 hb h
      · exact onionBody_long A B C n c m d p f vs us Ls Ns body w hn hm hl hnc hmd hpf hx hp hy hq hz bN bb hK f1 f2 (by omega)
    · exact onionBody_f2 A B C n c m d p f vs us Ls Ns body w hn hm hl hnc hmd hpf hx hp hy hq hz bN bb hK f1 f2 x2
  · exact onionBody_f1 A B C n c m d p f vs us Ls Ns body w hn hm hl hnc hmd hpf hx hp hy hq hz bN bb hK f1 x1

theorem onionBody_of {H : Type} {enc : TypeId × Value → H} (W : World) (base : Nat) (args : Array Value) (ds : List (DataW H)) (p : List MemPlace)
    (hval : ∀ (j : Nat) t v, Tryd.f12.params[j]? = some t → args[j]? = some v → Value.okWide Tryd.prog W .any base t v)
    (hA : DataW.TrodAll enc Tryd.prog W 0 (fun _ => true) true Tryd.f12.params.toList args.toList ds p) (hlt : ∀ x ∈ p, x.block < W.heap.size)
    (hz : (DataW.weightsEach Tryd.prog Tryd.f12.params.toList ds).all (· ≤ reachBytes) = true) (hK : Konst W) : Calls Tryd.prog 12 args W (Yes W) := by
  rw [Tryd.params12] at hA hval hz
  obtain ⟨v0, vs0, d0, ds0, p0, q0, hargs, rfl, rfl, h0, r0⟩ := trodAll_cons hA
  obtain ⟨v1, vs1, d1, ds1, p1, q1, rfl, rfl, rfl, h1, r1⟩ := trodAll_cons r0
  obtain ⟨v2, vs2, d2, ds2, p2, q2, rfl, rfl, rfl, h2, r2⟩ := trodAll_cons r1
  obtain ⟨rfl, rfl, rfl⟩ := trodAll_nil r2
  obtain rfl : args = #[v0, v1, v2] := by cases args; simp_all
  obtain ⟨A, n, c, vs, Ls, rfl, hc0, hd0, hv0, hr0, hp0, hb0⟩ := open_parts h0 (hval 0 _ _ rfl rfl)
  obtain ⟨B, m, d, us, Ns, rfl, hc1, hd1, hv1, hr1, hp1, hb1⟩ := open_parts h1 (hval 1 _ _ rfl rfl)
  obtain ⟨C, p, f, bs, rfl, hn2, hr2, hb2, hc2, hd2⟩ := open_bytes2 h2 (hval 2 _ _ rfl rfl)
  exact onionBody_walk A B C n c m d p f vs us Ls Ns bs W (by rw [← hp0.1, hv0]) (by rw [← hp1.1, hv1]) hn2 hc0 hc1 hc2 hr0 hp0 hr1 hp1 hr2 hb1 hb2 hK (by omega) (by omega)
end Go.Proofs.YtgclcpopibjocaaDoor
