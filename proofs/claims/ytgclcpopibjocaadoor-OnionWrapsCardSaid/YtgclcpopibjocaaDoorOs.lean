/- Onions: the document's Wrap and Nonces; whether parts are the same. -/
import Derived.Test.YtgclcpopibjocaaDoorOn
import Derived.Test.YtgclcpopibjocaaDoorOh
import Derived.Test.YtgclcpopibjocaaDoorTb
import Derived.Test.YtgclcpopibjocaaDoorApart
import Derived.Deep.RegionHeld3
import Derived.Deep.DeepMust
namespace Go.Proofs.YtgclcpopibjocaaDoor
open Go.RowKit Go.ChangeShapes Go.WideShapes Go.ChangeAt
set_option linter.unusedSimpArgs false
set_option linter.unusedVariables false
set_option maxRecDepth 100000

set_option maxHeartbeats 2000000 in
theorem rwrap_no (A B C : Option Addr) (n c m d p f : Nat) (us : List Value) (Ls Ns : List (List Int)) (body : List Int) (w : World) (hn : Ls.length = n) (hm : Ns.length = m) (hp : body.length = p) (hy : Rd w B us) (hq : Parts w us Ns) (h : ¬ mayWr Ls Ns body) (hbig : ∀ i, i < m → (Ns.getD i []).length ≤ 100000) :
    Calls Tryd.prog 40 #[.slice A n c, .slice B m d, .slice C p f] w (IsWrapNo w) := by
  by_cases h1 : n < 1
  · skip
    clear hn hm hp hy hq h hbig
    go_enter Tryd.func40, Tryd.ntmps40
    go_wp2
    go_ret2
    exact ⟨rfl, brf⟩
  have r1 : ¬ (n : Int) < 1 := by omega
  by_cases h2 : 8 < n
  · skip
    have r2 : (8 : Int) < n := by omega
    clear hn hm hp hy hq h hbig
    go_enter Tryd.func40, Tryd.ntmps40
    go_wp2
    go_ret2
    exact ⟨rfl, brf⟩
  have r2 : ¬ (8 : Int) < n := by omega
  by_cases h3 : m ≠ n
  · skip
    have r3 : ((m : Int) != (n : Int)) = true := by simp; omega
    have r3' : ¬ (m : Int) = n := by omega
    clear hn hm hp hy hq h hbig
    go_enter Tryd.func40, Tryd.ntmps40
    go_wp2
    go_ret2
    exact ⟨rfl, brf⟩
  have r3 : ((m : Int) != (n : Int)) = false := by simp; omega
  by_cases h4 : p ≠ 78
  · skip
    have r4 : ((p : Int) != 78) = true := by simp; omega
    have r4' : ¬ (p : Int) = 78 := by omega
    clear hn hm hp hy hq h hbig
    go_enter Tryd.func40, Tryd.ntmps40
    go_wp2
    go_ret2
    exact ⟨rfl, brf⟩
  have r4 : ((p : Int) != 78) = false := by simp; omega
  have HM := Lib.hid hm
  have HN : Hid (¬ mayWr Ls Ns body) := Lib.hid h
  have HH : Hid (¬ (∀ i, i < m → (Ns.getD i []).length = 16)) := Lib.hid (fun h4 => HN.out ⟨by omega, by omega, by omega, fun i hi => h4 i (by omega), by omega⟩)
  have hm8 : m ≤ 8 := by omega
  clear hn hm hp h hbig h3 h4
  go_enter Tryd.func40, Tryd.ntmps40
  go_wp2
  go_loopw [35] (fun i wr => ∃ k : Nat, k ≤ m ∧ i = .int .i64 k ∧ wr = w ∧ Hid (∀ j, j < k → (Ns.getD j []).length = 16)) (fun i _ => m - (intOf i).toNat)
  case atStart => exact ⟨0, Nat.zero_le _, rfl, rfl, Lib.hid (fun j hj => by omega)⟩
  case round =>
    obtain ⟨k, hk, rfl, rfl, HK⟩ := hrel
    have r0 : (0 : Int) ≤ k := by omega
    by_cases hlt : k < m
    · have r5 : (k : Int) < m := by omega
      obtain ⟨b, o, A', c', rfl, hb, hc, _, _⟩ := part_at hy hq HM.out hlt
      obtain ⟨t, ht⟩ : ∃ t, t = (Ns.getD k []).length := ⟨_, rfl⟩
      rw [← ht] at hc
      have HT := Lib.hid ht
      clear hy hq ht
      by_cases h16 : t = 16
      · subst h16
        go_wp2
        exact ⟨⟨k + 1, by omega, by go_num, trivial, Lib.hid (fun j hj => by
          by_cases e : j = k
          · subst e; exact HT.out.symm
          · exact HK.out j (by omega))⟩, by show m - ((k : Int) + 1).toNat < m - (k : Int).toNat; omega⟩
      · have r6 : ((t : Int) != 16) = true := by simp; omega
        have r7 : ¬ (t : Int) = 16 := by omega
        go_wp2
        go_ret2
        exact ⟨rfl, brf⟩
    · exact absurd (fun i hi => HK.out i (by omega)) HH.out

set_option maxHeartbeats 2000000 in
theorem rwrap_yes (A B C : Option Addr) (n c d f : Nat) (vs us : List Value) (Ls Ns : List (List Int)) (body : List Int) (w : World) (hn : Ls.length = n) (h : mayWr Ls Ns body) (hls : ∀ i, i < n → (Ls.getD i []).length ≤ 4000) (hf : 78 ≤ f) (hx : Rd w A vs) (hp : Parts w vs Ls) (hy : Rd w B us) (hq : Parts w us Ns) (hz : Rd w C (nums .u8 body)) :
    Calls Tryd.prog 40 #[.slice A n c, .slice B n d, .slice C 78 f] w (IsRow2 w (wrapL Ls Ns body)) := by
  obtain ⟨q1, q2, q3, q4, q5⟩ := h
  have n1 : 1 ≤ n := by omega
  have n8 : n ≤ 8 := by omega
  have r1 : ¬ (n : Int) < 1 := by omega
  have r2 : ¬ (8 : Int) < n := by omega
  have HX := Lib.hid hx
  have HP := Lib.hid hp
  have HY := Lib.hid hy
  have HQ := Lib.hid hq
  have HZ := Lib.hid hz
  have HN := Lib.hid hn
  have HM : Hid (Ns.length = n) := Lib.hid (by omega)
  have H5 := Lib.hid q5
  have H4 : Hid (∀ i, i < n → (Ns.getD i []).length = 16) := Lib.hid (fun i hi => q4 i (by omega))
  have HLS := Lib.hid hls
  clear hx hp hy hq hz hn q1 q2 q3 q4 q5 hls
  go_enter Tryd.func40, Tryd.ntmps40
  go_wp2
  go_loopw [35] (fun i wr => ∃ k : Nat, k ≤ n ∧ i = .int .i64 k ∧ wr = w) (fun i _ => n - (intOf i).toNat)
  case atStart => exact ⟨0, Nat.zero_le _, rfl, rfl⟩
  case round =>
    obtain ⟨k, hk, rfl, rfl⟩ := hrel
    have r0 : (0 : Int) ≤ k := by omega
    by_cases hlt : k < n
    · have r5 : (k : Int) < n := by omega
      obtain ⟨b, o, A', c', rfl, hb, hc, _, _⟩ := part_at HY.out HQ.out HM.out hlt
      rw [H4.out k hlt] at hc
      go_wp2
      exact ⟨⟨k + 1, by omega, by go_num, trivial⟩, by show n - ((k : Int) + 1).toNat < n - (k : Int).toNat; omega⟩
    · have hkm : n = k := by omega
      subst hkm
      clear hlt hk
      go_wp2_with fail
      go_loopw [10, 46] (fun s i wr2 => ∃ (k : Nat) (X : Option Addr) (cX : Nat), k ≤ n ∧ i = .int .i64 k ∧ s = .slice X (78 + 48 * k) cX ∧ 78 + 48 * k ≤ cX ∧ Rd wr2 X (nums .u8 (wrF Ls Ns n body (upto k))) ∧ Below wr.heap.size wr wr2) (fun _ i _ => n - (intOf i).toNat)
      case atStart => exact ⟨0, C, f, Nat.zero_le _, rfl, rfl, hf, HZ.out, brf⟩
      case round =>
        obtain ⟨k, X, cX, hk, rfl, rfl, hcX, hr8, hb⟩ := hrel
        have r0 : (0 : Int) ≤ k := by omega
        by_cases hlt : k < n
        · have r5 : (k : Int) < n := by omega
          have hstep := wrF_snoc Ls Ns n body (upto k) k
          have hlen := wrF_len (Ls := Ls) (body := body) H4.out n1 (upto k)
          rw [← upto_succ, dn0_eq hlt] at hstep
          rw [upto_length] at hlen
          obtain ⟨i, hi⟩ : ∃ i, i = n - 1 - k := ⟨_, rfl⟩
          have hin : i < n := by omega
          rw [← hi] at hstep
          obtain ⟨bv, ov, A', c', rfl, hbv, cv, hcv, hrv⟩ := part_at (HX.out.below hb) (HP.out.below hb) HN.out hin
          obtain ⟨bu, ou, B', c'', rfl, hbu, cu, hcu, hru⟩ := part_at (HY.out.below hb) (HQ.out.below hb) HM.out hin
          have h16 := H4.out i hin
          have hls := HLS.out i hin
          rw [h16] at cu
          obtain ⟨m, hm⟩ : ∃ m, m = 78 + 48 * k := ⟨_, rfl⟩
          obtain ⟨s, hs⟩ : ∃ s, s = Ls.getD i [] := ⟨_, rfl⟩
          obtain ⟨nn, hnn⟩ : ∃ nn, nn = Ns.getD i [] := ⟨_, rfl⟩
          obtain ⟨acc, hacc⟩ : ∃ acc, acc = wrF Ls Ns n body (upto k) := ⟨_, rfl⟩
          rw [← hs] at cv hcv hrv hls hstep
          rw [← hnn] at hcu hru h16 hstep
          rw [← hacc] at hr8 hlen hstep
          rw [← hm] at hcX ⊢
          obtain ⟨ls, hlse⟩ : ∃ ls, ls = s.length := ⟨_, rfl⟩
          rw [← hlse] at cv hls
          have hal : acc.length = m := by rw [hlen, H5.out, hm]
          have CS := fun W1 h1 h2 h3 => rseal_any A' B' X ls c' c'' m cX s nn acc W1 hlse.symm h16 hal (by omega) (by omega) h1 h2 h3
          have hsl : (sealL s nn acc).length = m + 48 := by rw [sealL_len, h16, hal]; omega
          have e1 : (n : Int) - 1 - (k : Int) = (i : Int) := by omega
          have i0 : (0 : Int) ≤ i := by omega
          have i1 : (i : Int) < n := by omega
          have i2 : (i : Int) ≤ 100 := by omega
          have HSL := Lib.hid hsl
          have HST := Lib.hid hstep
          have HMM := Lib.hid hm
          have HRV := Lib.hid hrv
          have HRU := Lib.hid hru
          have HR8 := Lib.hid hr8
          clear hsl hstep hm hrv hru hr8 hlse h16 hal hs hnn hacc hlen hi hls
          go_upto_region 14 with fail
          have hbl : Below wr.heap.size wr wr.drew := bdr brf
          go_region_held3 (fun x => x.cell? ⟨bv, ov + i, none⟩ = some (.slice A' ls c') ∧ x.cell? ⟨bu, ou + i, none⟩ = some (.slice B' 16 c'')) (first | assumption | exact ⟨cv, cu⟩)
            ((go_at_call 65; go_must (refine (CS _ (HRV.out.below hbl) (HRU.out.below hbl) (HR8.out.below hbl)).mono ?_; rintro e w4 ⟨A2, c2, he, hc2, hr2, hb4⟩; rw [HSL.out] at he hc2; subst he; have hb5 : Below wr.heap.size wr w4 := bgo (bdr brf) hb4; have hS : w4.cell? ⟨bv, ov + i, none⟩ = some (.slice A' ls c') ∧ w4.cell? ⟨bu, ou + i, none⟩ = some (.slice B' 16 c'') := ⟨(hb5.cell (p := ⟨bv, ov + i, none⟩) hbv).trans cv, (hb5.cell (p := ⟨bu, ou + i, none⟩) hbu).trans cu⟩; have HR2 := Lib.hid hr2; clear hr2)))
          go_wp2_with fail
          have hm2 : m + 48 = 78 + 48 * (k + 1) := by rw [HMM.out]; omega
          exact ⟨⟨k + 1, A2, c2, by omega, by congr 1, by rw [hm2], by rw [← hm2]; exact hc2, by rw [HST.out]; exact HR2.out, bgo hb hb5⟩, by show n - ((k : Int) + 1).toNat < n - (k : Int).toNat; omega⟩
        · have hkn : n = k := by omega
          subst hkn
          rw [wrF_all Ls Ns n body HN.out HM.out] at hr8
          have hwl : (wrapL Ls Ns body).length = 78 + 48 * n := by
            rw [wrapL_len Ls Ns body (by rw [HM.out, HN.out]) (fun i hi => H4.out i (by rw [← HM.out]; exact hi)), H5.out, HN.out]
          have HWL := Lib.hid hwl
          have HR8 := Lib.hid hr8
          clear hr8 hlt hk hwl
          go_wp2_with fail
          go_ret2
          exact ⟨X, cX, by rw [HWL.out]; rfl, by rw [HWL.out]; exact hcX, HR8.out, hb⟩

end Go.Proofs.YtgclcpopibjocaaDoor
/- Onions: the document's Nonces; whether parts are the same. -/
namespace Go.Proofs.YtgclcpopibjocaaDoor
open Go.RowKit Go.ChangeShapes Go.WideShapes Go.ChangeAt
set_option linter.unusedSimpArgs false
set_option linter.unusedVariables false
set_option maxRecDepth 100000

/-- The values vs read as the rows of bytes L, one by one. -/
def PartsW (w : World) (vs : List Value) (L : List (List Int)) : Prop := vs.length = L.length ∧ ∀ i, i < L.length → ∃ A c, vs.getD i undef = .slice A (L.getD i []).length c ∧ Rd w A (nums .u8 (L.getD i []))
theorem Parts.weak {w : World} {vs : List Value} {L : List (List Int)} (h : Parts w vs L) : PartsW w vs L := ⟨h.1, fun i hi => by
  obtain ⟨A, c, h1, _, _, h2⟩ := h.2 i hi
  exact ⟨A, c, h1, h2⟩⟩
theorem PartsW.below {w w' : World} {vs : List Value} {L : List (List Int)} (h : PartsW w vs L) (hb : Below w.heap.size w w') : PartsW w' vs L := ⟨h.1, fun i hi => by
  obtain ⟨A, c, h1, h2⟩ := h.2 i hi
  exact ⟨A, c, h1, h2.below hb⟩⟩
theorem partW_at {w : World} {vs : List Value} {L : List (List Int)} {A : Option Addr} {n k : Nat} (hr : Rd w A vs) (hp : PartsW w vs L) (hn : L.length = n) (hk : k < n) :
    ∃ b o A' c', A = some ⟨b, o, none⟩ ∧ b < w.heap.size ∧ w.cell? ⟨b, o + k, none⟩ = some (.slice A' (L.getD k []).length c') ∧ Rd w A' (nums .u8 (L.getD k [])) := by
  have hl := hp.1
  obtain ⟨b, o, rfl, hlt, hc⟩ := hr.at_ (by omega)
  obtain ⟨A', c', hv, hr'⟩ := hp.2 k (by omega)
  refine ⟨b, o, A', c', rfl, hlt, ?_, hr'⟩
  rw [← hv]
  exact hc k _ (vs_at (by omega))
/-- Parts in new blocks, none of them that of v. -/
def PartsA (w : World) (v : Value) (vs : List Value) (L : List (List Int)) : Prop := vs.length = L.length ∧ ∀ i, i < L.length → ∃ B c, vs.getD i undef = .slice (some ⟨B, 0, none⟩) (L.getD i []).length c ∧ Rd w (some ⟨B, 0, none⟩) (nums .u8 (L.getD i [])) ∧ B < w.heap.size ∧ v.ownBlock ≠ some B
theorem PartsA.weak {w : World} {v : Value} {vs : List Value} {L : List (List Int)} (h : PartsA w v vs L) : PartsW w vs L := ⟨h.1, fun i hi => by
  obtain ⟨B, c, h1, h2, _⟩ := h.2 i hi
  exact ⟨_, c, h1, h2⟩⟩
theorem PartsA.below {w w' : World} {v : Value} {vs : List Value} {L : List (List Int)} (h : PartsA w v vs L) (hb : Below w.heap.size w w') : PartsA w' v vs L := ⟨h.1, fun i hi => by
  obtain ⟨B, c, h1, h2, h3, h4⟩ := h.2 i hi
  exact ⟨B, c, h1, h2.below hb, Nat.lt_of_lt_of_le h3 hb.size, h4⟩⟩
theorem PartsA.step {w w' : World} {v v' : Value} {vs : List Value} {L : List (List Int)} (h : PartsA w v vs L) (hg : w.grownBy w' v.ownBlock) (hv : v'.ownBlock = v.ownBlock ∨ v'.ownBlock = some w.heap.size) : PartsA w' v' vs L := ⟨h.1, fun i hi => by
  obtain ⟨B, c, h1, h2, h3, h4⟩ := h.2 i hi
  refine ⟨B, c, h1, rd_grow h2 hg h4, Nat.lt_of_lt_of_le h3 hg.size, fun e => ?_⟩
  rcases hv with hv | hv
  · exact h4 (hv ▸ e)
  · rw [hv] at e
    injection e with e
    omega⟩
theorem PartsA.snoc {w : World} {v : Value} {vs : List Value} {L : List (List Int)} {B c n : Nat} {xs : List Int} (h : PartsA w v vs L) (hn : xs.length = n) (hr : Rd w (some ⟨B, 0, none⟩) (nums .u8 xs)) (hB : B < w.heap.size) (hv : v.ownBlock ≠ some B) : PartsA w v (vs ++ [.slice (some ⟨B, 0, none⟩) n c]) (L ++ [xs]) := by
  refine ⟨by simp [h.1], fun i hi => ?_⟩
  have hl := h.1
  by_cases e : i < L.length
  · have := h.2 i e
    simpa [List.getD, List.getElem?_append_left (show i < vs.length by omega), List.getElem?_append_left e] using this
  · have e2 : i = L.length := by simp at hi; omega
    subst e2
    have h1 : (vs ++ [Value.slice (some ⟨B, 0, none⟩) n c]).getD L.length undef = Value.slice (some ⟨B, 0, none⟩) n c := by rw [← hl]; simp [List.getD]
    have h2 : (L ++ [xs]).getD L.length [] = xs := by simp [List.getD]
    rw [h1, h2]
    exact ⟨B, c, by rw [hn], hr, hB, hv⟩

def IsNonsW (w : World) (L : List (List Int)) (n : Nat) (e : Ending) (w' : World) : Prop :=
  ∃ A c vs, e = .returned (.tuple #[.slice A n c, .int .i64 0]) ∧ Rd w' A vs ∧ PartsW w' vs L ∧ Below w.heap.size w w'

theorem rnons_bad (S : Option Addr) (sn sc : Nat) (ep ro : Int) (A : Option Addr) (n c : Nat) (xs : List Int) (w : World) (hn : xs.length = n) (hnc : n ≤ c) (hx : Rd w A (nums .i64 xs)) (hg : ¬ goodSt xs) :
    Calls Tryd.prog 41 #[.slice S sn sc, .agg #[.int .u64 ep, .int .u64 ro, .slice A n c]] w fun e w' => e = .returned (.tuple #[.slice none 0 0, .int .i64 1]) ∧ Below w.heap.size w w' := by
  have CC := fun W h1 => rstPut_bad ep ro A n c xs W hn hnc h1 hg
  have HX := Lib.hid (hx.below (bal brf (.cells #[.int .u64 ep, .int .u64 ro, .slice A n c] 43)))
  clear hx hn hg
  go_enter Tryd.func41, Tryd.ntmps41
  go_wp2_with (go_at_call 66; refine (CC _ HX.out).mono ?_; rintro e w1 ⟨rfl, hb1⟩)
  go_ret2
  exact ⟨rfl, bgo (bal brf _) hb1⟩

set_option maxHeartbeats 2000000 in
theorem rnons_any (S : Option Addr) (sn sc : Nat) (ep ro : Nat) (A : Option Addr) (n c : Nat) (key xs : List Int) (w : World) (hs : key.length = sn) (hsn : sn ≤ 4000) (hn : xs.length = n) (hnc : n ≤ c) (hk : Rd w S (nums .u8 key)) (hx : Rd w A (nums .i64 xs)) (hg : goodSt xs) (he : ep < 18446744073709551616) (hr : ro < 18446744073709551616) :
    Calls Tryd.prog 41 #[.slice S sn sc, .agg #[.int .u64 ep, .int .u64 ro, .slice A n c]] w (IsNonsW w (nonsL key (stB ep ro xs) n) n) := by
  obtain ⟨i0, hi, hz0, hz1, hz2⟩ := info_parts infoByteT
  obtain ⟨j0, hj, hy0, hy1, hy2⟩ := info_parts infoBytes
  have hg8 : n ≤ 8 := by rw [← hn]; exact hg.2.1
  have hg1 : 1 ≤ n := by rw [← hn]; exact hg.1
  have CP := fun W h1 => rstPut_any ep ro A n c xs W hn hnc h1 hg he hr
  have hsl : (stB ep ro xs).length = 17 + n := by rw [stB_len, hn]
  obtain ⟨st, hst⟩ : ∃ st, st = stB ep ro xs := ⟨_, rfl⟩
  rw [← hst] at CP hsl ⊢
  obtain ⟨N, hN⟩ : ∃ N, N = 17 + n := ⟨_, rfl⟩
  rw [← hN] at hsl
  have hN25 : N ≤ 25 := by omega
  have hnl : (nums .u8 st).length = N := by simp [hsl]
  have HSL := Lib.hid hsl
  have HNL := Lib.hid hnl
  have HS := Lib.hid hs
  have HBOX := Lib.hid (stBox_new w ep ro (.slice A n c) 43)
  have HX := Lib.hid (hx.below (bal brf (.cells #[.int .u64 ep, .int .u64 ro, .slice A n c] 43)))
  have HKY := Lib.hid hk
  clear hx hn hg he hr hs hk hst hsl hN hnl
  go_enter Tryd.func41, Tryd.ntmps41
  go_wp2_with (go_at_call 66; refine (CP _ HX.out).mono ?_; rintro e w2 ⟨B2, c2, he, hc2, hown2, hb2⟩; rw [HSL.out] at he hown2; subst he; have HST := Lib.hid (Rd.of_own hown2); have HBOX := Lib.hid (HBOX.out.below hb2); obtain ⟨s2, k20, k21, k22⟩ := HBOX.out; have HBX := bgo (bal brf _) hb2; clear hown2)
  go_loopw [8, 21] (fun s i wr => ∃ (k : Nat) (A8 : Option Addr) (c8 : Nat) (us : List Value), k ≤ n ∧ i = .int .i64 k ∧ s = .slice A8 k c8 ∧ wr.ownsRow w2.heap.size 22 1 (.slice A8 k c8) k us ∧ Hid (PartsA wr (.slice A8 k c8) us (nonsL key st k)) ∧ Below w2.heap.size w2 wr) (fun _ i _ => n - (intOf i).toNat)
  case atStart => exact ⟨0, none, 0, [], Nat.zero_le _, rfl, rfl, ⟨rfl, .inl ⟨rfl, rfl⟩⟩, Lib.hid ⟨rfl, fun i hi => by simp [nonsL] at hi⟩, brf⟩
  case round =>
    obtain ⟨k, A8, c8, us, hk, rfl, rfl, hown, HPA, hb⟩ := hrel
    have r0 : (0 : Int) ≤ k := by omega
    by_cases hlt : k < n
    · have r1 : (k : Int) < n := by omega
      have hl1 : (st ++ [(k : Int)]).length = N + 1 := by rw [List.length_append, HSL.out]; rfl
      have CT := fun A4 c4 W h1 h2 => rtag_any S A4 sn sc (N + 1) c4 key (st ++ [(k : Int)]) W HS.out hl1 (by omega) (by omega) h1 h2
      obtain ⟨t, ht⟩ : ∃ t, t = tagL key (st ++ [(k : Int)]) := ⟨_, rfl⟩
      have hlt32 : t.length = 32 := by rw [ht, tag_len]
      have hnk : t.take 16 = nonK key st k := by rw [nonK, ← ht]
      rw [← ht] at CT
      have HT := Lib.hid hlt32
      have HNK := Lib.hid hnk
      have HSW := Lib.hid (HST.out.below hb)
      have HYW := Lib.hid (HKY.out.below (bgo HBX hb))
      have HOW := Lib.hid hown
      have hzr := hb.size
      clear hl1 ht hlt32 hnk hown
      go_wp2_with (first
        | (at_builtin; first
            | (refine append_vs rfl _ _ 22 rfl wr.heap.size 5 i0 (.int .u8 0) 1 Tryd.underlying22 hi hz0 hz1 hz2 rfl (.slice none 0 0) 0 [] rfl ⟨rfl, .inl ⟨rfl, rfl⟩⟩ (some ⟨B2, 0, none⟩) N c2 (nums .u8 st) rfl HNL.out HSW.out nums_u8_one (by unfold maxLen; omega) (by omega) (Nat.le_refl _) ?_; intro v4 w4 hown4 hgrow4; rw [Nat.zero_add, List.nil_append] at hown4; have hb4 : Below wr.heap.size wr w4 := brf.grown hgrow4 (Nat.le_refl _) (fun k e => by simp [Value.ownBlock] at e); clear hgrow4)
            | (refine append_one rfl _ _ 22 rfl wr.heap.size 5 i0 (.int .u8 0) 1 Tryd.underlying22 hi hz0 hz1 hz2 rfl _ N _ rfl hown4 (.int .u8 (k : Int)) 5 rfl rfl (by unfold maxLen; omega) (by omega) hb4.size ?_; intro v5 w5 hown5 hgrow5; have hb5 : Below wr.heap.size wr w5 := keep_below hown4 hgrow5 hb4 hb4.size (Nat.le_refl _); obtain ⟨A5, c5, rfl⟩ := own_slice hown5; rw [show nums .u8 st ++ [Value.int .u8 (k : Int)] = nums .u8 (st ++ [(k : Int)]) by simp [nums]] at hown5; have HR5 := Lib.hid (Rd.of_own hown5); clear hown5 hown4 hgrow5)
            | (refine append_one_at rfl _ _ 44 rfl w2.heap.size 22 j0 (.slice none 0 0) 24 Tryd.underlying44 hj hy0 hy1 hy2 rfl _ k us rfl HO6.out (.slice (some ⟨B6, 0, none⟩) 16 c6) 22 rfl rfl (by unfold maxLen; omega) (by omega) hz6 ?_; intro v7 w7 hown7 hgrow7 hat7; obtain ⟨A7, c7, rfl⟩ := own_slice hown7; have hb7 : Below w2.heap.size w2 w7 := keep_below HO6.out hgrow7 HB6.out hz6 (Nat.le_refl _); have HO7 := Lib.hid hown7; clear hown7))
        | (go_at_call 48; refine (CT _ _ _ (HYW.out.below hb5) HR5.out).mono ?_; rintro e w6 ⟨B6, c6, he, hc6, hl6, hr6, hb6⟩; rw [HT.out] at he hc6; subst he; have hbq := bgo hb5 hb6; have hr7 := hr6.take 16; have HR6 := Lib.hid hr7; have hB6 : B6 < w6.heap.size := (by obtain ⟨x1, x2, x3, x4, _⟩ := hr6.at_ (by simp [HT.out]); cases x3; exact x4); have hB6r : wr.heap.size ≤ B6 := Nat.le_trans hb5.size hl6; have HO6 := Lib.hid (own_below HOW.out hbq); have HP6 := Lib.hid (HPA.out.below hbq); have HB6 := Lib.hid (bgo hb hbq); have hz6 : w2.heap.size ≤ w6.heap.size := HB6.out.size; have g1 : (16 : Int) ≤ c6 := (by omega); have g2 : ¬ c6 = 16 := (by omega); clear hr6 hr7))
      have hvo : (Value.slice A8 k c8).ownBlock ≠ some B6 := fun e => by have := (HOW.out.lt B6 e).2; omega
      have hpa := HP6.out.snoc (c := c6) (n := 16) (xs := t.take 16) (by rw [List.length_take, HT.out]; rfl) HR6.out hB6 hvo
      have hpa2 := (hpa.below (bal brf (.cells #[.slice (some ⟨B6, 0, none⟩) 16 c6] 22))).step hgrow7 (by rw [World.size_alloc]; exact hat7)
      rw [HNK.out, ← nonsL_succ] at hpa2
      exact ⟨⟨k + 1, A7, c7, us ++ [.slice (some ⟨B6, 0, none⟩) 16 c6], by omega, by congr 1, rfl, HO7.out, Lib.hid hpa2, hb7⟩, by show n - ((k : Int) + 1).toNat < n - (k : Int).toNat; omega⟩
    · have hkn : n = k := by omega
      subst hkn
      have HOW := Lib.hid hown
      clear hown hlt hk
      go_wp2_with fail
      go_ret2
      exact ⟨A8, c8, us, rfl, Rd.of_own HOW.out, HPA.out.weak, bgo HBX hb⟩

set_option maxHeartbeats 2000000 in
theorem sameParts_true (A B : Option Addr) (n c d : Nat) (vs us : List Value) (L : List (List Int)) (w : World) (hn : L.length = n) (hmax : n ≤ 1000) (hx : Rd w A vs) (hp : PartsW w vs L) (hy : Rd w B us) (hq : PartsW w us L) (hby : ∀ i, i < n → Byt (L.getD i [])) :
    Calls Tryd.prog 42 #[.slice A n c, .slice B n d] w (Yes w) := by
  have HX := Lib.hid hx
  have HP := Lib.hid hp
  have HY := Lib.hid hy
  have HQ := Lib.hid hq
  have HN := Lib.hid hn
  have HBY := Lib.hid hby
  clear hx hp hy hq hn hby
  go_enter Tryd.func42, Tryd.ntmps42
  go_wp2
  go_loopw [13] (fun i wr => ∃ k : Nat, k ≤ n ∧ i = .int .i64 k ∧ Below w.heap.size w wr) (fun i _ => n - (intOf i).toNat)
  case atStart => exact ⟨0, Nat.zero_le _, rfl, brf⟩
  case round =>
    obtain ⟨k, hk, rfl, hb⟩ := hrel
    have r0 : (0 : Int) ≤ k := by omega
    by_cases hlt : k < n
    · have r1 : (k : Int) < n := by omega
      obtain ⟨bv, ov, A', c', rfl, hbv, cv, hrv⟩ := partW_at (HX.out.below hb) (HP.out.below hb) HN.out hlt
      obtain ⟨bu, ou, B', c'', rfl, hbu, cu, hru⟩ := partW_at (HY.out.below hb) (HQ.out.below hb) HN.out hlt
      have hbyk := HBY.out k hlt
      obtain ⟨x, hx⟩ : ∃ x, x = L.getD k [] := ⟨_, rfl⟩
      rw [← hx] at cv cu hrv hru hbyk
      obtain ⟨m, hm⟩ : ∃ m, m = x.length := ⟨_, rfl⟩
      rw [← hm] at cv cu
      have S1 := fun A1 A2 c1 c2 W h1 h2 => same_true A1 A2 m c1 m c2 x x W rfl hm.symm hm.symm h1 h2 hbyk
      have HRV := Lib.hid hrv
      have HRU := Lib.hid hru
      clear hrv hru hx hm hbyk
      go_upto_region 6 with fail
      go_region_held3 (fun y => y.cell? ⟨bv, ov + k, none⟩ = some (.slice A' m c') ∧ y.cell? ⟨bu, ou + k, none⟩ = some (.slice B' m c'')) (first | assumption | exact ⟨cv, cu⟩)
        ((go_at_call 16; go_must (refine (S1 _ _ _ _ _ (HRV.out.below (bdr brf)) (HRU.out.below (bdr brf))).mono ?_; rintro e w4 ⟨rfl, rfl⟩)))
      go_wp2_with fail
      exact ⟨⟨k + 1, by omega, by congr 1, bdr hb⟩, by show n - ((k : Int) + 1).toNat < n - (k : Int).toNat; omega⟩
    · have hkn : n = k := by omega
      subst hkn
      clear hlt hk
      go_wp2_with fail
      go_ret
      exact ⟨rfl, hb⟩

end Go.Proofs.YtgclcpopibjocaaDoor
