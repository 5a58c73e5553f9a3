/- Any body wrapped for any servers, how long onions are, and any nonces. -/
import Derived.Test.YtgclcpopibjocaaDoorOs
import Derived.Test.YtgclcpopibjocaaDoorOh
import Derived.Deep.RegionHeld3
import Derived.Deep.DeepMust
namespace Go.Proofs.YtgclcpopibjocaaDoor
open Go.RowKit Go.ChangeShapes Go.WideShapes Go.ChangeAt
set_option linter.unusedSimpArgs false
set_option linter.unusedVariables false
set_option maxRecDepth 100000

theorem onionWraps_f1 (A B C S X : Option Addr) (n c m d p f sn sc xn xc : Nat) (ep ro : Nat) (z : Int) (vs us : List Value) (Ls Ns : List (List Int)) (body key xs : List Int) (w : World) (hn : Ls.length = n) (hm : Ns.length = m) (hl : body.length = p) (hs : key.length = sn) (hxn : xs.length = xn) (hpf : p ≤ f) (hnc : xn ≤ xc) (hx : Rd w A vs) (hp : Parts w vs Ls) (hy : Rd w B us) (hq : Parts w us Ns) (hz : Rd w C (nums .u8 body)) (hk : Rd w S (nums .u8 key)) (hxx : Rd w X (nums .i64 xs)) (he : ep < 18446744073709551616) (hr : ro < 18446744073709551616) (bN : ∀ xs ∈ Ns, Byt xs) (bb : Byt body) (hK : Konst w) (f1 : ¬ fewL Ls) (hmax : n ≤ maxLen) : Calls Tryd.prog 13 #[.slice A n c, .slice B m d, .slice C p f, .slice S sn sc, .agg #[.int .u64 ep, .int .u64 ro, .slice X xn xc], .int .i64 z] w (Yes w) := by
  have F1 := fun W h1 h2 => few_no A n c vs Ls W hn h1 h2 f1 hmax
  have HX := Lib.hid (hx.below (bal brf (.cells #[.int .u64 ep, .int .u64 ro, .slice X xn xc] 43)))
  have HP := Lib.hid (hp.below (bal brf (.cells #[.int .u64 ep, .int .u64 ro, .slice X xn xc] 43)))
  have HY := Lib.hid (hy.below (bal brf (.cells #[.int .u64 ep, .int .u64 ro, .slice X xn xc] 43)))
  have HQ := Lib.hid (hq.below (bal brf (.cells #[.int .u64 ep, .int .u64 ro, .slice X xn xc] 43)))
  have HZ := Lib.hid (hz.below (bal brf (.cells #[.int .u64 ep, .int .u64 ro, .slice X xn xc] 43)))
  have HKY := Lib.hid (hk.below (bal brf (.cells #[.int .u64 ep, .int .u64 ro, .slice X xn xc] 43)))
  have HXX := Lib.hid (hxx.below (bal brf (.cells #[.int .u64 ep, .int .u64 ro, .slice X xn xc] 43)))
  have HK := Lib.hid (hK.go (bal brf (.cells #[.int .u64 ep, .int .u64 ro, .slice X xn xc] 43)))
  clear hx hp hy hq hz hk hxx hn hm hl hs hxn he hr bN bb hK hmax
  go_enter Tryd.func13, Tryd.ntmps13
  go_wp2_with (first
    | (go_at_call 31; refine (live9_any _).mono ?_; rintro e w1 ⟨rfl, rfl⟩)
    | (go_at_call 37; refine (F1 _ HX.out HP.out).mono ?_; rintro e w2 ⟨rfl, rfl⟩))
  go_ret
  exact ⟨rfl, bal brf _⟩
theorem onionWraps_f2 (A B C S X : Option Addr) (n c m d p f sn sc xn xc : Nat) (ep ro : Nat) (z : Int) (vs us : List Value) (Ls Ns : List (List Int)) (body key xs : List Int) (w : World) (hn : Ls.length = n) (hm : Ns.length = m) (hl : body.length = p) (hs : key.length = sn) (hxn : xs.length = xn) (hpf : p ≤ f) (hnc : xn ≤ xc) (hx : Rd w A vs) (hp : Parts w vs Ls) (hy : Rd w B us) (hq : Parts w us Ns) (hz : Rd w C (nums .u8 body)) (hk : Rd w S (nums .u8 key)) (hxx : Rd w X (nums .i64 xs)) (he : ep < 18446744073709551616) (hr : ro < 18446744073709551616) (bN : ∀ xs ∈ Ns, Byt xs) (bb : Byt body) (hK : Konst w) (f1 : fewL Ls) (f2 : ¬ fewL Ns) (hmax : m ≤ maxLen) : Calls Tryd.prog 13 #[.slice A n c, .slice B m d, .slice C p f, .slice S sn sc, .agg #[.int .u64 ep, .int .u64 ro, .slice X xn xc], .int .i64 z] w (Yes w) := by
  have F1 := fun W h1 h2 => few_yes A n c vs Ls W hn h1 h2 f1
  have F2 := fun W h1 h2 => few_no B m d us Ns W hm h1 h2 f2 hmax
  have HX := Lib.hid (hx.below (bal brf (.cells #[.int .u64 ep, .int .u64 ro, .slice X xn xc] 43)))
  have HP := Lib.hid (hp.below (bal brf (.cells #[.int .u64 ep, .int .u64 ro, .slice X xn xc] 43)))
  have HY := Lib.hid (hy.below (bal brf (.cells #[.int .u64 ep, .int .u64 ro, .slice X xn xc] 43)))
  have HQ := Lib.hid (hq.below (bal brf (.cells #[.int .u64 ep, .int .u64 ro, .slice X xn xc] 43)))
  have HZ := Lib.hid (hz.below (bal brf (.cells #[.int .u64 ep, .int .u64 ro, .slice X xn xc] 43)))
  have HKY := Lib.hid (hk.below (bal brf (.cells #[.int .u64 ep, .int .u64 ro, .slice X xn xc] 43)))
  have HXX := Lib.hid (hxx.below (bal brf (.cells #[.int .u64 ep, .int .u64 ro, .slice X xn xc] 43)))
  have HK := Lib.hid (hK.go (bal brf (.cells #[.int .u64 ep, .int .u64 ro, .slice X xn xc] 43)))
  clear hx hp hy hq hz hk hxx hn hm hl hs hxn he hr bN bb hK hmax
  go_enter Tryd.func13, Tryd.ntmps13
  go_wp2_with (first
    | (go_at_call 31; refine (live9_any _).mono ?_; rintro e w1 ⟨rfl, rfl⟩)
    | (go_at_call 37; first | ((with_reducible refine (F1 _ HX.out HP.out).mono ?_); rintro e w2 ⟨rfl, rfl⟩) | ((with_reducible refine (F2 _ HY.out HQ.out).mono ?_); rintro e w2 ⟨rfl, rfl⟩)))
  go_ret
  exact ⟨rfl, bal brf _⟩
theorem onionWraps_e3 (A B C S X : Option Addr) (n c m d p f sn sc xn xc : Nat) (ep ro : Nat) (z : Int) (vs us : List Value) (Ls Ns : List (List Int)) (body key xs : List Int) (w : World) (hn : Ls.length = n) (hm : Ns.length = m) (hl : body.length = p) (hs : key.length = sn) (hxn : xs.length = xn) (hpf : p ≤ f) (hnc : xn ≤ xc) (hx : Rd w A vs) (hp : Parts w vs Ls) (hy : Rd w B us) (hq : Parts w us Ns) (hz : Rd w C (nums .u8 body)) (hk : Rd w S (nums .u8 key)) (hxx : Rd w X (nums .i64 xs)) (he : ep < 18446744073709551616) (hr : ro < 18446744073709551616) (bN : ∀ xs ∈ Ns, Byt xs) (bb : Byt body) (hK : Konst w) (f1 : fewL Ls) (f2 : fewL Ns) (h3 : 300 < p) : Calls Tryd.prog 13 #[.slice A n c, .slice B m d, .slice C p f, .slice S sn sc, .agg #[.int .u64 ep, .int .u64 ro, .slice X xn xc], .int .i64 z] w (Yes w) := by
  have q : (300 : Int) < p := by omega
  have F1 := fun W h1 h2 => few_yes A n c vs Ls W hn h1 h2 f1
  have F2 := fun W h1 h2 => few_yes B m d us Ns W hm h1 h2 f2
  have HX := Lib.hid (hx.below (bal brf (.cells #[.int .u64 ep, .int .u64 ro, .slice X xn xc] 43)))
  have HP := Lib.hid (hp.below (bal brf (.cells #[.int .u64 ep, .int .u64 ro, .slice X xn xc] 43)))
  have HY := Lib.hid (hy.below (bal brf (.cells #[.int .u64 ep, .int .u64 ro, .slice X xn xc] 43)))
  have HQ := Lib.hid (hq.below (bal brf (.cells #[.int .u64 ep, .int .u64 ro, .slice X xn xc] 43)))
  have HZ := Lib.hid (hz.below (bal brf (.cells #[.int .u64 ep, .int .u64 ro, .slice X xn xc] 43)))
  have HKY := Lib.hid (hk.below (bal brf (.cells #[.int .u64 ep, .int .u64 ro, .slice X xn xc] 43)))
  have HXX := Lib.hid (hxx.below (bal brf (.cells #[.int .u64 ep, .int .u64 ro, .slice X xn xc] 43)))
  have HK := Lib.hid (hK.go (bal brf (.cells #[.int .u64 ep, .int .u64 ro, .slice X xn xc] 43)))
  clear hx hp hy hq hz hk hxx hn hm hl hs hxn he hr bN bb hK
  go_enter Tryd.func13, Tryd.ntmps13
  go_wp2_with (first
    | (go_at_call 31; refine (live9_any _).mono ?_; rintro e w1 ⟨rfl, rfl⟩)
    | (go_at_call 37; first | ((with_reducible refine (F1 _ HX.out HP.out).mono ?_); rintro e w2 ⟨rfl, rfl⟩) | ((with_reducible refine (F2 _ HY.out HQ.out).mono ?_); rintro e w2 ⟨rfl, rfl⟩)))
  go_ret
  exact ⟨rfl, bal brf _⟩
theorem onionWraps_e4 (A B C S X : Option Addr) (n c m d p f sn sc xn xc : Nat) (ep ro : Nat) (z : Int) (vs us : List Value) (Ls Ns : List (List Int)) (body key xs : List Int) (w : World) (hn : Ls.length = n) (hm : Ns.length = m) (hl : body.length = p) (hs : key.length = sn) (hxn : xs.length = xn) (hpf : p ≤ f) (hnc : xn ≤ xc) (hx : Rd w A vs) (hp : Parts w vs Ls) (hy : Rd w B us) (hq : Parts w us Ns) (hz : Rd w C (nums .u8 body)) (hk : Rd w S (nums .u8 key)) (hxx : Rd w X (nums .i64 xs)) (he : ep < 18446744073709551616) (hr : ro < 18446744073709551616) (bN : ∀ xs ∈ Ns, Byt xs) (bb : Byt body) (hK : Konst w) (f1 : fewL Ls) (f2 : fewL Ns) (h3 : p ≤ 300) (h4 : 200 < sn) : Calls Tryd.prog 13 #[.slice A n c, .slice B m d, .slice C p f, .slice S sn sc, .agg #[.int .u64 ep, .int .u64 ro, .slice X xn xc], .int .i64 z] w (Yes w) := by
  have q : ¬ (300 : Int) < p := by omega
  have q2 : (200 : Int) < sn := by omega
  have F1 := fun W h1 h2 => few_yes A n c vs Ls W hn h1 h2 f1
  have F2 := fun W h1 h2 => few_yes B m d us Ns W hm h1 h2 f2
  have HX := Lib.hid (hx.below (bal brf (.cells #[.int .u64 ep, .int .u64 ro, .slice X xn xc] 43)))
  have HP := Lib.hid (hp.below (bal brf (.cells #[.int .u64 ep, .int .u64 ro, .slice X xn xc] 43)))
  have HY := Lib.hid (hy.below (bal brf (.cells #[.int .u64 ep, .int .u64 ro, .slice X xn xc] 43)))
  have HQ := Lib.hid (hq.below (bal brf (.cells #[.int .u64 ep, .int .u64 ro, .slice X xn xc] 43)))
  have HZ := Lib.hid (hz.below (bal brf (.cells #[.int .u64 ep, .int .u64 ro, .slice X xn xc] 43)))
  have HKY := Lib.hid (hk.below (bal brf (.cells #[.int .u64 ep, .int .u64 ro, .slice X xn xc] 43)))
  have HXX := Lib.hid (hxx.below (bal brf (.cells #[.int .u64 ep, .int .u64 ro, .slice X xn xc] 43)))
  have HK := Lib.hid (hK.go (bal brf (.cells #[.int .u64 ep, .int .u64 ro, .slice X xn xc] 43)))
  clear hx hp hy hq hz hk hxx hn hm hl hs hxn he hr bN bb hK
  go_enter Tryd.func13, Tryd.ntmps13
  go_wp2_with (first
    | (go_at_call 31; refine (live9_any _).mono ?_; rintro e w1 ⟨rfl, rfl⟩)
    | (go_at_call 37; first | ((with_reducible refine (F1 _ HX.out HP.out).mono ?_); rintro e w2 ⟨rfl, rfl⟩) | ((with_reducible refine (F2 _ HY.out HQ.out).mono ?_); rintro e w2 ⟨rfl, rfl⟩)))
  go_ret
  exact ⟨rfl, bal brf _⟩
theorem onionWraps_e5 (A B C S X : Option Addr) (n c m d p f sn sc xn xc : Nat) (ep ro : Nat) (z : Int) (vs us : List Value) (Ls Ns : List (List Int)) (body key xs : List Int) (w : World) (hn : Ls.length = n) (hm : Ns.length = m) (hl : body.length = p) (hs : key.length = sn) (hxn : xs.length = xn) (hpf : p ≤ f) (hnc : xn ≤ xc) (hx : Rd w A vs) (hp : Parts w vs Ls) (hy : Rd w B us) (hq : Parts w us Ns) (hz : Rd w C (nums .u8 body)) (hk : Rd w S (nums .u8 key)) (hxx : Rd w X (nums .i64 xs)) (he : ep < 18446744073709551616) (hr : ro < 18446744073709551616) (bN : ∀ xs ∈ Ns, Byt xs) (bb : Byt body) (hK : Konst w) (f1 : fewL Ls) (f2 : fewL Ns) (h3 : p ≤ 300) (h4 : sn ≤ 200) (h5 : 60 < xn) : Calls Tryd.prog 13 #[.slice A n c, .slice B m d, .slice C p f, .slice S sn sc, .agg #[.int .u64 ep, .int .u64 ro, .slice X xn xc], .int .i64 z] w (Yes w) := by
  have q : ¬ (300 : Int) < p := by omega
  have q2 : ¬ (200 : Int) < sn := by omega
  have q3 : (60 : Int) < xn := by omega
  have F1 := fun W h1 h2 => few_yes A n c vs Ls W hn h1 h2 f1
  have F2 := fun W h1 h2 => few_yes B m d us Ns W hm h1 h2 f2
  have HX := Lib.hid (hx.below (bal brf (.cells #[.int .u64 ep, .int .u64 ro, .slice X xn xc] 43)))
  have HP := Lib.hid (hp.below (bal brf (.cells #[.int .u64 ep, .int .u64 ro, .slice X xn xc] 43)))
  have HY := Lib.hid (hy.below (bal brf (.cells #[.int .u64 ep, .int .u64 ro, .slice X xn xc] 43)))
  have HQ := Lib.hid (hq.below (bal brf (.cells #[.int .u64 ep, .int .u64 ro, .slice X xn xc] 43)))
  have HZ := Lib.hid (hz.below (bal brf (.cells #[.int .u64 ep, .int .u64 ro, .slice X xn xc] 43)))
  have HKY := Lib.hid (hk.below (bal brf (.cells #[.int .u64 ep, .int .u64 ro, .slice X xn xc] 43)))
  have HXX := Lib.hid (hxx.below (bal brf (.cells #[.int .u64 ep, .int .u64 ro, .slice X xn xc] 43)))
  have HK := Lib.hid (hK.go (bal brf (.cells #[.int .u64 ep, .int .u64 ro, .slice X xn xc] 43)))
  clear hx hp hy hq hz hk hxx hn hm hl hs hxn he hr bN bb hK
  go_enter Tryd.func13, Tryd.ntmps13
  go_wp2_with (first
    | (go_at_call 31; refine (live9_any _).mono ?_; rintro e w1 ⟨rfl, rfl⟩)
    | (go_at_call 37; first | ((with_reducible refine (F1 _ HX.out HP.out).mono ?_); rintro e w2 ⟨rfl, rfl⟩) | ((with_reducible refine (F2 _ HY.out HQ.out).mono ?_); rintro e w2 ⟨rfl, rfl⟩)))
  go_ret
  exact ⟨rfl, bal brf _⟩
set_option maxHeartbeats 2000000 in
theorem onionWraps_yy (A B C S X : Option Addr) (n c d f sn sc xn xc : Nat) (ep ro : Nat) (z : Int) (vs us : List Value) (Ls Ns : List (List Int)) (body key xs : List Int) (w : World) (hn : Ls.length = n) (hm : Ns.length = n) (hl : body.length = 78) (hs : key.length = sn) (hxn : xs.length = xn) (hpf : 78 ≤ f) (hnc : xn ≤ xc) (hx : Rd w A vs) (hp : Parts w vs Ls) (hy : Rd w B us) (hq : Parts w us Ns) (hz : Rd w C (nums .u8 body)) (hk : Rd w S (nums .u8 key)) (hxx : Rd w X (nums .i64 xs)) (he : ep < 18446744073709551616) (hr : ro < 18446744073709551616) (bN : ∀ xs ∈ Ns, Byt xs) (bb : Byt body) (hK : Konst w) (f1 : fewL Ls) (f2 : fewL Ns) (h4 : sn ≤ 200) (h5 : xn ≤ 60) (h : mayWr Ls Ns body) (hg : goodSt xs) : Calls Tryd.prog 13 #[.slice A n c, .slice B n d, .slice C 78 f, .slice S sn sc, .agg #[.int .u64 ep, .int .u64 ro, .slice X xn xc], .int .i64 z] w (Yes w) := by
  have q : ¬ (300 : Int) < 78 := by omega
  have q2 : ¬ (200 : Int) < sn := by omega
  have q3 : ¬ (60 : Int) < xn := by omega
  have HBX0 := Lib.hid (show Below w.heap.size w (w.alloc (.cells #[.int .u64 ep, .int .u64 ro, .slice X xn xc] 43)) from bal brf _)
  have F1 := fun W h1 h2 => few_yes A n c vs Ls W hn h1 h2 f1
  have F2 := fun W h1 h2 => few_yes B n d us Ns W hm h1 h2 f2
  have CA := fun W h1 h2 h3 h4 h5 hK => wrap_yes A B C n c d f vs us Ls Ns body W hn h (fun i hi => by have := f1.1 i (by omega); omega) hpf h1 h2 h3 h4 h5 hK
  have CB := fun W h1 h2 h3 h4 h5 => rwrap_yes A B C n c d f vs us Ls Ns body W hn h (fun i hi => by have := f1.1 i (by omega); omega) hpf h1 h2 h3 h4 h5
  have hwl : (wrapL Ls Ns body).length = 78 + 48 * n := by rw [wrapL_len Ls Ns body h.2.2.1 h.2.2.2.1, hl, hn]
  have hwb : Byt (wrapL Ls Ns body) := wrapL_byt Ls Ns body bN bb
  obtain ⟨ww, hww⟩ : ∃ ww, ww = wrapL Ls Ns body := ⟨_, rfl⟩
  rw [← hww] at CA CB hwl hwb
  obtain ⟨M, hM⟩ : ∃ M, M = 78 + 48 * n := ⟨_, rfl⟩
  rw [← hM] at hwl
  have S1 := fun A1 A2 c1 c2 W h1 h2 => same_true A1 A2 M c1 M c2 ww ww W rfl hwl hwl h1 h2 hwb
  have HWL := Lib.hid hwl
  have x8 : xn ≤ 8 := by rw [← hxn]; exact hg.2.1
  have CN := fun W h1 h2 hK => nons_any S sn sc ep ro X xn xc key xs W hs (by omega) hxn h1 h2 hg he hr hK
  have CO := fun W h1 h2 => rnons_any S sn sc ep ro X xn xc key xs W hs (by omega) hxn hnc h1 h2 hg he hr
  have hby : ∀ i, i < xn → Byt ((nonsL key (stB ep ro xs) xn).getD i []) := fun i hi => by rw [nonsL_at hi]; exact nonK_byt _ _ _
  have hnl : (nonsL key (stB ep ro xs) xn).length = xn := nonsL_len _ _ _
  obtain ⟨NL, hNL⟩ : ∃ NL, NL = nonsL key (stB ep ro xs) xn := ⟨_, rfl⟩
  rw [← hNL] at CN CO hby hnl
  have CS := fun A1 A2 c1 c2 v1 v2 W h1 h2 h3 h4 => sameParts_true A1 A2 xn c1 c2 v1 v2 NL W hnl (by omega) h1 h2 h3 h4 hby
  obtain ⟨LZ, hLZ⟩ : ∃ LZ, LZ = lenO z := ⟨_, rfl⟩
  have CL := fun W => olen_any z W
  have CM := fun W => rolen_any z W
  rw [← hLZ] at CL CM
  have HBOX := Lib.hid (stBox_new w ep ro (.slice X xn xc) 43)
  have HX := Lib.hid (hx.below (bal brf (.cells #[.int .u64 ep, .int .u64 ro, .slice X xn xc] 43)))
  have HP := Lib.hid (hp.below (bal brf (.cells #[.int .u64 ep, .int .u64 ro, .slice X xn xc] 43)))
  have HY := Lib.hid (hy.below (bal brf (.cells #[.int .u64 ep, .int .u64 ro, .slice X xn xc] 43)))
  have HQ := Lib.hid (hq.below (bal brf (.cells #[.int .u64 ep, .int .u64 ro, .slice X xn xc] 43)))
  have HZ := Lib.hid (hz.below (bal brf (.cells #[.int .u64 ep, .int .u64 ro, .slice X xn xc] 43)))
  have HKY := Lib.hid (hk.below (bal brf (.cells #[.int .u64 ep, .int .u64 ro, .slice X xn xc] 43)))
  have HXX := Lib.hid (hxx.below (bal brf (.cells #[.int .u64 ep, .int .u64 ro, .slice X xn xc] 43)))
  have HK := Lib.hid (hK.go (bal brf (.cells #[.int .u64 ep, .int .u64 ro, .slice X xn xc] 43)))
  clear hx hp hy hq hz hk hxx hn hm hl hs hxn he hr bN bb hK f1 f2 h hg hLZ hwl hwb hww hM hby hnl hNL
  go_enter Tryd.func13, Tryd.ntmps13
  go_wp2_with (first
    | (go_at_call 31; refine (live9_any _).mono ?_; rintro e w1 ⟨rfl, rfl⟩)
    | (go_at_call 37; first | ((with_reducible refine (F1 _ HX.out HP.out).mono ?_); rintro e w2 ⟨rfl, rfl⟩) | ((with_reducible refine (F2 _ HY.out HQ.out).mono ?_); rintro e w2 ⟨rfl, rfl⟩))
    | (go_at_call 38; refine (CA _ HX.out HP.out HY.out HQ.out HZ.out HK.out).mono ?_; rintro e w3 ⟨A3, c3, he, hc3, hr3, hb3⟩; rw [HWL.out] at he; subst he; have HRa := Lib.hid hr3; have HB := hb3; have HBOX := Lib.hid (HBOX.out.below hb3); obtain ⟨s3, k30, k31, k32⟩ := HBOX.out; clear hr3)
    | (go_at_call 40; refine (CB _ (HX.out.below HB) (HP.out.below HB) (HY.out.below HB) (HQ.out.below HB) (HZ.out.below HB)).mono ?_; rintro e w4 ⟨A4, c4, he, hc4, hr4, hb4⟩; rw [HWL.out] at he; subst he; (try have HRa := Lib.hid (HRa.out.below hb4)); (try have HRb := Lib.hid (HRb.out.below hb4)); (try have HRx := Lib.hid (HRx.out.below hb4)); (try have HPx := Lib.hid (HPx.out.below hb4)); (try have HRy := Lib.hid (HRy.out.below hb4)); (try have HPy := Lib.hid (HPy.out.below hb4)); have HRb := Lib.hid hr4; have HB := bgo HB hb4; have HBOX := Lib.hid (HBOX.out.below hb4); obtain ⟨s4, k40, k41, k42⟩ := HBOX.out; clear hr4)
    | (go_at_call 32; refine (CN _ (HKY.out.below HB) (HXX.out.below HB) (HK.out.go HB)).mono ?_; rintro e w5 ⟨A5, c5, v5, rfl, hc5, hr5, hp5, hb5⟩; (try have HRa := Lib.hid (HRa.out.below hb5)); (try have HRb := Lib.hid (HRb.out.below hb5)); (try have HRx := Lib.hid (HRx.out.below hb5)); (try have HPx := Lib.hid (HPx.out.below hb5)); (try have HRy := Lib.hid (HRy.out.below hb5)); (try have HPy := Lib.hid (HPy.out.below hb5)); have HRx := Lib.hid hr5; have HPx := Lib.hid hp5.weak; have HB := bgo HB hb5; have HBOX := Lib.hid (HBOX.out.below hb5); obtain ⟨s5, k50, k51, k52⟩ := HBOX.out; clear hr5 hp5)
    | (go_at_call 41; refine (CO _ (HKY.out.below HB) (HXX.out.below HB)).mono ?_; rintro e w6 ⟨A6, c6, v6, rfl, hr6, hp6, hb6⟩; (try have HRa := Lib.hid (HRa.out.below hb6)); (try have HRb := Lib.hid (HRb.out.below hb6)); (try have HRx := Lib.hid (HRx.out.below hb6)); (try have HPx := Lib.hid (HPx.out.below hb6)); (try have HRy := Lib.hid (HRy.out.below hb6)); (try have HPy := Lib.hid (HPy.out.below hb6)); have HRy := Lib.hid hr6; have HPy := Lib.hid hp6; have HB := bgo HB hb6; clear hr6 hp6)
    | (go_at_call 42; refine (CS _ _ _ _ _ _ _ HRx.out HPx.out HRy.out HPy.out).mono ?_; rintro e w8 ⟨rfl, hb8⟩; have HB := bgo HB hb8)
    | (go_at_call 16; refine (S1 _ _ _ _ _ HRa.out HRb.out).mono ?_; rintro e w7 ⟨rfl, rfl⟩)
    | (go_at_call 39; refine (CL _).mono ?_; rintro e w9 ⟨rfl, rfl⟩)
    | (go_at_call 43; refine (CM _).mono ?_; rintro e w9 ⟨rfl, rfl⟩))
  go_ret
  exact ⟨by simp, bgo HBX0.out HB⟩

set_option maxHeartbeats 2000000 in
theorem onionWraps_yn (A B C S X : Option Addr) (n c d f sn sc xn xc : Nat) (ep ro : Nat) (z : Int) (vs us : List Value) (Ls Ns : List (List Int)) (body key xs : List Int) (w : World) (hn : Ls.length = n) (hm : Ns.length = n) (hl : body.length = 78) (hs : key.length = sn) (hxn : xs.length = xn) (hpf : 78 ≤ f) (hnc : xn ≤ xc) (hx : Rd w A vs) (hp : Parts w vs Ls) (hy : Rd w B us) (hq : Parts w us Ns) (hz : Rd w C (nums .u8 body)) (hk : Rd w S (nums .u8 key)) (hxx : Rd w X (nums .i64 xs)) (he : ep < 18446744073709551616) (hr : ro < 18446744073709551616) (bN : ∀ xs ∈ Ns, Byt xs) (bb : Byt body) (hK : Konst w) (f1 : fewL Ls) (f2 : fewL Ns) (h4 : sn ≤ 200) (h5 : xn ≤ 60) (h : mayWr Ls Ns body) (hg : ¬ goodSt xs) : Calls Tryd.prog 13 #[.slice A n c, .slice B n d, .slice C 78 f, .slice S sn sc, .agg #[.int .u64 ep, .int .u64 ro, .slice X xn xc], .int .i64 z] w (Yes w) := by
  have q : ¬ (300 : Int) < 78 := by omega
  have q2 : ¬ (200 : Int) < sn := by omega
  have q3 : ¬ (60 : Int) < xn := by omega
  have HBX0 := Lib.hid (show Below w.heap.size w (w.alloc (.cells #[.int .u64 ep, .int .u64 ro, .slice X xn xc] 43)) from bal brf _)
  have F1 := fun W h1 h2 => few_yes A n c vs Ls W hn h1 h2 f1
  have F2 := fun W h1 h2 => few_yes B n d us Ns W hm h1 h2 f2
  have CA := fun W h1 h2 h3 h4 h5 hK => wrap_yes A B C n c d f vs us Ls Ns body W hn h (fun i hi => by have := f1.1 i (by omega); omega) hpf h1 h2 h3 h4 h5 hK
  have CB := fun W h1 h2 h3 h4 h5 => rwrap_yes A B C n c d f vs us Ls Ns body W hn h (fun i hi => by have := f1.1 i (by omega); omega) hpf h1 h2 h3 h4 h5
  have hwl : (wrapL Ls Ns body).length = 78 + 48 * n := by rw [wrapL_len Ls Ns body h.2.2.1 h.2.2.2.1, hl, hn]
  have hwb : Byt (wrapL Ls Ns body) := wrapL_byt Ls Ns body bN bb
  obtain ⟨ww, hww⟩ : ∃ ww, ww = wrapL Ls Ns body := ⟨_, rfl⟩
  rw [← hww] at CA CB hwl hwb
  obtain ⟨M, hM⟩ : ∃ M, M = 78 + 48 * n := ⟨_, rfl⟩
  rw [← hM] at hwl
  have S1 := fun A1 A2 c1 c2 W h1 h2 => same_true A1 A2 M c1 M c2 ww ww W rfl hwl hwl h1 h2 hwb
  have HWL := Lib.hid hwl
  have CN := fun W h1 => nons_bad S sn sc ep ro X xn xc xs W hxn h1 hg
  have CO := fun W h1 => rnons_bad S sn sc ep ro X xn xc xs W hxn hnc h1 hg
  have CS := fun W => sameParts_true none none 0 0 0 [] [] [] W rfl (by omega) (.inl rfl) ⟨rfl, fun i hi => by simp at hi⟩ (.inl rfl) ⟨rfl, fun i hi => by simp at hi⟩ (fun i hi => by omega)
  obtain ⟨LZ, hLZ⟩ : ∃ LZ, LZ = lenO z := ⟨_, rfl⟩
  have CL := fun W => olen_any z W
  have CM := fun W => rolen_any z W
  rw [← hLZ] at CL CM
  have HBOX := Lib.hid (stBox_new w ep ro (.slice X xn xc) 43)
  have HX := Lib.hid (hx.below (bal brf (.cells #[.int .u64 ep, .int .u64 ro, .slice X xn xc] 43)))
  have HP := Lib.hid (hp.below (bal brf (.cells #[.int .u64 ep, .int .u64 ro, .slice X xn xc] 43)))
  have HY := Lib.hid (hy.below (bal brf (.cells #[.int .u64 ep, .int .u64 ro, .slice X xn xc] 43)))
  have HQ := Lib.hid (hq.below (bal brf (.cells #[.int .u64 ep, .int .u64 ro, .slice X xn xc] 43)))
  have HZ := Lib.hid (hz.below (bal brf (.cells #[.int .u64 ep, .int .u64 ro, .slice X xn xc] 43)))
  have HKY := Lib.hid (hk.below (bal brf (.cells #[.int .u64 ep, .int .u64 ro, .slice X xn xc] 43)))
  have HXX := Lib.hid (hxx.below (bal brf (.cells #[.int .u64 ep, .int .u64 ro, .slice X xn xc] 43)))
  have HK := Lib.hid (hK.go (bal brf (.cells #[.int .u64 ep, .int .u64 ro, .slice X xn xc] 43)))
  clear hx hp hy hq hz hk hxx hn hm hl hs hxn he hr bN bb hK f1 f2 h hg hLZ hwl hwb hww hM
  go_enter Tryd.func13, Tryd.ntmps13
  go_wp2_with (first
    | (go_at_call 31; refine (live9_any _).mono ?_; rintro e w1 ⟨rfl, rfl⟩)
    | (go_at_call 37; first | ((with_reducible refine (F1 _ HX.out HP.out).mono ?_); rintro e w2 ⟨rfl, rfl⟩) | ((with_reducible refine (F2 _ HY.out HQ.out).mono ?_); rintro e w2 ⟨rfl, rfl⟩))
    | (go_at_call 38; refine (CA _ HX.out HP.out HY.out HQ.out HZ.out HK.out).mono ?_; rintro e w3 ⟨A3, c3, he, hc3, hr3, hb3⟩; rw [HWL.out] at he; subst he; have HRa := Lib.hid hr3; have HB := hb3; have HBOX := Lib.hid (HBOX.out.below hb3); obtain ⟨s3, k30, k31, k32⟩ := HBOX.out; clear hr3)
    | (go_at_call 40; refine (CB _ (HX.out.below HB) (HP.out.below HB) (HY.out.below HB) (HQ.out.below HB) (HZ.out.below HB)).mono ?_; rintro e w4 ⟨A4, c4, he, hc4, hr4, hb4⟩; rw [HWL.out] at he; subst he; (try have HRa := Lib.hid (HRa.out.below hb4)); (try have HRb := Lib.hid (HRb.out.below hb4)); (try have HRx := Lib.hid (HRx.out.below hb4)); (try have HPx := Lib.hid (HPx.out.below hb4)); (try have HRy := Lib.hid (HRy.out.below hb4)); (try have HPy := Lib.hid (HPy.out.below hb4)); have HRb := Lib.hid hr4; have HB := bgo HB hb4; have HBOX := Lib.hid (HBOX.out.below hb4); obtain ⟨s4, k40, k41, k42⟩ := HBOX.out; clear hr4)
    | (go_at_call 32; refine (CN _ (HXX.out.below HB)).mono ?_; rintro e w5 ⟨rfl, hb5⟩; (try have HRa := Lib.hid (HRa.out.below hb5)); (try have HRb := Lib.hid (HRb.out.below hb5)); (try have HRx := Lib.hid (HRx.out.below hb5)); (try have HPx := Lib.hid (HPx.out.below hb5)); (try have HRy := Lib.hid (HRy.out.below hb5)); (try have HPy := Lib.hid (HPy.out.below hb5)); have HB := bgo HB hb5; have HBOX := Lib.hid (HBOX.out.below hb5); obtain ⟨s5, k50, k51, k52⟩ := HBOX.out)
    | (go_at_call 41; refine (CO _ (HXX.out.below HB)).mono ?_; rintro e w6 ⟨rfl, hb6⟩; (try have HRa := Lib.hid (HRa.out.below hb6)); (try have HRb := Lib.hid (HRb.out.below hb6)); (try have HRx := Lib.hid (HRx.out.below hb6)); (try have HPx := Lib.hid (HPx.out.below hb6)); (try have HRy := Lib.hid (HRy.out.below hb6)); (try have HPy := Lib.hid (HPy.out.below hb6)); have HB := bgo HB hb6)
    | (go_at_call 42; refine (CS _).mono ?_; rintro e w8 ⟨rfl, hb8⟩; have HB := bgo HB hb8)
    | (go_at_call 16; refine (S1 _ _ _ _ _ HRa.out HRb.out).mono ?_; rintro e w7 ⟨rfl, rfl⟩)
    | (go_at_call 39; refine (CL _).mono ?_; rintro e w9 ⟨rfl, rfl⟩)
    | (go_at_call 43; refine (CM _).mono ?_; rintro e w9 ⟨rfl, rfl⟩))
  go_ret
  exact ⟨by simp, bgo HBX0.out HB⟩

set_option maxHeartbeats 2000000 in
theorem onionWraps_ny (A B C S X : Option Addr) (n c m d p f sn sc xn xc : Nat) (ep ro : Nat) (z : Int) (vs us : List Value) (Ls Ns : List (List Int)) (body key xs : List Int) (w : World) (hn : Ls.length = n) (hm : Ns.length = m) (hl : body.length = p) (hs : key.length = sn) (hxn : xs.length = xn) (hpf : p ≤ f) (hnc : xn ≤ xc) (hx : Rd w A vs) (hp : Parts w vs Ls) (hy : Rd w B us) (hq : Parts w us Ns) (hz : Rd w C (nums .u8 body)) (hk : Rd w S (nums .u8 key)) (hxx : Rd w X (nums .i64 xs)) (he : ep < 18446744073709551616) (hr : ro < 18446744073709551616) (bN : ∀ xs ∈ Ns, Byt xs) (bb : Byt body) (hK : Konst w) (f1 : fewL Ls) (f2 : fewL Ns) (h3 : p ≤ 300) (h4 : sn ≤ 200) (h5 : xn ≤ 60) (h : ¬ mayWr Ls Ns body) (hg : goodSt xs) : Calls Tryd.prog 13 #[.slice A n c, .slice B m d, .slice C p f, .slice S sn sc, .agg #[.int .u64 ep, .int .u64 ro, .slice X xn xc], .int .i64 z] w (Yes w) := by
  have q : ¬ (300 : Int) < p := by omega
  have q2 : ¬ (200 : Int) < sn := by omega
  have q3 : ¬ (60 : Int) < xn := by omega
  have HBX0 := Lib.hid (show Below w.heap.size w (w.alloc (.cells #[.int .u64 ep, .int .u64 ro, .slice X xn xc] 43)) from bal brf _)
  have F1 := fun W h1 h2 => few_yes A n c vs Ls W hn h1 h2 f1
  have F2 := fun W h1 h2 => few_yes B m d us Ns W hm h1 h2 f2
  have CA := fun W h1 h2 => wrap_no A B C n c m d p f vs us Ls Ns body W hn hm hl h1 h2 h (fun i hi => by have := f2.1 i (by omega); omega)
  have CB := fun W h1 h2 => rwrap_no A B C n c m d p f us Ls Ns body W hn hm hl h1 h2 h (fun i hi => by have := f2.1 i (by omega); omega)
  have S0 := fun W => same_true none none 0 0 0 0 [] [] W rfl rfl rfl (.inl rfl) (.inl rfl) (fun x hx => by cases hx)
  have x8 : xn ≤ 8 := by rw [← hxn]; exact hg.2.1
  have CN := fun W h1 h2 hK => nons_any S sn sc ep ro X xn xc key xs W hs (by omega) hxn h1 h2 hg he hr hK
  have CO := fun W h1 h2 => rnons_any S sn sc ep ro X xn xc key xs W hs (by omega) hxn hnc h1 h2 hg he hr
  have hby : ∀ i, i < xn → Byt ((nonsL key (stB ep ro xs) xn).getD i []) := fun i hi => by rw [nonsL_at hi]; exact nonK_byt _ _ _
  have hnl : (nonsL key (stB ep ro xs) xn).length = xn := nonsL_len _ _ _
  obtain ⟨NL, hNL⟩ : ∃ NL, NL = nonsL key (stB ep ro xs) xn := ⟨_, rfl⟩
  rw [← hNL] at CN CO hby hnl
  have CS := fun A1 A2 c1 c2 v1 v2 W h1 h2 h3 h4 => sameParts_true A1 A2 xn c1 c2 v1 v2 NL W hnl (by omega) h1 h2 h3 h4 hby
  obtain ⟨LZ, hLZ⟩ : ∃ LZ, LZ = lenO z := ⟨_, rfl⟩
  have CL := fun W => olen_any z W
  have CM := fun W => rolen_any z W
  rw [← hLZ] at CL CM
  have HBOX := Lib.hid (stBox_new w ep ro (.slice X xn xc) 43)
  have HX := Lib.hid (hx.below (bal brf (.cells #[.int .u64 ep, .int .u64 ro, .slice X xn xc] 43)))
  have HP := Lib.hid (hp.below (bal brf (.cells #[.int .u64 ep, .int .u64 ro, .slice X xn xc] 43)))
  have HY := Lib.hid (hy.below (bal brf (.cells #[.int .u64 ep, .int .u64 ro, .slice X xn xc] 43)))
  have HQ := Lib.hid (hq.below (bal brf (.cells #[.int .u64 ep, .int .u64 ro, .slice X xn xc] 43)))
  have HZ := Lib.hid (hz.below (bal brf (.cells #[.int .u64 ep, .int .u64 ro, .slice X xn xc] 43)))
  have HKY := Lib.hid (hk.below (bal brf (.cells #[.int .u64 ep, .int .u64 ro, .slice X xn xc] 43)))
  have HXX := Lib.hid (hxx.below (bal brf (.cells #[.int .u64 ep, .int .u64 ro, .slice X xn xc] 43)))
  have HK := Lib.hid (hK.go (bal brf (.cells #[.int .u64 ep, .int .u64 ro, .slice X xn xc] 43)))
  clear hx hp hy hq hz hk hxx hn hm hl hs hxn he hr bN bb hK f1 f2 h hg hLZ hby hnl hNL
  go_enter Tryd.func13, Tryd.ntmps13
  go_wp2_with (first
    | (go_at_call 31; refine (live9_any _).mono ?_; rintro e w1 ⟨rfl, rfl⟩)
    | (go_at_call 37; first | ((with_reducible refine (F1 _ HX.out HP.out).mono ?_); rintro e w2 ⟨rfl, rfl⟩) | ((with_reducible refine (F2 _ HY.out HQ.out).mono ?_); rintro e w2 ⟨rfl, rfl⟩))
    | (go_at_call 38; refine (CA _ HY.out HQ.out).mono ?_; rintro e w3 ⟨rfl, hb3⟩; have HB := hb3; have HBOX := Lib.hid (HBOX.out.below hb3); obtain ⟨s3, k30, k31, k32⟩ := HBOX.out)
    | (go_at_call 40; refine (CB _ (HY.out.below HB) (HQ.out.below HB)).mono ?_; rintro e w4 ⟨rfl, hb4⟩; have HB := bgo HB hb4; have HBOX := Lib.hid (HBOX.out.below hb4); obtain ⟨s4, k40, k41, k42⟩ := HBOX.out)
    | (go_at_call 32; refine (CN _ (HKY.out.below HB) (HXX.out.below HB) (HK.out.go HB)).mono ?_; rintro e w5 ⟨A5, c5, v5, rfl, hc5, hr5, hp5, hb5⟩; (try have HRa := Lib.hid (HRa.out.below hb5)); (try have HRb := Lib.hid (HRb.out.below hb5)); (try have HRx := Lib.hid (HRx.out.below hb5)); (try have HPx := Lib.hid (HPx.out.below hb5)); (try have HRy := Lib.hid (HRy.out.below hb5)); (try have HPy := Lib.hid (HPy.out.below hb5)); have HRx := Lib.hid hr5; have HPx := Lib.hid hp5.weak; have HB := bgo HB hb5; have HBOX := Lib.hid (HBOX.out.below hb5); obtain ⟨s5, k50, k51, k52⟩ := HBOX.out; clear hr5 hp5)
    | (go_at_call 41; refine (CO _ (HKY.out.below HB) (HXX.out.below HB)).mono ?_; rintro e w6 ⟨A6, c6, v6, rfl, hr6, hp6, hb6⟩; (try have HRa := Lib.hid (HRa.out.below hb6)); (try have HRb := Lib.hid (HRb.out.below hb6)); (try have HRx := Lib.hid (HRx.out.below hb6)); (try have HPx := Lib.hid (HPx.out.below hb6)); (try have HRy := Lib.hid (HRy.out.below hb6)); (try have HPy := Lib.hid (HPy.out.below hb6)); have HRy := Lib.hid hr6; have HPy := Lib.hid hp6; have HB := bgo HB hb6; clear hr6 hp6)
    | (go_at_call 42; refine (CS _ _ _ _ _ _ _ HRx.out HPx.out HRy.out HPy.out).mono ?_; rintro e w8 ⟨rfl, hb8⟩; have HB := bgo HB hb8)
    | (go_at_call 16; refine (S0 _).mono ?_; rintro e w7 ⟨rfl, rfl⟩)
    | (go_at_call 39; refine (CL _).mono ?_; rintro e w9 ⟨rfl, rfl⟩)
    | (go_at_call 43; refine (CM _).mono ?_; rintro e w9 ⟨rfl, rfl⟩))
  go_ret
  exact ⟨by simp, bgo HBX0.out HB⟩

set_option maxHeartbeats 2000000 in
theorem onionWraps_nn (A B C S X : Option Addr) (n c m d p f sn sc xn xc : Nat) (ep ro : Nat) (z : Int) (vs us : List Value) (Ls Ns : List (List Int)) (body key xs : List Int) (w : World) (hn : Ls.length = n) (hm : Ns.length = m) (hl : body.length = p) (hs : key.length = sn) (hxn : xs.length = xn) (hpf : p ≤ f) (hnc : xn ≤ xc) (hx : Rd w A vs) (hp : Parts w vs Ls) (hy : Rd w B us) (hq : Parts w us Ns) (hz : Rd w C (nums .u8 body)) (hk : Rd w S (nums .u8 key)) (hxx : Rd w X (nums .i64 xs)) (he : ep < 18446744073709551616) (hr : ro < 18446744073709551616) (bN : ∀ xs ∈ Ns, Byt xs) (bb : Byt body) (hK : Konst w) (f1 : fewL Ls) (f2 : fewL Ns) (h3 : p ≤ 300) (h4 : sn ≤ 200) (h5 : xn ≤ 60) (h : ¬ mayWr Ls Ns body) (hg : ¬ goodSt xs) : Calls Tryd.prog 13 #[.slice A n c, .slice B m d, .slice C p f, .slice S sn sc, .agg #[.int .u64 ep, .int .u64 ro, .slice X xn xc], .int .i64 z] w (Yes w) := by
  have q : ¬ (300 : Int) < p := by omega
  have q2 : ¬ (200 : Int) < sn := by omega
  have q3 : ¬ (60 : Int) < xn := by omega
  have HBX0 := Lib.hid (show Below w.heap.size w (w.alloc (.cells #[.int .u64 ep, .int .u64 ro, .slice X xn xc] 43)) from bal brf _)
  have F1 := fun W h1 h2 => few_yes A n c vs Ls W hn h1 h2 f1
  have F2 := fun W h1 h2 => few_yes B m d us Ns W hm h1 h2 f2
  have CA := fun W h1 h2 => wrap_no A B C n c m d p f vs us Ls Ns body W hn hm hl h1 h2 h (fun i hi => by have := f2.1 i (by omega); omega)
  have CB := fun W h1 h2 => rwrap_no A B C n c m d p f us Ls Ns body W hn hm hl h1 h2 h (fun i hi => by have := f2.1 i (by omega); omega)
  have S0 := fun W => same_true none none 0 0 0 0 [] [] W rfl rfl rfl (.inl rfl) (.inl rfl) (fun x hx => by cases hx)
  have CN := fun W h1 => nons_bad S sn sc ep ro X xn xc xs W hxn h1 hg
  have CO := fun W h1 => rnons_bad S sn sc ep ro X xn xc xs W hxn hnc h1 hg
  have CS := fun W => sameParts_true none none 0 0 0 [] [] [] W rfl (by omega) (.inl rfl) ⟨rfl, fun i hi => by simp at hi⟩ (.inl rfl) ⟨rfl, fun i hi => by simp at hi⟩ (fun i hi => by omega)
  obtain ⟨LZ, hLZ⟩ : ∃ LZ, LZ = lenO z := ⟨_, rfl⟩
  have CL := fun W => olen_any z W
  have CM := fun W => rolen_any z W
  rw [← hLZ] at CL CM
  have HBOX := Lib.hid (stBox_new w ep ro (.slice X xn xc) 43)
  have HX := Lib.hid (hx.below (bal brf (.cells #[.int .u64 ep, .int .u64 ro, .slice X xn xc] 43)))
  have HP := Lib.hid (hp.below (bal brf (.cells #[.int .u64 ep, .int .u64 ro, .slice X xn xc] 43)))
  have HY := Lib.hid (hy.below (bal brf (.cells #[.int .u64 ep, .int .u64 ro, .slice X xn xc] 43)))
  have HQ := Lib.hid (hq.below (bal brf (.cells #[.int .u64 ep, .int .u64 ro, .slice X xn xc] 43)))
  have HZ := Lib.hid (hz.below (bal brf (.cells #[.int .u64 ep, .int .u64 ro, .slice X xn xc] 43)))
  have HKY := Lib.hid (hk.below (bal brf (.cells #[.int .u64 ep, .int .u64 ro, .slice X xn xc] 43)))
  have HXX := Lib.hid (hxx.below (bal brf (.cells #[.int .u64 ep, .int .u64 ro, .slice X xn xc] 43)))
  have HK := Lib.hid (hK.go (bal brf (.cells #[.int .u64 ep, .int .u64 ro, .slice X xn xc] 43)))
  clear hx hp hy hq hz hk hxx hn hm hl hs hxn he hr bN bb hK f1 f2 h hg hLZ
  go_enter Tryd.func13, Tryd.ntmps13
  go_wp2_with (first
    | (go_at_call 31; refine (live9_any _).mono ?_; rintro e w1 ⟨rfl, rfl⟩)
    | (go_at_call 37; first | ((with_reducible refine (F1 _ HX.out HP.out).mono ?_); rintro e w2 ⟨rfl, rfl⟩) | ((with_reducible refine (F2 _ HY.out HQ.out).mono ?_); rintro e w2 ⟨rfl, rfl⟩))
    | (go_at_call 38; refine (CA _ HY.out HQ.out).mono ?_; rintro e w3 ⟨rfl, hb3⟩; have HB := hb3; have HBOX := Lib.hid (HBOX.out.below hb3); obtain ⟨s3, k30, k31, k32⟩ := HBOX.out)
    | (go_at_call 40; refine (CB _ (HY.out.below HB) (HQ.out.below HB)).mono ?_; rintro e w4 ⟨rfl, hb4⟩; have HB := bgo HB hb4; have HBOX := Lib.hid (HBOX.out.below hb4); obtain ⟨s4, k40, k41, k42⟩ := HBOX.out)
    | (go_at_call 32; refine (CN _ (HXX.out.below HB)).mono ?_; rintro e w5 ⟨rfl, hb5⟩; (try have HRa := Lib.hid (HRa.out.below hb5)); (try have HRb := Lib.hid (HRb.out.below hb5)); (try have HRx := Lib.hid (HRx.out.below hb5)); (try have HPx := Lib.hid (HPx.out.below hb5)); (try have HRy := Lib.hid (HRy.out.below hb5)); (try have HPy := Lib.hid (HPy.out.below hb5)); have HB := bgo HB hb5; have HBOX := Lib.hid (HBOX.out.below hb5); obtain ⟨s5, k50, k51, k52⟩ := HBOX.out)
    | (go_at_call 41; refine (CO _ (HXX.out.below HB)).mono ?_; rintro e w6 ⟨rfl, hb6⟩; (try have HRa := Lib.hid (HRa.out.below hb6)); (try have HRb := Lib.hid (HRb.out.below hb6)); (try have HRx := Lib.hid (HRx.out.below hb6)); (try have HPx := Lib.hid (HPx.out.below hb6)); (try have HRy := Lib.hid (HRy.out.below hb6)); (try have HPy := Lib.hid (HPy.out.below hb6)); have HB := bgo HB hb6)
    | (go_at_call 42; refine (CS _).mono ?_; rintro e w8 ⟨rfl, hb8⟩; have HB := bgo HB hb8)
    | (go_at_call 16; refine (S0 _).mono ?_; rintro e w7 ⟨rfl, rfl⟩)
    | (go_at_call 39; refine (CL _).mono ?_; rintro e w9 ⟨rfl, rfl⟩)
    | (go_at_call 43; refine (CM _).mono ?_; rintro e w9 ⟨rfl, rfl⟩))
  go_ret
  exact ⟨by simp, bgo HBX0.out HB⟩

theorem onionWraps_walk (A B C S X : Option Addr) (n c m d p f sn sc xn xc : Nat) (ep ro : Nat) (z : Int) (vs us : List Value) (Ls Ns : List (List Int)) (body key xs : List Int) (w : World) (hn : Ls.length = n) (hm : Ns.length = m) (hl : body.length = p) (hs : key.length = sn) (hxn : xs.length = xn) (hpf : p ≤ f) (hnc : xn ≤ xc) (hx : Rd w A vs) (hp : Parts w vs Ls) (hy : Rd w B us) (hq : Parts w us Ns) (hz : Rd w C (nums .u8 body)) (hk : Rd w S (nums .u8 key)) (hxx : Rd w X (nums .i64 xs)) (he : ep < 18446744073709551616) (hr : ro < 18446744073709551616) (bN : ∀ xs ∈ Ns, Byt xs) (bb : Byt body) (hK : Konst w) (x1 : n ≤ maxLen) (x2 : m ≤ maxLen) : Calls Tryd.prog 13 #[.slice A n c, .slice B m d, .slice C p f, .slice S sn sc, .agg #[.int .u64 ep, .int .u64 ro, .slice X xn xc], .int .i64 z] w (Yes w) := by
  by_cases f1 : fewL Ls
  · by_cases f2 : fewL Ns
    · by_cases h3 : p ≤ 300
      · by_cases h4 : sn ≤ 200
        · by_cases h5 : xn ≤ 60
          · by_cases hg : goodSt xs <;> by_cases h : mayWr Ls Ns body
            · have hmn : m = n := by rw [← hm, ← hn]; exact h.2.2.1
              subst hmn
              have hp78 : p = 78 := by rw [← hl]; exact h.2.2.2.2
              subst hp78
              exact onionWraps_yy A B C S X m c d f sn sc xn xc ep ro z vs us Ls Ns body key xs w hn hm hl hs hxn hpf hnc hx hp hy hq hz hk hxx he hr bN bb hK f1 f2 h4 h5 h hg
            · exact onionWraps_ny A B C S X n c m d p f sn sc xn xc ep ro z vs us Ls Ns body key xs w hn hm hl hs hxn hpf hnc hx hp hy hq hz hk hxx he hr bN bb hK f1 f2 h3 h4 h5 h hg
            · have hmn : m = n := by rw [← hm, ← hn]; exact h.2.2.1
              subst hmn
              have hp78 : p = 78 := by rw [← hl]; exact h.2.2.2.2
              subst hp78
              exact onionWraps_yn A B C S X m c d f sn sc xn xc ep ro z vs us Ls Ns body key xs w hn hm hl hs hxn hpf hnc hx hp hy hq hz hk hxx he hr bN bb hK f1 f2 h4 h5 h hg
            · exact onionWraps_nn A B C S X n c m d p f sn sc xn xc ep ro z vs us Ls Ns body key xs w hn hm hl hs hxn hpf hnc hx hp hy hq hz hk hxx he hr bN bb hK f1 f2 h3 h4 h5 h hg
          · exact onionWraps_e5 A B C S X n c m d p f sn sc xn xc ep ro z vs us Ls Ns body key xs w hn hm hl hs hxn hpf hnc hx hp hy hq hz hk hxx he hr bN bb hK f1 f2 h3 h4 (by omega)
        · exact onionWraps_e4 A B C S X n c m d p f sn sc xn xc ep ro z vs us Ls Ns body key xs w hn hm hl hs hxn hpf hnc hx hp hy hq hz hk hxx he hr bN bb hK f1 f2 h3 (by omega)
      · exact onionWraps_e3 A B C S X n c m d p f sn sc xn xc ep ro z vs us Ls Ns body key xs w hn hm hl hs hxn hpf hnc hx hp hy hq hz hk hxx he hr bN bb hK f1 f2 (by omega)
    · exact onionWraps_f2 A B C S X n c m d p f sn sc xn xc ep ro z vs us Ls Ns body key xs w hn hm hl hs hxn hpf hnc hx hp hy hq hz hk hxx he hr bN bb hK f1 f2 x2
  · exact onionWraps_f1 A B C S X n c m d p f sn sc xn xc ep ro z vs us Ls Ns body key xs w hn hm hl hs hxn hpf hnc hx hp hy hq hz hk hxx he hr bN bb hK f1 x1

theorem onionWraps_of {H : Type} {enc : TypeId × Value → H} (W : World) (base : Nat) (args : Array Value) (ds : List (DataW H)) (p : List MemPlace)
    (hval : ∀ (j : Nat) t v, Tryd.f13.params[j]? = some t → args[j]? = some v → Value.okWide Tryd.prog W .any base t v)
    (hA : DataW.TrodAll enc Tryd.prog W 0 (fun _ => true) true Tryd.f13.params.toList args.toList ds p) (hlt : ∀ x ∈ p, x.block < W.heap.size)
    (hz : (DataW.weightsEach Tryd.prog Tryd.f13.params.toList ds).all (· ≤ reachBytes) = true) (hK : Konst W) : Calls Tryd.prog 13 args W (Yes W) := by
  rw [Tryd.params13] at hA hval hz
  obtain ⟨v0, vs0, d0, ds0, p0, q0, hargs, rfl, rfl, h0, r0⟩ := trodAll_cons hA
  obtain ⟨v1, vs1, d1, ds1, p1, q1, rfl, rfl, rfl, h1, r1⟩ := trodAll_cons r0
  obtain ⟨v2, vs2, d2, ds2, p2, q2, rfl, rfl, rfl, h2, r2⟩ := trodAll_cons r1
  obtain ⟨v3, vs3, d3, ds3, p3, q3, rfl, rfl, rfl, h3, r3⟩ := trodAll_cons r2
  obtain ⟨v4, vs4, d4, ds4, p4, q4, rfl, rfl, rfl, h4, r4⟩ := trodAll_cons r3
  obtain ⟨v5, vs5, d5, ds5, p5, q5, rfl, rfl, rfl, h5, r5⟩ := trodAll_cons r4
  obtain ⟨rfl, rfl, rfl⟩ := trodAll_nil r5
  obtain rfl : args = #[v0, v1, v2, v3, v4, v5] := by cases args; simp_all
  obtain ⟨A, n, c, vs, Ls, rfl, hc0, hd0, hv0, hr0, hp0, hb0⟩ := open_parts h0 (hval 0 _ _ rfl rfl)
  obtain ⟨B, m, d, us, Ns, rfl, hc1, hd1, hv1, hr1, hp1, hb1⟩ := open_parts h1 (hval 1 _ _ rfl rfl)
  obtain ⟨C, p, f, bs, rfl, hn2, hr2, hb2, hc2, hd2⟩ := open_bytes2 h2 (hval 2 _ _ rfl rfl)
  obtain ⟨S, sn, sc, key, rfl, hn3, hr3, hb3, hc3, hd3⟩ := open_bytes2 h3 (hval 3 _ _ rfl rfl)
  obtain ⟨ep, ro, X, xn, xc, xs, rfl, hc4, hd4, hl4, hx4, he, hr, _⟩ := open_stamp (hval 4 _ _ rfl rfl) h4
  obtain ⟨z, rfl, rfl, rfl, wz5⟩ := open_int Tryd.underlying3 (hval 5 _ _ rfl rfl) h5
  exact onionWraps_walk A B C S X n c m d p f sn sc xn xc ep ro z vs us Ls Ns bs key xs W (by rw [← hp0.1, hv0]) (by rw [← hp1.1, hv1]) hn2 hn3 hl4 hc2 hc4 hr0 hp0 hr1 hp1 hr2 hr3 hx4 he hr hb1 hb2 hK (by omega) (by omega)
end Go.Proofs.YtgclcpopibjocaaDoor
