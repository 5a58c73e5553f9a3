/- Frames compared: contracts of both answers. -/
import Derived.Test.YtmkmndgdakpojaaDoorFc
import Derived.Test.YtmkmndgdakpojaaDoorTe
import Derived.Test.YtmkmndgdakpojaaDoorMi0
namespace Go.Proofs.YtmkmndgdakpojaaDoor
open Go.RowKit
set_option linter.unusedSimpArgs false
set_option linter.unusedVariables false
set_option maxRecDepth 100000

set_option maxHeartbeats 2000000 in
theorem fSame_any (F T ep ro : Int) (A : Option Addr) (n c : Nat) (xs : List Int) (K Q : Int) (D : Option Addr) (l dc : Nat) (bs : List Int) (F2 T2 ep2 ro2 : Int) (B : Option Addr) (m d : Nat) (ys : List Int) (K2 Q2 : Int) (E2 : Option Addr) (l2 dc2 : Nat) (bs2 : List Int) (w : World)
    (hn : xs.length = n) (hx : Rd w A (nums .i64 xs)) (hm : ys.length = m) (hy : Rd w B (nums .i64 ys)) (hn8 : n ≤ maxLen) (hl : bs.length = l) (hb : Rd w D (nums .u8 bs)) (hbb : Byt bs) (hl2 : bs2.length = l2) (hb2 : Rd w E2 (nums .u8 bs2)) (hbb2 : Byt bs2) :
    Calls Tryd.prog 20 #[.agg #[.int .i64 F, .int .i64 T, .int .u64 ep, .int .u64 ro, .slice A n c, .int .i64 K, .int .i64 Q, .slice D l dc], .agg #[.int .i64 F2, .int .i64 T2, .int .u64 ep2, .int .u64 ro2, .slice B m d, .int .i64 K2, .int .i64 Q2, .slice E2 l2 dc2]] w (Tells w (decide (F = F2 ∧ T = T2 ∧ (ep = ep2 ∧ ro = ro2 ∧ xs = ys) ∧ K = K2 ∧ Q = Q2 ∧ bs = bs2))) := by
  have h2 : Below w.heap.size w ((w.alloc (.cells #[.int .i64 F, .int .i64 T, .int .u64 ep, .int .u64 ro, .slice A n c, .int .i64 K, .int .i64 Q, .slice D l dc] 30)).alloc (.cells #[.int .i64 F2, .int .i64 T2, .int .u64 ep2, .int .u64 ro2, .slice B m d, .int .i64 K2, .int .i64 Q2, .slice E2 l2 dc2] 30)) := bal (bal brf _) _
  have HBOX := Lib.hid ((frBox_new w F T ep ro (.slice A n c) K Q (.slice D l dc) 30).below (bal brf (.cells #[.int .i64 F2, .int .i64 T2, .int .u64 ep2, .int .u64 ro2, .slice B m d, .int .i64 K2, .int .i64 Q2, .slice E2 l2 dc2] 30)))
  have hboy := frBox_new (w.alloc (.cells #[.int .i64 F, .int .i64 T, .int .u64 ep, .int .u64 ro, .slice A n c, .int .i64 K, .int .i64 Q, .slice D l dc] 30)) F2 T2 ep2 ro2 (.slice B m d) K2 Q2 (.slice E2 l2 dc2) 30
  rw [World.size_alloc] at hboy
  have HBOY := Lib.hid hboy
  clear hboy
  have CS := fun (W : World) h0 h1 => stSame_any ep ro ep2 ro2 A B n c m d xs ys W hn hm h0 h1 hn8
  have CE := fun (W : World) h0 h1 => equal_any D E2 l dc l2 dc2 bs bs2 W hl hl2 h0 h1 hbb hbb2
  have HX := Lib.hid (hx.below h2)
  have HY := Lib.hid (hy.below h2)
  have HB := Lib.hid (hb.below h2)
  have HB2 := Lib.hid (hb2.below h2)
  have HBX := h2
  clear hn hm hx hy hn8 hl hb hbb hl2 hb2 hbb2 h2
  by_cases c1 : F = F2
  rotate_left
  · have c1b : (F == F2) = false := by simpa using c1
    go_enter Tryd.func20, Tryd.ntmps20
    go_wp2_with fail
    go_ret
    exact ⟨by simp [c1], HBX⟩
  subst c1
  by_cases c2 : T = T2
  rotate_left
  · have c2b : (T == T2) = false := by simpa using c2
    go_enter Tryd.func20, Tryd.ntmps20
    go_wp2_with fail
    go_ret
    exact ⟨by simp [c2], HBX⟩
  subst c2
  by_cases c3 : ep = ep2 ∧ ro = ro2 ∧ xs = ys
  rotate_left
  · have c3d : decide (ep = ep2 ∧ ro = ro2 ∧ xs = ys) = false := decide_eq_false c3
    rw [c3d] at CS
    have HC := Lib.hid c3
    clear c3 c3d
    go_enter Tryd.func20, Tryd.ntmps20
    go_wp2_with (go_at_call 38; refine (CS _ HX.out HY.out).mono ?_; rintro e w1 ⟨rfl, hb1⟩; have HBOX := Lib.hid (HBOX.out.below hb1); have HBOY := Lib.hid (HBOY.out.below hb1); obtain ⟨s0, b0, b1, b2, b3, b4, b5, b6, b7⟩ := HBOX.out; obtain ⟨t0, e0, e1, e2, e3, e4, e5, e6, e7⟩ := HBOY.out; have HB := Lib.hid (HB.out.below hb1); have HB2 := Lib.hid (HB2.out.below hb1); have HBX := bgo HBX hb1)
    go_ret
    exact ⟨by rw [decide_eq_false (fun h => HC.out h.2.2.1)]; rfl, HBX⟩
  have c3d : decide (ep = ep2 ∧ ro = ro2 ∧ xs = ys) = true := decide_eq_true c3
  rw [c3d] at CS
  have HC := Lib.hid c3
  clear c3 c3d
  by_cases c4 : K = K2
  rotate_left
  · have c4b : (K == K2) = false := by simpa using c4
    go_enter Tryd.func20, Tryd.ntmps20
    go_wp2_with (go_at_call 38; refine (CS _ HX.out HY.out).mono ?_; rintro e w1 ⟨rfl, hb1⟩; have HBOX := Lib.hid (HBOX.out.below hb1); have HBOY := Lib.hid (HBOY.out.below hb1); obtain ⟨s0, b0, b1, b2, b3, b4, b5, b6, b7⟩ := HBOX.out; obtain ⟨t0, e0, e1, e2, e3, e4, e5, e6, e7⟩ := HBOY.out; have HB := Lib.hid (HB.out.below hb1); have HB2 := Lib.hid (HB2.out.below hb1); have HBX := bgo HBX hb1)
    go_ret
    exact ⟨by simp [c4], HBX⟩
  subst c4
  by_cases c5 : Q = Q2
  rotate_left
  · have c5b : (Q == Q2) = false := by simpa using c5
    go_enter Tryd.func20, Tryd.ntmps20
    go_wp2_with (go_at_call 38; refine (CS _ HX.out HY.out).mono ?_; rintro e w1 ⟨rfl, hb1⟩; have HBOX := Lib.hid (HBOX.out.below hb1); have HBOY := Lib.hid (HBOY.out.below hb1); obtain ⟨s0, b0, b1, b2, b3, b4, b5, b6, b7⟩ := HBOX.out; obtain ⟨t0, e0, e1, e2, e3, e4, e5, e6, e7⟩ := HBOY.out; have HB := Lib.hid (HB.out.below hb1); have HB2 := Lib.hid (HB2.out.below hb1); have HBX := bgo HBX hb1)
    go_ret
    exact ⟨by simp [c5], HBX⟩
  subst c5
  have hfin : decide (bs = bs2) = decide (F = F ∧ T = T ∧ (ep = ep2 ∧ ro = ro2 ∧ xs = ys) ∧ K = K ∧ Q = Q ∧ bs = bs2) := decide_eq_decide.2 ⟨fun h => ⟨rfl, rfl, HC.out, rfl, rfl, h⟩, fun h => h.2.2.2.2.2⟩
  have HF := Lib.hid hfin
  clear hfin
  go_enter Tryd.func20, Tryd.ntmps20
  go_wp2_with (first
      | (go_at_call 38; refine (CS _ HX.out HY.out).mono ?_; rintro e w1 ⟨rfl, hb1⟩; have HBOX := Lib.hid (HBOX.out.below hb1); have HBOY := Lib.hid (HBOY.out.below hb1); obtain ⟨s0, b0, b1, b2, b3, b4, b5, b6, b7⟩ := HBOX.out; obtain ⟨t0, e0, e1, e2, e3, e4, e5, e6, e7⟩ := HBOY.out; have HB := Lib.hid (HB.out.below hb1); have HB2 := Lib.hid (HB2.out.below hb1); have HBX := bgo HBX hb1)
      | (go_at_call 39; refine (CE _ HB.out HB2.out).mono ?_; rintro e w2 ⟨rfl, rfl⟩))
  go_ret
  exact ⟨congrArg (fun b => Ending.returned (Value.bool b)) HF.out, HBX⟩

set_option maxHeartbeats 2000000 in
theorem rfSame_any (F T ep ro : Int) (A : Option Addr) (n c : Nat) (xs : List Int) (K Q : Int) (D : Option Addr) (l dc : Nat) (bs : List Int) (F2 T2 ep2 ro2 : Int) (B : Option Addr) (m d : Nat) (ys : List Int) (K2 Q2 : Int) (E2 : Option Addr) (l2 dc2 : Nat) (bs2 : List Int) (w : World)
    (hn : xs.length = n) (hx : Rd w A (nums .i64 xs)) (hm : ys.length = m) (hy : Rd w B (nums .i64 ys)) (hn8 : n ≤ maxLen) (hl : bs.length = l) (hb : Rd w D (nums .u8 bs)) (hbb : Byt bs) (hl2 : bs2.length = l2) (hb2 : Rd w E2 (nums .u8 bs2)) (hbb2 : Byt bs2) :
    Calls Tryd.prog 13 #[.agg #[.int .i64 F, .int .i64 T, .int .u64 ep, .int .u64 ro, .slice A n c, .int .i64 K, .int .i64 Q, .slice D l dc], .agg #[.int .i64 F2, .int .i64 T2, .int .u64 ep2, .int .u64 ro2, .slice B m d, .int .i64 K2, .int .i64 Q2, .slice E2 l2 dc2]] w (Tells w (decide (F = F2 ∧ T = T2 ∧ (ep = ep2 ∧ ro = ro2 ∧ xs = ys) ∧ K = K2 ∧ Q = Q2 ∧ bs = bs2))) := by
  have h2 : Below w.heap.size w ((w.alloc (.cells #[.int .i64 F, .int .i64 T, .int .u64 ep, .int .u64 ro, .slice A n c, .int .i64 K, .int .i64 Q, .slice D l dc] 30)).alloc (.cells #[.int .i64 F2, .int .i64 T2, .int .u64 ep2, .int .u64 ro2, .slice B m d, .int .i64 K2, .int .i64 Q2, .slice E2 l2 dc2] 30)) := bal (bal brf _) _
  have HBOX := Lib.hid ((frBox_new w F T ep ro (.slice A n c) K Q (.slice D l dc) 30).below (bal brf (.cells #[.int .i64 F2, .int .i64 T2, .int .u64 ep2, .int .u64 ro2, .slice B m d, .int .i64 K2, .int .i64 Q2, .slice E2 l2 dc2] 30)))
  have hboy := frBox_new (w.alloc (.cells #[.int .i64 F, .int .i64 T, .int .u64 ep, .int .u64 ro, .slice A n c, .int .i64 K, .int .i64 Q, .slice D l dc] 30)) F2 T2 ep2 ro2 (.slice B m d) K2 Q2 (.slice E2 l2 dc2) 30
  rw [World.size_alloc] at hboy
  have HBOY := Lib.hid hboy
  clear hboy
  have CS := fun (W : World) h0 h1 => rsame_any ep ro ep2 ro2 A B n c m d xs ys W hn hm h0 h1 hn8
  have CE := fun (W : World) h0 h1 => Go.Proofs.YtmkmndgdakpojaaDoor.same_any D E2 l dc l2 dc2 bs bs2 W hl hl2 h0 h1 hbb hbb2
  have HX := Lib.hid (hx.below h2)
  have HY := Lib.hid (hy.below h2)
  have HB := Lib.hid (hb.below h2)
  have HB2 := Lib.hid (hb2.below h2)
  have HBX := h2
  clear hn hm hx hy hn8 hl hb hbb hl2 hb2 hbb2 h2
  by_cases c1 : F = F2
  rotate_left
  · have c1b : (F == F2) = false := by simpa using c1
    go_enter Tryd.func13, Tryd.ntmps13
    go_wp2_with fail
    go_ret
    exact ⟨by simp [c1], HBX⟩
  subst c1
  by_cases c2 : T = T2
  rotate_left
  · have c2b : (T == T2) = false := by simpa using c2
    go_enter Tryd.func13, Tryd.ntmps13
    go_wp2_with fail
    go_ret
    exact ⟨by simp [c2], HBX⟩
  subst c2
  by_cases c3 : ep = ep2 ∧ ro = ro2 ∧ xs = ys
  rotate_left
  · have c3d : decide (ep = ep2 ∧ ro = ro2 ∧ xs = ys) = false := decide_eq_false c3
    rw [c3d] at CS
    have HC := Lib.hid c3
    clear c3 c3d
    go_enter Tryd.func13, Tryd.ntmps13
    go_wp2_with (go_at_call 27; refine (CS _ HX.out HY.out).mono ?_; rintro e w1 ⟨rfl, hb1⟩; have HBOX := Lib.hid (HBOX.out.below hb1); have HBOY := Lib.hid (HBOY.out.below hb1); obtain ⟨s0, b0, b1, b2, b3, b4, b5, b6, b7⟩ := HBOX.out; obtain ⟨t0, e0, e1, e2, e3, e4, e5, e6, e7⟩ := HBOY.out; have HB := Lib.hid (HB.out.below hb1); have HB2 := Lib.hid (HB2.out.below hb1); have HBX := bgo HBX hb1)
    go_ret
    exact ⟨by rw [decide_eq_false (fun h => HC.out h.2.2.1)]; rfl, HBX⟩
  have c3d : decide (ep = ep2 ∧ ro = ro2 ∧ xs = ys) = true := decide_eq_true c3
  rw [c3d] at CS
  have HC := Lib.hid c3
  clear c3 c3d
  by_cases c4 : K = K2
  rotate_left
  · have c4b : (K == K2) = false := by simpa using c4
    go_enter Tryd.func13, Tryd.ntmps13
    go_wp2_with (go_at_call 27; refine (CS _ HX.out HY.out).mono ?_; rintro e w1 ⟨rfl, hb1⟩; have HBOX := Lib.hid (HBOX.out.below hb1); have HBOY := Lib.hid (HBOY.out.below hb1); obtain ⟨s0, b0, b1, b2, b3, b4, b5, b6, b7⟩ := HBOX.out; obtain ⟨t0, e0, e1, e2, e3, e4, e5, e6, e7⟩ := HBOY.out; have HB := Lib.hid (HB.out.below hb1); have HB2 := Lib.hid (HB2.out.below hb1); have HBX := bgo HBX hb1)
    go_ret
    exact ⟨by simp [c4], HBX⟩
  subst c4
  by_cases c5 : Q = Q2
  rotate_left
  · have c5b : (Q == Q2) = false := by simpa using c5
    go_enter Tryd.func13, Tryd.ntmps13
    go_wp2_with (go_at_call 27; refine (CS _ HX.out HY.out).mono ?_; rintro e w1 ⟨rfl, hb1⟩; have HBOX := Lib.hid (HBOX.out.below hb1); have HBOY := Lib.hid (HBOY.out.below hb1); obtain ⟨s0, b0, b1, b2, b3, b4, b5, b6, b7⟩ := HBOX.out; obtain ⟨t0, e0, e1, e2, e3, e4, e5, e6, e7⟩ := HBOY.out; have HB := Lib.hid (HB.out.below hb1); have HB2 := Lib.hid (HB2.out.below hb1); have HBX := bgo HBX hb1)
    go_ret
    exact ⟨by simp [c5], HBX⟩
  subst c5
  have hfin : decide (bs = bs2) = decide (F = F ∧ T = T ∧ (ep = ep2 ∧ ro = ro2 ∧ xs = ys) ∧ K = K ∧ Q = Q ∧ bs = bs2) := decide_eq_decide.2 ⟨fun h => ⟨rfl, rfl, HC.out, rfl, rfl, h⟩, fun h => h.2.2.2.2.2⟩
  have HF := Lib.hid hfin
  clear hfin
  go_enter Tryd.func13, Tryd.ntmps13
  go_wp2_with (first
      | (go_at_call 27; refine (CS _ HX.out HY.out).mono ?_; rintro e w1 ⟨rfl, hb1⟩; have HBOX := Lib.hid (HBOX.out.below hb1); have HBOY := Lib.hid (HBOY.out.below hb1); obtain ⟨s0, b0, b1, b2, b3, b4, b5, b6, b7⟩ := HBOX.out; obtain ⟨t0, e0, e1, e2, e3, e4, e5, e6, e7⟩ := HBOY.out; have HB := Lib.hid (HB.out.below hb1); have HB2 := Lib.hid (HB2.out.below hb1); have HBX := bgo HBX hb1)
      | (go_at_call 14; refine (CE _ HB.out HB2.out).mono ?_; rintro e w2 ⟨rfl, rfl⟩))
  go_ret
  exact ⟨congrArg (fun b => Ending.returned (Value.bool b)) HF.out, HBX⟩
end Go.Proofs.YtmkmndgdakpojaaDoor
