/- The walks of KeyNodes and KeyBack: each returns true, and turns nothing that was there. -/
import Derived.Test.YtmacimnabcjljaaKd
import Derived.Deep.RegionHeld3
import Derived.Test.YtmacimnabcjljaaOpen
namespace Go.Proofs.Ytmacimnabcjljaa
open Go.RowKit
set_option linter.unusedSimpArgs false
set_option linter.unusedVariables false

set_option maxHeartbeats 2000000 in
theorem keyNodes_walk (a : Option Addr) (m c : Nat) (ch st cl qu clo lo ag wi ro se n : Int) (w : World) (hn : n ≤ 9223372036854775807) :
    Calls Try.prog 3 #[cfgV (.slice a m c) ch st cl qu clo lo ag wi ro se, .int .i64 n] w (Yes w) := by
  by_cases ok : okC m ch st cl qu clo lo ag wi ro se
  · have hok := ok
    obtain ⟨_, b1, b2, b3, b4, b5, b6, _, _, _, _, _, _, _, _, _, _, _, _⟩ := hok
    have OK := Lib.hid ok
    clear ok
    go_enter Try.func3, Try.ntmps3
    go_wp2_with fail
    refine (live_any _).mono ?_; rintro e w1 ⟨rfl, hb1⟩
    obtain ⟨hB1, hl1, hc1⟩ := cfgHeld_next cfgHeld_start0 hb1
    clear hb1
    go_wp2_with fail
    refine (rcheck_ok _ OK.out).mono ?_; rintro e w2 ⟨rfl, hb2⟩
    obtain ⟨hB2, hl2, hc2⟩ := cfgHeld_next ⟨hB1, hl1, hc1⟩ hb2
    clear hb2 hB1 hl1 hc1
    go_wp2_with fail
    refine (client_any _ _ _ _ _ _ _ _ _ _ _ _ _ (by omega) (by omega) (by omega) (by omega) (by omega) (by omega) (by omega)).mono ?_; rintro e w3 ⟨rfl, hb3⟩
    obtain ⟨hB3, hl3, hc3⟩ := cfgHeld_next ⟨hB2, hl2, hc2⟩ hb3
    clear hb3 hB2 hl2 hc2
    go_wp2_with fail
    refine (rclient_any _ _ _ _ _ _ _ _ _ _ _ _ _ (by omega) (by omega) (by omega) (by omega) (by omega) (by omega) (by omega)).mono ?_; rintro e w4 ⟨rfl, hb4⟩
    obtain ⟨hB4, hl4, hc4⟩ := cfgHeld_next ⟨hB3, hl3, hc3⟩ hb4
    clear hb4 hB3 hl3 hc3
    go_wp2_with fail
    go_region_held3 (fun x => cfgHeld w x (.slice a m c) ch st cl qu clo lo ag wi ro se) (first | exact ⟨bdr (by assumption), by assumption, by assumption⟩ | exact cfgHeld_next (by assumption) (by assumption))
      (first
        | (go_at_call 16; refine (nodes_any _ _ _ _ _ _ _ _ _ _ _ _ (by omega) (by omega) (by omega) (by omega)).mono ?_; rintro e w' ⟨rfl, hb⟩)
        | (go_at_call 17; refine (rnodes_any _ _ _ _ _ _ _ _ _ _ _ _ (by omega) (by omega) (by omega) (by omega) (by omega) (by omega)).mono ?_; rintro e w' ⟨rfl, hb⟩)
        | (go_at_call 18; refine (server_any _ _ _ _ _ _ _ _ _ _ _ _ _ (by omega) (by omega) (by omega) (by omega)).mono ?_; rintro e w' ⟨rfl, hb⟩)
        | (go_at_call 19; refine (rserver_any _ _ _ _ _ _ _ _ _ _ _ _ _ (by omega) (by omega) (by omega) (by omega)).mono ?_; rintro e w' ⟨rfl, hb⟩)
        | (go_at_call 20; refine (node_any _ _ _ _ _ _ _ _ _ _ _ _ _ (by omega) (by omega) (by omega) (by omega) (by omega) (by omega)).mono ?_; rintro e w' ⟨rfl, hb⟩)
        | (go_at_call 21; refine (rnode_any _ _ _ _ _ _ _ _ _ _ _ _ _ (by omega) (by omega) (by omega) (by omega) (by omega) (by omega)).mono ?_; rintro e w' ⟨rfl, hb⟩))
    go_wp2
    go_ret
    rename_i hk
    exact ⟨rfl, hk.1⟩
  · have OK := Lib.hid ok
    clear ok
    go_enter Try.func3, Try.ntmps3
    go_wp2_with fail
    refine (live_any _).mono ?_; rintro e w1 ⟨rfl, hb1⟩
    obtain ⟨hB1, hl1, hc1⟩ := cfgHeld_next cfgHeld_start0 hb1
    clear hb1
    go_wp2_with fail
    refine (rcheck_bad _ OK.out).mono ?_; rintro e w2 ⟨rfl, hb2⟩
    go_wp2_with fail
    go_ret
    exact ⟨rfl, bgo hB1 hb2⟩

open Go.Joins Go.ChangeShapes Go.WideShapes Go.ChangeAt Go.Deep

/-- A configuration that was read: its form. -/
theorem open_cfg {H : Type} {enc : TypeId × Value → H} {W : World} {base b : Nat} {r : Reach} {v : Value} {d : DataW H} {p : List MemPlace} {spare : Nat → Bool} {held : Bool}
    (hv : Value.okWide Try.prog W r base 25 v) (h : DataW.Trod enc Try.prog W b spare held 25 v d p) :
    ∃ (a : Option Addr) (m c : Nat) (ch st cl qu clo lo ag wi ro se : Int), v = cfgV (.slice a m c) ch st cl qu clo lo ag wi ro se := by
  obtain ⟨v0, v1, v2, v3, v4, v5, v6, v7, v8, v9, v10, y0, y1, y2, y3, y4, y5, y6, y7, y8, y9, y10, n, rfl, rfl, rfl, h0, h1, h2, h3, h4, h5, h6, h7, h8, h9, h10⟩ :=
    open_aggN11 Try.underlying25 (by kernel_rfl) (by kernel_rfl) hv h
  obtain ⟨a, m, c, rfl⟩ := slice_of_trod Try.underlying22 h0
  obtain ⟨ch, rfl, _⟩ := int_of_trod Try.underlying3 h1
  obtain ⟨st, rfl, _⟩ := int_of_trod Try.underlying3 h2
  obtain ⟨cl, rfl, _⟩ := int_of_trod Try.underlying3 h3
  obtain ⟨qu, rfl, _⟩ := int_of_trod Try.underlying3 h4
  obtain ⟨clo, rfl, _⟩ := int_of_trod Try.underlying3 h5
  obtain ⟨lo, rfl, _⟩ := int_of_trod Try.underlying3 h6
  obtain ⟨ag, rfl, _⟩ := int_of_trod Try.underlying3 h7
  obtain ⟨wi, rfl, _⟩ := int_of_trod Try.underlying3 h8
  obtain ⟨ro, rfl, _⟩ := int_of_trod Try.underlying23 h9
  obtain ⟨se, rfl, _⟩ := int_of_trod Try.underlying23 h10
  exact ⟨a, m, c, ch, st, cl, qu, clo, lo, ag, wi, ro, se, rfl⟩

theorem keyNodes_of {H : Type} {enc : TypeId × Value → H} (W : World) (base : Nat) (args : Array Value) (ds : List (DataW H)) (p : List MemPlace)
    (hval : ∀ (j : Nat) t v, Try.f3.params[j]? = some t → args[j]? = some v → Value.okWide Try.prog W .any base t v)
    (hA : DataW.TrodAll enc Try.prog W 0 (fun _ => true) true Try.f3.params.toList args.toList ds p) (hlt : ∀ x ∈ p, x.block < W.heap.size)
    (hz : (DataW.weightsEach Try.prog Try.f3.params.toList ds).all (· ≤ reachBytes) = true) : Calls Try.prog 3 args W (Yes W) := by
  rw [Try.params3] at hA hval
  obtain ⟨v0, vs0, d0, ds0, p0, q0, hargs, rfl, rfl, h0, r0⟩ := trodAll_cons hA
  obtain ⟨v1, vs1, d1, ds1, p1, q1, rfl, rfl, rfl, h1, r1⟩ := trodAll_cons r0
  obtain ⟨rfl, rfl, rfl⟩ := trodAll_nil r1
  obtain rfl : args = #[v0, v1] := by cases args; simp_all
  obtain ⟨a, m, c, ch, st, cl, qu, clo, lo, ag, wi, ro, se, rfl⟩ := open_cfg (hval 0 _ _ rfl rfl) h0
  obtain ⟨n, rfl, rfl, rfl, wn⟩ := open_int Try.underlying3 (hval 1 _ _ rfl rfl) h1
  exact keyNodes_walk a m c ch st cl qu clo lo ag wi ro se n W ((bounds_i64 wn).2)
end Go.Proofs.Ytmacimnabcjljaa
