/- The schedule of a block: its contract. -/
import Derived.Test.YtmkmndgdakpojaaDoorShaSpec
namespace Go.Proofs.YtmkmndgdakpojaaDoor
open Go.RowKit
set_option linter.unusedSimpArgs false
set_option linter.unusedVariables false

def IsWords (w : World) (ws : List Int) (e : Ending) (w' : World) : Prop := e = .returned (.agg (ws.map (Value.int .u32)).toArray) ∧ Below w.heap.size w w'

theorem range_of_pad {w : World} {B : Nat} {l : List Int} (h : Pad64 w B l) (hl : l.length = 64) : w.rangeAt B 0 (l.map (Value.int .u32)) := fun j v hv => by
  have hj : j < l.length := by
    have := (List.getElem?_eq_some_iff.1 hv).1
    simpa using this
  rw [Nat.zero_add, h.1 j (by omega)]
  rw [List.getElem?_map, List.getElem?_eq_getElem hj] at hv
  simpa [List.getD, List.getElem?_eq_getElem hj] using hv

theorem info64 : (Tryd.prog.info? 78).map (·.size) = some 64 := by kernel_rfl
theorem info64l {ws : List Int} (h : ws.length = 64) : (Tryd.prog.info? 78).map (·.size) = some (ws.map (Value.int .u32)).length := by rw [info64]; simp [h]
theorem info64a {ws : List Int} (h : ws.length = 64) : (Tryd.prog.info? 78).map (·.size) = some (ws.map (Value.int .u32)).toArray.size := by rw [info64]; simp [h]

set_option maxRecDepth 100000 in
set_option maxHeartbeats 2000000 in
theorem schedule_any (A : Option Addr) (c : Nat) (bs : List Int) (w : World) (hn : bs.length = 64) (hx : Rd w A (nums .u8 bs)) :
    Calls Tryd.prog 60 #[.slice A 64 c] w (IsWords w (sched bs)) := by
  have HN := Lib.hid hn
  clear hn
  obtain ⟨b1, o1, rfl, l1, c1⟩ := hx.at_ (by simp [HN.out])
  have G : Hid (∀ wr, Below w.heap.size w wr → ∀ j, j < 64 → wr.cell? ⟨b1, o1 + j, none⟩ = some (.int .u8 (bs.getD j 0))) := Lib.hid fun wr hB j hj => (hB.cell (p := ⟨b1, o1 + j, none⟩) l1).trans (c1 j _ (nums_at (by rw [HN.out]; exact hj)))
  clear hx c1
  go_enter Tryd.func60, Tryd.ntmps60
  go_wp2_with fail
  go_loopw [4, 10] (fun _ i wr => ∃ k : Nat, k ≤ 16 ∧ i = .int .i64 k ∧ Pad64 wr (w.heap.size + 1) ((List.range k).map (wd bs)) ∧ Pad64 wr w.heap.size [] ∧ Below w.heap.size w wr) (fun _ i _ => 16 - (intOf i).toNat)
  case atStart =>
    refine ⟨0, Nat.zero_le _, rfl, ⟨fun j hj => ?_, fun j => by simp [go_sem]⟩, ⟨fun j hj => ?_, fun j => by simp [go_sem]⟩, bal (bal brf _) _⟩
    · rw [World.cell?_alloc_at _ _ _ _ (by simp)]
      show (List.replicate 64 (Value.int .u32 0)).toArray[j]? = _
      rw [List.getElem?_toArray, List.getElem?_replicate, if_pos hj]
      simp
    · rw [World.cell?_alloc_past _ _ _ (by simp), World.cell?_alloc_at _ _ _ _ rfl]
      show (List.replicate 64 (Value.int .u32 0)).toArray[j]? = _
      rw [List.getElem?_toArray, List.getElem?_replicate, if_pos hj]
      simp
  case round =>
    obtain ⟨k, hk, rfl, hP, hR, hB⟩ := hrel
    have r0 : (0 : Int) ≤ (k : Int) := by omega
    by_cases hlt : k < 16
    · have g := G.out wr hB
      have g0 := g (4 * k) (by omega)
      have g1 := g (4 * k + 1) (by omega)
      have g2 := g (4 * k + 2) (by omega)
      have g3 := g (4 * k + 3) (by omega)
      have hxk := hP.1 k (by omega)
      have fk := hP.2 k
      have HP := Lib.hid hP
      have HR := Lib.hid hR
      clear hP hR g
      have e0 : IntKind.i64.wrap (4 * (k : Int)) = 4 * (k : Int) := IntWalk.i64_in _ (by omega)
      have e1 : IntKind.i64.wrap (4 * (k : Int) + 1) = 4 * (k : Int) + 1 := IntWalk.i64_in _ (by omega)
      have e2 : IntKind.i64.wrap (4 * (k : Int) + 2) = 4 * (k : Int) + 2 := IntWalk.i64_in _ (by omega)
      have e3 : IntKind.i64.wrap (4 * (k : Int) + 3) = 4 * (k : Int) + 3 := IntWalk.i64_in _ (by omega)
      have n0 : (4 * (k : Int)).toNat = 4 * k := by omega
      have n1 : (4 * (k : Int) + 1).toNat = 4 * k + 1 := by omega
      have n2 : (4 * (k : Int) + 2).toNat = 4 * k + 2 := by omega
      have n3 : (4 * (k : Int) + 3).toNat = 4 * k + 3 := by omega
      have p0 : (0 : Int) ≤ 4 * (k : Int) := by omega
      have p1 : (0 : Int) ≤ 4 * (k : Int) + 1 := by omega
      have p2 : (0 : Int) ≤ 4 * (k : Int) + 2 := by omega
      have p3 : (0 : Int) ≤ 4 * (k : Int) + 3 := by omega
      have q0 : 4 * (k : Int) < 64 := by omega
      have q1 : 4 * (k : Int) + 1 < 64 := by omega
      have q2 : 4 * (k : Int) + 2 < 64 := by omega
      have q3 : 4 * (k : Int) + 3 < 64 := by omega
      have r1 : (k : Int) < 64 := by omega
      go_wp2_with fail
      go_still_tail 35, (by kernel_rfl)
      change wpList _ _ _ _ _ wr.drew
      clear e0 e1 e2 e3 n0 n1 n2 n3 p0 p1 p2 p3 q0 q1 q2 q3
      go_wp2_with fail
      refine ⟨⟨k + 1, by omega, by go_num, ?_, ?_, hB.drew.setCell (by show _ ≤ w.heap.size + 1; omega) _⟩, by simp [intOf]; omega⟩
      · rw [List.range_succ, List.map_append]
        exact HP.out.drew.push (wd bs k) (by simp) (by omega)
      · exact (HR.out.far (by omega)).drew
    · have HP : Pad64 wr (w.heap.size + 1) (schedN bs 0) := by
        have e : k = 16 := by omega
        rw [e] at hP
        exact hP
      have hge : (16 : Int) ≤ (k : Int) := by omega
      have HR := hR
      clear hP hR G
      go_wp2_with fail
      go_loopw [5] (fun i wr => ∃ n : Nat, n ≤ 48 ∧ i = .int .i64 ((n : Int) + 16) ∧ Pad64 wr (w.heap.size + 1) (schedN bs n) ∧ Pad64 wr w.heap.size [] ∧ Below w.heap.size w wr) (fun i _ => 64 - (intOf i).toNat)
      case atStart => exact ⟨0, by omega, rfl, HP, HR, hB⟩
      case round =>
        obtain ⟨n, hn, rfl, hP, hR, hB⟩ := hrel
        by_cases hlt : n < 48
        · have g0 := hP.1 n (by omega)
          have g1 := hP.1 (n + 1) (by omega)
          have g9 := hP.1 (n + 9) (by omega)
          have g14 := hP.1 (n + 14) (by omega)
          have gx := hP.1 (n + 16) (by omega)
          have fx := hP.2 (n + 16)
          have HP := Lib.hid hP
          have HR := Lib.hid hR
          clear hP hR
          have r0 : (0 : Int) ≤ (n : Int) := by omega
          have r1 : (n : Int) < 48 := by omega
          have m1 : (n : Int) + 16 - 15 = (n : Int) + 1 := by omega
          have m2 : (n : Int) + 16 - 2 = (n : Int) + 14 := by omega
          have m3 : (n : Int) + 16 - 16 = (n : Int) := by omega
          have m4 : (n : Int) + 16 - 7 = (n : Int) + 9 := by omega
          have e1 : IntKind.i64.wrap ((n : Int) + 1) = (n : Int) + 1 := IntWalk.i64_in _ (by omega)
          have e2 : IntKind.i64.wrap ((n : Int) + 14) = (n : Int) + 14 := IntWalk.i64_in _ (by omega)
          have e3 : IntKind.i64.wrap (n : Int) = (n : Int) := IntWalk.i64_in _ (by omega)
          have e4 : IntKind.i64.wrap ((n : Int) + 9) = (n : Int) + 9 := IntWalk.i64_in _ (by omega)
          have n1 : ((n : Int) + 1).toNat = n + 1 := by omega
          have n2 : ((n : Int) + 14).toNat = n + 14 := by omega
          have n4 : ((n : Int) + 9).toNat = n + 9 := by omega
          have n5 : ((n : Int) + 16).toNat = n + 16 := by omega
          have p1 : (0 : Int) ≤ (n : Int) + 1 := by omega
          have p2 : (0 : Int) ≤ (n : Int) + 14 := by omega
          have p4 : (0 : Int) ≤ (n : Int) + 9 := by omega
          have p5 : (0 : Int) ≤ (n : Int) + 16 := by omega
          have q1 : (n : Int) + 1 < 64 := by omega
          have q2 : (n : Int) + 14 < 64 := by omega
          have q3 : (n : Int) < 64 := by omega
          have q4 : (n : Int) + 9 < 64 := by omega
          have q5 : (n : Int) + 16 < 64 := by omega
          go_wp2_with fail
          go_quiet (fail)
          go_wp2_with fail
          refine (down_any _ _ _ (by omega)).mono ?_; rintro e w' ⟨rfl, rfl⟩
          go_wp2_with fail
          refine (down_any _ _ _ (by omega)).mono ?_; rintro e w' ⟨rfl, rfl⟩
          go_wp2_with fail
          refine (down_any _ _ _ (by omega)).mono ?_; rintro e w' ⟨rfl, rfl⟩
          go_wp2_with fail
          refine (down_any _ _ _ (by omega)).mono ?_; rintro e w' ⟨rfl, rfl⟩
          go_wp2_with fail
          have HP2 : Hid (Pad64 (wr.drewN nq) (w.heap.size + 1) (schedN bs n)) := Lib.hid (HP.out.drewN nq)
          have HR2 : Hid (Pad64 (wr.drewN nq) w.heap.size []) := Lib.hid (HR.out.drewN nq)
          have hB2 := bdrN hB nq
          have k0 : (wr.drewN nq).cell? ⟨w.heap.size + 1, n, none⟩ = _ := g0
          have k9 : (wr.drewN nq).cell? ⟨w.heap.size + 1, n + 9, none⟩ = _ := g9
          have kx : (wr.drewN nq).cell? ⟨w.heap.size + 1, n + 16, none⟩ = _ := gx
          have kf : (wr.drewN nq).frozen? ⟨w.heap.size + 1, n + 16, none⟩ = false := fx
          clear g0 g1 g9 g14 gx fx HP HR hB
          generalize wr.drewN nq = w2 at HP2 HR2 hB2 k0 k9 kx kf ⊢
          go_still_tail 15, (by kernel_rfl)
          change wpList _ _ _ _ _ w2.drew
          clear e1 e2 e3 e4 n1 n2 n4 p1 p2 p4 q1 q2 q3 q4 m1 m2 m3 m4
          go_wp2_with fail
          refine ⟨⟨n + 1, by omega, by go_num, ?_, (HR2.out.far (by omega)).drew, (hB2.setCell (by show _ ≤ w.heap.size + 1; omega) _).drew⟩, by simp [intOf]; omega⟩
          exact (HP2.out.push _ (schedN_len bs n) (by omega)).drew
        · have hge : (48 : Int) ≤ (n : Int) := by omega
          have hP' : Pad64 wr (w.heap.size + 1) (sched bs) := by
            have e : n = 48 := by omega
            rw [e] at hP
            exact hP
          have HG := Lib.hid (range_of_pad hP' (sched_len bs))
          have HT : Hid (wr.there w.heap.size 0 ((sched bs).map (Value.int .u32)).toArray.size) := Lib.hid fun j hj => by
            have hj' : j < 64 := by simpa [sched_len] using hj
            rw [Nat.zero_add]
            exact ⟨by rw [hR.1 j hj']; rfl, hR.2 j⟩
          clear hP hR hP'
          go_wp2_with (first
            | (with_reducible show wpList _ _ _ ({ dst := _, op := Op.load 78 _, type := _, pos := _, after := _, guard := _ } :: _) _ _; refine wpList_load_mid rfl 78 _ rfl (w.heap.size + 1) 0 rfl _ _ HG.out Tryd.underlying78 rfl (info64l (sched_len bs)) ?_)
            | (with_reducible show wpList _ _ _ ({ dst := _, op := Op.store 78 _ _, type := _, pos := _, after := _, guard := _ } :: _) _ _; refine wpList_store_mid rfl 78 _ _ rfl w.heap.size 0 _ rfl rfl HT.out (info64a (sched_len bs)) (words_oneCell (sched bs)) ?_))
          refine bodyPost_ret (v := .agg ((sched bs).map (Value.int .u32)).toArray) (results_cell_mid rfl _ _ w.heap.size 0 _ _ rfl (World.rangeAt_setCells_same _ _ _ _ (by simpa using HT.out)) Tryd.underlying78 rfl (info64l (sched_len bs))) rfl ⟨rfl, ?_⟩
          exact below_cells (Nat.le_refl _) _ _ hB
end Go.Proofs.YtmkmndgdakpojaaDoor
