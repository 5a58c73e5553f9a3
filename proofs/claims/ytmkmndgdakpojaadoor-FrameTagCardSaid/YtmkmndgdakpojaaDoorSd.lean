/- The reference's Block: its contract: the same words. -/
import Derived.Test.YtmkmndgdakpojaaDoorSc
import Derived.Deep.Cut
namespace Go.Proofs.YtmkmndgdakpojaaDoor
open Go.RowKit
set_option linter.unusedSimpArgs false
set_option linter.unusedVariables false

theorem kc_len : kc.length = 64 := rfl

/-- An operation that yields a value that is known. -/
theorem op_named {P : Program} {ops : Array Oper} {rest : List Oper} {o : Oper} {a : Act} {w : World} {Q : Exit → Act → World → Prop} (hgd : o.guard = none) (v : Value) (hr : (execOp a.eval o).run P w = .ok (.value v) w)
    (h : wpList P ops Q rest (a.put o.dst v) w) : wpList P ops Q (o :: rest) a w :=
  wpList_plain hgd fun K hK => by
    unfold Oper.wp
    rw [hr]
    exact hK _ _ h

theorem range_of_arr {w : World} {B : Nat} {l : List Int} (h : Arr w B l) : w.rangeAt B 0 (l.map (Value.int .u32)) := fun j v hv => by
  have hj : j < l.length := by
    have := (List.getElem?_eq_some_iff.1 hv).1
    simpa using this
  rw [Nat.zero_add, h.1 j hj]
  rw [List.getElem?_map, List.getElem?_eq_getElem hj] at hv
  simpa [List.getD, List.getElem?_eq_getElem hj] using hv

set_option maxRecDepth 100000 in
set_option maxHeartbeats 1000000 in
theorem consts_any (w : World) : Calls Tryd.prog 62 #[] w (IsWords w kc) := by
  go_enter Tryd.func62, Tryd.ntmps62
  go_upto_region 1 with (fail)
  go_step
  refine op_named rfl (.agg (kc.map (Value.int .u32)).toArray) (by as_aux_lemma => kernel_rfl) ?_
  refine store_named rfl 78 _ _ rfl w.heap.size 0 _ rfl rfl ?ht (info64a kc_len) (words_oneCell kc) ?_
  case ht => simpa [kc_len] using new_there w _ 78 64 rfl
  intro w2 hw2
  obtain ⟨hS2, hB2, hz2⟩ := new_words w w2 _ _ kc (by rw [kc_len]; rfl) hw2
  clear hw2
  have HG := Lib.hid (range_of_arr hS2)
  clear hS2 hz2
  go_wp2_with fail
  exact bodyPost_ret (v := .agg (kc.map (Value.int .u32)).toArray) (results_cell_mid rfl _ _ w.heap.size 0 _ _ rfl HG.out Tryd.underlying78 rfl (info64l kc_len)) rfl ⟨rfl, hB2⟩

theorem addN_swap {l v : List Int} (hl : l.length = 8) (hv : v.length = 8) : addN v l 8 = addN l v 8 := by
  obtain ⟨a, b, c, d, e, f, g, i, rfl⟩ := len8 hl
  obtain ⟨a', b', c', d', e', f', g', i', rfl⟩ := len8 hv
  simp [addN, Int.add_comm]

def zeros64 : List Int := List.replicate 64 0
theorem zeros64_len : zeros64.length = 64 := rfl
theorem pad_zeros {w : World} {B : Nat} (h : Arr w B zeros64) : Pad64 w B [] :=
  ⟨fun j hj => by
    have hj' : j < zeros64.length := by rw [zeros64_len]; exact hj
    rw [h.1 j hj']
    have e : zeros64.getD j 0 = 0 := by rw [show zeros64 = List.replicate 64 0 from rfl, List.getD, List.getElem?_replicate, if_pos hj]; rfl
    rw [e]
    rfl, h.2⟩

set_option maxRecDepth 100000 in
set_option maxHeartbeats 8000000 in
theorem rblock_any (A : Option Addr) (c : Nat) (h0 h1 h2 h3 h4 h5 h6 h7 : Int) (bs : List Int) (w : World) (hn : bs.length = 64) (hx : Rd w A (nums .u8 bs)) :
    Calls Tryd.prog 57 #[.agg #[.int .u32 h0, .int .u32 h1, .int .u32 h2, .int .u32 h3, .int .u32 h4, .int .u32 h5, .int .u32 h6, .int .u32 h7], .slice A 64 c] w (IsBlk w (blk [h0, h1, h2, h3, h4, h5, h6, h7] bs)) := by
  have HN := Lib.hid hn
  obtain ⟨b1, o1, rfl, l1, c1⟩ := hx.at_ (by simp [hn])
  have G : Hid (∀ wr, Below w.heap.size w wr → ∀ j, j < 64 → wr.cell? ⟨b1, o1 + j, none⟩ = some (.int .u8 (bs.getD j 0))) := Lib.hid fun wr hB j hj => (hB.cell (p := ⟨b1, o1 + j, none⟩) l1).trans (c1 j _ (nums_at (by rw [HN.out]; exact hj)))
  clear hn hx c1
  go_enter Tryd.func57, Tryd.ntmps57
  go_wp2_with fail
  refine (consts_any _).mono ?_; rintro e w1 ⟨rfl, hb1⟩
  have hsz := hb1.size
  simp only [World.size_alloc] at hsz
  have hl1 : w.heap.size < w1.heap.size := by omega
  have hl2 : w.heap.size + 1 < w1.heap.size := by omega
  have hA1 : Arr w1 w.heap.size [h0, h1, h2, h3, h4, h5, h6, h7] := ⟨fun j hj => (hb1.cell (p := ⟨w.heap.size, j, none⟩) (by simp; omega)).trans (by
      rw [World.cell?_alloc_past _ _ _ (by simp), World.cell?_alloc_at _ _ _ _ rfl]
      match j, hj with
      | 0, _ | 1, _ | 2, _ | 3, _ | 4, _ | 5, _ | 6, _ | 7, _ => rfl), fun j => (hb1.frozen (p := ⟨w.heap.size, j, none⟩) (by simp; omega)).trans (by simp [go_sem])⟩
  have hA2 : Arr w1 (w.heap.size + 1) [0, 0, 0, 0, 0, 0, 0, 0] := ⟨fun j hj => (hb1.cell (p := ⟨w.heap.size + 1, j, none⟩) (by simp)).trans (by
      rw [World.cell?_alloc_at _ _ _ _ (by simp)]
      match j, hj with
      | 0, _ | 1, _ | 2, _ | 3, _ | 4, _ | 5, _ | 6, _ | 7, _ => rfl), fun j => (hb1.frozen (p := ⟨w.heap.size + 1, j, none⟩) (by simp)).trans (by simp [go_sem])⟩
  have hB1 : Below w.heap.size w w1 := bgo (bal (bal brf _) _) hb1
  have a0 := hA1.1 0 (by simp)
  have a1 := hA1.1 1 (by simp)
  have a2 := hA1.1 2 (by simp)
  have a3 := hA1.1 3 (by simp)
  have a4 := hA1.1 4 (by simp)
  have a5 := hA1.1 5 (by simp)
  have a6 := hA1.1 6 (by simp)
  have a7 := hA1.1 7 (by simp)
  simp at a0 a1 a2 a3 a4 a5 a6 a7
  have HA1 := Lib.hid hA1
  have HA2 := Lib.hid hA2
  clear hA1 hA2 hb1 hsz
  dsimp only
  iterate 4 go_step
  refine store_named rfl 78 _ _ rfl w1.heap.size 0 _ rfl rfl ?ht (info64a kc_len) (words_oneCell kc) ?_
  case ht => simpa [kc_len] using new_there w1 _ 78 64 rfl
  intro w2 hw2
  obtain ⟨hS2, hB2, hz2⟩ := new_words w1 w2 _ _ kc (by rw [kc_len]; rfl) hw2
  clear hw2
  have k0 := (hB2.cell (p := ⟨w.heap.size, 0, none⟩) hl1).trans a0
  have k1 := (hB2.cell (p := ⟨w.heap.size, 1, none⟩) hl1).trans a1
  have k2 := (hB2.cell (p := ⟨w.heap.size, 2, none⟩) hl1).trans a2
  have k3 := (hB2.cell (p := ⟨w.heap.size, 3, none⟩) hl1).trans a3
  have k4 := (hB2.cell (p := ⟨w.heap.size, 4, none⟩) hl1).trans a4
  have k5 := (hB2.cell (p := ⟨w.heap.size, 5, none⟩) hl1).trans a5
  have k6 := (hB2.cell (p := ⟨w.heap.size, 6, none⟩) hl1).trans a6
  have k7 := (hB2.cell (p := ⟨w.heap.size, 7, none⟩) hl1).trans a7
  have HS2 := Lib.hid hS2
  have HA12 := Lib.hid (HA1.out.below hB2 hl1)
  have HA22 := Lib.hid (HA2.out.below hB2 hl2)
  have hB3 := hB1.trans (hB2.mono (by omega))
  have HZ2 := Lib.hid hz2
  have hl3 : w.heap.size < w2.heap.size := by omega
  have hl4 : w.heap.size + 1 < w2.heap.size := by omega
  have hl5 : w1.heap.size < w2.heap.size := by omega
  clear hS2 hz2 a0 a1 a2 a3 a4 a5 a6 a7 HA1 HA2 hB2 hB1
  go_upto_region 4 with (fail)
  go_step
  refine op_named rfl (.agg (zeros64.map (Value.int .u32)).toArray) (by as_aux_lemma => kernel_rfl) ?_
  go_step
  go_step
  go_step
  refine store_named rfl 78 _ _ rfl w2.heap.size 0 _ rfl rfl ?ht2 (info64a zeros64_len) (words_oneCell zeros64) ?_
  case ht2 => simpa [zeros64_len] using new_there w2 _ 78 64 rfl
  intro w3 hw3
  obtain ⟨hT3, hB4, hz3⟩ := new_words w2 w3 _ _ zeros64 (by rw [zeros64_len]; rfl) hw3
  clear hw3
  have HT3 := Lib.hid (pad_zeros hT3)
  have hl6 : w2.heap.size < w3.heap.size := by omega
  have hBw := hB3
  clear hT3 hz3 hB3
  go_wp2_with fail
  go_loopw [8, 29] (fun _ i wr => ∃ k : Nat, k ≤ 16 ∧ i = .int .i64 k ∧ Pad64 wr w2.heap.size ((List.range k).map (wd bs)) ∧ w2.heap.size < wr.heap.size ∧ Below w2.heap.size w2 wr) (fun _ i _ => 16 - (intOf i).toNat)
  case atStart => exact ⟨0, Nat.zero_le _, rfl, HT3.out, hl6, hB4⟩
  case round =>
    obtain ⟨k, hk, rfl, hP, hls, hB⟩ := hrel
    have r0 : (0 : Int) ≤ (k : Int) := by omega
    by_cases hlt : k < 16
    · have g := G.out wr (hBw.trans (hB.mono (by omega)))
      have g0 := g (4 * k) (by omega)
      have g1 := g (4 * k + 1) (by omega)
      have g2 := g (4 * k + 2) (by omega)
      have g3 := g (4 * k + 3) (by omega)
      have hxk := hP.1 k (by omega)
      have fk := hP.2 k
      have HP := Lib.hid hP
      clear hP g
      have e0 : IntKind.i64.wrap (4 * (k : Int)) = 4 * (k : Int) := IntWalk.i64_in _ (by omega)
      have e1 : IntKind.i64.wrap (4 * (k : Int) + 1) = 4 * (k : Int) + 1 := IntWalk.i64_in _ (by omega)
      have e2 : IntKind.i64.wrap (4 * (k : Int) + 2) = 4 * (k : Int) + 2 := IntWalk.i64_in _ (by omega)
      have e3 : IntKind.i64.wrap (4 * (k : Int) + 3) = 4 * (k : Int) + 3 := IntWalk.i64_in _ (by omega)
      have n0 : (4 * (k : Int)).toNat = 4 * k := by omega
      have n1 : (4 * (k : Int) + 1).toNat = 4 * k + 1 := by omega
      have n2 : (4 * (k : Int) + 2).toNat = 4 * k + 2 := by omega
      have n3 : (4 * (k : Int) + 3).toNat = 4 * k + 3 := by omega
      have p0 : (0 : Int) ≤ 4 * (k : Int) := by omega
      have p1 : (0 : Int) ≤ 4 * (k : Int) + 1 := by omega
      have p2 : (0 : Int) ≤ 4 * (k : Int) + 2 := by omega
      have p3 : (0 : Int) ≤ 4 * (k : Int) + 3 := by omega
      have q0 : 4 * (k : Int) < 64 := by omega
      have q1 : 4 * (k : Int) + 1 < 64 := by omega
      have q2 : 4 * (k : Int) + 2 < 64 := by omega
      have q3 : 4 * (k : Int) + 3 < 64 := by omega
      have r1 : (k : Int) < 64 := by omega
      go_wp2_with fail
      go_still_tail 35, (by kernel_rfl)
      change wpList _ _ _ _ _ wr.drew
      clear e0 e1 e2 e3 n0 n1 n2 n3 p0 p1 p2 p3 q0 q1 q2 q3
      go_wp2_with fail
      refine ⟨⟨k + 1, by omega, by go_num, ?_, by simpa [size_setCell] using hls, (hB.setCell (Nat.le_refl _) _).drew⟩, by simp [intOf]; omega⟩
      rw [List.range_succ, List.map_append]
      exact (HP.out.push (wd bs k) (by simp) (by omega)).drew
    · have HP : Pad64 wr w2.heap.size (schedN bs 0) := by
        have e : k = 16 := by omega
        rw [e] at hP
        exact hP
      have hge : (16 : Int) ≤ (k : Int) := by omega
      clear hP G HT3
      go_wp2_with fail
      go_loopw [9, 10, 11] (fun i _ _ wr => ∃ n : Nat, n ≤ 48 ∧ i = .int .i64 ((n : Int) + 16) ∧ Pad64 wr w2.heap.size (schedN bs n) ∧ w2.heap.size < wr.heap.size ∧ Below w2.heap.size w2 wr) (fun i _ _ _ => 64 - (intOf i).toNat)
      case atStart => exact ⟨0, by omega, rfl, HP, hls, hB⟩
      case round =>
        clear HP hls hB
        obtain ⟨n, hn, rfl, hP, hls, hB⟩ := hrel
        have hls4 := hls
        by_cases hlt : n < 48
        · have g0 := hP.1 n (by omega)
          have g1 := hP.1 (n + 1) (by omega)
          have g9 := hP.1 (n + 9) (by omega)
          have g14 := hP.1 (n + 14) (by omega)
          have gx := hP.1 (n + 16) (by omega)
          have fx := hP.2 (n + 16)
          have HP := Lib.hid hP
          clear hP
          have r0 : (0 : Int) ≤ (n : Int) := by omega
          have r1 : (n : Int) < 48 := by omega
          have m1 : (n : Int) + 16 - 15 = (n : Int) + 1 := by omega
          have m2 : (n : Int) + 16 - 2 = (n : Int) + 14 := by omega
          have m3 : (n : Int) + 16 - 16 = (n : Int) := by omega
          have m4 : (n : Int) + 16 - 7 = (n : Int) + 9 := by omega
          have e1 : IntKind.i64.wrap ((n : Int) + 1) = (n : Int) + 1 := IntWalk.i64_in _ (by omega)
          have e2 : IntKind.i64.wrap ((n : Int) + 14) = (n : Int) + 14 := IntWalk.i64_in _ (by omega)
          have e3 : IntKind.i64.wrap (n : Int) = (n : Int) := IntWalk.i64_in _ (by omega)
          have e4 : IntKind.i64.wrap ((n : Int) + 9) = (n : Int) + 9 := IntWalk.i64_in _ (by omega)
          have n1 : ((n : Int) + 1).toNat = n + 1 := by omega
          have n2 : ((n : Int) + 14).toNat = n + 14 := by omega
          have n4 : ((n : Int) + 9).toNat = n + 9 := by omega
          have n5 : ((n : Int) + 16).toNat = n + 16 := by omega
          have p1 : (0 : Int) ≤ (n : Int) + 1 := by omega
          have p2 : (0 : Int) ≤ (n : Int) + 14 := by omega
          have p4 : (0 : Int) ≤ (n : Int) + 9 := by omega
          have p5 : (0 : Int) ≤ (n : Int) + 16 := by omega
          have q1 : (n : Int) + 1 < 64 := by omega
          have q2 : (n : Int) + 14 < 64 := by omega
          have q3 : (n : Int) < 64 := by omega
          have q4 : (n : Int) + 9 < 64 := by omega
          have q5 : (n : Int) + 16 < 64 := by omega
          go_wp2_with fail
          go_quiet ((go_at_call 63; first | (with_reducible exact quiet_w (turn_any _ _ _ (by omega))) | (with_reducible exact quiet_wa (turn_any _ _ _ (by omega)))))
          rename Nat => q1
          go_wp2_with fail
          go_quiet ((go_at_call 63; first | (with_reducible exact quiet_w (turn_any _ _ _ (by omega))) | (with_reducible exact quiet_wa (turn_any _ _ _ (by omega)))))
          go_wp2_with fail
          have HP2 : Hid (Pad64 ((wr.drewN q1).drewN nq) w2.heap.size (schedN bs n)) := Lib.hid ((HP.out.drewN q1).drewN nq)
          have hB2 : Below w2.heap.size w2 ((wr.drewN q1).drewN nq) := bdrN (bdrN hB q1) nq
          have hls2 : w2.heap.size < ((wr.drewN q1).drewN nq).heap.size := hls
          have d0 : ((wr.drewN q1).drewN nq).cell? ⟨w2.heap.size, n, none⟩ = _ := g0
          have d9 : ((wr.drewN q1).drewN nq).cell? ⟨w2.heap.size, n + 9, none⟩ = _ := g9
          have dx : ((wr.drewN q1).drewN nq).cell? ⟨w2.heap.size, n + 16, none⟩ = _ := gx
          have df : ((wr.drewN q1).drewN nq).frozen? ⟨w2.heap.size, n + 16, none⟩ = false := fx
          clear g0 g1 g9 g14 gx fx HP hB hls
          generalize (wr.drewN q1).drewN nq = wq at HP2 hB2 hls2 d0 d9 dx df ⊢
          go_still_tail 15, (by kernel_rfl)
          change wpList _ _ _ _ _ wq.drew
          clear e1 e2 e3 e4 n1 n2 n4 p1 p2 p4 q2 q3 q4 m1 m2 m3 m4
          go_wp2_with fail
          refine ⟨⟨n + 1, by omega, by go_num, ?_, by simpa [size_setCell] using hls2, (hB2.setCell (Nat.le_refl _) _).drew⟩, by simp [intOf]; omega⟩
          exact (HP2.out.push _ (schedN_len bs n) (by omega)).drew
        · have hge : (48 : Int) ≤ (n : Int) := by omega
          have HP : Hid (Pad64 wr w2.heap.size (sched bs)) := Lib.hid (by
            have e : n = 48 := by omega
            rw [e] at hP
            exact hP)
          clear hP
          have HS4 := Lib.hid (HS2.out.below hB hl5)
          have HA4 := Lib.hid (HA12.out.below hB hl3)
          have HO4 := Lib.hid (HA22.out.below hB hl4)
          have b0 := (hB.cell (p := ⟨w.heap.size, 0, none⟩) hl3).trans k0
          have b1 := (hB.cell (p := ⟨w.heap.size, 1, none⟩) hl3).trans k1
          have b2 := (hB.cell (p := ⟨w.heap.size, 2, none⟩) hl3).trans k2
          have b3 := (hB.cell (p := ⟨w.heap.size, 3, none⟩) hl3).trans k3
          have b4 := (hB.cell (p := ⟨w.heap.size, 4, none⟩) hl3).trans k4
          have b5 := (hB.cell (p := ⟨w.heap.size, 5, none⟩) hl3).trans k5
          have b6 := (hB.cell (p := ⟨w.heap.size, 6, none⟩) hl3).trans k6
          have b7 := (hB.cell (p := ⟨w.heap.size, 7, none⟩) hl3).trans k7
          have hB5 : Below w.heap.size w wr := hBw.trans (hB.mono (by omega))
          have hl8 : w.heap.size < wr.heap.size := by omega
          have hl9 : w.heap.size + 1 < wr.heap.size := by omega
          have hl10 : w1.heap.size < wr.heap.size := by omega
          clear hB hBw HS2 HA12 HA22 k0 k1 k2 k3 k4 k5 k6 k7 hB4
          obtain ⟨w4, rfl⟩ : ∃ x : World, x = wr := ⟨_, rfl⟩
          go_wp2_with fail
          go_loopw [13, 14, 15, 16, 17, 18, 19, 20, 21, 122] (fun _ _ _ _ _ _ _ _ _ i wr => ∃ k : Nat, k ≤ 64 ∧ i = .int .i64 k ∧ Arr wr w4.heap.size (runN (sched bs) [h0, h1, h2, h3, h4, h5, h6, h7] k) ∧ w4.heap.size < wr.heap.size ∧ Below w4.heap.size w4 wr) (fun _ _ _ _ _ _ _ _ _ i _ => 64 - (intOf i).toNat)
          case atStart =>
            refine ⟨0, Nat.zero_le _, rfl, ⟨fun j hj => ?_, fun j => by simp [go_sem]⟩, by simp, bal brf _⟩
            rw [World.cell?_alloc_at _ _ _ _ rfl]
            match j, hj with
            | 0, _ | 1, _ | 2, _ | 3, _ | 4, _ | 5, _ | 6, _ | 7, _ => rfl
          case round =>
            clear b0 b1 b2 b3 b4 b5 b6 b7
            obtain ⟨k, hk, rfl, hA, hls, hB⟩ := hrel
            have r0 : (0 : Int) ≤ (k : Int) := by omega
            by_cases hlt : k < 64
            · have r1 : (k : Int) < 64 := by omega
              have HR : Hid (runN (sched bs) [h0, h1, h2, h3, h4, h5, h6, h7] (k + 1) = stepL (runN (sched bs) [h0, h1, h2, h3, h4, h5, h6, h7] k) (kc.getD k 0) ((sched bs).getD k 0)) := Lib.hid rfl
              obtain ⟨v0, v1, v2, v3, v4, v5, v6, v7, hv⟩ := len8 (runN_len (sched bs) [h0, h1, h2, h3, h4, h5, h6, h7] rfl k)
              rw [hv] at hA
              have HV := Lib.hid hv
              have gK := (HS4.out.below hB hl10).1 k (by rw [kc_len]; exact hlt)
              have gS := (HP.out.below hB hls4).1 k hlt
              have c0 := hA.1 0 (by simp)
              have c1 := hA.1 1 (by simp)
              have c2 := hA.1 2 (by simp)
              have c3 := hA.1 3 (by simp)
              have c4 := hA.1 4 (by simp)
              have c5 := hA.1 5 (by simp)
              have c6 := hA.1 6 (by simp)
              have c7 := hA.1 7 (by simp)
              simp at c0 c1 c2 c3 c4 c5 c6 c7
              have HA := Lib.hid hA
              clear hA hv
              go_wp2_with fail
              go_quiet (fail)
              rename Nat => q1
              go_wp2_with fail
              go_quiet ((go_at_call 63; first | (with_reducible exact quiet_w (turn_any _ _ _ (by omega))) | (with_reducible exact quiet_wa (turn_any _ _ _ (by omega)))))
              go_wp2_with fail
              refine (turn_any _ _ _ (by omega)).mono ?_; rintro e w' ⟨rfl, rfl⟩
              go_wp2_with fail
              refine (turn_any _ _ _ (by omega)).mono ?_; rintro e w' ⟨rfl, rfl⟩
              go_wp2_with fail
              refine (turn_any _ _ _ (by omega)).mono ?_; rintro e w' ⟨rfl, rfl⟩
              have HA3 := Lib.hid (HA.out.drewN (q1 + nq))
              have hB3 : Below w4.heap.size w4 (wr.drewN (q1 + nq)) := bdrN hB (q1 + nq)
              have hls3 : w4.heap.size < (wr.drewN (q1 + nq)).heap.size := hls
              have d0 : (wr.drewN (q1 + nq)).cell? ⟨w4.heap.size, 0, none⟩ = _ := c0
              have f0 : (wr.drewN (q1 + nq)).frozen? ⟨w4.heap.size, 0, none⟩ = false := HA.out.2 0
              have d1 : (wr.drewN (q1 + nq)).cell? ⟨w4.heap.size, 1, none⟩ = _ := c1
              have f1 : (wr.drewN (q1 + nq)).frozen? ⟨w4.heap.size, 1, none⟩ = false := HA.out.2 1
              have d2 : (wr.drewN (q1 + nq)).cell? ⟨w4.heap.size, 2, none⟩ = _ := c2
              have f2 : (wr.drewN (q1 + nq)).frozen? ⟨w4.heap.size, 2, none⟩ = false := HA.out.2 2
              have d3 : (wr.drewN (q1 + nq)).cell? ⟨w4.heap.size, 3, none⟩ = _ := c3
              have f3 : (wr.drewN (q1 + nq)).frozen? ⟨w4.heap.size, 3, none⟩ = false := HA.out.2 3
              have d4 : (wr.drewN (q1 + nq)).cell? ⟨w4.heap.size, 4, none⟩ = _ := c4
              have f4 : (wr.drewN (q1 + nq)).frozen? ⟨w4.heap.size, 4, none⟩ = false := HA.out.2 4
              have d5 : (wr.drewN (q1 + nq)).cell? ⟨w4.heap.size, 5, none⟩ = _ := c5
              have f5 : (wr.drewN (q1 + nq)).frozen? ⟨w4.heap.size, 5, none⟩ = false := HA.out.2 5
              have d6 : (wr.drewN (q1 + nq)).cell? ⟨w4.heap.size, 6, none⟩ = _ := c6
              have f6 : (wr.drewN (q1 + nq)).frozen? ⟨w4.heap.size, 6, none⟩ = false := HA.out.2 6
              have d7 : (wr.drewN (q1 + nq)).cell? ⟨w4.heap.size, 7, none⟩ = _ := c7
              have f7 : (wr.drewN (q1 + nq)).frozen? ⟨w4.heap.size, 7, none⟩ = false := HA.out.2 7
              clear c0 c1 c2 c3 c4 c5 c6 c7 gK gS HA hB hls
              generalize wr.drewN (q1 + nq) = wq at HA3 hB3 hls3 d0 d1 d2 d3 d4 d5 d6 d7 f0 f1 f2 f3 f4 f5 f6 f7 ⊢
              go_wp2_with fail
              refine ⟨⟨k + 1, by omega, by go_num, ?_, by simpa [size_setCell] using hls3, ?_⟩, by simp [intOf]; omega⟩
              · rw [HR.out, HV.out]
                exact (((((((HA3.out.set _ (by simp)).set _ (by simp)).set _ (by simp)).set _ (by simp)).set _ (by simp)).set _ (by simp)).set _ (by simp)).set _ (by simp)
              · exact (((((((hB3.setCell (Nat.le_refl _) _).setCell (Nat.le_refl _) _).setCell (Nat.le_refl _) _).setCell (Nat.le_refl _) _).setCell (Nat.le_refl _) _).setCell (Nat.le_refl _) _).setCell (Nat.le_refl _) _).setCell (Nat.le_refl _) _
            · have hk64 : k = 64 := by omega
              rw [hk64] at hA
              have hge : (64 : Int) ≤ (k : Int) := by omega
              have HV := Lib.hid hA
              have hBw : Below w.heap.size w wr := hB5.trans (hB.mono (by omega))
              have HH := Lib.hid (HA4.out.below hB hl8)
              have HO := Lib.hid (HO4.out.below hB hl9)
              clear hA hk64 HS4 HA4 HO4 HP hB5 HZ2 hB
              obtain ⟨w5, rfl⟩ : ∃ x : World, x = wr := ⟨_, rfl⟩
              go_wp2_with fail
              go_loopw [22, 206] (fun _ i wr => ∃ n : Nat, n ≤ 8 ∧ i = .int .i64 n ∧ Arr wr w4.heap.size (addN (runN (sched bs) [h0, h1, h2, h3, h4, h5, h6, h7] 64) [h0, h1, h2, h3, h4, h5, h6, h7] n) ∧ Arr wr w.heap.size [h0, h1, h2, h3, h4, h5, h6, h7] ∧
                Arr wr (w.heap.size + 1) [0, 0, 0, 0, 0, 0, 0, 0] ∧ Below w.heap.size w wr) (fun _ i _ => 8 - (intOf i).toNat)
              case atStart => exact ⟨0, Nat.zero_le _, rfl, HV.out, HH.out, HO.out, hBw⟩
              case round =>
                obtain ⟨n, hn, rfl, hA, hV, hO, hB⟩ := hrel
                have r0 : (0 : Int) ≤ (n : Int) := by omega
                by_cases hlt : n < 8
                · have r1 : (n : Int) < 8 := by omega
                  have gH := hA.1 n (by rw [addN_len, runN_len _ _ rfl]; exact hlt)
                  have gV := hV.1 n (by simp; omega)
                  have fH := hA.2 n
                  have HA := Lib.hid hA
                  have HV2 := Lib.hid hV
                  have HO2 := Lib.hid hO
                  have HL : Hid (∃ y, y = ([h0, h1, h2, h3, h4, h5, h6, h7] : List Int)) := ⟨_, rfl⟩
                  clear hA hV hO HH HV HO
                  obtain ⟨hl, ehl⟩ := HL.out
                  rw [← ehl] at gV gH
                  have E := Lib.hid ehl
                  clear ehl
                  go_wp2_with fail
                  go_still_tail 8, (by kernel_rfl)
                  change wpList _ _ _ _ _ wr.drew
                  go_wp2_with fail
                  refine ⟨⟨n + 1, by omega, by go_num, ?_, (HV2.out.far (by omega)).drew, (HO2.out.far (by omega)).drew, (hB.setCell (by show _ ≤ w4.heap.size; omega) _).drew⟩, by simp [intOf]; omega⟩
                  have HA' := HA.out
                  rw [← E.out] at HA' ⊢
                  exact (HA'.set _ (by rw [addN_len, runN_len _ _ (by rw [E.out]; rfl)]; exact hlt)).drew
                · have hn8 : n = 8 := by omega
                  rw [hn8] at hA
                  have hge8 : (8 : Int) ≤ (n : Int) := by omega
                  obtain ⟨x0, x1, x2, x3, x4, x5, x6, x7, hx⟩ := len8 (blk_len (l := [h0, h1, h2, h3, h4, h5, h6, h7]) rfl bs)
                  have hA' : Arr wr w4.heap.size [x0, x1, x2, x3, x4, x5, x6, x7] := by
                    rw [← hx, blk, ← addN_swap rfl (runN_len _ _ rfl _)]
                    exact hA
                  have HX := Lib.hid hx
                  have a0 := hA'.1 0 (by simp)
                  have o0 := hO.1 0 (by simp)
                  have z0 := hO.2 0
                  have a1 := hA'.1 1 (by simp)
                  have o1 := hO.1 1 (by simp)
                  have z1 := hO.2 1
                  have a2 := hA'.1 2 (by simp)
                  have o2 := hO.1 2 (by simp)
                  have z2 := hO.2 2
                  have a3 := hA'.1 3 (by simp)
                  have o3 := hO.1 3 (by simp)
                  have z3 := hO.2 3
                  have a4 := hA'.1 4 (by simp)
                  have o4 := hO.1 4 (by simp)
                  have z4 := hO.2 4
                  have a5 := hA'.1 5 (by simp)
                  have o5 := hO.1 5 (by simp)
                  have z5 := hO.2 5
                  have a6 := hA'.1 6 (by simp)
                  have o6 := hO.1 6 (by simp)
                  have z6 := hO.2 6
                  have a7 := hA'.1 7 (by simp)
                  have o7 := hO.1 7 (by simp)
                  have z7 := hO.2 7
                  simp at a0 a1 a2 a3 a4 a5 a6 a7 o0 o1 o2 o3 o4 o5 o6 o7
                  have hl7 : w.heap.size + 1 < wr.heap.size := cell_lt o0
                  clear hA hA' hV hO hn8 hx HH HV HO
                  go_wp2_with fail
                  rw [HX.out]
                  refine bodyPost_ret (v := .tuple #[.agg #[.int .u32 x0, .int .u32 x1, .int .u32 x2, .int .u32 x3, .int .u32 x4, .int .u32 x5, .int .u32 x6, .int .u32 x7], .int .i64 0]) ?_ rfl ⟨rfl, ?_⟩
                  · simp [results, Tryd.results57, go_sem, o0, o1, o2, o3, o4, o5, o6, o7]
                  · exact (((((((hB.setCell (Nat.le_succ _) _).setCell (Nat.le_succ _) _).setCell (Nat.le_succ _) _).setCell (Nat.le_succ _) _).setCell (Nat.le_succ _) _).setCell (Nat.le_succ _) _).setCell (Nat.le_succ _) _).setCell (Nat.le_succ _) _
end Go.Proofs.YtmkmndgdakpojaaDoor
