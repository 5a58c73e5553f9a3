/- sha.Block: its contract. -/
import Derived.Test.YtmkmndgdakpojaaDoorSb
import Derived.BigQuiet
namespace Go.Proofs.YtmkmndgdakpojaaDoor
open Go.RowKit
set_option linter.unusedSimpArgs false
set_option linter.unusedVariables false

theorem len8 {l : List Int} (h : l.length = 8) : ∃ a b c d e f g i, l = [a, b, c, d, e, f, g, i] := by
  match l, h with
  | [a, b, c, d, e, f, g, i], _ => exact ⟨a, b, c, d, e, f, g, i, rfl⟩

/-- The table's numbers. -/
def kc : List Int := [1116352408, 1899447441, 3049323471, 3921009573, 961987163, 1508970993, 2453635748, 2870763221, 3624381080, 310598401, 607225278, 1426881987, 1925078388, 2162078206, 2614888103, 3248222580, 3835390401, 4022224774, 264347078, 604807628, 770255983, 1249150122, 1555081692, 1996064986, 2554220882, 2821834349, 2952996808, 3210313671, 3336571891, 3584528711, 113926993, 338241895, 666307205, 773529912, 1294757372, 1396182291, 1695183700, 1986661051, 2177026350, 2456956037, 2730485921, 2820302411, 3259730800, 3345764771, 3516065817, 3600352804, 4094571909, 275423344, 430227734, 506948616, 659060556, 883997877, 958139571, 1322822218, 1537002063, 1747873779, 1955562222, 2024104815, 2227730452, 2361852424, 2428436474, 2756734187, 3204031479, 3329325298]
/-- The table lies where the program's text laid it. -/
def Konst (w : World) : Prop := ∀ j, j < 64 → w.cell? ⟨0, j, none⟩ = some (.int .u32 (kc.getD j 0))
theorem Konst.below {w w' : World} {B : Nat} (h : Konst w) (hb : Below B w w') (hB : 0 < B) : Konst w' := fun j hj => (hb.cell (p := ⟨0, j, none⟩) hB).trans (h j hj)

/-- What a word of the round, and the first word, come to. -/
def stepL (l : List Int) (k w : Int) : List Int :=
  match l with
  | [a, b, c, d, e, f, g, h] =>
    let t1 := h + xorU (xorU (rotI e 6) (rotI e 11)) (rotI e 25) + xorU (andU e f) (andU (xorU IntKind.u32.max e) g) + k + w
    let t2 := xorU (xorU (rotI a 2) (rotI a 13)) (rotI a 22) + xorU (xorU (andU a b) (andU a c)) (andU b c)
    [(t1 + t2) % 4294967296, a, b, c, (d + t1) % 4294967296, e, f, g]
  | _ => []


def runN (ws : List Int) (l : List Int) : Nat → List Int
  | 0 => l
  | n + 1 => stepL (runN ws l n) (kc.getD n 0) (ws.getD n 0)
theorem stepL_len {l : List Int} (h : l.length = 8) (k w : Int) : (stepL l k w).length = 8 := by
  obtain ⟨a, b, c, d, e, f, g, i, rfl⟩ := len8 h
  rfl
theorem runN_len (ws l : List Int) (h : l.length = 8) (n : Nat) : (runN ws l n).length = 8 := by
  induction n with
  | zero => exact h
  | succ n ih => exact stepL_len ih _ _

def addN (l v : List Int) : Nat → List Int
  | 0 => l
  | n + 1 => (addN l v n).set n (((addN l v n).getD n 0 + v.getD n 0) % 4294967296)
theorem addN_len (l v : List Int) (n : Nat) : (addN l v n).length = l.length := by
  induction n with
  | zero => rfl
  | succ n ih => simp [addN, ih]
/-- What eight words become by a block. -/
def blk (l bs : List Int) : List Int := addN l (runN (sched bs) l 64) 8
theorem blk_len {l : List Int} (h : l.length = 8) (bs : List Int) : (blk l bs).length = 8 := by rw [blk, addN_len, h]

/-- A store of a whole row, the world behind it under a name. -/
theorem store_named {P : Program} {ops : Array Oper} {rest : List Oper} {op : Oper} {a : Act} {w : World} {Q : Exit → Act → World → Prop} (hgd : op.guard = none) (ty : TypeId) (x y : Operand) (ho : op.op = .store ty x y)
    (b o : Nat) (cells : Array Value) (hx : a.eval x = .pointer (some ⟨b, o, none⟩)) (hy : a.eval y = .agg cells)
    (ht : w.there b o cells.size) (hi : (P.info? ty).map (·.size) = some cells.size) (h1 : cells.all (·.oneCell') = true)
    (h : ∀ w2, w2 = w.setCells b o cells.toList → wpList P ops Q rest (a.put op.dst undef) w2) : wpList P ops Q (op :: rest) a w :=
  wpList_store_mid hgd ty x y ho b o cells hx hy ht hi h1 (h _ rfl)

/-- A copy into cells that are there, the world behind it under a name. -/
theorem copy_named {P : Program} {ops : Array Oper} {rest : List Oper} {op : Oper} {act : Act} {w : World} {Q : Exit → Act → World → Prop} (hgd : op.guard = none) (d s : Operand) (dT sT elem : TypeId)
    (ho : op.op = .call { callee := .builtin .copy, args := #[d, s], argTypes := #[dT, sT] }) (b o dLen dCap : Nat) (a : Addr) (sLen sCap : Nat) (cs : List Value)
    (hd : act.eval d = .slice (some ⟨b, o, none⟩) dLen dCap) (hs : act.eval s = .slice (some a) sLen sCap)
    (hu : P.underlying dT = some (.slice elem)) (hi : (P.info? elem).map (·.size) = some 1) (hn : cs.length = Nat.min sLen dLen)
    (hsrc : ∀ j v, cs[j]? = some v → w.cell? (a.add j) = some v) (hc : ∀ j, j < cs.length → (w.cell? ⟨b, o + j, none⟩).isSome = true) (hf : ∀ j, j < cs.length → w.frozen? ⟨b, o + j, none⟩ = false) (h1 : ∀ v ∈ cs, v.oneCell' = true)
    (h : ∀ w2, w2 = w.setCells b o cs → wpList P ops Q rest (act.put op.dst (goInt cs.length)) w2) : wpList P ops Q (op :: rest) act w :=
  wpList_plain hgd fun K hK => by
    have hr := fun ty => run_copy_cells (P := P) w dT sT ty elem b o dLen dCap a sLen sCap cs hu hi hn hsrc hc hf h1
    unfold Oper.wp execOp
    simp only [ho, resolve, invoke, builtin, Sem.run_bind, Sem.run_pure, Result.andThen_ok, List.map_toArray, List.map_cons, List.map_nil, hd, hs, hr]
    exact hK _ _ (h _ rfl)

/-- A row of eight, its first seven moved on by one. -/
theorem moved {w w2 : World} {B : Nat} {a b c d e f g i : Int} (h : Arr w B [a, b, c, d, e, f, g, i]) (hw : w2 = w.setCells B 1 [.int .u32 a, .int .u32 b, .int .u32 c, .int .u32 d, .int .u32 e, .int .u32 f, .int .u32 g]) :
    Arr w2 B [a, a, b, c, d, e, f, g] ∧ Below B w w2 ∧ w2.heap.size = w.heap.size := by
  subst hw
  refine ⟨⟨fun j hj => ?_, fun j => by rw [World.frozen?_setCells]; exact h.2 j⟩, below_cells (Nat.le_refl _) _ _ (Below.refl _ _), by rw [size_cells]⟩
  have hin := World.cell?_setCells_in B [Value.int .u32 a, .int .u32 b, .int .u32 c, .int .u32 d, .int .u32 e, .int .u32 f, .int .u32 g] 1 w (fun j hj => by
    rw [Nat.add_comm, h.1 (j + 1) (by simp at hj ⊢; omega)]; rfl)
  match j, hj with
  | 0, _ =>
    rw [World.cell?_setCells_out _ _ _ _ _ (fun _ _ => .inl (by simp))]
    exact h.1 0 (by simp)
  | 1, _ => exact hin 0 (by simp)
  | 2, _ => exact hin 1 (by simp)
  | 3, _ => exact hin 2 (by simp)
  | 4, _ => exact hin 3 (by simp)
  | 5, _ => exact hin 4 (by simp)
  | 6, _ => exact hin 5 (by simp)
  | 7, _ => exact hin 6 (by simp)

/-- A new row of so many cells. -/
theorem new_there (w : World) (z : Array Value) (t : TypeId) (n : Nat) (hz : z.size = n) : (w.alloc (.cells z t)).there w.heap.size 0 n := fun j hj => by
  rw [Nat.zero_add, World.cell?_alloc_at _ _ _ _ rfl]
  exact ⟨by rw [Array.getElem?_eq_getElem (by omega)]; rfl, by simp [go_sem]⟩

/-- What was stored over a new row. -/
theorem new_words (w w2 : World) (z : Array Value) (t : TypeId) (ws : List Int) (hz : z.size = ws.length) (hw : w2 = (w.alloc (.cells z t)).setCells w.heap.size 0 (ws.map (Value.int .u32)).toArray.toList) :
    Arr w2 w.heap.size ws ∧ Below w.heap.size w w2 ∧ w2.heap.size = w.heap.size + 1 := by
  subst hw
  refine ⟨⟨fun j hj => ?_, fun j => by rw [World.frozen?_setCells]; simp [go_sem]⟩, below_cells (Nat.le_refl _) _ _ (bal brf _), by rw [size_cells]; simp⟩
  have := World.rangeAt_setCells_same (w.alloc (.cells z t)) w.heap.size 0 (ws.map (Value.int .u32)) (by simpa using new_there w z t ws.length hz) j (.int .u32 (ws.getD j 0)) (by simp [List.getD, List.getElem?_eq_getElem hj])
  rwa [Nat.zero_add] at this

def IsBlk (w : World) (l : List Int) (e : Ending) (w' : World) : Prop := e = .returned (.tuple #[.agg (l.map (Value.int .u32)).toArray, .int .i64 0]) ∧ Below w.heap.size w w'

set_option maxRecDepth 100000 in
set_option maxHeartbeats 4000000 in
theorem block_any (A : Option Addr) (c : Nat) (h0 h1 h2 h3 h4 h5 h6 h7 : Int) (bs : List Int) (w : World) (hn : bs.length = 64) (hx : Rd w A (nums .u8 bs)) (hK : Konst w) :
    Calls Tryd.prog 54 #[.agg #[.int .u32 h0, .int .u32 h1, .int .u32 h2, .int .u32 h3, .int .u32 h4, .int .u32 h5, .int .u32 h6, .int .u32 h7], .slice A 64 c] w (IsBlk w (blk [h0, h1, h2, h3, h4, h5, h6, h7] bs)) := by
  have HN := Lib.hid hn
  have HK := Lib.hid hK
  have HX := Lib.hid hx
  clear hn hK hx
  go_enter Tryd.func54, Tryd.ntmps54
  go_wp2_with fail
  refine (schedule_any A c bs _ HN.out (HX.out.below (bal (bal brf _) _))).mono ?_; rintro e w1 ⟨rfl, hb1⟩
  have hsz := hb1.size
  simp only [World.size_alloc] at hsz
  have hl1 : w.heap.size < w1.heap.size := by omega
  have hl2 : w.heap.size + 1 < w1.heap.size := by omega
  have hA1 : Arr w1 w.heap.size [h0, h1, h2, h3, h4, h5, h6, h7] := ⟨fun j hj => (hb1.cell (p := ⟨w.heap.size, j, none⟩) (by simp; omega)).trans (by
      rw [World.cell?_alloc_past _ _ _ (by simp), World.cell?_alloc_at _ _ _ _ rfl]
      match j, hj with
      | 0, _ | 1, _ | 2, _ | 3, _ | 4, _ | 5, _ | 6, _ | 7, _ => rfl), fun j => (hb1.frozen (p := ⟨w.heap.size, j, none⟩) (by simp; omega)).trans (by simp [go_sem])⟩
  have hA2 : Arr w1 (w.heap.size + 1) [0, 0, 0, 0, 0, 0, 0, 0] := ⟨fun j hj => (hb1.cell (p := ⟨w.heap.size + 1, j, none⟩) (by simp)).trans (by
      rw [World.cell?_alloc_at _ _ _ _ (by simp)]
      match j, hj with
      | 0, _ | 1, _ | 2, _ | 3, _ | 4, _ | 5, _ | 6, _ | 7, _ => rfl), fun j => (hb1.frozen (p := ⟨w.heap.size + 1, j, none⟩) (by simp)).trans (by simp [go_sem])⟩
  have hB1 : Below w.heap.size w w1 := bgo (bal (bal brf _) _) hb1
  have HK1 := Lib.hid (HK.out.below hB1 (by have := cell_lt (HK.out 0 (by omega)); simp at this; omega))
  have a0 := hA1.1 0 (by simp)
  have a1 := hA1.1 1 (by simp)
  have a2 := hA1.1 2 (by simp)
  have a3 := hA1.1 3 (by simp)
  have a4 := hA1.1 4 (by simp)
  have a5 := hA1.1 5 (by simp)
  have a6 := hA1.1 6 (by simp)
  have a7 := hA1.1 7 (by simp)
  simp at a0 a1 a2 a3 a4 a5 a6 a7
  have HA1 := Lib.hid hA1
  have HA2 := Lib.hid hA2
  clear hA1 hA2 hb1 hsz HX HK
  dsimp only
  iterate 4 go_step
  refine store_named rfl 78 _ _ rfl w1.heap.size 0 _ rfl rfl ?ht (info64a (sched_len bs)) (words_oneCell (sched bs)) ?_
  case ht => simpa [sched_len] using new_there w1 _ 78 64 rfl
  intro w2 hw2
  obtain ⟨hS2, hB2, hz2⟩ := new_words w1 w2 _ _ (sched bs) (by rw [sched_len]; rfl) hw2
  clear hw2
  have k0 := (hB2.cell (p := ⟨w.heap.size, 0, none⟩) hl1).trans a0
  have k1 := (hB2.cell (p := ⟨w.heap.size, 1, none⟩) hl1).trans a1
  have k2 := (hB2.cell (p := ⟨w.heap.size, 2, none⟩) hl1).trans a2
  have k3 := (hB2.cell (p := ⟨w.heap.size, 3, none⟩) hl1).trans a3
  have k4 := (hB2.cell (p := ⟨w.heap.size, 4, none⟩) hl1).trans a4
  have k5 := (hB2.cell (p := ⟨w.heap.size, 5, none⟩) hl1).trans a5
  have k6 := (hB2.cell (p := ⟨w.heap.size, 6, none⟩) hl1).trans a6
  have k7 := (hB2.cell (p := ⟨w.heap.size, 7, none⟩) hl1).trans a7
  have HS2 := Lib.hid hS2
  have HA12 := Lib.hid (HA1.out.below hB2 hl1)
  have HA22 := Lib.hid (HA2.out.below hB2 hl2)
  have HK2 := Lib.hid (HK1.out.below hB2 (by omega))
  have hB3 := hB1.trans (hB2.mono (by omega))
  have HZ2 := Lib.hid hz2
  have hl3 : w.heap.size < w2.heap.size := by omega
  have hl4 : w.heap.size + 1 < w2.heap.size := by omega
  have hl5 : w1.heap.size < w2.heap.size := by omega
  clear hS2 hz2 a0 a1 a2 a3 a4 a5 a6 a7 HA1 HA2 HK1 hB2 hB1
  go_wp2_with fail
  go_loopw [8, 9, 10, 11, 12, 21] (fun _ _ _ _ _ i wr => ∃ k : Nat, k ≤ 64 ∧ i = .int .i64 k ∧ Arr wr w2.heap.size (runN (sched bs) [h0, h1, h2, h3, h4, h5, h6, h7] k) ∧ w2.heap.size < wr.heap.size ∧ Below w2.heap.size w2 wr) (fun _ _ _ _ _ i _ => 64 - (intOf i).toNat)
  case atStart =>
    refine ⟨0, Nat.zero_le _, rfl, ⟨fun j hj => ?_, fun j => by simp [go_sem]⟩, by simp, bal brf _⟩
    rw [World.cell?_alloc_at _ _ _ _ rfl]
    match j, hj with
    | 0, _ | 1, _ | 2, _ | 3, _ | 4, _ | 5, _ | 6, _ | 7, _ => rfl
  case round =>
    obtain ⟨k, hk, rfl, hA, hls, hB⟩ := hrel
    have r0 : (0 : Int) ≤ (k : Int) := by omega
    by_cases hlt : k < 64
    · have r1 : (k : Int) < 64 := by omega
      have HR : Hid (runN (sched bs) [h0, h1, h2, h3, h4, h5, h6, h7] (k + 1) = stepL (runN (sched bs) [h0, h1, h2, h3, h4, h5, h6, h7] k) (kc.getD k 0) ((sched bs).getD k 0)) := Lib.hid rfl
      obtain ⟨v0, v1, v2, v3, v4, v5, v6, v7, hv⟩ := len8 (runN_len (sched bs) [h0, h1, h2, h3, h4, h5, h6, h7] rfl k)
      rw [hv] at hA
      have HV := Lib.hid hv
      have gK := (HK2.out.below hB (by omega)) k hlt
      have gS := (HS2.out.below hB hl5).1 k (by rw [sched_len]; omega)
      have c0 := hA.1 0 (by simp)
      have c1 := hA.1 1 (by simp)
      have c2 := hA.1 2 (by simp)
      have c3 := hA.1 3 (by simp)
      have c4 := hA.1 4 (by simp)
      have c5 := hA.1 5 (by simp)
      have c6 := hA.1 6 (by simp)
      have c7 := hA.1 7 (by simp)
      simp at c0 c1 c2 c3 c4 c5 c6 c7
      have HA := Lib.hid hA
      clear hA hv k0 k1 k2 k3 k4 k5 k6 k7
      go_wp2_with fail
      go_quiet (fail)
      rename Nat => q1
      go_wp2_with fail
      go_quiet ((go_at_call 61; first | (with_reducible exact quiet_w (down_any _ _ _ (by omega))) | (with_reducible exact quiet_wa (down_any _ _ _ (by omega)))))
      rename Nat => q2
      go_wp2_with fail
      go_quiet ((go_at_call 61; first | (with_reducible exact quiet_w (down_any _ _ _ (by omega))) | (with_reducible exact quiet_wa (down_any _ _ _ (by omega)))))
      go_wp2_with fail
      have HA3 : Hid (Arr ((wr.drewN (q1 + q2)).drewN nq) w2.heap.size [v0, v1, v2, v3, v4, v5, v6, v7]) := Lib.hid ((HA.out.drewN (q1 + q2)).drewN nq)
      have hB3 : Below w2.heap.size w2 ((wr.drewN (q1 + q2)).drewN nq) := bdrN (bdrN hB _) nq
      have hls3 : w2.heap.size < ((wr.drewN (q1 + q2)).drewN nq).heap.size := hls
      clear c0 c1 c2 c3 c4 c5 c6 c7 gK gS HA hB hls
      generalize (wr.drewN (q1 + q2)).drewN nq = w3 at HA3 hB3 hls3 ⊢
      go_still_tail 2, (by kernel_rfl)
      change wpList _ _ _ _ _ w3.drew
      refine copy_named rfl _ _ 81 81 68 rfl w2.heap.size 1 7 7 ⟨w2.heap.size, 0, none⟩ 7 8 [.int .u32 v0, .int .u32 v1, .int .u32 v2, .int .u32 v3, .int .u32 v4, .int .u32 v5, .int .u32 v6] rfl rfl Tryd.underlying81 (by kernel_rfl) rfl ?_ ?_ ?_ ?_ ?_
      · intro j v hv
        rw [Addr.add_mid, Nat.zero_add]
        have hA := HA3.out.drew
        match j, hv with
        | 0, hv | 1, hv | 2, hv | 3, hv | 4, hv | 5, hv | 6, hv => (rw [hA.1 _ (by simp)]; simpa using hv)
      · intro j hj
        rw [Nat.add_comm, HA3.out.drew.1 (j + 1) (by simp at hj ⊢; omega)]; rfl
      · exact fun j _ => HA3.out.drew.2 _
      · simp [Value.oneCell']
      · intro w4 hw4
        obtain ⟨hA4, hB4, hz4⟩ := moved HA3.out.drew hw4
        clear hw4
        have c0 := hA4.1 0 (by simp)
        have c4 := hA4.1 4 (by simp)
        have f0 := hA4.2 0
        have f4 := hA4.2 4
        simp at c0 c4
        have HA4 := Lib.hid hA4
        clear hA4
        go_wp2_with fail
        refine ⟨⟨k + 1, by omega, by go_num, ?_, ?_, ?_⟩, by simp [intOf]; omega⟩
        · rw [HR.out, HV.out]
          exact (HA4.out.set _ (by simp)).set _ (by simp)
        · rw [size_setCell, size_setCell, hz4]
          exact hls3
        · exact ((hB3.drew.trans hB4).setCell (Nat.le_refl _) _).setCell (Nat.le_refl _) _
    · have hk64 : k = 64 := by omega
      rw [hk64] at hA
      have hge : (64 : Int) ≤ (k : Int) := by omega
      have HV := Lib.hid hA
      have hBw : Below w.heap.size w wr := hB3.trans (hB.mono (by omega))
      have HH := Lib.hid (HA12.out.below hB hl3)
      have HO := Lib.hid (HA22.out.below hB hl4)
      have hl6 : w.heap.size + 1 < wr.heap.size := by omega
      clear hA hk64 k0 k1 k2 k3 k4 k5 k6 k7 HS2 HA12 HA22 HK2 hB3 HZ2 hB
      obtain ⟨w5, rfl⟩ : ∃ x : World, x = wr := ⟨_, rfl⟩
      go_wp2_with fail
      go_loopw [13, 95] (fun _ i wr => ∃ n : Nat, n ≤ 8 ∧ i = .int .i64 n ∧ Arr wr w.heap.size (addN [h0, h1, h2, h3, h4, h5, h6, h7] (runN (sched bs) [h0, h1, h2, h3, h4, h5, h6, h7] 64) n) ∧ Arr wr w2.heap.size (runN (sched bs) [h0, h1, h2, h3, h4, h5, h6, h7] 64) ∧
        Arr wr (w.heap.size + 1) [0, 0, 0, 0, 0, 0, 0, 0] ∧ Below w.heap.size w wr) (fun _ i _ => 8 - (intOf i).toNat)
      case atStart => exact ⟨0, Nat.zero_le _, rfl, HH.out, HV.out, HO.out, hBw⟩
      case round =>
        obtain ⟨n, hn, rfl, hA, hV, hO, hB⟩ := hrel
        have r0 : (0 : Int) ≤ (n : Int) := by omega
        by_cases hlt : n < 8
        · have r1 : (n : Int) < 8 := by omega
          have gH := hA.1 n (by rw [addN_len]; exact hlt)
          have gV := hV.1 n (by rw [runN_len _ _ rfl]; exact hlt)
          have fH := hA.2 n
          have HA := Lib.hid hA
          have HV2 := Lib.hid hV
          have HO2 := Lib.hid hO
          clear hA hV hO HH HV HO
          go_wp2_with fail
          go_still_tail 8, (by kernel_rfl)
          change wpList _ _ _ _ _ wr.drew
          go_wp2_with fail
          refine ⟨⟨n + 1, by omega, by go_num, ?_, (HV2.out.far (by omega)).drew, (HO2.out.far (by omega)).drew, (hB.setCell (Nat.le_refl _) _).drew⟩, by simp [intOf]; omega⟩
          exact (HA.out.set _ (by rw [addN_len]; exact hlt)).drew
        · have hn8 : n = 8 := by omega
          rw [hn8] at hA
          have hge8 : (8 : Int) ≤ (n : Int) := by omega
          obtain ⟨x0, x1, x2, x3, x4, x5, x6, x7, hx⟩ := len8 (blk_len (l := [h0, h1, h2, h3, h4, h5, h6, h7]) rfl bs)
          have hA' : Arr wr w.heap.size [x0, x1, x2, x3, x4, x5, x6, x7] := by rw [← hx]; exact hA
          have HX := Lib.hid hx
          have a0 := hA'.1 0 (by simp)
          have o0 := hO.1 0 (by simp)
          have z0 := hO.2 0
          have a1 := hA'.1 1 (by simp)
          have o1 := hO.1 1 (by simp)
          have z1 := hO.2 1
          have a2 := hA'.1 2 (by simp)
          have o2 := hO.1 2 (by simp)
          have z2 := hO.2 2
          have a3 := hA'.1 3 (by simp)
          have o3 := hO.1 3 (by simp)
          have z3 := hO.2 3
          have a4 := hA'.1 4 (by simp)
          have o4 := hO.1 4 (by simp)
          have z4 := hO.2 4
          have a5 := hA'.1 5 (by simp)
          have o5 := hO.1 5 (by simp)
          have z5 := hO.2 5
          have a6 := hA'.1 6 (by simp)
          have o6 := hO.1 6 (by simp)
          have z6 := hO.2 6
          have a7 := hA'.1 7 (by simp)
          have o7 := hO.1 7 (by simp)
          have z7 := hO.2 7
          simp at a0 a1 a2 a3 a4 a5 a6 a7 o0 o1 o2 o3 o4 o5 o6 o7
          have hl7 : w.heap.size + 1 < wr.heap.size := cell_lt o0
          clear hA hA' hV hO hn8 hx HH HV HO
          go_wp2_with fail
          rw [HX.out]
          refine bodyPost_ret (v := .tuple #[.agg #[.int .u32 x0, .int .u32 x1, .int .u32 x2, .int .u32 x3, .int .u32 x4, .int .u32 x5, .int .u32 x6, .int .u32 x7], .int .i64 0]) ?_ rfl ⟨rfl, ?_⟩
          · simp [results, Tryd.results54, go_sem, o0, o1, o2, o3, o4, o5, o6, o7]
          · exact (((((((hB.setCell (Nat.le_succ _) _).setCell (Nat.le_succ _) _).setCell (Nat.le_succ _) _).setCell (Nat.le_succ _) _).setCell (Nat.le_succ _) _).setCell (Nat.le_succ _) _).setCell (Nat.le_succ _) _).setCell (Nat.le_succ _) _
end Go.Proofs.YtmkmndgdakpojaaDoor
