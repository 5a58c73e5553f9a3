/- mac.Stream: its contract. -/
import Derived.Test.YtgclcpopibjocaaDoorMl
namespace Go.Proofs.YtgclcpopibjocaaDoor
open Go.RowKit Go.Shelf
set_option linter.unusedSimpArgs false
set_option linter.unusedVariables false
set_option maxRecDepth 100000
attribute [local go_sem] Oper.semAt_some

/-- Hashes of a stream, one behind the other. -/
def flatK (key : List Int) (ks : List Nat) : List Int := ks.flatMap (hashK key)
theorem flatK_len (key : List Int) (ks : List Nat) : (flatK key ks).length = 32 * ks.length := by
  unfold flatK
  induction ks with
  | nil => rfl
  | cons a r ih => simp [hashK_len] at ih ⊢; omega
theorem flatK_snoc (key : List Int) (ks : List Nat) (k : Nat) : flatK key (ks ++ [k]) = flatK key ks ++ hashK key k := by simp [flatK]
/-- A stream's first n bytes. -/
def streamL (key : List Int) (n : Nat) : List Int := (flatK key (List.range ((n + 31) / 32))).take n
theorem streamL_len (key : List Int) (n : Nat) : (streamL key n).length = n := by
  rw [streamL, List.length_take, flatK_len, List.length_range]; omega
theorem hashK_byt (key : List Int) (k : Nat) : Byt (hashK key k) := sumL_byt _
theorem streamL_byt (key : List Int) (n : Nat) : Byt (streamL key n) := fun x hx => by
  have h1 := List.mem_of_mem_take hx
  unfold flatK at h1
  obtain ⟨k, _, h2⟩ := List.mem_flatMap.1 h1
  exact hashK_byt key k x h2

theorem own_kept {W W' : World} {row : Option Nat} {base : Nat} {e : TypeId} {s n : Nat} {v : Value} {xs : List Value} (hg : W.grownBy W' row) (hr : ∀ r, row = some r → ∃ o : Obj, W.heap[r]? = some o ∧ o.isCells = false) (h : W.ownsRow base e s v n xs) : W'.ownsRow base e s v n xs := by
  refine ⟨h.1, ?_⟩
  rcases h.2 with h1 | ⟨g, cap, cur, h1, hb, hh, hc⟩
  · exact .inl h1
  · refine .inr ⟨g, cap, cur, h1, hb, (hg.block g (Array.getElem?_eq_some_iff.1 hh).1 fun e' => ?_).trans hh, hc⟩
    obtain ⟨o, h2, h3⟩ := hr g e'.symm
    rw [hh] at h2
    injection h2 with h2
    subst h2
    simp [Obj.isCells] at h3

theorem stream_bad (A : Option Addr) (kn c : Nat) (z : Int) (w : World) (h : z < 0 ∨ 1048576 < z) :
    Calls Tryd.prog 27 #[.slice A kn c, .int .i64 z] w fun e w' => e = .returned (.tuple #[.slice none 0 0, .int .i64 1]) ∧ Below w.heap.size w w' := by
  by_cases h1 : z < 0
  · go_enter Tryd.func27, Tryd.ntmps27
    go_wp2_with fail
    go_ret2
    exact ⟨rfl, bal brf _⟩
  · have h2 : 1048576 < z := by omega
    go_enter Tryd.func27, Tryd.ntmps27
    go_wp2_with fail
    go_ret2
    exact ⟨rfl, bal brf _⟩

/-- A row of its own, and no error. -/
def IsStream (w : World) (ys : List Int) (e : Ending) (w' : World) : Prop :=
  ∃ B c, e = .returned (.tuple #[.slice (some ⟨B, 0, none⟩) ys.length c, .int .i64 0]) ∧ ys.length ≤ c ∧ w.heap.size ≤ B ∧ w'.ownsRow w.heap.size 5 1 (.slice (some ⟨B, 0, none⟩) ys.length c) ys.length (nums .u8 ys) ∧ Below w.heap.size w w'

theorem own_setCell_ne {w : World} {base : Nat} {e : TypeId} {s n : Nat} {v : Value} {xs : List Value} {a : Addr} {u : Value} (h : w.ownsRow base e s v n xs) (ha : v.ownBlock ≠ some a.block) : (w.setCell a u).ownsRow base e s v n xs := by
  refine ⟨h.1, ?_⟩
  rcases h.2 with h1 | ⟨g, cap, cur, h1, hbg, hg, hc⟩
  · exact .inl h1
  · refine .inr ⟨g, cap, cur, h1, hbg, (heap_setCell_ne w (fun e' => ha ?_)).trans hg, hc⟩
    rw [h1, ← e']; rfl

set_option maxRecDepth 100000 in
set_option maxHeartbeats 4000000 in
theorem stream_any (A : Option Addr) (kn c N : Nat) (key : List Int) (w : World) (hkn : key.length = kn) (hk : kn ≤ 3000) (hN : N ≤ 1048576) (hx : Rd w A (nums .u8 key)) (hK : Konst w) :
    Calls Tryd.prog 27 #[.slice A kn c, .int .i64 N] w (IsStream w (streamL key N)) := by
  obtain ⟨i0, hi, hz0, hz1, hz2⟩ := info_parts infoByte
  have r0 : ¬ (N : Int) < 0 := by omega
  have r1 : ¬ (1048576 : Int) < N := by omega
  have HX := Lib.hid hx
  have HK := Lib.hid hK
  have HKN := Lib.hid hkn
  clear hx hK hkn
  refine (callsIn_wide (n := 8)).1 ?_
  refine callsIn_of_wp_marks Tryd.func27 rfl trivial ?_ rfl
  simp only [Tryd.ntmps27, List.size_toArray, List.length_cons, List.length_nil, Nat.reduceAdd, Nat.reduceSub, Array.replicate_succ, Array.replicate_zero, List.push_toArray, List.append_toArray, List.nil_append, List.cons_append]
  have d1 : 1 ≤ 7 := by omega
  gi_wp2_with (first
    | (gi_at_make; refine wpListIn_make_own _ rfl _ _ 22 rfl (w.heap.size + 1) 5 i0 (.int .u8 0) 1 Tryd.underlying22 hi hz0 hz1 .i64 .i64 _ N rfl rfl rfl (by rw [hz2]; omega) (by unfold maxLen; omega) (by rw [World.size_alloc]; omega) ?_; intro w1 hown1 hgrow1; rw [World.size_alloc] at hown1; have hb1 : Below (w.heap.size + 1) (w.alloc (.cells #[.int .i64 N] 3)) w1 := (Below.refl _ _).grown hgrow1 (by rw [World.size_alloc]; omega) (fun k e => by cases e); have hx3 : Box w1 w.heap.size (.int .i64 N) := Box.alloc.below hb1 (by omega); have c3 := hx3.1; have hl1 : w.heap.size + 1 < w1.heap.size := (hown1.lt (w.heap.size + 1) rfl).2; have hl0 : w.heap.size < w1.heap.size := by omega)
    | (refine ⟨trivial, ?_⟩; gi_at_call 54; refine (callsIn_wide.2 (hashes_any _ _ _ _ _)).mono ?_; rintro e w3 ⟨rfl, rfl⟩))
  have hB1 : Below w.heap.size w w1 := (bal brf (.cells #[.int .i64 N] 3)).trans (hb1.mono (by omega))
  obtain ⟨w3, hw3⟩ : ∃ w3, w3 = ((w1.alloc (.cells #[.slice (some ⟨w.heap.size + 1, 0, none⟩) 0 N] 22)).alloc (.cells #[.slice A kn c] 22)).alloc (.cells #[.int .i64 N] 3) := ⟨_, rfl⟩
  have e13 : Below w1.heap.size w1 w3 := by rw [hw3]; exact bal (bal (bal brf _) _) _
  have hB3 : Below w.heap.size w w3 := bgo hB1 e13
  have hz3 : w3.heap.size = w1.heap.size + 3 := by rw [hw3, World.size_alloc, World.size_alloc, World.size_alloc]
  have hx33 : Box w3 w.heap.size (.int .i64 N) := hx3.below e13 hl0
  have hx6 : Box w3 w1.heap.size (.slice (some ⟨w.heap.size + 1, 0, none⟩) 0 N) := by
    rw [hw3]
    exact Box.alloc.below (bal (bal brf _) _) (by rw [World.size_alloc]; omega)
  have hck : w3.cell? ⟨w1.heap.size + 1, 0, none⟩ = some (.slice A kn c) := by
    have h1 := (Box.alloc (w := w1.alloc (.cells #[.slice (some ⟨w.heap.size + 1, 0, none⟩) 0 N] 22)) (v := .slice A kn c) (t := 22)).below (bal brf (.cells #[.int .i64 N] 3)) (by simp only [World.size_alloc]; omega)
    rw [World.size_alloc] at h1
    rw [hw3]; exact h1.1
  have hcn : w3.cell? ⟨w1.heap.size + 2, 0, none⟩ = some (.int .i64 N) := by
    have h1 := Box.alloc (w := (w1.alloc (.cells #[.slice (some ⟨w.heap.size + 1, 0, none⟩) 0 N] 22)).alloc (.cells #[.slice A kn c] 22)) (v := .int .i64 N) (t := 3)
    rw [World.size_alloc, World.size_alloc] at h1
    rw [hw3]; exact h1.1
  have hown3 : w3.ownsRow (w.heap.size + 1) 5 1 (.slice (some ⟨w.heap.size + 1, 0, none⟩) 0 N) 0 [] := by rw [hw3]; exact ((hown1.alloc _).alloc _).alloc _
  have hE3 : Env (w1.heap.size + 1) (w1.heap.size + 2) A kn c N key w3 := ⟨hck, hcn, HX.out.below hB3, HK.out.go hB3⟩
  rw [← hw3]
  obtain ⟨g, hg⟩ : ∃ g, g = w.heap.size + 1 := ⟨_, rfl⟩
  obtain ⟨b6, hb6⟩ : ∃ b6, b6 = w1.heap.size := ⟨_, rfl⟩
  rw [← hg, ← hb6] at hx6
  rw [← hg] at hown3
  rw [← hb6] at hE3 hz3
  rw [← hg, ← hb6]
  have hgb : g < b6 := by omega
  have hwg : w.heap.size < g := by omega
  have hwb : w.heap.size < b6 := by omega
  obtain ⟨q, hq⟩ : ∃ q, q = (N + 31) / 32 := ⟨_, rfl⟩
  have hq1 : 32 * q < N + 32 := by omega
  have hq2 : N ≤ 32 * q := by omega
  have HQ := Lib.hid hq
  clear hw3 e13 hck hcn hx3 c3 hown1 hgrow1 hb1 hl1 hl0 hB1 hg hb6 hq
  have htk0 : (flatK key (([] : List Hsh).map (·.1))).take N = [] := by simp [flatK]
  refine wpIn_rangeFunc_good rfl (by omega) (gf := 72) (lb := #[.pointer (some ⟨b6 + 1 + 1, 0, none⟩), .pointer (some ⟨b6 + 1, 0, none⟩)]) rfl trivial (enters_of Tryd.func72 (by kernel_rfl) rfl)
    (hashes1_good 7 (by omega) (b6 + 1) (b6 + 1 + 1) A kn c N q key HKN.out hk hq1 hq2 hN w3 hE3)
    (fun h k hh => k (h hh)) (fun W l o o' _ hl hc _ h => h.kept (grownBy_putObj' W l o') (fun r e => by cases e; exact ⟨o, hl, hc⟩))
    (fun x W l o o' h hl hc => h.kept (grownBy_putObj' W l o') (fun r e => by cases e; exact ⟨o, hl, hc⟩))
    (fun _ => rfl)
    (fun pre W => (W.ownsRow g 5 1 (.slice (some ⟨g, 0, none⟩) ((flatK key (pre.map (·.1))).take N).length N) ((flatK key (pre.map (·.1))).take N).length (nums .u8 ((flatK key (pre.map (·.1))).take N)) ∧ Box W b6 (.slice (some ⟨g, 0, none⟩) ((flatK key (pre.map (·.1))).take N).length N) ∧ Box W w.heap.size (.int .i64 N) ∧ Env (b6 + 1) (b6 + 1 + 1) A kn c N key W ∧ w3.heap.size ≤ W.heap.size) ∧ Below w.heap.size w W)
    (OwnFrom.and (Own.from (fun s A B row hs hg hr => ⟨own_kept hg hr hs.1, hs.2.1.kept hg hr, hs.2.2.1.kept hg hr, hs.2.2.2.1.kept hg hr, Nat.le_trans hs.2.2.2.2 hg.size⟩) _) (ownFrom_below (Nat.le_refl _) (by omega)))
    ⟨⟨by rw [htk0]; exact hown3, by rw [htk0]; exact hx6, hx33, hE3, Nat.le_refl _⟩, hB3⟩
    ?a1 ?assign ?body ?done
  case assign =>
    intro l x W K hK
    unfold hEnc
    gi_wp2
    exact hK
  case done =>
    rintro D ys W hD hys ⟨⟨hown, hx6, hx3, hE, hsz⟩, hB⟩ hDD
    have hst : (flatK key (ys.map (·.1))).take N = streamL key N := by rw [hys, HQ.out, streamL]
    rw [hst, streamL_len] at hown hx6
    have c6 := hx6.1
    have HO := Lib.hid hown
    clear hown hx6 hst hys
    gi_wp2
    refine ⟨by simp, .inl ⟨_, _, rfl, run_takeDeferred hDD, ?_⟩⟩
    refine ⟨.tuple #[.slice (some ⟨g, 0, none⟩) N N, .int .i64 0], by simp [results, Tryd.results27, go_sem], ?_⟩
    have hres : ∀ W' : World, W'.ownsRow w.heap.size 5 1 (.slice (some ⟨g, 0, none⟩) N N) N (nums .u8 (streamL key N)) → Below w.heap.size w W' → IsStream w (streamL key N) (.returned (.tuple #[.slice (some ⟨g, 0, none⟩) N N, .int .i64 0])) W' := fun W' h1 h2 =>
      ⟨g, N, by rw [streamL_len], by rw [streamL_len]; exact Nat.le_refl _, by omega, by rw [streamL_len]; exact h1, h2⟩
    exact hres _ (own_base (own_kept (grownBy_putObj' W D _) (fun r e => by cases e; exact ⟨_, hDD, rfl⟩) HO.out) (by omega)) (hB.trans (belowK_b (w := w) (Nat.le_refl _) W D _ _ (by omega) hDD rfl rfl))
  case body =>
    rintro l pre x W ⟨⟨hown, hx6, hx3, hE, hsz⟩, hB⟩ ⟨hrx, hcx⟩ hpre
    obtain ⟨k, B, cB⟩ := x
    dsimp only at hrx hcx
    obtain ⟨Fl, hF⟩ : ∃ Fl, Fl = flatK key (pre.map (·.1)) := ⟨_, rfl⟩
    have hFl : Fl.length = 32 * pre.length := by rw [hF, flatK_len, List.length_map]
    obtain ⟨L, hL⟩ : ∃ L, L = 32 * pre.length := ⟨_, rfl⟩
    have hLN : L < N := by omega
    have htk : Fl.take N = Fl := List.take_of_length_le (by omega)
    rw [← hF, htk, hFl, ← hL] at hown hx6
    have hlh := hashK_len key k
    obtain ⟨h, hh⟩ : ∃ h, h = hashK key k := ⟨_, rfl⟩
    rw [← hh] at hrx hlh
    have hnext : ∀ m, m = min 32 (N - L) → (flatK key ((pre ++ [(k, B, cB)]).map (·.1))).take N = Fl ++ h.take m := fun m hm => by
      rw [List.map_append, List.map_cons, List.map_nil, flatK_snoc, ← hF, ← hh, List.take_append, htk, hFl, ← hL]
      congr 1
      rw [hm]
      rcases Nat.le_total 32 (N - L) with h1 | h1
      · rw [Nat.min_eq_left h1, List.take_of_length_le (by omega), List.take_of_length_le (by omega)]
      · rw [Nat.min_eq_right h1]
    obtain ⟨b', o', he', hlB, hcB⟩ := hrx.at_ (by simp [hlh])
    cases he'
    have hcells : ∀ m j u, (nums .u8 (h.take m))[j]? = some u → W.drew.cell? ((Addr.mk B 0 none).add j) = some u := fun m j u hu => by
      rw [add_off]
      refine hcB j u ?_
      rw [nums, List.map_take, List.getElem?_take] at hu
      split at hu
      · exact hu
      · cases hu
    have hlen : ∀ m, m ≤ 32 → (nums .u8 (h.take m)).length = m * 1 := fun m hm => by simp [hlh]; omega
    have c6 := hx6.1
    have c3 := hx3.1
    have f6 := hx6.2
    have HNX := Lib.hid hnext
    have HCE := Lib.hid hcells
    have HLN := Lib.hid hlen
    have HOWN := Lib.hid hown
    have HX6 := Lib.hid hx6
    have HX3 := Lib.hid hx3
    have HE := Lib.hid hE
    have HFL := Lib.hid (show Fl.length = L by omega)
    clear hnext hcells hlen hown hx6 hx3 hE hF hFl hL htk hlh hh hrx hcB
    have fin : ∀ (m : Nat) (w6 : World), m = min 32 (N - L) → w6.ownsRow g 5 1 (.slice (some ⟨g, 0, none⟩) (L + m) N) (L + m) (nums .u8 Fl ++ nums .u8 (h.take m)) → W.drew.grownBy w6 (some g) →
        (w6.cell? ⟨b6, 0, none⟩ = some (.slice (some ⟨g, 0, none⟩) L N) ∧ w6.frozen? ⟨b6, 0, none⟩ = false ∧
         goesOn (fun X Y => Env (b6 + 1) (b6 + 1 + 1) A kn c N key X → Env (b6 + 1) (b6 + 1 + 1) A kn c N key Y) (fun pre W => (W.ownsRow g 5 1 (.slice (some ⟨g, 0, none⟩) ((flatK key (pre.map (·.1))).take N).length N) ((flatK key (pre.map (·.1))).take N).length (nums .u8 ((flatK key (pre.map (·.1))).take N)) ∧ Box W b6 (.slice (some ⟨g, 0, none⟩) ((flatK key (pre.map (·.1))).take N).length N) ∧ Box W w.heap.size (.int .i64 N) ∧ Env (b6 + 1) (b6 + 1 + 1) A kn c N key W ∧ w3.heap.size ≤ W.heap.size) ∧ Below w.heap.size w W) (pre ++ [(k, B, cB)]) W .normal { tmps := #[], defers := [] } (w6.setCell ⟨b6, 0, none⟩ (.slice (some ⟨g, 0, none⟩) (L + m) N))) := by
      intro m w6 hm hown6 hg6
      have blk : ∀ b, b < W.heap.size → b ≠ g → w6.heap[b]? = W.heap[b]? := fun b h1 h2 => hg6.block b h1 (fun e => h2 (by injection e))
      have hx66 : Box w6 b6 (.slice (some ⟨g, 0, none⟩) L N) := ⟨(World.cell?_of_block (a := ⟨b6, 0, none⟩) (blk b6 (by omega) (by omega))).trans HX6.out.1, (World.frozen?_of_block (a := ⟨b6, 0, none⟩) (blk b6 (by omega) (by omega))).trans HX6.out.2⟩
      refine ⟨hx66.1, hx66.2, ?_⟩
      have hz6 := hg6.size
      have hz6' : W.heap.size ≤ w6.heap.size := hz6
      have hB6 : Below w.heap.size w (w6.setCell ⟨b6, 0, none⟩ (.slice (some ⟨g, 0, none⟩) (L + m) N)) :=
        ((bdr hB).grown hg6 (show w.heap.size ≤ W.heap.size from hB.size) (fun r e => by injection e with e; omega)).setCell (p := ⟨b6, 0, none⟩) (by show w.heap.size ≤ b6; omega) _
      have hEn : Env (b6 + 1) (b6 + 1 + 1) A kn c N key (w6.setCell ⟨b6, 0, none⟩ (.slice (some ⟨g, 0, none⟩) (L + m) N)) := by
        have h1 := HE.out
        have l1 := cell_lt h1.1
        have l2 := cell_lt h1.2.1
        dsimp only at l1 l2
        refine ⟨(cell_setCell_far (by omega)).trans ((World.cell?_of_block (a := ⟨b6 + 1, 0, none⟩) (blk (b6 + 1) l1 (by omega))).trans h1.1), (cell_setCell_far (by omega)).trans ((World.cell?_of_block (a := ⟨b6 + 1 + 1, 0, none⟩) (blk (b6 + 1 + 1) l2 (by omega))).trans h1.2.1), HX.out.below hB6, HK.out.go hB6⟩
      have hll : (Fl ++ h.take m).length = L + m := by
        have := hown6.1
        simp at this ⊢
        omega
      refine ⟨?_, fun _ => hEn, ⟨⟨?_, ?_, ?_, hEn, ?_⟩, hB6⟩⟩
      · have k1 : KeepsOthers W.drew w6 := KeepsOthers.of_grownBy hg6 (fun j o e ho => by
          injection e with e
          subst e
          rcases hown6.2 with ⟨h1, _⟩ | ⟨g', cap, cur, h1, _, hh, _⟩
          · cases h1
          · rcases HOWN.out.2 with ⟨h2, _⟩ | ⟨g2, cap2, cur2, h2, _, hh2, _⟩
            · cases h2
            · simp only [Value.slice.injEq, Option.some.injEq, Addr.mk.injEq] at h2
              obtain ⟨⟨rfl, _⟩, _⟩ := h2
              have hh3 : W.drew.heap[g]? = some (.cells cur2 5 (0, 0)) := hh2
              rw [hh3] at ho
              injection ho with ho
              subst ho
              rfl)
        have k2 := k1.trans (KeepsOthers.setCell w6 ⟨b6, 0, none⟩ (.slice (some ⟨g, 0, none⟩) (L + m) N))
        exact ⟨k2.1, k2.2⟩
      · rw [HNX.out m hm, hll]
        refine own_setCell_ne ?_ (by simp [Value.ownBlock]; omega)
        rw [nums, List.map_append]
        exact hown6
      · rw [HNX.out m hm, hll]
        exact hx66.set _
      · have hw0 : w.heap.size < W.heap.size := by omega
        have hx3' : Box w6 w.heap.size (.int .i64 N) := ⟨(World.cell?_of_block (a := ⟨w.heap.size, 0, none⟩) (blk w.heap.size hw0 (by omega))).trans HX3.out.1, (World.frozen?_of_block (a := ⟨w.heap.size, 0, none⟩) (blk w.heap.size hw0 (by omega))).trans HX3.out.2⟩
        exact hx3'.far (by omega) _
      · rw [size_setCell]; omega
    have FIN := Lib.hid fin
    clear fin
    by_cases hmin : L + 32 ≤ N
    · have hwr : IntKind.i64.wrap ((N : Int) - L) = (N : Int) - L := IntWalk.i64_in _ (by omega)
      have r2 : ¬ (N : Int) - L < 32 := by omega
      have r3 : (32 : Int) ≤ cB := by omega
      have r4 : (32 : Int) ≤ (N : Int) - L := by omega
      gi_wp2
      have r7 : ((N : Int) - L < 32) = False := eq_false (by omega)
      have r8 : (32 : Int) ≤ cB := by omega
      refine region_round_tail 10 (by kernel_rfl) (by kernel_rfl) (by kernel_rfl) ?_
      simp only [List.take_succ_cons, List.take_zero, List.drop_succ_cons, List.drop_zero]
      repeat still_step
      refine wpStill_nil ?_
      gi_wp2_with (gi_at_builtin; refine wpListIn_append_fits _ rfl _ _ 22 rfl g 5 i0 1 Tryd.underlying22 hi hz1 g L N (nums .u8 Fl) rfl HOWN.out ⟨B, 0, none⟩ 32 cB (nums .u8 (h.take 32)) rfl (HLN.out 32 (by omega)) (HCE.out 32) nums_u8_one hmin ?_; intro w6 hown6 hg6; obtain ⟨c66, f66, FN⟩ := FIN.out 32 w6 (by omega) hown6 hg6; have HFN := Lib.hid FN; clear FN)
      exact HFN.out
    · obtain ⟨M, hM⟩ : ∃ M, M = N - L := ⟨_, rfl⟩
      have hwr : IntKind.i64.wrap ((N : Int) - L) = (M : Int) := by rw [show (N : Int) - L = M by omega]; exact IntWalk.i64_in _ (by omega)
      have hM2 : L + M ≤ N := by omega
      have hM3 : M = min 32 (N - L) := by omega
      have hM4 : M ≤ 32 := by omega
      have r7 : (M : Int) < 32 := by omega
      have r8 : (M : Int) ≤ cB := by omega
      have HM3 := Lib.hid hM3
      clear hM hM3
      gi_wp2
      refine region_round_tail 10 (by kernel_rfl) (by kernel_rfl) (by kernel_rfl) ?_
      simp only [List.take_succ_cons, List.take_zero, List.drop_succ_cons, List.drop_zero]
      repeat still_step
      refine wpStill_nil ?_
      gi_wp2_with (gi_at_builtin; refine wpListIn_append_fits _ rfl _ _ 22 rfl g 5 i0 1 Tryd.underlying22 hi hz1 g L N (nums .u8 Fl) rfl HOWN.out ⟨B, 0, none⟩ M cB (nums .u8 (h.take M)) rfl (HLN.out M hM4) (HCE.out M) nums_u8_one hM2 ?_; intro w6 hown6 hg6; obtain ⟨c66, f66, FN⟩ := FIN.out M w6 HM3.out hown6 hg6; have HFN := Lib.hid FN; clear FN)
      exact HFN.out
end Go.Proofs.YtgclcpopibjocaaDoor
