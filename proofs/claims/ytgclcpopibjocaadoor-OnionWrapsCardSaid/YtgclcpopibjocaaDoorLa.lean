/- Layer 8's small functions: made, Key, Reply, hide, Pad, and the document's. -/
import Derived.Test.YtgclcpopibjocaaDoorMo
namespace Go.Proofs.YtgclcpopibjocaaDoor
open Go.RowKit Go.ChangeShapes Go.WideShapes Go.ChangeAt
set_option linter.unusedSimpArgs false
set_option linter.unusedVariables false
set_option maxRecDepth 100000

theorem IsBytes.from {w w1 w2 : World} {ys : List Int} {e : Ending} (hb : Below w.heap.size w w1) (h : IsBytes w1 ys e w2) : IsBytes w ys e w2 := by
  obtain ⟨B, c, he, hc, hl, hr, hb2⟩ := h
  exact ⟨B, c, he, hc, Nat.le_trans hb.size hl, hr, bgo hb hb2⟩
theorem IsStream.from {w w1 w2 : World} {ys : List Int} {e : Ending} (hb : Below w.heap.size w w1) (h : IsStream w1 ys e w2) : IsStream w ys e w2 := by
  obtain ⟨B, c, he, hc, hl, ho, hb2⟩ := h
  exact ⟨B, c, he, hc, Nat.le_trans hb.size hl, own_base ho hb.size, bgo hb hb2⟩
theorem IsRow2.from {w w1 w2 : World} {ys : List Int} {e : Ending} (hb : Below w.heap.size w w1) (h : IsRow2 w1 ys e w2) : IsRow2 w ys e w2 := by
  obtain ⟨B, c, he, hc, hr, hb2⟩ := h
  exact ⟨B, c, he, hc, hr, bgo hb hb2⟩
theorem IsStream.row2 {w w2 : World} {ys : List Int} {e : Ending} (h : IsStream w ys e w2) : IsRow2 w ys e w2 := by
  obtain ⟨B, c, he, hc, hl, ho, hb2⟩ := h
  exact ⟨_, c, he, hc, Rd.of_own ho, hb2⟩

/-- A row and no error; of a row that is not empty, that it is a new block's, and whole. -/
def IsHid (w : World) (ys : List Int) (e : Ending) (w' : World) : Prop :=
  ∃ A, e = .returned (.tuple #[.slice A ys.length ys.length, .int .i64 0]) ∧ Rd w' A (nums .u8 ys) ∧ (0 < ys.length → ∃ B, A = some ⟨B, 0, none⟩ ∧ w.heap.size ≤ B ∧ B < w'.heap.size ∧ Brow w' B ys) ∧ Below w.heap.size w w'
theorem IsHid.from {w w1 w2 : World} {ys : List Int} {e : Ending} (hb : Below w.heap.size w w1) (h : IsHid w1 ys e w2) : IsHid w ys e w2 := by
  obtain ⟨A, he, hr, hB, hb2⟩ := h
  refine ⟨A, he, hr, fun h0 => ?_, bgo hb hb2⟩
  obtain ⟨B, h1, h2, h3, h4⟩ := hB h0
  exact ⟨B, h1, Nat.le_trans hb.size h2, h3, h4⟩
theorem isHid_mk {w w' : World} {ys : List Int} {A : Option Addr} {m : Nat} (hl : ys.length = m) (hr : Rd w' A (nums .u8 ys)) (hB : 0 < ys.length → ∃ B, A = some ⟨B, 0, none⟩ ∧ w.heap.size ≤ B ∧ B < w'.heap.size ∧ Brow w' B ys) (hb : Below w.heap.size w w') : IsHid w ys (.returned (.tuple #[.slice A m m, .int .i64 0])) w' := by
  subst hl
  exact ⟨A, rfl, hr, hB, hb⟩
theorem xor_hid (A B : Option Addr) (n c d : Nat) (xs ys : List Int) (w : World) (hn : xs.length = n) (hm : ys.length = n) (hb : n ≤ 4000) (hx : Rd w A (nums .u8 xs)) (hy : Rd w B (nums .u8 ys)) :
    Calls Tryd.prog 74 #[.slice A n c, .slice B n d] w (IsHid w (xorL xs ys)) := by
  have hl : (xorL xs ys).length = n := by rw [xor_len, hn]
  rcases Nat.eq_zero_or_pos n with h0 | h0
  · subst h0
    refine (xor_none A B c d w).mono ?_
    rintro e w' ⟨A', rfl, hb'⟩
    refine ⟨A', by rw [hl], ?_, fun h => by omega, hb'⟩
    have : xorL xs ys = [] := List.eq_nil_of_length_eq_zero hl
    rw [this]
    exact .inl rfl
  · refine (xor_any A B n c d xs ys w hn hm hb h0 hx hy).mono ?_
    rintro e w' ⟨rfl, hbr, hlt, hb'⟩
    exact ⟨_, by rw [hl], hbr.whole hlt, fun _ => ⟨_, rfl, Nat.le_refl _, hlt, hbr⟩, hb'⟩

theorem made_any (A B : Option Addr) (n c m d : Nat) (key b : List Int) (w : World) (hn : key.length = n) (hm : b.length = m) (hbn : n ≤ 4000) (hbm : m ≤ 3000) (hx : Rd w A (nums .u8 key)) (hy : Rd w B (nums .u8 b)) (hK : Konst w) :
    Calls Tryd.prog 53 #[.slice A n c, .slice B m d] w (IsBytes w (tagL key b)) := by
  have CT := tag_any A B n c m d key b w hn hm hbn hbm hx hy hK
  clear hn hm hx hy hK
  go_enter Tryd.func53, Tryd.ntmps53
  go_wp2_with (go_at_call 24; refine CT.mono ?_; rintro e w1 ⟨B1, c1, rfl, hc1, hl1, hr1, hb1⟩)
  go_ret
  exact ⟨B1, c1, rfl, hc1, hl1, hr1, hb1⟩

theorem lkey_any (A B : Option Addr) (n c m d : Nat) (key b : List Int) (w : World) (hn : key.length = n) (hm : b.length = m) (hbn : n ≤ 4000) (hbm : m ≤ 3000) (hx : Rd w A (nums .u8 key)) (hy : Rd w B (nums .u8 b)) (hK : Konst w) :
    Calls Tryd.prog 29 #[.slice A n c, .slice B m d] w (IsBytes w (tagL key b)) := by
  have CT := tag_any A B n c m d key b w hn hm hbn hbm hx hy hK
  clear hn hm hx hy hK
  go_enter Tryd.func29, Tryd.ntmps29
  go_wp2_with (go_at_call 24; refine CT.mono ?_; rintro e w1 ⟨B1, c1, rfl, hc1, hl1, hr1, hb1⟩)
  go_ret
  exact ⟨B1, c1, rfl, hc1, hl1, hr1, hb1⟩

theorem rlkey_any (A B : Option Addr) (n c m d : Nat) (key b : List Int) (w : World) (hn : key.length = n) (hm : b.length = m) (hbn : n ≤ 4000) (hbm : m ≤ 3000) (hx : Rd w A (nums .u8 key)) (hy : Rd w B (nums .u8 b)) :
    Calls Tryd.prog 77 #[.slice A n c, .slice B m d] w (IsBytes w (tagL key b)) := by
  have CT := rtag_any A B n c m d key b w hn hm hbn hbm hx hy
  clear hn hm hx hy
  go_enter Tryd.func77, Tryd.ntmps77
  go_wp2_with (go_at_call 48; refine CT.mono ?_; rintro e w1 ⟨B1, c1, rfl, hc1, hl1, hr1, hb1⟩)
  go_ret
  exact ⟨B1, c1, rfl, hc1, hl1, hr1, hb1⟩

theorem reply_any (A : Option Addr) (n c : Nat) (key : List Int) (z : Int) (w : World) (hn : key.length = n) (hbn : n ≤ 4000) (hx : Rd w A (nums .u8 key)) (hK : Konst w) :
    Calls Tryd.prog 30 #[.slice A n c, .int .u8 z] w (IsBytes w (tagL key [4, z])) := by
  have hA : Below w.heap.size w (w.alloc (.cells (nums .u8 [4, z]).toArray 5)) := bal brf _
  have CT := made_any A (some ⟨w.heap.size, 0, none⟩) n c 2 2 key [4, z] _ hn rfl hbn (by omega) (hx.below hA) (rd_new w [4, z] 5) (hK.go hA)
  clear hn hx hK
  go_enter Tryd.func30, Tryd.ntmps30
  go_wp2_with (go_at_call 53; refine CT.mono ?_; rintro e w1 ⟨B1, c1, rfl, hc1, hl1, hr1, hb1⟩)
  go_ret
  exact IsBytes.from hA ⟨B1, c1, rfl, hc1, hl1, hr1, hb1⟩

def hideL (k b : List Int) : List Int := xorL b (streamL (tagL k [1]) b.length)
theorem hide_len (k b : List Int) : (hideL k b).length = b.length := xor_len _ _
theorem hide_byt {k b : List Int} (h : Byt b) : Byt (hideL k b) := xorL_byt h (streamL_byt _ _)
theorem hide_twice (k : List Int) {b : List Int} (h : Byt b) : hideL k (hideL k b) = b := by
  rw [hideL, hide_len, hideL]
  exact xorL_twice h (streamL_byt _ _)

theorem hide_any (A B : Option Addr) (n c m d : Nat) (key b : List Int) (w : World) (hn : key.length = n) (hm : b.length = m) (hbn : n ≤ 4000) (hbm : m ≤ 3000) (hx : Rd w A (nums .u8 key)) (hy : Rd w B (nums .u8 b)) (hK : Konst w) :
    Calls Tryd.prog 55 #[.slice A n c, .slice B m d] w (IsHid w (hideL key b)) := by
  have hA : Below w.heap.size w (w.alloc (.cells (nums .u8 [1]).toArray 5)) := bal brf _
  have CT := made_any A (some ⟨w.heap.size, 0, none⟩) n c 1 1 key [1] _ hn rfl hbn (by omega) (hx.below hA) (rd_new w [1] 5) (hK.go hA)
  have CM := fun A1 c1 W h1 hK => stream_any A1 32 c1 m (tagL key [1]) W (tag_len _ _) (by omega) (by omega) h1 hK
  have CX := fun A1 c1 W h1 h2 => xor_hid B A1 m d c1 b (streamL (tagL key [1]) m) W hm (streamL_len _ _) (by omega) h1 h2
  have hh : xorL b (streamL (tagL key [1]) m) = hideL key b := by rw [hideL, hm]
  rw [hh] at CX
  have hl : (hideL key b).length = m := by rw [hide_len, hm]
  have HL := Lib.hid hl
  have HY := Lib.hid hy
  have HK := Lib.hid hK
  clear hn hx hm hy hK hh hl
  go_enter Tryd.func55, Tryd.ntmps55
  go_wp2_with (first
    | (go_at_call 53; refine CT.mono ?_; rintro e w1 ⟨B1, c1, he, hc1, hl1, hr1, hb1⟩; rw [tag_len] at he; subst he; have HBX := bgo hA hb1)
    | (go_at_call 27; refine (CM _ _ _ hr1 (HK.out.go HBX)).mono ?_; rintro e w2 ⟨B2, c2, he, hc2, hl2, hown2, hb2⟩; rw [streamL_len] at he hown2; subst he; have HR2 := Lib.hid (Rd.of_own hown2); clear hown2; have HBX := bgo HBX hb2)
    | (go_at_call 74; refine (CX _ _ _ (HY.out.below HBX) HR2.out).mono ?_; rintro e w3 ⟨A3, he, hr3, hB3, hb3⟩; rw [HL.out] at he; subst he; have HBY := bgo HBX hb3))
  go_ret2
  exact IsHid.from HBX (isHid_mk HL.out hr3 hB3 hb3)

theorem cover_own (A B : Option Addr) (n c m d : Nat) (key b : List Int) (w : World) (hn : key.length = n) (hm : b.length = m) (hbn : n ≤ 4000) (hbm : m ≤ 3000) (hx : Rd w A (nums .u8 key)) (hy : Rd w B (nums .u8 b)) :
    Calls Tryd.prog 79 #[.slice A n c, .slice B m d] w (fun e w' => ∃ A' c', e = .returned (.slice A' m c') ∧ m ≤ c' ∧ w'.ownsRow w.heap.size 5 1 (.slice A' m c') m (nums .u8 (hideL key b)) ∧ Below w.heap.size w w') := by
  have hA : Below w.heap.size w (w.alloc (.cells (nums .u8 [1]).toArray 5)) := bal brf _
  have CT := rtag_any A (some ⟨w.heap.size, 0, none⟩) n c 1 1 key [1] _ hn rfl hbn (by omega) (hx.below hA) (rd_new w [1] 5)
  have CM := fun A1 c1 W h1 => rstream_any A1 32 c1 m (tagL key [1]) W (tag_len _ _) (by omega) (by omega) h1
  have CX := fun A1 c1 W h1 h2 => rxor_own B A1 m d c1 b (streamL (tagL key [1]) m) W hm (streamL_len _ _) (by omega) h1 h2
  have hh : xorL b (streamL (tagL key [1]) m) = hideL key b := by rw [hideL, hm]
  rw [hh] at CX
  have hl : (hideL key b).length = m := by rw [hide_len, hm]
  have HL := Lib.hid hl
  have HY := Lib.hid hy
  clear hn hx hm hy hh hl
  go_enter Tryd.func79, Tryd.ntmps79
  go_wp2_with (first
    | (go_at_call 48; refine CT.mono ?_; rintro e w1 ⟨B1, c1, he, hc1, hl1, hr1, hb1⟩; rw [tag_len] at he; subst he; have HBX := bgo hA hb1)
    | (go_at_call 80; refine (CM _ _ _ hr1).mono ?_; rintro e w2 ⟨A2, c2, he, hc2, hr2, hb2⟩; rw [streamL_len] at he; subst he; have HBX := bgo HBX hb2)
    | (go_at_call 92; refine (CX _ _ _ (HY.out.below HBX) hr2).mono ?_; rintro e w3 ⟨A3, c3, he, hc3, hr3, hb3⟩; rw [HL.out] at he hc3 hr3; subst he; have HR3 := Lib.hid (own_base hr3 HBX.size); clear hr3; have HBY := bgo HBX hb3))
  go_ret
  exact ⟨A3, c3, rfl, hc3, HR3.out, HBY⟩

theorem cover_any (A B : Option Addr) (n c m d : Nat) (key b : List Int) (w : World) (hn : key.length = n) (hm : b.length = m) (hbn : n ≤ 4000) (hbm : m ≤ 3000) (hx : Rd w A (nums .u8 key)) (hy : Rd w B (nums .u8 b)) :
    Calls Tryd.prog 79 #[.slice A n c, .slice B m d] w (fun e w' => ∃ A' c', e = .returned (.slice A' m c') ∧ m ≤ c' ∧ Rd w' A' (nums .u8 (hideL key b)) ∧ Below w.heap.size w w') :=
  (cover_own A B n c m d key b w hn hm hbn hbm hx hy).mono fun _ _ ⟨A', c', he, hc, ho, hb⟩ => ⟨A', c', he, hc, Rd.of_own ho, hb⟩

theorem pad8_bad (A : Option Addr) (n c : Nat) (z : Int) (w : World) (h : z < 0 ∨ 2048 < z) :
    Calls Tryd.prog 26 #[.slice A n c, .int .i64 z] w fun e w' => e = .returned (.tuple #[.slice none 0 0, .int .i64 1]) ∧ w = w' := by
  by_cases h0 : z < 0
  · go_enter Tryd.func26, Tryd.ntmps26
    go_wp2
    go_ret2
    exact ⟨rfl, rfl⟩
  have h1 : 2048 < z := by omega
  go_enter Tryd.func26, Tryd.ntmps26
  go_wp2
  go_ret2
  exact ⟨rfl, rfl⟩

theorem pad8_any (A : Option Addr) (n c N : Nat) (key : List Int) (w : World) (hn : key.length = n) (hbn : n ≤ 4000) (hN : N ≤ 2048) (hx : Rd w A (nums .u8 key)) (hK : Konst w) :
    Calls Tryd.prog 26 #[.slice A n c, .int .i64 N] w (IsStream w (streamL (tagL key [2]) N)) := by
  have r0 : ¬ (N : Int) < 0 := by omega
  have r1 : ¬ (2048 : Int) < N := by omega
  have hA : Below w.heap.size w (w.alloc (.cells (nums .u8 [2]).toArray 5)) := bal brf _
  have CT := made_any A (some ⟨w.heap.size, 0, none⟩) n c 1 1 key [2] _ hn rfl hbn (by omega) (hx.below hA) (rd_new w [2] 5) (hK.go hA)
  have CM := fun A1 c1 W h1 hK => stream_any A1 32 c1 N (tagL key [2]) W (tag_len _ _) (by omega) (by omega) h1 hK
  have HK := Lib.hid hK
  clear hn hx hK
  go_enter Tryd.func26, Tryd.ntmps26
  go_wp2_with (first
    | (go_at_call 53; refine CT.mono ?_; rintro e w1 ⟨B1, c1, he, hc1, hl1, hr1, hb1⟩; rw [tag_len] at he; subst he; have HBX := bgo hA hb1)
    | (go_at_call 27; refine (CM _ _ _ hr1 (HK.out.go HBX)).mono ?_; rintro e w2 ⟨B2, c2, rfl, hc2, hl2, hown2, hb2⟩))
  go_ret2
  exact IsStream.from HBX ⟨B2, c2, rfl, hc2, hl2, hown2, hb2⟩

theorem rpad8_bad (A : Option Addr) (n c : Nat) (z : Int) (w : World) (h : z < 0 ∨ 2048 < z) :
    Calls Tryd.prog 62 #[.slice A n c, .int .i64 z] w fun e w' => e = .returned (.tuple #[.slice none 0 0, .int .i64 1]) ∧ w = w' := by
  by_cases h0 : z < 0
  · go_enter Tryd.func62, Tryd.ntmps62
    go_wp2
    go_ret2
    exact ⟨rfl, rfl⟩
  have h1 : 2048 < z := by omega
  go_enter Tryd.func62, Tryd.ntmps62
  go_wp2
  go_ret2
  exact ⟨rfl, rfl⟩

theorem rpad8_any (A : Option Addr) (n c N : Nat) (key : List Int) (w : World) (hn : key.length = n) (hbn : n ≤ 4000) (hN : N ≤ 2048) (hx : Rd w A (nums .u8 key)) :
    Calls Tryd.prog 62 #[.slice A n c, .int .i64 N] w (IsRow2 w (streamL (tagL key [2]) N)) := by
  have r0 : ¬ (N : Int) < 0 := by omega
  have r1 : ¬ (2048 : Int) < N := by omega
  have hA : Below w.heap.size w (w.alloc (.cells (nums .u8 [2]).toArray 5)) := bal brf _
  have CT := rtag_any A (some ⟨w.heap.size, 0, none⟩) n c 1 1 key [2] _ hn rfl hbn (by omega) (hx.below hA) (rd_new w [2] 5)
  have CM := fun A1 c1 W h1 => rstream_any A1 32 c1 N (tagL key [2]) W (tag_len _ _) (by omega) (by omega) h1
  clear hn hx
  go_enter Tryd.func62, Tryd.ntmps62
  go_wp2_with (first
    | (go_at_call 48; refine CT.mono ?_; rintro e w1 ⟨B1, c1, he, hc1, hl1, hr1, hb1⟩; rw [tag_len] at he; subst he; have HBX := bgo hA hb1)
    | (go_at_call 80; refine (CM _ _ _ hr1).mono ?_; rintro e w2 ⟨A2, c2, rfl, hc2, hr2, hb2⟩))
  go_ret2
  exact IsRow2.from HBX ⟨A2, c2, rfl, hc2, hr2, hb2⟩

end Go.Proofs.YtgclcpopibjocaaDoor
