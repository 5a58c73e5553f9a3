/- Layer 8: Seal, and the document's. -/
import Derived.Test.YtgclcpopibjocaaDoorLa
namespace Go.Proofs.YtgclcpopibjocaaDoor
open Go.RowKit Go.ChangeShapes Go.WideShapes Go.ChangeAt
set_option linter.unusedSimpArgs false
set_option linter.unusedVariables false
set_option maxRecDepth 100000

theorem open_bytes2 {H : Type} {enc : TypeId × Value → H} {W : World} {base b0 : Nat} {sp : Nat → Bool} {held : Bool} {v : Value} {d : DataW H} {p : List MemPlace} (h : DataW.Trod enc Tryd.prog W b0 sp held 22 v d p) (hv : Value.okWide Tryd.prog W .any base 22 v) :
    ∃ A n c xs, v = .slice A n c ∧ xs.length = n ∧ Rd W A (nums .u8 xs) ∧ Byt xs ∧ n ≤ c ∧ c ≤ maxLen := by
  obtain ⟨A, n, c, rfl⟩ := okWide_slice Tryd.underlying22 hv
  obtain ⟨fuel, hf⟩ := h
  obtain ⟨A', l, c', xs, he, hc1, hc2, hl, hr, hw, _⟩ := open_row Tryd.underlying22 Tryd.underlying5 (by kernel_rfl) hf
  cases he
  refine ⟨A, n, c, xs, rfl, hl, hr, fun x hx => ?_, hc1, hc2⟩
  have : (decide ((0 : Int) ≤ x) && decide (x ≤ (255 : Int))) = true := hw x hx
  simpa using this

def lkL (server nonce : List Int) : List Int := tagL server nonce
def outL (server nonce plain : List Int) : List Int := nonce ++ hideL (tagL server nonce) plain
def sealL (server nonce plain : List Int) : List Int := outL server nonce plain ++ tagL (tagL (tagL server nonce) [3]) (outL server nonce plain)
theorem outL_len (server nonce plain : List Int) : (outL server nonce plain).length = nonce.length + plain.length := by rw [outL, List.length_append, hide_len]
theorem sealL_len (server nonce plain : List Int) : (sealL server nonce plain).length = nonce.length + plain.length + 32 := by rw [sealL, List.length_append, outL_len, tag_len]
theorem outL_byt {server nonce plain : List Int} (h1 : Byt nonce) (h2 : Byt plain) : Byt (outL server nonce plain) := fun x hx => by
  rcases List.mem_append.1 hx with h | h
  · exact h1 x h
  · exact hide_byt h2 x h
theorem sealL_byt {server nonce plain : List Int} (h1 : Byt nonce) (h2 : Byt plain) : Byt (sealL server nonce plain) := fun x hx => by
  rcases List.mem_append.1 hx with h | h
  · exact outL_byt h1 h2 x h
  · exact tag_byt _ _ x h
theorem isRow2_mk {w w' : World} {ys : List Int} {A : Option Addr} {n c : Nat} (hl : ys.length = n) (hc : n ≤ c) (hr : Rd w' A (nums .u8 ys)) (hb : Below w.heap.size w w') : IsRow2 w ys (.returned (.tuple #[.slice A n c, .int .i64 0])) w' := by
  subst hl
  exact ⟨A, c, rfl, hc, hr, hb⟩

/-- Why bytes are not sealed. -/
def sealE (m p : Nat) : Int := if m = 16 then if 2048 < p then 2 else 0 else 1
theorem seal_bad (A B C : Option Addr) (n c m d p f : Nat) (w : World) (h : m ≠ 16 ∨ 2048 < p) :
    Calls Tryd.prog 28 #[.slice A n c, .slice B m d, .slice C p f] w fun e w' => e = .returned (.tuple #[.slice none 0 0, .int .i64 (sealE m p)]) ∧ w = w' := by
  by_cases h0 : m = 16
  · subst h0
    have h1 : 2048 < p := by omega
    have h2 : (2048 : Int) < p := by omega
    rw [sealE, if_pos rfl, if_pos h1]
    go_enter Tryd.func28, Tryd.ntmps28
    go_wp2
    go_ret2
    exact ⟨rfl, rfl⟩
  · have h2 : ¬ ((m : Int) = 16) := by omega
    rw [sealE, if_neg h0]
    go_enter Tryd.func28, Tryd.ntmps28
    go_wp2
    go_ret2
    exact ⟨rfl, rfl⟩
theorem rseal_bad (A B C : Option Addr) (n c m d p f : Nat) (w : World) (h : m ≠ 16 ∨ 2048 < p) :
    Calls Tryd.prog 65 #[.slice A n c, .slice B m d, .slice C p f] w fun e w' => e = .returned (.tuple #[.slice none 0 0, .int .i64 (sealE m p)]) ∧ w = w' := by
  by_cases h0 : m = 16
  · subst h0
    have h1 : 2048 < p := by omega
    have h2 : (2048 : Int) < p := by omega
    rw [sealE, if_pos rfl, if_pos h1]
    go_enter Tryd.func65, Tryd.ntmps65
    go_wp2
    go_ret2
    exact ⟨rfl, rfl⟩
  · have h2 : ¬ ((m : Int) = 16) := by omega
    rw [sealE, if_neg h0]
    go_enter Tryd.func65, Tryd.ntmps65
    go_wp2
    go_ret2
    exact ⟨rfl, rfl⟩

theorem isOwn2_mk {w w' : World} {ys : List Int} {A : Option Addr} {n c : Nat} (hl : ys.length = n) (hc : n ≤ c) (hr : w'.ownsRow w.heap.size 5 1 (.slice A n c) n (nums .u8 ys)) (hb : Below w.heap.size w w') : IsOwn2 w ys (.returned (.tuple #[.slice A n c, .int .i64 0])) w' := by
  subst hl
  exact ⟨A, c, rfl, hc, hr, hb⟩
set_option maxHeartbeats 600000 in
theorem seal_own (A B C : Option Addr) (n c d p f : Nat) (server nonce plain : List Int) (w : World) (hn : server.length = n) (hm : nonce.length = 16) (hp : plain.length = p) (hbn : n ≤ 4000) (hbp : p ≤ 2048) (hx : Rd w A (nums .u8 server)) (hy : Rd w B (nums .u8 nonce)) (hz : Rd w C (nums .u8 plain)) (hK : Konst w) :
    Calls Tryd.prog 28 #[.slice A n c, .slice B 16 d, .slice C p f] w (IsOwn2 w (sealL server nonce plain)) := by
  obtain ⟨i0, hi, hz0, hz1, hz2⟩ := info_parts infoByte
  have r1 : ¬ (2048 : Int) < p := by omega
  have CK := lkey_any A B n c 16 d server nonce w hn hm (by omega) (by omega) hx hy hK
  have CH := fun A1 c1 W h1 h2 hK => hide_any A1 C 32 c1 p f (tagL server nonce) plain W (tag_len _ _) hp (by omega) (by omega) h1 h2 hK
  have hl : (hideL (tagL server nonce) plain).length = p := by rw [hide_len, hp]
  have ho : (outL server nonce plain).length = 16 + p := by rw [outL_len, hm, hp]
  have hs : (sealL server nonce plain).length = 16 + p + 32 := by rw [sealL_len, hm, hp]
  have CC := fun A3 (W : World) h1 h2 => concat_any W.heap.size B A3 16 d p p nonce (hideL (tagL server nonce) plain) (W.alloc (.cells #[.slice B 16 d, .slice A3 p p] 22)) (new_0 _ _ _ _) (new_1 _ _ _ _) hm hl (Rd.below h1 (bal brf _)) (Rd.below h2 (bal brf _)) (by omega)
  have hoe : nonce ++ hideL (tagL server nonce) plain = outL server nonce plain := rfl
  rw [hoe] at CC
  have CM := fun A1 c1 (W : World) h1 hK => made_any A1 (some ⟨W.heap.size, 0, none⟩) 32 c1 1 1 (tagL server nonce) [3] (W.alloc (.cells (nums .u8 [3]).toArray 5)) (tag_len _ _) rfl (by omega) (by omega) (Rd.below h1 (bal brf _)) (rd_new W [3] 5) hK
  have CT := fun A1 c1 A2 c2 W h1 h2 hK => tag_any A1 A2 32 c1 (16 + p) c2 (tagL (tagL server nonce) [3]) (outL server nonce plain) W (tag_len _ _) ho (by omega) (by omega) h1 h2 hK
  have HS := Lib.hid hs
  have HL := Lib.hid hl
  have HY := Lib.hid hy
  have HZ := Lib.hid hz
  have HK := Lib.hid hK
  clear hn hm hp hx hy hz hK hl ho hs hoe
  go_enter Tryd.func28, Tryd.ntmps28
  go_wp2_with (first
    | (go_at_call 29; refine CK.mono ?_; rintro e w1 ⟨B1, c1, he, hc1, hl1, hr1, hb1⟩; rw [tag_len] at he; subst he; have HR1 := Lib.hid hr1; clear hr1; have HBX := hb1)
    | (go_at_call 55; refine (CH _ _ _ HR1.out (HZ.out.below HBX) (HK.out.go HBX)).mono ?_; rintro e w2 ⟨A2, he, hr2, hB2, hb2⟩; rw [HL.out] at he; subst he; have HR2 := Lib.hid hr2; clear hr2 hB2; have HR1 := Lib.hid (HR1.out.below hb2); have HBX := bgo HBX hb2)
    | (go_at_call 56; refine (CC _ _ (HY.out.below HBX) HR2.out).mono ?_; rintro e w3 ⟨A3, c3, he, hc3, hown3, hb3⟩; subst he; have HBY := bal HBX (.cells #[.slice B 16 d, .slice A2 p p] 22); have HR1 := Lib.hid ((HR1.out.below (bal brf (.cells #[.slice B 16 d, .slice A2 p p] 22))).below hb3); have HBX := bgo HBY hb3; have HO := Lib.hid hown3; clear hown3)
    | (go_at_call 53; refine (CM _ _ _ HR1.out (HK.out.go (bal HBX _))).mono ?_; rintro e w4 ⟨B4, c4, he, hc4, hl4, hr4, hb4⟩; rw [tag_len] at he; subst he; have HO := Lib.hid (own_below (HO.out.alloc (.cells (nums .u8 [3]).toArray 5)) hb4); have HBX := bgo (bal HBX _) hb4)
    | (go_at_call 24; refine (CT _ _ _ _ _ hr4 (Rd.of_own HO.out) (HK.out.go HBX)).mono ?_; rintro e w5 ⟨B5, c5, he, hc5, hl5, hr5, hb5⟩; rw [tag_len] at he; subst he; have HO := Lib.hid (own_below HO.out hb5); have HBX := bgo HBX hb5)
    | (at_builtin; refine append_vs rfl _ _ 22 rfl _ 5 i0 (.int .u8 0) 1 Tryd.underlying22 hi hz0 hz1 hz2 rfl _ (16 + p) _ rfl HO.out _ 32 _ _ rfl (by simp [tag_len]) hr5 nums_u8_one (by unfold maxLen; omega) (by omega) (by have z3 := hb3.size; have z4 := hb4.size; have z5 := hb5.size; simp only [World.size_alloc] at z3 z4 z5 ⊢; omega) ?_; intro v6 w6 hown6 hgrow6; have hb6 : Below w.heap.size w w6 := keep_below0 HO.out hgrow6 HBX HBX.size (by have z1 := hb1.size; have z2 := hb2.size; simp only [World.size_alloc] at z1 z2 ⊢; omega); obtain ⟨A6, c6, rfl⟩ := own_slice hown6; rw [← List.map_append] at hown6))
  go_ret2
  have hz : w.heap.size ≤ w2.heap.size + 1 := by have z1 := hb1.size; have z2 := hb2.size; omega
  exact isOwn2_mk HS.out (own_cap6 hown6).1 (own_base hown6 (by simpa using hz)) hb6

theorem seal_any (A B C : Option Addr) (n c d p f : Nat) (server nonce plain : List Int) (w : World) (hn : server.length = n) (hm : nonce.length = 16) (hp : plain.length = p) (hbn : n ≤ 4000) (hbp : p ≤ 2048) (hx : Rd w A (nums .u8 server)) (hy : Rd w B (nums .u8 nonce)) (hz : Rd w C (nums .u8 plain)) (hK : Konst w) :
    Calls Tryd.prog 28 #[.slice A n c, .slice B 16 d, .slice C p f] w (IsRow2 w (sealL server nonce plain)) :=
  (seal_own A B C n c d p f server nonce plain w hn hm hp hbn hbp hx hy hz hK).mono fun _ _ h => h.row2

set_option maxHeartbeats 600000 in
theorem rseal_any (A B C : Option Addr) (n c d p f : Nat) (server nonce plain : List Int) (w : World) (hn : server.length = n) (hm : nonce.length = 16) (hp : plain.length = p) (hbn : n ≤ 4000) (hbp : p ≤ 2048) (hx : Rd w A (nums .u8 server)) (hy : Rd w B (nums .u8 nonce)) (hz : Rd w C (nums .u8 plain)) :
    Calls Tryd.prog 65 #[.slice A n c, .slice B 16 d, .slice C p f] w (IsRow2 w (sealL server nonce plain)) := by
  obtain ⟨i0, hi, hz0, hz1, hz2⟩ := info_parts infoByte
  have r1 : ¬ (2048 : Int) < p := by omega
  have CK := rlkey_any A B n c 16 d server nonce w hn hm (by omega) (by omega) hx hy
  have CH := fun A1 c1 W h1 h2 => cover_any A1 C 32 c1 p f (tagL server nonce) plain W (tag_len _ _) hp (by omega) (by omega) h1 h2
  have hl : (nums .u8 (hideL (tagL server nonce) plain)).length = p := by simp [hide_len, hp]
  have hnl : (nums .u8 nonce).length = 16 := by simp [hm]
  have ho : (outL server nonce plain).length = 16 + p := by rw [outL_len, hm, hp]
  have hs : (sealL server nonce plain).length = 16 + p + 32 := by rw [sealL_len, hm, hp]
  have hoe : nonce ++ hideL (tagL server nonce) plain = outL server nonce plain := rfl
  have CM : ∀ A1 c1 (W : World), Rd W A1 (nums .u8 (tagL server nonce)) → Calls Tryd.prog 48 #[.slice A1 32 c1, .slice (some ⟨W.heap.size, 0, none⟩) 1 1] (W.alloc (.cells #[.int .u8 3] 5)) (IsBytes (W.alloc (.cells #[.int .u8 3] 5)) (tagL (tagL server nonce) [3])) := fun A1 c1 (W : World) h1 => rtag_any A1 (some ⟨W.heap.size, 0, none⟩) 32 c1 1 1 (tagL server nonce) [3] (W.alloc (.cells (nums .u8 [3]).toArray 5)) (tag_len _ _) rfl (by omega) (by omega) (Rd.below h1 (bal brf _)) (rd_new W [3] 5)
  have CT := fun A1 c1 A2 c2 W h1 h2 => rtag_any A1 A2 32 c1 (16 + p) c2 (tagL (tagL server nonce) [3]) (outL server nonce plain) W (tag_len _ _) ho (by omega) (by omega) h1 h2
  have HS := Lib.hid hs
  have HL := Lib.hid hl
  have HNL := Lib.hid hnl
  have HOE := Lib.hid hoe
  have HY := Lib.hid hy
  have HZ := Lib.hid hz
  clear hn hm hp hx hy hz hl ho hs hoe hnl
  go_enter Tryd.func65, Tryd.ntmps65
  go_wp2_with (first
    | (go_at_call 77; refine CK.mono ?_; rintro e w1 ⟨B1, c1, he, hc1, hl1, hr1, hb1⟩; rw [tag_len] at he; subst he; have HR1 := Lib.hid hr1; have HRk := Lib.hid hr1; clear hr1; have HBX := hb1)
    | (go_at_call 79; refine (CH _ _ _ HR1.out (HZ.out.below HBX)).mono ?_; rintro e w3 ⟨A3, c3, he, hc3, hr3, hb3⟩; subst he; have HR1 := Lib.hid (HR1.out.below hb3); have HO := Lib.hid (own_below HO.out hb3); have HBX := bgo HBX hb3)
    | (go_at_call 48; first
        | ((with_reducible refine (CM _ _ _ HR1.out).mono ?_); rintro e w5 ⟨B5, c5, he, hc5, hl5, hr5, hb5⟩; rw [tag_len] at he; subst he; have HO := Lib.hid (own_below (HO.out.alloc (.cells (nums .u8 [3]).toArray 5)) hb5); have HBX := bgo (bal HBX _) hb5)
        | ((with_reducible refine (CT _ _ _ _ _ hr5 (Rd.of_own HO.out)).mono ?_); rintro e w6 ⟨B6, c6, he, hc6, hl6, hr6, hb6⟩; rw [tag_len] at he; subst he; have HO := Lib.hid (own_below HO.out hb6); have HBX := bgo HBX hb6))
    | (at_builtin; first
        | (refine append_vs rfl _ _ 22 rfl w1.heap.size 5 i0 (.int .u8 0) 1 Tryd.underlying22 hi hz0 hz1 hz2 rfl (.slice none 0 0) 0 [] rfl ⟨rfl, .inl ⟨rfl, rfl⟩⟩ B 16 d (nums .u8 nonce) rfl HNL.out (HY.out.below HBX) nums_u8_one (by unfold maxLen; omega) (by omega) (Nat.le_refl _) ?_; intro v2 w2 hown2 hgrow2; rw [Nat.zero_add, List.nil_append] at hown2; have hb2 : Below w1.heap.size w1 w2 := brf.grown hgrow2 (Nat.le_refl _) (fun k e => by simp [Value.ownBlock] at e); have HR1 := Lib.hid (HR1.out.below hb2); have HBX := bgo HBX hb2; have HO := Lib.hid hown2; clear hgrow2 hown2)
        | (refine append_vs rfl _ _ 22 rfl w1.heap.size 5 i0 (.int .u8 0) 1 Tryd.underlying22 hi hz0 hz1 hz2 rfl _ 16 _ rfl HO.out _ p _ _ rfl HL.out hr3 nums_u8_one (by unfold maxLen; omega) (by omega) (by have z2 := hb2.size; have z3 := hb3.size; omega) ?_; intro v4 w4 hown4 hgrow4; have hb4 : Below w1.heap.size w1 w4 := keep_below0 HO.out hgrow4 (bgo hb2 hb3) (by have z2 := hb2.size; have z3 := hb3.size; omega) (Nat.le_refl _); have hrb : Rd w4 (some ⟨B1, 0, none⟩) (nums .u8 (tagL server nonce)) := HRk.out.below hb4; have HR1 := Lib.hid hrb; have HBX := bgo hb1 hb4; obtain ⟨A4, c4, rfl⟩ := own_slice hown4; rw [← List.map_append, HOE.out] at hown4; have HO := Lib.hid hown4; clear hgrow4 hown4 hrb)
        | (refine append_vs rfl _ _ 22 rfl w1.heap.size 5 i0 (.int .u8 0) 1 Tryd.underlying22 hi hz0 hz1 hz2 rfl _ (16 + p) _ rfl HO.out _ 32 _ _ rfl (by simp [tag_len]) hr6 nums_u8_one (by unfold maxLen; omega) (by omega) (by have z2 := hb2.size; have z3 := hb3.size; have z4 := hb4.size; have z5 := hb5.size; have z6 := hb6.size; simp only [World.size_alloc] at z5 z6 ⊢; omega) ?_; intro v7 w7 hown7 hgrow7; have hb7 : Below w.heap.size w w7 := keep_below0 HO.out hgrow7 HBX HBX.size (by have z1 := hb1.size; omega); obtain ⟨A7, c7, rfl⟩ := own_slice hown7; rw [← List.map_append] at hown7)))
  go_ret2
  exact isRow2_mk HS.out (own_cap6 hown7).1 (Rd.of_own hown7) hb7
end Go.Proofs.YtgclcpopibjocaaDoor
