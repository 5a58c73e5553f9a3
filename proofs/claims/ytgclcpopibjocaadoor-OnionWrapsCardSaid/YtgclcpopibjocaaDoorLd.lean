/- Layer 8: the plain laws of closing and opening; the law's example. -/
import Derived.Test.YtgclcpopibjocaaDoorLc
namespace Go.Proofs.YtgclcpopibjocaaDoor
open Go.RowKit Go.ChangeShapes Go.WideShapes Go.ChangeAt
set_option linter.unusedSimpArgs false
set_option linter.unusedVariables false
set_option maxRecDepth 100000

theorem sealL_non {server nonce plain : List Int} (hn : nonce.length = 16) : nonL (sealL server nonce plain) = nonce := by
  rw [nonL, List.drop_zero, sealL, outL, List.append_assoc, List.take_append_of_le_length (by omega), List.take_of_length_le (by omega)]
theorem sealL_body {server nonce plain : List Int} (hn : nonce.length = 16) : bodyL (sealL server nonce plain) = outL server nonce plain := by
  rw [bodyL, List.drop_zero, sealL_len, sealL, List.take_append_of_le_length (by rw [outL_len]; omega), List.take_of_length_le (by rw [outL_len]; omega)]
theorem sealL_end {server nonce plain : List Int} (hn : nonce.length = 16) : endL (sealL server nonce plain) = tagL (tagL (tagL server nonce) [3]) (outL server nonce plain) := by
  have h : nonce.length + plain.length + 32 - 32 = (outL server nonce plain).length := by rw [outL_len]; omega
  rw [endL, sealL_len, h, sealL, List.drop_left, List.take_of_length_le (by rw [tag_len]; exact Nat.le_refl _)]
theorem sealL_in {server nonce plain : List Int} (hn : nonce.length = 16) (hb : Byt plain) : inL server (sealL server nonce plain) = plain := by
  have h1 : (sealL server nonce plain).drop 16 = hideL (tagL server nonce) plain ++ tagL (tagL (tagL server nonce) [3]) (outL server nonce plain) := by
    rw [sealL]
    conv => lhs; rw [outL, List.append_assoc, ← hn, List.drop_left]
    rfl
  rw [inL, sealL_non hn, h1, sealL_len, hn, List.take_append_of_le_length (by rw [hide_len]; omega), List.take_of_length_le (by rw [hide_len]; omega)]
  exact hide_twice _ hb
theorem sealL_open {server nonce plain : List Int} (hn : nonce.length = 16) (hp : plain.length ≤ 2048) : openE server (sealL server nonce plain) = 0 := by
  rw [openE_ok (by rw [sealL_len]; omega) (by rw [sealL_len]; omega), sealL_non hn, sealL_body hn, sealL_end hn, badTag, if_pos rfl]
theorem cut3 (b : List Int) (h : 48 ≤ b.length) : bodyL b = nonL b ++ (b.drop 16).take (b.length - 48) ∧ b = bodyL b ++ endL b := by
  constructor
  · rw [bodyL, nonL, List.drop_zero, show b.length - 32 = 16 + (b.length - 48) by omega, List.take_add]
  · rw [bodyL, endL, List.drop_zero]
    have h2 : (b.drop (b.length - 32)).take 32 = b.drop (b.length - 32) := List.take_of_length_le (by simp; omega)
    rw [h2, List.take_append_drop]
theorem open_sealL {server b : List Int} (h : 48 ≤ b.length) (h2 : b.length ≤ 2096) (hb : Byt b) (hE : openE server b = 0) : sealL server (nonL b) (inL server b) = b := by
  obtain ⟨e1, e2⟩ := cut3 b h
  have e3 : outL server (nonL b) (inL server b) = bodyL b := by
    rw [outL, inL, hide_twice _ (part_byt hb _ _), e1]
  rw [openE_ok h h2, badTag] at hE
  have e4 : endL b = tagL (tagL (tagL server (nonL b)) [3]) (bodyL b) := by
    by_cases hq : endL b = tagL (tagL (tagL server (nonL b)) [3]) (bodyL b)
    · exact hq
    · rw [if_neg hq] at hE
      cases hE
  rw [sealL, e3, ← e4]
  exact e2.symm

theorem rd_newX (w : World) (l : List Int) (t : TypeId) (x) : Rd (w.alloc (.cells (nums .u8 l).toArray t x)) (some ⟨w.heap.size, 0, none⟩) (nums .u8 l) := by
  refine .inr ⟨w.heap.size, 0, rfl, by simp, fun i v hv => ?_⟩
  rw [Nat.zero_add, alloc_cell_any]
  simpa [nums] using hv

def non8 : List Int := [48, 49, 50, 51, 52, 53, 54, 55, 56, 57, 97, 98, 99, 100, 101, 102]
theorem live8_any (w : World) (hK : Konst w) : Calls Tryd.prog 25 #[] w (IsLive w) := by
  have HK := Lib.hid hK
  clear hK
  have hbW : ∀ x1 x2, Below w.heap.size w ((w.alloc (.cells (nums .u8 non8).toArray 5 x1)).alloc (.cells (nums .u8 [107, 101, 121]).toArray 5 x2)) := fun x1 x2 => bal (bal brf _) _
  have CS : ∀ x1 x2, Calls Tryd.prog 28 #[.slice (some ⟨w.heap.size + 1, 0, none⟩) 3 3, .slice (some ⟨w.heap.size, 0, none⟩) 16 16, .slice none 0 0] ((w.alloc (.cells (nums .u8 non8).toArray 5 x1)).alloc (.cells (nums .u8 [107, 101, 121]).toArray 5 x2)) (IsRow2 _ (sealL [107, 101, 121] non8 [])) := fun x1 x2 =>
    seal_any (some ⟨w.heap.size + 1, 0, none⟩) (some ⟨w.heap.size, 0, none⟩) none 3 3 16 0 0 [107, 101, 121] non8 [] _ rfl rfl rfl (by omega) (by omega) (by have := rd_newX (w.alloc (.cells (nums .u8 non8).toArray 5 x1)) [107, 101, 121] 5 x2; rwa [World.size_alloc] at this) ((rd_newX w non8 5 x1).below (bal brf _)) (.inl rfl) (HK.out.go (hbW _ _))
  have hs : (sealL [107, 101, 121] non8 []).length = 48 := by rw [sealL_len]; rfl
  have ht : (sealL [107, 101, 121] non8 []).take 16 = non8 := by have := sealL_non (server := [107, 101, 121]) (nonce := non8) (plain := []) rfl; rwa [nonL, List.drop_zero] at this
  have CE := fun A B c d W h1 h2 => same_true A B 16 c 16 d non8 non8 W rfl rfl rfl h1 h2 (fun x hx => by simp [non8] at hx; omega)
  have HN : ∀ x1 x2, Hid (Rd ((w.alloc (.cells (nums .u8 non8).toArray 5 x1)).alloc (.cells (nums .u8 [107, 101, 121]).toArray 5 x2)) (some ⟨w.heap.size, 0, none⟩) (nums .u8 non8)) := fun x1 x2 => Lib.hid ((rd_newX w non8 5 x1).below (bal brf _))
  have HS := Lib.hid hs
  have HT := Lib.hid ht
  have HW := Lib.hid hbW
  clear hs ht hbW
  go_enter Tryd.func25, Tryd.ntmps25
  have kc := fun (w : World) (C : Array Value) (n c : Nat) => Lib.run_convert_bytes_const (P := Tryd.prog) w 22 5 C n c Tryd.underlying22 Tryd.underlying5
  have kc2 := fun (w : World) (o : Obj) (C : Array Value) (n c : Nat) => Lib.run_convert_bytes_const (P := Tryd.prog) (w.alloc o) 22 5 C n c Tryd.underlying22 Tryd.underlying5
  simp only [World.size_alloc] at kc2
  go_wp2_with (first
    | (go_at_call 28; refine (CS _ _).mono ?_; rintro e w1 ⟨A1, c1, he, hc1, hr1, hb1⟩; rw [HS.out] at he hc1; subst he; obtain ⟨b1, o1, rfl, hl1, _⟩ := hr1.at_ (by simp [HS.out]); have q1 : (16 : Int) ≤ c1 := (by omega); have q2 : ¬ c1 = 16 := (by omega); have hr2 := hr1.take 16; rw [HT.out] at hr2; have HR2 := Lib.hid hr2; have HN1 := Lib.hid ((HN _ _).out.below hb1); have HBX := bgo (HW.out _ _) hb1; clear hr1 hr2)
    | (go_at_call 16; refine (CE _ _ _ _ _ HR2.out HN1.out).mono ?_; rintro e w2 ⟨rfl, rfl⟩))
  go_ret
  exact ⟨rfl, HBX⟩
end Go.Proofs.YtgclcpopibjocaaDoor
