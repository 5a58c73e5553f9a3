/- Layer 8: Open, and the document's. -/
import Derived.Test.YtgclcpopibjocaaDoorLb
import Derived.Deep.RegionWith
import Derived.Deep.DeepMust
namespace Go.Proofs.YtgclcpopibjocaaDoor
open Go.RowKit Go.ChangeShapes Go.WideShapes Go.ChangeAt
set_option linter.unusedSimpArgs false
set_option linter.unusedVariables false
set_option maxRecDepth 100000

/-- What a layer's nonce, its body and its tag are; its key, what is in it, and why it is not opened. -/
def nonL (b : List Int) : List Int := (b.drop 0).take 16
def bodyL (b : List Int) : List Int := (b.drop 0).take (b.length - 32)
def endL (b : List Int) : List Int := (b.drop (b.length - 32)).take 32
def inL (server b : List Int) : List Int := hideL (tagL server (nonL b)) ((b.drop 16).take (b.length - 48))
def openE (server b : List Int) : Int := if b.length < 48 ∨ 2096 < b.length then 3 else badTag (tagL (tagL server (nonL b)) [3]) (bodyL b) (endL b)
theorem part_byt {l : List Int} (h : Byt l) (i k : Nat) : Byt ((l.drop i).take k) := fun x hx => h x (List.mem_of_mem_drop (List.mem_of_mem_take hx))
theorem openE_ok {server b : List Int} (h1 : 48 ≤ b.length) (h2 : b.length ≤ 2096) : openE server b = badTag (tagL (tagL server (nonL b)) [3]) (bodyL b) (endL b) := by
  rw [openE, if_neg (by omega)]
theorem badTag_cases (k b t : List Int) : badTag k b t = 0 ∨ badTag k b t = 4 := by
  unfold badTag; split <;> simp

theorem inL_len (server b : List Int) (h : 48 ≤ b.length) : (inL server b).length = b.length - 48 := by rw [inL, hide_len]; simp; omega
theorem inL_byt {server b : List Int} (h : Byt b) : Byt (inL server b) := hide_byt (part_byt h _ _)

/-- What was opened, and the key; of what is not empty, that it is a new block's, and whole. -/
def IsOpened (w : World) (l k : List Int) (e : Ending) (w' : World) : Prop :=
  ∃ A B c, e = .returned (.tuple #[.slice A l.length l.length, .slice (some ⟨B, 0, none⟩) k.length c, .int .i64 0]) ∧ Rd w' A (nums .u8 l) ∧ (0 < l.length → ∃ B, A = some ⟨B, 0, none⟩ ∧ w.heap.size ≤ B ∧ B < w'.heap.size ∧ Brow w' B l) ∧ Rd w' (some ⟨B, 0, none⟩) (nums .u8 k) ∧ k.length ≤ c ∧ Below w.heap.size w w'
def IsOpenedR (w : World) (l k : List Int) (e : Ending) (w' : World) : Prop :=
  ∃ A c B d, e = .returned (.tuple #[.slice A l.length c, .slice B k.length d, .int .i64 0]) ∧ Rd w' A (nums .u8 l) ∧ Rd w' B (nums .u8 k) ∧ Below w.heap.size w w'
theorem isOpened_mk {w w' : World} {l k : List Int} {A : Option Addr} {B c n m : Nat} (hl : l.length = n) (hk : k.length = m) (hr : Rd w' A (nums .u8 l)) (hB : 0 < l.length → ∃ B, A = some ⟨B, 0, none⟩ ∧ w.heap.size ≤ B ∧ B < w'.heap.size ∧ Brow w' B l) (hq : Rd w' (some ⟨B, 0, none⟩) (nums .u8 k)) (hc : k.length ≤ c) (hb : Below w.heap.size w w') :
    IsOpened w l k (.returned (.tuple #[.slice A n n, .slice (some ⟨B, 0, none⟩) m c, .int .i64 0])) w' := by
  subst hl hk
  exact ⟨A, B, c, rfl, hr, hB, hq, hc, hb⟩
theorem isOpenedR_mk {w w' : World} {l k : List Int} {A B : Option Addr} {c d n m : Nat} (hl : l.length = n) (hk : k.length = m) (hr : Rd w' A (nums .u8 l)) (hq : Rd w' B (nums .u8 k)) (hb : Below w.heap.size w w') :
    IsOpenedR w l k (.returned (.tuple #[.slice A n c, .slice B m d, .int .i64 0])) w' := by
  subst hl hk
  exact ⟨A, c, B, d, rfl, hr, hq, hb⟩
theorem hid_up {w w1 w2 : World} {A : Option Addr} {l : List Int} (hb : Below w.heap.size w w1) (h : 0 < l.length → ∃ B, A = some ⟨B, 0, none⟩ ∧ w1.heap.size ≤ B ∧ B < w2.heap.size ∧ Brow w2 B l) : 0 < l.length → ∃ B, A = some ⟨B, 0, none⟩ ∧ w.heap.size ≤ B ∧ B < w2.heap.size ∧ Brow w2 B l := fun h0 => by
  obtain ⟨B, h1, h2, h3, h4⟩ := h h0
  exact ⟨B, h1, Nat.le_trans hb.size h2, h3, h4⟩

theorem open_form (A B : Option Addr) (n c m d : Nat) (w : World) (h : m < 48 ∨ 2096 < m) :
    Calls Tryd.prog 34 #[.slice A n c, .slice B m d] w fun e w' => e = .returned (.tuple #[.slice none 0 0, .slice none 0 0, .int .i64 3]) ∧ w = w' := by
  by_cases h0 : m < 48
  · have h2 : (m : Int) < 48 := by omega
    go_enter Tryd.func34, Tryd.ntmps34
    go_wp2
    go_ret3
    exact ⟨rfl, rfl⟩
  · have h2 : ¬ (m : Int) < 48 := by omega
    have h3 : (2096 : Int) < m := by omega
    go_enter Tryd.func34, Tryd.ntmps34
    go_wp2
    go_ret3
    exact ⟨rfl, rfl⟩
theorem ropen_form (A B : Option Addr) (n c m d : Nat) (w : World) (h : m < 48 ∨ 2096 < m) :
    Calls Tryd.prog 61 #[.slice A n c, .slice B m d] w fun e w' => e = .returned (.tuple #[.slice none 0 0, .slice none 0 0, .int .i64 3]) ∧ w = w' := by
  by_cases h0 : m < 48
  · have h2 : (m : Int) < 48 := by omega
    go_enter Tryd.func61, Tryd.ntmps61
    go_wp2
    go_ret3
    exact ⟨rfl, rfl⟩
  · have h2 : ¬ (m : Int) < 48 := by omega
    have h3 : (2096 : Int) < m := by omega
    go_enter Tryd.func61, Tryd.ntmps61
    go_wp2
    go_ret3
    exact ⟨rfl, rfl⟩

set_option maxHeartbeats 1000000 in
theorem open_any (A : Option Addr) (B o : Nat) (n c m d : Nat) (server b : List Int) (w : World) (hn : server.length = n) (hm : b.length = m) (hbn : n ≤ 4000) (h48 : 48 ≤ m) (hbm : m ≤ 2096) (hmd : m ≤ d) (hx : Rd w A (nums .u8 server)) (hy : Rd w (some ⟨B, o, none⟩) (nums .u8 b)) (hb : Byt b) (hK : Konst w) (hE : openE server b = 0) :
    Calls Tryd.prog 34 #[.slice A n c, .slice (some ⟨B, o, none⟩) m d] w (IsOpened w (inL server b) (tagL server (nonL b))) := by
  obtain ⟨Q, hQ⟩ : ∃ Q, Q = m - 32 := ⟨_, rfl⟩
  obtain ⟨P, hP⟩ : ∃ P, P = m - 48 := ⟨_, rfl⟩
  have r1 : ¬ (m : Int) < 48 := by omega
  have r2 : ¬ (2096 : Int) < m := by omega
  have r3 : IntKind.i64.wrap ((m : Int) - 32) = (Q : Int) := by rw [show (m : Int) - 32 = Q by omega]; exact IntWalk.i64_in _ (by omega)
  have r4 : (0 : Int) ≤ Q := by omega
  have r5 : (Q : Int) ≤ d := by omega
  have r6 : (Q : Int) ≤ m := by omega
  have r7 : (16 : Int) ≤ d := by omega
  have r8 : (16 : Int) ≤ Q := by omega
  have r9 : (m : Int) ≤ d := by omega
  have r10 : ¬ d = Q := by omega
  have r11 : m - Q = 32 := by omega
  have r12 : Q - 16 = P := by omega
  have r13 : ¬ d = 16 := by omega
  have nQ : (nonL b).length = 16 := by simp [nonL]; omega
  have bQ : (bodyL b).length = Q := by simp [bodyL]; omega
  have eQ : (endL b).length = 32 := by simp [endL]; omega
  have iQ : ((b.drop 16).take P).length = P := by simp; omega
  rw [openE_ok (by omega) (by omega)] at hE
  have hr0 := hy.part 0 16
  have hr1 := hy.part 0 Q
  have hr2 := hy.part Q 32
  have hr3 := hy.part 16 P
  rw [Nat.add_zero] at hr0 hr1
  have eb : (b.drop 0).take Q = bodyL b := by rw [bodyL, hm, hQ]
  have ee : (b.drop Q).take 32 = endL b := by rw [endL, hm, hQ]
  have en : (b.drop 0).take 16 = nonL b := rfl
  rw [en] at hr0
  rw [eb] at hr1
  rw [ee] at hr2
  have hil : (inL server b).length = P := by rw [inL_len _ _ (by omega), hm, hP]
  have hi : hideL (tagL server (nonL b)) ((b.drop 16).take P) = inL server b := by rw [inL, hm, hP]
  obtain ⟨k, hk⟩ : ∃ k, k = tagL server (nonL b) := ⟨_, rfl⟩
  have lk : k.length = 32 := by rw [hk, tag_len]
  have CK := fun W h1 h2 hK => lkey_any A (some ⟨B, o, none⟩) n c 16 d server (nonL b) W hn nQ (by omega) (by omega) h1 h2 hK
  have CH := fun A1 c1 d1 W h1 h2 hK => hide_any A1 (some ⟨B, o + 16, none⟩) 32 c1 P d1 k ((b.drop 16).take P) W lk iQ (by omega) (by omega) h1 h2 hK
  have CM := fun A1 c1 A2 W h1 h2 hK => made_any A1 A2 32 c1 1 1 k [3] W lk rfl (by omega) (by omega) h1 h2 hK
  have CT := fun A1 c1 d1 d2 W h1 h2 h3 hK => check_tag A1 (some ⟨B, o, none⟩) (some ⟨B, o + Q, none⟩) 32 c1 Q d1 32 d2 (tagL k [3]) (bodyL b) (endL b) W (tag_len _ _) bQ eQ (by omega) (by omega) h1 h2 h3 (part_byt hb _ _) hK
  rw [← hk] at CK hi hE ⊢
  rw [hi] at CH
  rw [hE] at CT
  have HX := Lib.hid hx
  have HIL := Lib.hid hil
  have H0 := Lib.hid hr0
  have H1 := Lib.hid hr1
  have H2 := Lib.hid hr2
  have H3 := Lib.hid hr3
  have HK := Lib.hid hK
  clear hn hx hy hK hr0 hr1 hr2 hr3 eb ee en hi hE hQ hP hk hm nQ bQ eQ iQ hb hil
  go_enter Tryd.func34, Tryd.ntmps34
  go_upto_region 5 with (go_at_call 29; refine (CK _ HX.out H0.out HK.out).mono ?_; rintro e w1 ⟨B1, c1, he, hc1, hl1, hr1, hb1⟩; rw [lk] at he; subst he; have HR1 := Lib.hid hr1; clear hr1; have HBX := hb1)
  have hB2 : Below w.heap.size w (w1.drew.alloc (.cells (nums .u8 [3]).toArray 5)) := bal (bdr HBX) _
  have HA := Lib.hid (show Below w1.heap.size w1 (w1.drew.alloc (.cells (nums .u8 [3]).toArray 5)) from bal (bdr brf) _)
  have hn3 : Rd (w1.drew.alloc (.cells (nums .u8 [3]).toArray 5)) (some ⟨w1.heap.size, 0, none⟩) (nums .u8 [3]) := rd_new w1.drew [3] _
  have HN3 := Lib.hid hn3
  have HB2 := Lib.hid hB2
  clear hB2 hn3
  go_region_with (first
    | (go_at_call 53; go_must (refine (CM _ _ _ _ (HR1.out.below HA.out) HN3.out (HK.out.go HB2.out)).mono ?_; rintro e w2 ⟨B2, c2, he, hc2, hl2, hr2, hb2⟩; rw [tag_len] at he; subst he; have HR2 := Lib.hid hr2; have HBY := bgo HB2.out hb2; have HR1 := Lib.hid ((HR1.out.below HA.out).below hb2)))
    | (go_at_call 60; go_must (refine (CT _ _ _ _ _ HR2.out (H1.out.below HBY) (H2.out.below HBY) (HK.out.go HBY)).mono ?_; rintro e w3 ⟨rfl, hb3⟩; have HBZ := bgo HBY hb3; have HR1 := Lib.hid (HR1.out.below hb3))))
  go_wp2_with (go_at_call 55; refine (CH _ _ _ _ HR1.out (H3.out.below HBZ) (HK.out.go HBZ)).mono ?_; rintro e w4 ⟨A4, he, hr4, hB4, hb4⟩; rw [HIL.out] at he; subst he; have HR4 := Lib.hid hr4; have HG4 := Lib.hid hB4; have HR1 := Lib.hid (HR1.out.below hb4); clear hr4 hB4)
  go_ret3
  exact isOpened_mk HIL.out lk HR4.out (hid_up HBZ HG4.out) HR1.out hc1 (bgo HBZ hb4)

set_option maxHeartbeats 1000000 in
theorem open_tag (A : Option Addr) (B o : Nat) (n c m d : Nat) (server b : List Int) (w : World) (hn : server.length = n) (hm : b.length = m) (hbn : n ≤ 4000) (h48 : 48 ≤ m) (hbm : m ≤ 2096) (hmd : m ≤ d) (hx : Rd w A (nums .u8 server)) (hy : Rd w (some ⟨B, o, none⟩) (nums .u8 b)) (hb : Byt b) (hK : Konst w) (hE : openE server b ≠ 0) :
    Calls Tryd.prog 34 #[.slice A n c, .slice (some ⟨B, o, none⟩) m d] w (fun e w' => e = .returned (.tuple #[.slice none 0 0, .slice none 0 0, .int .i64 4]) ∧ Below w.heap.size w w') := by
  obtain ⟨Q, hQ⟩ : ∃ Q, Q = m - 32 := ⟨_, rfl⟩
  obtain ⟨P, hP⟩ : ∃ P, P = m - 48 := ⟨_, rfl⟩
  have r1 : ¬ (m : Int) < 48 := by omega
  have r2 : ¬ (2096 : Int) < m := by omega
  have r3 : IntKind.i64.wrap ((m : Int) - 32) = (Q : Int) := by rw [show (m : Int) - 32 = Q by omega]; exact IntWalk.i64_in _ (by omega)
  have r4 : (0 : Int) ≤ Q := by omega
  have r5 : (Q : Int) ≤ d := by omega
  have r6 : (Q : Int) ≤ m := by omega
  have r7 : (16 : Int) ≤ d := by omega
  have r8 : (16 : Int) ≤ Q := by omega
  have r9 : (m : Int) ≤ d := by omega
  have r10 : ¬ d = Q := by omega
  have r11 : m - Q = 32 := by omega
  have r12 : Q - 16 = P := by omega
  have r13 : ¬ d = 16 := by omega
  have nQ : (nonL b).length = 16 := by simp [nonL]; omega
  have bQ : (bodyL b).length = Q := by simp [bodyL]; omega
  have eQ : (endL b).length = 32 := by simp [endL]; omega
  have iQ : ((b.drop 16).take P).length = P := by simp; omega
  rw [openE_ok (by omega) (by omega)] at hE
  have hr0 := hy.part 0 16
  have hr1 := hy.part 0 Q
  have hr2 := hy.part Q 32
  have hr3 := hy.part 16 P
  rw [Nat.add_zero] at hr0 hr1
  have eb : (b.drop 0).take Q = bodyL b := by rw [bodyL, hm, hQ]
  have ee : (b.drop Q).take 32 = endL b := by rw [endL, hm, hQ]
  have en : (b.drop 0).take 16 = nonL b := rfl
  rw [en] at hr0
  rw [eb] at hr1
  rw [ee] at hr2
  have hil : (inL server b).length = P := by rw [inL_len _ _ (by omega), hm, hP]
  have hi : hideL (tagL server (nonL b)) ((b.drop 16).take P) = inL server b := by rw [inL, hm, hP]
  replace hE := (badTag_cases _ _ _).resolve_left hE
  obtain ⟨k, hk⟩ : ∃ k, k = tagL server (nonL b) := ⟨_, rfl⟩
  have lk : k.length = 32 := by rw [hk, tag_len]
  have CK := fun W h1 h2 hK => lkey_any A (some ⟨B, o, none⟩) n c 16 d server (nonL b) W hn nQ (by omega) (by omega) h1 h2 hK
  have CH := fun A1 c1 d1 W h1 h2 hK => hide_any A1 (some ⟨B, o + 16, none⟩) 32 c1 P d1 k ((b.drop 16).take P) W lk iQ (by omega) (by omega) h1 h2 hK
  have CM := fun A1 c1 A2 W h1 h2 hK => made_any A1 A2 32 c1 1 1 k [3] W lk rfl (by omega) (by omega) h1 h2 hK
  have CT := fun A1 c1 d1 d2 W h1 h2 h3 hK => check_tag A1 (some ⟨B, o, none⟩) (some ⟨B, o + Q, none⟩) 32 c1 Q d1 32 d2 (tagL k [3]) (bodyL b) (endL b) W (tag_len _ _) bQ eQ (by omega) (by omega) h1 h2 h3 (part_byt hb _ _) hK
  rw [← hk] at CK hi hE
  rw [hi] at CH
  rw [hE] at CT
  have HX := Lib.hid hx
  have HIL := Lib.hid hil
  have H0 := Lib.hid hr0
  have H1 := Lib.hid hr1
  have H2 := Lib.hid hr2
  have H3 := Lib.hid hr3
  have HK := Lib.hid hK
  clear hn hx hy hK hr0 hr1 hr2 hr3 eb ee en hi hE hQ hP hk hm nQ bQ eQ iQ hb hil
  go_enter Tryd.func34, Tryd.ntmps34
  go_upto_region 5 with (go_at_call 29; refine (CK _ HX.out H0.out HK.out).mono ?_; rintro e w1 ⟨B1, c1, he, hc1, hl1, hr1, hb1⟩; rw [lk] at he; subst he; have HR1 := Lib.hid hr1; clear hr1; have HBX := hb1)
  have hB2 : Below w.heap.size w (w1.drew.alloc (.cells (nums .u8 [3]).toArray 5)) := bal (bdr HBX) _
  have HA := Lib.hid (show Below w1.heap.size w1 (w1.drew.alloc (.cells (nums .u8 [3]).toArray 5)) from bal (bdr brf) _)
  have hn3 : Rd (w1.drew.alloc (.cells (nums .u8 [3]).toArray 5)) (some ⟨w1.heap.size, 0, none⟩) (nums .u8 [3]) := rd_new w1.drew [3] _
  have HN3 := Lib.hid hn3
  have HB2 := Lib.hid hB2
  clear hB2 hn3
  go_region_with (first
    | (go_at_call 53; go_must (refine (CM _ _ _ _ (HR1.out.below HA.out) HN3.out (HK.out.go HB2.out)).mono ?_; rintro e w2 ⟨B2, c2, he, hc2, hl2, hr2, hb2⟩; rw [tag_len] at he; subst he; have HR2 := Lib.hid hr2; have HBY := bgo HB2.out hb2; have HR1 := Lib.hid ((HR1.out.below HA.out).below hb2)))
    | (go_at_call 60; go_must (refine (CT _ _ _ _ _ HR2.out (H1.out.below HBY) (H2.out.below HBY) (HK.out.go HBY)).mono ?_; rintro e w3 ⟨rfl, hb3⟩; have HBZ := bgo HBY hb3; have HR1 := Lib.hid (HR1.out.below hb3))))
  go_wp2_with fail
  go_ret3
  exact ⟨rfl, HBZ⟩

/-- What was opened, a row of one's own, and the key; V: the world between the two. -/
def IsOpenedO (w : World) (l k : List Int) (e : Ending) (w' : World) : Prop :=
  ∃ A c B d, ∃ V : World, e = .returned (.tuple #[.slice A l.length c, .slice B k.length d, .int .i64 0]) ∧ w'.ownsRow V.heap.size 5 1 (.slice A l.length c) l.length (nums .u8 l) ∧ Rd V B (nums .u8 k) ∧ Below w.heap.size w V ∧ Below V.heap.size V w'
theorem isOpenedO_mk {w w' V : World} {l k : List Int} {A B : Option Addr} {c d n m : Nat} (hl : l.length = n) (hk : k.length = m) (hr : w'.ownsRow V.heap.size 5 1 (.slice A n c) n (nums .u8 l)) (hq : Rd V B (nums .u8 k)) (hb : Below w.heap.size w V) (hv : Below V.heap.size V w') :
    IsOpenedO w l k (.returned (.tuple #[.slice A n c, .slice B m d, .int .i64 0])) w' := by
  subst hl hk
  exact ⟨A, c, B, d, V, rfl, hr, hq, hb, hv⟩
set_option maxHeartbeats 1000000 in
theorem ropen_own (A : Option Addr) (B o : Nat) (n c m d : Nat) (server b : List Int) (w : World) (hn : server.length = n) (hm : b.length = m) (hbn : n ≤ 4000) (h48 : 48 ≤ m) (hbm : m ≤ 2096) (hmd : m ≤ d) (hx : Rd w A (nums .u8 server)) (hy : Rd w (some ⟨B, o, none⟩) (nums .u8 b)) (hb : Byt b) (hE : openE server b = 0) :
    Calls Tryd.prog 61 #[.slice A n c, .slice (some ⟨B, o, none⟩) m d] w (IsOpenedO w (inL server b) (tagL server (nonL b))) := by
  obtain ⟨Q, hQ⟩ : ∃ Q, Q = m - 32 := ⟨_, rfl⟩
  obtain ⟨P, hP⟩ : ∃ P, P = m - 48 := ⟨_, rfl⟩
  have r1 : ¬ (m : Int) < 48 := by omega
  have r2 : ¬ (2096 : Int) < m := by omega
  have r3 : IntKind.i64.wrap ((m : Int) - 32) = (Q : Int) := by rw [show (m : Int) - 32 = Q by omega]; exact IntWalk.i64_in _ (by omega)
  have r4 : (0 : Int) ≤ Q := by omega
  have r5 : (Q : Int) ≤ d := by omega
  have r6 : (Q : Int) ≤ m := by omega
  have r7 : (16 : Int) ≤ d := by omega
  have r8 : (16 : Int) ≤ Q := by omega
  have r9 : (m : Int) ≤ d := by omega
  have r10 : ¬ d = Q := by omega
  have r11 : m - Q = 32 := by omega
  have r12 : Q - 16 = P := by omega
  have r13 : ¬ d = 16 := by omega
  have nQ : (nonL b).length = 16 := by simp [nonL]; omega
  have bQ : (bodyL b).length = Q := by simp [bodyL]; omega
  have eQ : (endL b).length = 32 := by simp [endL]; omega
  have iQ : ((b.drop 16).take P).length = P := by simp; omega
  rw [openE_ok (by omega) (by omega)] at hE
  have hr0 := hy.part 0 16
  have hr1 := hy.part 0 Q
  have hr2 := hy.part Q 32
  have hr3 := hy.part 16 P
  rw [Nat.add_zero] at hr0 hr1
  have eb : (b.drop 0).take Q = bodyL b := by rw [bodyL, hm, hQ]
  have ee : (b.drop Q).take 32 = endL b := by rw [endL, hm, hQ]
  have en : (b.drop 0).take 16 = nonL b := rfl
  rw [en] at hr0
  rw [eb] at hr1
  rw [ee] at hr2
  have hil : (inL server b).length = P := by rw [inL_len _ _ (by omega), hm, hP]
  have hi : hideL (tagL server (nonL b)) ((b.drop 16).take P) = inL server b := by rw [inL, hm, hP]
  obtain ⟨k, hk⟩ : ∃ k, k = tagL server (nonL b) := ⟨_, rfl⟩
  have lk : k.length = 32 := by rw [hk, tag_len]
  have CK := fun W h1 h2 => rlkey_any A (some ⟨B, o, none⟩) n c 16 d server (nonL b) W hn nQ (by omega) (by omega) h1 h2
  have CH := fun A1 c1 d1 W h1 h2 => cover_own A1 (some ⟨B, o + 16, none⟩) 32 c1 P d1 k ((b.drop 16).take P) W lk iQ (by omega) (by omega) h1 h2
  have CM := fun A1 c1 A2 W h1 h2 => rtag_any A1 A2 32 c1 1 1 k [3] W lk rfl (by omega) (by omega) h1 h2
  have CT := fun A1 c1 d1 d2 W h1 h2 h3 => rcheck_tag A1 (some ⟨B, o, none⟩) (some ⟨B, o + Q, none⟩) 32 c1 Q d1 32 d2 (tagL k [3]) (bodyL b) (endL b) W (tag_len _ _) bQ eQ (by omega) (by omega) h1 h2 h3 (part_byt hb _ _)
  rw [← hk] at CK hi hE ⊢
  rw [hi] at CH
  rw [hE] at CT
  have HX := Lib.hid hx
  have HIL := Lib.hid hil
  have H0 := Lib.hid hr0
  have H1 := Lib.hid hr1
  have H2 := Lib.hid hr2
  have H3 := Lib.hid hr3

  clear hn hx hy hr0 hr1 hr2 hr3 eb ee en hi hE hQ hP hk hm nQ bQ eQ iQ hb hil
  go_enter Tryd.func61, Tryd.ntmps61
  go_upto_region 5 with (go_at_call 77; refine (CK _ HX.out H0.out).mono ?_; rintro e w1 ⟨B1, c1, he, hc1, hl1, hr1, hb1⟩; rw [lk] at he; subst he; have HR1 := Lib.hid hr1; clear hr1; have HBX := hb1)
  have hB2 : Below w.heap.size w (w1.drew.alloc (.cells (nums .u8 [3]).toArray 5)) := bal (bdr HBX) _
  have HA := Lib.hid (show Below w1.heap.size w1 (w1.drew.alloc (.cells (nums .u8 [3]).toArray 5)) from bal (bdr brf) _)
  have hn3 : Rd (w1.drew.alloc (.cells (nums .u8 [3]).toArray 5)) (some ⟨w1.heap.size, 0, none⟩) (nums .u8 [3]) := rd_new w1.drew [3] _
  have HN3 := Lib.hid hn3
  have HB2 := Lib.hid hB2
  clear hB2 hn3
  go_region_with (first
    | (go_at_call 48; go_must (refine (CM _ _ _ _ (HR1.out.below HA.out) HN3.out).mono ?_; rintro e w2 ⟨B2, c2, he, hc2, hl2, hr2, hb2⟩; rw [tag_len] at he; subst he; have HR2 := Lib.hid hr2; have HBY := bgo HB2.out hb2; have HR1 := Lib.hid ((HR1.out.below HA.out).below hb2)))
    | (go_at_call 78; go_must (refine (CT _ _ _ _ _ HR2.out (H1.out.below HBY) (H2.out.below HBY)).mono ?_; rintro e w3 ⟨rfl, hb3⟩; have HBZ := bgo HBY hb3; have HR1 := Lib.hid (HR1.out.below hb3))))
  have HRV := HR1
  go_wp2_with (go_at_call 79; refine (CH _ _ _ _ HR1.out (H3.out.below HBZ)).mono ?_; rintro e w4 ⟨A4, c4, he, hc4, hr4, hb4⟩; subst he; have HR4 := Lib.hid hr4; have HR1 := Lib.hid (HR1.out.below hb4); clear hr4)
  go_ret3
  exact isOpenedO_mk HIL.out lk HR4.out HRV.out HBZ hb4

theorem ropen_any (A : Option Addr) (B o : Nat) (n c m d : Nat) (server b : List Int) (w : World) (hn : server.length = n) (hm : b.length = m) (hbn : n ≤ 4000) (h48 : 48 ≤ m) (hbm : m ≤ 2096) (hmd : m ≤ d) (hx : Rd w A (nums .u8 server)) (hy : Rd w (some ⟨B, o, none⟩) (nums .u8 b)) (hb : Byt b) (hE : openE server b = 0) :
    Calls Tryd.prog 61 #[.slice A n c, .slice (some ⟨B, o, none⟩) m d] w (IsOpenedR w (inL server b) (tagL server (nonL b))) :=
  (ropen_own A B o n c m d server b w hn hm hbn h48 hbm hmd hx hy hb hE).mono fun _ _ ⟨A', c', B', d', V, he, ho, hk, hb, hv⟩ => ⟨A', c', B', d', he, Rd.of_own ho, hk.below hv, bgo hb hv⟩

set_option maxHeartbeats 1000000 in
theorem ropen_tag (A : Option Addr) (B o : Nat) (n c m d : Nat) (server b : List Int) (w : World) (hn : server.length = n) (hm : b.length = m) (hbn : n ≤ 4000) (h48 : 48 ≤ m) (hbm : m ≤ 2096) (hmd : m ≤ d) (hx : Rd w A (nums .u8 server)) (hy : Rd w (some ⟨B, o, none⟩) (nums .u8 b)) (hb : Byt b) (hE : openE server b ≠ 0) :
    Calls Tryd.prog 61 #[.slice A n c, .slice (some ⟨B, o, none⟩) m d] w (fun e w' => e = .returned (.tuple #[.slice none 0 0, .slice none 0 0, .int .i64 4]) ∧ Below w.heap.size w w') := by
  obtain ⟨Q, hQ⟩ : ∃ Q, Q = m - 32 := ⟨_, rfl⟩
  obtain ⟨P, hP⟩ : ∃ P, P = m - 48 := ⟨_, rfl⟩
  have r1 : ¬ (m : Int) < 48 := by omega
  have r2 : ¬ (2096 : Int) < m := by omega
  have r3 : IntKind.i64.wrap ((m : Int) - 32) = (Q : Int) := by rw [show (m : Int) - 32 = Q by omega]; exact IntWalk.i64_in _ (by omega)
  have r4 : (0 : Int) ≤ Q := by omega
  have r5 : (Q : Int) ≤ d := by omega
  have r6 : (Q : Int) ≤ m := by omega
  have r7 : (16 : Int) ≤ d := by omega
  have r8 : (16 : Int) ≤ Q := by omega
  have r9 : (m : Int) ≤ d := by omega
  have r10 : ¬ d = Q := by omega
  have r11 : m - Q = 32 := by omega
  have r12 : Q - 16 = P := by omega
  have r13 : ¬ d = 16 := by omega
  have nQ : (nonL b).length = 16 := by simp [nonL]; omega
  have bQ : (bodyL b).length = Q := by simp [bodyL]; omega
  have eQ : (endL b).length = 32 := by simp [endL]; omega
  have iQ : ((b.drop 16).take P).length = P := by simp; omega
  rw [openE_ok (by omega) (by omega)] at hE
  have hr0 := hy.part 0 16
  have hr1 := hy.part 0 Q
  have hr2 := hy.part Q 32
  have hr3 := hy.part 16 P
  rw [Nat.add_zero] at hr0 hr1
  have eb : (b.drop 0).take Q = bodyL b := by rw [bodyL, hm, hQ]
  have ee : (b.drop Q).take 32 = endL b := by rw [endL, hm, hQ]
  have en : (b.drop 0).take 16 = nonL b := rfl
  rw [en] at hr0
  rw [eb] at hr1
  rw [ee] at hr2
  have hil : (inL server b).length = P := by rw [inL_len _ _ (by omega), hm, hP]
  have hi : hideL (tagL server (nonL b)) ((b.drop 16).take P) = inL server b := by rw [inL, hm, hP]
  replace hE := (badTag_cases _ _ _).resolve_left hE
  obtain ⟨k, hk⟩ : ∃ k, k = tagL server (nonL b) := ⟨_, rfl⟩
  have lk : k.length = 32 := by rw [hk, tag_len]
  have CK := fun W h1 h2 => rlkey_any A (some ⟨B, o, none⟩) n c 16 d server (nonL b) W hn nQ (by omega) (by omega) h1 h2
  have CH := fun A1 c1 d1 W h1 h2 => cover_any A1 (some ⟨B, o + 16, none⟩) 32 c1 P d1 k ((b.drop 16).take P) W lk iQ (by omega) (by omega) h1 h2
  have CM := fun A1 c1 A2 W h1 h2 => rtag_any A1 A2 32 c1 1 1 k [3] W lk rfl (by omega) (by omega) h1 h2
  have CT := fun A1 c1 d1 d2 W h1 h2 h3 => rcheck_tag A1 (some ⟨B, o, none⟩) (some ⟨B, o + Q, none⟩) 32 c1 Q d1 32 d2 (tagL k [3]) (bodyL b) (endL b) W (tag_len _ _) bQ eQ (by omega) (by omega) h1 h2 h3 (part_byt hb _ _)
  rw [← hk] at CK hi hE
  rw [hi] at CH
  rw [hE] at CT
  have HX := Lib.hid hx
  have HIL := Lib.hid hil
  have H0 := Lib.hid hr0
  have H1 := Lib.hid hr1
  have H2 := Lib.hid hr2
  have H3 := Lib.hid hr3

  clear hn hx hy hr0 hr1 hr2 hr3 eb ee en hi hE hQ hP hk hm nQ bQ eQ iQ hb hil
  go_enter Tryd.func61, Tryd.ntmps61
  go_upto_region 5 with (go_at_call 77; refine (CK _ HX.out H0.out).mono ?_; rintro e w1 ⟨B1, c1, he, hc1, hl1, hr1, hb1⟩; rw [lk] at he; subst he; have HR1 := Lib.hid hr1; clear hr1; have HBX := hb1)
  have hB2 : Below w.heap.size w (w1.drew.alloc (.cells (nums .u8 [3]).toArray 5)) := bal (bdr HBX) _
  have HA := Lib.hid (show Below w1.heap.size w1 (w1.drew.alloc (.cells (nums .u8 [3]).toArray 5)) from bal (bdr brf) _)
  have hn3 : Rd (w1.drew.alloc (.cells (nums .u8 [3]).toArray 5)) (some ⟨w1.heap.size, 0, none⟩) (nums .u8 [3]) := rd_new w1.drew [3] _
  have HN3 := Lib.hid hn3
  have HB2 := Lib.hid hB2
  clear hB2 hn3
  go_region_with (first
    | (go_at_call 48; go_must (refine (CM _ _ _ _ (HR1.out.below HA.out) HN3.out).mono ?_; rintro e w2 ⟨B2, c2, he, hc2, hl2, hr2, hb2⟩; rw [tag_len] at he; subst he; have HR2 := Lib.hid hr2; have HBY := bgo HB2.out hb2; have HR1 := Lib.hid ((HR1.out.below HA.out).below hb2)))
    | (go_at_call 78; go_must (refine (CT _ _ _ _ _ HR2.out (H1.out.below HBY) (H2.out.below HBY)).mono ?_; rintro e w3 ⟨rfl, hb3⟩; have HBZ := bgo HBY hb3; have HR1 := Lib.hid (HR1.out.below hb3))))
  go_wp2_with fail
  go_ret3
  exact ⟨rfl, HBZ⟩

end Go.Proofs.YtgclcpopibjocaaDoor
