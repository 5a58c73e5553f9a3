/- Frames taken, all cases; the chapter's example; what is short enough; a frame that was read. -/
import Derived.Test.YtmkmndgdakpojaaDoorFi
import Derived.Test.YtmkmndgdakpojaaDoorFj
import Derived.Test.YtmkmndgdakpojaaDoorFk
import Derived.Test.YtmkmndgdakpojaaDoorFd
import Derived.Test.YtmkmndgdakpojaaDoorTf
import Derived.Test.YtmkmndgdakpojaaDoorTm
import Derived.Deep.DeepMust
namespace Go.Proofs.YtmkmndgdakpojaaDoor
open Go.RowKit
set_option linter.unusedSimpArgs false
set_option linter.unusedVariables false
set_option maxRecDepth 100000

/-- Whether bytes are a frame's but for the tag. -/
def tF (b : List Int) : Prop := 32 ≤ b.length ∧ paOk (b.take (b.length - 32)) ∧ paGood (b.take (b.length - 32))
/-- Whether they bear the tag. -/
def tT (key b : List Int) : Prop := b.drop (b.length - 32) = tagL key (b.take (b.length - 32))
section
variable {P A : Option Addr} {pn pc n c : Nat} {key b : List Int} {w : World}
theorem some_of_rd {vs : List Value} (hx : Rd w A vs) (h : 0 < vs.length) : ∃ B o, A = some ⟨B, o, none⟩ := by
  obtain ⟨B, o, he, _⟩ := hx.at_ h
  exact ⟨B, o, he⟩
theorem fTake_3 (hp : key.length = pn) (hp4 : pn ≤ 4000) (hpx : Rd w P (nums .u8 key)) (hn : b.length = n) (hnc : n ≤ c) (hcm : c ≤ maxLen) (h2k : n ≤ 2000) (hx : Rd w A (nums .u8 b)) (hb : Byt b) (hK : Konst w) (h : ¬ tF b) : Calls Tryd.prog 11 #[.slice P pn pc, .slice A n c] w (NoFr 3 w) := by
  by_cases h0 : n < 32
  · exact take_short P pn pc A n c w h0
  obtain ⟨B, o, rfl⟩ := some_of_rd hx (by simp; omega)
  unfold tF at h
  rw [hn] at h
  by_cases h1 : paOk (b.take (n - 32))
  · exact take_bad P pn pc key B o n (n - 32) c b w hp hp4 hpx hn hnc hcm (by omega) h2k hx hb hK h1 (fun h2 => h ⟨by omega, h1, h2⟩)
  · exact take_noread P pn pc key B o n (n - 32) c b w hp hp4 hpx hn hnc hcm (by omega) h2k hx hb hK h1
theorem fTake_4 (hp : key.length = pn) (hp4 : pn ≤ 4000) (hpx : Rd w P (nums .u8 key)) (hn : b.length = n) (hnc : n ≤ c) (hcm : c ≤ maxLen) (h2k : n ≤ 2000) (hx : Rd w A (nums .u8 b)) (hb : Byt b) (hK : Konst w) (h : tF b) (ht : ¬ tT key b) : Calls Tryd.prog 11 #[.slice P pn pc, .slice A n c] w (NoFr 4 w) := by
  obtain ⟨h0, h1, h2⟩ := h
  unfold tT at ht
  rw [hn] at h0 h1 h2 ht
  obtain ⟨B, o, rfl⟩ := some_of_rd hx (by simp; omega)
  exact take_tag P pn pc key B o n (n - 32) c b w hp hp4 hpx hn hnc hcm (by omega) h2k hx hb hK h1 h2 ht
theorem fTake_0 (hp : key.length = pn) (hp4 : pn ≤ 4000) (hpx : Rd w P (nums .u8 key)) (hn : b.length = n) (hnc : n ≤ c) (hcm : c ≤ maxLen) (h2k : n ≤ 2000) (hx : Rd w A (nums .u8 b)) (hb : Byt b) (hK : Konst w) (h : tF b) (ht : tT key b) : Calls Tryd.prog 11 #[.slice P pn pc, .slice A n c] w (IsFr w (b.take (n - 32))) := by
  obtain ⟨h0, h1, h2⟩ := h
  unfold tT at ht
  rw [hn] at h0 h1 h2 ht
  obtain ⟨B, o, rfl⟩ := some_of_rd hx (by simp; omega)
  exact take_yes P pn pc key B o n (n - 32) c b w hp hp4 hpx hn hnc hcm (by omega) h2k hx hb hK h1 h2 ht
theorem rfTake_3 (hp : key.length = pn) (hp4 : pn ≤ 4000) (hpx : Rd w P (nums .u8 key)) (hn : b.length = n) (hnc : n ≤ c) (hcm : c ≤ maxLen) (h2k : n ≤ 2000) (hx : Rd w A (nums .u8 b)) (hb : Byt b) (h : ¬ tF b) : Calls Tryd.prog 12 #[.slice P pn pc, .slice A n c] w (NoFr 3 w) := by
  by_cases h0 : n < 34
  · exact rtake_short P pn pc A n c w h0
  obtain ⟨B, o, rfl⟩ := some_of_rd hx (by simp; omega)
  unfold tF at h
  rw [hn] at h
  have hil : (b.take (n - 32)).length = n - 32 := by rw [List.length_take]; omega
  by_cases h1 : stOk ((b.take (n - 32)).drop 2)
  · by_cases h2 : n - 32 < 28 + paM (b.take (n - 32))
    · exact rtake_len P pn pc key B o n (n - 32) c b w hp hp4 hpx hn hnc hcm (by omega) (by omega) h2k hx hb h1 h2
    · by_cases h3 : paS (b.take (n - 32)) = n - 32 - (28 + paM (b.take (n - 32)))
      · exact rtake_bad P pn pc key B o n (n - 32) c b w hp hp4 hpx hn hnc hcm (by omega) (by omega) h2k hx hb h1 (by omega) h3 (fun h4 => h ⟨by omega, ⟨by omega, h1, by omega, by rw [hil]; exact h3⟩, h4⟩)
      · exact rtake_size P pn pc key B o n (n - 32) c b w hp hp4 hpx hn hnc hcm (by omega) (by omega) h2k hx hb h1 (by omega) h3
  · exact rtake_stamp P pn pc key B o n (n - 32) c b w hp hp4 hpx hn hnc hcm (by omega) (by omega) h2k hx hb h1
theorem rfTake_4 (hp : key.length = pn) (hp4 : pn ≤ 4000) (hpx : Rd w P (nums .u8 key)) (hn : b.length = n) (hnc : n ≤ c) (hcm : c ≤ maxLen) (h2k : n ≤ 2000) (hx : Rd w A (nums .u8 b)) (hb : Byt b) (h : tF b) (ht : ¬ tT key b) : Calls Tryd.prog 12 #[.slice P pn pc, .slice A n c] w (NoFr 4 w) := by
  obtain ⟨h0, ⟨h1, h2, h3, h4⟩, h5⟩ := h
  unfold tT at ht
  rw [hn] at h0 h1 h2 h3 h4 h5 ht
  have hil : (b.take (n - 32)).length = n - 32 := by rw [List.length_take]; omega
  rw [hil] at h1 h3 h4
  obtain ⟨B, o, rfl⟩ := some_of_rd hx (by simp; omega)
  exact rtake_tag P pn pc key B o n (n - 32) c b w hp hp4 hpx hn hnc hcm (by omega) (by omega) h2k hx hb h2 h3 h4 h5 ht
theorem rfTake_0 (hp : key.length = pn) (hp4 : pn ≤ 4000) (hpx : Rd w P (nums .u8 key)) (hn : b.length = n) (hnc : n ≤ c) (hcm : c ≤ maxLen) (h2k : n ≤ 2000) (hx : Rd w A (nums .u8 b)) (hb : Byt b) (h : tF b) (ht : tT key b) : Calls Tryd.prog 12 #[.slice P pn pc, .slice A n c] w (IsFr w (b.take (n - 32))) := by
  obtain ⟨h0, ⟨h1, h2, h3, h4⟩, h5⟩ := h
  unfold tT at ht
  rw [hn] at h0 h1 h2 h3 h4 h5 ht
  have hil : (b.take (n - 32)).length = n - 32 := by rw [List.length_take]; omega
  rw [hil] at h1 h3 h4
  obtain ⟨B, o, rfl⟩ := some_of_rd hx (by simp; omega)
  exact rtake_yes P pn pc key B o n (n - 32) c b w hp hp4 hpx hn hnc hcm (by omega) (by omega) h2k hx hb h2 h3 h4 h5 ht
end

section
variable {key : List Int} {F T K : Int} {ep ro q : Nat} {xs bs : List Int}
theorem frB_take : (frB key F T ep ro xs K q bs).take ((frB key F T ep ro xs K q bs).length - 32) = inB F T ep ro xs K q bs := by
  have : (frB key F T ep ro xs K q bs).length - 32 = (inB F T ep ro xs K q bs).length := by rw [frB_len, inB_len]; omega
  rw [this, frB, List.take_left' rfl]
theorem frB_drop : (frB key F T ep ro xs K q bs).drop ((frB key F T ep ro xs K q bs).length - 32) = tagL key (inB F T ep ro xs K q bs) := by
  have : (frB key F T ep ro xs K q bs).length - 32 = (inB F T ep ro xs K q bs).length := by rw [frB_len, inB_len]; omega
  rw [this, frB, List.drop_left' rfl]
theorem in_parts0 (he : ep < 18446744073709551616) (hr : ro < 18446744073709551616) (hq : q < 4294967296) (hb : bs.length < 4294967296) :
    paM (inB F T ep ro xs K q bs) = xs.length ∧ paE (inB F T ep ro xs K q bs) = ep ∧ paO (inB F T ep ro xs K q bs) = ro ∧ paX (inB F T ep ro xs K q bs) = xs ∧
    paK (inB F T ep ro xs K q bs) = K ∧ paQ (inB F T ep ro xs K q bs) = q ∧ paB (inB F T ep ro xs K q bs) = bs ∧ (inB F T ep ro xs K q bs).getD 0 0 = F ∧ (inB F T ep ro xs K q bs).getD 1 0 = T := by
  obtain ⟨p1, p2, p3, p4, p5, p6, p7, p8⟩ := in_parts (F := F) (T := T) (K := K) (xs := xs) (more := []) he hr hq hb
  obtain ⟨h1, h2⟩ := in_heads (F := F) (T := T) (K := K) (ep := ep) (ro := ro) (Q := q) (xs := xs) (bs := bs) (more := [])
  rw [List.append_nil] at p1 p2 p3 p4 p5 p6 p8 h1 h2
  rw [List.append_nil] at p8
  exact ⟨p1, p2, p3, p4, p5, p6, p8, h1, h2⟩
/-- A frame's bytes are a frame's, and bear the tag. -/
theorem frB_tF (hg : goodF F T K q xs bs.length) (he : ep < 18446744073709551616) (hr : ro < 18446744073709551616) (hl : bs.length ≤ 65536) : tF (frB key F T ep ro xs K q bs) ∧ tT key (frB key F T ep ro xs K q bs) := by
  have hq : q < 4294967296 := by have := hg.2.2.2.2.2.2.2.1; omega
  obtain ⟨p1, p2, p3, p4, p5, p6, p8, h1, h2⟩ := in_parts0 (F := F) (T := T) (K := K) (xs := xs) (bs := bs) he hr hq (by omega)
  refine ⟨⟨by rw [frB_len]; omega, ?_, ?_⟩, ?_⟩
  · rw [frB_take]; exact in_ok hg.2.2.2.2.2.1 he hr hq (by omega)
  · rw [frB_take]; unfold paGood; rw [p4, p5, p6, p8, h1, h2]; exact hg
  · unfold tT; rw [frB_take, frB_drop]
theorem frB_byt (hg : goodF F T K q xs bs.length) (hb : Byt bs) : Byt (frB key F T ep ro xs K q bs) := fun x hx => by
  rcases List.mem_append.1 hx with h | h
  · exact inB_byt hg hb _ x h
  · exact tag_byt _ _ x h
end
/-- What was put is taken. -/
theorem fTake_put (P : Option Addr) (pn pc : Nat) (key : List Int) (F T : Int) (ep ro : Nat) (xs : List Int) (K : Int) (q : Nat) (bs : List Int) (B n c l : Nat) (w : World) (hp : key.length = pn) (hp4 : pn ≤ 4000) (hpx : Rd w P (nums .u8 key)) (hn : xs.length = n) (hl : bs.length = l) (hl2 : l ≤ 1500) (hg : goodF F T K q xs l) (he : ep < 18446744073709551616) (hr : ro < 18446744073709551616) (hb : Byt bs) (hc : 60 + n + l ≤ c) (hcm : c ≤ maxLen) (hx : Rd w (some ⟨B, 0, none⟩) (nums .u8 (frB key F T ep ro xs K q bs))) (hK : Konst w) :
    Calls Tryd.prog 11 #[.slice P pn pc, .slice (some ⟨B, 0, none⟩) (60 + n + l) c] w (IsFrL w n l F T ep ro K q xs bs) := by
  subst hl
  have n8 : n ≤ 8 := by rw [← hn]; exact hg.2.2.2.2.2.1.2.1
  have hq : q < 4294967296 := by have := hg.2.2.2.2.2.2.2.1; omega
  obtain ⟨p1, p2, p3, p4, p5, p6, p8, h1, h2⟩ := in_parts0 (F := F) (T := T) (K := K) (xs := xs) (bs := bs) he hr hq (by omega)
  have hlen := frB_len key F T ep ro xs K q bs
  rw [hn] at hlen
  obtain ⟨t1, t2⟩ := frB_tF (key := key) hg he hr (by omega)
  have := fTake_0 (P := P) (pc := pc) (c := c) (A := some ⟨B, 0, none⟩) hp hp4 hpx hlen hc hcm (by omega) hx (frB_byt hg hb) hK t1 t2
  have e : (frB key F T ep ro xs K q bs).take (60 + n + bs.length - 32) = inB F T ep ro xs K q bs := by rw [← hlen]; exact frB_take
  rw [e] at this
  unfold IsFr at this
  rw [p1, p2, p3, p4, p5, p6, p8, h1, h2, hn] at this
  exact this
end Go.Proofs.YtmkmndgdakpojaaDoor
/- Frames: the chapter's example; what is short enough; a frame that was read. -/
namespace Go.Proofs.YtmkmndgdakpojaaDoor
open Go.RowKit Go.ChangeShapes Go.WideShapes Go.ChangeAt
set_option linter.unusedSimpArgs false
set_option linter.unusedVariables false
set_option maxRecDepth 100000

theorem rdX (W : World) (vs : Array Value) (t : TypeId) (x : Nat × Nat) {b : Nat} (hb : b = W.heap.size) : Rd (W.alloc (.cells vs t x)) (some ⟨b, 0, none⟩) vs.toList :=
  .inr ⟨_, 0, rfl, by rw [World.size_alloc]; omega, fun i v hv => by
    subst hb
    rw [Nat.zero_add, alloc_cell_any]
    simpa using hv⟩
theorem good12 : goodF 1 0 2 3 [1, 2] 0 := by
  refine ⟨by decide, by decide, by decide, by decide, by decide, ⟨by decide, by decide, fun x hx => ?_, by decide⟩, by decide, by decide, .inr ⟨rfl, rfl⟩⟩
  simp at hx
  omega
theorem rfSame_refl (F T ep ro : Int) (A : Option Addr) (n c : Nat) (xs : List Int) (K Q : Int) (D : Option Addr) (l dc : Nat) (bs : List Int) (B : Option Addr) (d : Nat) (E2 : Option Addr) (dc2 : Nat) (w : World) (hn : xs.length = n) (hx : Rd w A (nums .i64 xs)) (hy : Rd w B (nums .i64 xs)) (hn8 : n ≤ maxLen) (hl : bs.length = l) (hb : Rd w D (nums .u8 bs)) (hbb : Byt bs) (hb2 : Rd w E2 (nums .u8 bs)) :
    Calls Tryd.prog 13 #[.agg #[.int .i64 F, .int .i64 T, .int .u64 ep, .int .u64 ro, .slice A n c, .int .i64 K, .int .i64 Q, .slice D l dc], .agg #[.int .i64 F, .int .i64 T, .int .u64 ep, .int .u64 ro, .slice B n d, .int .i64 K, .int .i64 Q, .slice E2 l dc2]] w fun e w' => e = .returned (.bool true) ∧ Below w.heap.size w w' :=
  (rfSame_any F T ep ro A n c xs K Q D l dc bs F T ep ro B n d xs K Q E2 l dc2 bs w hn hx hn hy hn8 hl hb hbb hl hb2 hbb).mono fun e w' ⟨he, hw⟩ => ⟨by rw [he]; simp, hw⟩
theorem fSame_refl (F T ep ro : Int) (A : Option Addr) (n c : Nat) (xs : List Int) (K Q : Int) (D : Option Addr) (l dc : Nat) (bs : List Int) (B : Option Addr) (d : Nat) (E2 : Option Addr) (dc2 : Nat) (w : World) (hn : xs.length = n) (hx : Rd w A (nums .i64 xs)) (hy : Rd w B (nums .i64 xs)) (hn8 : n ≤ maxLen) (hl : bs.length = l) (hb : Rd w D (nums .u8 bs)) (hbb : Byt bs) (hb2 : Rd w E2 (nums .u8 bs)) :
    Calls Tryd.prog 20 #[.agg #[.int .i64 F, .int .i64 T, .int .u64 ep, .int .u64 ro, .slice A n c, .int .i64 K, .int .i64 Q, .slice D l dc], .agg #[.int .i64 F, .int .i64 T, .int .u64 ep, .int .u64 ro, .slice B n d, .int .i64 K, .int .i64 Q, .slice E2 l dc2]] w fun e w' => e = .returned (.bool true) ∧ Below w.heap.size w w' :=
  (fSame_any F T ep ro A n c xs K Q D l dc bs F T ep ro B n d xs K Q E2 l dc2 bs w hn hx hn hy hn8 hl hb hbb hl hb2 hbb).mono fun e w' ⟨he, hw⟩ => ⟨by rw [he]; simp, hw⟩

set_option maxHeartbeats 2000000 in
theorem live5_any (w : World) (hK : Konst w) : Calls Tryd.prog 9 #[] w (Yes w) := by
  have CP := fun (P A : Option Addr) (W : World) (h0 : Rd W P (nums .u8 [107, 101, 121])) (h1 : Rd W A (nums .i64 [1, 2])) (h2 : Konst W) => fPut_any P 3 3 [107, 101, 121] 1 0 1 1 A 2 2 [1, 2] 2 3 none 0 0 [] W rfl (by omega) h0 rfl (Nat.le_refl _) h1 rfl (by omega) (.inl rfl) (by omega) (by omega) h2 good12
  have hl : (frB [107, 101, 121] 1 0 1 1 [1, 2] 2 3 []).length = 62 := frB_len _ _ _ _ _ _ _ _ _
  have CT : ∀ (P : Option Addr) (B c : Nat) (W : World), Rd W P (nums .u8 [107, 101, 121]) → 62 ≤ c → c ≤ maxLen → Rd W (some ⟨B, 0, none⟩) (nums .u8 (frB [107, 101, 121] 1 0 1 1 [1, 2] 2 3 [])) → Konst W → Calls Tryd.prog 11 #[.slice P 3 3, .slice (some ⟨B, 0, none⟩) 62 c] W fun e w' => ∃ A c D d, e = .returned (.tuple #[.agg #[.int .i64 1, .int .i64 0, .int .u64 1, .int .u64 1, .slice A 2 c, .int .i64 2, .int .i64 3, .slice D 0 d], .int .i64 0]) ∧ Rd w' A (nums .i64 [1, 2]) ∧ Below W.heap.size W w' :=
    fun P B c W h0 h1 h2 h3 h4 => (fTake_put P 3 3 [107, 101, 121] 1 0 1 1 [1, 2] 2 3 [] B 2 c 0 W rfl (by omega) h0 rfl rfl (by omega) good12 (by omega) (by omega) (fun x hx => by cases hx) h1 h2 h3 h4).mono fun e w' ⟨A, c, D, d, he, _, hr, _, hb⟩ => ⟨A, c, D, d, he, hr, hb⟩
  have CS := fun (A B D : Option Addr) (c d dc : Nat) (W : World) h0 h1 => rfSame_refl 1 0 1 1 A 2 c [1, 2] 2 3 none 0 0 [] B d D dc W rfl h0 h1 (by unfold maxLen; omega) rfl (.inl rfl) (fun x hx => by cases hx) (.inl rfl)
  obtain ⟨fr, hfr⟩ : ∃ fr, fr = frB [107, 101, 121] 1 0 1 1 [1, 2] 2 3 [] := ⟨_, rfl⟩
  have CP : ∀ (P A : Option Addr) (W : World), Rd W P (nums .u8 [107, 101, 121]) → Rd W A (nums .i64 [1, 2]) → Konst W → Calls Tryd.prog 15 #[.slice P 3 3, .agg #[.int .i64 1, .int .i64 0, .int .u64 1, .int .u64 1, .slice A 2 2, .int .i64 2, .int .i64 3, .slice none 0 0]] W (IsNum W fr) := by rw [hfr]; exact CP
  rw [← hfr] at CT hl
  have HL := Lib.hid hl
  have HB0 := Lib.hid (bal (brf (w := w)) (.cells #[.int .i64 1, .int .i64 2] 3))
  have HC := Lib.hid (rd_newS w #[.int .i64 1, .int .i64 2] 3)
  have HK := Lib.hid hK
  have hbx := frBox_new (w.alloc (.cells #[.int .i64 1, .int .i64 2] 3)) 1 0 1 1 (.slice (some ⟨w.heap.size, 0, none⟩) 2 2) 2 3 (.slice none 0 0) 30
  rw [World.size_alloc] at hbx
  have HBOX := Lib.hid hbx
  clear hl hfr hbx hK
  have kc := fun (w : World) (C : Array Value) (n c : Nat) => Lib.run_convert_bytes_const (P := Tryd.prog) w 22 5 C n c Tryd.underlying22 Tryd.underlying5
  have kc2 := fun (w : World) (o o' : Obj) (C : Array Value) (n c : Nat) => Lib.run_convert_bytes_const (P := Tryd.prog) ((w.alloc o).alloc o') 22 5 C n c Tryd.underlying22 Tryd.underlying5
  simp only [World.size_alloc] at kc2
  go_enter Tryd.func9, Tryd.ntmps9
  go_wp2_with (first
    | (go_at_call 15; go_must (refine (CP _ _ _ (rdX _ _ _ _ (by simp)) (HC.out.below (bal (bal brf _) _)) (HK.out.go (bal (bal (bal brf _) _) _))).mono ?_; rintro e w1 ⟨B1, c1, he, hc1, ho1, hb1⟩; rw [HL.out] at he hc1 ho1; subst he; have HBX := Lib.hid (bgo (bal (bal (bal (brf (w := w)) _) _) _) hb1); have HC := Lib.hid ((HC.out.below (bal (bal brf _) _)).below hb1); have HBOX := Lib.hid ((HBOX.out.below (bal brf _)).below hb1); obtain ⟨s_, b0, b1, b2, b3, b4, b5, b6, b7⟩ := HBOX.out; have HM := Lib.hid (own_max ho1); have HR1 := Lib.hid (Rd.of_own ho1); clear ho1))
    | (go_at_call 11; go_must (refine (CT _ _ _ _ (rdX _ _ _ _ (by simp)) hc1 HM.out (HR1.out.below (bal brf _)) (HK.out.go (bal HBX.out _))).mono ?_; rintro e w2 ⟨A2, c2, D2, d2, rfl, hr2, hb2⟩; have hb2 := bgo (bal (brf (w := w1)) _) hb2; have HBX := Lib.hid (bgo HBX.out hb2); have HC := Lib.hid (HC.out.below hb2); have HBOX := Lib.hid (HBOX.out.below hb2); obtain ⟨s_, b0, b1, b2, b3, b4, b5, b6, b7⟩ := HBOX.out; have HR2 := Lib.hid hr2; clear hr2))
    | (go_at_call 13; go_must (refine (CS _ _ _ _ _ _ _ (HC.out.below (bal brf _)) (HR2.out.below (bal brf _))).mono ?_; rintro e w3 ⟨rfl, hb3⟩; have HBX := Lib.hid (bgo (bal HBX.out _) hb3))))
  go_ret
  exact ⟨by simp, HBX.out⟩

set_option maxHeartbeats 1000000 in
theorem few_yes (P : Option Addr) (pn pc : Nat) (F T ep ro : Int) (A : Option Addr) (n c : Nat) (K Q : Int) (D : Option Addr) (l dc : Nat) (B : Option Addr) (m d : Nat) (w : World) (h1 : pn ≤ 200) (h2 : l ≤ 600) (h3 : n ≤ 60) (h4 : m ≤ 800) :
    Calls Tryd.prog 10 #[.slice P pn pc, .agg #[.int .i64 F, .int .i64 T, .int .u64 ep, .int .u64 ro, .slice A n c, .int .i64 K, .int .i64 Q, .slice D l dc], .slice B m d] w fun e w' => e = .returned (.bool true) ∧ Below w.heap.size w w' := by
  go_enter Tryd.func10, Tryd.ntmps10
  go_wp2_with fail
  go_ret
  exact ⟨by simp; omega, bal brf _⟩
set_option maxHeartbeats 1000000 in
theorem few_no (P : Option Addr) (pn pc : Nat) (F T ep ro : Int) (A : Option Addr) (n c : Nat) (K Q : Int) (D : Option Addr) (l dc : Nat) (B : Option Addr) (m d : Nat) (w : World) (h : ¬ (pn ≤ 200 ∧ l ≤ 600 ∧ n ≤ 60 ∧ m ≤ 800)) :
    Calls Tryd.prog 10 #[.slice P pn pc, .agg #[.int .i64 F, .int .i64 T, .int .u64 ep, .int .u64 ro, .slice A n c, .int .i64 K, .int .i64 Q, .slice D l dc], .slice B m d] w fun e w' => e = .returned (.bool false) ∧ Below w.heap.size w w' := by
  by_cases h1 : pn ≤ 200
  by_cases h2 : l ≤ 600
  by_cases h3 : n ≤ 60
  have h4 : ¬ m ≤ 800 := fun h4 => h ⟨h1, h2, h3, h4⟩
  all_goals
    clear h
    go_enter Tryd.func10, Tryd.ntmps10
    go_wp2_with fail
    go_ret
    exact ⟨by simp <;> omega, bal brf _⟩

open Go.Joins Go.Deep in
/-- A frame that was read: its form. -/
theorem open_frame {H : Type} {enc : TypeId × Value → H} {W : World} {base b : Nat} {r : Reach} {v : Value} {d : DataW H} {p : List MemPlace} {spare : Nat → Bool} {held : Bool}
    (hv : Value.okWide Tryd.prog W r base 30 v) (h : DataW.Trod enc Tryd.prog W b spare held 30 v d p) :
    ∃ (F T : Int) (ep ro : Nat) (A : Option Addr) (n c : Nat) (xs : List Int) (K Q : Int) (D : Option Addr) (l dc : Nat) (bs : List Int), v = .agg #[.int .i64 F, .int .i64 T, .int .u64 (ep : Nat), .int .u64 (ro : Nat), .slice A n c, .int .i64 K, .int .i64 Q, .slice D l dc] ∧ n ≤ c ∧ xs.length = n ∧ Rd W A (nums .i64 xs) ∧ ep < 18446744073709551616 ∧ ro < 18446744073709551616 ∧ bs.length = l ∧ l ≤ dc ∧ Rd W D (nums .u8 bs) ∧ Byt bs := by
  have hs := Tryd.underlying30
  have hst := Tryd.underlying28
  obtain ⟨cs, rfl, hsz⟩ := okWide_struct hs hv
  obtain ⟨l⟩ := cs
  have hC : Tryd.prog.cellsOf 30 = 8 := by kernel_rfl
  have k3 : Tryd.prog.cellsOf 3 = 1 := by kernel_rfl
  have k5 : Tryd.prog.cellsOf 25 = 1 := by kernel_rfl
  have k22 : Tryd.prog.cellsOf 22 = 1 := by kernel_rfl
  have k26 : Tryd.prog.cellsOf 26 = 1 := by kernel_rfl
  have k28 : Tryd.prog.cellsOf 28 = 3 := by kernel_rfl
  match l, hsz.trans hC with
  | [c0, c1, c2, c3, c4, c5, c6, c7], _ =>
    obtain ⟨fuel, hf⟩ := h
    obtain ⟨xs, n, _, hx, _, hlen, hg⟩ := DataW.trod_struct hs hf
    match xs, hlen with
    | [y0, y1, y2, y3, y4, y5], _ =>
      have g0 := hg 0 _ rfl
      have g1 := hg 1 _ rfl
      have g2 := hg 2 _ rfl
      have g3 := hg 3 _ rfl
      have g4 := hg 4 _ rfl
      have g5 := hg 5 _ rfl
      simp [Value.cells, k3] at g0 g1 g3 g4
      simp [Value.cells, k22] at g5
      simp [Value.cells, k28] at g2
      obtain ⟨F, rfl, _⟩ := int_of_trod Tryd.underlying3 g0
      obtain ⟨T, rfl, _⟩ := int_of_trod Tryd.underlying3 g1
      obtain ⟨K, rfl, _⟩ := int_of_trod Tryd.underlying3 g3
      obtain ⟨Q, rfl, _⟩ := int_of_trod Tryd.underlying3 g4
      obtain ⟨D, dl, dc, bs, rfl, hd1, _, hdl, hdr, hdw, _⟩ := open_row Tryd.underlying22 Tryd.underlying5 (by kernel_rfl) g5
      obtain ⟨zs, n2, _, hz, _, hlen2, hq⟩ := DataW.trod_struct hst g2
      match zs, hlen2 with
      | [z0, z1, z2], _ =>
        have q0 := hq 0 _ rfl
        have q1 := hq 1 _ rfl
        have q2 := hq 2 _ rfl
        simp [Value.cells, k5] at q0 q1
        simp [Value.cells, k26] at q2
        obtain ⟨e, rfl, we⟩ := int_of_trod Tryd.underlying25 q0
        obtain ⟨o, rfl, wo⟩ := int_of_trod Tryd.underlying25 q1
        obtain ⟨A, m, c, ls, rfl, hc1, hc2, hl, hr, hw, _⟩ := open_row Tryd.underlying26 Tryd.underlying3 (by kernel_rfl) q2
        have b1 : (decide ((0 : Int) ≤ e) && decide (e ≤ (18446744073709551615 : Int))) = true := we
        have b2 : (decide ((0 : Int) ≤ o) && decide (o ≤ (18446744073709551615 : Int))) = true := wo
        simp only [Bool.and_eq_true, decide_eq_true_eq] at b1 b2
        obtain ⟨E, rfl⟩ := Int.eq_ofNat_of_zero_le b1.1
        obtain ⟨R, rfl⟩ := Int.eq_ofNat_of_zero_le b2.1
        refine ⟨F, T, E, R, A, m, c, ls, K, Q, D, dl, dc, bs, rfl, hc1, hl, hr, by omega, by omega, hdl, hd1, hdr, fun x hx => ?_⟩
        have : (decide ((0 : Int) ≤ x) && decide (x ≤ (255 : Int))) = true := hdw x hx
        simpa using this
end Go.Proofs.YtmkmndgdakpojaaDoor
