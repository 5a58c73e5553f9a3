/- Frames' bytes: the plain laws. -/
import Derived.Test.YtmkmndgdakpojaaDoorTg
import Derived.Test.YtmkmndgdakpojaaDoorTb0
namespace Go.Proofs.YtmkmndgdakpojaaDoor
set_option linter.unusedVariables false
set_option linter.unusedSimpArgs false

/-- A frame's bytes without its tag. -/
def inB (F T : Int) (ep ro : Nat) (xs : List Int) (K : Int) (Q : Nat) (bs : List Int) : List Int := [F, T] ++ stB ep ro xs ++ [K] ++ lowB Q 4 ++ lowB bs.length 4 ++ bs
theorem inB_len (F T : Int) (ep ro : Nat) (xs : List Int) (K : Int) (Q : Nat) (bs : List Int) : (inB F T ep ro xs K Q bs).length = 28 + xs.length + bs.length := by
  simp [inB, stB_len, lowB_len]; omega
/-- Whether a frame may be (its body not too long). -/
def goodF (F T K Q : Int) (xs : List Int) (bl : Nat) : Prop :=
  0 ≤ F ∧ F ≤ 24 ∧ 0 ≤ T ∧ T ≤ 24 ∧ F ≠ T ∧ goodSt xs ∧ 0 ≤ Q ∧ Q ≤ 2147483647 ∧ (K = 1 ∨ (K = 2 ∧ bl = 0))
theorem inB_byt {F T K Q : Int} {ep ro : Nat} {xs bs : List Int} (h : goodF F T K Q xs bs.length) (hb : Byt bs) (q : Nat) : Byt (inB F T ep ro xs K q bs) := fun x hx => by
  obtain ⟨f1, f2, t1, t2, _, hg, _, _, hk⟩ := h
  simp only [inB, List.mem_append, List.mem_cons, List.not_mem_nil, or_false] at hx
  rcases hx with ((((hx | hx) | hx) | hx) | hx) | hx
  · rcases hx with rfl | rfl <;> omega
  · exact stB_byt hg x hx
  · rcases hk with hk | hk <;> omega
  · exact lowB_byt _ _ x hx
  · exact lowB_byt _ _ x hx
  · exact hb x hx

def paM (c : List Int) : Nat := tkM (c.drop 2)
def paR (c : List Int) : List Int := c.drop (19 + paM c)
def paK (c : List Int) : Int := (paR c).getD 0 0
def paQ (c : List Int) : Nat := valB (((paR c).drop 1).take 4)
def paS (c : List Int) : Nat := valB (((paR c).drop 5).take 4)
def paB (c : List Int) : List Int := (paR c).drop 9
def paE (c : List Int) : Nat := tkE (c.drop 2)
def paO (c : List Int) : Nat := tkR (c.drop 2)
def paX (c : List Int) : List Int := tkX (c.drop 2)
/-- Whether bytes are a frame's, without the tag, as to their form. -/
def paOk (c : List Int) : Prop := 2 ≤ c.length ∧ stOk (c.drop 2) ∧ 28 + paM c ≤ c.length ∧ paS c = c.length - (28 + paM c)

theorem lowB4_val {k : Nat} (h : k < 4294967296) : valB (lowB k 4) = k := by
  have hp : (2 : Nat) ^ (8 * 4) = 4294967296 := by decide
  rw [valB_low, hp, Nat.mod_eq_of_lt h]

section
variable {F T K : Int} {ep ro Q : Nat} {xs bs more : List Int}
theorem in_drop2 : (inB F T ep ro xs K Q bs ++ more).drop 2 = stB ep ro xs ++ ([K] ++ lowB Q 4 ++ lowB bs.length 4 ++ bs ++ more) := by
  have e : inB F T ep ro xs K Q bs ++ more = [F, T] ++ (stB ep ro xs ++ ([K] ++ lowB Q 4 ++ lowB bs.length 4 ++ bs ++ more)) := by simp [inB]
  rw [e]; exact List.drop_left' rfl
theorem in_drop : (inB F T ep ro xs K Q bs ++ more).drop (19 + xs.length) = [K] ++ lowB Q 4 ++ lowB bs.length 4 ++ bs ++ more := by
  have e : inB F T ep ro xs K Q bs ++ more = ([F, T] ++ stB ep ro xs) ++ ([K] ++ lowB Q 4 ++ lowB bs.length 4 ++ bs ++ more) := by simp [inB]
  rw [e]; exact List.drop_left' (by simp [stB_len]; omega)
/-- What bytes say that begin with a frame's. -/
theorem in_parts (he : ep < 18446744073709551616) (hr : ro < 18446744073709551616) (hq : Q < 4294967296) (hb : bs.length < 4294967296) :
    paM (inB F T ep ro xs K Q bs ++ more) = xs.length ∧ paE (inB F T ep ro xs K Q bs ++ more) = ep ∧ paO (inB F T ep ro xs K Q bs ++ more) = ro ∧ paX (inB F T ep ro xs K Q bs ++ more) = xs ∧
    paK (inB F T ep ro xs K Q bs ++ more) = K ∧ paQ (inB F T ep ro xs K Q bs ++ more) = Q ∧ paS (inB F T ep ro xs K Q bs ++ more) = bs.length ∧ paB (inB F T ep ro xs K Q bs ++ more) = bs ++ more := by
  obtain ⟨p1, p2, p3, p4⟩ := stB_parts (xs := xs) (more := [K] ++ lowB Q 4 ++ lowB bs.length 4 ++ bs ++ more) he hr
  have hM : paM (inB F T ep ro xs K Q bs ++ more) = xs.length := by rw [paM, in_drop2, p1]
  have hR : paR (inB F T ep ro xs K Q bs ++ more) = [K] ++ lowB Q 4 ++ lowB bs.length 4 ++ bs ++ more := by rw [paR, hM, in_drop]
  refine ⟨hM, by rw [paE, in_drop2, p2], by rw [paO, in_drop2, p3], by rw [paX, in_drop2, p4], ?_, ?_, ?_, ?_⟩
  · rw [paK, hR]; rfl
  · have e : ([K] ++ lowB Q 4 ++ lowB bs.length 4 ++ bs ++ more).drop 1 = lowB Q 4 ++ (lowB bs.length 4 ++ bs ++ more) := by simp
    rw [paQ, hR, e, List.take_left' (lowB_len _ _), lowB4_val hq]
  · have e : ([K] ++ lowB Q 4 ++ lowB bs.length 4 ++ bs ++ more).drop 5 = lowB bs.length 4 ++ (bs ++ more) := by
      have e2 : [K] ++ lowB Q 4 ++ lowB bs.length 4 ++ bs ++ more = ([K] ++ lowB Q 4) ++ (lowB bs.length 4 ++ (bs ++ more)) := by simp
      rw [e2]; exact List.drop_left' (by simp [lowB_len])
    rw [paS, hR, e, List.take_left' (lowB_len _ _), lowB4_val hb]
  · have e2 : [K] ++ lowB Q 4 ++ lowB bs.length 4 ++ bs ++ more = ([K] ++ lowB Q 4 ++ lowB bs.length 4) ++ (bs ++ more) := by simp
    rw [paB, hR, e2]; exact List.drop_left' (by simp [lowB_len])
theorem in_heads : (inB F T ep ro xs K Q bs ++ more).getD 0 0 = F ∧ (inB F T ep ro xs K Q bs ++ more).getD 1 0 = T := by
  have e : inB F T ep ro xs K Q bs ++ more = F :: T :: (stB ep ro xs ++ ([K] ++ lowB Q 4 ++ lowB bs.length 4 ++ bs ++ more)) := by simp [inB]
  rw [e]; exact ⟨rfl, rfl⟩
/-- What was put is taken. -/
theorem in_ok (hg : goodSt xs) (he : ep < 18446744073709551616) (hr : ro < 18446744073709551616) (hq : Q < 4294967296) (hb : bs.length < 4294967296) : paOk (inB F T ep ro xs K Q bs) := by
  obtain ⟨p1, _, _, _, _, _, p7, _⟩ := in_parts (F := F) (T := T) (K := K) (xs := xs) (more := []) he hr hq hb
  have hs := stB_ok (more := [K] ++ lowB Q 4 ++ lowB bs.length 4 ++ bs ++ []) hg he hr
  rw [← in_drop2 (F := F) (T := T)] at hs
  rw [List.append_nil] at p1 p7 hs
  refine ⟨by rw [inB_len]; omega, hs, by rw [p1, inB_len]; omega, by rw [p1, p7, inB_len]; omega⟩
/-- With some more behind they are none. -/
theorem in_long (he : ep < 18446744073709551616) (hr : ro < 18446744073709551616) (hq : Q < 4294967296) (hb : bs.length < 4294967296) (hm : more ≠ []) : ¬ paOk (inB F T ep ro xs K Q bs ++ more) := fun h => by
  obtain ⟨p1, _, _, _, _, _, p7, _⟩ := in_parts (F := F) (T := T) (K := K) (xs := xs) (more := more) he hr hq hb
  obtain ⟨_, _, _, h4⟩ := h
  rw [p1, p7, List.length_append, inB_len] at h4
  have : 0 < more.length := List.length_pos_iff.2 hm
  omega
/-- Cut short they are none. -/
theorem in_cut (he : ep < 18446744073709551616) (hr : ro < 18446744073709551616) (hq : Q < 4294967296) (hb : bs.length < 4294967296) {k : Nat} (hk : k < (inB F T ep ro xs K Q bs).length) : ¬ paOk ((inB F T ep ro xs K Q bs).take k) := fun h => by
  obtain ⟨p1, _, _, _, _, _, p7, _⟩ := in_parts (F := F) (T := T) (K := K) (xs := xs) (more := []) he hr hq hb
  rw [List.append_nil] at p1 p7
  obtain ⟨h1, h2, h3, h4⟩ := h
  obtain ⟨c, hc⟩ : ∃ c, c = inB F T ep ro xs K Q bs := ⟨_, rfl⟩
  have hl := inB_len F T ep ro xs K Q bs
  rw [← hc] at p1 p7 h1 h2 h3 h4 hk hl
  have hM : paM (c.take k) = paM c := by
    obtain ⟨a1, _⟩ := h2
    rw [List.length_drop, List.length_take] at a1
    have : ((c.take k).drop 2).getD 16 0 = (c.drop 2).getD 16 0 := by simp [List.getD, List.getElem?_drop, List.getElem?_take, show 2 + 16 < k by omega]
    rw [paM, paM, tkM, tkM, this]
  rw [List.length_take, hM, p1] at h3 h4
  have hS : paS (c.take k) = paS c := by
    have : ((paR (c.take k)).drop 5).take 4 = ((paR c).drop 5).take 4 := by
      rw [paR, paR, hM, p1, List.drop_drop, List.drop_drop]
      apply List.ext_getElem?
      intro i
      simp only [List.getElem?_take, List.getElem?_drop]
      by_cases hi : i < 4
      · simp [hi, show 19 + xs.length + 5 + i < k by omega]
      · simp [hi]
    rw [paS, paS, this]
  rw [hS, p7] at h4
  omega
end

theorem tkX_len2 {c : List Int} (h : paOk c) : (paX c).length = paM c := tkX_len h.2.1
/-- What was taken is put as these bytes. -/
theorem in_back {c : List Int} (h : paOk c) (hb : Byt c) : inB (c.getD 0 0) (c.getD 1 0) (paE c) (paO c) (paX c) (paK c) (paQ c) (paB c) = c := by
  obtain ⟨h1, h2, h3, h4⟩ := h
  have hd : Byt (c.drop 2) := fun x hx => hb x (List.mem_of_mem_drop hx)
  have e1 := stB_take_back h2 hd
  have hrl : (paR c).length = c.length - (19 + paM c) := by rw [paR, List.length_drop]
  have hrb : Byt (paR c) := fun x hx => hb x (List.mem_of_mem_drop hx)
  have l4 : (((paR c).drop 1).take 4).length = 4 := by rw [List.length_take, List.length_drop]; omega
  have l5 : (((paR c).drop 5).take 4).length = 4 := by rw [List.length_take, List.length_drop]; omega
  have e2 : lowB (paQ c) 4 = ((paR c).drop 1).take 4 := by
    have := low_valB (l := ((paR c).drop 1).take 4) (fun x hx => hrb x (List.mem_of_mem_drop (List.mem_of_mem_take hx)))
    rwa [l4] at this
  have hbl : (paB c).length = paS c := by rw [h4, paB, List.length_drop]; omega
  have e3 : lowB (paB c).length 4 = ((paR c).drop 5).take 4 := by
    rw [hbl]
    have := low_valB (l := ((paR c).drop 5).take 4) (fun x hx => hrb x (List.mem_of_mem_drop (List.mem_of_mem_take hx)))
    rwa [l5] at this
  rw [inB, e2, e3]
  have e4 : stB (paE c) (paO c) (paX c) = (c.drop 2).take (17 + paM c) := e1
  rw [e4]
  have q1 : c.take 1 = [c.getD 0 0] := by rw [take_snoc (xs := c) (k := 0) (by omega)]; rfl
  have q2 : c.take 2 = [c.getD 0 0, c.getD 1 0] := by rw [take_snoc (xs := c) (k := 1) (by omega), q1]; rfl
  have q3 : [paK c] = (paR c).take 1 := by rw [take_snoc (xs := paR c) (k := 0) (by omega)]; rfl
  rw [← q2, q3]
  have r1 : (paR c).take 1 ++ ((paR c).drop 1).take 4 = (paR c).take 5 := by rw [show (5 : Nat) = 1 + 4 from rfl, List.take_add]
  have r2 : (paR c).take 5 ++ ((paR c).drop 5).take 4 = (paR c).take 9 := by rw [show (9 : Nat) = 5 + 4 from rfl, List.take_add]
  have r3 : (paR c).take 9 ++ paB c = paR c := List.take_append_drop 9 (paR c)
  have r4 : c.take 2 ++ (c.drop 2).take (17 + paM c) = c.take (19 + paM c) := by rw [show 19 + paM c = 2 + (17 + paM c) by omega]; exact (List.take_add).symm
  have r5 : c.take (19 + paM c) ++ paR c = c := List.take_append_drop _ c
  rw [r4]
  have : c.take (19 + paM c) ++ (paR c).take 1 ++ ((paR c).drop 1).take 4 ++ ((paR c).drop 5).take 4 ++ paB c = c.take (19 + paM c) ++ ((((paR c).take 1 ++ ((paR c).drop 1).take 4) ++ ((paR c).drop 5).take 4) ++ paB c) := by simp only [List.append_assoc]
  rw [this, r1, r2, r3, r5]
theorem paB_len {c : List Int} (h : paOk c) : (paB c).length = c.length - (28 + paM c) := by
  rw [paB, paR, List.length_drop, List.length_drop]; omega
theorem paQ_lt {c : List Int} (hb : Byt c) : paQ c < 4294967296 := by
  have h := valB_lt (l := ((paR c).drop 1).take 4) (fun x hx => hb x (List.mem_of_mem_drop (List.mem_of_mem_drop (List.mem_of_mem_take hx))))
  have h2 : (((paR c).drop 1).take 4).length ≤ 4 := List.length_take_le _ _
  have h3 : 2 ^ (8 * (((paR c).drop 1).take 4).length) ≤ 2 ^ 32 := Nat.pow_le_pow_right (by omega) (by omega)
  have h4 : (2 : Nat) ^ 32 = 4294967296 := by decide
  unfold paQ
  omega
end Go.Proofs.YtmkmndgdakpojaaDoor
/- Numbers in four bytes: both answers' contracts. -/
namespace Go.Proofs.YtmkmndgdakpojaaDoor
open Go.RowKit
set_option linter.unusedSimpArgs false
set_option linter.unusedVariables false
set_option maxRecDepth 100000

set_option maxHeartbeats 1000000 in
theorem wput4_any (v : Nat) (w : World) (hv : v < 4294967296) :
    Calls Tryd.prog 29 #[.int .u64 v, .int .i64 4] w (IsNum w (lowB v 4)) := by
  obtain ⟨i0, hi, hz0, hz1, hz2⟩ := info_parts infoByteT
  go_enter Tryd.func29, Tryd.ntmps29
  go_wp2_with (at_make; refine wpList_make_full _ rfl _ _ 22 rfl w.heap.size 5 i0 (.int .u8 0) 1 Tryd.underlying22 hi hz0 hz1 .i64 .i64 _ _ 4 rfl rfl rfl rfl (by rw [hz2]; omega) (by unfold maxLen; omega) (Nat.le_refl _) ?_; intro w1 hown1 hgrow1)
  obtain ⟨hrow1, hb1, hl1⟩ := vrow_make rfl hown1 hgrow1
  have HO := Lib.hid (own_make hown1)
  clear hown1 hgrow1 hrow1 hi hz0 hz1 hz2
  go_loopw [27] (fun i wr => ∃ k : Nat, k ≤ 4 ∧ i = .int .i64 k ∧ wr.ownsRow w.heap.size 5 1 (.slice (some ⟨w.heap.size, 0, none⟩) 4 4) 4 (nums .u8 (List.replicate (4 - k) 0 ++ lowB v k)) ∧ Below w.heap.size w wr) (fun i _ => 4 - (intOf i).toNat)
  case atStart => exact ⟨0, Nat.zero_le _, rfl, by simpa [lowB] using HO.out, hb1⟩
  case round =>
    obtain ⟨k, hk, rfl, hown, hb⟩ := hrel
    have r0 : (0 : Int) ≤ k := by omega
    by_cases hlt : k < 4
    · have r1 : (k : Int) < 8 := by omega
      obtain ⟨g, cc, he, hcc, hrow, hgb, hgl, hl⟩ := vrow_of_own hown (by omega)
      simp only [Value.slice.injEq, Option.some.injEq, Addr.mk.injEq] at he
      obtain ⟨⟨rfl, _⟩, _, rfl⟩ := he
      have hlen : (List.replicate (4 - k) (0 : Int) ++ lowB v k).length = 4 := by simp [lowB_len]; omega
      obtain ⟨ck, fk⟩ := hrow (4 - 1 - k) _ (nums_at (by rw [hlen]; omega))
      have hst := own_store (k := 4 - 1 - k) hown (.int .u8 (((v / 2 ^ (8 * k)) % 256 : Nat) : Int)) (by omega)
      rw [show (nums .u8 (List.replicate (4 - k) (0 : Int) ++ lowB v k)).set (4 - 1 - k) (.int .u8 (((v / 2 ^ (8 * k)) % 256 : Nat) : Int)) = nums .u8 ((List.replicate (4 - k) (0 : Int) ++ lowB v k).set (4 - 1 - k) (((v / 2 ^ (8 * k)) % 256 : Nat) : Int)) by simp [nums, List.map_set], low_set v 4 k hlt] at hst
      have HST := Lib.hid hst
      have he : ((v : Int) / 2 ^ (8 * k) % 256) = ((v / 2 ^ (8 * k) % 256 : Nat) : Int) := by rw [Int.natCast_emod, Int.natCast_ediv, Int.natCast_pow]; rfl
      have HE := Lib.hid he
      clear hst hlen hrow he hown hl
      go_wp2_with fail
      rw [HE.out]
      exact ⟨⟨k + 1, by omega, by congr 1, HST.out, hb.setCell (p := ⟨w.heap.size, 4 - 1 - k, none⟩) (Nat.le_refl _) _⟩, by show 4 - ((k : Int) + 1).toNat < 4 - (k : Int).toNat; omega⟩
    · have hk4 : k = 4 := by omega
      subst hk4
      have HR := Lib.hid hown
      clear hown
      go_wp2_with fail
      go_ret2
      exact ⟨w.heap.size, 4, rfl, Nat.le_refl _, HR.out, hb⟩

set_option maxRecDepth 100000 in
set_option maxHeartbeats 1000000 in
theorem rput4_any (v : Nat) (w : World) (hv : v < 4294967296) :
    Calls Tryd.prog 45 #[.int .u64 v, .int .i64 4] w (IsNum w (lowB v 4)) := by
  obtain ⟨i0, hi, hz0, hz1, hz2⟩ := info_parts infoByteT
  have h64 : v / 2 ^ (8 * 4) = 0 := Nat.div_eq_of_lt hv
  have H64 := Lib.hid h64
  have hrun : v / 2 ^ (8 * 0) = v := by simp
  have HR0 := Lib.hid hrun
  clear h64 hrun
  go_enter Tryd.func45, Tryd.ntmps45
  go_wp2_with fail
  go_loopw [0, 6, 14] (fun n s i wr => ∃ (k : Nat) (A : Option Addr) (c : Nat), k ≤ 4 ∧ i = .int .i64 k ∧ n = .int .u64 ((v / 2 ^ (8 * k) : Nat) : Int) ∧ s = .slice A k c ∧ wr.ownsRow w.heap.size 5 1 (.slice A k c) k (nums .u8 (lowB v k)) ∧ Below w.heap.size w wr) (fun _ _ i _ => 4 - (intOf i).toNat)
  case atStart => exact ⟨0, none, 0, Nat.zero_le _, rfl, by rw [HR0.out], rfl, ⟨rfl, .inl ⟨rfl, rfl⟩⟩, brf⟩
  case round =>
    obtain ⟨k, A, c, hk, rfl, rfl, rfl, hown, hb⟩ := hrel
    have r0 : (0 : Int) ≤ k := by omega
    by_cases hlt : k < 4
    · have r1 : (k : Int) < 8 := by omega
      have HQ := Lib.hid (wdiv v k)
      obtain ⟨q, hq⟩ : ∃ q, q = v / 2 ^ (8 * k) := ⟨_, rfl⟩
      have hql : q < 4294967296 := by rw [hq]; exact Nat.lt_of_le_of_lt (Nat.div_le_self _ _) hv
      have HL : Hid (lowB v (k + 1) = ((q % 256 : Nat) : Int) :: lowB v k) := Lib.hid (by rw [lowB, hq])
      rw [← hq] at HQ ⊢
      clear hq
      have HRD := Lib.hid (Rd.of_own hown)
      have HZ := Lib.hid hb.size
      clear hown
      go_wp2_with (at_builtin; refine append_vs rfl _ _ 22 rfl wr.heap.size 5 i0 (.int .u8 0) 1 Tryd.underlying22 hi hz0 hz1 hz2 rfl (.slice (some ⟨wr.heap.size, 0, none⟩) 1 1) 1 [.int .u8 ((q : Int) % 256)] rfl ?c2 A k c (nums .u8 (lowB v k)) rfl (by simp [lowB_len]) (HRD.out.below (bal brf _)) (fun u hu => by obtain ⟨x, _, rfl⟩ := List.mem_map.1 hu; rfl) (by unfold maxLen; omega) (by omega) (by simp) ?_; rotate_left; intro v6 w6 hown6 hgrow6; obtain ⟨A6, c6, rfl⟩ := own_slice hown6)
      case c2 => exact own_new _ _
      have hb6 : Below wr.heap.size wr w6 := (bal brf _).grown hgrow6 (by simp) (fun g hg => by simp [Value.ownBlock] at hg; omega)
      have hown7 : w6.ownsRow w.heap.size 5 1 (.slice A6 (k + 1) c6) (k + 1) (nums .u8 (lowB v (k + 1))) := by
        rw [HL.out, Nat.add_comm k 1]
        exact own_baseT hown6 HZ.out
      refine ⟨⟨k + 1, A6, c6, by omega, by congr 1, ?_, ?_, hown7, bgo hb hb6⟩, by show 4 - ((k : Int) + 1).toNat < 4 - (k : Int).toNat; omega⟩
      · rw [← HQ.out]
      · rw [Nat.add_comm]
    · have hk4 : k = 4 := by omega
      subst hk4
      rw [H64.out]
      have HR := Lib.hid hown
      clear hown
      go_wp2_with fail
      go_ret2
      obtain ⟨g, cc, he, hcc, hrow, hgb, hgl, hl⟩ := vrow_of_own HR.out (by omega)
      cases he
      exact ⟨g, _, rfl, hcc, HR.out, hb⟩

theorem rmust4_any (v : Nat) (w : World) (hv : v < 4294967296) :
    Calls Tryd.prog 34 #[.int .i64 v, .int .i64 4] w fun e w' => ∃ B c, e = .returned (.slice (some ⟨B, 0, none⟩) 4 c) ∧ 4 ≤ c ∧ w'.ownsRow w.heap.size 5 1 (.slice (some ⟨B, 0, none⟩) 4 c) 4 (nums .u8 (lowB v 4)) ∧ Below w.heap.size w w' := by
  have CP := fun (W : World) => rput4_any v W hv
  have hl := lowB_len v 4
  obtain ⟨l, hll⟩ : ∃ l, l = lowB v 4 := ⟨_, rfl⟩
  rw [← hll] at CP hl ⊢
  have HL := Lib.hid hl
  clear hl hll
  have r0 : (0 : Int) ≤ v := by omega
  have r1 : (v : Int) ≤ 4294967295 := by omega
  go_enter Tryd.func34, Tryd.ntmps34
  go_wp2_with (go_at_call 45; refine (CP _).mono ?_; rintro e w1 ⟨B, c, he, hc, hown, hb⟩; rw [HL.out] at he hc hown; subst he; have HO := Lib.hid hown; clear hown)
  go_ret
  exact ⟨B, c, rfl, hc, HO.out, hb⟩
end Go.Proofs.YtmkmndgdakpojaaDoor
