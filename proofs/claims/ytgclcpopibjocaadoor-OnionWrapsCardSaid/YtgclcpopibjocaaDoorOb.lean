/- Onions: how long they are; a layer peeled off, by both answers. -/
import Derived.Test.YtgclcpopibjocaaDoorLd
import Derived.Test.YtgclcpopibjocaaDoorTb0
import Derived.Deep.RegionWith
import Derived.Deep.DeepMust
namespace Go.Proofs.YtgclcpopibjocaaDoor
open Go.RowKit Go.ChangeShapes Go.WideShapes Go.ChangeAt
set_option linter.unusedSimpArgs false
set_option linter.unusedVariables false
set_option maxRecDepth 100000

/-- How long an onion is for so many hops. -/
def lenO (h : Int) : Int := if 1 ≤ h ∧ h ≤ 8 then 78 + 48 * h else 0
theorem olen_any (h : Int) (w : World) : Calls Tryd.prog 39 #[.int .i64 h] w fun e w' => e = .returned (.int .i64 (lenO h)) ∧ w = w' := by
  by_cases h1 : 1 ≤ h
  · by_cases h2 : h ≤ 8
    · have e : lenO h = 78 + 48 * h := if_pos ⟨h1, h2⟩
      have E := Lib.hid e
      clear e
      go_enter Tryd.func39, Tryd.ntmps39
      go_wp2
      go_ret
      rw [E.out]
      exact ⟨by simp; omega, rfl⟩
    · have e : lenO h = 0 := if_neg (fun x => h2 x.2)
      have E := Lib.hid e
      clear e
      go_enter Tryd.func39, Tryd.ntmps39
      go_wp2
      go_ret
      rw [E.out]
      exact ⟨rfl, rfl⟩
  · have e : lenO h = 0 := if_neg (fun x => h1 x.1)
    have E := Lib.hid e
    clear e
    go_enter Tryd.func39, Tryd.ntmps39
    go_wp2
    go_ret
    rw [E.out]
    exact ⟨rfl, rfl⟩
theorem rolen_any (h : Int) (w : World) : Calls Tryd.prog 43 #[.int .i64 h] w fun e w' => e = .returned (.int .i64 (lenO h)) ∧ w = w' := by
  by_cases h1 : 1 ≤ h
  · by_cases h2 : h ≤ 8
    · have e : lenO h = 78 + 48 * h := if_pos ⟨h1, h2⟩
      have E := Lib.hid e
      clear e
      go_enter Tryd.func43, Tryd.ntmps43
      go_wp2
      go_ret
      rw [E.out]
      exact ⟨by simp, rfl⟩
    · have e : lenO h = 0 := if_neg (fun x => h2 x.2)
      have E := Lib.hid e
      clear e
      go_enter Tryd.func43, Tryd.ntmps43
      go_wp2
      go_ret
      rw [E.out]
      exact ⟨rfl, rfl⟩
  · have e : lenO h = 0 := if_neg (fun x => h1 x.1)
    have E := Lib.hid e
    clear e
    go_enter Tryd.func43, Tryd.ntmps43
    go_wp2
    go_ret
    rw [E.out]
    exact ⟨rfl, rfl⟩
theorem lenO_nat {H : Nat} (h1 : 1 ≤ H) (h8 : H ≤ 8) : lenO H = ((78 + 48 * H : Nat) : Int) := by
  rw [lenO, if_pos (by omega)]; omega

theorem live9_any (w : World) : Calls Tryd.prog 31 #[] w fun e w' => e = .returned (.bool true) ∧ w = w' := by
  have e : lenO 3 = 222 := rfl
  have E := Lib.hid e
  clear e
  go_enter Tryd.func31, Tryd.ntmps31
  go_wp2_with (go_at_call 39; refine (olen_any _ _).mono ?_; rintro e w1 ⟨he, rfl⟩; rw [E.out] at he; subst he)
  go_ret
  exact ⟨rfl, rfl⟩

/-- The part of an onion that is peeled at a hop; its key; what comes of it. -/
def partO (hop : Nat) (b : List Int) : List Int := b.take (b.length - 48 * hop)
def peelK (server : List Int) (hop : Nat) (b : List Int) : List Int := tagL server (nonL (partO hop b))
def padO (hop hops : Nat) (k : List Int) : List Int := if hop + 1 = hops then [] else streamL (tagL k [2]) (48 * (hop + 1))
def peelO (server : List Int) (hop hops : Nat) (b : List Int) : List Int := inL server (partO hop b) ++ padO hop hops (peelK server hop b)
/-- Whether an onion of so many bytes may be peeled there. -/
def mayPeel (hop hops : Int) (n : Nat) : Prop := 1 ≤ hops ∧ hops ≤ 8 ∧ 0 ≤ hop ∧ hop < hops ∧ (n : Int) = 78 + 48 * hops
theorem partO_len {hop hops : Nat} {b : List Int} (hb : b.length = 78 + 48 * hops) (h : hop < hops) : (partO hop b).length = 78 + 48 * (hops - hop) := by
  rw [partO, List.length_take]; omega
theorem partO_byt {hop : Nat} {b : List Int} (h : Byt b) : Byt (partO hop b) := fun x hx => h x (List.mem_of_mem_take hx)

def IsPeelBad (z : Int) (w : World) (e : Ending) (w' : World) : Prop := e = .returned (.tuple #[.slice none 0 0, .slice none 0 0, .int .i64 z]) ∧ Below w.heap.size w w'
theorem peel_bad (A B : Option Addr) (n c m d : Nat) (hop hops : Int) (w : World) (h : ¬ mayPeel hop hops m) :
    Calls Tryd.prog 35 #[.slice A n c, .int .i64 hop, .int .i64 hops, .slice B m d] w (IsPeelBad 1 w) := by
  unfold mayPeel at h
  by_cases h1 : hops < 1
  · clear h
    go_enter Tryd.func35, Tryd.ntmps35
    go_wp2
    go_ret3
    exact ⟨rfl, brf⟩
  by_cases h2 : 8 < hops
  · clear h
    go_enter Tryd.func35, Tryd.ntmps35
    go_wp2
    go_ret3
    exact ⟨rfl, brf⟩
  by_cases h3 : hop < 0
  · clear h
    go_enter Tryd.func35, Tryd.ntmps35
    go_wp2
    go_ret3
    exact ⟨rfl, brf⟩
  by_cases h4 : hops ≤ hop
  · clear h
    go_enter Tryd.func35, Tryd.ntmps35
    go_wp2
    go_ret3
    exact ⟨rfl, brf⟩
  have e : lenO hops = 78 + 48 * hops := if_pos ⟨by omega, by omega⟩
  have h5 : ¬ ((m : Int) = 78 + 48 * hops) := by omega
  have h6 : ((m : Int) != 78 + 48 * hops) = true := by simpa using h5
  have E := Lib.hid e
  clear e h
  go_enter Tryd.func35, Tryd.ntmps35
  go_wp2_with (go_at_call 39; refine (olen_any _ _).mono ?_; rintro e w1 ⟨he, rfl⟩; rw [E.out] at he; subst he)
  go_ret3
  exact ⟨rfl, brf⟩
theorem rpeel_bad (A B : Option Addr) (n c m d : Nat) (hop hops : Int) (w : World) (h : ¬ mayPeel hop hops m) :
    Calls Tryd.prog 36 #[.slice A n c, .int .i64 hop, .int .i64 hops, .slice B m d] w (IsPeelBad 1 w) := by
  unfold mayPeel at h
  by_cases h1 : hops < 1
  · clear h
    go_enter Tryd.func36, Tryd.ntmps36
    go_wp2
    go_ret3
    exact ⟨rfl, brf⟩
  by_cases h2 : 8 < hops
  · clear h
    go_enter Tryd.func36, Tryd.ntmps36
    go_wp2
    go_ret3
    exact ⟨rfl, brf⟩
  by_cases h3 : hop < 0
  · clear h
    go_enter Tryd.func36, Tryd.ntmps36
    go_wp2
    go_ret3
    exact ⟨rfl, brf⟩
  by_cases h4 : hops ≤ hop
  · clear h
    go_enter Tryd.func36, Tryd.ntmps36
    go_wp2
    go_ret3
    exact ⟨rfl, brf⟩
  have e : lenO hops = 78 + 48 * hops := if_pos ⟨by omega, by omega⟩
  have h5 : ¬ ((m : Int) = 78 + 48 * hops) := by omega
  have h6 : ((m : Int) != 78 + 48 * hops) = true := by simpa using h5
  have E := Lib.hid e
  clear e h
  go_enter Tryd.func36, Tryd.ntmps36
  go_wp2_with (go_at_call 43; refine (rolen_any _ _).mono ?_; rintro e w1 ⟨he, rfl⟩; rw [E.out] at he; subst he)
  go_ret3
  exact ⟨rfl, brf⟩
end Go.Proofs.YtgclcpopibjocaaDoor
/- Onions: a layer peeled off that may be, by both answers. -/
namespace Go.Proofs.YtgclcpopibjocaaDoor
open Go.RowKit Go.ChangeShapes Go.WideShapes Go.ChangeAt
set_option linter.unusedSimpArgs false
set_option linter.unusedVariables false
set_option maxRecDepth 100000

/-- What was peeled, and the layer's key. -/
def IsPeel (w : World) (l k : List Int) (e : Ending) (w' : World) : Prop :=
  ∃ A B c d, e = .returned (.tuple #[.slice A l.length c, .slice B k.length d, .int .i64 0]) ∧ l.length ≤ c ∧ Rd w' A (nums .u8 l) ∧ Rd w' B (nums .u8 k) ∧ Below w.heap.size w w'
theorem isPeel_mk {w w' : World} {l k : List Int} {A B : Option Addr} {c d n m : Nat} (hl : l.length = n) (hk : k.length = m) (hc : n ≤ c) (hr : Rd w' A (nums .u8 l)) (hq : Rd w' B (nums .u8 k)) (hb : Below w.heap.size w w') :
    IsPeel w l k (.returned (.tuple #[.slice A n c, .slice B m d, .int .i64 0])) w' := by
  subst hl hk
  exact ⟨A, B, c, d, rfl, hc, hr, hq, hb⟩

set_option maxHeartbeats 2000000 in
theorem peel_tag (A B : Option Addr) (n c m d : Nat) (hop hops : Nat) (server b : List Int) (w : World) (hn : server.length = n) (hm : b.length = m) (hbn : n ≤ 4000) (h8 : hops ≤ 8) (hlt : hop < hops) (hmm : m = 78 + 48 * hops) (hmd : m ≤ d) (hx : Rd w A (nums .u8 server)) (hy : Rd w B (nums .u8 b)) (hb : Byt b) (hK : Konst w) (hE : openE server (partO hop b) ≠ 0) :
    Calls Tryd.prog 35 #[.slice A n c, .int .i64 hop, .int .i64 hops, .slice B m d] w (IsPeelBad 4 w) := by
  obtain ⟨i0, hi, hz0, hz1, hz2⟩ := info_parts infoByte
  obtain ⟨B, o, rfl, _, _⟩ := hy.at_ (by simp [hm]; omega)
  obtain ⟨L, hL⟩ : ∃ L, L = 78 + 48 * (hops - hop) := ⟨_, rfl⟩
  have hpl : (partO hop b).length = L := by rw [hL]; exact partO_len (by rw [hm, hmm]) hlt
  have hyp : Rd w (some ⟨B, o, none⟩) (nums .u8 (partO hop b)) := hy.take _
  have hpb : Byt (partO hop b) := partO_byt hb
  have e1 : lenO hops = (m : Int) := by rw [lenO_nat (by omega) h8, hmm]
  have e2 : (m : Int) - (hop : Int) * 48 = (L : Int) := by omega
  have e3 : (m : Int) - 48 * (hop : Int) = (L : Int) := by omega
  have r1 : (0 : Int) ≤ L := by omega
  have r9 : (L : Int) ≤ 1000 := by omega
  have r2 : (L : Int) ≤ d := by omega
  have r3 : ¬ (hops : Int) < 1 := by omega
  have r4 : ¬ (8 : Int) < hops := by omega
  have r5 : ¬ (hop : Int) < 0 := by omega
  have r6 : ¬ (hops : Int) ≤ hop := by omega
  have CO := fun W h1 h2 hK => open_tag A B o n c L d server (partO hop b) W hn hpl hbn (by omega) (by omega) (by omega) h1 h2 hpb hK hE
  have E1 := Lib.hid e1
  have HX := Lib.hid hx
  have HYP := Lib.hid hyp
  have HK := Lib.hid hK
  clear e1 hL hpl hyp hpb hx hy hb hn hm hmm hK hE
  go_enter Tryd.func35, Tryd.ntmps35
  go_wp2_with (first
    | (go_at_call 39; refine (olen_any _ _).mono ?_; rintro e w1 ⟨he, rfl⟩; rw [E1.out] at he; subst he)
    | (go_at_call 34; refine (CO _ HX.out HYP.out HK.out).mono ?_; rintro e w2 ⟨rfl, hb2⟩))
  go_ret3
  exact ⟨rfl, hb2⟩

set_option maxHeartbeats 2000000 in
theorem peel_last (A B : Option Addr) (n c m d : Nat) (hop hops : Nat) (server b : List Int) (w : World) (hn : server.length = n) (hm : b.length = m) (hbn : n ≤ 4000) (h8 : hops ≤ 8) (hlt : hop < hops) (hmm : m = 78 + 48 * hops) (hmd : m ≤ d) (hx : Rd w A (nums .u8 server)) (hy : Rd w B (nums .u8 b)) (hb : Byt b) (hK : Konst w) (hE : openE server (partO hop b) = 0) (hh : hop + 1 = hops) :
    Calls Tryd.prog 35 #[.slice A n c, .int .i64 hop, .int .i64 hops, .slice B m d] w (IsPeel w (peelO server hop hops b) (peelK server hop b)) := by
  obtain ⟨i0, hi, hz0, hz1, hz2⟩ := info_parts infoByte
  obtain ⟨B, o, rfl, _, _⟩ := hy.at_ (by simp [hm]; omega)
  obtain ⟨L, hL⟩ : ∃ L, L = 78 + 48 * (hops - hop) := ⟨_, rfl⟩
  have hpl : (partO hop b).length = L := by rw [hL]; exact partO_len (by rw [hm, hmm]) hlt
  have hyp : Rd w (some ⟨B, o, none⟩) (nums .u8 (partO hop b)) := hy.take _
  have hpb : Byt (partO hop b) := partO_byt hb
  have e1 : lenO hops = (m : Int) := by rw [lenO_nat (by omega) h8, hmm]
  have e2 : (m : Int) - (hop : Int) * 48 = (L : Int) := by omega
  have e3 : (m : Int) - 48 * (hop : Int) = (L : Int) := by omega
  have r1 : (0 : Int) ≤ L := by omega
  have r9 : (L : Int) ≤ 1000 := by omega
  have r2 : (L : Int) ≤ d := by omega
  have r3 : ¬ (hops : Int) < 1 := by omega
  have r4 : ¬ (8 : Int) < hops := by omega
  have r5 : ¬ (hop : Int) < 0 := by omega
  have r6 : ¬ (hops : Int) ≤ hop := by omega
  have CO := fun W h1 h2 hK => open_any A B o n c L d server (partO hop b) W hn hpl hbn (by omega) (by omega) (by omega) h1 h2 hpb hK hE
  obtain ⟨P, hP⟩ : ∃ P, P = L - 48 := ⟨_, rfl⟩
  have hil : (inL server (partO hop b)).length = P := by rw [inL_len _ _ (by omega), hpl, hP]
  have hlk : (tagL server (nonL (partO hop b))).length = 32 := tag_len _ _
  have hpo : peelK server hop b = tagL server (nonL (partO hop b)) := rfl
  obtain ⟨k, hk⟩ : ∃ k, k = tagL server (nonL (partO hop b)) := ⟨_, rfl⟩
  obtain ⟨pl, hpp⟩ : ∃ pl, pl = inL server (partO hop b) := ⟨_, rfl⟩
  rw [← hk] at hlk hpo
  rw [← hpp] at hil
  have HIL := Lib.hid hil
  have HLK := Lib.hid hlk
  have hfin : peelO server hop hops b = pl := by rw [peelO, padO, if_pos hh, List.append_nil, ← hpp]
  have r7 : ((hop : Int) == (hops : Int) - 1) = true := by simp; omega
  have r8 : ¬ (hop : Int) < (hops : Int) - 1 := by omega
  rw [← hk, ← hpp] at CO
  have HF := Lib.hid hfin
  have HPO := Lib.hid hpo
  have E1 := Lib.hid e1
  have HX := Lib.hid hx
  have HYP := Lib.hid hyp
  have HK := Lib.hid hK
  clear e1 hL hpl hyp hpb hx hy hb hn hm hmm hK hE hP hil hlk hpo hk hpp hfin hh
  go_enter Tryd.func35, Tryd.ntmps35
  go_wp2_with (first
    | (go_at_call 39; refine (olen_any _ _).mono ?_; rintro e w1 ⟨he, rfl⟩; rw [E1.out] at he; subst he)
    | (go_at_call 34; refine (CO _ HX.out HYP.out HK.out).mono ?_; rintro e w2 ⟨A2, B2, c2, he, hr2, _, hq2, _, hb2⟩; rw [HIL.out, HLK.out] at he; subst he; have HR := Lib.hid hr2; have HQ := Lib.hid hq2; have HBX := hb2; clear hr2 hq2))
  go_ret3
  rw [HF.out, HPO.out]
  exact isPeel_mk HIL.out HLK.out (Nat.le_refl _) HR.out HQ.out HBX

set_option maxHeartbeats 2000000 in
theorem peel_mid (A B : Option Addr) (n c m d : Nat) (hop hops : Nat) (server b : List Int) (w : World) (hn : server.length = n) (hm : b.length = m) (hbn : n ≤ 4000) (h8 : hops ≤ 8) (hlt : hop < hops) (hmm : m = 78 + 48 * hops) (hmd : m ≤ d) (hx : Rd w A (nums .u8 server)) (hy : Rd w B (nums .u8 b)) (hb : Byt b) (hK : Konst w) (hE : openE server (partO hop b) = 0) (hh : hop + 1 < hops) :
    Calls Tryd.prog 35 #[.slice A n c, .int .i64 hop, .int .i64 hops, .slice B m d] w (IsPeel w (peelO server hop hops b) (peelK server hop b)) := by
  obtain ⟨i0, hi, hz0, hz1, hz2⟩ := info_parts infoByte
  obtain ⟨B, o, rfl, _, _⟩ := hy.at_ (by simp [hm]; omega)
  obtain ⟨L, hL⟩ : ∃ L, L = 78 + 48 * (hops - hop) := ⟨_, rfl⟩
  have hpl : (partO hop b).length = L := by rw [hL]; exact partO_len (by rw [hm, hmm]) hlt
  have hyp : Rd w (some ⟨B, o, none⟩) (nums .u8 (partO hop b)) := hy.take _
  have hpb : Byt (partO hop b) := partO_byt hb
  have e1 : lenO hops = (m : Int) := by rw [lenO_nat (by omega) h8, hmm]
  have e2 : (m : Int) - (hop : Int) * 48 = (L : Int) := by omega
  have e3 : (m : Int) - 48 * (hop : Int) = (L : Int) := by omega
  have r1 : (0 : Int) ≤ L := by omega
  have r9 : (L : Int) ≤ 1000 := by omega
  have r2 : (L : Int) ≤ d := by omega
  have r3 : ¬ (hops : Int) < 1 := by omega
  have r4 : ¬ (8 : Int) < hops := by omega
  have r5 : ¬ (hop : Int) < 0 := by omega
  have r6 : ¬ (hops : Int) ≤ hop := by omega
  have CO := fun W h1 h2 hK => open_any A B o n c L d server (partO hop b) W hn hpl hbn (by omega) (by omega) (by omega) h1 h2 hpb hK hE
  obtain ⟨P, hP⟩ : ∃ P, P = L - 48 := ⟨_, rfl⟩
  have hil : (inL server (partO hop b)).length = P := by rw [inL_len _ _ (by omega), hpl, hP]
  have hlk : (tagL server (nonL (partO hop b))).length = 32 := tag_len _ _
  have hpo : peelK server hop b = tagL server (nonL (partO hop b)) := rfl
  obtain ⟨k, hk⟩ : ∃ k, k = tagL server (nonL (partO hop b)) := ⟨_, rfl⟩
  obtain ⟨pl, hpp⟩ : ∃ pl, pl = inL server (partO hop b) := ⟨_, rfl⟩
  rw [← hk] at hlk hpo
  rw [← hpp] at hil
  have HIL := Lib.hid hil
  have HLK := Lib.hid hlk
  obtain ⟨D, hD⟩ : ∃ D, D = 48 * (hop + 1) := ⟨_, rfl⟩
  have e4 : (m : Int) - (P : Int) = (D : Int) := by omega
  have r10 : (D : Int) ≤ 1000 := by omega
  have r11 : (0 : Int) ≤ D := by omega
  have hfin : peelO server hop hops b = pl ++ streamL (tagL k [2]) D := by rw [peelO, hpo, padO, if_neg (by omega), ← hpp, hD]
  have r7 : ((hop : Int) == (hops : Int) - 1) = false := by simp; omega
  have r8 : (hop : Int) < (hops : Int) - 1 := by omega
  have CP := fun B1 c1 W h1 hK => pad8_any B1 32 c1 D k W hlk (by omega) (by omega) h1 hK
  have hsl : (streamL (tagL k [2]) D).length = D := streamL_len _ _
  have htot : (pl ++ streamL (tagL k [2]) D).length = P + D := by rw [List.length_append, hil, hsl]
  have HSL := Lib.hid hsl
  have HTOT := Lib.hid htot
  have CC := fun A3 A4 c4 (W : World) h1 h2 => concat_any W.heap.size A3 A4 P P D c4 pl (streamL (tagL k [2]) D) (W.alloc (.cells #[.slice A3 P P, .slice A4 D c4] 22)) (new_0 _ _ _ _) (new_1 _ _ _ _) hil hsl (Rd.below h1 (bal brf _)) (Rd.below h2 (bal brf _)) (by omega)
  rw [← hk, ← hpp] at CO
  have HF := Lib.hid hfin
  have HPO := Lib.hid hpo
  have E1 := Lib.hid e1
  have HX := Lib.hid hx
  have HYP := Lib.hid hyp
  have HK := Lib.hid hK
  clear e1 hL hpl hyp hpb hx hy hb hn hm hmm hK hE hP hil hlk hpo hk hpp hfin hh hD hsl htot
  go_enter Tryd.func35, Tryd.ntmps35
  go_wp2_with (first
    | (go_at_call 39; refine (olen_any _ _).mono ?_; rintro e w1 ⟨he, rfl⟩; rw [E1.out] at he; subst he)
    | (go_at_call 34; refine (CO _ HX.out HYP.out HK.out).mono ?_; rintro e w2 ⟨A2, B2, c2, he, hr2, _, hq2, _, hb2⟩; rw [HIL.out, HLK.out] at he; subst he; have HR := Lib.hid hr2; have HQ := Lib.hid hq2; have HBX := hb2; clear hr2 hq2)
    | (go_at_call 26; refine (CP _ _ _ HQ.out (HK.out.go HBX)).mono ?_; rintro e w3 ⟨A3, c3, he, hc3, hl3, ho3, hb3⟩; rw [HSL.out] at he ho3; subst he; have HR := Lib.hid (HR.out.below hb3); have HQ := Lib.hid (HQ.out.below hb3); have HBX := bgo HBX hb3; have HR3 := Lib.hid (Rd.of_own ho3); clear ho3)
    | (go_at_call 56; refine (CC _ _ _ _ HR.out HR3.out).mono ?_; rintro e w4 ⟨A4, c4, rfl, hl4, hown4, hb4⟩; have HQ := Lib.hid ((HQ.out.below (bal brf _)).below hb4); have HBX := bgo (bal HBX _) hb4))
  go_ret3
  rw [HF.out, HPO.out]
  exact isPeel_mk HTOT.out HLK.out (own_cap6 hown4).1 (Rd.of_own hown4) HQ.out HBX

set_option maxHeartbeats 2000000 in
theorem rpeel_tag (A B : Option Addr) (n c m d : Nat) (hop hops : Nat) (server b : List Int) (w : World) (hn : server.length = n) (hm : b.length = m) (hbn : n ≤ 4000) (h8 : hops ≤ 8) (hlt : hop < hops) (hmm : m = 78 + 48 * hops) (hmd : m ≤ d) (hx : Rd w A (nums .u8 server)) (hy : Rd w B (nums .u8 b)) (hb : Byt b) (hE : openE server (partO hop b) ≠ 0) :
    Calls Tryd.prog 36 #[.slice A n c, .int .i64 hop, .int .i64 hops, .slice B m d] w (IsPeelBad 4 w) := by
  obtain ⟨i0, hi, hz0, hz1, hz2⟩ := info_parts infoByte
  obtain ⟨B, o, rfl, _, _⟩ := hy.at_ (by simp [hm]; omega)
  obtain ⟨L, hL⟩ : ∃ L, L = 78 + 48 * (hops - hop) := ⟨_, rfl⟩
  have hpl : (partO hop b).length = L := by rw [hL]; exact partO_len (by rw [hm, hmm]) hlt
  have hyp : Rd w (some ⟨B, o, none⟩) (nums .u8 (partO hop b)) := hy.take _
  have hpb : Byt (partO hop b) := partO_byt hb
  have e1 : lenO hops = (m : Int) := by rw [lenO_nat (by omega) h8, hmm]
  have e2 : (m : Int) - (hop : Int) * 48 = (L : Int) := by omega
  have e3 : (m : Int) - 48 * (hop : Int) = (L : Int) := by omega
  have r1 : (0 : Int) ≤ L := by omega
  have r9 : (L : Int) ≤ 1000 := by omega
  have r2 : (L : Int) ≤ d := by omega
  have r3 : ¬ (hops : Int) < 1 := by omega
  have r4 : ¬ (8 : Int) < hops := by omega
  have r5 : ¬ (hop : Int) < 0 := by omega
  have r6 : ¬ (hops : Int) ≤ hop := by omega
  have CO := fun W h1 h2 => ropen_tag A B o n c L d server (partO hop b) W hn hpl hbn (by omega) (by omega) (by omega) h1 h2 hpb hE
  have E1 := Lib.hid e1
  have HX := Lib.hid hx
  have HYP := Lib.hid hyp
  clear e1 hL hpl hyp hpb hx hy hb hn hm hmm hE
  go_enter Tryd.func36, Tryd.ntmps36
  go_wp2_with (first
    | (go_at_call 43; refine (rolen_any _ _).mono ?_; rintro e w1 ⟨he, rfl⟩; rw [E1.out] at he; subst he)
    | (go_at_call 61; refine (CO _ HX.out HYP.out).mono ?_; rintro e w2 ⟨rfl, hb2⟩))
  go_ret3
  exact ⟨rfl, hb2⟩

set_option maxHeartbeats 2000000 in
theorem rpeel_last (A B : Option Addr) (n c m d : Nat) (hop hops : Nat) (server b : List Int) (w : World) (hn : server.length = n) (hm : b.length = m) (hbn : n ≤ 4000) (h8 : hops ≤ 8) (hlt : hop < hops) (hmm : m = 78 + 48 * hops) (hmd : m ≤ d) (hx : Rd w A (nums .u8 server)) (hy : Rd w B (nums .u8 b)) (hb : Byt b) (hE : openE server (partO hop b) = 0) (hh : hop + 1 = hops) :
    Calls Tryd.prog 36 #[.slice A n c, .int .i64 hop, .int .i64 hops, .slice B m d] w (IsPeel w (peelO server hop hops b) (peelK server hop b)) := by
  obtain ⟨i0, hi, hz0, hz1, hz2⟩ := info_parts infoByte
  obtain ⟨B, o, rfl, _, _⟩ := hy.at_ (by simp [hm]; omega)
  obtain ⟨L, hL⟩ : ∃ L, L = 78 + 48 * (hops - hop) := ⟨_, rfl⟩
  have hpl : (partO hop b).length = L := by rw [hL]; exact partO_len (by rw [hm, hmm]) hlt
  have hyp : Rd w (some ⟨B, o, none⟩) (nums .u8 (partO hop b)) := hy.take _
  have hpb : Byt (partO hop b) := partO_byt hb
  have e1 : lenO hops = (m : Int) := by rw [lenO_nat (by omega) h8, hmm]
  have e2 : (m : Int) - (hop : Int) * 48 = (L : Int) := by omega
  have e3 : (m : Int) - 48 * (hop : Int) = (L : Int) := by omega
  have r1 : (0 : Int) ≤ L := by omega
  have r9 : (L : Int) ≤ 1000 := by omega
  have r2 : (L : Int) ≤ d := by omega
  have r3 : ¬ (hops : Int) < 1 := by omega
  have r4 : ¬ (8 : Int) < hops := by omega
  have r5 : ¬ (hop : Int) < 0 := by omega
  have r6 : ¬ (hops : Int) ≤ hop := by omega
  have CO := fun W h1 h2 => ropen_own A B o n c L d server (partO hop b) W hn hpl hbn (by omega) (by omega) (by omega) h1 h2 hpb hE
  obtain ⟨P, hP⟩ : ∃ P, P = L - 48 := ⟨_, rfl⟩
  have hil : (inL server (partO hop b)).length = P := by rw [inL_len _ _ (by omega), hpl, hP]
  have hlk : (tagL server (nonL (partO hop b))).length = 32 := tag_len _ _
  have hpo : peelK server hop b = tagL server (nonL (partO hop b)) := rfl
  obtain ⟨k, hk⟩ : ∃ k, k = tagL server (nonL (partO hop b)) := ⟨_, rfl⟩
  obtain ⟨pl, hpp⟩ : ∃ pl, pl = inL server (partO hop b) := ⟨_, rfl⟩
  rw [← hk] at hlk hpo
  rw [← hpp] at hil
  have HIL := Lib.hid hil
  have HLK := Lib.hid hlk
  have hfin : peelO server hop hops b = pl := by rw [peelO, padO, if_pos hh, List.append_nil, ← hpp]
  have r7 : ((hop : Int) == (hops : Int) - 1) = true := by simp; omega
  have r8 : ¬ (hop : Int) < (hops : Int) - 1 := by omega
  rw [← hk, ← hpp] at CO
  have HF := Lib.hid hfin
  have HPO := Lib.hid hpo
  have E1 := Lib.hid e1
  have HX := Lib.hid hx
  have HYP := Lib.hid hyp
  clear e1 hL hpl hyp hpb hx hy hb hn hm hmm hE hP hil hlk hpo hk hpp hfin hh
  go_enter Tryd.func36, Tryd.ntmps36
  go_wp2_with (first
    | (go_at_call 43; refine (rolen_any _ _).mono ?_; rintro e w1 ⟨he, rfl⟩; rw [E1.out] at he; subst he)
    | (go_at_call 61; refine (CO _ HX.out HYP.out).mono ?_; rintro e w2 ⟨A2, c2, B2, d2, V, he, ho2, hq2, hbv, hb2⟩; rw [HIL.out, HLK.out] at he; rw [HIL.out] at ho2; subst he; have HO := Lib.hid ho2; have HQV := Lib.hid hq2; have HQ := Lib.hid (hq2.below hb2); have HBX := hb2; clear ho2 hq2))
  go_ret3
  rw [HF.out, HPO.out]
  exact isPeel_mk HIL.out HLK.out (own_cap6 HO.out).1 (Rd.of_own HO.out) HQ.out (bgo hbv HBX)

set_option maxHeartbeats 2000000 in
theorem rpeel_mid (A B : Option Addr) (n c m d : Nat) (hop hops : Nat) (server b : List Int) (w : World) (hn : server.length = n) (hm : b.length = m) (hbn : n ≤ 4000) (h8 : hops ≤ 8) (hlt : hop < hops) (hmm : m = 78 + 48 * hops) (hmd : m ≤ d) (hx : Rd w A (nums .u8 server)) (hy : Rd w B (nums .u8 b)) (hb : Byt b) (hE : openE server (partO hop b) = 0) (hh : hop + 1 < hops) :
    Calls Tryd.prog 36 #[.slice A n c, .int .i64 hop, .int .i64 hops, .slice B m d] w (IsPeel w (peelO server hop hops b) (peelK server hop b)) := by
  obtain ⟨i0, hi, hz0, hz1, hz2⟩ := info_parts infoByte
  obtain ⟨B, o, rfl, _, _⟩ := hy.at_ (by simp [hm]; omega)
  obtain ⟨L, hL⟩ : ∃ L, L = 78 + 48 * (hops - hop) := ⟨_, rfl⟩
  have hpl : (partO hop b).length = L := by rw [hL]; exact partO_len (by rw [hm, hmm]) hlt
  have hyp : Rd w (some ⟨B, o, none⟩) (nums .u8 (partO hop b)) := hy.take _
  have hpb : Byt (partO hop b) := partO_byt hb
  have e1 : lenO hops = (m : Int) := by rw [lenO_nat (by omega) h8, hmm]
  have e2 : (m : Int) - (hop : Int) * 48 = (L : Int) := by omega
  have e3 : (m : Int) - 48 * (hop : Int) = (L : Int) := by omega
  have r1 : (0 : Int) ≤ L := by omega
  have r9 : (L : Int) ≤ 1000 := by omega
  have r2 : (L : Int) ≤ d := by omega
  have r3 : ¬ (hops : Int) < 1 := by omega
  have r4 : ¬ (8 : Int) < hops := by omega
  have r5 : ¬ (hop : Int) < 0 := by omega
  have r6 : ¬ (hops : Int) ≤ hop := by omega
  have CO := fun W h1 h2 => ropen_own A B o n c L d server (partO hop b) W hn hpl hbn (by omega) (by omega) (by omega) h1 h2 hpb hE
  obtain ⟨P, hP⟩ : ∃ P, P = L - 48 := ⟨_, rfl⟩
  have hil : (inL server (partO hop b)).length = P := by rw [inL_len _ _ (by omega), hpl, hP]
  have hlk : (tagL server (nonL (partO hop b))).length = 32 := tag_len _ _
  have hpo : peelK server hop b = tagL server (nonL (partO hop b)) := rfl
  obtain ⟨k, hk⟩ : ∃ k, k = tagL server (nonL (partO hop b)) := ⟨_, rfl⟩
  obtain ⟨pl, hpp⟩ : ∃ pl, pl = inL server (partO hop b) := ⟨_, rfl⟩
  rw [← hk] at hlk hpo
  rw [← hpp] at hil
  have HIL := Lib.hid hil
  have HLK := Lib.hid hlk
  obtain ⟨D, hD⟩ : ∃ D, D = 48 * (hop + 1) := ⟨_, rfl⟩
  have e4 : (m : Int) - (P : Int) = (D : Int) := by omega
  have r10 : (D : Int) ≤ 1000 := by omega
  have r11 : (0 : Int) ≤ D := by omega
  have hfin : peelO server hop hops b = pl ++ streamL (tagL k [2]) D := by rw [peelO, hpo, padO, if_neg (by omega), ← hpp, hD]
  have r7 : ((hop : Int) == (hops : Int) - 1) = false := by simp; omega
  have r8 : (hop : Int) < (hops : Int) - 1 := by omega
  have CP := fun B1 c1 W h1 => rpad8_any B1 32 c1 D k W hlk (by omega) (by omega) h1
  have hsl : (streamL (tagL k [2]) D).length = D := streamL_len _ _
  have htot : (pl ++ streamL (tagL k [2]) D).length = P + D := by rw [List.length_append, hil, hsl]
  have HSL := Lib.hid hsl
  have HTOT := Lib.hid htot
  have pb : P + D ≤ 1000 := by omega
  have hnl : (nums .u8 (streamL (tagL k [2]) D)).length = D := by simp [hsl]
  have HNL := Lib.hid hnl
  rw [← hk, ← hpp] at CO
  have HF := Lib.hid hfin
  have HPO := Lib.hid hpo
  have E1 := Lib.hid e1
  have HX := Lib.hid hx
  have HYP := Lib.hid hyp
  clear e1 hL hpl hyp hpb hx hy hb hn hm hmm hE hP hil hlk hpo hk hpp hfin hh hD hsl htot hnl
  go_enter Tryd.func36, Tryd.ntmps36
  go_wp2_with (first
    | (go_at_call 43; refine (rolen_any _ _).mono ?_; rintro e w1 ⟨he, rfl⟩; rw [E1.out] at he; subst he)
    | (go_at_call 61; refine (CO _ HX.out HYP.out).mono ?_; rintro e w2 ⟨A2, c2, B2, d2, V, he, ho2, hq2, hbv, hb2⟩; rw [HIL.out, HLK.out] at he; rw [HIL.out] at ho2; subst he; have HO := Lib.hid ho2; have HQV := Lib.hid hq2; have HQ := Lib.hid (hq2.below hb2); have HBX := hb2; clear ho2 hq2)
    | (go_at_call 62; refine (CP _ _ _ HQ.out).mono ?_; rintro e w3 ⟨A3, c3, he, hc3, hr3, hb3⟩; rw [HSL.out] at he; subst he; have HO := Lib.hid (own_below HO.out hb3); have HQ := Lib.hid (HQ.out.below hb3); have HBX := bgo HBX hb3; have HR3 := Lib.hid hr3; clear hr3)
    | (at_builtin; refine append_vs rfl _ _ 22 rfl V.heap.size 5 i0 (.int .u8 0) 1 Tryd.underlying22 hi hz0 hz1 hz2 rfl _ P _ rfl HO.out _ D _ _ rfl HNL.out HR3.out nums_u8_one (by unfold maxLen; omega) (by omega) HBX.size ?_; intro v4 w4 hown4 hgrow4; have hb4 : Below V.heap.size V w4 := keep_below0 HO.out hgrow4 HBX HBX.size (Nat.le_refl _); obtain ⟨A4, c4, rfl⟩ := own_slice hown4; rw [← List.map_append] at hown4))
  go_ret3
  rw [HF.out, HPO.out]
  exact isPeel_mk HTOT.out HLK.out (own_cap6 hown4).1 (Rd.of_own hown4) (HQV.out.below hb4) (bgo hbv hb4)

end Go.Proofs.YtgclcpopibjocaaDoor
