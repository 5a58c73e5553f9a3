/- Onions: how long they are; a layer peeled off, by both answers. -/
import Derived.Test.YtgclcpopibjocaaDoorLd
import Derived.Test.YtgclcpopibjocaaDoorTb0
import Derived.Deep.RegionWith
import Derived.Deep.DeepMust
namespace Go.Proofs.YtgclcpopibjocaaDoor
open Go.RowKit Go.ChangeShapes Go.WideShapes Go.ChangeAt
set_option linter.unusedSimpArgs false
set_option linter.unusedVariables false
set_option maxRecDepth 100000

/-- How long an onion is for so many hops. -/
def lenO (h : Int) : Int := if 1 ≤ h ∧ h ≤ 8 then 78 + 48 * h else 0
theorem olen_any (h : Int) (w : World) : Calls Tryd.prog 39 #[.int .i64 h] w fun e w' => e = .returned (.int .i64 (lenO h)) ∧ w = w' := by
  by_cases h1 : 1 ≤ h
  · by_cases h2 : h ≤ 8
    · have e : lenO h = 78 + 48 * h := if_pos ⟨h1, h2⟩
      have E := Lib.hid e
      clear e
      go_enter Tryd.func39, Tryd.ntmps39
      go_wp2
      go_ret
      rw [E.out]
      exact ⟨by simp; omega, rfl⟩
    · have e : lenO h = 0 := if_neg (fun x => h2 x.2)
      have E := Lib.hid e
      clear e
      go_enter Tryd.func39, Tryd.ntmps39
      go_wp2
      go_ret
      rw [E.out]
      exact ⟨rfl, rfl⟩
  · have e : lenO h = 0 := if_neg (fun x => h1 x.1)
    have E := Lib.hid e
    clear e
    go_enter Tryd.func39, Tryd.ntmps39
    go_wp2
    go_ret
    rw [E.out]
    exact ⟨rfl, rfl⟩
theorem rolen_any (h : Int) (w : World) : Calls Tryd.prog 43 #[.int .i64 h] w fun e w' => e = .returned (.int .i64 (lenO h)) ∧ w = w' := by
  by_cases h1 : 1 ≤ h
  · by_cases h2 : h ≤ 8
    · have e : lenO h = 78 + 48 * h := if_pos ⟨h1, h2⟩
      have E := Lib.hid e
      clear e
      go_enter Tryd.func43, Tryd.ntmps43
      go_wp2
      go_ret
      rw [E.out]
      exact ⟨by simp, rfl⟩
    · have e : lenO h = 0 := if_neg (fun x => h2 x.2)
      have E := Lib.hid e
      clear e
      go_enter Tryd.func43, Tryd.ntmps43
      go_wp2
      go_ret
      rw [E.out]
      exact ⟨rfl, rfl⟩
  · have e : lenO h = 0 := if_neg (fun x => h1 x.1)
    have E := Lib.hid e
    clear e
    go_enter Tryd.func43, Tryd.ntmps43
    go_wp2
    go_ret
    rw [E.out]
    exact ⟨rfl, rfl⟩
theorem lenO_nat {H : Nat} (h1 : 1 ≤ H) (h8 : H ≤ 8) : lenO H = ((78 + 48 * H : Nat) : Int) := by
  rw [lenO, if_pos (by omega)]; omega

theorem live9_any (w : World) : Calls Tryd.prog 31 #[] w fun e w' => e = .returned (.bool true) ∧ w = w' := by
  have e : lenO 3 = 222 := rfl
  have E := Lib.hid e
  clear e
  go_enter Tryd.func31, Tryd.ntmps31
  go_wp2_with (go_at_call 39; refine (olen_any _ _).mono ?_; rintro e w1 ⟨he, rfl⟩; rw [E.out] at he; subst he)
  go_ret
  exact ⟨rfl, rfl⟩

/-- The part of an onion that is peeled at a hop; its key; what comes of it. -/
def partO (hop : Nat) (b : List Int) : List Int := b.take (b.length - 48 * hop)
def peelK (server : List Int) (hop : Nat) (b : List Int) : List Int := tagL server (nonL (partO hop b))
def padO (hop hops : Nat) (k : List Int) : List Int := if hop + 1 = hops then [] else streamL (tagL k [2]) (48 * (hop + 1))
def peelO (server : List Int) (hop hops : Nat) (b : List Int) : List Int := inL server (partO hop b) ++ padO hop hops (peelK server hop b)
/-- Whether an onion of so many bytes may be peeled there. -/
def mayPeel (hop hops : Int) (n : Nat) : Prop := 1 ≤ hops ∧ hops ≤ 8 ∧ 0 ≤ hop ∧ hop < hops ∧ (n : Int) = 78 + 48 * hops
theorem partO_len {hop hops : Nat} {b : List Int} (hb : b.length = 78 + 48 * hops) (h : hop < hops) : (partO hop b).length = 78 + 48 * (hops - hop) := by
  rw [partO, List.length_take]; omega
theorem partO_byt {hop : Nat} {b : List Int} (h : Byt b) : Byt (partO hop b) := fun x hx => h x (List.mem_of_mem_take hx)

def IsPeelBad (z : Int) (w : World) (e : Ending) (w' : World) : Prop := e = .returned (.tuple #[.slice none 0 0, .slice none 0 0, .int .i64 z]) ∧ Below w.heap.size w w'
theorem peel_bad (A B : Option Addr) (n c m d : Nat) (hop hops : Int) (w : World) (h : ¬ mayPeel hop hops m) :
    Calls Tryd.prog 35 #[.slice A n c, .int .i64 hop, .int .i64 hops, .slice B m d] w (IsPeelBad 1 w) := by
  unfold mayPeel at h
  by_cases h1 : hops < 1
  · clear h
    go_enter Tryd.func35, Tryd.ntmps35
    go_wp2
    go_ret3
    exact ⟨rfl, brf⟩
  by_cases h2 : 8 < hops
  · clear h
    go_enter Tryd.func35, Tryd.ntmps35
    go_wp2
    go_ret3
    exact ⟨rfl, brf⟩
  by_cases h3 : hop < 0
  · clear h
    go_enter Tryd.func35, Tryd.ntmps35
    go_wp2
    go_ret3
    exact ⟨rfl, brf⟩
  by_cases h4 : hops ≤ hop
  · clear h
    go_enter Tryd.func35, Tryd.ntmps35
    go_wp2
    go_ret3
    exact ⟨rfl, brf⟩
  have e : lenO hops = 78 + 48 * hops := if_pos ⟨by omega, by omega⟩
  have h5 : ¬ ((m : Int) = 78 + 48 * hops) := by omega
  have h6 : ((m : Int) != 78 + 48 * hops) = true := by simpa using h5
  have E := Lib.hid e
  clear e h
  go_enter Tryd.func35, Tryd.ntmps35
  go_wp2_with (go_at_call 39; refine (olen_any _ _).mono ?_; rintro e w1 ⟨he, rfl⟩; rw [E.out] at he; subst he)
  go_ret3
  exact ⟨rfl, brf⟩
theorem rpeel_bad (A B : Option Addr) (n c m d : Nat) (hop hops : Int) (w : World) (h : ¬ mayPeel hop hops m) :
    Calls Tryd.prog 36 #[.slice A n c, .int .i64 hop, .int .i64 hops, .slice B m d] w (IsPeelBad 1 w) := by
  unfold mayPeel at h
  by_cases h1 : hops < 1
  · clear h
    go_enter Tryd.func36, Tryd.ntmps36
    go_wp2
    go_ret3
    exact ⟨rfl, brf⟩
  by_cases h2 : 8 < hops
  · clear h
    go_enter Tryd.func36, Tryd.ntmps36
    go_wp2
    go_ret3
    exact ⟨rfl, brf⟩
  by_cases h3 : hop < 0
  · clear h
    go_enter Tryd.func36, Tryd.ntmps36
    go_wp2
    go_ret3
    exact ⟨rfl, brf⟩
  by_cases h4 : hops ≤ hop
  · clear h
    go_enter Tryd.func36, Tryd.ntmps36
    go_wp2
    go_ret3
    exact ⟨rfl, brf⟩
  have e : lenO hops = 78 + 48 * hops := if_pos ⟨by omega, by omega⟩
  have h5 : ¬ ((m : Int) = 78 + 48 * hops) := by omega
  have h6 : ((m : Int) != 78 + 48 * hops) = true := by simpa using h5
  have E := Lib.hid e
  clear e h
  go_enter Tryd.func36, Tryd.ntmps36
  go_wp2_with (go_at_call 43; refine (rolen_any _ _).mono ?_; rintro e w1 ⟨he, rfl⟩; rw [E.out] at he; subst he)
  go_ret3
  exact ⟨rfl, brf⟩
end Go.Proofs.YtgclcpopibjocaaDoor
