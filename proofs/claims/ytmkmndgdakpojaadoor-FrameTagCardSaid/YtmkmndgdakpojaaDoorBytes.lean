/- The references' comparison of bytes. -/
import Derived.Test.YtmkmndgdakpojaaDoorOwn
namespace Go.Proofs.YtmkmndgdakpojaaDoor
open Go.RowKit
set_option linter.unusedSimpArgs false
set_option linter.unusedVariables false

/-- Each is a byte. -/
def Byt (xs : List Int) : Prop := ∀ x ∈ xs, 0 ≤ x ∧ x ≤ 255

theorem str_inj {xs ys : List Int} (hx : Byt xs) (hy : Byt ys) (h : strOfNums xs = strOfNums ys) : xs = ys := by
  have h1 : xs.map (fun n => UInt8.ofNat n.toNat) = ys.map (fun n => UInt8.ofNat n.toNat) := by
    have := congrArg (fun b : ByteArray => b.data.toList) h
    simpa [strOfNums] using this
  have hl : xs.length = ys.length := by simpa using congrArg List.length h1
  apply List.ext_getElem hl
  intro i hi1 hi2
  have h2 := congrArg (fun l => l[i]?) h1
  simp [hi1, hi2] at h2
  have a := hx _ (List.getElem_mem hi1)
  have b := hy _ (List.getElem_mem hi2)
  have h3 := congrArg UInt8.toNat h2
  simp at h3
  omega

theorem bytes_inj {s t : ByteArray} (h : s.toList = t.toList) : s = t := by
  have h2 : s.data.toList = t.data.toList := by
    simpa [ByteArray.toList_eq] using h
  have := Array.ext' h2
  cases s; cases t; simp_all

theorem conv_bytes {A : Option Addr} {c : Nat} {xs : List Int} {w : World} (hx : Rd w A (nums .u8 xs)) :
    ∃ s, s = strOfNums xs ∧ (convert 22 9 (.slice A xs.length c)).run Tryd.prog w = .ok (.string s) w := by
  refine ⟨_, rfl, ?_⟩
  rcases Nat.eq_zero_or_pos xs.length with h0 | h0
  · have : xs = [] := List.eq_nil_of_length_eq_zero h0
    subst this
    cases A with
    | none => exact run_convert_bytes_nil w 22 5 Tryd.underlying22 Tryd.underlying5 0 c 9 Tryd.underlying9
    | some a =>
      show (convert 22 9 (.slice (some a) 0 c)).run Tryd.prog w = _
      rw [run_convert_bytes_string w 22 9 5 (some a) 0 c Tryd.underlying22 Tryd.underlying5 Tryd.underlying9]
      rfl
  · obtain ⟨b, off, rfl, _, hc⟩ := hx.at_ (by simpa using h0)
    exact run_convert_bytes_arg w 22 5 Tryd.underlying22 Tryd.underlying5 b off xs.length c xs rfl (fun i hi => hc i _ (nums_at hi)) 9 Tryd.underlying9

def IsSameB (w : World) (xs ys : List Int) (e : Ending) (w' : World) : Prop := e = .returned (.bool (decide (xs = ys))) ∧ w = w'

theorem same_any (A B : Option Addr) (n c m d : Nat) (xs ys : List Int) (w : World) (hn : xs.length = n) (hm : ys.length = m) (hx : Rd w A (nums .u8 xs)) (hy : Rd w B (nums .u8 ys)) (bx : Byt xs) (by_ : Byt ys) :
    Calls Tryd.prog 14 #[.slice A n c, .slice B m d] w (IsSameB w xs ys) := by
  obtain ⟨s, hs, h1⟩ := conv_bytes (c := c) hx
  obtain ⟨t, ht, h2⟩ := conv_bytes (c := d) hy
  rw [hn] at h1
  rw [hm] at h2
  have HS := Lib.hid hs
  have HT := Lib.hid ht
  clear hs ht hn hm hx hy
  go_enter Tryd.func14, Tryd.ntmps14
  go_wp2
  go_ret
  have e : (s.toList == t.toList) = decide (xs = ys) := by
    have HS : s = strOfNums xs := HS
    have HT : t = strOfNums ys := HT
    by_cases h : xs = ys
    · subst h
      rw [HS, HT]
      simp
    · have h3 : s.toList ≠ t.toList := by
        intro h4
        apply h
        apply str_inj bx by_
        rw [← HS, ← HT]
        exact bytes_inj h4
      simp [h, h3]
  rw [e]
  exact ⟨rfl, rfl⟩
end Go.Proofs.YtmkmndgdakpojaaDoor
