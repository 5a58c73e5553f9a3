/- The reference's hash. -/
import Derived.Test.YtmkmndgdakpojaaSj
import Derived.Deep.RegionWith
namespace Go.Proofs.Ytmkmndgdakpojaa
open Go.RowKit
set_option linter.unusedSimpArgs false
set_option linter.unusedVariables false
set_option maxRecDepth 100000

theorem Rd.chunk {w : World} {B k : Nat} {l : List Int} (h : Rd w (some ⟨B, 0, none⟩) (nums .u8 l)) (hk : 64 * k + 64 ≤ l.length) : Rd w (some ⟨B, 64 * k, none⟩) (nums .u8 (chunk l k)) := by
  obtain ⟨b, off, he, hlt, hc⟩ := h.at_ (by simp; omega)
  cases he
  refine .inr ⟨B, 64 * k, rfl, hlt, fun i v hv => ?_⟩
  have hi : i < 64 := by
    have := (List.getElem?_eq_some_iff.1 hv).1
    simp [Go.Proofs.Ytmkmndgdakpojaa.chunk] at this
    omega
  have := hc (64 * k + i) v (by
    rw [← hv]
    simp [nums, Go.Proofs.Ytmkmndgdakpojaa.chunk, List.getElem?_take, hi, List.getElem?_drop])
  rwa [Nat.zero_add] at this

end Go.Proofs.Ytmkmndgdakpojaa
