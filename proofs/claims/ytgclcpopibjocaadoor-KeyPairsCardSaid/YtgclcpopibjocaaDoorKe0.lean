/- The walks of KeyNodes and KeyBack: each returns true, and turns nothing that was there. -/
import Derived.Test.YtgclcpopibjocaaDoorKd0
import Derived.Deep.RegionHeld3
import Derived.Test.YtgclcpopibjocaaDoorOpen
namespace Go.Proofs.YtgclcpopibjocaaDoor
open Go.RowKit
set_option linter.unusedSimpArgs false
set_option linter.unusedVariables false

open Go.Joins Go.ChangeShapes Go.WideShapes Go.ChangeAt Go.Deep

/-- A configuration that was read: its form. -/
theorem open_cfg {H : Type} {enc : TypeId × Value → H} {W : World} {base b : Nat} {r : Reach} {v : Value} {d : DataW H} {p : List MemPlace} {spare : Nat → Bool} {held : Bool}
    (hv : Value.okWide Tryd.prog W r base 25 v) (h : DataW.Trod enc Tryd.prog W b spare held 25 v d p) :
    ∃ (a : Option Addr) (m c : Nat) (ch st cl qu clo lo ag wi ro se : Int), v = cfgV (.slice a m c) ch st cl qu clo lo ag wi ro se := by
  obtain ⟨v0, v1, v2, v3, v4, v5, v6, v7, v8, v9, v10, y0, y1, y2, y3, y4, y5, y6, y7, y8, y9, y10, n, rfl, rfl, rfl, h0, h1, h2, h3, h4, h5, h6, h7, h8, h9, h10⟩ :=
    open_aggN11 Tryd.underlying25 (by kernel_rfl) (by kernel_rfl) hv h
  obtain ⟨a, m, c, rfl⟩ := slice_of_trod Tryd.underlying22 h0
  obtain ⟨ch, rfl, _⟩ := int_of_trod Tryd.underlying3 h1
  obtain ⟨st, rfl, _⟩ := int_of_trod Tryd.underlying3 h2
  obtain ⟨cl, rfl, _⟩ := int_of_trod Tryd.underlying3 h3
  obtain ⟨qu, rfl, _⟩ := int_of_trod Tryd.underlying3 h4
  obtain ⟨clo, rfl, _⟩ := int_of_trod Tryd.underlying3 h5
  obtain ⟨lo, rfl, _⟩ := int_of_trod Tryd.underlying3 h6
  obtain ⟨ag, rfl, _⟩ := int_of_trod Tryd.underlying3 h7
  obtain ⟨wi, rfl, _⟩ := int_of_trod Tryd.underlying3 h8
  obtain ⟨ro, rfl, _⟩ := int_of_trod Tryd.underlying23 h9
  obtain ⟨se, rfl, _⟩ := int_of_trod Tryd.underlying23 h10
  exact ⟨a, m, c, ch, st, cl, qu, clo, lo, ag, wi, ro, se, rfl⟩

end Go.Proofs.YtgclcpopibjocaaDoor
