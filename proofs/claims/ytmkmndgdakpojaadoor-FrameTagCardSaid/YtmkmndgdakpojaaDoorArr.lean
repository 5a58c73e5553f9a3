/- Whole arrays, loaded and stored: what is below, what is handed back. -/
import Derived.Test.YtmkmndgdakpojaaDoorOwn
import Derived.StillTailTactics
import Derived.Deep.MidRow
namespace Go.Proofs.YtmkmndgdakpojaaDoor
open Go.RowKit

theorem below_cells {B b : Nat} {W : World} (hb : B ≤ b) : ∀ (vs : List Value) (o : Nat) {w : World}, Below B W w → Below B W (w.setCells b o vs)
  | [], _, _, h => h
  | v :: r, o, _, h => below_cells hb r (o + 1) (h.setCell (p := ⟨b, o, none⟩) hb v)
theorem size_cells (b : Nat) : ∀ (vs : List Value) (o : Nat) (w : World), (w.setCells b o vs).heap.size = w.heap.size
  | [], _, _ => rfl
  | v :: r, o, w => by rw [World.setCells, size_cells b r (o + 1), size_setCell]

theorem results_cell_mid {P : Program} {fn : Func} {p : Tmp} {ty : TypeId} (h : fn.results = #[.cell p ty]) (tmps : Array Value) (w : World) (b o : Nat) (cs : List Value) (d : TypeDesc)
    (hp : tmps.getD p undef = .pointer (some ⟨b, o, none⟩)) (hc : w.rangeAt b o cs) (hu : P.underlying ty = some d) (hd : d.isRow = true) (hi : (P.info? ty).map (·.size) = some cs.length) :
    (results fn tmps).run P w = .ok (.agg cs.toArray) w := by
  have hp' : tmps[p]?.getD undef = .pointer (some ⟨b, o, none⟩) := by simpa using hp
  simp [results, h, hp', asAddr, run_loadVar_mid w b o ty cs d hc hu hd hi]

theorem words_oneCell (ws : List Int) : ((ws.map (Value.int .u32)).toArray).all (·.oneCell') = true :=
  all_oneCell_toArray fun v hv => by
    obtain ⟨x, _, rfl⟩ := List.mem_map.1 hv
    rfl
end Go.Proofs.YtmkmndgdakpojaaDoor
