/- sha.Block: its contract. -/
import Derived.Test.YtmkmndgdakpojaaSb
import Derived.BigQuiet
namespace Go.Proofs.Ytmkmndgdakpojaa
open Go.RowKit
set_option linter.unusedSimpArgs false
set_option linter.unusedVariables false

theorem len8 {l : List Int} (h : l.length = 8) : ∃ a b c d e f g i, l = [a, b, c, d, e, f, g, i] := by
  match l, h with
  | [a, b, c, d, e, f, g, i], _ => exact ⟨a, b, c, d, e, f, g, i, rfl⟩

/-- The table's numbers. -/
def kc : List Int := [1116352408, 1899447441, 3049323471, 3921009573, 961987163, 1508970993, 2453635748, 2870763221, 3624381080, 310598401, 607225278, 1426881987, 1925078388, 2162078206, 2614888103, 3248222580, 3835390401, 4022224774, 264347078, 604807628, 770255983, 1249150122, 1555081692, 1996064986, 2554220882, 2821834349, 2952996808, 3210313671, 3336571891, 3584528711, 113926993, 338241895, 666307205, 773529912, 1294757372, 1396182291, 1695183700, 1986661051, 2177026350, 2456956037, 2730485921, 2820302411, 3259730800, 3345764771, 3516065817, 3600352804, 4094571909, 275423344, 430227734, 506948616, 659060556, 883997877, 958139571, 1322822218, 1537002063, 1747873779, 1955562222, 2024104815, 2227730452, 2361852424, 2428436474, 2756734187, 3204031479, 3329325298]
/-- What a word of the round, and the first word, come to. -/
def stepL (l : List Int) (k w : Int) : List Int :=
  match l with
  | [a, b, c, d, e, f, g, h] =>
    let t1 := h + xorU (xorU (rotI e 6) (rotI e 11)) (rotI e 25) + xorU (andU e f) (andU (xorU IntKind.u32.max e) g) + k + w
    let t2 := xorU (xorU (rotI a 2) (rotI a 13)) (rotI a 22) + xorU (xorU (andU a b) (andU a c)) (andU b c)
    [(t1 + t2) % 4294967296, a, b, c, (d + t1) % 4294967296, e, f, g]
  | _ => []


def runN (ws : List Int) (l : List Int) : Nat → List Int
  | 0 => l
  | n + 1 => stepL (runN ws l n) (kc.getD n 0) (ws.getD n 0)
theorem stepL_len {l : List Int} (h : l.length = 8) (k w : Int) : (stepL l k w).length = 8 := by
  obtain ⟨a, b, c, d, e, f, g, i, rfl⟩ := len8 h
  rfl
theorem runN_len (ws l : List Int) (h : l.length = 8) (n : Nat) : (runN ws l n).length = 8 := by
  induction n with
  | zero => exact h
  | succ n ih => exact stepL_len ih _ _

def addN (l v : List Int) : Nat → List Int
  | 0 => l
  | n + 1 => (addN l v n).set n (((addN l v n).getD n 0 + v.getD n 0) % 4294967296)
theorem addN_len (l v : List Int) (n : Nat) : (addN l v n).length = l.length := by
  induction n with
  | zero => rfl
  | succ n ih => simp [addN, ih]
/-- What eight words become by a block. -/
def blk (l bs : List Int) : List Int := addN l (runN (sched bs) l 64) 8
theorem blk_len {l : List Int} (h : l.length = 8) (bs : List Int) : (blk l bs).length = 8 := by rw [blk, addN_len, h]

/-- A store of a whole row, the world behind it under a name. -/
theorem store_named {P : Program} {ops : Array Oper} {rest : List Oper} {op : Oper} {a : Act} {w : World} {Q : Exit → Act → World → Prop} (hgd : op.guard = none) (ty : TypeId) (x y : Operand) (ho : op.op = .store ty x y)
    (b o : Nat) (cells : Array Value) (hx : a.eval x = .pointer (some ⟨b, o, none⟩)) (hy : a.eval y = .agg cells)
    (ht : w.there b o cells.size) (hi : (P.info? ty).map (·.size) = some cells.size) (h1 : cells.all (·.oneCell') = true)
    (h : ∀ w2, w2 = w.setCells b o cells.toList → wpList P ops Q rest (a.put op.dst undef) w2) : wpList P ops Q (op :: rest) a w :=
  wpList_store_mid hgd ty x y ho b o cells hx hy ht hi h1 (h _ rfl)

/-- A copy into cells that are there, the world behind it under a name. -/
theorem copy_named {P : Program} {ops : Array Oper} {rest : List Oper} {op : Oper} {act : Act} {w : World} {Q : Exit → Act → World → Prop} (hgd : op.guard = none) (d s : Operand) (dT sT elem : TypeId)
    (ho : op.op = .call { callee := .builtin .copy, args := #[d, s], argTypes := #[dT, sT] }) (b o dLen dCap : Nat) (a : Addr) (sLen sCap : Nat) (cs : List Value)
    (hd : act.eval d = .slice (some ⟨b, o, none⟩) dLen dCap) (hs : act.eval s = .slice (some a) sLen sCap)
    (hu : P.underlying dT = some (.slice elem)) (hi : (P.info? elem).map (·.size) = some 1) (hn : cs.length = Nat.min sLen dLen)
    (hsrc : ∀ j v, cs[j]? = some v → w.cell? (a.add j) = some v) (hc : ∀ j, j < cs.length → (w.cell? ⟨b, o + j, none⟩).isSome = true) (hf : ∀ j, j < cs.length → w.frozen? ⟨b, o + j, none⟩ = false) (h1 : ∀ v ∈ cs, v.oneCell' = true)
    (h : ∀ w2, w2 = w.setCells b o cs → wpList P ops Q rest (act.put op.dst (goInt cs.length)) w2) : wpList P ops Q (op :: rest) act w :=
  wpList_plain hgd fun K hK => by
    have hr := fun ty => run_copy_cells (P := P) w dT sT ty elem b o dLen dCap a sLen sCap cs hu hi hn hsrc hc hf h1
    unfold Oper.wp execOp
    simp only [ho, resolve, invoke, builtin, Sem.run_bind, Sem.run_pure, Result.andThen_ok, List.map_toArray, List.map_cons, List.map_nil, hd, hs, hr]
    exact hK _ _ (h _ rfl)

/-- A row of eight, its first seven moved on by one. -/
theorem moved {w w2 : World} {B : Nat} {a b c d e f g i : Int} (h : Arr w B [a, b, c, d, e, f, g, i]) (hw : w2 = w.setCells B 1 [.int .u32 a, .int .u32 b, .int .u32 c, .int .u32 d, .int .u32 e, .int .u32 f, .int .u32 g]) :
    Arr w2 B [a, a, b, c, d, e, f, g] ∧ Below B w w2 ∧ w2.heap.size = w.heap.size := by
  subst hw
  refine ⟨⟨fun j hj => ?_, fun j => by rw [World.frozen?_setCells]; exact h.2 j⟩, below_cells (Nat.le_refl _) _ _ (Below.refl _ _), by rw [size_cells]⟩
  have hin := World.cell?_setCells_in B [Value.int .u32 a, .int .u32 b, .int .u32 c, .int .u32 d, .int .u32 e, .int .u32 f, .int .u32 g] 1 w (fun j hj => by
    rw [Nat.add_comm, h.1 (j + 1) (by simp at hj ⊢; omega)]; rfl)
  match j, hj with
  | 0, _ =>
    rw [World.cell?_setCells_out _ _ _ _ _ (fun _ _ => .inl (by simp))]
    exact h.1 0 (by simp)
  | 1, _ => exact hin 0 (by simp)
  | 2, _ => exact hin 1 (by simp)
  | 3, _ => exact hin 2 (by simp)
  | 4, _ => exact hin 3 (by simp)
  | 5, _ => exact hin 4 (by simp)
  | 6, _ => exact hin 5 (by simp)
  | 7, _ => exact hin 6 (by simp)

/-- A new row of so many cells. -/
theorem new_there (w : World) (z : Array Value) (t : TypeId) (n : Nat) (hz : z.size = n) : (w.alloc (.cells z t)).there w.heap.size 0 n := fun j hj => by
  rw [Nat.zero_add, World.cell?_alloc_at _ _ _ _ rfl]
  exact ⟨by rw [Array.getElem?_eq_getElem (by omega)]; rfl, by simp [go_sem]⟩

/-- What was stored over a new row. -/
theorem new_words (w w2 : World) (z : Array Value) (t : TypeId) (ws : List Int) (hz : z.size = ws.length) (hw : w2 = (w.alloc (.cells z t)).setCells w.heap.size 0 (ws.map (Value.int .u32)).toArray.toList) :
    Arr w2 w.heap.size ws ∧ Below w.heap.size w w2 ∧ w2.heap.size = w.heap.size + 1 := by
  subst hw
  refine ⟨⟨fun j hj => ?_, fun j => by rw [World.frozen?_setCells]; simp [go_sem]⟩, below_cells (Nat.le_refl _) _ _ (bal brf _), by rw [size_cells]; simp⟩
  have := World.rangeAt_setCells_same (w.alloc (.cells z t)) w.heap.size 0 (ws.map (Value.int .u32)) (by simpa using new_there w z t ws.length hz) j (.int .u32 (ws.getD j 0)) (by simp [List.getD, List.getElem?_eq_getElem hj])
  rwa [Nat.zero_add] at this

def IsBlk (w : World) (l : List Int) (e : Ending) (w' : World) : Prop := e = .returned (.tuple #[.agg (l.map (Value.int .u32)).toArray, .int .i64 0]) ∧ Below w.heap.size w w'

end Go.Proofs.Ytmkmndgdakpojaa
