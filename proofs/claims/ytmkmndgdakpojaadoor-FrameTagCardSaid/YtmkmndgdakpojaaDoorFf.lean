/- frame.read: its contracts. -/
import Derived.Test.YtmkmndgdakpojaaDoorFb
import Derived.Test.YtmkmndgdakpojaaDoorFc
import Derived.Test.YtmkmndgdakpojaaDoorTk
import Derived.Deep.MidRow
import Derived.Deep.RegionHeld3
namespace Go.Proofs.YtmkmndgdakpojaaDoor
open Go.RowKit
set_option linter.unusedSimpArgs false
set_option linter.unusedVariables false
set_option maxRecDepth 100000

theorem rd_dropF {w : World} {b o : Nat} {l : List Int} (h : Rd w (some ⟨b, o, none⟩) (nums .u8 l)) (k : Nat) : Rd w (some ⟨b, o + k, none⟩) (nums .u8 (l.drop k)) := by
  rcases h with h | ⟨b', o', he, hl, hc⟩
  · have : l = [] := by simpa [nums] using h
    subst this
    exact .inl (by simp [nums])
  · cases he
    exact .inr ⟨b, o + k, rfl, hl, fun i v hv => by
      rw [Nat.add_assoc]
      exact hc (k + i) v (by simpa [nums, List.getElem?_map, List.getElem?_drop] using hv)⟩
theorem infoFr8 : (Tryd.prog.info? 30).map (·.size) = some 8 := by kernel_rfl
theorem results_cell_tmp {P : Program} {fn : Func} {p t : Tmp} {ty : TypeId} (h : fn.results = #[.cell p ty, .tmp t]) (tmps : Array Value) (w : World) (b o : Nat) (cs : List Value) (d : TypeDesc)
    (hp : tmps.getD p undef = .pointer (some ⟨b, o, none⟩)) (hc : w.rangeAt b o cs) (hu : P.underlying ty = some d) (hd : d.isRow = true) (hi : (P.info? ty).map (·.size) = some cs.length) :
    (results fn tmps).run P w = .ok (.tuple #[.agg cs.toArray, tmps.getD t undef]) w := by
  have hp' : tmps[p]?.getD undef = .pointer (some ⟨b, o, none⟩) := by simpa using hp
  simp [results, h, hp', asAddr, run_loadVar_mid w b o ty cs d hc hu hd hi]
/-- A frame's box that may be stored to. -/
def FrOut (q : Nat) (x : World) : Prop := q < x.heap.size ∧ x.there q 0 8
theorem FrOut.below {q : Nat} {x y : World} (h : FrOut q x) (hb : Below x.heap.size x y) : FrOut q y :=
  ⟨Nat.lt_of_lt_of_le h.1 hb.size, fun j hj => ⟨by rw [hb.cell (p := ⟨q, 0 + j, none⟩) h.1]; exact (h.2 j hj).1, (hb.frozen (p := ⟨q, 0 + j, none⟩) h.1).trans (h.2 j hj).2⟩⟩
theorem frOut_new (w : World) (t : TypeId) : FrOut w.heap.size (w.alloc (.cells #[.int .i64 0, .int .i64 0, .int .u64 0, .int .u64 0, .slice none 0 0, .int .i64 0, .int .i64 0, .slice none 0 0] t)) :=
  ⟨by simp, fun j hj => ⟨by rw [World.cell?_alloc_at _ _ _ _ rfl]; simp; omega, by simp [go_sem]⟩⟩
theorem blocks_far (q : Nat) : ∀ (vs : List Value) (o : Nat) (w : World) (i : Nat), i ≠ q → (w.setCells q o vs).heap[i]? = w.heap[i]?
  | [], _, _, _, _ => rfl
  | v :: r, o, w, i, h => by rw [World.setCells, blocks_far q r (o + 1) _ i h]; exact heap_setCell_ne w (a := ⟨q, o, none⟩) h
/-- What a store into a box turns. -/
structure Turned (q : Nat) (cs : List Value) (w W5 : World) : Prop where
  row : W5.rangeAt q 0 cs
  blocks : ∀ i, i ≠ q → W5.heap[i]? = w.heap[i]?
  size : W5.heap.size = w.heap.size
  below : ∀ W : World, W.heap.size ≤ q → Below W.heap.size W w → Below W.heap.size W W5
theorem Turned.cell {q : Nat} {cs : List Value} {w W5 : World} (h : Turned q cs w W5) {b i : Nat} {v : Value} (hne : b ≠ q) (hc : w.cell? ⟨b, i, none⟩ = some v) : W5.cell? ⟨b, i, none⟩ = some v :=
  (World.cell?_of_block (a := ⟨b, i, none⟩) (h.blocks b hne)).trans hc
theorem Turned.own {q : Nat} {cs : List Value} {w W5 : World} (h : Turned q cs w W5) {base n : Nat} {e : TypeId} {v : Value} {xs : List Value} (ho : w.ownsRow base e 1 v n xs) (hq : q < base) : W5.ownsRow base e 1 v n xs := by
  refine ⟨ho.1, ?_⟩
  rcases ho.2 with h1 | ⟨g, cap, cur, h1, hbg, hg, hc⟩
  · exact .inl h1
  · exact .inr ⟨g, cap, cur, h1, hbg, (h.blocks g (by omega)).trans hg, hc⟩
theorem Turned.rd {q : Nat} {cs : List Value} {w W5 : World} (h : Turned q cs w W5) {b o : Nat} {vs : List Value} (hne : b ≠ q) (hr : Rd w (some ⟨b, o, none⟩) vs) : Rd W5 (some ⟨b, o, none⟩) vs := by
  rcases hr with h1 | ⟨b', o', he, hl, hc⟩
  · exact .inl h1
  · cases he
    exact .inr ⟨b, o, rfl, by rw [h.size]; exact hl, fun i v hv => h.cell hne (hc i v hv)⟩
/-- A store of a whole frame into its box: the world behind it by what is known of it. -/
theorem store8op {op : Oper} {a : Act} {w : World} {K : Act → World → Prop} {Q : Exit → Act → World → Prop} (x y : Operand) (ho : op.op = .store 30 x y)
    (q : Nat) (cells : Array Value) (hx : a.eval x = .pointer (some ⟨q, 0, none⟩)) (hy : a.eval y = .agg cells) (hO : FrOut q w) (hsz : cells.size = 8) (h1 : cells.all (·.oneCell') = true)
    (h : ∀ W5 : World, Turned q cells.toList w W5 → K (a.put op.dst undef) W5) : op.wp Tryd.prog a w K Q :=
  wp_store_mid 30 x y ho q 0 cells hx hy (by rw [hsz]; exact hO.2) (by rw [hsz]; exact infoFr8) h1
    (h _ ⟨World.rangeAt_setCells_same _ _ _ _ (by rw [Array.length_toList, hsz]; exact hO.2), fun i hi => blocks_far q _ _ _ i hi, size_cells q _ _ _, fun W hq hb => below_cells hq _ _ hb⟩)
theorem store8 {ops : Array Oper} {rest : List Oper} {op : Oper} {a : Act} {w : World} {Q : Exit → Act → World → Prop} (hgd : op.guard = none) (x y : Operand) (ho : op.op = .store 30 x y)
    (q : Nat) (cells : Array Value) (hx : a.eval x = .pointer (some ⟨q, 0, none⟩)) (hy : a.eval y = .agg cells) (hO : FrOut q w) (hsz : cells.size = 8) (h1 : cells.all (·.oneCell') = true)
    (h : ∀ W5 : World, Turned q cells.toList w W5 → wpList Tryd.prog ops Q rest (a.put op.dst undef) W5) : wpList Tryd.prog ops Q (op :: rest) a w :=
  wpList_plain hgd fun _ hK => store8op x y ho q cells hx hy hO hsz h1 fun W5 hT => hK _ _ (h W5 hT)
theorem own_ge {w : World} {base n c : Nat} {e : TypeId} {A : Option Addr} {vs : List Value} (h : w.ownsRow base e 1 (.slice A n c) n vs) : ∀ a, A = some a → base ≤ a.block := fun a ha => by
  rcases h.2 with ⟨h1, h2⟩ | ⟨g, cap, cur, h1, hb, _⟩
  · cases h1; cases ha
  · cases h1; cases ha; exact hb
theorem Turned.rdA {q : Nat} {cs : List Value} {w W5 : World} (h : Turned q cs w W5) {A : Option Addr} {vs : List Value} (hne : ∀ a, A = some a → a.block ≠ q) (hr : Rd w A vs) : Rd W5 A vs := by
  rcases hr with h1 | ⟨b, o, he, hl, hc⟩
  · exact .inl h1
  · exact .inr ⟨b, o, he, by rw [h.size]; exact hl, fun i v hv => h.cell (hne _ he) (hc i v hv)⟩
/-- A row that was there ahead of a box stays, whatever is stored into the box. -/
theorem rd_box {w1 W4 : World} {A : Option Addr} {vs : List Value} (h : Rd w1 A vs) (hb : Below w1.heap.size w1 W4) {q1 i : Nat} (hq : w1.heap.size ≤ q1) (u : Value) : Rd (W4.setCell ⟨q1, i, none⟩ u) A vs := by
  rcases h with h1 | ⟨b, o, he, hl, hc⟩
  · exact .inl h1
  · exact .inr ⟨b, o, he, by rw [size_setCell]; exact Nat.lt_of_lt_of_le hl hb.size, fun j v hv => by
      rw [cell_setCell_far (by omega)]; exact (hb.cell (p := ⟨b, o + j, none⟩) hl).trans (hc j v hv)⟩
/-- No frame. -/
def NoRead (w : World) (e : Ending) (w' : World) : Prop := e = .returned (.tuple #[.agg #[.int .i64 0, .int .i64 0, .int .u64 0, .int .u64 0, .slice none 0 0, .int .i64 0, .int .i64 0, .slice none 0 0], .bool false]) ∧ Below w.heap.size w w'
/-- A frame read: its body is a piece of the bytes. -/
def IsReadL (w : World) (B m r : Nat) (f t : Int) (E O : Nat) (k : Int) (q : Nat) (X body : List Int) (e : Ending) (w' : World) : Prop :=
  ∃ A c Off d, e = .returned (.tuple #[.agg #[.int .i64 f, .int .i64 t, .int .u64 (E : Int), .int .u64 (O : Int), .slice A m c, .int .i64 k, .int .i64 (q : Int), .slice (some ⟨B, Off, none⟩) r d], .bool true]) ∧ m ≤ c ∧ (∀ a, A = some a → w.heap.size ≤ a.block) ∧ Rd w' A (nums .i64 X) ∧ Rd w' (some ⟨B, Off, none⟩) (nums .u8 body) ∧ Below w.heap.size w w'
def IsRead (w : World) (B : Nat) (xs : List Int) : Ending → World → Prop := IsReadL w B (paM xs) (paB xs).length (xs.getD 0 0) (xs.getD 1 0) (paE xs) (paO xs) (paK xs) (paQ xs) (paX xs) (paB xs)

set_option maxHeartbeats 1000000 in
theorem read_short (A : Option Addr) (n c : Nat) (w : World) (h : n < 2) : Calls Tryd.prog 21 #[.slice A n c] w (NoRead w) := by
  go_enter Tryd.func21, Tryd.ntmps21
  go_wp2_with fail
  refine bodyPost_ret (v := .tuple #[.agg #[.int .i64 0, .int .i64 0, .int .u64 0, .int .u64 0, .slice none 0 0, .int .i64 0, .int .i64 0, .slice none 0 0], .bool false]) (by simp [results, Tryd.results21, go_sem]) rfl ⟨rfl, ?_⟩
  exact bal brf _
set_option maxHeartbeats 1000000 in
theorem read_stamp (B o n c : Nat) (xs : List Int) (w : World) (hn : xs.length = n) (hnc : n ≤ c) (hcm : c ≤ maxLen) (h2 : 2 ≤ n) (hc2 : ¬ c = 2) (hx : Rd w (some ⟨B, o, none⟩) (nums .u8 xs)) (hb : Byt xs) (h : ¬ stOk (xs.drop 2)) : Calls Tryd.prog 21 #[.slice (some ⟨B, o, none⟩) n c] w (NoRead w) := by
  have CT := fun (W : World) h0 => tk_no (A := some ⟨B, o + 2, none⟩) (n := n - 2) (c := c - 2) (xs := xs.drop 2) W (by rw [List.length_drop, hn]) (by omega) (by omega) h0 (fun x hx => hb x (List.mem_of_mem_drop hx)) h
  have HX := Lib.hid ((rd_dropF hx 2).below (bal brf (.cells #[.int .i64 0, .int .i64 0, .int .u64 0, .int .u64 0, .slice none 0 0, .int .i64 0, .int .i64 0, .slice none 0 0] 30)))
  have HOUT := Lib.hid (frOut_new w 30)
  unfold maxLen at hcm
  clear hx hn hb h
  go_enter Tryd.func21, Tryd.ntmps21
  go_upto_region 5 with (go_at_call 40; refine (CT _ HX.out).mono ?_; rintro e w1 ⟨rfl, hb1⟩; have HB1 := bgo (bal brf _) hb1; have HOUT := Lib.hid (HOUT.out.below hb1))
  iterate 4 go_step
  refine store8 rfl _ _ rfl w.heap.size #[.int .i64 0, .int .i64 0, .int .u64 0, .int .u64 0, .slice none 0 0, .int .i64 0, .int .i64 0, .slice none 0 0] rfl rfl (HOUT.out.below (bal brf _)) rfl (by kernel_rfl) ?_
  intro W5 hT5
  have HT5 := Lib.hid hT5
  clear hT5
  go_wp2_with fail
  refine bodyPost_ret (v := .tuple #[.agg #[.int .i64 0, .int .i64 0, .int .u64 0, .int .u64 0, .slice none 0 0, .int .i64 0, .int .i64 0, .slice none 0 0], .bool false]) ?_ rfl ⟨rfl, HT5.out.below w (Nat.le_refl _) (bal HB1 _)⟩
  exact results_cell_tmp (p := 2) (t := 3) (by rfl) _ _ w.heap.size 0 _ _ (by rfl) HT5.out.row Tryd.underlying30 rfl infoFr8
section
variable {P : Program} {ops : Array Oper} {Q : Exit → Act → World → Prop} {md : Region.Mode} {S : World → Prop}
/-- Take number i first; the operation itself is asked first, so that it stands written out. -/
theorem takeH {i : Nat} {oi : Oper} (v : Value) {fuel : Nat} {listed : Array Bool} {a : Act} {w : World} (hs : (Region.noSelect ops && Region.free md ops listed i && (Region.ready md ops listed).contains i) = true) (hS : S w) (hi : ops[i]? = some oi)
    (hQ : ∀ c a w, Q (.panic c) (a.put oi.dst v) w → Q (.panic c) a w) (hy : YieldsIf P ops S oi v a)
    (h : wpAnyH P md ops Q S fuel (listed.setIfInBounds i true) (a.put oi.dst v) w) : wpAnyH P md ops Q S (fuel + 1) listed a w := by
  simp only [Bool.and_eq_true] at hs
  exact wpAnyH_take hi hs.1.1 hs.1.2 hs.2 hQ hy hS h
/-- Number i alone may come up. -/
theorem onlyH {i : Nat} {oi : Oper} {fuel : Nat} {listed : Array Bool} {a : Act} {w : World} (hr : Region.ready md ops listed = [i]) (hi : ops[i]? = some oi)
    (h : ∀ K : Act → World → Prop, Shut (∀ a' w', S w' → (S w' → wpAnyH P md ops Q S fuel (listed.setIfInBounds i true) a' w') → K a' w') → if Region.wanted oi (yielded ops a.tmps) = true then Oper.wp P oi a w K Q else K (a.put oi.dst undef) w) : wpAnyH P md ops Q S (fuel + 1) listed a w :=
  wpAnyH_ready hr (by simp) (AllReadyH.cons hi (fun K hK => h K hK) AllReadyH.nil)
end

set_option maxHeartbeats 2000000 in
theorem read_ok (B o n c : Nat) (xs : List Int) (w : World) (hn : xs.length = n) (hnc : n + 32 ≤ c) (hcm : c ≤ maxLen) (hx : Rd w (some ⟨B, o, none⟩) (nums .u8 xs)) (hb : Byt xs) (h2 : 2 ≤ n) (hs : stOk (xs.drop 2)) (hl : 28 + paM xs ≤ n) (hz : paS xs = n - (28 + paM xs)) (hBw : B < w.heap.size) : Calls Tryd.prog 21 #[.slice (some ⟨B, o, none⟩) n c] w (IsRead w B xs) := by
  have hd : (xs.drop 2).length = n - 2 := by rw [List.length_drop, hn]
  have CT := fun (W : World) h0 => tk_yes (A := some ⟨B, o + 2, none⟩) (n := n - 2) (c := c - 2) (xs := xs.drop 2) W hd (by omega) (by omega) h0 (fun x hx => hb x (List.mem_of_mem_drop hx)) hs
  have HX := Lib.hid ((rd_dropF hx 2).below (bal brf (.cells #[.int .i64 0, .int .i64 0, .int .u64 0, .int .u64 0, .slice none 0 0, .int .i64 0, .int .i64 0, .slice none 0 0] 30)))
  have HXX := Lib.hid (hx.below (bal brf (.cells #[.int .i64 0, .int .i64 0, .int .u64 0, .int .u64 0, .slice none 0 0, .int .i64 0, .int .i64 0, .slice none 0 0] 30)))
  have HOUT := Lib.hid (frOut_new w 30)
  unfold maxLen at hcm
  obtain ⟨m, hm⟩ : ∃ m, m = paM xs := ⟨_, rfl⟩
  have hm19 : 19 + m ≤ n := by have := hs.2.1; rw [hd] at this; rw [hm]; show 19 + tkM (xs.drop 2) ≤ n; omega
  have CT : ∀ W : World, Rd W (some ⟨B, o + 2, none⟩) (nums .u8 (xs.drop 2)) → Calls Tryd.prog 40 #[.slice (some ⟨B, o + 2, none⟩) (n - 2) (c - 2)] W fun e w' => ∃ A c, e = .returned (.tuple #[.agg #[.int .u64 ((paE xs : Nat) : Int), .int .u64 ((paO xs : Nat) : Int), .slice A m c], .int .i64 (17 + (m : Int)), .int .i64 0]) ∧ m ≤ c ∧ w'.ownsRow W.heap.size 3 1 (.slice A m c) m (nums .i64 (paX xs)) ∧ Below W.heap.size W w' := fun W h0 => (CT W h0).mono fun e w' ⟨A, c, he, hc, ho, hbw⟩ => ⟨A, c, by rw [hm]; exact he, by rw [hm]; exact hc, by rw [hm]; exact ho, hbw⟩
  obtain ⟨r, hr⟩ : ∃ r, r = n - (28 + paM xs) := ⟨_, rfl⟩
  rw [← hr] at hz
  rw [← hm] at hl hr
  obtain ⟨rc, hrc⟩ : ∃ rc, rc = c - (2 + (17 + m)) := ⟨_, rfl⟩
  have lR : (paR xs).length = 9 + r := by rw [paR, List.length_drop, ← hm, hn]; omega
  have e19 : paR xs = xs.drop (2 + (17 + m)) := by rw [paR, ← hm]; congr 1; omega
  have bR : Byt (paR xs) := fun x hx => hb x (List.mem_of_mem_drop hx)
  have CG1 := fun (W : World) (h0 : Rd W (some ⟨B, o, none⟩) (nums .u8 xs)) => wget_any (some ⟨B, o + (2 + (17 + m)) + 1, none⟩) 4 (rc - 1) (((paR xs).drop 1).take 4) W (by rw [List.length_take, List.length_drop, lR]; omega) (by have := (rd_dropF h0 (2 + (17 + m))).part 1 4; rwa [← e19] at this) (fun x hx => bR x (List.mem_of_mem_drop (List.mem_of_mem_take hx))) (by omega) (by omega)
  have CG2 := fun (W : World) (h0 : Rd W (some ⟨B, o, none⟩) (nums .u8 xs)) => wget_any (some ⟨B, o + (2 + (17 + m)) + 5, none⟩) 4 (rc - 5) (((paR xs).drop 5).take 4) W (by rw [List.length_take, List.length_drop, lR]; omega) (by have := (rd_dropF h0 (2 + (17 + m))).part 5 4; rwa [← e19] at this) (fun x hx => bR x (List.mem_of_mem_drop (List.mem_of_mem_take hx))) (by omega) (by omega)
  have hQ : valB (((paR xs).drop 1).take 4) = paQ xs := rfl
  have hS : valB (((paR xs).drop 5).take 4) = r := hz
  rw [hQ] at CG1
  rw [hS] at CG2
  have q32 : paQ xs < 4294967296 := paQ_lt hb
  have lB : (paB xs).length = r := by rw [paB, List.length_drop, lR]; omega
  have rB : ∀ W : World, Rd W (some ⟨B, o, none⟩) (nums .u8 xs) → Rd W (some ⟨B, o + (2 + (17 + m)) + 9, none⟩) (nums .u8 (paB xs)) := fun W h0 => by
    have := rd_dropF (rd_dropF h0 (2 + (17 + m))) 9
    rwa [← e19] at this
  have RB := Lib.hid rB
  have k9 : xs.getD (19 + m) 0 = paK xs := by
    rw [paK, paR, ← hm]; simp [List.getD, List.getElem?_drop]
  have hcs : ∀ W : World, Rd W (some ⟨B, o, none⟩) (nums .u8 xs) → W.cell? ⟨B, o, none⟩ = some (.int .u8 (xs.getD 0 0)) ∧ W.cell? ⟨B, o + 1, none⟩ = some (.int .u8 (xs.getD 1 0)) ∧ W.cell? ⟨B, o + (2 + (17 + m)), none⟩ = some (.int .u8 (paK xs)) := fun W h0 => by
    obtain ⟨b', o', he, _, hc⟩ := h0.at_ (by simp; omega)
    cases he
    have a0 := hc 0 _ (nums_at (by omega))
    have a1 := hc 1 _ (nums_at (by omega))
    have a2 := hc (19 + m) _ (nums_at (by omega))
    rw [k9] at a2
    exact ⟨by simpa using a0, a1, by rw [show 2 + (17 + m) = 19 + m by omega]; exact a2⟩
  have HCS := Lib.hid hcs
  have bb : ∀ i, i < n → 0 ≤ xs.getD i 0 ∧ xs.getD i 0 ≤ 255 := fun i hi => hb _ (by simp [List.getD, List.getElem?_eq_getElem (show i < xs.length by omega)])
  obtain ⟨g0, g1⟩ := bb 0 (by omega)
  obtain ⟨g2, g3⟩ := bb 1 (by omega)
  obtain ⟨g4, g5⟩ := bb (19 + m) (by omega)
  rw [k9] at g4 g5
  have hfin : IsRead w B xs = IsReadL w B m r (xs.getD 0 0) (xs.getD 1 0) (paE xs) (paO xs) (paK xs) (paQ xs) (paX xs) (paB xs) := by rw [hm, ← lB]; rfl
  rw [hfin]
  have c1 : ¬ rc = 1 := by omega
  have c5 : ¬ rc = 5 := by omega
  have c9 : ¬ rc = 9 := by omega
  have c0 : 41 + r ≤ rc := by omega
  have hrr : n - (2 + (17 + m)) = 9 + r := by omega
  have hrc2 := hrc.symm
  have HM := Lib.hid hm
  have nM : 28 + m + r ≤ n := by omega
  clear hcs
  obtain ⟨f0, hf0⟩ : ∃ f, f = xs.getD 0 0 := ⟨_, rfl⟩
  obtain ⟨t0, ht0⟩ : ∃ f, f = xs.getD 1 0 := ⟨_, rfl⟩
  obtain ⟨k0, hk0⟩ : ∃ f, f = paK xs := ⟨_, rfl⟩
  obtain ⟨q0, hq0⟩ : ∃ f, f = paQ xs := ⟨_, rfl⟩
  rw [← hf0] at g0 g1 HCS ⊢
  rw [← ht0] at g2 g3 HCS ⊢
  rw [← hk0] at g4 g5 HCS ⊢
  rw [← hq0] at q32 CG1 ⊢
  have w1_ : IntKind.i64.wrap f0 = f0 := IntWalk.i64_in _ (by omega)
  have w2_ : IntKind.i64.wrap t0 = t0 := IntWalk.i64_in _ (by omega)
  have w3_ : IntKind.i64.wrap k0 = k0 := IntWalk.i64_in _ (by omega)
  have w4_ : IntKind.i64.wrap (q0 : Int) = (q0 : Int) := IntWalk.i64_in _ (by omega)
  have HW := Lib.hid (And.intro w1_ (And.intro w2_ (And.intro w3_ w4_)))
  clear hf0 ht0 hk0 hq0 w1_ w2_ w3_ w4_ hx hn hb hs hd hz hr hrc lR e19 bR hQ hS lB rB k9 bb hfin hm hl
  go_enter Tryd.func21, Tryd.ntmps21
  go_upto_region 14 with (first
    | (go_at_call 40; refine (CT _ HX.out).mono ?_; rintro e w1 ⟨A1, c1, rfl, hc1, ho1, hb1⟩; have HB1 := bgo (bal brf _) hb1; have HXX := Lib.hid ((HXX.out.below hb1).below (bal brf (.cells #[.int .u64 ((paE xs : Nat) : Int), .int .u64 ((paO xs : Nat) : Int), .slice A1 m c1] 28))); have HO1 := Lib.hid (ho1.alloc (.cells #[.int .u64 ((paE xs : Nat) : Int), .int .u64 ((paO xs : Nat) : Int), .slice A1 m c1] 28)); have HOUT := Lib.hid ((HOUT.out.below hb1).below (bal brf (.cells #[.int .u64 ((paE xs : Nat) : Int), .int .u64 ((paO xs : Nat) : Int), .slice A1 m c1] 28))); have HSZ := Lib.hid hb1.size; clear ho1)
    | (go_at_call 41; first
    | ((with_reducible refine (CG1 _ HXX.out).mono ?_); rintro e w2 ⟨rfl, rfl⟩)
    | ((with_reducible refine (CG2 _ HXX.out).mono ?_); rintro e w2 ⟨rfl, rfl⟩)))
  have hS : (fun x => (x.cell? ⟨B, o, none⟩ = some (.int .u8 f0) ∧ x.cell? ⟨B, o + 1, none⟩ = some (.int .u8 t0) ∧ x.cell? ⟨B, o + (2 + (17 + m)), none⟩ = some (.int .u8 k0)) ∧ x.cell? ⟨w1.heap.size, 0, none⟩ = some (.int .u64 ((paE xs : Nat) : Int)) ∧ x.cell? ⟨w1.heap.size, 1, none⟩ = some (.int .u64 ((paO xs : Nat) : Int)) ∧ x.cell? ⟨w1.heap.size, 2, none⟩ = some (.slice A1 m c1)) (w1.alloc (.cells #[.int .u64 ((paE xs : Nat) : Int), .int .u64 ((paO xs : Nat) : Int), .slice A1 m c1] 28)).drew := ⟨HCS.out _ HXX.out, new3_0 _ _ _ _ _, new3_1 _ _ _ _ _, new3_2 _ _ _ _ _⟩
  have hne : B ≠ w.heap.size := by omega
  have hne2 : w1.heap.size ≠ w.heap.size := by have := HSZ.out; simp only [World.size_alloc] at this; omega
  have z1 : 0 < n := by omega
  obtain ⟨w1_, w2_, w3_, w4_⟩ := HW.out
  have z2 : 1 < n := by omega
  have z3 : (1 : Int) < n := by omega
  have z4 : (0 : Int) < n := by omega
  have z5 : 0 < 9 + r := by omega
  have z6 : (0 : Int) < 9 + r := by omega
  refine wp_region_held_drew (S := fun x => (x.cell? ⟨B, o, none⟩ = some (.int .u8 f0) ∧ x.cell? ⟨B, o + 1, none⟩ = some (.int .u8 t0) ∧ x.cell? ⟨B, o + (2 + (17 + m)), none⟩ = some (.int .u8 k0)) ∧ x.cell? ⟨w1.heap.size, 0, none⟩ = some (.int .u64 ((paE xs : Nat) : Int)) ∧ x.cell? ⟨w1.heap.size, 1, none⟩ = some (.int .u64 ((paO xs : Nat) : Int)) ∧ x.cell? ⟨w1.heap.size, 2, none⟩ = some (.slice A1 m c1)) (by kernel_rfl) hS (fun hHeld => ?_)
  clear hHeld
  refine takeH (i := 0) (oi := ?oiu1) ?vu1 (by kernel_rfl) (by with_reducible exact hS) ?hiu1 ?hQu1 ?hyu1 ?_
  case hiu1 => simp only [List.getElem?_toArray, List.getElem?_cons_succ, List.getElem?_cons_zero]; rfl
  case hQu1 => exact fun _ _ _ h => h
  case hyu1 =>
    refine Or.inl ⟨by rfl, ?_⟩
    rintro W9 ⟨⟨y0, y1, y2⟩, y3, y4, y5⟩
    go_simp
    rfl
  try simp only [Act.put, List.setIfInBounds_toArray, List.set_cons_zero, List.set_cons_succ]
  refine takeH (i := 1) (oi := ?oiu2) ?vu2 (by kernel_rfl) (by with_reducible exact hS) ?hiu2 ?hQu2 ?hyu2 ?_
  case hiu2 => simp only [List.getElem?_toArray, List.getElem?_cons_succ, List.getElem?_cons_zero]; rfl
  case hQu2 => exact fun _ _ _ h => h
  case hyu2 =>
    refine Or.inl ⟨by rfl, ?_⟩
    rintro W9 ⟨⟨y0, y1, y2⟩, y3, y4, y5⟩
    go_simp
    rfl
  try simp only [Act.put, List.setIfInBounds_toArray, List.set_cons_zero, List.set_cons_succ]
  refine takeH (i := 2) (oi := ?oiu3) ?vu3 (by kernel_rfl) (by with_reducible exact hS) ?hiu3 ?hQu3 ?hyu3 ?_
  case hiu3 => simp only [List.getElem?_toArray, List.getElem?_cons_succ, List.getElem?_cons_zero]; rfl
  case hQu3 => exact fun _ _ _ h => h
  case hyu3 =>
    refine Or.inl ⟨by rfl, ?_⟩
    rintro W9 ⟨⟨y0, y1, y2⟩, y3, y4, y5⟩
    go_simp
    rfl
  try simp only [Act.put, List.setIfInBounds_toArray, List.set_cons_zero, List.set_cons_succ]
  refine takeH (i := 3) (oi := ?oiu4) ?vu4 (by kernel_rfl) (by with_reducible exact hS) ?hiu4 ?hQu4 ?hyu4 ?_
  case hiu4 => simp only [List.getElem?_toArray, List.getElem?_cons_succ, List.getElem?_cons_zero]; rfl
  case hQu4 => exact fun _ _ _ h => h
  case hyu4 =>
    refine Or.inl ⟨by rfl, ?_⟩
    rintro W9 ⟨⟨y0, y1, y2⟩, y3, y4, y5⟩
    go_simp
    rfl
  try simp only [Act.put, List.setIfInBounds_toArray, List.set_cons_zero, List.set_cons_succ]
  refine takeH (i := 4) (oi := ?oiu5) ?vu5 (by kernel_rfl) (by with_reducible exact hS) ?hiu5 ?hQu5 ?hyu5 ?_
  case hiu5 => simp only [List.getElem?_toArray, List.getElem?_cons_succ, List.getElem?_cons_zero]; rfl
  case hQu5 => exact fun _ _ _ h => h
  case hyu5 =>
    refine Or.inl ⟨by rfl, ?_⟩
    rintro W9 ⟨⟨y0, y1, y2⟩, y3, y4, y5⟩
    go_simp
    rfl
  try simp only [Act.put, List.setIfInBounds_toArray, List.set_cons_zero, List.set_cons_succ]
  refine takeH (i := 5) (oi := ?oiu6) ?vu6 (by kernel_rfl) (by with_reducible exact hS) ?hiu6 ?hQu6 ?hyu6 ?_
  case hiu6 => simp only [List.getElem?_toArray, List.getElem?_cons_succ, List.getElem?_cons_zero]; rfl
  case hQu6 => exact fun _ _ _ h => h
  case hyu6 =>
    refine Or.inl ⟨by rfl, ?_⟩
    rintro W9 ⟨⟨y0, y1, y2⟩, y3, y4, y5⟩
    go_simp
    rfl
  try simp only [Act.put, List.setIfInBounds_toArray, List.set_cons_zero, List.set_cons_succ]
  refine takeH (i := 6) (oi := ?oiu7) ?vu7 (by kernel_rfl) (by with_reducible exact hS) ?hiu7 ?hQu7 ?hyu7 ?_
  case hiu7 => simp only [List.getElem?_toArray, List.getElem?_cons_succ, List.getElem?_cons_zero]; rfl
  case hQu7 => exact fun _ _ _ h => h
  case hyu7 =>
    refine Or.inl ⟨by rfl, ?_⟩
    rintro W9 ⟨⟨y0, y1, y2⟩, y3, y4, y5⟩
    go_simp
    rfl
  try simp only [Act.put, List.setIfInBounds_toArray, List.set_cons_zero, List.set_cons_succ]
  refine takeH (i := 7) (oi := ?oiu8) ?vu8 (by kernel_rfl) (by with_reducible exact hS) ?hiu8 ?hQu8 ?hyu8 ?_
  case hiu8 => simp only [List.getElem?_toArray, List.getElem?_cons_succ, List.getElem?_cons_zero]; rfl
  case hQu8 => exact fun _ _ _ h => h
  case hyu8 =>
    refine Or.inl ⟨by rfl, ?_⟩
    rintro W9 ⟨⟨y0, y1, y2⟩, y3, y4, y5⟩
    go_simp
    rfl
  try simp only [Act.put, List.setIfInBounds_toArray, List.set_cons_zero, List.set_cons_succ]
  refine takeH (i := 8) (oi := ?oiu9) ?vu9 (by kernel_rfl) (by with_reducible exact hS) ?hiu9 ?hQu9 ?hyu9 ?_
  case hiu9 => simp only [List.getElem?_toArray, List.getElem?_cons_succ, List.getElem?_cons_zero]; rfl
  case hQu9 => exact fun _ _ _ h => h
  case hyu9 =>
    refine Or.inl ⟨by rfl, ?_⟩
    rintro W9 ⟨⟨y0, y1, y2⟩, y3, y4, y5⟩
    go_simp
    rfl
  try simp only [Act.put, List.setIfInBounds_toArray, List.set_cons_zero, List.set_cons_succ]
  refine takeH (i := 9) (oi := ?oiu10) ?vu10 (by kernel_rfl) (by with_reducible exact hS) ?hiu10 ?hQu10 ?hyu10 ?_
  case hiu10 => simp only [List.getElem?_toArray, List.getElem?_cons_succ, List.getElem?_cons_zero]; rfl
  case hQu10 => exact fun _ _ _ h => h
  case hyu10 =>
    refine Or.inl ⟨by rfl, ?_⟩
    rintro W9 ⟨⟨y0, y1, y2⟩, y3, y4, y5⟩
    go_simp
    rfl
  try simp only [Act.put, List.setIfInBounds_toArray, List.set_cons_zero, List.set_cons_succ]
  refine takeH (i := 10) (oi := ?oiu11) ?vu11 (by kernel_rfl) (by with_reducible exact hS) ?hiu11 ?hQu11 ?hyu11 ?_
  case hiu11 => simp only [List.getElem?_toArray, List.getElem?_cons_succ, List.getElem?_cons_zero]; rfl
  case hQu11 => exact fun _ _ _ h => h
  case hyu11 =>
    refine Or.inl ⟨by rfl, ?_⟩
    rintro W9 ⟨⟨y0, y1, y2⟩, y3, y4, y5⟩
    go_simp
    rfl
  try simp only [Act.put, List.setIfInBounds_toArray, List.set_cons_zero, List.set_cons_succ]
  refine takeH (i := 11) (oi := ?oiu12) ?vu12 (by kernel_rfl) (by with_reducible exact hS) ?hiu12 ?hQu12 ?hyu12 ?_
  case hiu12 => simp only [List.getElem?_toArray, List.getElem?_cons_succ, List.getElem?_cons_zero]; rfl
  case hQu12 => exact fun _ _ _ h => h
  case hyu12 =>
    refine Or.inl ⟨by rfl, ?_⟩
    rintro W9 ⟨⟨y0, y1, y2⟩, y3, y4, y5⟩
    go_simp
    rfl
  try simp only [Act.put, List.setIfInBounds_toArray, List.set_cons_zero, List.set_cons_succ]
  refine takeH (i := 12) (oi := ?oiu13) ?vu13 (by kernel_rfl) (by with_reducible exact hS) ?hiu13 ?hQu13 ?hyu13 ?_
  case hiu13 => simp only [List.getElem?_toArray, List.getElem?_cons_succ, List.getElem?_cons_zero]; rfl
  case hQu13 => exact fun _ _ _ h => h
  case hyu13 =>
    refine Or.inl ⟨by rfl, ?_⟩
    rintro W9 ⟨⟨y0, y1, y2⟩, y3, y4, y5⟩
    go_simp
    rfl
  try simp only [Act.put, List.setIfInBounds_toArray, List.set_cons_zero, List.set_cons_succ]
  refine takeH (i := 13) (oi := ?oiu14) ?vu14 (by kernel_rfl) (by with_reducible exact hS) ?hiu14 ?hQu14 ?hyu14 ?_
  case hiu14 => simp only [List.getElem?_toArray, List.getElem?_cons_succ, List.getElem?_cons_zero]; rfl
  case hQu14 => exact fun _ _ _ h => h
  case hyu14 =>
    refine Or.inl ⟨by rfl, ?_⟩
    rintro W9 ⟨⟨y0, y1, y2⟩, y3, y4, y5⟩
    go_simp
    rfl
  try simp only [Act.put, List.setIfInBounds_toArray, List.set_cons_zero, List.set_cons_succ]
  refine takeH (i := 14) (oi := ?oiu15) ?vu15 (by kernel_rfl) (by with_reducible exact hS) ?hiu15 ?hQu15 ?hyu15 ?_
  case hiu15 => simp only [List.getElem?_toArray, List.getElem?_cons_succ, List.getElem?_cons_zero]; rfl
  case hQu15 => exact fun _ _ _ h => h
  case hyu15 =>
    refine Or.inl ⟨by rfl, ?_⟩
    rintro W9 ⟨⟨y0, y1, y2⟩, y3, y4, y5⟩
    go_simp
    rfl
  try simp only [Act.put, List.setIfInBounds_toArray, List.set_cons_zero, List.set_cons_succ]
  refine takeH (i := 15) (oi := ?oiu16) ?vu16 (by kernel_rfl) (by with_reducible exact hS) ?hiu16 ?hQu16 ?hyu16 ?_
  case hiu16 => simp only [List.getElem?_toArray, List.getElem?_cons_succ, List.getElem?_cons_zero]; rfl
  case hQu16 => exact fun _ _ _ h => h
  case hyu16 =>
    refine Or.inl ⟨by rfl, ?_⟩
    rintro W9 ⟨⟨y0, y1, y2⟩, y3, y4, y5⟩
    go_simp
    rfl
  try simp only [Act.put, List.setIfInBounds_toArray, List.set_cons_zero, List.set_cons_succ]
  refine takeH (i := 16) (oi := ?oiu17) ?vu17 (by kernel_rfl) (by with_reducible exact hS) ?hiu17 ?hQu17 ?hyu17 ?_
  case hiu17 => simp only [List.getElem?_toArray, List.getElem?_cons_succ, List.getElem?_cons_zero]; rfl
  case hQu17 => exact fun _ _ _ h => h
  case hyu17 =>
    refine Or.inl ⟨by rfl, ?_⟩
    rintro W9 ⟨⟨y0, y1, y2⟩, y3, y4, y5⟩
    go_simp
    rfl
  try simp only [Act.put, List.setIfInBounds_toArray, List.set_cons_zero, List.set_cons_succ]
  refine onlyH (i := 17) (oi := ?oiu18) (by kernel_rfl) ?hiu18 (fun K hK => ?_)
  case hiu18 => simp only [List.getElem?_toArray, List.getElem?_cons_succ, List.getElem?_cons_zero]; rfl
  rw [if_pos (by rfl)]
  refine store8op _ _ rfl w.heap.size #[.int .i64 f0, .int .i64 t0, .int .u64 ((paE xs : Nat) : Int), .int .u64 ((paO xs : Nat) : Int), .slice A1 m c1, .int .i64 k0, .int .i64 (q0 : Int), .slice (some ⟨B, o + (2 + (17 + m)) + 9, none⟩) r (rc - 9)] rfl rfl HOUT.out rfl (by kernel_rfl) ?_
  intro W5 hT5
  have hS : (fun x => (x.cell? ⟨B, o, none⟩ = some (.int .u8 f0) ∧ x.cell? ⟨B, o + 1, none⟩ = some (.int .u8 t0) ∧ x.cell? ⟨B, o + (2 + (17 + m)), none⟩ = some (.int .u8 k0)) ∧ x.cell? ⟨w1.heap.size, 0, none⟩ = some (.int .u64 ((paE xs : Nat) : Int)) ∧ x.cell? ⟨w1.heap.size, 1, none⟩ = some (.int .u64 ((paO xs : Nat) : Int)) ∧ x.cell? ⟨w1.heap.size, 2, none⟩ = some (.slice A1 m c1)) W5 := ⟨⟨hT5.cell hne hS.1.1, hT5.cell hne hS.1.2.1, hT5.cell hne hS.1.2.2⟩, hT5.cell hne2 hS.2.1, hT5.cell hne2 hS.2.2.1, hT5.cell hne2 hS.2.2.2⟩
  have HT5 := Lib.hid hT5
  refine hK.out _ _ (by with_reducible exact hS) (fun hHeld => ?_)
  clear hK K hHeld hT5
  try simp only [Act.put, List.setIfInBounds_toArray, List.set_cons_zero, List.set_cons_succ]
  refine takeH (i := 18) (oi := ?oiu19) ?vu19 (by kernel_rfl) (by with_reducible exact hS) ?hiu19 ?hQu19 ?hyu19 ?_
  case hiu19 => simp only [List.getElem?_toArray, List.getElem?_cons_succ, List.getElem?_cons_zero]; rfl
  case hQu19 => exact fun _ _ _ h => h
  case hyu19 =>
    refine Or.inl ⟨by rfl, ?_⟩
    rintro W9 ⟨⟨y0, y1, y2⟩, y3, y4, y5⟩
    go_simp
    rfl
  try simp only [Act.put, List.setIfInBounds_toArray, List.set_cons_zero, List.set_cons_succ]
  refine wpAnyH_done (by kernel_rfl) ?_ _
  go_wp2_with fail
  refine bodyPost_ret (v := .tuple #[.agg #[.int .i64 f0, .int .i64 t0, .int .u64 ((paE xs : Nat) : Int), .int .u64 ((paO xs : Nat) : Int), .slice A1 m c1, .int .i64 k0, .int .i64 (q0 : Int), .slice (some ⟨B, o + (2 + (17 + m)) + 9, none⟩) r (rc - 9)], .bool true]) ?_ rfl ⟨A1, c1, o + (2 + (17 + m)) + 9, rc - 9, rfl, hc1, fun a ha => Nat.le_of_lt (by have := own_ge HO1.out a ha; simp only [World.size_alloc] at this; omega), Rd.of_own (HT5.out.own HO1.out (by simp)), HT5.out.rd hne (RB.out _ HXX.out), HT5.out.below w (Nat.le_refl _) (bdr (bal HB1 _))⟩
  exact results_cell_tmp (p := 2) (t := 3) (by rfl) _ _ w.heap.size 0 _ _ (by rfl) HT5.out.row Tryd.underlying30 rfl infoFr8

set_option maxHeartbeats 2000000 in
theorem read_len (B o n c : Nat) (xs : List Int) (w : World) (hn : xs.length = n) (hnc : n + 32 ≤ c) (hcm : c ≤ maxLen) (hx : Rd w (some ⟨B, o, none⟩) (nums .u8 xs)) (hb : Byt xs) (h2 : 2 ≤ n) (hs : stOk (xs.drop 2)) (hl : n < 28 + paM xs) : Calls Tryd.prog 21 #[.slice (some ⟨B, o, none⟩) n c] w (NoRead w) := by
  have hd : (xs.drop 2).length = n - 2 := by rw [List.length_drop, hn]
  have CT := fun (W : World) h0 => tk_yes (A := some ⟨B, o + 2, none⟩) (n := n - 2) (c := c - 2) (xs := xs.drop 2) W hd (by omega) (by omega) h0 (fun x hx => hb x (List.mem_of_mem_drop hx)) hs
  have HX := Lib.hid ((rd_dropF hx 2).below (bal brf (.cells #[.int .i64 0, .int .i64 0, .int .u64 0, .int .u64 0, .slice none 0 0, .int .i64 0, .int .i64 0, .slice none 0 0] 30)))
  have HXX := Lib.hid (hx.below (bal brf (.cells #[.int .i64 0, .int .i64 0, .int .u64 0, .int .u64 0, .slice none 0 0, .int .i64 0, .int .i64 0, .slice none 0 0] 30)))
  have HOUT := Lib.hid (frOut_new w 30)
  unfold maxLen at hcm
  obtain ⟨m, hm⟩ : ∃ m, m = paM xs := ⟨_, rfl⟩
  have hm19 : 19 + m ≤ n := by have := hs.2.1; rw [hd] at this; rw [hm]; show 19 + tkM (xs.drop 2) ≤ n; omega
  have CT : ∀ W : World, Rd W (some ⟨B, o + 2, none⟩) (nums .u8 (xs.drop 2)) → Calls Tryd.prog 40 #[.slice (some ⟨B, o + 2, none⟩) (n - 2) (c - 2)] W fun e w' => ∃ A c, e = .returned (.tuple #[.agg #[.int .u64 ((paE xs : Nat) : Int), .int .u64 ((paO xs : Nat) : Int), .slice A m c], .int .i64 (17 + (m : Int)), .int .i64 0]) ∧ m ≤ c ∧ w'.ownsRow W.heap.size 3 1 (.slice A m c) m (nums .i64 (paX xs)) ∧ Below W.heap.size W w' := fun W h0 => (CT W h0).mono fun e w' ⟨A, c, he, hc, ho, hbw⟩ => ⟨A, c, by rw [hm]; exact he, by rw [hm]; exact hc, by rw [hm]; exact ho, hbw⟩
  rw [← hm] at hl
  obtain ⟨rc, hrc⟩ : ∃ rc, rc = c - (2 + (17 + m)) := ⟨_, rfl⟩
  obtain ⟨r, hr⟩ : ∃ r, r = n - (2 + (17 + m)) := ⟨_, rfl⟩
  have r9 : r < 9 := by omega
  have c0 : r + 32 ≤ rc := by omega
  have hrr := hr.symm
  have hrc2 := hrc.symm
  have HM := Lib.hid hm
  clear hx hn hb hs hd hm hrc hr
  go_enter Tryd.func21, Tryd.ntmps21
  go_upto_region 8 with (go_at_call 40; refine (CT _ HX.out).mono ?_; rintro e w1 ⟨A1, c1, rfl, hc1, ho1, hb1⟩; have HB1 := bgo (bal brf _) hb1; have HXX := Lib.hid ((HXX.out.below hb1).below (bal brf (.cells #[.int .u64 ((paE xs : Nat) : Int), .int .u64 ((paO xs : Nat) : Int), .slice A1 m c1] 28))); have HO1 := Lib.hid (ho1.alloc (.cells #[.int .u64 ((paE xs : Nat) : Int), .int .u64 ((paO xs : Nat) : Int), .slice A1 m c1] 28)); have HOUT := Lib.hid ((HOUT.out.below hb1).below (bal brf (.cells #[.int .u64 ((paE xs : Nat) : Int), .int .u64 ((paO xs : Nat) : Int), .slice A1 m c1] 28))); have HSZ := Lib.hid hb1.size; clear ho1)
  iterate 4 go_step
  refine store8 rfl _ _ rfl w.heap.size #[.int .i64 0, .int .i64 0, .int .u64 0, .int .u64 0, .slice none 0 0, .int .i64 0, .int .i64 0, .slice none 0 0] rfl rfl HOUT.out rfl (by kernel_rfl) ?_
  intro W5 hT5
  have HT5 := Lib.hid hT5
  clear hT5
  go_wp2_with fail
  refine bodyPost_ret (v := .tuple #[.agg #[.int .i64 0, .int .i64 0, .int .u64 0, .int .u64 0, .slice none 0 0, .int .i64 0, .int .i64 0, .slice none 0 0], .bool false]) ?_ rfl ⟨rfl, HT5.out.below w (Nat.le_refl _) (bal HB1 _)⟩
  exact results_cell_tmp (p := 2) (t := 3) (by rfl) _ _ w.heap.size 0 _ _ (by rfl) HT5.out.row Tryd.underlying30 rfl infoFr8

set_option maxHeartbeats 2000000 in
theorem read_size (B o n c : Nat) (xs : List Int) (w : World) (hn : xs.length = n) (hnc : n + 32 ≤ c) (hcm : c ≤ maxLen) (hx : Rd w (some ⟨B, o, none⟩) (nums .u8 xs)) (hb : Byt xs) (h2 : 2 ≤ n) (hs : stOk (xs.drop 2)) (hl : 28 + paM xs ≤ n) (hz : paS xs ≠ n - (28 + paM xs)) : Calls Tryd.prog 21 #[.slice (some ⟨B, o, none⟩) n c] w (NoRead w) := by
  have hd : (xs.drop 2).length = n - 2 := by rw [List.length_drop, hn]
  have CT := fun (W : World) h0 => tk_yes (A := some ⟨B, o + 2, none⟩) (n := n - 2) (c := c - 2) (xs := xs.drop 2) W hd (by omega) (by omega) h0 (fun x hx => hb x (List.mem_of_mem_drop hx)) hs
  have HX := Lib.hid ((rd_dropF hx 2).below (bal brf (.cells #[.int .i64 0, .int .i64 0, .int .u64 0, .int .u64 0, .slice none 0 0, .int .i64 0, .int .i64 0, .slice none 0 0] 30)))
  have HXX := Lib.hid (hx.below (bal brf (.cells #[.int .i64 0, .int .i64 0, .int .u64 0, .int .u64 0, .slice none 0 0, .int .i64 0, .int .i64 0, .slice none 0 0] 30)))
  have HOUT := Lib.hid (frOut_new w 30)
  unfold maxLen at hcm
  obtain ⟨m, hm⟩ : ∃ m, m = paM xs := ⟨_, rfl⟩
  have hm19 : 19 + m ≤ n := by have := hs.2.1; rw [hd] at this; rw [hm]; show 19 + tkM (xs.drop 2) ≤ n; omega
  have CT : ∀ W : World, Rd W (some ⟨B, o + 2, none⟩) (nums .u8 (xs.drop 2)) → Calls Tryd.prog 40 #[.slice (some ⟨B, o + 2, none⟩) (n - 2) (c - 2)] W fun e w' => ∃ A c, e = .returned (.tuple #[.agg #[.int .u64 ((paE xs : Nat) : Int), .int .u64 ((paO xs : Nat) : Int), .slice A m c], .int .i64 (17 + (m : Int)), .int .i64 0]) ∧ m ≤ c ∧ w'.ownsRow W.heap.size 3 1 (.slice A m c) m (nums .i64 (paX xs)) ∧ Below W.heap.size W w' := fun W h0 => (CT W h0).mono fun e w' ⟨A, c, he, hc, ho, hbw⟩ => ⟨A, c, by rw [hm]; exact he, by rw [hm]; exact hc, by rw [hm]; exact ho, hbw⟩
  obtain ⟨r, hr⟩ : ∃ r, r = n - (28 + paM xs) := ⟨_, rfl⟩
  rw [← hr] at hz
  rw [← hm] at hl hr
  obtain ⟨rc, hrc⟩ : ∃ rc, rc = c - (2 + (17 + m)) := ⟨_, rfl⟩
  have lR : (paR xs).length = 9 + r := by rw [paR, List.length_drop, ← hm, hn]; omega
  have e19 : paR xs = xs.drop (2 + (17 + m)) := by rw [paR, ← hm]; congr 1; omega
  have bR : Byt (paR xs) := fun x hx => hb x (List.mem_of_mem_drop hx)
  have CG1 := fun (W : World) (h0 : Rd W (some ⟨B, o, none⟩) (nums .u8 xs)) => wget_any (some ⟨B, o + (2 + (17 + m)) + 1, none⟩) 4 (rc - 1) (((paR xs).drop 1).take 4) W (by rw [List.length_take, List.length_drop, lR]; omega) (by have := (rd_dropF h0 (2 + (17 + m))).part 1 4; rwa [← e19] at this) (fun x hx => bR x (List.mem_of_mem_drop (List.mem_of_mem_take hx))) (by omega) (by omega)
  have CG2 := fun (W : World) (h0 : Rd W (some ⟨B, o, none⟩) (nums .u8 xs)) => wget_any (some ⟨B, o + (2 + (17 + m)) + 5, none⟩) 4 (rc - 5) (((paR xs).drop 5).take 4) W (by rw [List.length_take, List.length_drop, lR]; omega) (by have := (rd_dropF h0 (2 + (17 + m))).part 5 4; rwa [← e19] at this) (fun x hx => bR x (List.mem_of_mem_drop (List.mem_of_mem_take hx))) (by omega) (by omega)
  have hQ : valB (((paR xs).drop 1).take 4) = paQ xs := rfl
  have hS : valB (((paR xs).drop 5).take 4) = paS xs := rfl
  rw [hQ] at CG1
  rw [hS] at CG2
  have q32 : paQ xs < 4294967296 := paQ_lt hb
  have s32 : paS xs < 4294967296 := by
    have h := valB_lt (l := ((paR xs).drop 5).take 4) (fun x hx => bR x (List.mem_of_mem_drop (List.mem_of_mem_take hx)))
    have h2 : (((paR xs).drop 5).take 4).length ≤ 4 := List.length_take_le _ _
    have h3 : 2 ^ (8 * (((paR xs).drop 5).take 4).length) ≤ 2 ^ 32 := Nat.pow_le_pow_right (by omega) (by omega)
    have h4 : (2 : Nat) ^ 32 = 4294967296 := by decide
    unfold paS
    omega
  obtain ⟨s0, hs0⟩ : ∃ s, s = paS xs := ⟨_, rfl⟩
  obtain ⟨q0, hq0⟩ : ∃ s, s = paQ xs := ⟨_, rfl⟩
  rw [← hs0] at hz s32 CG2
  rw [← hq0] at q32 CG1
  have hzb : ((s0 : Int) != (r : Int)) = true := by simp; omega
  have c1 : ¬ rc = 1 := by omega
  have c5 : ¬ rc = 5 := by omega
  have c9 : ¬ rc = 9 := by omega
  have c0 : 41 + r ≤ rc := by omega
  have hrr : n - (2 + (17 + m)) = 9 + r := by omega
  have hrc2 := hrc.symm
  have HM := Lib.hid hm
  have nM : 28 + m + r ≤ n := by omega
  clear hx hn hb hs hd hz hr hrc lR e19 bR hQ hS hm hl hs0 hq0
  go_enter Tryd.func21, Tryd.ntmps21
  go_upto_region 13 with (first
    | (go_at_call 40; refine (CT _ HX.out).mono ?_; rintro e w1 ⟨A1, c1, rfl, hc1, ho1, hb1⟩; have HB1 := bgo (bal brf _) hb1; have HXX := Lib.hid ((HXX.out.below hb1).below (bal brf (.cells #[.int .u64 ((paE xs : Nat) : Int), .int .u64 ((paO xs : Nat) : Int), .slice A1 m c1] 28))); have HO1 := Lib.hid (ho1.alloc (.cells #[.int .u64 ((paE xs : Nat) : Int), .int .u64 ((paO xs : Nat) : Int), .slice A1 m c1] 28)); have HOUT := Lib.hid ((HOUT.out.below hb1).below (bal brf (.cells #[.int .u64 ((paE xs : Nat) : Int), .int .u64 ((paO xs : Nat) : Int), .slice A1 m c1] 28))); have HSZ := Lib.hid hb1.size; clear ho1)
    | (go_at_call 41; first
    | ((with_reducible refine (CG1 _ HXX.out).mono ?_); rintro e w2 ⟨rfl, rfl⟩)
    | ((with_reducible refine (CG2 _ HXX.out).mono ?_); rintro e w2 ⟨rfl, rfl⟩)))
  iterate 4 go_step
  refine store8 rfl _ _ rfl w.heap.size #[.int .i64 0, .int .i64 0, .int .u64 0, .int .u64 0, .slice none 0 0, .int .i64 0, .int .i64 0, .slice none 0 0] rfl rfl HOUT.out rfl (by kernel_rfl) ?_
  intro W5 hT5
  have HT5 := Lib.hid hT5
  clear hT5
  go_wp2_with fail
  refine bodyPost_ret (v := .tuple #[.agg #[.int .i64 0, .int .i64 0, .int .u64 0, .int .u64 0, .slice none 0 0, .int .i64 0, .int .i64 0, .slice none 0 0], .bool false]) ?_ rfl ⟨rfl, HT5.out.below w (Nat.le_refl _) (bal HB1 _)⟩
  exact results_cell_tmp (p := 2) (t := 3) (by rfl) _ _ w.heap.size 0 _ _ (by rfl) HT5.out.row Tryd.underlying30 rfl infoFr8

section
variable {B o n c : Nat} {xs : List Int}
theorem read_yes (w : World) (hn : xs.length = n) (hnc : n + 32 ≤ c) (hcm : c ≤ maxLen) (hx : Rd w (some ⟨B, o, none⟩) (nums .u8 xs)) (hb : Byt xs) (h : paOk xs) : Calls Tryd.prog 21 #[.slice (some ⟨B, o, none⟩) n c] w (IsRead w B xs) := by
  obtain ⟨h1, h2, h3, h4⟩ := h
  have hB : B < w.heap.size := by
    obtain ⟨b', o', he, hl, _⟩ := hx.at_ (by simp; omega)
    cases he
    exact hl
  exact read_ok B o n c xs w hn hnc hcm hx hb (by omega) h2 (by omega) (by rw [h4, hn]) hB
theorem read_no (w : World) (hn : xs.length = n) (hnc : n + 32 ≤ c) (hcm : c ≤ maxLen) (hx : Rd w (some ⟨B, o, none⟩) (nums .u8 xs)) (hb : Byt xs) (h : ¬ paOk xs) : Calls Tryd.prog 21 #[.slice (some ⟨B, o, none⟩) n c] w (NoRead w) := by
  by_cases h1 : n < 2
  · exact read_short _ n c w h1
  by_cases h2 : stOk (xs.drop 2)
  · by_cases h3 : n < 28 + paM xs
    · exact read_len B o n c xs w hn hnc hcm hx hb (by omega) h2 h3
    · exact read_size B o n c xs w hn hnc hcm hx hb (by omega) h2 (by omega) (fun h4 => h ⟨by omega, h2, by omega, by rw [h4, hn]⟩)
  · exact read_stamp B o n c xs w hn (by omega) hcm (by omega) (by omega) hx hb h2
end
end Go.Proofs.YtmkmndgdakpojaaDoor
