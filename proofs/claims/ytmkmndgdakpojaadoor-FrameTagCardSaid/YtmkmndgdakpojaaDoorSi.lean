/- What is no block; the reference's padding, bytes and hash. -/
import Derived.Test.YtmkmndgdakpojaaDoorSd
import Derived.Test.YtmkmndgdakpojaaDoorSh0
namespace Go.Proofs.YtmkmndgdakpojaaDoor
open Go.RowKit
set_option linter.unusedSimpArgs false
set_option linter.unusedVariables false
set_option maxRecDepth 100000

theorem wordB_len (x : Int) : (wordB x).length = 4 := rfl
theorem bytesL_len (l : List Int) : (bytesL l).length = 4 * l.length := by
  unfold bytesL
  induction l with
  | nil => rfl
  | cons a r ih => simp [List.flatMap_cons, wordB_len] at ih ⊢; omega
theorem sumL_len (xs : List Int) : (sumL xs).length = 32 := by
  unfold sumL
  rw [bytesL_len]
  unfold hashL
  rw [foldB_len]

def IsNoBlk (w : World) (e : Ending) (w' : World) : Prop := e = .returned (.tuple #[.agg #[.int .u32 0, .int .u32 0, .int .u32 0, .int .u32 0, .int .u32 0, .int .u32 0, .int .u32 0, .int .u32 0], .int .i64 1]) ∧ Below w.heap.size w w'
theorem block_short (A : Option Addr) (n c : Nat) (h0 h1 h2 h3 h4 h5 h6 h7 : Int) (w : World) (hn : n ≠ 64) :
    Calls Tryd.prog 54 #[.agg #[.int .u32 h0, .int .u32 h1, .int .u32 h2, .int .u32 h3, .int .u32 h4, .int .u32 h5, .int .u32 h6, .int .u32 h7], .slice A n c] w (IsNoBlk w) := by
  have hn' : ¬ ((n : Int) = 64) := by omega
  go_enter Tryd.func54, Tryd.ntmps54
  go_wp2_with fail
  refine bodyPost_ret (v := .tuple #[.agg #[.int .u32 0, .int .u32 0, .int .u32 0, .int .u32 0, .int .u32 0, .int .u32 0, .int .u32 0, .int .u32 0], .int .i64 1]) ?_ rfl ⟨rfl, bal (bal brf _) _⟩
  simp [results, Tryd.results54, go_sem]
set_option maxRecDepth 100000 in
theorem rblock_short (A : Option Addr) (n c : Nat) (h0 h1 h2 h3 h4 h5 h6 h7 : Int) (w : World) (hn : n ≠ 64) :
    Calls Tryd.prog 57 #[.agg #[.int .u32 h0, .int .u32 h1, .int .u32 h2, .int .u32 h3, .int .u32 h4, .int .u32 h5, .int .u32 h6, .int .u32 h7], .slice A n c] w (IsNoBlk w) := by
  have hn' : ¬ ((n : Int) = 64) := by omega
  go_enter Tryd.func57, Tryd.ntmps57
  go_wp2_with fail
  refine bodyPost_ret (v := .tuple #[.agg #[.int .u32 0, .int .u32 0, .int .u32 0, .int .u32 0, .int .u32 0, .int .u32 0, .int .u32 0, .int .u32 0], .int .i64 1]) ?_ rfl ⟨rfl, bal (bal brf _) _⟩
  simp [results, Tryd.results57, go_sem]

theorem isBytes_of_own {w wr : World} {A : Option Addr} {c n : Nat} {ys : List Int} (hown : wr.ownsRow w.heap.size 5 1 (.slice A n c) n (nums .u8 ys)) (hn : n = ys.length) (h0 : 0 < n) (hb : Below w.heap.size w wr) : IsBytes w ys (.returned (.slice A n c)) wr := by
  obtain ⟨g, cap, he, hg, hlt⟩ := hown.form h0
  simp only [Value.slice.injEq] at he
  obtain ⟨rfl, _, rfl⟩ := he
  subst hn
  have hc : ys.length ≤ c := by
    rcases hown.2 with ⟨h1, _⟩ | ⟨_, _, _, h1, _, _, h2, _⟩
    · cases h1
    · simp only [Value.slice.injEq] at h1
      rw [h1.2.2]; exact h2
  exact ⟨g, c, rfl, hc, hg, Rd.of_own hown, hb⟩

/-- A row of its own that reads as bytes, and may be appended to. -/
def IsBytesO (w : World) (ys : List Int) (e : Ending) (w' : World) : Prop :=
  ∃ B c, e = .returned (.slice (some ⟨B, 0, none⟩) ys.length c) ∧ w'.ownsRow w.heap.size 5 1 (.slice (some ⟨B, 0, none⟩) ys.length c) ys.length (nums .u8 ys) ∧ Below w.heap.size w w'
theorem isBytesO_of_own {w wr : World} {A : Option Addr} {c n : Nat} {ys : List Int} (hown : wr.ownsRow w.heap.size 5 1 (.slice A n c) n (nums .u8 ys)) (hn : n = ys.length) (h0 : 0 < n) (hb : Below w.heap.size w wr) : IsBytesO w ys (.returned (.slice A n c)) wr := by
  obtain ⟨g, cap, he, hg, hlt⟩ := hown.form h0
  have he2 := he
  simp only [Value.slice.injEq] at he
  obtain ⟨rfl, _, rfl⟩ := he
  subst hn
  exact ⟨g, c, rfl, hown, hb⟩
theorem IsBytesO.bytes {w : World} {ys : List Int} {e : Ending} {w' : World} (h0 : 0 < ys.length) (h : IsBytesO w ys e w') : IsBytes w ys e w' := by
  obtain ⟨B, c, rfl, hown, hb⟩ := h
  exact isBytes_of_own hown rfl h0 hb
theorem own_base {w : World} {b base : Nat} {e : TypeId} {s n : Nat} {v : Value} {xs : List Value} (h : w.ownsRow base e s v n xs) (hb : b ≤ base) : w.ownsRow b e s v n xs := by
  refine ⟨h.1, ?_⟩
  rcases h.2 with h1 | ⟨g, cap, cur, h1, h2, hh, hc⟩
  · exact .inl h1
  · exact .inr ⟨g, cap, cur, h1, Nat.le_trans hb h2, hh, hc⟩

theorem append_none {P : Program} (w : World) (t ty e : TypeId) (i : TypeInfo) (ht : P.underlying t = some (.slice e)) (hi : P.info? e = some i) (base size c : Nat)
    (v : Value) (n : Nat) (xs : List Value) (hown : w.ownsRow base e size v n xs) :
    (Builtin.append_ #[t, t] ty #[v, .slice none 0 c]).run P w = .ok v w := by
  rcases hown.2 with ⟨rfl, rfl⟩ | ⟨g, cap, cur, rfl, _, _, hnc, _⟩
  · simp [Builtin.append_, run_underlying ht, sizeOf, typeInfo, hi, Builtin.lenOf, Builtin.firstCells]
  · simp [Builtin.append_, run_underlying ht, sizeOf, typeInfo, hi, Builtin.lenOf, Builtin.firstCells, hnc, storeCells]

/-- Bytes, appended to a row of one's own: nil let in. -/
theorem append_rd {ops : Array Oper} {rest : List Oper} {o : Oper} {a : Act} {w : World} {Q : Exit → Act → World → Prop} (hgd : o.guard = none) (s x : Operand)
    (ho : o.op = .call { callee := .builtin .append, args := #[s, x], argTypes := #[22, 22] }) (base : Nat)
    (v : Value) (k : Nat) (xs : List Value) (hs : a.eval s = v) (hown : w.ownsRow base 5 1 v k xs)
    (A : Option Addr) (n c : Nat) (ys : List Int) (hx : a.eval x = .slice A n c) (hn : ys.length = n) (hr : Rd w A (nums .u8 ys)) (hb1 : k + n ≤ 100000) (hbase : base ≤ w.heap.size)
    (h : ∀ v' w', w'.ownsRow base 5 1 v' (k + n) (xs ++ nums .u8 ys) → w.grownBy w' v.ownBlock → wpList Tryd.prog ops Q rest (a.put o.dst v') w') : wpList Tryd.prog ops Q (o :: rest) a w := by
  obtain ⟨i0, hi, hz0, hz1, hz2⟩ := info_parts infoByte
  have hsome : ∀ ad : Addr, A = some ad → (∀ j u, (nums .u8 ys)[j]? = some u → w.cell? (ad.add j) = some u) → wpList Tryd.prog ops Q (o :: rest) a w := by
    intro ad hA hc
    subst hA
    exact wpList_append_own _ hgd s x 22 ho base 5 i0 (.int .u8 0) 1 1 Tryd.underlying22 hi hz0 hz1 hz2 rfl (by decide) v k xs hs hown ad n c (nums .u8 ys) hx (by simp [hn]) hc
      (fun u hu => by obtain ⟨x, _, rfl⟩ := List.mem_map.1 hu; rfl) (by unfold maxLen; omega) (by omega) hbase (fun v' w' h1 h2 _ => h v' w' h1 h2)
  cases A with
  | some ad =>
    rcases Nat.eq_zero_or_pos n with h0 | h0
    · have : ys = [] := List.eq_nil_of_length_eq_zero (by omega)
      subst this
      exact hsome ad rfl (fun j u hu => by simp at hu)
    · obtain ⟨b, off, he, hlt, hc⟩ := hr.at_ (by simp; omega)
      cases he
      exact hsome _ rfl (fun j u hu => by rw [add_off]; exact hc j u hu)
  | none =>
    have h0 : ys = [] := by
      rcases hr with h | ⟨_, _, h, _⟩
      · simpa using h
      · cases h
    subst h0
    have h0 : n = 0 := by simpa using hn.symm
    subst h0
    refine wpList_plain hgd fun K hK => ?_
    have hr := append_none (P := Tryd.prog) w 22 o.type 5 i0 Tryd.underlying22 hi base 1 c v k xs hown
    unfold Oper.wp execOp
    simp only [ho, resolve, invoke, builtin, Sem.run_bind, Sem.run_pure, Result.andThen_ok, List.map_toArray, List.map_cons, List.map_nil, hs, hx, hr]
    exact hK _ _ (h v w (by simpa using hown) (World.grownBy.refl _ _))

set_option maxRecDepth 100000 in
set_option maxHeartbeats 1000000 in
theorem rbytesO_any (v0 v1 v2 v3 v4 v5 v6 v7 : Int) (w : World) (hw : Words [v0, v1, v2, v3, v4, v5, v6, v7]) :
    Calls Tryd.prog 58 #[.agg #[.int .u32 v0, .int .u32 v1, .int .u32 v2, .int .u32 v3, .int .u32 v4, .int .u32 v5, .int .u32 v6, .int .u32 v7]] w (IsBytesO w (bytesL [v0, v1, v2, v3, v4, v5, v6, v7])) := by
  have HW := Lib.hid hw
  clear hw
  obtain ⟨i0, hi, hz0, hz1, hz2⟩ := info_parts infoByte
  go_enter Tryd.func58, Tryd.ntmps58
  go_wp2_with fail
  go_loopw [3, 5, 7] (fun s3 _ i wr => ∃ k : Nat, k ≤ 8 ∧ i = .int .i64 k ∧ (∃ A c, s3 = .slice A (4 * k) c) ∧ wr.ownsRow w.heap.size 5 1 s3 (4 * k) (nums .u8 (bytesL ([v0, v1, v2, v3, v4, v5, v6, v7].take k))) ∧ Below w.heap.size w wr) (fun _ _ i _ => 8 - (intOf i).toNat)
  case atStart =>
    exact ⟨0, Nat.zero_le _, rfl, ⟨_, _, rfl⟩, ⟨rfl, .inl ⟨rfl, rfl⟩⟩, bal brf _⟩
  case round =>
    obtain ⟨k, hk, rfl, ⟨A3, c3, rfl⟩, hown, hb6⟩ := hrel
    have r0 : (0 : Int) ≤ (k : Int) := by omega
    have hzz := hb6.size
    by_cases hlt : k < 8
    · have r1 : (k : Int) < 8 := by omega
      have hidx := index8 v0 v1 v2 v3 v4 v5 v6 v7 wr k hlt
      obtain ⟨x, hx⟩ : ∃ x, x = [v0, v1, v2, v3, v4, v5, v6, v7].getD k 0 := ⟨_, rfl⟩
      rw [← hx] at hidx
      have HX1 := Lib.hid hx
      obtain ⟨x0, x1⟩ : 0 ≤ x ∧ x < 4294967296 := by
        rw [hx]
        exact HW.out _ (by simp [List.getD, List.getElem?_eq_getElem (show k < [v0, v1, v2, v3, v4, v5, v6, v7].length from hlt), -List.mem_cons, List.getElem_mem])
      clear hx
      go_wp2_with (at_builtin; refine wpList_append_own _ rfl _ _ 22 rfl w.heap.size 5 i0 (.int .u8 0) 1 1 Tryd.underlying22 hi hz0 hz1 hz2 rfl (by decide) _ _ _ rfl (hown.alloc _) ⟨wr.heap.size, 0, none⟩ 4 4 [.int .u8 (x / 16777216), .int .u8 (x / 65536 % 256), .int .u8 (x / 256 % 256), .int .u8 (x % 256)] rfl rfl (four_there _ _ _ _ _ _) ?c2 (by unfold maxLen; omega) (by omega) (by rw [World.size_alloc]; omega) ?_; rotate_left; intro v6 w6 hown6 hgrow6 _; obtain ⟨A6, c6, rfl⟩ := own_slice hown6)
      case c2 =>
        intro u hu
        simp at hu
        rcases hu with rfl | rfl | rfl | rfl <;> rfl
      refine ⟨⟨k + 1, by omega, by congr 1, ⟨A6, c6, by congr 1⟩, ?_, ?_⟩, by show 8 - ((k : Int) + 1).toNat < 8 - (k : Int).toNat; omega⟩
      · rw [word_take _ k x (by rw [HX1.out]; simp [List.getD, List.getElem?_eq_getElem (show k < [v0, v1, v2, v3, v4, v5, v6, v7].length from hlt)]), nums_app]
        exact hown6
      · exact keep_below hown hgrow6 hb6 hzz (Nat.le_refl _)
    · have r1 : (8 : Int) ≤ (k : Int) := by omega
      have hk8 : k = 8 := by omega
      have HK8 := Lib.hid hk8
      clear hk8
      go_wp2_with fail
      refine bodyPost_ret (results_tmp rfl _ _ _) rfl ?_
      have hkk := HK8.out
      subst hkk
      exact isBytesO_of_own (ys := bytesL [v0, v1, v2, v3, v4, v5, v6, v7]) hown rfl (by omega) hb6
theorem rbytes_any (v0 v1 v2 v3 v4 v5 v6 v7 : Int) (w : World) (hw : Words [v0, v1, v2, v3, v4, v5, v6, v7]) :
    Calls Tryd.prog 58 #[.agg #[.int .u32 v0, .int .u32 v1, .int .u32 v2, .int .u32 v3, .int .u32 v4, .int .u32 v5, .int .u32 v6, .int .u32 v7]] w (IsBytes w (bytesL [v0, v1, v2, v3, v4, v5, v6, v7])) :=
  (rbytesO_any v0 v1 v2 v3 v4 v5 v6 v7 w hw).mono fun e w' h => h.bytes (by simp [bytesL, wordB])
end Go.Proofs.YtmkmndgdakpojaaDoor
