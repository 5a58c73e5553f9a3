/- append of elements of any size, nil let in; queues as they lie; contracts: Head and Pop of both answers. -/
import Derived.Test.YtfgkeodkakidpaaQb
namespace Go.Proofs.Ytfgkeodkakidpaa
open Go.RowKit
set_option linter.unusedSimpArgs false
set_option linter.unusedVariables false
set_option maxRecDepth 100000

theorem At5.alloc {w : World} {b : Nat} {v0 v1 v2 v3 v4 : Value} (h : At5 w b v0 v1 v2 v3 v4) (o : Obj) : At5 (w.alloc o) b v0 v1 v2 v3 v4 :=
  h.below ((Below.refl _ _).alloc (Nat.le_refl _) o) (cell_lt h.1.1)
/-- What append does to a row of one's own of elements of any size, run alone: nil let in. -/
theorem run_append_sz {P : Program} (w : World) (t ty : TypeId) (base : Nat) (e : TypeId) (i : TypeInfo) (z : Value) (size bytes : Nat) (ht : P.underlying t = some (.slice e)) (hi : P.info? e = some i) (hz : i.zero = some z)
    (hsize : i.size = size) (hby : i.bytes = bytes) (hzs : z.cells.size = size) (hsz : 0 < size)
    (v : Value) (k : Nat) (xs : List Value) (hown : w.ownsRow base e size v k xs)
    (A : Option Addr) (n c : Nat) (ys : List Value) (hn : ys.length = n * size) (hr : Rd w A ys) (hy : ∀ u ∈ ys, u.oneCell' = true)
    (h63 : k + n ≤ maxLen) (hbytes : (k + n) * bytes ≤ 140737488355328) (hbase : base ≤ w.heap.size) :
    ∃ v' w', (Builtin.append_ #[t, t] ty #[v, .slice A n c]).run P w = .ok v' w' ∧ w'.ownsRow base e size v' (k + n) (xs ++ ys) ∧ w.grownBy w' v.ownBlock := by
  have hsome : ∀ ad : Addr, A = some ad → (∀ j u, ys[j]? = some u → w.cell? (ad.add j) = some u) → ∃ v' w', (Builtin.append_ #[t, t] ty #[v, .slice A n c]).run P w = .ok v' w' ∧ w'.ownsRow base e size v' (k + n) (xs ++ ys) ∧ w.grownBy w' v.ownBlock := by
    intro ad hA hc
    subst hA
    obtain ⟨v', w', h1, h2, h3, _⟩ := run_append_own (P := P) (w := w) base t ty e i z size bytes ht hi hz hsize hby hzs hsz v k xs hown ad n c ys hn hc hy h63 hbytes hbase
    exact ⟨v', w', h1, h2, h3⟩
  cases A with
  | some ad =>
    rcases Nat.eq_zero_or_pos ys.length with h0 | h0
    · have : ys = [] := List.eq_nil_of_length_eq_zero h0
      subst this
      exact hsome ad rfl (fun j u hu => by simp at hu)
    · obtain ⟨b, off, he, hlt, hc⟩ := hr.at_ h0
      cases he
      exact hsome _ rfl (fun j u hu => by rw [addr_off]; exact hc j u hu)
  | none =>
    have h0 : ys = [] := by
      rcases hr with h | ⟨_, _, h, _⟩
      · exact h
      · cases h
    subst h0
    have h0 : n = 0 := by
      rcases Nat.eq_zero_or_pos n with h | h
      · exact h
      · have := Nat.mul_pos h hsz
        simp at hn
        omega
    subst h0
    exact ⟨v, w, append_none' (P := P) w t ty e i ht hi base size c v k xs hown, by simpa using hown, World.grownBy.refl _ _⟩

theorem append_sz {P : Program} {ops : Array Oper} {rest : List Oper} {o : Oper} {a : Act} {w : World} {Q : Exit → Act → World → Prop} (hgd : o.guard = none) (s x : Operand) (t : TypeId)
    (ho : o.op = .call { callee := .builtin .append, args := #[s, x], argTypes := #[t, t] })
    (base : Nat) (e : TypeId) (i : TypeInfo) (z : Value) (size bytes : Nat) (ht : P.underlying t = some (.slice e)) (hi : P.info? e = some i) (hz : i.zero = some z)
    (hsize : i.size = size) (hby : i.bytes = bytes) (hzs : z.cells.size = size) (hsz : 0 < size)
    (v : Value) (k : Nat) (xs : List Value) (hs : a.eval s = v) (hown : w.ownsRow base e size v k xs)
    (A : Option Addr) (n c : Nat) (ys : List Value) (hx : a.eval x = .slice A n c) (hn : ys.length = n * size) (hr : Rd w A ys) (hy : ∀ u ∈ ys, u.oneCell' = true)
    (h63 : k + n ≤ maxLen) (hbytes : (k + n) * bytes ≤ 140737488355328) (hbase : base ≤ w.heap.size)
    (h : ∀ v' w', w'.ownsRow base e size v' (k + n) (xs ++ ys) → w.grownBy w' v.ownBlock → wpList P ops Q rest (a.put o.dst v') w') : wpList P ops Q (o :: rest) a w := by
  refine wpList_plain hgd fun K hK => ?_
  obtain ⟨v', w', hrun, h2, h3⟩ := run_append_sz (P := P) w t o.type base e i z size bytes ht hi hz hsize hby hzs hsz v k xs hown A n c ys hn hr hy h63 hbytes hbase
  unfold Oper.wp execOp
  simp only [ho, resolve, invoke, builtin, Sem.run_bind, Sem.run_pure, Result.andThen_ok, List.map_toArray, List.map_cons, List.map_nil, hs, hx, hrun]
  exact hK _ _ (h v' w' h2 h3)

/-- The same, as one step of a region that draws. -/
theorem step_append_sz {P : Program} {ops : Array Oper} {o : Oper} {a : Act} {w : World} {K : Act → World → Prop} {Q : Exit → Act → World → Prop} {E : Prop} (hgd : o.guard = none) (s x : Operand) (t : TypeId)
    (ho : o.op = .call { callee := .builtin .append, args := #[s, x], argTypes := #[t, t] })
    (base : Nat) (e : TypeId) (i : TypeInfo) (z : Value) (size bytes : Nat) (ht : P.underlying t = some (.slice e)) (hi : P.info? e = some i) (hz : i.zero = some z)
    (hsize : i.size = size) (hby : i.bytes = bytes) (hzs : z.cells.size = size) (hsz : 0 < size)
    (v : Value) (k : Nat) (xs : List Value) (hs : a.eval s = v) (hown : w.ownsRow base e size v k xs)
    (A : Option Addr) (n c : Nat) (ys : List Value) (hx : a.eval x = .slice A n c) (hn : ys.length = n * size) (hr : Rd w A ys) (hy : ∀ u ∈ ys, u.oneCell' = true)
    (h63 : k + n ≤ maxLen) (hbytes : (k + n) * bytes ≤ 140737488355328) (hbase : base ≤ w.heap.size)
    (h : ∀ v' w', w'.ownsRow base e size v' (k + n) (xs ++ ys) → w.grownBy w' v.ownBlock → K (a.put o.dst v') w') :
    if Region.wanted o (yielded ops a.tmps) = true then Oper.wp P o a w K Q else E := by
  rw [if_pos (by simp [Region.wanted, hgd])]
  obtain ⟨v', w', hrun, h2, h3⟩ := run_append_sz (P := P) w t o.type base e i z size bytes ht hi hz hsize hby hzs hsz v k xs hown A n c ys hn hr hy h63 hbytes hbase
  unfold Oper.wp execOp
  simp only [ho, resolve, invoke, builtin, Sem.run_bind, Sem.run_pure, Result.andThen_ok, List.map_toArray, List.map_cons, List.map_nil, hs, hx, hrun]
  exact h v' w' h2 h3

/-- A slice of letters, as it lies. -/
def QAt (w : World) (A : Option Addr) (n c : Nat) (ps : List (Ltr × Value)) : Prop := ps.length = n ∧ n ≤ c ∧ c ≤ maxLen ∧ LRow w A ps
theorem QAt.below {w w' : World} {A : Option Addr} {n c : Nat} {ps : List (Ltr × Value)} (h : QAt w A n c ps) (hb : Below w.heap.size w w') : QAt w' A n c ps := ⟨h.1, h.2.1, h.2.2.1, h.2.2.2.below hb⟩
/-- Letters' texts are bytes, and not longer than what may come in. -/
def TxtOk (ls : List Ltr) : Prop := ∀ l ∈ ls, Byt (txt l) ∧ (txt l).length ≤ 140737488351232
theorem TxtOk.of {ps : List (Ltr × Value)} (h : TxtOk (ps.map (·.1))) : ∀ p ∈ ps, (txt p.1).length ≤ 140737488351232 := fun p hp => (h p.1 (List.mem_map.2 ⟨p, hp, rfl⟩)).2

abbrev lv (l : Ltr) (v : Value) : Value := .agg #[.bool l.1, .int .i64 l.2.1, .int .i64 l.2.2.1, .int .u64 l.2.2.2.1, v]
/-- The first letter, and that there is one. -/
def IsHead (w : World) (l : Ltr) (e : Ending) (w' : World) : Prop := ∃ A c, e = .returned (.tuple #[lv l (.slice A (txt l).length c), .bool true]) ∧ (txt l).length ≤ c ∧ c ≤ maxLen ∧ Rd w' A (nums .u8 (txt l)) ∧ Below w.heap.size w w'
/-- A queue with these letters, and something beside it. -/
def IsQ (w : World) (nx : Int) (ls : List Ltr) (k : Value) (e : Ending) (w' : World) : Prop :=
  ∃ A n c qs, e = .returned (.tuple #[.agg #[.int .u64 nx, .slice A n c], k]) ∧ qs.map (·.1) = ls ∧ QAt w' A n c qs ∧ Below w.heap.size w w'

theorem own_keepB {w w' : World} {base : Nat} {e : TypeId} {s n : Nat} {v : Value} {xs : List Value} (h : w.ownsRow base e s v n xs) (hb : Below w.heap.size w w') : w'.ownsRow base e s v n xs := by
  refine ⟨h.1, ?_⟩
  rcases h.2 with h1 | ⟨g, cap, cur, h1, hbg, hh, hc⟩
  · exact .inl h1
  · exact .inr ⟨g, cap, cur, h1, hbg, (hb.block g (Array.getElem?_eq_some_iff.1 hh).1).trans hh, hc⟩
theorem OwnTexts.keepB {w w' : World} {base : Nat} {ps : List (Ltr × Value)} (h : OwnTexts w base ps) (hb : Below w.heap.size w w') : OwnTexts w' base ps := fun p hp => own_keepB (h p hp) hb

/-- The letters lie in rows of one's own. -/
def QOwn (w : World) (base : Nat) (A : Option Addr) (n c : Nat) (qs : List (Ltr × Value)) : Prop := w.ownsRow base 36 5 (.slice A n c) n (flat qs) ∧ OwnTexts w base qs
theorem QOwn.at_ {w : World} {base n c : Nat} {A : Option Addr} {qs : List (Ltr × Value)} (h : QOwn w base A n c qs) : QAt w A n c qs := by
  have hl : qs.length = n := by
    have := h.1.1
    rw [flat_len] at this
    omega
  exact ⟨hl, (own_capN h.1).1, (own_capN h.1).2, LRow.of_own h.1 h.2⟩
theorem QOwn.set {w : World} {base n c : Nat} {A : Option Addr} {qs : List (Ltr × Value)} {a : Addr} {u : Value} (h : QOwn w base A n c qs) (hb : a.block < base) : QOwn (w.setCell a u) base A n c qs := ⟨own_setCell h.1 hb, fun p hp => own_setCell (h.2 p hp) hb⟩
/-- A queue with these letters, in rows of one's own, and something beside it. -/
def IsQO (w : World) (nx : Int) (ls : List Ltr) (k : Value) (e : Ending) (w' : World) : Prop :=
  ∃ A n c qs, e = .returned (.tuple #[.agg #[.int .u64 nx, .slice A n c], k]) ∧ qs.map (·.1) = ls ∧ QOwn w' w.heap.size A n c qs ∧ Below w.heap.size w w'
theorem IsQO.isQ {w : World} {nx : Int} {ls : List Ltr} {k : Value} {e : Ending} {w' : World} (h : IsQO w nx ls k e w') : IsQ w nx ls k e w' := by
  obtain ⟨A, n, c, qs, h1, h2, h3, h4⟩ := h
  exact ⟨A, n, c, qs, h1, h2, h3.at_, h4⟩
theorem QOwn.keepB {w w' : World} {base n c : Nat} {A : Option Addr} {qs : List (Ltr × Value)} (h : QOwn w base A n c qs) (hb : Below w.heap.size w w') : QOwn w' base A n c qs := ⟨own_keepB h.1 hb, h.2.keepB hb⟩
theorem head_none (nx : Int) (A : Option Addr) (c : Nat) (w : World) :
    Calls Try.prog 13 #[.agg #[.int .u64 nx, .slice A 0 c]] w fun e w' => e = .returned (.tuple #[.agg #[.bool false, .int .i64 0, .int .i64 0, .int .u64 0, .slice none 0 0], .bool false]) ∧ Below w.heap.size w w' := by
  go_enter Try.func13, Try.ntmps13
  go_wp2_with fail
  exact bodyPost_ret (v := .tuple #[.agg #[.bool false, .int .i64 0, .int .i64 0, .int .u64 0, .slice none 0 0], .bool false]) (by simp [results, Try.results13, go_sem]) rfl ⟨rfl, bal (bal brf _) _⟩
theorem rhead_none (nx : Int) (A : Option Addr) (c : Nat) (w : World) :
    Calls Try.prog 14 #[.agg #[.int .u64 nx, .slice A 0 c]] w fun e w' => e = .returned (.tuple #[.agg #[.bool false, .int .i64 0, .int .i64 0, .int .u64 0, .slice none 0 0], .bool false]) ∧ Below w.heap.size w w' := by
  go_enter Try.func14, Try.ntmps14
  go_wp2_with fail
  exact bodyPost_ret (v := .tuple #[.agg #[.bool false, .int .i64 0, .int .i64 0, .int .u64 0, .slice none 0 0], .bool false]) (by simp [results, Try.results14, go_sem]) rfl ⟨rfl, bal (bal brf _) _⟩

set_option maxHeartbeats 1000000 in
theorem rhead_some (nx : Int) (A : Option Addr) (n c : Nat) (l : Ltr) (v : Value) (ps : List (Ltr × Value)) (w : World) (hq : QAt w A n c ((l, v) :: ps)) :
    Calls Try.prog 14 #[.agg #[.int .u64 nx, .slice A n c]] w (IsHead w l) := by
  obtain ⟨hn, hc, hm, hx⟩ := hq
  have h0 : 0 < n := by rw [← hn]; simp
  have h1 : ((n : Int) == 0) = false := by simp; omega
  obtain ⟨b, off, rfl, hlb, ⟨q0, q1, q2, q3, q4⟩, ⟨E1, c1, rfl, m1, m2, hr⟩⟩ := hx.at_ (k := 0) (l := l) (v := v) rfl
  have HR := Lib.hid hr
  have HM := Lib.hid m2
  clear hn hx hr m2
  simp only [Nat.zero_mul, Nat.add_zero] at q0 q1 q2 q3 q4
  go_enter Try.func14, Try.ntmps14
  go_wp2_with fail
  have HB : Hid (Below w.heap.size w ((w.alloc (.cells #[.int .u64 nx, .slice (some ⟨b, off, none⟩) n c] 28)).alloc (.cells #[.bool l.1, .int .i64 l.2.1, .int .i64 l.2.2.1, .int .u64 l.2.2.2.1, .slice E1 (txt l).length c1] 36))) := Lib.hid (bal (bal brf _) _)
  refine bodyPost_ret (v := .tuple #[lv l (.slice E1 (txt l).length c1), .bool true]) (by simp [results, Try.results14, go_sem]) rfl ⟨E1, c1, rfl, m1, HM.out, HR.out.below HB.out, HB.out⟩

set_option maxHeartbeats 1000000 in
theorem head_some (nx : Int) (A : Option Addr) (n c : Nat) (l : Ltr) (v : Value) (ps : List (Ltr × Value)) (w : World) (hq : QAt w A n c ((l, v) :: ps)) (ht : (txt l).length ≤ 140737488351232) :
    Calls Try.prog 13 #[.agg #[.int .u64 nx, .slice A n c]] w (IsHead w l) := by
  obtain ⟨hn, hc, hm, hx⟩ := hq
  have h0 : 0 < n := by rw [← hn]; simp
  have h1 : ((n : Int) == 0) = false := by simp; omega
  obtain ⟨b, off, rfl, hlb, ⟨q0, q1, q2, q3, q4⟩, ⟨E1, c1, rfl, m1, m2, hr⟩⟩ := hx.at_ (k := 0) (l := l) (v := v) rfl
  have HR := Lib.hid hr
  have HM := Lib.hid m2
  have HT := Lib.hid ht
  clear hn hx hr m2 ht
  simp only [Nat.zero_mul, Nat.add_zero] at q0 q1 q2 q3 q4
  have hA5 := (At5.new (w.alloc (.cells #[.int .u64 nx, .slice (some ⟨b, off, none⟩) n c] 28)) (.bool false) (.int .i64 0) (.int .i64 0) (.int .u64 0) (.slice none 0 0) 36).alloc (.cells #[.bool l.1, .int .i64 l.2.1, .int .i64 l.2.2.1, .int .u64 l.2.2.2.1, .slice E1 (txt l).length c1] 36)
  have hL5 := At5.new ((w.alloc (.cells #[.int .u64 nx, .slice (some ⟨b, off, none⟩) n c] 28)).alloc (.cells #[.bool false, .int .i64 0, .int .i64 0, .int .u64 0, .slice none 0 0] 36)) (.bool l.1) (.int .i64 l.2.1) (.int .i64 l.2.2.1) (.int .u64 l.2.2.2.1) (.slice E1 (txt l).length c1) 36
  simp only [World.size_alloc] at hA5 hL5
  have HA5 := Lib.hid hA5
  have HL5 := Lib.hid hL5
  clear hA5 hL5
  go_enter Try.func13, Try.ntmps13
  go_wp2_with (go_at_call 24; go_must (refine (cloneW_any E1 _ c1 (txt l) _ rfl HT.out (HR.out.below (bal (bal (bal brf _) _) _))).mono ?_; rintro e w5 ⟨v5, rfl, hown5, hg5⟩; obtain ⟨E5, c5, rfl⟩ := own_slice hown5; have hb5 := (Below.refl (w.heap.size + 1 + 1 + 1) _).grown hg5 (by simp) (fun k e => by cases e); have HB5 := Lib.hid ((bal (bal (bal brf _) _) _ : Below w.heap.size w _).trans (hb5.mono (by omega))); obtain ⟨⟨p0, p1, p2, p3, p4⟩, g0, g1, g2, g3, g4⟩ := HL5.out.below hb5 (by omega); obtain ⟨⟨a0, a1, a2, a3, a4⟩, f0, f1, f2, f3, f4⟩ := HA5.out.below hb5 (by omega); have HC := Lib.hid (own_cap hown5); have HO5 := Lib.hid (own_mono (b' := w.heap.size + 3) hown5 (by simp)); clear hown5 hg5 hb5))
  refine bodyPost_ret (v := .tuple #[lv l (.slice E5 (txt l).length c5), .bool true]) (by simp [results, Try.results13, go_sem, a0, a1, a2, a3, a4, f0, f1, f2, f3, f4, p0, p1, p2, p3, p4, g0, g1, g2, g3, g4]) rfl ⟨E5, c5, rfl, HC.out.1, HC.out.2, ?_, ?_⟩
  · refine Rd.of_own (base := w.heap.size + 3) (e := 5) (n := (txt l).length) (c := c5) ?_
    iterate 6 refine own_setCell ?_ (by simp)
    exact HO5.out
  · iterate 6 refine Below.setCell ?_ (by simp; try omega) _
    exact HB5.out
end Go.Proofs.Ytfgkeodkakidpaa
