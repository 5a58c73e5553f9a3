/- append as a step of a region that draws; three rows of bytes, one behind the other. -/
import Derived.Test.YtgclcpopibjocaaDoorTa
import Derived.Test.YtgclcpopibjocaaDoorMa
namespace Go.Proofs.YtgclcpopibjocaaDoor
open Go.RowKit
set_option linter.unusedSimpArgs false
set_option linter.unusedVariables false
set_option maxRecDepth 100000

theorem own_drew {w : World} {base : Nat} {e : TypeId} {s n : Nat} {v : Value} {xs : List Value} (h : w.ownsRow base e s v n xs) : w.drew.ownsRow base e s v n xs := h

/-- What append does to a row of one's own, run alone: nil let in. -/
theorem run_append_vs {P : Program} (w : World) (t ty : TypeId) (base : Nat) (e : TypeId) (i : TypeInfo) (z : Value) (bytes : Nat) (ht : P.underlying t = some (.slice e)) (hi : P.info? e = some i) (hz : i.zero = some z)
    (hsize : i.size = 1) (hby : i.bytes = bytes) (hzs : z.cells.size = 1)
    (v : Value) (k : Nat) (xs : List Value) (hown : w.ownsRow base e 1 v k xs)
    (A : Option Addr) (n c : Nat) (ys : List Value) (hn : ys.length = n) (hr : Rd w A ys) (hy : ∀ u ∈ ys, u.oneCell' = true)
    (h63 : k + n ≤ maxLen) (hbytes : (k + n) * bytes ≤ 140737488355328) (hbase : base ≤ w.heap.size) :
    ∃ v' w', (Builtin.append_ #[t, t] ty #[v, .slice A n c]).run P w = .ok v' w' ∧ w'.ownsRow base e 1 v' (k + n) (xs ++ ys) ∧ w.grownBy w' v.ownBlock := by
  have hsome : ∀ ad : Addr, A = some ad → (∀ j u, ys[j]? = some u → w.cell? (ad.add j) = some u) → ∃ v' w', (Builtin.append_ #[t, t] ty #[v, .slice A n c]).run P w = .ok v' w' ∧ w'.ownsRow base e 1 v' (k + n) (xs ++ ys) ∧ w.grownBy w' v.ownBlock := by
    intro ad hA hc
    subst hA
    obtain ⟨v', w', h1, h2, h3, _⟩ := run_append_own (P := P) (w := w) base t ty e i z 1 bytes ht hi hz hsize hby hzs (by decide) v k xs hown ad n c ys (by simp [hn]) hc hy h63 hbytes hbase
    exact ⟨v', w', h1, h2, h3⟩
  cases A with
  | some ad =>
    rcases Nat.eq_zero_or_pos n with h0 | h0
    · have : ys = [] := List.eq_nil_of_length_eq_zero (by omega)
      subst this
      exact hsome ad rfl (fun j u hu => by simp at hu)
    · obtain ⟨b, off, he, hlt, hc⟩ := hr.at_ (by omega)
      cases he
      exact hsome _ rfl (fun j u hu => by rw [addr_off]; exact hc j u hu)
  | none =>
    have h0 : ys = [] := by
      rcases hr with h | ⟨_, _, h, _⟩
      · exact h
      · cases h
    subst h0
    have h0 : n = 0 := by simpa using hn.symm
    subst h0
    exact ⟨v, w, append_none' (P := P) w t ty e i ht hi base 1 c v k xs hown, by simpa using hown, World.grownBy.refl _ _⟩

/-- append onto a row of one's own, as one step of a region that draws. -/
theorem step_append_vs {P : Program} {ops : Array Oper} {o : Oper} {a : Act} {w : World} {K : Act → World → Prop} {Q : Exit → Act → World → Prop} {E : Prop} (hgd : o.guard = none) (s x : Operand) (t : TypeId)
    (ho : o.op = .call { callee := .builtin .append, args := #[s, x], argTypes := #[t, t] })
    (base : Nat) (e : TypeId) (i : TypeInfo) (z : Value) (bytes : Nat) (ht : P.underlying t = some (.slice e)) (hi : P.info? e = some i) (hz : i.zero = some z)
    (hsize : i.size = 1) (hby : i.bytes = bytes) (hzs : z.cells.size = 1)
    (v : Value) (k : Nat) (xs : List Value) (hs : a.eval s = v) (hown : w.ownsRow base e 1 v k xs)
    (A : Option Addr) (n c : Nat) (ys : List Value) (hx : a.eval x = .slice A n c) (hn : ys.length = n) (hr : Rd w A ys) (hy : ∀ u ∈ ys, u.oneCell' = true)
    (h63 : k + n ≤ maxLen) (hbytes : (k + n) * bytes ≤ 140737488355328) (hbase : base ≤ w.heap.size)
    (h : ∀ v' w', w'.ownsRow base e 1 v' (k + n) (xs ++ ys) → w.grownBy w' v.ownBlock → K (a.put o.dst v') w') :
    if Region.wanted o (yielded ops a.tmps) = true then Oper.wp P o a w K Q else E := by
  rw [if_pos (by simp [Region.wanted, hgd])]
  obtain ⟨v', w', hrun, h2, h3⟩ := run_append_vs (P := P) w t o.type base e i z bytes ht hi hz hsize hby hzs v k xs hown A n c ys hn hr hy h63 hbytes hbase
  unfold Oper.wp execOp
  simp only [ho, resolve, invoke, builtin, Sem.run_bind, Sem.run_pure, Result.andThen_ok, List.map_toArray, List.map_cons, List.map_nil, hs, hx, hrun]
  exact h v' w' h2 h3

theorem new3_0 (w : World) (a b d : Value) (t : TypeId) : (w.alloc (.cells #[a, b, d] t)).cell? ⟨w.heap.size, 0, none⟩ = some a := by
  rw [World.cell?_alloc_at _ _ _ _ rfl]; rfl
theorem new3_1 (w : World) (a b d : Value) (t : TypeId) : (w.alloc (.cells #[a, b, d] t)).cell? ⟨w.heap.size, 1, none⟩ = some b := by
  rw [World.cell?_alloc_at _ _ _ _ rfl]; rfl
theorem new3_2 (w : World) (a b d : Value) (t : TypeId) : (w.alloc (.cells #[a, b, d] t)).cell? ⟨w.heap.size, 2, none⟩ = some d := by
  rw [World.cell?_alloc_at _ _ _ _ rfl]; rfl

set_option maxHeartbeats 1000000 in
/-- Three rows of bytes, one behind the other. -/
theorem concat3_any (P0 : Nat) (A B C : Option Addr) (n c m d l f : Nat) (xs ys zs : List Int) (w : World) (hp0 : w.cell? ⟨P0, 0, none⟩ = some (.slice A n c)) (hp1 : w.cell? ⟨P0, 1, none⟩ = some (.slice B m d)) (hp2 : w.cell? ⟨P0, 2, none⟩ = some (.slice C l f)) (hn : xs.length = n) (hm : ys.length = m) (hl : zs.length = l) (hx : Rd w A (nums .u8 xs)) (hy : Rd w B (nums .u8 ys)) (hz : Rd w C (nums .u8 zs)) (hb : n + m + l ≤ 20000) :
    Calls Tryd.prog 56 #[.slice (some ⟨P0, 0, none⟩) 3 3] w (IsOwn w (n + m + l) (xs ++ ys ++ zs)) := by
  have hP : P0 < w.heap.size := cell_lt hp0
  have HX := Lib.hid hx
  have HY := Lib.hid hy
  have HZ := Lib.hid hz
  have HN := Lib.hid hn
  have HM := Lib.hid hm
  have HL := Lib.hid hl
  clear hx hy hz hn hm hl
  have x1 : wrap64 (n : Int) = n := IntWalk.wrap64_in _ (by omega)
  have x2 : wrap64 ((n : Int) + m) = (n : Int) + m := IntWalk.wrap64_in _ (by omega)
  have x5 : wrap64 ((n : Int) + m + l) = (n : Int) + m + l := IntWalk.wrap64_in _ (by omega)
  have x3 : ¬ (n : Int) < 0 := by omega
  have x4 : ¬ (n : Int) + m < 0 := by omega
  have x6 : ¬ (n : Int) + m + l < 0 := by omega
  have CG := fun (W : World) => grow_nil (n + m + l) W (by omega)
  rw [Int.natCast_add, Int.natCast_add] at CG
  go_enter Tryd.func56, Tryd.ntmps56
  go_wp2_with fail
  refine wp_loop_rounds 4 ?_
  rw [rounds_succ]
  go_wp2_with fail
  rw [rounds_succ]
  go_wp2_with fail
  rw [rounds_succ]
  go_wp2_with fail
  rw [rounds_succ]
  go_wp2_with (go_at_call 75; go_must (refine (CG _).mono ?_; rintro e w1 ⟨v1, rfl, hown1, hb1⟩; have hq0 := (hb1.cell (p := ⟨P0, 0, none⟩) hP).trans hp0; have hq1 := (hb1.cell (p := ⟨P0, 1, none⟩) hP).trans hp1; have hq2 := (hb1.cell (p := ⟨P0, 2, none⟩) hP).trans hp2; have HX1 := Lib.hid (HX.out.below hb1)))
  refine wp_loop_rounds 4 ?_
  rw [rounds_succ]
  go_wp2_with (at_builtin; refine append_rd rfl _ _ rfl w.heap.size v1 0 [] rfl hown1 A n c xs rfl HN.out HX1.out (by omega) hb1.size ?_; intro v2 w2 hown2 hgrow2; rw [Nat.zero_add, List.nil_append] at hown2; have hb2 : Below w.heap.size w w2 := keep_below0 hown1 hgrow2 hb1 hb1.size (Nat.le_refl _); have hbx : Below w.heap.size w1 w2 := keep_below0 hown1 hgrow2 (Below.refl _ _) hb1.size (Nat.le_refl _); have hq3 := (hbx.cell (p := ⟨P0, 1, none⟩) hP).trans hq1; have hq4 := (hbx.cell (p := ⟨P0, 2, none⟩) hP).trans hq2; have HY2 := Lib.hid (HY.out.below hb2); clear hown1 hgrow2)
  rw [rounds_succ]
  go_wp2_with (at_builtin; refine append_rd rfl _ _ rfl w.heap.size v2 n (nums .u8 xs) rfl hown2 B m d ys rfl HM.out HY2.out (by omega) hb2.size ?_; intro v3 w3 hown3 hgrow3; have hb3 : Below w.heap.size w w3 := keep_below0 hown2 hgrow3 hb2 hb2.size (Nat.le_refl _); have hby : Below w.heap.size w2 w3 := keep_below0 hown2 hgrow3 (Below.refl _ _) hb2.size (Nat.le_refl _); have hq5 := (hby.cell (p := ⟨P0, 2, none⟩) hP).trans hq4; have HZ3 := Lib.hid (HZ.out.below hb3); clear hown2 hgrow3)
  rw [rounds_succ]
  go_wp2_with (at_builtin; refine append_rd rfl _ _ rfl w.heap.size v3 (n + m) (nums .u8 xs ++ nums .u8 ys) rfl hown3 C l f zs rfl HL.out HZ3.out (by omega) hb3.size ?_; intro v4 w4 hown4 hgrow4; have hb4 : Below w.heap.size w w4 := keep_below0 hown3 hgrow4 hb3 hb3.size (Nat.le_refl _); clear hown3 hgrow4)
  rw [rounds_succ]
  go_wp2_with fail
  go_ret
  obtain ⟨A3, cp3, rfl⟩ := own_slice hown4
  have hl : (xs ++ ys ++ zs).length = n + m + l := by rw [List.length_append, List.length_append, HN.out, HM.out, HL.out]
  rw [← List.map_append, ← List.map_append] at hown4
  exact ⟨A3, cp3, rfl, hl, hown4, hb4⟩
end Go.Proofs.YtgclcpopibjocaaDoor
