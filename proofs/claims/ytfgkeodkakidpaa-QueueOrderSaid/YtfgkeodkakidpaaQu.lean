/- The law of letters that come out in the order in which they were put in. -/
import Derived.Test.YtfgkeodkakidpaaQt
namespace Go.Proofs.Ytfgkeodkakidpaa
open Go.RowKit Go.ChangeShapes Go.WideShapes Go.ChangeAt
set_option linter.unusedSimpArgs false
set_option linter.unusedVariables false
set_option maxRecDepth 100000

/-- The configuration's box, and the queue's. -/
abbrev CQA (x : World) (C K : Nat) (cl sz nx : Int) (v : Value) : Prop :=
  CfgA x C (.slice none 0 0) 0 0 cl sz 0 0 0 0 0 0 ∧ (x.cell? ⟨K, 0, none⟩ = some (.int .u64 nx) ∧ x.cell? ⟨K, 1, none⟩ = some v)
theorem cqa_of {x : World} {C K : Nat} {cl sz nx : Int} {v : Value} (h : CfgAt x C (.slice none 0 0) 0 0 cl sz 0 0 0 0 0 0) (h2 : At2 x K (.int .u64 nx) v) : CQA x C K cl sz nx v := ⟨h, h2.1, h2.2.1⟩
theorem cqa_alloc {x : World} {o : Obj} {C K : Nat} {cl sz nx : Int} {v : Value} (h : CQA x C K cl sz nx v) : CQA (x.alloc o) C K cl sz nx v := ⟨cfgA_alloc h.1, held2_alloc h.2⟩
theorem cqa_set {x : World} {P C K : Nat} {cl sz nx : Int} {v a b : Value} (h : CQA x C K cl sz nx v) (h1 : P ≠ C) (h2 : P ≠ K) : CQA ((x.setCell ⟨P, 0, none⟩ a).setCell ⟨P, 1, none⟩ b) C K cl sz nx v := ⟨cfgA_set2 h.1 h1, held2_set2 h.2 h2⟩
abbrev QLS (x : World) (B g j : Nat) (z : Int) (u v : Value) : Prop := x.cell? ⟨B, 3, none⟩ = some (.int .u64 z) ∧ x.cell? ⟨B, 4, none⟩ = some u ∧ x.cell? ⟨g, j, none⟩ = some v
/-- What stands behind Put. -/
def PUTS (wr x : World) (P : Nat) (nx : Int) (D : Option Addr) (m d : Nat) (qs : List (Ltr × Value)) (ls : List Ltr) : Prop :=
  Below wr.heap.size wr x ∧ (wr.heap.size ≤ P ∧ P < x.heap.size) ∧ At2 x P (.int .u64 nx) (.slice D m d) ∧ QOwn x wr.heap.size D m d qs ∧ qs.map (·.1) = ls
theorem QOwn.mono {w : World} {b b' n c : Nat} {A : Option Addr} {qs : List (Ltr × Value)} (h : QOwn w b A n c qs) (hb : b' ≤ b) : QOwn w b' A n c qs := ⟨own_mono h.1 hb, fun p hp => own_mono (h.2 p hp) hb⟩
theorem qown_grown {w w' : World} {o : Obj} {b n c : Nat} {A : Option Addr} {qs : List (Ltr × Value)} {row : Option Nat} (h : QOwn w b A n c qs) (hg : (w.alloc o).grownBy w' row) (h1 : ElemNot (w.alloc o) row 36) (h2 : ElemNot (w.alloc o) row 5) : QOwn w' b A n c qs :=
  ⟨own_keep (h.1.alloc _) hg h1, fun p hp => own_keep ((h.2 p hp).alloc _) hg h2⟩
theorem all64_snoc {L : List (List Int)} {x : List Int} (h : ∀ y ∈ L, Byt y ∧ y.length ≤ 64) (hb : Byt x) (hl : x.length ≤ 64) : ∀ y ∈ L ++ [x], Byt y ∧ y.length ≤ 64 := fun y hy => by
  rcases List.mem_append.1 hy with h1 | h1
  · exact h y h1
  · simp at h1; subst h1
    exact ⟨hb, hl⟩
theorem txt_snoc {ls : List Ltr} {f s : Int} {x : List Int} (h : TxtOk ls) (hb : Byt x) (hl : x.length ≤ 64) : TxtOk (ls ++ [(false, f, 0, s, x)]) := fun l hl' => by
  rcases List.mem_append.1 hl' with h1 | h1
  · exact h l h1
  · simp at h1; subst h1
    exact ⟨hb, by show x.length ≤ _; omega⟩
theorem key_snoc {ls : List Ltr} {f seq : Int} {x : List Int} {L : List (List Int)} {o p : Nat} (h : ls.map keyL = ords (seq + (o : Int)) (L.drop o)) (ho : o ≤ L.length) (hp : L.length = p) : (ls ++ [(false, f, 0, seq + (p : Int), x)]).map keyL = ords (seq + (o : Int)) ((L ++ [x]).drop o) := by
  rw [List.map_append, h, List.drop_append_of_le_length ho, ords_snoc, List.length_drop]
  have e : seq + (o : Int) + ((L.length - o : Nat) : Int) = seq + (p : Int) := by omega
  rw [e]
  rfl
theorem puts_new {wr x : World} {nx : Int} {D : Option Addr} {m d b : Nat} {qs : List (Ltr × Value)} {ls : List Ltr} (hb : Below wr.heap.size wr x) (hq : QOwn x b D m d qs) (hbb : wr.heap.size ≤ b) (hm : qs.map (·.1) = ls) : PUTS wr (x.alloc (.cells #[.int .u64 nx, .slice D m d] 28)) x.heap.size nx D m d qs ls :=
  ⟨bal hb _, ⟨hb.size, by simp⟩, At2.new _ _ _ _, ((hq.mono hbb).keepB (bal brf _)), hm⟩
theorem puts_set {wr x : World} {nx : Int} {P : Nat} {D : Option Addr} {m d b : Nat} {qs : List (Ltr × Value)} {ls : List Ltr} {u v : Value} (hb : Below wr.heap.size wr x) (hP : wr.heap.size ≤ P) (hk : At2 x P u v) (hq : QOwn x b D m d qs) (hbb : P < b) (hm : qs.map (·.1) = ls) :
    PUTS wr ((x.setCell ⟨P, 0, none⟩ (.int .u64 nx)).setCell ⟨P, 1, none⟩ (.slice D m d)) P nx D m d qs ls :=
  ⟨below_set2 hb hP, ⟨hP, by rw [size_setCell, size_setCell]; exact cell_lt hk.1⟩, hk.set2, ((hq.set hbb).set hbb).mono (by omega), hm⟩

section
variable (cl sz seq : Int) (AT : Option Addr) (nt ct : Nat) (vs : List Value) (Lt : List (List Int)) (AP : Option Addr) (np cp : Nat) (bs : List Bool) (w : World)
set_option maxHeartbeats 600000 in
theorem queueOrder_out (h : cl < 1 ∨ (8 : Int) < cl ∨ sz < 1 ∨ (64 : Int) < sz ∨ seq < 1 ∨ (60 : Int) < nt ∨ (60 : Int) < np) :
    Calls Try.prog 5 #[.int .i64 cl, .int .i64 sz, .int .i64 seq, .slice AT nt ct, .slice AP np cp] w (Yes w) := by
  by_cases c0 : cl < 1
  · clear h
    go_enter Try.func5, Try.ntmps5
    go_wp2_with (go_at_call 8; refine (live_any _).mono ?_; rintro e w1 ⟨rfl, hb⟩)
    go_ret
    exact ⟨rfl, hb⟩
  by_cases c1 : (8 : Int) < cl
  · clear h
    go_enter Try.func5, Try.ntmps5
    go_wp2_with (go_at_call 8; refine (live_any _).mono ?_; rintro e w1 ⟨rfl, hb⟩)
    go_ret
    exact ⟨rfl, hb⟩
  by_cases c2 : sz < 1
  · clear h
    go_enter Try.func5, Try.ntmps5
    go_wp2_with (go_at_call 8; refine (live_any _).mono ?_; rintro e w1 ⟨rfl, hb⟩)
    go_ret
    exact ⟨rfl, hb⟩
  by_cases c3 : (64 : Int) < sz
  · clear h
    go_enter Try.func5, Try.ntmps5
    go_wp2_with (go_at_call 8; refine (live_any _).mono ?_; rintro e w1 ⟨rfl, hb⟩)
    go_ret
    exact ⟨rfl, hb⟩
  by_cases c4 : seq < 1
  · clear h
    go_enter Try.func5, Try.ntmps5
    go_wp2_with (go_at_call 8; refine (live_any _).mono ?_; rintro e w1 ⟨rfl, hb⟩)
    go_ret
    exact ⟨rfl, hb⟩
  by_cases c5 : (60 : Int) < nt
  · clear h
    go_enter Try.func5, Try.ntmps5
    go_wp2_with (go_at_call 8; refine (live_any _).mono ?_; rintro e w1 ⟨rfl, hb⟩)
    go_ret
    exact ⟨rfl, hb⟩
  have c6 : (60 : Int) < np := by omega
  clear h
  go_enter Try.func5, Try.ntmps5
  go_wp2_with (go_at_call 8; refine (live_any _).mono ?_; rintro e w1 ⟨rfl, hb⟩)
  go_ret
  exact ⟨rfl, hb⟩

theorem ORD.head {w x : World} {C K B : Nat} {cl sz seq : Int} {I : Option Addr} {ci : Nat} {us : List Value} {L : List (List Int)} {o : Nat} {D : Option Addr} {m d : Nat} {qs : List (Ltr × Value)} (h : ORD w x C K B cl sz seq I ci us L o D m d qs) (ho : o < L.length) :
    ∃ l v qs', qs = (l, v) :: qs' ∧ l.2.2.2.1 = seq + (o : Int) ∧ txt l = L.getD o [] ∧ (qs'.map (·.1)).map keyL = ords (seq + (o : Int) + 1) (L.drop (o + 1)) := by
  have hk := h.2.2.2.2.2.2
  rw [drop_at ho] at hk
  obtain ⟨l, ls', he, h1, h2, h3⟩ := ords_cons hk
  obtain ⟨v, qs', rfl, h4⟩ := map_cons_of he
  exact ⟨l, v, qs', rfl, h1, h2, by rw [h4]; exact h3⟩
end
end Go.Proofs.Ytfgkeodkakidpaa
