/- Contracts of the program's and the document's Put, Head and Pop, side by side. -/
import Derived.Test.YtfgkeodkakidpaaQn
namespace Go.Proofs.Ytfgkeodkakidpaa
open Go.RowKit
set_option linter.unusedSimpArgs false
set_option linter.unusedVariables false
set_option maxRecDepth 100000

section
variable (D : Option Addr) (dn dc : Nat) (ch st cl qu clo lo ag wi ro se : Int) (nx fr tu : Int) (A : Option Addr) (n c : Nat) (ps : List (Ltr × Value)) (E : Option Addr) (m mc : Nat) (xs : List Int)
/-- What both tell of a letter that is put in. -/
def PutBoth (nx' : Int) (ls' : List Ltr) (k : Int) : Prop :=
  (∀ w, QAt w A n c ps → Rd w E (nums .u8 xs) → Calls Try.prog 10 #[cfgV (.slice D dn dc) ch st cl qu clo lo ag wi ro se, .agg #[.int .u64 nx, .slice A n c], .int .i64 fr, .int .i64 tu, .slice E m mc] w (IsQ w nx' ls' (.int .i64 k))) ∧
  (∀ w, QAt w A n c ps → Rd w E (nums .u8 xs) → Calls Try.prog 12 #[cfgV (.slice D dn dc) ch st cl qu clo lo ag wi ro se, .agg #[.int .u64 nx, .slice A n c], .int .i64 fr, .int .i64 tu, .slice E m mc] w (IsQ w nx' ls' (.int .i64 k))) ∧ TxtOk ls'
theorem put_both (hby : n * 56 ≤ 140737488351232) (ht : TxtOk (ps.map (·.1))) (hn0 : 0 ≤ nx) (hn1 : nx ≤ 18446744073709551615) (hm : xs.length = m) (hmb : m ≤ 300) (hb : Byt xs) :
    ∃ nx' ls' k, PutBoth D dn dc ch st cl qu clo lo ag wi ro se nx fr tu A n c ps E m mc xs nx' ls' k := by
  have iq := fun {w : World} {nx : Int} {ls : List Ltr} {k : Value} {e : Ending} {w' : World} (h : IsQO w nx ls k e w') => h.isQ
  cases hc : cliB cl fr with
  | false => exact ⟨nx, _, 3, fun w hq hE => (put_from D dn dc ch st cl qu clo lo ag wi ro se nx fr tu A n c ps E m mc w hq hby ht hc).mono fun _ _ h => h.isQ, fun w hq hE => rput_rejects D dn dc ch st cl qu clo lo ag wi ro se nx fr tu A n c ps E m mc w hq (.inl hc), ht⟩
  | true =>
    cases hd : cliB cl tu with
    | false => exact ⟨nx, _, 3, fun w hq hE => (put_to D dn dc ch st cl qu clo lo ag wi ro se nx fr tu A n c ps E m mc w hq hby ht hc hd).mono fun _ _ h => h.isQ, fun w hq hE => rput_rejects D dn dc ch st cl qu clo lo ag wi ro se nx fr tu A n c ps E m mc w hq (.inr (.inl ⟨hc, hd⟩)), ht⟩
    | true =>
      by_cases h4 : (64 : Int) < m
      · exact ⟨nx, _, 3, fun w hq hE => (put_long D dn dc ch st cl qu clo lo ag wi ro se nx fr tu A n c ps E m mc w hq hby ht hc hd h4).mono fun _ _ h => h.isQ, fun w hq hE => rput_rejects D dn dc ch st cl qu clo lo ag wi ro se nx fr tu A n c ps E m mc w hq (.inr (.inr ⟨hc, hd, h4⟩)), ht⟩
      cases h5 : (nx == 18446744073709551615) with
      | true => exact ⟨nx, _, 4, fun w hq hE => (put_halts D dn dc ch st cl qu clo lo ag wi ro se nx fr tu A n c ps E m mc w hq hby ht hc hd h4 h5).mono fun _ _ h => h.isQ, fun w hq hE => rput_halts D dn dc ch st cl qu clo lo ag wi ro se nx fr tu A n c ps E m mc w hq hc hd h4 h5, ht⟩
      | false =>
        by_cases h7 : qu ≤ (n : Int)
        · exact ⟨nx, _, 2, fun w hq hE => (put_full D dn dc ch st cl qu clo lo ag wi ro se nx fr tu A n c ps E m mc w hq hby ht hc hd h4 h5 h7).mono fun _ _ h => h.isQ, fun w hq hE => rput_full D dn dc ch st cl qu clo lo ag wi ro se nx fr tu A n c ps E m mc w hq hby hc hd h4 h5 h7, ht⟩
        · have h9 : nx ≤ 18446744073709551614 := by
            have : ¬ nx = 18446744073709551615 := by simpa using h5
            omega
          refine ⟨nx + 1, _, 1, fun w hq hE => (put_accepts D dn dc ch st cl qu clo lo ag wi ro se nx fr tu A n c ps E m mc w hq hby ht hc hd h4 h5 h7 hn0 h9 xs hE hm).mono fun _ _ h => h.isQ, fun w hq hE => rput_accepts D dn dc ch st cl qu clo lo ag wi ro se nx fr tu A n c ps E m mc w hq hby hc hd h4 h5 h7 hn0 h9 xs hE hm, fun l hl => ?_⟩
          rcases List.mem_append.1 hl with hl | hl
          · exact ht l hl
          · simp at hl; subst hl
            exact ⟨hb, by show xs.length ≤ _; omega⟩
end

/-- A letter, and whether it is one. -/
def IsHeadB (w : World) (l : Ltr) (b : Bool) (e : Ending) (w' : World) : Prop := ∃ A c, e = .returned (.tuple #[lv l (.slice A (txt l).length c), .bool b]) ∧ Rd w' A (nums .u8 (txt l)) ∧ Below w.heap.size w w'
def HeadBoth (nx : Int) (A : Option Addr) (n c : Nat) (ps : List (Ltr × Value)) (l : Ltr) (b : Bool) : Prop :=
  (∀ w, QAt w A n c ps → Calls Try.prog 13 #[.agg #[.int .u64 nx, .slice A n c]] w (IsHeadB w l b)) ∧
  (∀ w, QAt w A n c ps → Calls Try.prog 14 #[.agg #[.int .u64 nx, .slice A n c]] w (IsHeadB w l b)) ∧ Byt (txt l)
theorem head_both (nx : Int) (A : Option Addr) (n c : Nat) (ps : List (Ltr × Value)) (hn : ps.length = n) (ht : TxtOk (ps.map (·.1))) : ∃ l b, HeadBoth nx A n c ps l b := by
  match ps with
  | [] =>
    obtain rfl : n = 0 := hn.symm
    exact ⟨(false, 0, 0, 0, []), false, fun w hq => (head_none nx A c w).mono fun e w' ⟨he, hb⟩ => ⟨none, 0, he, .inl rfl, hb⟩, fun w hq => (rhead_none nx A c w).mono fun e w' ⟨he, hb⟩ => ⟨none, 0, he, .inl rfl, hb⟩, fun x hx => by cases hx⟩
  | (l, v) :: ps =>
    exact ⟨l, true, fun w hq => (head_some nx A n c l v ps w hq (ht l (by simp)).2).mono fun e w' ⟨A', c', he, h1, h2, h3, hb⟩ => ⟨A', c', he, h3, hb⟩, fun w hq => (rhead_some nx A n c l v ps w hq).mono fun e w' ⟨A', c', he, h1, h2, h3, hb⟩ => ⟨A', c', he, h3, hb⟩, (ht l (by simp)).1⟩
def PopBoth (nx seq : Int) (A : Option Addr) (n c : Nat) (ps : List (Ltr × Value)) (ls : List Ltr) (b : Bool) : Prop :=
  (∀ w, QAt w A n c ps → Calls Try.prog 15 #[.agg #[.int .u64 nx, .slice A n c], .int .u64 seq] w (IsQ w nx ls (.bool b))) ∧
  (∀ w, QAt w A n c ps → Calls Try.prog 16 #[.agg #[.int .u64 nx, .slice A n c], .int .u64 seq] w (IsQ w nx ls (.bool b))) ∧ TxtOk ls
theorem pop_both (nx seq : Int) (A : Option Addr) (n c : Nat) (ps : List (Ltr × Value)) (hn : ps.length = n) (hby : n * 56 ≤ 140737488351232) (ht : TxtOk (ps.map (·.1))) : ∃ ls b, PopBoth nx seq A n c ps ls b := by
  match ps with
  | [] =>
    obtain rfl : n = 0 := hn.symm
    exact ⟨[], false, fun w hq => (pop_none nx seq A c w).mono fun _ _ h => h.isQ, fun w hq => rpop_none nx seq A c w hq.2.2.1, fun l hl => by cases hl⟩
  | (l, v) :: ps =>
    by_cases h : l.2.2.2.1 = seq
    · exact ⟨_, true, fun w hq => (pop_first nx seq A n c l v ps w hq hby ht h).mono fun _ _ h => h.isQ, fun w hq => rpop_first nx seq A n c l v ps w hq hby h, fun x hx => ht x (List.mem_cons_of_mem _ hx)⟩
    · exact ⟨_, false, fun w hq => (pop_other nx seq A n c l v ps w hq hby ht h).mono fun _ _ h => h.isQ, fun w hq => rpop_other nx seq A n c l v ps w hq h, ht⟩
end Go.Proofs.Ytfgkeodkakidpaa
