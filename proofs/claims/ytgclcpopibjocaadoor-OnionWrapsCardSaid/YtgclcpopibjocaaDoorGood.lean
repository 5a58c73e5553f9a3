/- A range over a function whose values are made in memory: the iterator tells of each value what holds of it in the world as it then stands. -/
import Derived.Test.YtgclcpopibjocaaDoorRow
import Derived.RangeFuncOwn
import Derived.RangeFuncBox
import Derived.RangeFuncFrom
import Derived.RangeFuncCalls
import Derived.RangeFuncLeaves
namespace Go.Proofs.YtgclcpopibjocaaDoor
open Go.RowKit
set_option linter.unusedSimpArgs false
set_option linter.unusedVariables false

section
variable {F : Fence} {n : Nat} {P : Program} {α β : Type}

/-- The iterator's word: all its values come, one by one; of each it shows 'Good' at its yield. -/
def SeqGood (F : Fence) (n : Nat) (P : Program) (g : Nat) (lb : Array Value) (encs : α → Array Value) (Good : α → World → Prop) (Kp : World → World → Prop) (S : List α → Prop) (N : Nat) (w : World) : Prop :=
  ∀ (l : Nat) (J : List α → World → Prop) (W : World), Below w.heap.size w W → AbidesFrom W.heap.size J →
    (∀ pre x W1, J pre W1 → Good x W1 → pre.length < N → YieldAt F (n - 1) P l (encs x) W1 fun e W' => e = .returned (.bool true) ∧ J (pre ++ [x]) W' ∧ Kp W1 W') →
    J [] W →
    CallsIn F n P g (#[.func (.yield l) #[] #[]] ++ lb) W fun e W' => (∃ v, e = .returned v) ∧ ∃ xs, S xs ∧ J xs W'

/-- How a round's body ends: it goes on. -/
def goesOn (Kp : World → World → Prop) (I : β → World → Prop) (xs : β) (W : World) : Exit → Act → World → Prop
  | .normal, _, W' => KeepsOthers W W' ∧ Kp W W' ∧ I xs W'
  | _, _, _ => False

/-- The loop's record, and the block for the rounds' deferred calls, as they stand between two rounds. -/
def Between (l D : Nat) (r : Loop) (W : World) : Prop := W.heap[l]? = some (.loop r) ∧ W.heap[D]? = some (.deferred (some []))
theorem Between.grown {l D : Nat} {r : Loop} {W W' : World} {row : Option Nat} (h : Between l D r W) (hg : W.grownBy W' row) (hr : ∀ k, row = some k → ∃ o : Obj, W.heap[k]? = some o ∧ o.isWalk = true) : Between l D r W' :=
  ⟨(grownBy_keeps hg hr h.1 rfl).trans h.1, (grownBy_keeps hg hr h.2 rfl).trans h.2⟩

/-- One round whose body goes on: the record is ready anew. -/
theorem round_goes {l D m : Nat} {r : Loop} {W : World} {args : Array Value} {a1 : Act} {Post : World → Prop} (hne : D ≠ l) (hfn : F.fn r.fn) (hst : r.state = .ready) (hpe : r.pending = none) (hsz : args.size = r.params.size) (hR : Between l D r W)
    (hassign : ∀ K : Act → World → Prop, K a1 W → r.assign.wpIn (F.inRound l) m P (Exit.then K (fun _ _ _ => False)) { tmps := (r.params.zip args).foldl (fun t (p, v) => t.setIfInBounds p v) r.tmps, defers := [] } W)
    (hbody : r.body.wpIn (F.inRound l) m P (goesOn (fun _ _ => True) (fun (_ : Unit) W' => Post W') () (W.putObj l (.loop { r with state := .busy }))) a1 (W.putObj l (.loop { r with state := .busy }))) :
    YieldAt F m P l args W fun e W' => e = .returned (.bool true) ∧ ∃ W3, Post W3 ∧ W3.heap[l]? = some (.loop { r with state := .busy }) ∧ W' = W3.putObj l (.loop r) ∧ Between l D r W' := by
  have hlt : l < W.heap.size := (Array.getElem?_eq_some_iff.1 hR.1).1
  refine ⟨r.fn, _, r.assign, r.body, run_yield hR.1 hsz, roundIn_of_wpIn hfn (hassign _ ⟨_, run_beginRound hR.1 hst, wpIn_mono hbody ?_⟩)⟩
  intro e a3 W3 hp
  cases e with
  | normal =>
    obtain ⟨hk, _, hp⟩ := hp
    have hl3 := hk.same l _ (World.putObj_heap_same hlt) rfl
    have hd3 := hk.same D (.deferred (some [])) ((World.putObj_heap_other hne).trans hR.2) rfl
    have hend := run_endRound (P := P) none hl3
    have hrr : ({ ({ r with state := .busy } : Loop) with state := (if (none : Option Code).isNone then LoopState.ready else .done), pending := none } : Loop) = r := by
      cases r; simp at hst hpe; subst hst; subst hpe; rfl
    rw [hrr] at hend
    exact ⟨_, _, hend, rfl, W3, hp, hl3, rfl, World.putObj_heap_same (Array.getElem?_eq_some_iff.1 hl3).1, (World.putObj_heap_other hne).trans hd3⟩
  | _ => exact hp.elim

theorem wpIn_rangeFunc_good {g : Operand} {ps : Array Tmp} {assign body : Code} {Q : Exit → Act → World → Prop} {a : Act} {w : World}
    (hro : F.round = none) (h1 : 1 ≤ n) {gf : Nat} {lb : Array Value} (hg : a.eval g = .func (.func gf) #[] lb) (hFg : F.fn gf) (eg : ∀ args w, (callFunc gf args).run P w = .ok (.enter gf args) w)
    {encs : α → Array Value} {Good : α → World → Prop} {Kp : World → World → Prop} {S : List α → Prop} {N : Nat} (hseq : SeqGood F (n - 1) P gf lb encs Good Kp S N w)
    (hKt : ∀ {A B C : World}, Kp A B → Kp B C → Kp A C) (hKb : ∀ (W : World) (l : Nat) (o o' : Obj), w.heap.size ≤ l → W.heap[l]? = some o → o.isCells = false → o.isWalk = false → Kp W (W.putObj l o'))
    (hGb : ∀ (x : α) (W : World) (l : Nat) (o o' : Obj), Good x W → W.heap[l]? = some o → o.isCells = false → Good x (W.putObj l o'))
    (hps : ∀ x, (encs x).size = ps.size) (I : List α → World → Prop) (hI : OwnFrom w.heap.size I) (h0 : I [] w) (a₁ : α → Act)
    (hassign : ∀ (l : Nat) (x : α) (W : World) (K : Act → World → Prop), K (a₁ x) W →
      assign.wpIn (F.inRound l) (n - 1 - 1) P (Exit.then K (fun _ _ _ => False)) { tmps := (ps.zip (encs x)).foldl (fun t (p, v) => t.setIfInBounds p v) a.tmps, defers := [] } W)
    (hbody : ∀ (l : Nat) (pre : List α) (x : α) (W : World), I pre W → Good x W → pre.length < N → body.wpIn (F.inRound l) (n - 1 - 1) P (goesOn Kp I (pre ++ [x]) W) (a₁ x) W)
    (hdone : ∀ (D : Nat) (xs : List α) (W : World), w.heap.size ≤ D → S xs → I xs W → W.heap[D]? = some (.deferred (some [])) → Q .normal { a with defers := { target := .collected D, args := #[] } :: a.defers } W) :
    (Code.rangeFunc g ps assign body).wpIn F n P Q a w := by
  refine wpIn_rangeFunc fun fn hfn => ?_
  obtain ⟨D, hD⟩ : ∃ D, D = w.heap.size := ⟨_, rfl⟩
  obtain ⟨r, hr⟩ : ∃ r : Loop, r = { state := .ready, pending := none, fn, tmps := a.tmps, params := ps, assign, body, defers := D } := ⟨_, rfl⟩
  have hst : r.state = .ready := by rw [hr]
  have hpe : r.pending = none := by rw [hr]
  have henter := run_enterLoop_outer (P := P) (w := w) fn a.tmps ps assign body
  rw [← hD, ← hr] at henter
  obtain ⟨W1, hW1⟩ : ∃ W1, W1 = (w.alloc (.deferred (some []))).alloc (.loop r) := ⟨_, rfl⟩
  rw [← hW1] at henter
  have hb1 : Below w.heap.size w W1 := by rw [hW1]; exact ((Below.refl _ w).alloc (Nat.le_refl _) _).alloc (by simp) _
  have hB1 : Between (D + 1) D r W1 := by
    rw [hW1, hD]
    refine ⟨?_, (Below.heap_alloc _ _ _ (by simp)).trans (World.alloc_heap_new w _)⟩
    have := World.alloc_heap_new (w.alloc (.deferred (some []))) (.loop r)
    rwa [World.size_alloc] at this
  have hI1 : I [] W1 := by rw [hW1]; exact hI.alloc _ (hI.alloc _ h0)
  have hz1 : W1.heap.size = D + 2 := by rw [hW1, World.size_alloc, World.size_alloc, hD]
  refine ⟨D + 1, _, W1, { target := .fn (.func gf) lb, args := #[.func (.yield (D + 1)) #[] #[]] }, W1, gf, #[.func (.yield (D + 1)) #[] #[]] ++ lb, W1, by rw [hro]; exact henter, ?_, ?_, ?_, fun _ => h1, ?_⟩
  · simp only [resolve, hg]
    simp [go_sem]
  · intro f' hf'
    simp [Target.leads] at hf'
    subst hf'
    exact hFg
  · simp [invoke, go_sem, eg]
  refine (hseq (D + 1) (fun pre W => I pre W ∧ Between (D + 1) D r W) W1 hb1 ?_ ?_ ⟨hI1, hB1⟩).mono ?_
  · intro s A B row hs hg' hr'
    exact ⟨hI s A B row hs.1 hg' (fun k e => by
      obtain ⟨h2, o, h3, h4⟩ := hr' k e
      exact ⟨by omega, o, h3, Obj.not_cells_of_walk h4⟩), hs.2.grown hg' (fun k e => (hr' k e).2)⟩
  · rintro pre x W ⟨hi, hb⟩ hgood hlen
    have hi2 := hI.putObj (.loop { r with state := .busy }) hi (show w.heap.size ≤ D + 1 by omega) hb.1 rfl
    have hg2 := hGb x W (D + 1) _ (.loop { r with state := .busy }) hgood hb.1 rfl
    have hk2 := hKb W (D + 1) _ (.loop { r with state := .busy }) (by omega) hb.1 rfl rfl
    have hbd := hbody (D + 1) pre x _ hi2 hg2 hlen
    have key := round_goes (F := F) (P := P) (m := n - 1 - 1) (args := encs x) (a1 := a₁ x) (Post := fun W3 => Kp (W.putObj (D + 1) (.loop { r with state := .busy })) W3 ∧ I (pre ++ [x]) W3) (show D ≠ D + 1 by omega) (by rw [hr]; exact hfn) hst hpe (by rw [hr]; exact hps x) hb
      (by rw [hr]; exact fun K hK => hassign (D + 1) x W K hK)
      (by
        subst hr
        refine wpIn_mono hbd fun e a3 W3 hp => ?_
        cases e with
        | normal => exact ⟨hp.1, trivial, hp.2.1, hp.2.2⟩
        | _ => exact hp.elim)
    obtain ⟨fn', tm', as', bo', hy, hround⟩ := key
    refine ⟨fn', tm', as', bo', hy, hround.mono ?_⟩
    rintro e W' ⟨rfl, W3, ⟨hk3, hi3⟩, hl3, rfl, hb3⟩
    exact ⟨rfl, ⟨hI.putObj _ hi3 (show w.heap.size ≤ D + 1 by omega) hl3 rfl, hb3⟩, hKt (hKt hk2 hk3) (hKb W3 (D + 1) _ _ (by omega) hl3 rfl rfl)⟩
  · rintro e W2 ⟨⟨v, rfl⟩, xs, hS, hi, hb⟩
    have hend := run_endLoop (P := P) hb.1 (by rw [hst]; simp)
    rw [hpe] at hend
    exact ⟨none, _, hend, hdone D xs _ (by omega) hS (hI.putObj _ hi (by omega) hb.1 rfl) ((World.putObj_heap_other (by omega)).trans hb.2)⟩
end
end Go.Proofs.YtgclcpopibjocaaDoor
