/- A range over a function whose iterator keeps a state of its own in one block (strings.SplitSeq's): the law for a body that always goes on. No program in sight. -/
import Derived.RangeFuncWrites
import Derived.RangeFuncBox
import Derived.RangeFuncLeaves
namespace Go.Proofs.YtolegljmaacabaaDoor
open Go.RowKit

/-- the blocks from lo to below hi lie as they lay -/
def Span (lo hi : Nat) (W W' : World) : Prop := ∀ b, lo ≤ b → b < hi → W'.heap[b]? = W.heap[b]?
theorem Span.refl (lo hi : Nat) (W : World) : Span lo hi W W := fun _ _ _ => rfl
theorem Span.trans {lo hi : Nat} {A B C : World} (h : Span lo hi A B) (k : Span lo hi B C) : Span lo hi A C := fun b h1 h2 => (k b h1 h2).trans (h b h1 h2)
theorem Span.put {lo hi l : Nat} (W : World) (o : Obj) (h : hi ≤ l) : Span lo hi W (W.putObj l o) := fun b _ h2 => World.putObj_heap_other (by omega)
theorem Span.grown {lo hi : Nat} {W W' : World} {row : Option Nat} (hg : W.grownBy W' row) (hs : hi ≤ W.heap.size) (hr : ∀ r, row = some r → r < lo ∨ hi ≤ r) : Span lo hi W W' :=
  fun b h1 h2 => hg.block b (by omega) (fun e => by have := hr b e.symm; omega)
theorem Span.cell {lo hi b o : Nat} {W W' : World} (h : Span lo hi W W') (h1 : lo ≤ b) (h2 : b < hi) : W'.cell? ⟨b, o, none⟩ = W.cell? ⟨b, o, none⟩ := World.cell?_of_block (a := ⟨b, o, none⟩) (h b h1 h2)
theorem Span.frozen {lo hi b o : Nat} {W W' : World} (h : Span lo hi W W') (h1 : lo ≤ b) (h2 : b < hi) : W'.frozen? ⟨b, o, none⟩ = W.frozen? ⟨b, o, none⟩ := World.frozen?_of_block (a := ⟨b, o, none⟩) (h b h1 h2)

/-- what an iterator with the state block bs gives: all of some list, round by round, where each round keeps the blocks from lo to below hi -/
def SeqSt {α : Type} (n : Nat) (P : Program) (g : Nat) (lb : Array Value) (encs : α → Array Value) (lo hi bs : Nat) (S : List α → Prop) (N : Nat) (w : World) : Prop :=
  ∀ (l : Nat) (J : List α → World → Prop) (W : World), Below w.heap.size w W → (∀ s A B row, J s A → A.grownBy B row → (∀ r, row = some r → r = bs) → J s B) →
    (∀ pre x W1, J pre W1 → pre.length < N → YieldAt Fence.wide (n - 1) P l (encs x) W1 fun e W' => e = .returned (.bool true) ∧ J (pre ++ [x]) W' ∧ Span lo hi W1 W') →
    J [] W → CallsIn Fence.wide n P g (#[.func (.yield l) #[] #[]] ++ lb) W fun e W' => (∃ v, e = .returned v) ∧ ∃ xs, S xs ∧ J xs W'

def postSt {α : Type} (B lo hi : Nat) (I : List α → World → Prop) (xs : List α) (W : World) : Exit → Act → World → Prop
  | .normal, _, W' => KeepsFrom B W W' ∧ Span lo hi W W' ∧ I xs W'
  | _, _, _ => False

theorem wp_range_st {α : Type} {n : Nat} {P : Program} {g : Operand} {ps : Array Tmp} {assign body : Code} {Q : Exit → Act → World → Prop} {a : Act} {w : World}
    {gf : Nat} {lb : Array Value} (hg : a.eval g = .func (.func gf) #[] lb) (eg : ∀ args w, (callFunc gf args).run P w = .ok (.enter gf args) w)
    {encs : α → Array Value} {lo hi bs N : Nat} {S : List α → Prop} (hseq : SeqSt (n - 1) P gf lb encs lo hi bs S N w) (hbs : bs < w.heap.size) (hhi : hi ≤ w.heap.size) (hps : ∀ x, (encs x).size = ps.size)
    (I : List α → World → Prop) (hI : ∀ s W W' row, I s W → W.grownBy W' row → (∀ r, row = some r → r = bs ∨ w.heap.size ≤ r ∧ ∃ o : Obj, W.heap[r]? = some o ∧ o.isCells = false) → I s W') (h0 : I [] w) (a₁ : α → Act)
    (hassign : ∀ (l : Nat) (x : α) (W : World) (K : Act → World → Prop), K (a₁ x) W →
      assign.wpIn (Fence.wide.inRound l) (n - 1 - 1) P (Exit.then K (fun _ _ _ => False)) { tmps := (ps.zip (encs x)).foldl (fun t (p, v) => t.setIfInBounds p v) a.tmps, defers := [] } W)
    (hbody : ∀ (l : Nat) (pre : List α) (x : α) (W : World), I pre W → pre.length < N → body.wpIn (Fence.wide.inRound l) (n - 1 - 1) P (postSt w.heap.size lo hi I (pre ++ [x]) W) (a₁ x) W)
    (hdone : ∀ (D : Nat) (xs : List α) (W : World), w.heap.size ≤ D → S xs → I xs W → W.heap[D]? = some (.deferred (some [])) → Q .normal { a with defers := { target := .collected D, args := #[] } :: a.defers } W) :
    (Code.rangeFunc g ps assign body).wpIn Fence.wide n P Q a w := by
  refine wpIn_rangeFunc fun fn hfn => ?_
  let rec0 : LoopState → Loop := fun st => { state := st, pending := none, fn, tmps := a.tmps, params := ps, assign, body, defers := w.heap.size }
  let D := w.heap.size
  let R := w.heap.size + 1
  obtain ⟨W1, hW1⟩ : ∃ W1, (w.alloc (.deferred (some []))).alloc (.loop (rec0 .ready)) = W1 := ⟨_, rfl⟩
  have hR1 : W1.heap[R]? = some (.loop (rec0 .ready)) := by
    have h := World.alloc_heap_new (w.alloc (.deferred (some []))) (.loop (rec0 .ready))
    rw [World.size_alloc, hW1] at h; exact h
  have hD1 : W1.heap[D]? = some (.deferred (some [])) := by
    rw [← hW1]; exact (Below.heap_alloc _ _ _ (by simp [D])).trans (World.alloc_heap_new w _)
  have hI1 : I [] W1 := by
    rw [← hW1]
    refine hI _ _ _ none (hI _ _ _ none h0 (World.grownBy_alloc _ _ _) (fun r e => by cases e)) (World.grownBy_alloc _ _ _) (fun r e => by cases e)
  have hB1 : Below w.heap.size w W1 := by rw [← hW1]; exact ((Below.refl _ w).alloc (Nat.le_refl _) _).alloc (by simp) _
  have put : ∀ {s : List α} {W : World} {o : Obj} (o' : Obj), I s W → W.heap[R]? = some o → o.isCells = false → I s (W.putObj R o') := fun {s W o} o' hs hl ho =>
    hI _ _ _ (some R) hs (grownBy_putObj' W R o') (fun r e => .inr (by cases e; exact ⟨by omega, o, hl, ho⟩))
  refine ⟨R, [{ target := .collected D, args := #[] }], W1, { target := .fn (.func gf) lb, args := #[.func (.yield R) #[] #[]] }, W1, gf, #[.func (.yield R) #[] #[]] ++ lb, W1, ?_, ?_, fun _ _ => trivial, ?_, fun h => by simp [Fence.wide] at h, ?_⟩
  · rw [← hW1]; exact run_enterLoop_outer _ _ _ _ _
  · simp only [resolve, hg]
    simp [go_sem]
  · simp [invoke, go_sem, eg]
  refine (hseq R (fun pre W => I pre W ∧ W.heap[R]? = some (.loop (rec0 .ready)) ∧ W.heap[D]? = some (.deferred (some []))) W1 hB1 ?_ ?_ ⟨hI1, hR1, hD1⟩).mono ?_
  · rintro s A B row ⟨h1, h2, h3⟩ hg' hr
    have lt : ∀ {k : Nat} {o : Obj}, A.heap[k]? = some o → k < A.heap.size := fun h => (Array.getElem?_eq_some_iff.1 h).1
    exact ⟨hI _ _ _ row h1 hg' (fun r e => .inl (hr r e)), (hg'.block R (lt h2) (fun e => by have := hr R e.symm; omega)).trans h2, (hg'.block D (lt h3) (fun e => by have := hr D e.symm; simp only [D] at this; omega)).trans h3⟩
  · rintro pre x W ⟨hi1, hl, hd⟩ hlen
    have hlt : R < W.heap.size := (Array.getElem?_eq_some_iff.1 hl).1
    have hy := run_yield (P := P) (args := encs x) hl (hps x)
    refine ⟨fn, _, assign, body, hy, roundIn_of_wpIn hfn (hassign _ x W _ ⟨_, run_beginRound hl rfl, ?_⟩)⟩
    have hl2 : (W.putObj R (.loop { rec0 .ready with state := .busy })).heap[R]? = some (.loop { rec0 .ready with state := .busy }) := World.putObj_heap_same hlt
    have hd2 : (W.putObj R (.loop { rec0 .ready with state := .busy })).heap[D]? = some (.deferred (some [])) := (World.putObj_heap_other (by simp [D, R])).trans hd
    refine wpIn_mono (hbody _ pre x _ (put _ hi1 hl rfl) hlen) ?_
    rintro e a3 W3 hp
    cases e with
    | normal =>
      obtain ⟨hk, hs, hi3⟩ := hp
      have hl3 := hk.same R _ (by simp [R]) hl2 rfl
      have hd3 := hk.same D _ (Nat.le_refl _) hd2 rfl
      have hend := run_endRound (P := P) none hl3
      exact ⟨_, _, hend, rfl, ⟨put _ hi3 hl3 rfl, World.putObj_heap_same (Array.getElem?_eq_some_iff.1 hl3).1, (World.putObj_heap_other (by simp [D, R])).trans hd3⟩,
        ((Span.put W _ (by simp only [R]; omega)).trans hs).trans (Span.put W3 _ (by simp only [R]; omega))⟩
    | ret => exact hp.elim
    | exit id => exact hp.elim
    | goto t => exact hp.elim
    | panic ch => exact hp.elim
    | outgrown => exact hp.elim
  · rintro e W2 ⟨⟨v, rfl⟩, xs, hS, hi2, hl, hd⟩
    exact ⟨none, _, run_endLoop (P := P) hl (by simp [rec0]), hdone D xs _ (Nat.le_refl _) hS (put _ hi2 hl rfl) ((World.putObj_heap_other (by simp [D, R])).trans hd)⟩
end Go.Proofs.YtolegljmaacabaaDoor
