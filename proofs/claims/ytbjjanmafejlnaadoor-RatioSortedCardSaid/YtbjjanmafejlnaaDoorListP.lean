/- The reference's order of floats, in plain Lean: places put in one by one. No program in sight. -/
import Derived.Test.YtbjjanmafejlnaaDoorFl
namespace Go.Proofs.YtbjjanmafejlnaaDoor.Lp

/-- the place x stands ahead of the place y -/
def T (xs : Nat → Nat) (x y : Nat) : Prop := Fl.lessF (xs x) (xs y) = true ∨ Fl.lessF (xs y) (xs x) = false ∧ x < y

theorem less_total {a b c : Nat} (h : Fl.lessF a c = true) : Fl.lessF a b = true ∨ Fl.lessF b c = true := by
  rw [Fl.less_iff] at *
  rw [Fl.less_iff]
  simp only [decide_eq_true_eq] at *
  omega
theorem T.irr (xs : Nat → Nat) (x : Nat) : ¬ T xs x x := by
  rintro (h | ⟨_, h⟩)
  · rw [Fl.less_irrefl] at h; exact absurd h (by simp)
  · omega
theorem T.tr {xs : Nat → Nat} {x y z : Nat} (h1 : T xs x y) (h2 : T xs y z) : T xs x z := by
  rcases h1 with h1 | ⟨h1, h1'⟩ <;> rcases h2 with h2 | ⟨h2, h2'⟩
  · exact .inl (Fl.less_trans h1 h2)
  · rcases less_total (b := xs z) h1 with h | h
    · exact .inl h
    · rw [h2] at h; exact absurd h (by simp)
  · rcases less_total (b := xs x) h2 with h | h
    · rw [h1] at h; exact absurd h (by simp)
    · exact .inl h
  · refine .inr ⟨?_, by omega⟩
    cases h : Fl.lessF (xs z) (xs x)
    · rfl
    · rcases less_total (b := xs y) h with h | h
      · rw [h2] at h; exact absurd h (by simp)
      · rw [h1] at h; exact absurd h (by simp)

/-- where i is put in -/
def stop (xs : Nat → Nat) (i : Nat) (l : List Nat) : Nat → Nat
  | 0 => 0
  | a + 1 => if Fl.lessF (xs i) (xs (l[a]?.getD 0)) then stop xs i l a else a + 1
def put (xs : Nat → Nat) (l : List Nat) (i : Nat) : List Nat := l.take (stop xs i l l.length) ++ [i] ++ l.drop (stop xs i l l.length)
def refL (xs : Nat → Nat) : Nat → List Nat
  | 0 => []
  | i + 1 => put xs (refL xs i) i

theorem stop_le (xs : Nat → Nat) (i : Nat) (l : List Nat) : ∀ a, stop xs i l a ≤ a
  | 0 => Nat.le_refl _
  | a + 1 => by unfold stop; split
                · exact Nat.le_succ_of_le (stop_le xs i l a)
                · exact Nat.le_refl _
theorem stop_above (xs : Nat → Nat) (i : Nat) (l : List Nat) : ∀ a j, stop xs i l a ≤ j → j < a → Fl.lessF (xs i) (xs (l[j]?.getD 0)) = true
  | 0, j, _, h => by omega
  | a + 1, j, h1, h2 => by
    unfold stop at h1
    split at h1
    · by_cases e : j = a
      · rw [e]; assumption
      · exact stop_above xs i l a j h1 (by omega)
    · omega
theorem stop_at (xs : Nat → Nat) (i : Nat) (l : List Nat) : ∀ a, stop xs i l a ≠ 0 → Fl.lessF (xs i) (xs (l[stop xs i l a - 1]?.getD 0)) = false
  | 0, h => by simp [stop] at h
  | a + 1, h => by
    unfold stop at h ⊢
    split
    · rename_i hc
      rw [if_pos hc] at h
      exact stop_at xs i l a h
    · rename_i hc
      simpa using hc

theorem put_length (xs : Nat → Nat) (l : List Nat) (i : Nat) : (put xs l i).length = l.length + 1 := by
  have := stop_le xs i l l.length
  simp only [put, List.length_append, List.length_take, List.length_drop, List.length_singleton]; omega
theorem refL_length (xs : Nat → Nat) : ∀ n, (refL xs n).length = n
  | 0 => rfl
  | n + 1 => by rw [refL, put_length, refL_length xs n]
theorem put_mem (xs : Nat → Nat) (l : List Nat) (i x : Nat) : x ∈ put xs l i ↔ x = i ∨ x ∈ l := by
  unfold put
  constructor
  · intro h
    simp only [List.mem_append, List.mem_singleton] at h
    rcases h with (h | h) | h
    · exact .inr (List.mem_of_mem_take h)
    · exact .inl h
    · exact .inr (List.mem_of_mem_drop h)
  · intro h
    simp only [List.mem_append, List.mem_singleton]
    rcases h with h | h
    · exact .inl (.inr h)
    · have e : x ∈ l.take (stop xs i l l.length) ++ l.drop (stop xs i l l.length) := by rw [List.take_append_drop]; exact h
      rcases List.mem_append.1 e with h | h
      · exact .inl (.inl h)
      · exact .inr h
theorem refL_lt (xs : Nat → Nat) : ∀ n x, x ∈ refL xs n → x < n
  | 0, x, h => by simp [refL] at h
  | n + 1, x, h => by
    rw [refL, put_mem] at h
    rcases h with h | h
    · omega
    · have := refL_lt xs n x h; omega

theorem put_sorted (xs : Nat → Nat) (l : List Nat) (i : Nat) (hl : ∀ x ∈ l, x < i) (hs : l.Pairwise (T xs)) : (put xs l i).Pairwise (T xs) := by
  have hle := stop_le xs i l l.length
  have hab := stop_above xs i l l.length
  have hat := stop_at xs i l l.length
  unfold put
  generalize stop xs i l l.length = a at *
  have hd : ∀ y ∈ l.drop a, T xs i y := by
    intro y hy
    obtain ⟨j, hj, rfl⟩ := List.mem_iff_getElem.1 hy
    have hj' : j < l.length - a := by simpa using hj
    have := hab (a + j) (by omega) (by omega)
    rw [List.getElem_drop]
    rw [List.getElem?_eq_getElem (by omega)] at this
    exact .inl this
  have hlt : ∀ x ∈ l.take a, T xs x i := by
    intro x hx
    obtain ⟨j, hj, rfl⟩ := List.mem_iff_getElem.1 hx
    have hj' : j < a := by have : j < min a l.length := by simpa using hj
                           omega
    have h1 := hat (by omega)
    rw [List.getElem?_eq_getElem (show a - 1 < l.length by omega)] at h1
    have h2 : T xs l[a - 1] i := .inr ⟨h1, hl _ (List.getElem_mem _)⟩
    rw [List.getElem_take]
    by_cases e : j = a - 1
    · subst e; exact h2
    · exact T.tr (List.pairwise_iff_getElem.1 hs j (a - 1) (by omega) (by omega) (by omega)) h2
  have ht := hs.sublist (List.take_sublist a l)
  have hdd := hs.sublist (List.drop_sublist a l)
  have hcross : ∀ x ∈ l.take a, ∀ y ∈ l.drop a, T xs x y := fun x hx y hy => T.tr (hlt x hx) (hd y hy)
  rw [List.append_assoc]
  refine List.pairwise_append.2 ⟨ht, ?_, ?_⟩
  · rw [List.singleton_append]; exact List.pairwise_cons.2 ⟨hd, hdd⟩
  · intro x hx y hy
    rcases List.mem_append.1 hy with h | h
    · rw [List.mem_singleton.1 h]; exact hlt x hx
    · exact hcross x hx y h
theorem refL_sorted (xs : Nat → Nat) : ∀ n, (refL xs n).Pairwise (T xs)
  | 0 => List.Pairwise.nil
  | n + 1 => put_sorted xs _ n (refL_lt xs n) (refL_sorted xs n)
theorem refL_at {xs : Nat → Nat} {n i j : Nat} (h1 : i < j) (h2 : j < n) : T xs ((refL xs n)[i]?.getD 0) ((refL xs n)[j]?.getD 0) := by
  have hl := refL_length xs n
  rw [List.getElem?_eq_getElem (by omega), List.getElem?_eq_getElem (by omega)]
  exact List.pairwise_iff_getElem.1 (refL_sorted xs n) i j (by omega) (by omega) h1
theorem refL_at_lt {xs : Nat → Nat} {n i : Nat} (h : i < n) : (refL xs n)[i]?.getD 0 < n := by
  have hl := refL_length xs n
  rw [List.getElem?_eq_getElem (by omega)]
  exact refL_lt xs n _ (List.getElem_mem _)
end Go.Proofs.YtbjjanmafejlnaaDoor.Lp
