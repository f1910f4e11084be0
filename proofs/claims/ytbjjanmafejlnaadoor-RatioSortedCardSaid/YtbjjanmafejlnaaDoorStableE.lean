/- The stable order of floats: what SortStableFunc makes of the places of a list of at most 300 floats. -/
import Derived.Test.YtbjjanmafejlnaaDoorStableD
namespace Go.Proofs.YtbjjanmafejlnaaDoor
open Go.RowKit Go.Sort Go.Lib Mg

/-- the one ahead of the other: by the floats, and among alike ones by the place -/
def TL (n : Nat) (xs : Nat → Nat) (x y : Fin n) : Prop := Fl.lessF (xs x.val) (xs y.val) = true ∨ Fl.lessF (xs y.val) (xs x.val) = false ∧ x.val < y.val

theorem less_total {a b c : Nat} (h : Fl.lessF a c = true) : Fl.lessF a b = true ∨ Fl.lessF b c = true := by
  rw [Fl.less_iff] at *
  rw [Fl.less_iff]
  simp only [decide_eq_true_eq] at *
  omega

theorem TL.irr (n : Nat) (xs : Nat → Nat) (x : Fin n) : ¬ TL n xs x x := by
  rintro (h | ⟨_, h⟩)
  · rw [Fl.less_irrefl] at h; exact absurd h (by simp)
  · omega
theorem TL.tr (n : Nat) (xs : Nat → Nat) (x y z : Fin n) (h1 : TL n xs x y) (h2 : TL n xs y z) : TL n xs x z := by
  rcases h1 with h1 | ⟨h1, h1'⟩ <;> rcases h2 with h2 | ⟨h2, h2'⟩
  · exact .inl (Fl.less_trans h1 h2)
  · rcases less_total (b := xs z.val) h1 with h | h
    · exact .inl h
    · rw [h2] at h; exact absurd h (by simp)
  · rcases less_total (b := xs x.val) h2 with h | h
    · rw [h1] at h; exact absurd h (by simp)
    · exact .inl h
  · refine .inr ⟨?_, by omega⟩
    cases h : Fl.lessF (xs z.val) (xs x.val)
    · rfl
    · rcases less_total (b := xs y.val) h with h | h
      · rw [h2] at h; exact absurd h (by simp)
      · rw [h1] at h; exact absurd h (by simp)
theorem cmpF_neg (a b : Nat) : cmpF a b < 0 ↔ Fl.lessF a b = true := by
  unfold cmpF
  cases Fl.lessF a b <;> cases Fl.lessF b a <;> simp
theorem TL.yes (n : Nat) (xs : Nat → Nat) (x y : Fin n) (_ : x.val < y.val) (h : cmpFin n xs y x < 0) : TL n xs y x := .inl ((cmpF_neg _ _).mp h)
theorem TL.no (n : Nat) (xs : Nat → Nat) (x y : Fin n) (hxy : x.val < y.val) (h : ¬ cmpFin n xs y x < 0) : TL n xs x y := by
  refine .inr ⟨?_, hxy⟩
  cases e : Fl.lessF (xs y.val) (xs x.val)
  · rfl
  · exact absurd ((cmpF_neg _ _).mpr e) h

/-- the order -/
def orderOf (n : Nat) (xs : Nat → Nat) (hn : 0 < n) : Array (Fin n) := haveI : Inhabited (Fin n) := ⟨⟨0, hn⟩⟩; insertionSort (ltOf (cmpFin n xs)) (Array.ofFn (n := n) id) 0 n

theorem ofFn_at (n : Nat) [Inhabited (Fin n)] (k : Nat) (h : k < n) : ((Array.ofFn (n := n) id)[k]!).val = k := by
  rw [getElem!_pos _ k (by simpa using h)]; simp

theorem order_merged (n : Nat) (xs : Nat → Nat) (hn : 0 < n) : haveI : Inhabited (Fin n) := ⟨⟨0, hn⟩⟩; Merged (TL n xs) (fun k => (Array.ofFn (n := n) id)[k]!) (orderOf n xs hn) 0 n := by
  letI : Inhabited (Fin n) := ⟨⟨0, hn⟩⟩
  exact ins_merged (TL.tr n xs) (TL.yes n xs) (TL.no n xs) _ 0 n (by simp) (by omega) (Nat.le_refl _) (fun i j _ h1 h2 => by rw [ofFn_at n i (by omega), ofFn_at n j h2]; exact h1)
theorem order_size (n : Nat) (xs : Nat → Nat) (hn : 0 < n) : (orderOf n xs hn).size = n := (order_merged n xs hn).1
theorem order_sorted (n : Nat) (xs : Nat → Nat) (hn : 0 < n) : haveI : Inhabited (Fin n) := ⟨⟨0, hn⟩⟩; ∀ i j, i < j → j < n → TL n xs (orderOf n xs hn)[i]! (orderOf n xs hn)[j]! :=
  fun i j h1 h2 => (order_merged n xs hn).2.1 i j (Nat.zero_le _) h1 h2

theorem sorts_any (n : Nat) (xs : Nat → Nat) (hn : 0 < n) (hn2 : n ≤ 300) : Sorts n xs hn (orderOf n xs hn) := by
  intro bx blk cap w hcmp hH
  letI : Inhabited (Fin n) := ⟨⟨0, hn⟩⟩
  have E : MEnv n w blk bx (cmpFin n xs) (TL n xs) :=
    { env := ⟨⟨_, by simp, hH⟩, by omega⟩
      cmp := fun X m x y hX => by
        have := hcmp m #[] X hX x y
        rw [sortWorld_none] at this
        exact this
      tr := TL.tr n xs
      yes := TL.yes n xs
      no := TL.no n xs }
  have hw : rowW w blk (Array.ofFn (n := n) id) 0 = w := by
    show (putRow _ _ _ _ _).drewN 0 = _
    rw [putRow_self _ _ _ _ _ hH]; rfl
  have h := stable_walk E hcmp cap (Array.ofFn (n := n) id) (by simp) (ofFn_at n)
  rw [hw] at h
  refine h.mono ?_
  rintro e w' ⟨he, r, m, hr, hs, hw'⟩
  refine ⟨he, m, ?_⟩
  rw [hw', one_order n (TL n xs) (TL.irr n xs) (TL.tr n xs) (orderOf n xs hn) r (order_size n xs hn) hr (order_sorted n xs hn) hs]
  rfl
end Go.Proofs.YtbjjanmafejlnaaDoor
