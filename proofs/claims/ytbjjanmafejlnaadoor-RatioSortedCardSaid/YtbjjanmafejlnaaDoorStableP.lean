/- Plain facts on merging two sorted runs by rotations: what stays sorted, and why. No program in sight. -/
import Derived.Test.YtbjjanmafejlnaaDoorStableA
namespace Go.Proofs.YtbjjanmafejlnaaDoor.Mg

variable {α : Type} (T : α → α → Prop)

def SortedF (D : Nat → α) (a b : Nat) : Prop := ∀ i j, a ≤ i → i < j → j < b → T (D i) (D j)

theorem rot_at_lo (D : Nat → α) {lo mid hi k : Nat} (h1 : lo ≤ k) (h2 : k < lo + (hi - mid)) : rotF D lo mid hi k = D (k + (mid - lo)) := by
  unfold rotF; rw [if_pos ⟨h1, h2⟩]
theorem rot_at_hi (D : Nat → α) {lo mid hi k : Nat} (h1 : lo + (hi - mid) ≤ k) (h2 : k < hi) : rotF D lo mid hi k = D (k - (hi - mid)) := by
  unfold rotF; rw [if_neg (by omega), if_pos ⟨h1, h2⟩]
theorem rot_out (D : Nat → α) {lo mid hi k : Nat} (hm : lo ≤ mid ∧ mid ≤ hi) (h : k < lo ∨ hi ≤ k) : rotF D lo mid hi k = D k := by
  unfold rotF; rw [if_neg (by omega), if_neg (by omega)]
theorem rot_id_left (D : Nat → α) (m e : Nat) : rotF D m m e = D := by
  funext k; simp only [rotF]; repeat' split
  all_goals first | omega | (congr 1 <;> omega)
theorem rot_id_right (D : Nat → α) (s m : Nat) : rotF D s m m = D := by
  funext k; simp only [rotF]; repeat' split
  all_goals first | omega | (congr 1 <;> omega)

/-- one exchange carries the first element one place on -/
theorem rot_first (D : Nat → α) (a k : Nat) (h : a ≤ k) : (fun x => if x = k then rotF D a (a + 1) (k + 1) (k + 1) else if x = k + 1 then rotF D a (a + 1) (k + 1) k else rotF D a (a + 1) (k + 1) x) = rotF D a (a + 1) (k + 2) := by
  funext x; simp only [rotF]; repeat' split
  all_goals first | omega | (congr 1 <;> omega)
/-- one exchange carries the last element one place back -/
theorem rot_back (D : Nat → α) (m k : Nat) (h : k + 1 ≤ m) : (fun x => if x = k + 1 then rotF D (k + 1) m (m + 1) k else if x = k then rotF D (k + 1) m (m + 1) (k + 1) else rotF D (k + 1) m (m + 1) x) = rotF D k m (m + 1) := by
  funext x; simp only [rotF]; repeat' split
  all_goals first | omega | (congr 1 <;> omega)

theorem insert_first (D : Nat → α) (a i b : Nat) (hi : a + 1 ≤ i) (hib : i ≤ b) (hs : SortedF T D (a + 1) b)
    (h1 : ∀ k, a + 1 ≤ k → k < i → T (D k) (D a)) (h2 : ∀ k, i ≤ k → k < b → T (D a) (D k)) : SortedF T (rotF D a (a + 1) i) a b := by
  intro x y hx hxy hy
  by_cases c1 : y < i - 1
  · rw [rot_at_lo D (by omega) (by omega), rot_at_lo D (by omega) (by omega)]
    exact hs _ _ (by omega) (by omega) (by omega)
  by_cases c2 : y = i - 1
  · rw [rot_at_lo D (by omega) (by omega), rot_at_hi D (by omega) (by omega)]
    have := h1 (x + (a + 1 - a)) (by omega) (by omega)
    rw [show y - (i - (a + 1)) = a from by omega]; exact this
  rw [rot_out D (k := y) (by omega) (by omega)]
  by_cases c3 : x < i - 1
  · rw [rot_at_lo D (by omega) (by omega)]; exact hs _ _ (by omega) (by omega) (by omega)
  by_cases c4 : x = i - 1
  · rw [rot_at_hi D (by omega) (by omega), show x - (i - (a + 1)) = a from by omega]
    exact h2 _ (by omega) (by omega)
  rw [rot_out D (by omega) (by omega)]
  exact hs _ _ (by omega) (by omega) (by omega)

theorem insert_last (D : Nat → α) (a i m : Nat) (hi : a ≤ i) (him : i ≤ m) (hs : SortedF T D a m)
    (h1 : ∀ k, a ≤ k → k < i → T (D k) (D m)) (h2 : ∀ k, i ≤ k → k < m → T (D m) (D k)) : SortedF T (rotF D i m (m + 1)) a (m + 1) := by
  intro x y hx hxy hy
  by_cases c1 : y < i
  · rw [rot_out D (by omega) (by omega), rot_out D (by omega) (by omega)]
    exact hs _ _ (by omega) (by omega) (by omega)
  by_cases c2 : y = i
  · rw [rot_out D (by omega) (by omega), rot_at_lo D (by omega) (by omega), show y + (m - i) = m from by omega]
    exact h1 _ (by omega) (by omega)
  rw [rot_at_hi D (k := y) (by omega) (by omega)]
  by_cases c3 : x < i
  · rw [rot_out D (by omega) (by omega)]; exact hs _ _ (by omega) (by omega) (by omega)
  by_cases c4 : x = i
  · rw [rot_at_lo D (by omega) (by omega), show x + (m - i) = m from by omega]
    exact h2 _ (by omega) (by omega)
  rw [rot_at_hi D (by omega) (by omega)]
  exact hs _ _ (by omega) (by omega) (by omega)

/-- the two halves behind the rotation -/
structure Halves (D R : Nat → α) (a s m e mid b : Nat) : Prop where
  s1 : SortedF T R a s
  s2 : SortedF T R s mid
  s3 : SortedF T R mid e
  s4 : SortedF T R e b
  l1 : ∀ k, a ≤ k → k < s → ∃ k', a ≤ k' ∧ k' < m ∧ R k = D k'
  r1 : ∀ k, s ≤ k → k < mid → ∃ k', m ≤ k' ∧ k' < b ∧ R k = D k'
  l2 : ∀ k, mid ≤ k → k < e → ∃ k', a ≤ k' ∧ k' < m ∧ R k = D k'
  r2 : ∀ k, e ≤ k → k < b → ∃ k', m ≤ k' ∧ k' < b ∧ R k = D k'
  cross : ∀ k l, a ≤ k → k < mid → mid ≤ l → l < b → T (R k) (R l)

theorem halves (tr : ∀ x y z, T x y → T y z → T x z) (D : Nat → α) (a s m e mid b : Nat) (h1 : a ≤ s) (h2 : s ≤ m) (h3 : m ≤ e) (h4 : e ≤ b) (he : e + s = mid + m) (hsm : s ≤ mid) (hme : mid ≤ e)
    (hl : SortedF T D a m) (hr : SortedF T D m b)
    (lo : ∀ c, a ≤ c → c < s → e < b → T (D c) (D e)) (hi : s < m → m < e → T (D (e - 1)) (D s)) : Halves T D (rotF D s m e) a s m e mid b := by
  have R1 : ∀ k, a ≤ k → k < s → rotF D s m e k = D k := fun k _ _ => rot_out D (by omega) (by omega)
  have R2 : ∀ k, s ≤ k → k < mid → rotF D s m e k = D (k + (m - s)) := fun k _ _ => rot_at_lo D (by omega) (by omega)
  have R3 : ∀ k, mid ≤ k → k < e → rotF D s m e k = D (k - (e - m)) := fun k _ _ => rot_at_hi D (by omega) (by omega)
  have R4 : ∀ k, e ≤ k → k < b → rotF D s m e k = D k := fun k _ _ => rot_out D (by omega) (by omega)
  have le : ∀ i j, m ≤ i → i ≤ j → j < b → ∀ z, T (D j) z → T (D i) z := by
    intro i j h h' h'' z hz
    by_cases e : i = j
    · rw [e]; exact hz
    · exact tr _ _ _ (hr i j h (by omega) h'') hz
  have ge : ∀ i j, a ≤ i → i ≤ j → j < m → ∀ z, T z (D i) → T z (D j) := by
    intro i j h h' h'' z hz
    by_cases e : i = j
    · rw [← e]; exact hz
    · exact tr _ _ _ hz (hl i j h (by omega) h'')
  refine ⟨?_, ?_, ?_, ?_, ?_, ?_, ?_, ?_, ?_⟩
  · intro i j a1 a2 a3
    rw [R1 i (by omega) (by omega), R1 j (by omega) (by omega)]; exact hl _ _ (by omega) (by omega) (by omega)
  · intro i j a1 a2 a3
    rw [R2 i (by omega) (by omega), R2 j (by omega) (by omega)]; exact hr _ _ (by omega) (by omega) (by omega)
  · intro i j a1 a2 a3
    rw [R3 i (by omega) (by omega), R3 j (by omega) (by omega)]; exact hl _ _ (by omega) (by omega) (by omega)
  · intro i j a1 a2 a3
    rw [R4 i (by omega) (by omega), R4 j (by omega) (by omega)]; exact hr _ _ (by omega) (by omega) (by omega)
  · intro k a1 a2; exact ⟨k, by omega, by omega, R1 k a1 a2⟩
  · intro k a1 a2; exact ⟨k + (m - s), by omega, by omega, R2 k a1 a2⟩
  · intro k a1 a2; exact ⟨k - (e - m), by omega, by omega, R3 k a1 a2⟩
  · intro k a1 a2; exact ⟨k, by omega, by omega, R4 k a1 a2⟩
  · intro k l a1 a2 a3 a4
    by_cases c1 : k < s
    · rw [R1 k a1 c1]
      by_cases c2 : l < e
      · rw [R3 l a3 c2]; exact hl _ _ (by omega) (by omega) (by omega)
      · rw [R4 l (by omega) a4]
        have := lo k a1 c1 (by omega)
        by_cases e' : l = e
        · rw [e']; exact this
        · exact tr _ _ _ this (hr e l (by omega) (by omega) a4)
    · rw [R2 k (by omega) a2]
      by_cases c2 : l < e
      · rw [R3 l a3 c2]
        have := hi (by omega) (by omega)
        exact le _ (e - 1) (by omega) (by omega) (by omega) _ (ge s _ (by omega) (by omega) (by omega) _ this)
      · rw [R4 l (by omega) a4]; exact hr _ _ (by omega) (by omega) (by omega)

/-- two sorted halves, all of the one ahead of all of the other -/
theorem sorted_join (R : Nat → α) (a mid b : Nat) (h1 : SortedF T R a mid) (h2 : SortedF T R mid b) (hc : ∀ k l, a ≤ k → k < mid → mid ≤ l → l < b → T (R k) (R l)) : SortedF T R a b := by
  intro i j a1 a2 a3
  by_cases c1 : j < mid
  · exact h1 i j a1 a2 c1
  · by_cases c2 : i < mid
    · exact hc i j a1 c2 (by omega) a3
    · exact h2 i j (by omega) a2 a3
end Go.Proofs.YtbjjanmafejlnaaDoor.Mg
