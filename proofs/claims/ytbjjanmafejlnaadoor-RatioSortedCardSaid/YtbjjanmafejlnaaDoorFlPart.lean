/- Plain facts on float64: 1/x of a zero, the sign, a part of two whole numbers. No program in sight. -/
import Derived.Test.YtbjjanmafejlnaaDoorFlKind
namespace Go.Proofs.YtbjjanmafejlnaaDoor.Fl
open Go Ieee
theorem Done : D 4607182418800017408 = .number false 4503599627370496 (-52) := by decide
/-- 1 / x of a zero -/
theorem one_div_zero (x : Nat) (h : (ord x 0 == some .eq) = true) : ∃ r, Ieee.double.div 4607182418800017408 x = some r ∧ (ord r 0 == some .lt) = minusF x := by
  have h' : (Datum.order (D x) (D 0) == some .eq) = true := h
  rw [Dzero] at h'
  have hp := @read_place x
  have hm : minusF x = match D x with | .number s m _ => s | .infinity s => s | .nan .. => false := rfl
  rw [hm]
  generalize hd : D x = d at *
  rcases d with ⟨s, m, i⟩ | s | ⟨s, m⟩
  · obtain ⟨h1, h2, h3⟩ := hp rfl
    rw [order_num _ _ _ _ _ _ h1 (by omega), cmp_eq'] at h'
    have h4 : val (.number false 0 (-1074)) = 0 := by decide
    rw [h4] at h'
    have h0 : m = 0 := by
      rcases val_sign s m i with ⟨h, hv⟩ | ⟨h, hh, hv⟩ | ⟨h, hh, hv⟩
      · exact h
      all_goals (simp at h'; omega)
    subst h0
    refine ⟨_, div_eq (d := .infinity (false ^^ s)) (by rw [hd, Done]; rfl), ?_⟩
    cases s <;> (dsimp only; decide)
  · cases s <;> simp [Datum.order] at h'
  · simp [Datum.order] at h'
theorem minus_lt (x : Nat) (h : (ord x 0 == some .lt) = true) : minusF x = true := by
  have h' : (Datum.order (D x) (D 0) == some .lt) = true := h
  rw [Dzero] at h'
  have hp := @read_place x
  have hm : minusF x = match D x with | .number s m _ => s | .infinity s => s | .nan .. => false := rfl
  rw [hm]
  generalize hd : D x = d at *
  rcases d with ⟨s, m, i⟩ | s | ⟨s, m⟩
  · obtain ⟨h1, h2, h3⟩ := hp rfl
    rw [order_num _ _ _ _ _ _ h1 (by omega), cmp_lt'] at h'
    have h4 : val (.number false 0 (-1074)) = 0 := by decide
    rw [h4] at h'
    simp at h'
    rcases val_sign s m i with ⟨h, hv⟩ | ⟨h, hh, hv⟩ | ⟨h, hh, hv⟩
    · omega
    · exact hh
    · omega
  · cases s
    · simp [Datum.order] at h'
    · rfl
  · simp [Datum.order] at h'
theorem minus_no (x : Nat) (h : (ord x 0 == some .lt) = false) (he : (ord x 0 == some .eq) = false) : minusF x = false := by
  have h' : (Datum.order (D x) (D 0) == some .lt) = false := h
  have he' : (Datum.order (D x) (D 0) == some .eq) = false := he
  rw [Dzero] at h' he'
  have hp := @read_place x
  have hm : minusF x = match D x with | .number s m _ => s | .infinity s => s | .nan .. => false := rfl
  rw [hm]
  generalize hd : D x = d at *
  rcases d with ⟨s, m, i⟩ | s | ⟨s, m⟩
  · obtain ⟨h1, h2, h3⟩ := hp rfl
    rw [order_num _ _ _ _ _ _ h1 (by omega), cmp_lt'] at h'
    rw [order_num _ _ _ _ _ _ h1 (by omega), cmp_eq'] at he'
    have h4 : val (.number false 0 (-1074)) = 0 := by decide
    rw [h4] at h' he'
    simp at h' he'
    rcases val_sign s m i with ⟨h, hv⟩ | ⟨h, hh, hv⟩ | ⟨h, hh, hv⟩
    · omega
    · omega
    · exact hh
  · cases s
    · rfl
    · simp [Datum.order] at h'
  · rfl
def PartOf (a b : Int) (r : Nat) : Prop := match Ieee.double.div (floatOfInt .f64 a) (floatOfInt .f64 b) with | some q => r = q | none => ∃ s f, D r = .nan s f
theorem part_lt {a b : Int} {r : Nat} (h : Ieee.double.div (floatOfInt .f64 a) (floatOfInt .f64 b) = some r) : r < 2 ^ 64 := Ieee.double.div_lt h
theorem cut_lt (x y t : Nat) : Question.cut (.nanBits .f64 x y) t < 2 ^ 64 := by
  simp only [Question.cut]
  have h1 : (t / 2) % (2 ^ 52 - 1) < 2 ^ 52 - 1 := Nat.mod_lt _ (by omega)
  have h2 : t % 2 < 2 := Nat.mod_lt _ (by omega)
  omega
theorem part_same {a b : Int} {r r' : Nat} (h : PartOf a b r) (h' : PartOf a b r') : sameF r r' = true := by
  rw [same_iff]
  unfold PartOf at h h'
  split at h
  · rename_i q e; simp only [e] at h'; subst h; subst h'; simp
  · rename_i e; simp only [e] at h'
    obtain ⟨s, f, h⟩ := h
    obtain ⟨s', f', h'⟩ := h'
    simp [kind, h, h', kd, val]
end Go.Proofs.YtbjjanmafejlnaaDoor.Fl
