/- Plain facts on float64: whole numbers up to a thousand, their texts, and parts of them. No program in sight. -/
import Derived.Test.YtbjjanmafejlnaaDoorFlSigns
namespace Go.Proofs.YtbjjanmafejlnaaDoor.Fl
open Go Ieee

theorem div_pow10 (n : Nat) : n * 1000 / 10 = n * 100 := by omega
theorem dec_thousand (n : Nat) (h : 1 ≤ n) : Lib.decDigits (n * 1000) = Lib.decDigits n ++ [48, 48, 48] := by
  rw [Lib.decDigits, dif_neg (by omega), Lib.decDigits, dif_neg (by omega), Lib.decDigits, dif_neg (by omega)]
  rw [show n * 1000 / 10 / 10 / 10 = n from by omega, show n * 1000 / 10 / 10 % 10 = 0 from by omega, show n * 1000 / 10 % 10 = 0 from by omega, show n * 1000 % 10 = 0 from by omega]
  simp
theorem text_whole_fact : ∀ n : Nat, n < 1001 → kind (floatOfInt .f64 n) ≠ 6 ∧ kind (floatOfInt .f64 n) ≠ 5 ∧ kind (floatOfInt .f64 n) ≠ 0 ∧ geBig (floatOfInt .f64 n) = false ∧ leMbig (floatOfInt .f64 n) = false ∧ minusF (floatOfInt .f64 n) = false ∧ amount (floatOfInt .f64 n) = n * 1000 ∧ floatOfInt .f64 n < 2 ^ 64 := by
  decide +kernel
theorem text_whole (n : Nat) (h : n < 1001) : textL (floatOfInt .f64 n) = Lib.decDigits n ++ [46, 48, 48, 48] := by
  obtain ⟨h6, h5, h0, hb, hb2, hm, ha, _⟩ := text_whole_fact n h
  unfold textL
  rw [if_neg h6, if_neg h5, if_neg h0, hb, hb2, hm, ha]
  simp only [Bool.false_eq_true, if_false, List.nil_append]
  by_cases h1 : 1 ≤ n
  · rw [dec_thousand n h1]
    have hp := decDigits_pos n
    have e : pad4 (Lib.decDigits n ++ [48, 48, 48]) = Lib.decDigits n ++ [48, 48, 48] := by
      have h4 : 4 - (Lib.decDigits n ++ [48, 48, 48]).length = 0 := by simp; omega
      unfold pad4; rw [h4]; rfl
    rw [e]
    unfold dotted
    have e2 : (Lib.decDigits n ++ [48, 48, 48]).length - 3 = (Lib.decDigits n).length := by simp
    rw [e2, List.take_left, List.drop_left]
  · obtain rfl : n = 0 := by omega
    simp [Lib.decDigits, pad4, dotted]

def twiceB (a : Nat) : Bool := match D (floatOfInt .f64 a) with | .number s m p => !s && m != 0 && D (floatOfInt .f64 (a * 2 : Nat)) == .number false m (p + 1) | _ => false
/-- twice a number: the same digits, one place up -/
theorem twice_fact : ∀ a : Nat, a < 1001 → a = 0 ∨ ∃ m p, D (floatOfInt .f64 a) = .number false m p ∧ D (floatOfInt .f64 (a * 2 : Nat)) = .number false m (p + 1) ∧ m ≠ 0 := by
  have h : ∀ a : Nat, a < 1001 → a = 0 ∨ twiceB a = true := by decide +kernel
  intro a ha
  rcases h a ha with h | h
  · exact .inl h
  · unfold twiceB at h
    split at h
    · rename_i s m p hd
      simp only [Bool.and_eq_true, Bool.not_eq_true', bne_iff_ne, ne_eq, beq_iff_eq] at h
      obtain ⟨⟨rfl, h1⟩, h2⟩ := h
      exact .inr ⟨m, p, hd, h2, h1⟩
    · cases h
theorem part_twice (a b : Nat) (ha : a < 1001) (hb : b < 1001) (ha0 : a ≠ 0) (hb0 : b ≠ 0) :
    Ieee.double.div (floatOfInt .f64 (a * 2 : Nat)) (floatOfInt .f64 (b * 2 : Nat)) = Ieee.double.div (floatOfInt .f64 a) (floatOfInt .f64 b) := by
  rcases twice_fact a ha with h | ⟨m, p, h1, h2, h3⟩
  · exact absurd h ha0
  rcases twice_fact b hb with h | ⟨n, q, g1, g2, g3⟩
  · exact absurd h hb0
  unfold Format.div
  show Option.map _ ((D _).quotient 54 (D _)) = Option.map _ ((D _).quotient 54 (D _))
  rw [h1, h2, g1, g2]
  simp only [Datum.quotient, if_neg g3]
  congr 4
  omega

theorem read_norm {b : Nat} {s : Bool} {m : Nat} {p : Int} (h : D b = .number s m p) : p = -1074 ∨ 2 ^ 52 ≤ m := by
  unfold D Format.read at h
  simp only [least, binade52, infR] at h
  split at h
  · cases h; exact .inl rfl
  · split at h
    · cases h; exact .inr (by omega)
    · split at h <;> cases h
theorem whole_norm (N : Nat) (h1 : 1 ≤ N) (h2 : N < 2 ^ 53) : ∃ m, ∃ I : Nat, D (floatOfInt .f64 N) = .number false m ((I : Int) - 54) ∧ 2 ^ 52 ≤ m ∧ m < 2 ^ 53 ∧ m * 2 ^ I = N * 2 ^ 54 := by
  obtain ⟨m, p, g1, g2, g3⟩ := whole_exact false N h2
  have e : D (floatOfInt .f64 N) = .number false m p := by
    rw [← g1]
    show D (Ieee.double.nearest _ _ 0) = _
    congr 2
  have hm := (read_place e).2.2
  unfold mval at g3
  have hp : -54 < p := by
    refine Int.lt_of_not_ge fun hp => ?_
    have k1 : m * 2 ^ (p + 1074).toNat < 2 ^ 53 * 2 ^ (p + 1074).toNat := Nat.mul_lt_mul_of_pos_right hm (Nat.two_pow_pos _)
    rw [← Nat.pow_add, g3] at k1
    have k2 : 1 * 2 ^ (0 + 1074 : Int).toNat ≤ N * 2 ^ (0 + 1074 : Int).toNat := Nat.mul_le_mul_right _ h1
    rw [Nat.one_mul] at k2
    have k3 := (Nat.pow_lt_pow_iff_right (by omega : 1 < 2)).1 (Nat.lt_of_le_of_lt k2 k1)
    omega
  have hn : 2 ^ 52 ≤ m := by
    rcases read_norm e with h | h
    · omega
    · exact h
  refine ⟨m, (p + 54).toNat, by rw [e]; congr 1; omega, hn, hm, ?_⟩
  have e1 : (p + 1074).toNat = (p + 54).toNat + (0 + 1020 : Int).toNat := by omega
  have e2 : (0 + 1074 : Int).toNat = 54 + (0 + 1020 : Int).toNat := by omega
  rw [e1, e2, Nat.pow_add, Nat.pow_add, ← Nat.mul_assoc, ← Nat.mul_assoc] at g3
  exact Nat.eq_of_mul_eq_mul_right (Nat.two_pow_pos _) g3

theorem cut_even_exact (s : Bool) (n drop : Nat) (h : n % 2 ^ drop = 0) : Toward.even.cut s n drop = n / 2 ^ drop := by
  simp only [Toward.cut, gap_div, gap_mod, h]
  have : 0 < 1 <<< min drop (n.log2 + 2) := by rw [Nat.shiftLeft_eq, Nat.one_mul]; exact Nat.two_pow_pos _
  have e : (1 <<< min drop (n.log2 + 2) == 2 * 0) = false := by simp
  simp [e]

/-- a number that the format has, however it is said, is written as it is -/
theorem nearest_exact_shift (neg : Bool) (u t : Nat) (place : Int) (hu : u < 2 ^ 53) (hu0 : u ≠ 0) (hp : -1074 ≤ place + t) (hov : place + t + u.log2 ≤ 1022) :
    ∃ k q, D (Ieee.double.nearest neg (u * 2 ^ t) place) = .number neg k q ∧ -1074 ≤ q ∧ mval k q = mval u (place + t) := by
  have h0 : u * 2 ^ t ≠ 0 := Nat.mul_ne_zero hu0 (Nat.ne_of_gt (Nat.two_pow_pos _))
  have hlog : (u * 2 ^ t).log2 = u.log2 + t := by
    rw [Nat.log2_eq_iff h0]
    have h1 := Nat.log2_self_le hu0
    have h2 := @Nat.lt_log2_self u
    rw [Nat.pow_add, show u.log2 + t + 1 = (u.log2 + 1) + t from by omega, Nat.pow_add]
    exact ⟨Nat.mul_le_mul_right _ h1, Nat.mul_lt_mul_of_pos_right h2 (Nat.two_pow_pos _)⟩
  obtain ⟨k, q, h1, h2, _, h4⟩ := read_nearest' neg (u * 2 ^ t) place (fun _ => by rw [hlog]; omega)
  refine ⟨k, q, h1, h2, ?_⟩
  rw [h4 h0]
  have hl : u.log2 ≤ 52 := by have := log2_lt hu0 hu; omega
  have hlast : last (u * 2 ^ t) place ≤ place + t := by unfold last; rw [hlog]; omega
  have hL : -1074 ≤ last (u * 2 ^ t) place := by unfold last; omega
  unfold kept mval
  generalize last (u * 2 ^ t) place = l at *
  rw [Nat.shiftLeft_eq]
  by_cases hc : l ≤ place
  · have e1 : (l - place).toNat = 0 := by omega
    rw [e1, cut_even_zero, Nat.mul_assoc, Nat.mul_assoc, ← Nat.pow_add, ← Nat.pow_add]
    congr 2; omega
  · obtain ⟨d, hd⟩ : ∃ d : Nat, l - place = d := ⟨_, (Int.toNat_of_nonneg (by omega)).symm⟩
    have e1 : (l - place).toNat = d := by omega
    have e2 : (place - l).toNat = 0 := by omega
    obtain ⟨t', ht'⟩ : ∃ t' : Nat, t = t' + d := ⟨t - d, by omega⟩
    rw [e1, e2, Nat.pow_zero, Nat.mul_one, ht', Nat.pow_add, ← Nat.mul_assoc]
    rw [cut_even_exact _ _ _ (Nat.mul_mod_left _ _), Nat.mul_div_cancel _ (Nat.two_pow_pos _), Nat.mul_assoc, ← Nat.pow_add]
    congr 2; omega

theorem zero_part : ∀ a : Nat, a < 1001 → a = 0 ∨ Ieee.double.div (floatOfInt .f64 0) (floatOfInt .f64 a) = some 0 := by decide +kernel

theorem part_exact (a n : Nat) (ha0 : 1 ≤ a) (ha : a ≤ 1000) (hn0 : 1 ≤ n) (hn : n ≤ 1000) :
    ∃ r k q, Ieee.double.div (floatOfInt .f64 (a * n : Nat)) (floatOfInt .f64 a) = some r ∧ D r = .number false k q ∧ -1074 ≤ q ∧ mval k q = mval n 0 := by
  have hp : a * n ≤ 1000 * 1000 := Nat.mul_le_mul ha hn
  have hp1 : 1 ≤ a * n := Nat.mul_pos ha0 hn0
  obtain ⟨M, I, m1, m2, m3, m4⟩ := whole_norm (a * n) hp1 (by omega)
  obtain ⟨A, J, a1, a2, a3, a4⟩ := whole_norm a ha0 (by omega)
  have hMA : M * 2 ^ I = n * A * 2 ^ J := by
    rw [m4, Nat.mul_assoc n A, a4, Nat.mul_comm a n, Nat.mul_assoc]
  have hIJ : I ≤ J + 54 := by
    refine Nat.le_of_not_lt fun h => ?_
    obtain ⟨d, rfl⟩ : ∃ d, I = J + 55 + d := ⟨I - (J + 55), by omega⟩
    rw [show J + 55 + d = (55 + d) + J from by omega, Nat.pow_add, ← Nat.mul_assoc] at hMA
    have h1 := Nat.eq_of_mul_eq_mul_right (Nat.two_pow_pos J) hMA
    have h2 : 2 ^ 52 * 2 ^ 55 ≤ M * 2 ^ (55 + d) := Nat.mul_le_mul m2 (Nat.pow_le_pow_right (by omega) (by omega))
    have h3 : n * A ≤ 1000 * 2 ^ 53 := Nat.mul_le_mul hn (by omega)
    rw [h1] at h2
    have h4 := Nat.le_trans h2 h3
    rw [← Nat.pow_add] at h4
    omega
  obtain ⟨t, ht⟩ : ∃ t, J + 54 = I + t := ⟨J + 54 - I, by omega⟩
  have hdiv : M * 2 ^ 54 = A * (n * 2 ^ t) := by
    refine Nat.eq_of_mul_eq_mul_right (Nat.two_pow_pos I) ?_
    rw [Nat.mul_right_comm, hMA, Nat.mul_assoc, ← Nat.pow_add, ht, Nat.pow_add, show A * (n * 2 ^ t) * 2 ^ I = n * A * (2 ^ t * 2 ^ I) from by
      rw [Nat.mul_comm A, Nat.mul_assoc, Nat.mul_assoc, Nat.mul_assoc]; congr 1
      rw [Nat.mul_left_comm, Nat.mul_left_comm]]
    congr 1; exact Nat.mul_comm _ _
  have hl1 : M.log2 = 52 := by rw [Nat.log2_eq_iff (by omega)]; exact ⟨m2, m3⟩
  have hl2 : A.log2 = 52 := by rw [Nat.log2_eq_iff (by omega)]; exact ⟨a2, a3⟩
  have hq : (D (floatOfInt .f64 (a * n : Nat))).quotient 54 (D (floatOfInt .f64 a)) = some (.number false (n * 2 ^ (t + 1)) (-((t : Int) + 1))) := by
    rw [m1, a1]
    simp only [Datum.quotient, if_neg (show A ≠ 0 by omega), hl1, hl2]
    rw [show 54 + 52 - 52 = 54 from rfl, Nat.shiftLeft_eq, hdiv, Nat.mul_div_cancel_left _ (by omega), Nat.mul_mod_right]
    simp only [Bool.false_bne, Bool.xor_false]
    congr 2
    · simp; rw [Nat.pow_succ, Nat.mul_comm (2 ^ t) 2, Nat.mul_left_comm]
    · omega
  obtain ⟨k, q, f1, f2, f3⟩ := nearest_exact_shift false n (t + 1) (-((t : Int) + 1)) (by omega) (by omega) (by omega) (by
    have := log2_lt (m := n) (e := 10) (by omega) (by omega); omega)
  refine ⟨_, k, q, div_eq hq, f1, f2, ?_⟩
  rw [f3]; congr 1; omega
end Go.Proofs.YtbjjanmafejlnaaDoor.Fl
