/- Plain facts on float64: the kinds of floats as math.IsNaN, IsInf and Signbit tell them. No program in sight; of bits below 2^64. -/
import Derived.Test.YtbjjanmafejlnaaDoorFlInt
import Derived.RowKit
import Derived.Laws.Wrap64
namespace Go.Proofs.YtbjjanmafejlnaaDoor.Fl
open Go Ieee
theorem neg_read (x : Nat) (hx : x < 2 ^ 64) : D (Op.negFloat .f64 x) = (D x).opposite := by
  have e : Op.negFloat .f64 x = x ^^^ 2 ^ 63 := rfl
  have h1 : (x ^^^ 2 ^ 63) % 2 ^ 63 = x % 2 ^ 63 := by
    rw [Nat.xor_mod_two_pow]; simp
  have h2 : (x ^^^ 2 ^ 63) / 2 ^ 63 = (x / 2 ^ 63) ^^^ 1 := by
    rw [Nat.xor_div_two_pow]
  unfold D Format.read
  simp only [least, binade52, infR, signW, e]
  have e63 : (9223372036854775808 : Nat) = 2 ^ 63 := rfl
  rw [e63, h1, h2]
  have h3 : x / 2 ^ 63 = 0 ∨ x / 2 ^ 63 = 1 := by omega
  by_cases g1 : x % 2 ^ 63 < 4503599627370496
  · rcases h3 with h | h <;> rw [h] <;> simp only [if_pos g1] <;> rfl
  · by_cases g2 : x % 2 ^ 63 < 9218868437227405312
    · rcases h3 with h | h <;> rw [h] <;> simp only [if_neg g1, if_pos g2] <;> rfl
    · by_cases g3 : x % 2 ^ 63 = 9218868437227405312
      · rcases h3 with h | h <;> rw [h] <;> simp only [if_neg g1, if_neg g2, if_pos g3] <;> rfl
      · rcases h3 with h | h <;> rw [h] <;> simp only [if_neg g1, if_neg g2, if_neg g3] <;> rfl

theorem mval_max {m : Nat} {p : Int} (hp : p ≤ 971) (hm : m < 2 ^ 53) : mval m p ≤ mval 9007199254740991 971 := by
  unfold mval
  exact Nat.mul_le_mul (by omega) (Nat.pow_le_pow_right (by omega) (by omega))

theorem Dmax : D 9218868437227405311 = .number false 9007199254740991 971 := by decide
theorem Dzero : D 0 = .number false 0 (-1074) := by decide

theorem inf_iff (x : Nat) : (ord x 9218868437227405311 == some .gt) = (D x == .infinity false) := by
  show (Datum.order (D x) (D _) == _) = _
  rw [Dmax]
  have hp := @read_place x
  generalize D x = d at *
  rcases d with ⟨s, m, i⟩ | s | ⟨s, m⟩
  · obtain ⟨h1, h2, h3⟩ := hp rfl
    rw [order_num _ _ _ _ _ _ h1 (by omega), cmp_gt', val_num, val_num]
    have h4 := mval_max h2 h3
    have : ¬ (mval 9007199254740991 971 : Int) < (if s then -(mval m i : Int) else mval m i) := by split <;> omega
    simp [this]
  · cases s <;> decide
  · simp [Datum.order]
theorem infn_iff (x : Nat) (hx : x < 2 ^ 64) : (ord (Op.negFloat .f64 x) 9218868437227405311 == some .gt) = (D x == .infinity true) := by
  rw [inf_iff, neg_read x hx]
  rcases D x with ⟨s, m, i⟩ | s | ⟨s, m⟩ <;> cases s <;> rfl
theorem sign_iff (x : Nat) (hx : x < 2 ^ 64) : decide (RowKit.wrap64 x < 0) = (D x).neg := by
  have h : RowKit.wrap64 x = if x < 2 ^ 63 then (x : Int) else x - 2 ^ 64 := by
    unfold RowKit.wrap64; split <;> omega
  rw [h]
  have hn : (D x).neg = (x / 2 ^ 63 % 2 == 1) := by
    unfold D Format.read
    simp only [least, binade52, infR, signW]
    split <;> (try split) <;> (try split) <;> rfl
  rw [hn]
  by_cases hl : x < 2 ^ 63
  · have : x / 2 ^ 63 = 0 := by omega
    rw [if_pos hl, this]; simp
  · have : x / 2 ^ 63 = 1 := by omega
    rw [if_neg hl, this]; simp; omega

theorem kind_chain (x : Nat) (hx : x < 2 ^ 64) : kind x =
    if noneF x then 6 else if ord (Op.negFloat .f64 x) 9218868437227405311 == some .gt then 0 else if ord x 9218868437227405311 == some .gt then 5
    else if ord x 0 == some .lt then 1 else if ord x 0 == some .gt then 4 else if decide (RowKit.wrap64 x < 0) then 2 else 3 := by
  rw [infn_iff x hx, inf_iff, sign_iff x hx, noneF_iff]
  show kd (D x) = if decide (kd (D x) = 6) then _ else if _ then _ else if _ then _ else if Datum.order (D x) (D 0) == _ then _ else if Datum.order (D x) (D 0) == _ then _ else _
  rw [Dzero]
  have hp := @read_place x
  generalize D x = d at *
  rcases d with ⟨s, m, i⟩ | s | ⟨s, m⟩
  · obtain ⟨h1, h2, h3⟩ := hp rfl
    rw [order_num _ _ _ _ _ _ h1 (by omega), cmp_gt', cmp_lt']
    have h4 : val (.number false 0 (-1074)) = 0 := by decide
    have h5 := kd_num_ge s m i
    have e1 : (Datum.number s m i == Datum.infinity true) = false := rfl
    have e2 : (Datum.number s m i == Datum.infinity false) = false := rfl
    have e3 : (Datum.number s m i).neg = s := rfl
    rw [h4, e1, e2, e3, if_neg (by simp; omega), val_kind]
    simp
  · cases s <;> simp [kd]
  · simp [kd]
end Go.Proofs.YtbjjanmafejlnaaDoor.Fl
