/- The digits of base 16 of a number, in plain Lean. -/
import Derived.Lib.Bytealg
namespace Go.Proofs.YtolegljmaacabaaDoor

def hexS : ByteArray := ⟨#[48, 49, 50, 51, 52, 53, 54, 55, 56, 57, 97, 98, 99, 100, 101, 102]⟩
def hexC (d : Nat) : UInt8 := (hexS.data.toList[d]?).getD 0
/-- the last k digits -/
def hexN : Nat → Nat → List UInt8
  | 0, _ => []
  | k + 1, n => hexC (n / 16 ^ k % 16) :: hexN k n
theorem hexN_length : ∀ k n, (hexN k n).length = k
  | 0, _ => rfl
  | k + 1, n => by simp [hexN, hexN_length k n]
theorem hexN_pad (k n : Nat) (h : n / 16 ^ k = 0) : ∀ m, hexN (m + k) n = List.replicate m 48 ++ hexN k n
  | 0 => by simp
  | m + 1 => by
    have e : n / 16 ^ (m + k) = 0 := by
      rw [Nat.div_eq_zero_iff] at h ⊢
      rcases h with h | h
      · exact absurd h (Nat.ne_of_gt (Nat.pow_pos (by decide)))
      · exact .inr (Nat.lt_of_lt_of_le h (Nat.pow_le_pow_right (by decide) (by omega)))
    rw [show m + 1 + k = (m + k) + 1 by omega, hexN, e, hexN_pad k n h m, List.replicate_succ]; rfl
theorem div_pow_step (n k : Nat) : n / 16 ^ k / 16 = n / 16 ^ (k + 1) := by rw [Nat.div_div_eq_div_mul, Nat.pow_succ]
theorem hex_zero {n : Nat} (h : n < 4294967296) {k : Nat} (hk : 16 ≤ n / 16 ^ k) : k < 7 := by
  apply Classical.byContradiction; intro h7
  have h8 : 7 ≤ k := by omega
  have h1 : (16 : Nat) ^ 7 ≤ 16 ^ k := Nat.pow_le_pow_right (by decide) h8
  have h2 : n / 16 ^ k ≤ n / 16 ^ 7 := Nat.div_le_div_left h1 (by decide)
  have h3 : n / 16 ^ 7 < 16 := by omega
  omega
end Go.Proofs.YtolegljmaacabaaDoor
