/- The walks of the reference's Digits and Signed: the decimal numeral of every uint64 and every int; the world is left as it was. -/
import Derived.Test.YtgabifkechofnaaDoorRows
import Derived.Test.YtgabifkechofnaaDoorBase
import Derived.Lib.ItoaNum
import Derived.Lib.Strings
namespace Go.Proofs.YtgabifkechofnaaDoor
open Go.RowKit

theorem digit_cut (k : Nat) (hk : k < 10) : (⟨#[48, 49, 50, 51, 52, 53, 54, 55, 56, 57]⟩ : ByteArray).extract k (k + 1) = ⟨#[UInt8.ofNat (48 + k)]⟩ := by
  have : ∀ k : Fin 10, (⟨#[48, 49, 50, 51, 52, 53, 54, 55, 56, 57]⟩ : ByteArray).extract k.val (k.val + 1) = ⟨#[UInt8.ofNat (48 + k.val)]⟩ := by decide
  exact this ⟨k, hk⟩

theorem ba_append (a b : List UInt8) : (⟨a.toArray⟩ : ByteArray) ++ ⟨b.toArray⟩ = ⟨(a ++ b).toArray⟩ := by
  apply ByteArray.ext; simp [ByteArray.data_append]
theorem decDigits_step (m : Nat) (h : 9 < m) : Lib.decDigits m = Lib.decDigits (m / 10) ++ [UInt8.ofNat (48 + m % 10)] := by
  rw [Lib.decDigits, dif_neg (by omega)]
theorem decDigits_len (n : Nat) (hn : n < 2 ^ 64) : (Lib.decDigits n).length ≤ 20 := by
  have key : ∀ k m, m < 10 ^ (k + 1) → (Lib.decDigits m).length ≤ k + 1 := by
    intro k
    induction k with
    | zero => intro m hm; rw [Lib.decDigits, dif_pos (by omega)]; simp
    | succ k ih =>
      intro m hm
      by_cases h : m < 10
      · rw [Lib.decDigits, dif_pos h]; simp
      · rw [decDigits_step m (by omega)]
        have := ih (m / 10) (by rw [Nat.pow_succ] at hm; omega)
        simp; omega
  exact key 19 n (by omega)

set_option maxHeartbeats 400000 in
theorem digits_any (n : Nat) (hn : n < 2 ^ 64) (w : World) : Calls Tryd.prog 62 #[.int .u64 n] w fun e w' => e = .returned (.string ⟨(Lib.decDigits n).toArray⟩) ∧ w = w' := by
  have hlen := decDigits_len n hn
  go_enter Tryd.func62, Tryd.ntmps62
  go_wp2
  go_loop [0, 3] (fun a s => ∃ m l, a = .int .u64 (m : Nat) ∧ s = .string ⟨(l : List UInt8).toArray⟩ ∧ m < 2 ^ 64 ∧ l.length ≤ 20 ∧ Lib.decDigits n = Lib.decDigits m ++ l) (fun a _ => (intOf a).toNat)
  case atStart => exact ⟨n, [], rfl, rfl, hn, by simp, by simp⟩
  case round =>
    obtain ⟨m, l, rfl, rfl, hm, hl, hd⟩ := hrel
    have HD := Lib.hid hd; clear hd
    by_cases h9 : 9 < m
    · have hs := decDigits_step m h9
      have HS := Lib.hid hs; clear hs
      have hl2 : l.length + 1 ≤ 20 := by
        have := congrArg List.length HD.out
        rw [HS.out] at this; simp at this
        have h3 : 0 < (Lib.decDigits (m / 10)).length := by rw [Lib.decDigits]; split <;> simp
        omega
      go_wp2
      refine ⟨⟨m / 10, UInt8.ofNat (48 + m % 10) :: l, by simp, ?_, by omega, by simpa using hl2, ?_⟩, ?_⟩
      · rw [digit_cut _ (by omega)]; exact congrArg Value.string (ba_append [_] l)
      · rw [HD.out, HS.out]; simp
      · simp [intOf]; omega
    · go_wp2
      go_ret
      refine ⟨?_, rfl⟩
      rw [HD.out, Lib.decDigits, dif_pos (by omega)]
      show Ending.returned (.string (_ ++ _)) = _
      rw [digit_cut _ (by omega)]; exact congrArg (fun s => Ending.returned (Value.string s)) (ba_append [_] l)

theorem digits_at (k : Int) (h0 : 0 ≤ k) (h : k < 18446744073709551616) (w : World) : Calls Tryd.prog 62 #[.int .u64 k] w fun e w' => e = .returned (.string ⟨(Lib.decDigits k.toNat).toArray⟩) ∧ w = w' := by
  obtain ⟨m, rfl⟩ := Int.eq_ofNat_of_zero_le h0
  exact digits_any m (by omega) w

theorem signed_any (n : Int) (h1 : -9223372036854775808 ≤ n) (h2 : n ≤ 9223372036854775807) (w : World) : Calls Tryd.prog 49 #[.int .i64 n] w fun e w' => e = .returned (.string ⟨(Lib.itoa n).toArray⟩) ∧ w = w' := by
  by_cases h : n < 0
  · obtain ⟨m, rfl⟩ : ∃ m : Nat, n = -(m : Int) - 1 := ⟨(-(n + 1)).toNat, by omega⟩
    have hlen := decDigits_len (m + 1) (by omega)
    go_enter Tryd.func49, Tryd.ntmps49
    go_wp2_with fail
    refine (digits_at _ (by omega) (by omega) _).mono ?_
    rintro e w' ⟨rfl, rfl⟩
    rw [show ((m : Int) + 1).toNat = m + 1 from by omega]
    have hl2 : ¬ 9223372036854775807 < 1 + (Lib.decDigits (m + 1)).length := by omega
    go_wp2
    go_ret
    refine ⟨?_, rfl⟩
    unfold Lib.itoa
    rw [if_pos (by omega), show (-(m : Int) - 1).natAbs = m + 1 from by omega]
    exact congrArg (fun s => Ending.returned (Value.string s)) (ba_append [45] _)
  · obtain ⟨m, rfl⟩ := Int.eq_ofNat_of_zero_le (by omega : 0 ≤ n)
    go_enter Tryd.func49, Tryd.ntmps49
    go_wp2_with fail
    refine (digits_at _ (by omega) (by omega) _).mono ?_
    rintro e w' ⟨rfl, rfl⟩
    go_wp2
    go_ret
    refine ⟨?_, rfl⟩
    unfold Lib.itoa
    rw [if_neg (by omega)]
    rfl
end Go.Proofs.YtgabifkechofnaaDoor
