/- The walks of crc.Add, Sum and of the reference's: both compute the same sum of every text; the world is left as it was. -/
import Derived.Test.YtolegljmaacabaaDoorRows
import Derived.Test.YtolegljmaacabaaDoorBase
import Derived.Laws.BitsAllLaws
namespace Go.Proofs.YtolegljmaacabaaDoor
open Go.RowKit

theorem ret_int {k : IntKind} {a b : Int} (h : a = b) : Ending.returned (.int k a) = .returned (.int k b) := by rw [h]
def cstep (m : Nat) : Nat := if m % 2 = 1 then (m / 2) ^^^ 3988292384 else m / 2
def citer : Nat → Nat → Nat
  | 0, m => m
  | k + 1, m => citer k (cstep m)
def crcAdd (c b : Nat) : Nat := citer 8 (c ^^^ b)
def crcL (l : List UInt8) : Nat := l.foldl (fun c b => crcAdd c b.toNat) 4294967295
def crcSum (l : List UInt8) : Nat := 4294967295 - crcL l

theorem xor_lt32 {a b : Nat} (ha : a < 4294967296) (hb : b < 4294967296) : a ^^^ b < 4294967296 := Nat.xor_lt_two_pow (n := 32) ha hb
theorem cstep_lt {m : Nat} (h : m < 4294967296) : cstep m < 4294967296 := by
  unfold cstep; split
  · exact xor_lt32 (by omega) (by omega)
  · omega
theorem citer_lt : ∀ k {m : Nat}, m < 4294967296 → citer k m < 4294967296
  | 0, _, h => h
  | k + 1, _, h => citer_lt k (cstep_lt h)
theorem crcAdd_lt {c b : Nat} (hc : c < 4294967296) (hb : b < 256) : crcAdd c b < 4294967296 := citer_lt 8 (xor_lt32 hc (by omega))
theorem crcL_lt (l : List UInt8) : crcL l < 4294967296 := by
  unfold crcL
  have key : ∀ (l : List UInt8) c, c < 4294967296 → l.foldl (fun c b => crcAdd c b.toNat) c < 4294967296 := by
    intro l
    induction l with
    | nil => intro c h; exact h
    | cons b l ih => intro c h; exact ih _ (crcAdd_lt h b.toNat_lt)
  exact key l _ (by omega)
theorem crcL_snoc (l : List UInt8) (b : UInt8) : crcL (l ++ [b]) = crcAdd (crcL l) b.toNat := by simp [crcL]
theorem not32 (x : Nat) (h : x < 4294967296) : (4294967295 : Nat) ^^^ x = 4294967295 - x := by
  apply Nat.eq_of_testBit_eq
  intro i
  rw [Nat.testBit_xor, show (4294967295 : Nat) = 2 ^ 32 - 1 from rfl, Nat.testBit_two_pow_sub_one, show 2 ^ 32 - 1 - x = 2 ^ 32 - (x + 1) by omega, Nat.testBit_two_pow_sub_succ (by omega)]
  by_cases hi : i < 32
  · simp [hi]
  · have : x.testBit i = false := Nat.testBit_lt_two_pow (Nat.lt_of_lt_of_le (show x < 2 ^ 32 by omega) (Nat.pow_le_pow_right (by decide) (by omega)))
    simp [hi, this]

theorem u32_xor_c (m : Nat) (h : m < 4294967296) : bits .xor .u32 ((m : Int) / 2) 3988292384 = (((m / 2) ^^^ 3988292384 : Nat) : Int) := by
  have := u32_xor_nat (m / 2) 3988292384 (by omega) (by omega)
  rw [← this]; rfl
theorem u32_and_c (m : Nat) (h : m < 4294967296) : bits .and .u32 (m : Int) 1 = ((m % 2 : Nat) : Int) := by
  have := u32_and_nat m 1 (by omega) (by omega)
  rw [show (1 : Int) = ((1 : Nat) : Int) from rfl, this, Nat.and_one_is_mod]

def CRel (c b : Nat) (a i : Value) : Prop := ∃ (m k : Nat), a = .int .u32 m ∧ i = .int .i64 k ∧ m < 4294967296 ∧ k ≤ 8 ∧ citer (8 - k) m = crcAdd c b
theorem crel_step {c b m k : Nat} (hm : m < 4294967296) (hk : k < 8) (h : citer (8 - k) m = crcAdd c b) : CRel c b (.int .u32 (cstep m : Nat)) (.int .i64 ((k : Int) + 1)) :=
  ⟨cstep m, k + 1, rfl, by go_num, cstep_lt hm, by omega, by rw [← h, show 8 - k = (8 - (k + 1)) + 1 by omega]; rfl⟩

set_option maxHeartbeats 400000 in
theorem crcAdd_any (c b : Nat) (hc : c < 4294967296) (hb : b < 256) (w : World) : Calls Tryd.prog 44 #[.int .u32 c, .int .u8 b] w fun e w' => e = .returned (.int .u32 (crcAdd c b : Nat)) ∧ w = w' := by
  have hx := u32_xor_nat c b hc (by omega)
  have hl := xor_lt32 hc (show b < 4294967296 by omega)
  have h0 : citer (8 - 0) (c ^^^ b) = crcAdd c b := rfl
  have H0 := Lib.hid h0; clear h0
  generalize c ^^^ b = x at *
  go_enter Tryd.func44, Tryd.ntmps44
  go_wp2_with fail
  go_loop [0, 10] (fun a i => CRel c b a i) (fun _ i => 8 - (intOf i).toNat)
  case atStart => exact ⟨x, 0, rfl, rfl, hl, by omega, H0.out⟩
  case round =>
    clear hx hl H0
    obtain ⟨m, k, rfl, rfl, hm, hk, hi⟩ := hrel
    have HI := Lib.hid hi; clear hi
    have ha := u32_and_c m hm
    have hxx := u32_xor_c m hm
    by_cases hlt : k < 8
    · have hs := crel_step hm hlt HI.out
      have HS := Lib.hid hs; clear hs
      unfold cstep at HS
      by_cases ho : m % 2 = 1
      · have e1 : (((m % 2 : Nat) : Int) == 1) = true := by rw [ho]; rfl
        rw [if_pos ho] at HS
        clear ho
        generalize m % 2 = o at *
        go_wp2
        exact ⟨HS.out, by simp [intOf]; omega⟩
      · have e1 : (((m % 2 : Nat) : Int) == 1) = false := by simp; omega
        rw [if_neg ho] at HS
        clear ho
        generalize m % 2 = o at *
        go_wp2
        exact ⟨HS.out, by simp [intOf]; omega⟩
    · obtain rfl : k = 8 := by omega
      go_wp2
      go_ret
      obtain rfl : m = crcAdd c b := HI.out
      exact ⟨rfl, rfl⟩
set_option maxHeartbeats 400000 in
theorem rcrcAdd_any (c b : Nat) (hc : c < 4294967296) (hb : b < 256) (w : World) : Calls Tryd.prog 45 #[.int .u32 c, .int .u8 b] w fun e w' => e = .returned (.int .u32 (crcAdd c b : Nat)) ∧ w = w' := by
  have hx := u32_xor_nat c b hc (by omega)
  have hl := xor_lt32 hc (show b < 4294967296 by omega)
  have h0 : citer (8 - 0) (c ^^^ b) = crcAdd c b := rfl
  have H0 := Lib.hid h0; clear h0
  generalize c ^^^ b = x at *
  go_enter Tryd.func45, Tryd.ntmps45
  go_wp2_with fail
  go_loop [0, 5] (fun a i => CRel c b a i) (fun _ i => 8 - (intOf i).toNat)
  case atStart => exact ⟨x, 0, rfl, rfl, hl, by omega, H0.out⟩
  case round =>
    clear hx hl H0
    obtain ⟨m, k, rfl, rfl, hm, hk, hi⟩ := hrel
    have HI := Lib.hid hi; clear hi
    have hxx := u32_xor_c m hm
    by_cases hlt : k < 8
    · have hs := crel_step hm hlt HI.out
      have HS := Lib.hid hs; clear hs
      unfold cstep at HS
      by_cases ho : m % 2 = 1
      · have e1 : ((m : Int) % 2 == 1) = true := by simp; omega
        rw [if_pos ho] at HS
        clear ho
        go_wp2
        exact ⟨HS.out, by simp [intOf]; omega⟩
      · have e1 : ((m : Int) % 2 == 1) = false := by simp; omega
        rw [if_neg ho] at HS
        clear ho
        go_wp2
        exact ⟨HS.out, by simp [intOf]; omega⟩
    · obtain rfl : k = 8 := by omega
      go_wp2
      go_ret
      obtain rfl : m = crcAdd c b := HI.out
      exact ⟨rfl, rfl⟩

theorem take_snoc (s : ByteArray) (k : Nat) (h : k < s.size) : s.data.toList.take (k + 1) = s.data.toList.take k ++ [s[k]] := by
  rw [List.take_succ_eq_append_getElem (by simpa using h)]; rfl
theorem take_all (s : ByteArray) : s.data.toList.take s.size = s.data.toList := List.take_of_length_le (by simp)

set_option maxHeartbeats 400000 in
theorem crcSum_any (s : ByteArray) (hs : s.size ≤ maxLen) (w : World) : Calls Tryd.prog 25 #[.string s] w fun e w' => e = .returned (.int .u32 (crcSum s.data.toList : Nat)) ∧ w = w' := by
  unfold maxLen at hs
  go_enter Tryd.func25, Tryd.ntmps25
  go_wp2_with fail
  go_loop [3, 4, 7] (fun a _ i => ∃ k : Nat, k ≤ s.size ∧ i = .int .i64 k ∧ a = .int .u32 (crcL (s.data.toList.take k) : Nat)) (fun _ _ i => s.size - (intOf i).toNat)
  case atStart => exact ⟨0, Nat.zero_le _, rfl, rfl⟩
  case round =>
    obtain ⟨k, hk, rfl, rfl⟩ := hrel
    have hl := crcL_lt (s.data.toList.take k)
    by_cases hlt : k < s.size
    · have hsn := crcL_snoc (s.data.toList.take k) s[k]
      rw [← take_snoc s k hlt] at hsn
      have hb : (s[k].toNat) < 256 := s[k].toNat_lt
      have hcall := crcAdd_any (crcL (s.data.toList.take k)) s[k].toNat hl hb
      have HS := Lib.hid hsn; have HC := Lib.hid hcall; clear hsn hcall
      generalize crcL (s.data.toList.take k) = c at *
      go_wp2_with (go_at_call 44; (with_reducible refine (HC.out _).mono ?_); rintro e w' ⟨rfl, rfl⟩)
      go_round
      case rel => exact ⟨k + 1, by omega, by go_num, by rw [HS.out]⟩
      case measure => simp [intOf]; omega
    · obtain rfl : k = s.size := by omega
      have ht := take_all s
      have hx := u32_xor_nat 4294967295 (crcL s.data.toList) (by omega) (crcL_lt _)
      rw [not32 _ (crcL_lt _), show ((4294967295 : Nat) : Int) = IntKind.u32.max from by decide] at hx
      have HX := Lib.hid hx; clear hx
      rw [ht] at hl ⊢
      have hd : crcSum s.data.toList = 4294967295 - crcL s.data.toList := rfl
      have HD := Lib.hid hd; clear hd ht
      generalize crcL s.data.toList = c at *
      go_wp2
      go_ret
      exact ⟨ret_int (by rw [HD.out]; exact HX.out), rfl⟩

set_option maxHeartbeats 400000 in
theorem rcrcSum_any (s : ByteArray) (hs : s.size ≤ maxLen) (w : World) : Calls Tryd.prog 27 #[.string s] w fun e w' => e = .returned (.int .u32 (crcSum s.data.toList : Nat)) ∧ w = w' := by
  unfold maxLen at hs
  go_enter Tryd.func27, Tryd.ntmps27
  go_wp2_with fail
  go_loop [3, 4] (fun a i => ∃ k : Nat, k ≤ s.size ∧ i = .int .i64 k ∧ a = .int .u32 (crcL (s.data.toList.take k) : Nat)) (fun _ i => s.size - (intOf i).toNat)
  case atStart => exact ⟨0, Nat.zero_le _, rfl, rfl⟩
  case round =>
    obtain ⟨k, hk, rfl, rfl⟩ := hrel
    have hl := crcL_lt (s.data.toList.take k)
    by_cases hlt : k < s.size
    · have hsn := crcL_snoc (s.data.toList.take k) s[k]
      rw [← take_snoc s k hlt] at hsn
      have hb : (s[k].toNat) < 256 := s[k].toNat_lt
      have hcall := rcrcAdd_any (crcL (s.data.toList.take k)) s[k].toNat hl hb
      have HS := Lib.hid hsn; have HC := Lib.hid hcall; clear hsn hcall
      generalize crcL (s.data.toList.take k) = c at *
      go_wp2_with (go_at_call 45; (with_reducible refine (HC.out _).mono ?_); rintro e w' ⟨rfl, rfl⟩)
      go_round
      case rel => exact ⟨k + 1, by omega, by go_num, by rw [HS.out]⟩
      case measure => simp [intOf]; omega
    · obtain rfl : k = s.size := by omega
      have ht := take_all s
      rw [ht] at hl ⊢
      have hd : crcSum s.data.toList = 4294967295 - crcL s.data.toList := rfl
      have HD := Lib.hid hd; clear hd ht
      generalize crcL s.data.toList = c at *
      go_wp2
      go_ret
      exact ⟨ret_int (by rw [HD.out]; omega), rfl⟩
end Go.Proofs.YtolegljmaacabaaDoor
