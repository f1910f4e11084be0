/- Numbers as texts, in plain Lean: which texts are numbers, and their values. No program in sight. -/
import Derived.Lib.ItoaNum
namespace Go.Proofs.YtolegljmaacabaaDoor

def dig (b : UInt8) : Bool := 48 ≤ b.toNat && b.toNat ≤ 57
def valL (l : List UInt8) : Nat := l.foldl (fun n b => 10 * n + (b.toNat - 48)) 0
def numB (l : List UInt8) : Bool := decide (1 ≤ l.length) && decide (l.length ≤ 9) && l.all dig && !(decide (1 < l.length) && l.head? == some 48)

theorem dig_iff (b : UInt8) : dig b = true ↔ 48 ≤ b.toNat ∧ b.toNat ≤ 57 := by unfold dig; simp
theorem valL_snoc (l : List UInt8) (b : UInt8) : valL (l ++ [b]) = 10 * valL l + (b.toNat - 48) := by simp [valL]
theorem foldl_lt (l : List UInt8) (h : ∀ b ∈ l, dig b = true) : valL l < 10 ^ l.length := by
  have key : ∀ (l : List UInt8) (n k : Nat), (∀ b ∈ l, dig b = true) → n < 10 ^ k → l.foldl (fun n b => 10 * n + (b.toNat - 48)) n < 10 ^ (k + l.length) := by
    intro l
    induction l with
    | nil => intro n k _ hn; exact hn
    | cons b l ih =>
      intro n k hl hn
      have hb := (dig_iff b).1 (hl b (by simp))
      have := ih (10 * n + (b.toNat - 48)) (k + 1) (fun c hc => hl c (by simp [hc])) (by rw [Nat.pow_succ]; omega)
      rw [List.foldl_cons, List.length_cons]
      rw [show k + (l.length + 1) = k + 1 + l.length by omega]
      exact this
  have := key l 0 0 h (by decide)
  rwa [Nat.zero_add] at this
theorem valL_lt {l : List UInt8} (h : ∀ b ∈ l, dig b = true) (h9 : l.length ≤ 9) : valL l < 1000000000 := by
  have h1 := foldl_lt l h
  have h2 : 10 ^ l.length ≤ 10 ^ 9 := Nat.pow_le_pow_right (by decide) h9
  have h3 : (10 : Nat) ^ 9 = 1000000000 := by decide
  omega

/-- the digits of a value without a needless 0 ahead are the text -/
theorem decDigits_lt {m : Nat} (h : m < 10) : Lib.decDigits m = [UInt8.ofNat (48 + m)] := by rw [Lib.decDigits, dif_pos h]
theorem decDigits_ge {m : Nat} (h : ¬ m < 10) : Lib.decDigits m = Lib.decDigits (m / 10) ++ [UInt8.ofNat (48 + m % 10)] := by rw [Lib.decDigits, dif_neg h]
theorem dig_of (b : UInt8) (h : dig b = true) : UInt8.ofNat (48 + (b.toNat - 48)) = b := by
  have := (dig_iff b).1 h
  rw [show 48 + (b.toNat - 48) = b.toNat by omega]; exact UInt8.ofNat_toNat
theorem valL_pos {l : List UInt8} (h : ∀ b ∈ l, dig b = true) (h1 : 1 ≤ l.length) (h0 : l.head? ≠ some 48) : 1 ≤ valL l := by
  match l, h1 with
  | b :: l, _ =>
    have hb := (dig_iff b).1 (h b (by simp))
    have hne : b.toNat ≠ 48 := by
      intro e
      apply h0
      have : b = 48 := UInt8.toNat_inj.1 e
      simp [this]
    have key : ∀ (l : List UInt8) (n : Nat), 1 ≤ n → 1 ≤ l.foldl (fun n b => 10 * n + (b.toNat - 48)) n := by
      intro l
      induction l with
      | nil => intro n hn; exact hn
      | cons c l ih => intro n hn; rw [List.foldl_cons]; exact ih (10 * n + (c.toNat - 48)) (by omega)
    show 1 ≤ List.foldl _ (10 * 0 + (b.toNat - 48)) l
    refine key l _ ?_
    have h10 : 10 * 0 = 0 := rfl
    omega
theorem decDigits_valL : ∀ (n : Nat) (l : List UInt8), l.length = n + 1 → (∀ b ∈ l, dig b = true) → (1 < l.length → l.head? ≠ some 48) → Lib.decDigits (valL l) = l
  | 0, l, hl, h, _ => by
    match l, hl with
    | [b], _ =>
      have hb := (dig_iff b).1 (h b (by simp))
      have e : valL [b] = b.toNat - 48 := by simp [valL]
      rw [e, decDigits_lt (by omega), dig_of b (h b (by simp))]
  | n + 1, l, hl, h, h0 => by
    obtain ⟨i, b, rfl⟩ : ∃ i b, l = i ++ [b] := ⟨l.dropLast, l.getLast (by intro e; simp [e] at hl), (List.dropLast_concat_getLast _).symm⟩
    have hi : i.length = n + 1 := by simpa using hl
    have hb := (dig_iff b).1 (h b (by simp))
    have hh : i.head? = (i ++ [b]).head? := by
      match i, hi with
      | c :: i, _ => rfl
    have hih := decDigits_valL n i hi (fun c hc => h c (by simp [hc])) (fun _ => by rw [hh]; exact h0 (by omega))
    have hpos := valL_pos (l := i) (fun c hc => h c (by simp [hc])) (by omega) (by rw [hh]; exact h0 (by omega))
    rw [valL_snoc, decDigits_ge (by omega), show (10 * valL i + (b.toNat - 48)) / 10 = valL i by omega, show (10 * valL i + (b.toNat - 48)) % 10 = b.toNat - 48 by omega, hih, dig_of b (h b (by simp))]
theorem decDigits_head : ∀ (n m : Nat), m < n → (Lib.decDigits m).head? = some 48 → m = 0
  | 0, m, h, _ => by omega
  | n + 1, m, h, h0 => by
    by_cases h10 : m < 10
    · rw [decDigits_lt h10] at h0
      simp at h0
      have := congrArg UInt8.toNat h0
      rw [UInt8.toNat_ofNat'] at this
      simp at this
      omega
    · rw [decDigits_ge h10] at h0
      have hne : Lib.decDigits (m / 10) ≠ [] := by rw [Lib.decDigits]; split <;> simp
      have h0' : (Lib.decDigits (m / 10)).head? = some 48 := by
        cases hd : Lib.decDigits (m / 10) with
        | nil => exact absurd hd hne
        | cons c r => rw [hd] at h0; simpa using h0
      have := decDigits_head n (m / 10) (by omega) h0'
      omega
/-- of digits: the text is the value's own digits just where no needless 0 stands ahead -/
theorem itoa_iff {l : List UInt8} (h : ∀ b ∈ l, dig b = true) (h1 : 1 ≤ l.length) (h9 : l.length ≤ 9) : (Lib.itoa (valL l : Nat) = l) ↔ numB l = true := by
  have hi : Lib.itoa (valL l : Nat) = Lib.decDigits (valL l) := by unfold Lib.itoa; rw [if_neg (by omega)]; rfl
  rw [hi]
  have hall : l.all dig = true := List.all_eq_true.2 h
  unfold numB
  rw [hall]
  constructor
  · intro e
    have hz : ¬ (1 < l.length ∧ l.head? = some 48) := by
      rintro ⟨a, b⟩
      have hm := decDigits_head _ _ (Nat.lt_succ_self _) (by rw [e]; exact b)
      have := congrArg List.length e
      rw [hm, decDigits_lt (by omega)] at this
      simp at this; omega
    by_cases a : 1 < l.length
    · have b : ¬ l.head? = some 48 := fun b => hz ⟨a, b⟩
      simp [h1, h9, a, b]
    · simp [h1, h9, a]
  · intro e
    refine decDigits_valL (l.length - 1) l (by omega) h (fun a b => ?_)
    simp [a, b] at e
end Go.Proofs.YtolegljmaacabaaDoor
