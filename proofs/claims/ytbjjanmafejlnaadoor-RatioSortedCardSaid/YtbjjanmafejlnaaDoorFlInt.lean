/- Plain facts on float64: what Floor, int(x) and float64(n) give of numbers that are not too great. No program in sight. -/
import Derived.Test.YtbjjanmafejlnaaDoorFl
namespace Go.Proofs.YtbjjanmafejlnaaDoor.Fl
open Go Ieee

theorem val_num (s : Bool) (m : Nat) (p : Int) : val (.number s m p) = if s then -(mval m p : Int) else mval m p := by
  show signed s m (p + 1074).toNat = _
  cases s <;> simp [signed, mval, Nat.shiftLeft_eq]

/-- the bits that stand for a NaN of the machine's choosing -/
theorem nanBits_nan (x y t : Nat) : ∃ s f, D (Question.cut (.nanBits .f64 x y) t) = .nan s f := by
  simp only [Question.cut]
  unfold D Format.read
  simp only [least, binade52, infR, signW]
  have h1 : (t / 2) % (2 ^ 52 - 1) < 2 ^ 52 - 1 := Nat.mod_lt _ (by omega)
  have h2 : t % 2 < 2 := Nat.mod_lt _ (by omega)
  generalize (t / 2) % (2 ^ 52 - 1) = a at *
  generalize t % 2 = b at *
  have e : (b * 2 ^ 63 + 9218868437227405312 + 1 + a) % 9223372036854775808 = 9218868437227405313 + a := by omega
  rw [e, if_neg (by omega), if_neg (by omega), if_neg (by omega)]
  exact ⟨_, _, rfl⟩

theorem D1000 : D 4652007308841189376 = .number false 8796093022208000 (-43) := by decide
theorem Dhalf : D 4602678819172646912 = .number false 4503599627370496 (-53) := by decide
theorem Dbig : D 4696837146684686336 = .number false 8589934592000000 (-33) := by decide
theorem Dmbig : D 13920209183539462144 = .number true 8589934592000000 (-33) := by decide

theorem log2_lt {m e : Nat} (h0 : m ≠ 0) (h : m < 2 ^ e) : m.log2 < e :=
  (Nat.pow_lt_pow_iff_right (by omega : 1 < 2)).1 (Nat.lt_of_le_of_lt (Nat.log2_self_le h0) h)

theorem log2_mul {m n : Nat} (hm : m ≠ 0) (hn : n ≠ 0) : (m * n).log2 ≤ m.log2 + n.log2 + 1 := by
  have h1 := @Nat.lt_log2_self m
  have h2 := @Nat.lt_log2_self n
  have h3 : m * n < 2 ^ (m.log2 + 1) * 2 ^ (n.log2 + 1) := Nat.mul_lt_mul'' h1 h2
  rw [← Nat.pow_add] at h3
  have := log2_lt (Nat.mul_ne_zero hm hn) h3
  omega

/-- from a bound on the value to one on the place -/
theorem place_of_mval {m : Nat} {p : Int} {B : Nat} (h0 : m ≠ 0) (hp : -1074 ≤ p) (h : mval m p < 2 ^ B * U) : p + m.log2 < B := by
  unfold mval U at h
  rw [← Nat.pow_add] at h
  have h1 := Nat.log2_self_le h0
  have h2 : 2 ^ m.log2 * 2 ^ (p + 1074).toNat ≤ m * 2 ^ (p + 1074).toNat := Nat.mul_le_mul_right _ h1
  rw [← Nat.pow_add] at h2
  have h3 := (Nat.pow_lt_pow_iff_right (by omega : 1 < 2)).1 (Nat.lt_of_le_of_lt h2 h)
  omega

theorem mval_of_place {m : Nat} {p : Int} {B : Nat} (hp : -1074 ≤ p) (h : m ≠ 0 → p + m.log2 < B) : mval m p < 2 ^ B * U := by
  unfold mval U
  by_cases h0 : m = 0
  · subst h0; rw [Nat.zero_mul]; exact Nat.mul_pos (Nat.two_pow_pos _) (Nat.two_pow_pos _)
  · have h1 := @Nat.lt_log2_self m
    have h2 : m * 2 ^ (p + 1074).toNat < 2 ^ (m.log2 + 1) * 2 ^ (p + 1074).toNat := Nat.mul_lt_mul_of_pos_right h1 (Nat.two_pow_pos _)
    rw [← Nat.pow_add] at h2 ⊢
    have := h h0
    exact Nat.lt_of_lt_of_le h2 (Nat.pow_le_pow_right (by omega) (by omega))

theorem scale_signed (s : Bool) (m : Nat) (i base : Int) (h1 : -1074 ≤ base) (h2 : base ≤ i) : signed s m (i - base).toNat * ((2 ^ (base + 1074).toNat : Nat) : Int) = val (.number s m i) := by
  show _ = signed s m (i + 1074).toNat
  rw [← signed_add]
  congr 1; omega

/-- a sum, exactly -/
theorem sum_val (s t : Bool) (m n : Nat) (i j : Int) (hi : -1074 ≤ i) (hj : -1074 ≤ j) :
    ∃ u k q, Datum.sum (.number s m i) (.number t n j) = some (.number u k q) ∧ -1074 ≤ q ∧ (mval k q : Int) = (val (.number s m i) + val (.number t n j)).natAbs := by
  refine ⟨_, _, _, rfl, by omega, ?_⟩
  have h1 := scale_signed s m i (min i j) (by omega) (by omega)
  have h2 := scale_signed t n j (min i j) (by omega) (by omega)
  rw [← h1, ← h2, ← Int.add_mul, Int.natAbs_mul]
  simp only [mval, Int.natAbs_natCast]

theorem add_eq {x y : Nat} {d : Datum} (h : (D x).sum (D y) = some d) : Ieee.double.add x y = some (Ieee.double.write d) := by
  unfold Format.add; show Option.map _ ((D x).sum (D y)) = _; rw [h]; rfl
theorem mul_eq {x y : Nat} {d : Datum} (h : (D x).product (D y) = some d) : Ieee.double.mul x y = some (Ieee.double.write d) := by
  unfold Format.mul; show Option.map _ ((D x).product (D y)) = _; rw [h]; rfl
theorem div_eq {x y : Nat} {d : Datum} (h : (D x).quotient 54 (D y) = some d) : Ieee.double.div x y = some (Ieee.double.write d) := by
  unfold Format.div; show Option.map _ ((D x).quotient 54 (D y)) = _; rw [h]; rfl

/-- x * 1000, and a half more, of a number below 2^20 -/
theorem times_half (x : Nat) {s : Bool} {m : Nat} {p : Int} (hx : D x = .number s m p) (hb : m ≠ 0 → p + m.log2 < 20) :
    ∃ y z t k q, Ieee.double.mul x 4652007308841189376 = some y ∧ Ieee.double.add y 4602678819172646912 = some z ∧ D z = .number t k q ∧ -1074 ≤ q ∧ mval k q ≤ 2 ^ 33 * U := by
  have e1 := mul_eq (x := x) (y := 4652007308841189376) (d := .number (s ^^ false) (m * 8796093022208000) (p + -43)) (by rw [hx, D1000]; rfl)
  obtain ⟨k, q, h1, h2, h3⟩ : ∃ k q, D (Ieee.double.nearest (s ^^ false) (m * 8796093022208000) (p + -43)) = .number (s ^^ false) k q ∧ -1074 ≤ q ∧ mval k q ≤ 2 ^ (30 + 1) * U := by
    refine nearest_bound _ _ _ 30 (fun hm => ?_) (by omega)
    have h0 : m ≠ 0 := fun h => hm (by rw [h, Nat.zero_mul])
    have := log2_mul h0 (by omega : (8796093022208000 : Nat) ≠ 0)
    have e : Nat.log2 8796093022208000 = 52 := by decide
    rw [e] at this
    have := hb h0
    omega
  obtain ⟨u, k2, q2, g1, g2, g3⟩ := sum_val (s ^^ false) false k 4503599627370496 q (-53) h2 (by omega)
  have e2 := add_eq (x := Ieee.double.nearest (s ^^ false) (m * 8796093022208000) (p + -43)) (y := 4602678819172646912) (by rw [h1, Dhalf]; exact g1)
  have hbound : mval k2 q2 < 2 ^ 32 * U := by
    have hh : 2 * mval 4503599627370496 (-53) = U := by rw [U_eq]; decide +kernel
    rw [val_num, val_num] at g3
    have p4 := U_pos
    generalize mval k q = a at *
    generalize U = P at *
    generalize mval 4503599627370496 (-53) = b at *
    cases s <;> simp at g3 <;> omega
  obtain ⟨k3, q3, f1, f2, f3⟩ := nearest_bound u k2 q2 32 (fun h0 => by have := place_of_mval h0 g2 hbound; omega) (by omega)
  exact ⟨_, _, u, k3, q3, e1, e2, f1, f2, f3⟩

/-! whole numbers -/
def floorD : Datum → Int
  | .number s m i => signed s (Toward.down.cut s (m <<< i.toNat) (-i).toNat) 0
  | _ => 0
def truncD : Datum → Int
  | .number s m i => signed s (Toward.zero.cut s (m <<< i.toNat) (-i).toNat) 0
  | _ => 0

theorem shift_mval (k : Nat) (q : Int) (hq : -1074 ≤ q) : (k <<< q.toNat) * U = mval k q * 2 ^ (-q).toNat := by
  unfold mval U
  rw [Nat.shiftLeft_eq, Nat.mul_assoc, Nat.mul_assoc, ← Nat.pow_add, ← Nat.pow_add]
  congr 2; omega

theorem low_le {k : Nat} {q : Int} {B : Nat} (hq : -1074 ≤ q) (h : mval k q ≤ B * U) : (k <<< q.toNat) / 2 ^ (-q).toNat ≤ B := by
  have h1 := shift_mval k q hq
  have h2 : mval k q * 2 ^ (-q).toNat ≤ B * U * 2 ^ (-q).toNat := Nat.mul_le_mul_right _ h
  rw [← h1, Nat.mul_right_comm] at h2
  have h3 := Nat.le_of_mul_le_mul_right h2 U_pos
  have h4 : (k <<< q.toNat) / 2 ^ (-q).toNat ≤ B * 2 ^ (-q).toNat / 2 ^ (-q).toNat := Nat.div_le_div_right h3
  rwa [Nat.mul_div_cancel _ (Nat.two_pow_pos _)] at h4

theorem exact_low {k : Nat} {q : Int} {n : Nat} (hq : -1074 ≤ q) (h : mval k q = mval n 0) : (k <<< q.toNat) / 2 ^ (-q).toNat = n := by
  have h1 := shift_mval k q hq
  have h2 : mval n 0 = n * U := mval_nat n
  rw [h, h2, Nat.mul_right_comm] at h1
  rw [Nat.eq_of_mul_eq_mul_right U_pos h1, Nat.mul_div_cancel _ (Nat.two_pow_pos _)]

/-- a whole number of the format, made and read -/
theorem whole_exact (s : Bool) (n : Nat) (h : n < 2 ^ 53) : ∃ k q, D (Ieee.double.nearest s n 0) = .number s k q ∧ -1074 ≤ q ∧ mval k q = mval n 0 :=
  nearest_exact s n 0 h (by omega) (fun h0 => by have := log2_lt h0 h; omega)

theorem trunc_whole (s : Bool) (n : Nat) (h : n < 2 ^ 53) : truncD (D (Ieee.double.nearest s n 0)) = signed s n 0 := by
  obtain ⟨k, q, h1, h2, h3⟩ := whole_exact s n h
  rw [h1]; simp only [truncD, cut_zero, exact_low h2 h3]

theorem signed_le (s : Bool) (n : Nat) : -(n : Int) ≤ signed s n 0 ∧ signed s n 0 ≤ n := by
  cases s <;> simp [signed] <;> omega

theorem toInt_zero (d : Datum) (s : Bool) (m : Nat) (i : Int) (h : d = .number s m i) : d.toInt .zero = some (truncD d) := by
  subst h; rfl

/-- int64(x) of a number that fits -/
theorem conv_int (x : Nat) {s : Bool} {k : Nat} {q : Int} (hx : D x = .number s k q) (hq : -1074 ≤ q) (hb : mval k q ≤ 2 ^ 34 * U) :
    floatToIntVal .f64 x .i64 = some (truncD (D x)) := by
  have h1 : (FloatKind.f64.decode x).toInt .zero = some (truncD (D x)) := toInt_zero (D x) s k q hx
  unfold floatToIntVal
  rw [h1]
  have h2 : -((2 : Int) ^ 34) ≤ truncD (D x) ∧ truncD (D x) ≤ (2 : Int) ^ 34 := by
    rw [hx]; simp only [truncD, cut_zero]
    have h3 := low_le hq hb
    have h4 := signed_le s ((k <<< q.toNat) / 2 ^ (-q).toNat)
    have h5 : (((k <<< q.toNat) / 2 ^ (-q).toNat : Nat) : Int) ≤ 2 ^ 34 := by exact_mod_cast h3
    omega
  simp only
  rw [if_pos]
  show IntKind.min .i64 ≤ _ ∧ _ ≤ IntKind.max .i64
  have h6 : IntKind.min .i64 = -9223372036854775808 := by decide
  have h7 : IntKind.max .i64 = 9223372036854775807 := by decide
  rw [h6, h7]; omega

/-- Floor(x), made whole -/
theorem floor_conv (z : Nat) {s : Bool} {k : Nat} {q : Int} (hx : D z = .number s k q) (hq : -1074 ≤ q) (hb : mval k q ≤ 2 ^ 33 * U) :
    floatToIntVal .f64 (FloatKind.f64.encode ((D z).integral .down)) .i64 = some (floorD (D z)) := by
  rw [hx]
  have h3 := low_le hq hb
  have hcut : Toward.down.cut s (k <<< q.toNat) (-q).toNat ≤ 2 ^ 33 + 1 := by
    rw [cut_down]; have := Bool.toNat_le (s && (k <<< q.toNat) % 2 ^ (-q).toNat != 0); omega
  show floatToIntVal .f64 (Ieee.double.nearest s (Toward.down.cut s (k <<< q.toNat) (-q).toNat) 0) .i64 = some (signed s (Toward.down.cut s (k <<< q.toNat) (-q).toNat) 0)
  generalize Toward.down.cut s (k <<< q.toNat) (-q).toNat = n at *
  obtain ⟨k', q', h1, h2, h4⟩ := whole_exact s n (by omega)
  rw [conv_int _ h1 h2 (by rw [h4, mval_nat]; exact Nat.mul_le_mul_right _ (by omega)), trunc_whole s n (by omega)]

theorem floor_trunc (z : Nat) {s : Bool} {k : Nat} {q : Int} (hx : D z = .number s k q) (hq : -1074 ≤ q) (hb : mval k q ≤ 2 ^ 33 * U) :
    (ord (floatOfInt .f64 (truncD (D z))) z == some .gt) = decide (floorD (D z) ≠ truncD (D z)) ∧ (floorD (D z) ≠ truncD (D z) → floorD (D z) = truncD (D z) - 1) := by
  have h3 := low_le hq hb
  have hfl : ∀ n : Nat, n ≤ 2 ^ 33 → ∃ k' q', D (floatOfInt .f64 (signed s n 0)) = .number (s && n != 0) k' q' ∧ -1074 ≤ q' ∧ mval k' q' = mval n 0 := by
    intro n hn
    obtain ⟨k', q', g1, g2, g3⟩ := whole_exact (s && n != 0) n (by omega)
    refine ⟨k', q', ?_, g2, g3⟩
    rw [← g1]
    show D (Ieee.double.nearest _ _ 0) = _
    congr 2
    · cases s
      · simp [signed]
      · by_cases h : n = 0
        · simp [signed, h]
        · have : -(n : Int) < 0 := by omega
          have h' : 0 < n := by omega
          simp [signed, h, h']
    · cases s <;> simp [signed]
  obtain ⟨k', q', g1, g2, g3⟩ := hfl _ h3
  have h1 := shift_mval k q hq
  have hv : val (D (floatOfInt .f64 (truncD (D z)))) = (truncD (D z)) * (U : Int) := by
    rw [hx]; simp only [truncD, cut_zero]; rw [g1, val_num, g3]
    have : mval ((k <<< q.toNat) / 2 ^ (-q).toNat) 0 = ((k <<< q.toNat) / 2 ^ (-q).toNat) * U := mval_nat _
    rw [this]
    generalize (k <<< q.toNat) / 2 ^ (-q).toNat = n
    cases s
    · simp [signed]
    · by_cases h : n = 0
      · simp [signed, h]
      · simp [signed, h, Int.neg_mul]
  have ho : ord (floatOfInt .f64 (truncD (D z))) z = some (compare (val (D (floatOfInt .f64 (truncD (D z))))) (val (D z))) := by
    show Datum.order (D _) (D z) = _
    have e : D (floatOfInt .f64 (truncD (D z))) = .number (s && (k <<< q.toNat) / 2 ^ (-q).toNat != 0) k' q' := by rw [hx]; simp only [truncD, cut_zero]; exact g1
    rw [e, hx, order_num _ _ _ _ _ _ g2 hq]
  rw [ho, cmp_gt', hv, hx]
  simp only [truncD, floorD, cut_zero, cut_down, val_num]
  have hd : 0 < 2 ^ (-q).toNat := Nat.two_pow_pos _
  have hdm := Nat.div_add_mod (k <<< q.toNat) (2 ^ (-q).toNat)
  have key : mval k q < (k <<< q.toNat) / 2 ^ (-q).toNat * U ↔ False := by
    refine ⟨fun h => ?_, fun h => h.elim⟩
    have h5 : mval k q * 2 ^ (-q).toNat < (k <<< q.toNat) / 2 ^ (-q).toNat * U * 2 ^ (-q).toNat := Nat.mul_lt_mul_of_pos_right h hd
    rw [← h1, Nat.mul_right_comm] at h5
    have h6 := Nat.lt_of_mul_lt_mul_right h5
    have := Nat.div_mul_le_self (k <<< q.toNat) (2 ^ (-q).toNat)
    omega
  have key2 : (k <<< q.toNat) / 2 ^ (-q).toNat * U < mval k q ↔ (k <<< q.toNat) % 2 ^ (-q).toNat ≠ 0 := by
    have h5 : (k <<< q.toNat) / 2 ^ (-q).toNat * U < mval k q ↔ (k <<< q.toNat) / 2 ^ (-q).toNat * U * 2 ^ (-q).toNat < mval k q * 2 ^ (-q).toNat :=
      ⟨fun h => Nat.mul_lt_mul_of_pos_right h hd, fun h => Nat.lt_of_mul_lt_mul_right h⟩
    rw [h5, ← h1, Nat.mul_right_comm]
    have h6 : ∀ a b : Nat, a * U < b * U ↔ a < b := fun a b => ⟨fun h => Nat.lt_of_mul_lt_mul_right h, fun h => Nat.mul_lt_mul_of_pos_right h U_pos⟩
    rw [h6, Nat.mul_comm]
    omega
  generalize (k <<< q.toNat) / 2 ^ (-q).toNat = n at *
  generalize (k <<< q.toNat) % 2 ^ (-q).toNat = r at *
  generalize mval k q = v at *
  generalize U = P at *
  have hk1 : ¬ (v : Int) < (n : Int) * (P : Int) := by
    intro h; refine key.1 ?_; rw [← Int.natCast_mul] at h; omega
  have hk2 : (n : Int) * (P : Int) < (v : Int) ↔ r ≠ 0 := by
    rw [← Int.natCast_mul, ← key2]; omega
  clear key key2 hdm h1 hb g1 hfl ho hv hx
  cases s
  · simp only [signed]
    simp
    omega
  · simp only [signed, Bool.true_and]
    by_cases hr : r = 0
    · simp [hr] at hk2 ⊢
      rw [Int.neg_mul]
      omega
    · have hk3 := hk2.2 hr
      simp
      rw [Int.neg_mul]
      generalize (n : Int) * (P : Int) = np at *
      have e1 : (r != 0).toNat = 1 := by simp [hr]
      have e2 : -(v : Int) < -np := by omega
      have e3 : ¬ ((n : Int) + 1 = n) := by omega
      rw [e1]; simp [e2]; omega
end Go.Proofs.YtbjjanmafejlnaaDoor.Fl
