/- Plain facts on float64: the order in which floats stand, and what rounding gives. No program in sight; no condition. -/
import Derived.Laws.FloatArith
import Derived.Laws.FloatBits
namespace Go.Proofs.YtbjjanmafejlnaaDoor.Fl
open Go Ieee
/-- what a float64's bits stand for -/
def D (b : Nat) : Datum := Ieee.double.read b
def ord (a b : Nat) : Option Ordering := Ieee.double.order a b

/-- the value in units of 2^leastPlace -/
def val : Datum → Int
  | .number s m p => signed s m (p + 1074).toNat
  | _ => 0

theorem least : Ieee.double.leastPlace = -1074 := by decide

theorem read_place {b : Nat} {s : Bool} {m : Nat} {p : Int} (h : D b = .number s m p) : -1074 ≤ p ∧ p ≤ 971 ∧ m < 2 ^ 53 := by
  unfold D Format.read at h
  simp only [least] at h
  have hb : Ieee.double.binade = 2 ^ 52 := by decide
  have hi : Ieee.double.infRung = 2047 * 2 ^ 52 := by decide
  simp only [hb, hi] at h
  split at h
  · cases h; refine ⟨by omega, by omega, by omega⟩
  · split at h
    · cases h
      refine ⟨by omega, ?_, by omega⟩
      omega
    · split at h <;> cases h

theorem signed_add (s : Bool) (m a b : Nat) : signed s m (a + b) = signed s m a * (2 ^ b : Nat) := by
  unfold signed
  rw [Nat.shiftLeft_add]
  cases s <;> simp [Nat.shiftLeft_eq, Int.neg_mul]

theorem compare_mul (x y : Int) (k : Nat) (hk : 0 < k) : compare (x * k) (y * k) = compare x y := by
  have hk' : (0 : Int) < k := by omega
  simp only [compare, compareOfLessAndEq]
  have h1 : (x * k < y * k) ↔ x < y := ⟨fun h => Int.lt_of_mul_lt_mul_right h (by omega), fun h => Int.mul_lt_mul_of_pos_right h hk'⟩
  have h2 : (x * k = y * k) ↔ x = y := ⟨fun h => Int.eq_of_mul_eq_mul_right (by omega) h, fun h => by rw [h]⟩
  simp only [h1, h2]

theorem order_num (s t : Bool) (m n : Nat) (i j : Int) (hi : -1074 ≤ i) (hj : -1074 ≤ j) :
    Datum.order (.number s m i) (.number t n j) = some (compare (val (.number s m i)) (val (.number t n j))) := by
  simp only [Datum.order, val]
  congr 1
  have e1 : (i + 1074).toNat = (i - min i j).toNat + (min i j + 1074).toNat := by omega
  have e2 : (j + 1074).toNat = (j - min i j).toNat + (min i j + 1074).toNat := by omega
  rw [e1, e2, signed_add, signed_add, compare_mul _ _ _ (Nat.two_pow_pos _)]
/-- the kinds of floats, in their order -/
def kd : Datum → Int
  | .nan .. => 6
  | .infinity true => 0
  | .infinity false => 5
  | .number s m _ => if m = 0 then (if s then 2 else 3) else if s then 1 else 4
def kind (b : Nat) : Int := kd (D b)
def lessF (a b : Nat) : Bool := if kind a ≠ kind b then decide (kind a < kind b) else ord a b == some .lt

theorem signed_zero (s : Bool) (k : Nat) : signed s 0 k = 0 := by cases s <;> simp [signed]
theorem signed_pos (m k : Nat) (h : m ≠ 0) : 0 < signed false m k := by
  have := Nat.two_pow_pos k
  simp only [signed, Nat.shiftLeft_eq, Bool.false_eq_true, if_false]
  have : 0 < m * 2 ^ k := Nat.mul_pos (by omega) this
  omega
theorem signed_neg (m k : Nat) (h : m ≠ 0) : signed true m k < 0 := by
  have := Nat.two_pow_pos k
  simp only [signed, Nat.shiftLeft_eq, if_true]
  have : 0 < m * 2 ^ k := Nat.mul_pos (by omega) this
  omega

theorem cmp_lt (x y : Int) : (compare x y == Ordering.lt) = decide (x < y) := by
  simp only [compare, compareOfLessAndEq]; split <;> (try split) <;> simp_all
theorem cmp_lt' (x y : Int) : (some (compare x y) == some Ordering.lt) = decide (x < y) := cmp_lt x y
theorem cmp_gt' (x y : Int) : (some (compare x y) == some Ordering.gt) = decide (y < x) := by
  show (compare x y == Ordering.gt) = _
  simp only [compare, compareOfLessAndEq]; split <;> (try split) <;> simp_all <;> omega
theorem cmp_eq' (x y : Int) : (some (compare x y) == some Ordering.eq) = decide (x = y) := by
  show (compare x y == Ordering.eq) = _
  simp only [compare, compareOfLessAndEq]; split <;> (try split) <;> simp_all <;> omega


theorem val_sign (s : Bool) (m : Nat) (p : Int) : (m = 0 ∧ val (.number s m p) = 0) ∨ (m ≠ 0 ∧ s = true ∧ val (.number s m p) < 0) ∨ (m ≠ 0 ∧ s = false ∧ 0 < val (.number s m p)) := by
  show (m = 0 ∧ signed s m (p + 1074).toNat = 0) ∨ (m ≠ 0 ∧ s = true ∧ signed s m (p + 1074).toNat < 0) ∨ (m ≠ 0 ∧ s = false ∧ 0 < signed s m (p + 1074).toNat)
  by_cases hm : m = 0
  · subst hm; exact .inl ⟨rfl, signed_zero _ _⟩
  · cases s
    · exact .inr (.inr ⟨hm, rfl, signed_pos m (p + 1074).toNat hm⟩)
    · exact .inr (.inl ⟨hm, rfl, signed_neg m (p + 1074).toNat hm⟩)
theorem val_kind (s : Bool) (m : Nat) (p : Int) : kd (.number s m p) = if val (.number s m p) < 0 then 1 else if 0 < val (.number s m p) then 4 else if s then 2 else 3 := by
  rcases val_sign s m p with ⟨h, hv⟩ | ⟨h, h', hv⟩ | ⟨h, h', hv⟩
  · rw [hv]; simp [kd, h]
  · rw [if_pos hv]; simp [kd, h, h']
  · rw [if_neg (by omega), if_pos hv]; simp [kd, h, h']

theorem kd_num_ge (s : Bool) (m : Nat) (p : Int) : 1 ≤ kd (.number s m p) ∧ kd (.number s m p) ≤ 4 := by
  rw [val_kind]; cases s <;> (split <;> (try split) <;> simp)

theorem lessD (a b : Datum) (ha : ∀ s m p, a = .number s m p → -1074 ≤ p) (hb : ∀ s m p, b = .number s m p → -1074 ≤ p) :
    (if kd a ≠ kd b then decide (kd a < kd b) else Datum.order a b == some .lt) = decide (kd a < kd b ∨ kd a = kd b ∧ val a < val b) := by
  by_cases hk : kd a = kd b
  · rw [if_neg (by simpa using hk)]
    rcases a with ⟨s, m, i⟩ | s | ⟨s, m⟩ <;> rcases b with ⟨t, n, j⟩ | t | ⟨t, n⟩
    · rw [order_num _ _ _ _ _ _ (ha _ _ _ rfl) (hb _ _ _ rfl), cmp_lt', hk]; simp
    all_goals (first | (cases s <;> cases t <;> simp [Datum.order, kd, val] at hk ⊢ <;> done) | skip)
    all_goals first
      | (exfalso; have := kd_num_ge s m i; cases t <;> simp only [kd] at hk this <;> omega)
      | (exfalso; have := kd_num_ge t n j; cases s <;> simp only [kd] at hk this <;> omega)
  · rw [if_pos hk]; simp [hk]

theorem D_place {b : Nat} : ∀ s m p, D b = .number s m p → -1074 ≤ p := fun _ _ _ h => (read_place h).1

theorem less_iff (a b : Nat) : lessF a b = decide (kind a < kind b ∨ kind a = kind b ∧ val (D a) < val (D b)) := lessD _ _ D_place D_place

def sameF (a b : Nat) : Bool := !lessF a b && !lessF b a
theorem less_irrefl (a : Nat) : lessF a a = false := by rw [less_iff]; simp
theorem less_trans {a b c : Nat} (h : lessF a b = true) (h' : lessF b c = true) : lessF a c = true := by
  rw [less_iff] at *; simp only [decide_eq_true_eq] at *; omega
theorem less_asymm {a b : Nat} (h : lessF a b = true) : lessF b a = false := by
  rw [less_iff] at *; simp only [decide_eq_true_eq, decide_eq_false_iff_not] at *; omega
theorem same_trans {a b c : Nat} (h : sameF a b = true) (h' : sameF b c = true) : sameF a c = true := by
  unfold sameF at *; simp only [less_iff, Bool.and_eq_true, Bool.not_eq_true', decide_eq_false_iff_not] at *; omega
theorem same_iff (a b : Nat) : sameF a b = decide (kind a = kind b ∧ val (D a) = val (D b)) := by
  unfold sameF; rw [less_iff, less_iff, Bool.eq_iff_iff]; simp; omega

/-! the reference's words -/
def noneF (a : Nat) : Bool := ord a a != some .eq
def minusF (a : Nat) : Bool := match D a with | .number s _ _ => s | .infinity s => s | .nan .. => false
theorem noneF_iff (a : Nat) : noneF a = decide (kind a = 6) := by
  unfold noneF kind ord Format.order; show (Datum.order (D a) (D a) != _) = _
  have hp := @D_place a
  generalize D a = d at *
  rcases d with ⟨s, m, i⟩ | s | ⟨s, m⟩
  · rw [order_num _ _ _ _ _ _ (hp _ _ _ rfl) (hp _ _ _ rfl)]
    have := kd_num_ge s m i
    have e : (some (compare (val (.number s m i)) (val (.number s m i))) != some Ordering.eq) = false := by
      simp [bne]
    rw [e]; symm; rw [decide_eq_false_iff_not]; omega
  · cases s <;> decide
  · simp [Datum.order, kd]
theorem lessR_eq (a b : Nat) :
    (if noneF a then false else if noneF b then true else ord a b == some .lt || (ord a b == some .eq && minusF a && !minusF b)) = lessF a b := by
  rw [noneF_iff, noneF_iff]
  unfold lessF kind ord Format.order minusF; show _ = if kd (D a) ≠ kd (D b) then decide (kd (D a) < kd (D b)) else Datum.order (D a) (D b) == _
  rw [lessD _ _ D_place D_place]
  show (if _ then _ else if _ then _ else Datum.order (D a) (D b) == _ || (Datum.order (D a) (D b) == _ && _ && _)) = _
  have hp := @D_place a
  have hq := @D_place b
  generalize D a = d at *
  generalize D b = e at *
  rcases d with ⟨s, m, i⟩ | s | ⟨s, m⟩ <;> rcases e with ⟨t, n, j⟩ | t | ⟨t, n⟩
  · have h1 := kd_num_ge s m i
    have h2 := kd_num_ge t n j
    rw [if_neg (by simp; omega), if_neg (by simp; omega), order_num _ _ _ _ _ _ (hp _ _ _ rfl) (hq _ _ _ rfl), cmp_lt', cmp_eq', val_kind, val_kind]
    have h3 := val_sign s m i
    have h4 := val_sign t n j
    generalize val (.number s m i) = x at *
    generalize val (.number t n j) = y at *
    clear h1 h2 hp hq
    rcases h3 with ⟨_, rfl⟩ | ⟨_, rfl, hx⟩ | ⟨_, rfl, hx⟩ <;> rcases h4 with ⟨_, rfl⟩ | ⟨_, rfl, hy⟩ | ⟨_, rfl, hy⟩
    all_goals first
      | (have e1 : ¬ (0 : Int) < x := by omega)
      | skip
    · cases s <;> cases t <;> simp
    · cases s <;> simp [hy] <;> omega
    · cases s <;> simp [hy, Int.not_lt.2 (Int.le_of_lt hy)] <;> omega
    · cases t <;> simp [hx] <;> omega
    · simp [hx, hy] <;> omega
    · simp [hx, hy, Int.not_lt.2 (Int.le_of_lt hy)] <;> omega
    · cases t <;> simp [hx, Int.not_lt.2 (Int.le_of_lt hx)] <;> omega
    · simp [hx, hy, Int.not_lt.2 (Int.le_of_lt hx)] <;> omega
    · simp [hx, hy, Int.not_lt.2 (Int.le_of_lt hx), Int.not_lt.2 (Int.le_of_lt hy)] <;> omega
  · have h1 := kd_num_ge s m i
    generalize hk : kd (.number s m i) = k at *
    have h3 : k ≠ 6 := by omega
    cases t
    · have h4 : k < 5 := by omega
      simp [kd, Datum.order, h3, h4]
    · have h4 : ¬ k < 0 := by omega
      have h5 : k ≠ 0 := by omega
      simp [kd, Datum.order, h3, h4, h5]
  · have h1 := kd_num_ge s m i
    generalize hk : kd (.number s m i) = k at *
    have h3 : k ≠ 6 := by omega
    have h4 : k < 6 := by omega
    simp [kd, h3, h4]
  · have h1 := kd_num_ge t n j
    generalize hk : kd (.number t n j) = k at *
    have h3 : k ≠ 6 := by omega
    cases s
    · have h4 : ¬ 5 < k := by omega
      have h5 : (5 : Int) ≠ k := by omega
      simp [kd, Datum.order, h3, h4, h5]
    · have h4 : 0 < k := by omega
      simp [kd, Datum.order, h3, h4]
  · cases s <;> cases t <;> simp [kd, Datum.order, val] <;> decide
  · cases s <;> simp [kd]
  · have h1 := kd_num_ge t n j
    generalize hk : kd (.number t n j) = k at *
    have h4 : ¬ 6 < k := by omega
    have h5 : (6 : Int) ≠ k := by omega
    simp [kd, h4, h5]
  · cases t <;> simp [kd]
  · simp [kd, val]
theorem binade52 : Ieee.double.binade = 4503599627370496 := by decide
theorem infR : Ieee.double.infRung = 9218868437227405312 := by decide
theorem signW : Ieee.double.signWeight = 9223372036854775808 := by decide

theorem read_word (neg : Bool) (r : Nat) (h : r < 9218868437227405312) :
    D (Ieee.double.word neg r) = if r < 4503599627370496 then .number neg r (-1074) else .number neg (4503599627370496 + r % 4503599627370496) (-1074 + (r / 4503599627370496 - 1 : Nat)) := by
  unfold D Format.read Format.word
  simp only [least, binade52, infR, signW]
  cases neg
  · have h1 : r / 9223372036854775808 = 0 := by omega
    have h2 : r % 9223372036854775808 = r := by omega
    simp [h1, h2, h]
  · have h1 : (9223372036854775808 + r) / 9223372036854775808 = 1 := by omega
    have h2 : (9223372036854775808 + r) % 9223372036854775808 = r := by omega
    simp only [if_true, h1, h2]
    simp [h]

/-- what 'cut' gives, without the bound on the gap -/
theorem gap_div (n drop : Nat) : n / (1 <<< min drop (n.log2 + 2)) = n / 2 ^ drop := by
  rw [Nat.shiftLeft_eq, Nat.one_mul]
  by_cases h : drop ≤ n.log2 + 2
  · rw [Nat.min_eq_left h]
  · have h1 : n < 2 ^ (n.log2 + 1) := Nat.lt_log2_self
    have h2 : 2 ^ (n.log2 + 1) ≤ 2 ^ (n.log2 + 2) := Nat.pow_le_pow_right (by omega) (by omega)
    have h3 : 2 ^ (n.log2 + 1) ≤ 2 ^ drop := Nat.pow_le_pow_right (by omega) (by omega)
    rw [Nat.min_eq_right (by omega), Nat.div_eq_of_lt (by omega), Nat.div_eq_of_lt (by omega)]
theorem gap_mod (n drop : Nat) : n % (1 <<< min drop (n.log2 + 2)) = n % 2 ^ drop := by
  rw [Nat.shiftLeft_eq, Nat.one_mul]
  by_cases h : drop ≤ n.log2 + 2
  · rw [Nat.min_eq_left h]
  · have h1 : n < 2 ^ (n.log2 + 1) := Nat.lt_log2_self
    have h2 : 2 ^ (n.log2 + 1) ≤ 2 ^ (n.log2 + 2) := Nat.pow_le_pow_right (by omega) (by omega)
    have h3 : 2 ^ (n.log2 + 1) ≤ 2 ^ drop := Nat.pow_le_pow_right (by omega) (by omega)
    rw [Nat.min_eq_right (by omega), Nat.mod_eq_of_lt (by omega), Nat.mod_eq_of_lt (by omega)]
theorem cut_zero (s : Bool) (n drop : Nat) : Toward.zero.cut s n drop = n / 2 ^ drop := by
  simp only [Toward.cut, gap_div, Bool.toNat_false, Nat.add_zero]
theorem cut_down (s : Bool) (n drop : Nat) : Toward.down.cut s n drop = n / 2 ^ drop + (s && n % 2 ^ drop != 0).toNat := by
  simp only [Toward.cut, gap_div, gap_mod]
theorem cut_even (s : Bool) (n drop : Nat) : n / 2 ^ drop ≤ Toward.even.cut s n drop ∧ Toward.even.cut s n drop ≤ n / 2 ^ drop + 1 := by
  simp only [Toward.cut, gap_div, gap_mod]
  refine ⟨by omega, ?_⟩
  have := Bool.toNat_le (decide (1 <<< min drop (n.log2 + 2) < 2 * (n % 2 ^ drop)) || 1 <<< min drop (n.log2 + 2) == 2 * (n % 2 ^ drop) && n / 2 ^ drop % 2 == 1)
  omega
theorem cut_even_zero (s : Bool) (n : Nat) : Toward.even.cut s n 0 = n := by
  simp [Toward.cut, Nat.mod_one]

/-- the place of the last digit that is kept -/
def last (mag : Nat) (place : Int) : Int := max (place + mag.log2 - 52) (-1074)
def kept (neg : Bool) (mag : Nat) (place : Int) : Nat := Toward.even.cut neg (mag <<< (place - last mag place).toNat) (last mag place - place).toNat

theorem kept_bounds (neg : Bool) (mag : Nat) (place : Int) (h0 : mag ≠ 0) :
    kept neg mag place ≤ 2 ^ 53 ∧ (-1074 < last mag place → 2 ^ 52 ≤ kept neg mag place) := by
  have hl : 2 ^ mag.log2 ≤ mag := Nat.log2_self_le h0
  have hu : mag < 2 ^ (mag.log2 + 1) := Nat.lt_log2_self
  have hc := cut_even neg (mag <<< (place - last mag place).toNat) (last mag place - place).toNat
  unfold kept
  rw [Nat.shiftLeft_eq] at *
  by_cases hp : last mag place ≤ place
  · obtain ⟨k, hk⟩ : ∃ k : Nat, place - last mag place = k := ⟨_, (Int.toNat_of_nonneg (by omega)).symm⟩
    have e1 : (last mag place - place).toNat = 0 := by omega
    have e2 : (place - last mag place).toNat = k := by omega
    rw [e1, e2, cut_even_zero]
    have h1 : mag.log2 + k ≤ 52 := by unfold last at hk; omega
    have h2 : mag * 2 ^ k < 2 ^ (mag.log2 + 1) * 2 ^ k := Nat.mul_lt_mul_of_pos_right hu (Nat.two_pow_pos _)
    rw [← Nat.pow_add] at h2
    have h3 : 2 ^ (mag.log2 + 1 + k) ≤ 2 ^ 53 := Nat.pow_le_pow_right (by omega) (by omega)
    refine ⟨by omega, fun h => ?_⟩
    have h4 : mag.log2 + k = 52 := by unfold last at hk h; omega
    have h5 : 2 ^ mag.log2 * 2 ^ k ≤ mag * 2 ^ k := Nat.mul_le_mul_right _ hl
    rw [← Nat.pow_add, h4] at h5
    exact h5
  · obtain ⟨k, hk⟩ : ∃ k : Nat, last mag place - place = k := ⟨_, (Int.toNat_of_nonneg (by omega)).symm⟩
    have e1 : (place - last mag place).toNat = 0 := by omega
    have e2 : (last mag place - place).toNat = k := by omega
    rw [e1, e2] at hc ⊢
    rw [Nat.pow_zero, Nat.mul_one] at *
    have h1 : mag.log2 ≤ 52 + k := by unfold last at hk; omega
    have h2 : mag / 2 ^ k < 2 ^ 53 := by
      rw [Nat.div_lt_iff_lt_mul (Nat.two_pow_pos _), ← Nat.pow_add]
      exact Nat.lt_of_lt_of_le hu (Nat.pow_le_pow_right (by omega) (by omega))
    refine ⟨by omega, fun h => ?_⟩
    have h4 : mag.log2 = 52 + k := by unfold last at hk h; omega
    have h5 : 2 ^ 52 ≤ mag / 2 ^ k := by
      rw [Nat.le_div_iff_mul_le (Nat.two_pow_pos _), ← Nat.pow_add, ← h4]; exact hl
    omega

theorem nearest_eq (neg : Bool) (mag : Nat) (place : Int) (h0 : mag ≠ 0) :
    Ieee.double.nearest neg mag place = Ieee.double.word neg (min ((last mag place + 1074).toNat * 4503599627370496 + kept neg mag place) 9218868437227405312) := by
  unfold Format.nearest
  rw [if_neg h0]
  simp only [least, binade52, infR, last, kept]
  have : (max (place + ↑mag.log2 - ↑(Ieee.double.fractionBits)) (-1074)) = max (place + ↑mag.log2 - 52) (-1074) := rfl
  rw [this]
  have : (max (place + ↑mag.log2 - 52) (-1074) - -1074) = max (place + ↑mag.log2 - 52) (-1074) + 1074 := by omega
  rw [this]

/-- WHAT A ROUNDED NUMBER READS AS: 'kept' digits at 'last', no more and no less. -/
theorem read_nearest (neg : Bool) (mag : Nat) (place : Int) (h0 : mag ≠ 0) (hov : place + mag.log2 ≤ 1022) :
    ∃ k q, D (Ieee.double.nearest neg mag place) = .number neg k q ∧ -1074 ≤ q ∧ k * 2 ^ (q + 1074).toNat = kept neg mag place * 2 ^ (last mag place + 1074).toNat := by
  obtain ⟨hk1, hk2⟩ := kept_bounds neg mag place h0
  rw [nearest_eq neg mag place h0]
  have hL : -1074 ≤ last mag place := by unfold last; omega
  have hL2 : last mag place ≤ 970 := by unfold last; omega
  generalize kept neg mag place = K at *
  generalize last mag place = l at *
  obtain ⟨L, hLL⟩ : ∃ L : Nat, l + 1074 = L := ⟨_, (Int.toNat_of_nonneg (by omega)).symm⟩
  have e : (l + 1074).toNat = L := by omega
  rw [e]
  have hL3 : L ≤ 2044 := by omega
  have hk1' : K ≤ 9007199254740992 := hk1
  rw [Nat.min_eq_left (by omega), read_word _ _ (by omega)]
  by_cases hr : L * 4503599627370496 + K < 4503599627370496
  · rw [if_pos hr]
    have hL0 : L = 0 := by omega
    subst hL0
    exact ⟨_, _, rfl, by omega, by simp⟩
  · rw [if_neg hr]
    refine ⟨_, _, rfl, by omega, ?_⟩
    by_cases hK : K = 9007199254740992
    · subst hK
      have e1 : (L * 4503599627370496 + 9007199254740992) % 4503599627370496 = 0 := by omega
      have e2 : (-1074 + (((L * 4503599627370496 + 9007199254740992) / 4503599627370496 - 1 : Nat) : Int) + 1074).toNat = L + 1 := by omega
      rw [e1, e2, Nat.pow_succ, ← Nat.mul_assoc, Nat.mul_right_comm]
    · have hK2 : 4503599627370496 ≤ K := by
        by_cases h : L = 0
        · omega
        · exact hk2 (by omega)
      have e1 : (L * 4503599627370496 + K) % 4503599627370496 = K - 4503599627370496 := by omega
      have e2 : (-1074 + (((L * 4503599627370496 + K) / 4503599627370496 - 1 : Nat) : Int) + 1074).toNat = L := by omega
      rw [e1, e2, show 4503599627370496 + (K - 4503599627370496) = K from by omega]

def mval (mag : Nat) (p : Int) : Nat := mag * 2 ^ (p + 1074).toNat
/-- how many units 1 is -/
@[irreducible] def U : Nat := 2 ^ (0 + 1074 : Int).toNat
theorem U_eq : U = 2 ^ (0 + 1074 : Int).toNat := by unfold U; rfl
theorem U_pos : 0 < U := by rw [U_eq]; exact Nat.two_pow_pos _
theorem mval_nat (n : Nat) : mval n 0 = n * U := by rw [U_eq]; rfl
theorem read_nearest' (neg : Bool) (mag : Nat) (place : Int) (hov : mag ≠ 0 → place + mag.log2 ≤ 1022) :
    ∃ k q, D (Ieee.double.nearest neg mag place) = .number neg k q ∧ -1074 ≤ q ∧ (mag = 0 → k = 0) ∧ (mag ≠ 0 → mval k q = mval (kept neg mag place) (last mag place)) := by
  by_cases h0 : mag = 0
  · subst h0
    refine ⟨0, -1074, ?_, by omega, fun _ => rfl, fun h => absurd rfl h⟩
    unfold Format.nearest
    rw [if_pos rfl, read_word _ _ (by omega)]; rfl
  · obtain ⟨k, q, h1, h2, h3⟩ := read_nearest neg mag place h0 (hov h0)
    exact ⟨k, q, h1, h2, fun h => absurd h h0, fun _ => h3⟩

/-- a number that the format has is written as it is -/
theorem nearest_exact (neg : Bool) (mag : Nat) (place : Int) (hm : mag < 2 ^ 53) (hp : -1074 ≤ place) (hov : mag ≠ 0 → place + mag.log2 ≤ 1022) :
    ∃ k q, D (Ieee.double.nearest neg mag place) = .number neg k q ∧ -1074 ≤ q ∧ mval k q = mval mag place := by
  obtain ⟨k, q, h1, h2, h3, h4⟩ := read_nearest' neg mag place hov
  refine ⟨k, q, h1, h2, ?_⟩
  by_cases h0 : mag = 0
  · rw [h3 h0, h0]; simp [mval]
  · rw [h4 h0]
    have hl : mag.log2 ≤ 52 := by
      have := Nat.log2_self_le h0
      have : mag.log2 < 53 := (Nat.pow_lt_pow_iff_right (by omega : 1 < 2)).1 (Nat.lt_of_le_of_lt this hm)
      omega
    have hlast : last mag place ≤ place := by unfold last; omega
    have hL : -1074 ≤ last mag place := by unfold last; omega
    unfold kept mval
    have e1 : (last mag place - place).toNat = 0 := by omega
    have e2 : (place + 1074).toNat = (place - last mag place).toNat + (last mag place + 1074).toNat := by omega
    rw [e1, cut_even_zero, Nat.shiftLeft_eq, e2, Nat.pow_add, Nat.mul_assoc]

/-- how great a rounded number may be -/
theorem nearest_bound (neg : Bool) (mag : Nat) (place : Int) (B : Nat) (hB : mag ≠ 0 → place + mag.log2 ≤ B) (hB2 : B ≤ 1000) :
    ∃ k q, D (Ieee.double.nearest neg mag place) = .number neg k q ∧ -1074 ≤ q ∧ mval k q ≤ 2 ^ (B + 1) * U := by
  obtain ⟨k, q, h1, h2, h3, h4⟩ := read_nearest' neg mag place (fun h => by have := hB h; omega)
  refine ⟨k, q, h1, h2, ?_⟩
  by_cases h0 : mag = 0
  · rw [h3 h0]; simp [mval]
  · rw [h4 h0]
    have hk := (kept_bounds neg mag place h0).1
    have hB := hB h0
    have hlast : last mag place ≤ B - 52 ∨ last mag place = -1074 := by unfold last; omega
    unfold mval U
    refine Nat.le_trans (Nat.mul_le_mul_right _ hk) ?_
    rw [← Nat.pow_add, ← Nat.pow_add]
    exact Nat.pow_le_pow_right (by omega) (by omega)
end Go.Proofs.YtbjjanmafejlnaaDoor.Fl
