/- The library's stable sort over a row of places: the walk of swapRange and of rotate: what the row holds behind each. At most 1000 elements. -/
import Derived.Test.YtbjjanmafejlnaaDoorRatioF
import Derived.BigRegion
namespace Go.Proofs.YtbjjanmafejlnaaDoor
open Go.RowKit Go.Sort Go.Lib

/-- the row in block blk holds d, m draws on -/
def rowW {N : Nat} [Inhabited (Fin N)] (w0 : World) (blk : Nat) (d : Array (Fin N)) (m : Nat) : World := (putRow (encFin N) w0 blk 0 d).drewN m

structure SEnv (N : Nat) [Inhabited (Fin N)] (w0 : World) (blk : Nat) : Prop where
  holds : ∃ d0 : Array (Fin N), d0.size = N ∧ Holds (encFin N) w0 blk 0 d0
  small : N ≤ 1000

section
variable {N : Nat} [Inhabited (Fin N)] {w0 : World} {blk : Nat}
theorem SEnv.cell (E : SEnv N w0 blk) (d : Array (Fin N)) (hd : d.size = N) (m k : Nat) (hk : k < N) : (rowW w0 blk d m).cell? ⟨blk, k, none⟩ = some (.int .i64 ((d[k]!).val : Nat)) := by
  obtain ⟨d0, h0, hh⟩ := E.holds
  have := cell?_putRow (encFin N) w0 blk 0 d0 d hh (by omega) k (by omega)
  rw [Nat.zero_add] at this
  exact this
theorem SEnv.froz (E : SEnv N w0 blk) (d : Array (Fin N)) (m k : Nat) (hk : k < N) : (rowW w0 blk d m).frozen? ⟨blk, k, none⟩ = false := by
  obtain ⟨d0, h0, hh⟩ := E.holds
  have := (hh k (by omega)).2
  rw [Nat.zero_add] at this
  show (putRow _ _ _ _ _).frozen? _ = _
  rw [frozen?_putRow]; exact this
theorem rowW_swp (d : Array (Fin N)) (m i j : Nat) (hi : i < d.size) (hj : j < d.size) :
    ((rowW w0 blk d m).setCell ⟨blk, i, none⟩ (.int .i64 ((d[j]!).val : Nat))).setCell ⟨blk, j, none⟩ (.int .i64 ((d[i]!).val : Nat)) = rowW w0 blk (swp d i j) m := by
  have := putRow_swp (encFin N) w0 blk 0 d i j hi hj
  rw [Nat.zero_add, Nat.zero_add] at this
  unfold rowW
  rw [← this]; rfl
end

/-- what swapRange makes -/
def swapped {N : Nat} [Inhabited (Fin N)] (d r : Array (Fin N)) (a b n : Nat) : Prop :=
  r.size = d.size ∧ ∀ k, r[k]! = if a ≤ k ∧ k < a + n then d[k - a + b]! else if b ≤ k ∧ k < b + n then d[k - b + a]! else d[k]!

theorem swp_at {N : Nat} [Inhabited (Fin N)] (d : Array (Fin N)) (i j k : Nat) (hi : i < d.size) (hj : j < d.size) (hij : i ≠ j) : (swp d i j)[k]! = if k = i then d[j]! else if k = j then d[i]! else d[k]! := by
  unfold swp
  by_cases h1 : k = j
  · subst h1
    rw [getElem!_set_same _ _ _ (by simpa using hj), if_neg (fun h => hij h.symm), if_pos rfl]
  · rw [getElem!_set_other _ _ _ _ h1]
    by_cases h2 : k = i
    · subst h2; rw [getElem!_set_same _ _ _ hi, if_pos rfl]
    · rw [getElem!_set_other _ _ _ _ h2, if_neg h2, if_neg h1]

theorem swapped_zero {N : Nat} [Inhabited (Fin N)] (d : Array (Fin N)) (a b : Nat) : swapped d d a b 0 := by
  refine ⟨rfl, fun k => ?_⟩
  rw [if_neg (by omega), if_neg (by omega)]
theorem swapped_step {N : Nat} [Inhabited (Fin N)] {d r : Array (Fin N)} {a b n : Nat} (h : swapped d r a b n) (hab : a + n < b) (hb : b + n < d.size) : swapped d (swp r (a + n) (b + n)) a b (n + 1) := by
  obtain ⟨h1, h2⟩ := h
  refine ⟨by rw [size_swp, h1], fun k => ?_⟩
  rw [swp_at r (a + n) (b + n) k (by omega) (by omega) (by omega), h2, h2, h2]
  by_cases e1 : k = a + n
  · subst e1
    rw [if_pos rfl, if_neg (by omega), if_neg (by omega), if_pos (by omega)]
    congr 1; omega
  by_cases e2 : k = b + n
  · subst e2
    rw [if_neg (by omega), if_pos rfl, if_neg (by omega), if_neg (by omega), if_neg (by omega), if_pos (by omega)]
    congr 1; omega
  rw [if_neg e1, if_neg e2]
  by_cases c1 : a ≤ k ∧ k < a + n
  · rw [if_pos c1, if_pos (by omega)]
  · rw [if_neg c1, if_neg (c := a ≤ k ∧ k < a + (n + 1)) (by omega)]
    by_cases c2 : b ≤ k ∧ k < b + n
    · rw [if_pos c2, if_pos (by omega)]
    · rw [if_neg c2, if_neg (by omega)]

set_option maxHeartbeats 1000000 in
theorem swapRange_any {N : Nat} [Inhabited (Fin N)] {w0 : World} {blk : Nat} (E : SEnv N w0 blk) (cap : Nat) (fv : Value) (d : Array (Fin N)) (hd : d.size = N) (m a b n : Nat) (hab : a + n ≤ b) (hb : b + n ≤ N) :
    Calls Tryd.prog 76 #[.slice (some ⟨blk, 0, none⟩) N cap, .int .i64 a, .int .i64 b, .int .i64 n, fv] (rowW w0 blk d m) fun e w' =>
      e = .returned (.tuple #[]) ∧ ∃ r m', swapped d r a b n ∧ w' = rowW w0 blk r m' := by
  have hN := E.small
  have HE := Lib.hid E
  clear E
  go_enter Tryd.func76, Tryd.ntmps76
  go_wp2_with fail
  go_loopw [10] (fun i wr => ∃ (k m' : Nat) (r : Array (Fin N)), k ≤ n ∧ i = .int .i64 k ∧ swapped d r a b k ∧ wr = rowW w0 blk r m') (fun i _ => n - (intOf i).toNat)
  case atStart => exact ⟨0, m, d, by omega, rfl, swapped_zero d a b, rfl⟩
  case round =>
    obtain ⟨k, m', r, hk, rfl, hsw, hwr⟩ := hrel
    have HS := Lib.hid hsw
    have hrs : r.size = N := by rw [hsw.1, hd]
    by_cases hlt : k < n
    · have c1 := HE.out.cell r hrs m' (a + k) (by omega)
      have c2 := HE.out.cell r hrs m' (b + k) (by omega)
      have f1 := HE.out.froz r m' (a + k) (by omega)
      have f2 := HE.out.froz r m' (b + k) (by omega)
      rw [← hwr] at c1 c2 f1 f2
      have HW := Lib.hid hwr
      clear hwr hsw
      generalize hx : (r[a + k]!).val = x at c1
      generalize hy : (r[b + k]!).val = y at c2
      have HX := Lib.hid hx; have HY := Lib.hid hy; have HD := Lib.hid hd; have HRS := Lib.hid hrs
      clear hx hy hd hrs
      obtain ⟨v', hv'⟩ := cell?_setCell_some (w := wr.drew) (p := ⟨blk, a + k, none⟩) (x := .int .i64 (y : Nat)) (q := ⟨blk, b + k, none⟩) (v := .int .i64 (y : Nat)) (by go_simp)
      have n1 : (0 : Int) ≤ (a : Int) + (k : Int) := by omega
      have n2 : (0 : Int) ≤ (b : Int) + (k : Int) := by omega
      have u1 : (a : Int) + (k : Int) < (N : Int) := by omega
      have u2 : (b : Int) + (k : Int) < (N : Int) := by omega
      have t1 : ((a : Int) + (k : Int)).toNat = a + k := by omega
      have t2 : ((b : Int) + (k : Int)).toNat = b + k := by omega
      have s1 : IntKind.i64.wrap ((a : Int) + (k : Int)) = (a : Int) + (k : Int) := IntWalk.i64_in _ (by omega)
      have s2 : IntKind.i64.wrap ((b : Int) + (k : Int)) = (b : Int) + (k : Int) := IntWalk.i64_in _ (by omega)
      go_wp2_with fail
      go_region
      all_goals go_wp2_with fail
      refine ⟨⟨k + 1, m' + 1, swp r (a + k) (b + k), by omega, by go_num, swapped_step HS.out (by omega) (by rw [HD.out]; omega), ?_⟩, by simp [intOf]; omega⟩
      rw [HW.out, ← HX.out, ← HY.out, rowW_swp r m' (a + k) (b + k) (by rw [HRS.out]; omega) (by rw [HRS.out]; omega)]
      rfl
    · obtain rfl : k = n := by omega
      go_wp2_with fail
      go_end0
      exact ⟨rfl, r, m', hsw, rfl⟩

/-! rotate, on functions of the place -/
def swapF {α : Type} (D : Nat → α) (a b n k : Nat) : α := if a ≤ k ∧ k < a + n then D (k - a + b) else if b ≤ k ∧ k < b + n then D (k - b + a) else D k
def rotF {α : Type} (D : Nat → α) (lo mid hi k : Nat) : α := if lo ≤ k ∧ k < lo + (hi - mid) then D (k + (mid - lo)) else if lo + (hi - mid) ≤ k ∧ k < hi then D (k - (hi - mid)) else D k

theorem rot_more {α : Type} (D : Nat → α) (m i j : Nat) (h1 : j < i) (h2 : i ≤ m) : rotF (swapF D (m - i) m j) (m - (i - j)) m (m + j) = rotF D (m - i) m (m + j) := by
  funext k
  simp only [rotF, swapF]
  repeat' split
  all_goals first
    | omega
    | (congr 1 <;> omega)
theorem rot_less {α : Type} (D : Nat → α) (m i j : Nat) (h1 : i < j) (h2 : i ≤ m) : rotF (swapF D (m - i) (m + j - i) i) (m - i) m (m + (j - i)) = rotF D (m - i) m (m + j) := by
  funext k
  simp only [rotF, swapF]
  repeat' split
  all_goals first
    | omega
    | (congr 1 <;> omega)
theorem rot_last {α : Type} (D : Nat → α) (m i : Nat) (h2 : i ≤ m) : swapF D (m - i) m i = rotF D (m - i) m (m + i) := by
  funext k
  simp only [rotF, swapF]
  repeat' split
  all_goals first
    | omega
    | (congr 1 <;> omega)
theorem swapped_fn {N : Nat} [Inhabited (Fin N)] {d r : Array (Fin N)} {a b n : Nat} (h : swapped d r a b n) : (fun k => r[k]!) = swapF (fun k => d[k]!) a b n := by
  funext k; exact h.2 k

def rotated {N : Nat} [Inhabited (Fin N)] (d r : Array (Fin N)) (lo mid hi : Nat) : Prop := r.size = d.size ∧ (fun k => r[k]!) = rotF (fun k => d[k]!) lo mid hi

set_option maxHeartbeats 1000000 in
theorem rotate_any {N : Nat} [Inhabited (Fin N)] {w0 : World} {blk : Nat} (E : SEnv N w0 blk) (cap : Nat) (fv : Value) (d : Array (Fin N)) (hd : d.size = N) (m0 lo mid hi : Nat) (h1 : lo < mid) (h2 : mid < hi) (h3 : hi ≤ N) :
    Calls Tryd.prog 71 #[.slice (some ⟨blk, 0, none⟩) N cap, .int .i64 lo, .int .i64 mid, .int .i64 hi, fv] (rowW w0 blk d m0) fun e w' =>
      e = .returned (.tuple #[]) ∧ ∃ r m', rotated d r lo mid hi ∧ w' = rowW w0 blk r m' := by
  have hN := E.small
  have HE := Lib.hid E
  have HD := Lib.hid hd
  clear E hd
  go_enter Tryd.func71, Tryd.ntmps71
  go_wp2_with fail
  go_loopw [10, 11] (fun vi vj wr => ∃ (i j m' : Nat) (r : Array (Fin N)), 1 ≤ i ∧ 1 ≤ j ∧ i ≤ mid ∧ mid + j ≤ hi ∧ vi = .int .i64 i ∧ vj = .int .i64 j ∧ r.size = N ∧ rotF (fun k => r[k]!) (mid - i) mid (mid + j) = rotF (fun k => d[k]!) lo mid hi ∧ wr = rowW w0 blk r m') (fun vi vj _ => (intOf vi).toNat + (intOf vj).toNat)
  case atStart => exact ⟨mid - lo, hi - mid, m0, d, by omega, by omega, by omega, by omega, by rw [Int.ofNat_sub (by omega)], by rw [Int.ofNat_sub (by omega)], HD.out, by rw [show mid - (mid - lo) = lo from by omega, show mid + (hi - mid) = hi from by omega], rfl⟩
  case round =>
    obtain ⟨i, j, m', r, hi1, hj1, him, hjh, rfl, rfl, hr, hrot, hwr⟩ := hrel
    have HR := Lib.hid hr; have HROT := Lib.hid hrot; have HW := Lib.hid hwr
    clear hr hrot hwr
    rcases Nat.lt_trichotomy i j with hij | hij | hij
    · have d1 : decide ((j : Int) < (i : Int)) = false := by simp; omega
      have d2 : ((i : Int) != (j : Int)) = true := by simp; omega
      go_wp2_with fail
      rw [HW.out, show ((mid : Int) - (i : Int)) = ((mid - i : Nat) : Int) from by omega, show ((mid : Int) + (j : Int) - (i : Int)) = ((mid + j - i : Nat) : Int) from by omega]
      refine (swapRange_any HE.out cap fv r HR.out m' (mid - i) (mid + j - i) i (by omega) (by omega)).mono ?_
      rintro e w' ⟨rfl, r2, m2, hsw, hw'⟩
      have HS := Lib.hid hsw; have HW2 := Lib.hid hw'
      clear hsw hw'
      go_wp2_with fail
      refine ⟨⟨i, j - i, m2, r2, hi1, by omega, him, by omega, rfl, by rw [Int.ofNat_sub (by omega)], by rw [HS.out.1, HR.out], ?_, HW2.out⟩, by simp [intOf]; omega⟩
      rw [swapped_fn HS.out, rot_less _ _ _ _ hij him]; exact HROT.out
    · subst hij
      have d2 : ((i : Int) != (i : Int)) = false := by simp
      go_wp2_with fail
      rw [HW.out, show ((mid : Int) - (i : Int)) = ((mid - i : Nat) : Int) from by omega]
      refine (swapRange_any HE.out cap fv r HR.out m' (mid - i) mid i (by omega) (by omega)).mono ?_
      rintro e w' ⟨rfl, r2, m2, hsw, hw'⟩
      have HS := Lib.hid hsw; have HW2 := Lib.hid hw'
      clear hsw hw'
      go_wp2_with fail
      go_end0
      refine ⟨rfl, r2, m2, ⟨by rw [HS.out.1, HR.out, HD.out], ?_⟩, HW2.out⟩
      rw [swapped_fn HS.out, rot_last _ _ _ him]; exact HROT.out
    · have d1 : decide ((j : Int) < (i : Int)) = true := by simp; omega
      have d2 : ((i : Int) != (j : Int)) = true := by simp; omega
      go_wp2_with fail
      rw [HW.out, show ((mid : Int) - (i : Int)) = ((mid - i : Nat) : Int) from by omega]
      refine (swapRange_any HE.out cap fv r HR.out m' (mid - i) mid j (by omega) (by omega)).mono ?_
      rintro e w' ⟨rfl, r2, m2, hsw, hw'⟩
      have HS := Lib.hid hsw; have HW2 := Lib.hid hw'
      clear hsw hw'
      go_wp2_with fail
      refine ⟨⟨i - j, j, m2, r2, by omega, hj1, by omega, hjh, by rw [Int.ofNat_sub (by omega)], rfl, by rw [HS.out.1, HR.out], ?_, HW2.out⟩, by simp [intOf]; omega⟩
      rw [swapped_fn HS.out, rot_more _ _ _ _ hij him]; exact HROT.out
end Go.Proofs.YtbjjanmafejlnaaDoor
