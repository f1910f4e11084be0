/- Layer 1's fixed calls answer true, wherever the table of powers of ten lies as the program lays it; only new memory is written. -/
import Derived.Test.YtbjjanmafejlnaaDoorRatioF
import Derived.Test.YtbjjanmafejlnaaDoorInts
import Derived.Lib.SmallJoins
namespace Go.Proofs.YtbjjanmafejlnaaDoor
open Go.RowKit Go.Sort Go.Lib

theorem pow_stays {w w' : World} (h : Pow10 w) (hb : Below w.heap.size w w') : Pow10 w' :=
  Joins.tab_stays (g := 1) (by kernel_rfl) h hb (Nat.le_refl _)

theorem text_const (B : Nat) (l : List UInt8) (hB : B < 2 ^ 64) (h : Fl.textL B = l) (w : World) (hp : Pow10 w) :
    Calls Tryd.prog 14 #[.float .f64 B] w fun e w' => e = .returned (.string ⟨l.toArray⟩) ∧ Below w.heap.size w w' ∧ Pow10 w' :=
  (text_any B hB w hp).mono fun _ _ ⟨he, hb⟩ => ⟨by rw [he, h], hb, pow_stays hp hb⟩

theorem dec_333 : Lib.decDigits 333 = [51, 51, 51] := by simp [Lib.decDigits]
theorem dec_1 : Lib.decDigits 1 = [49] := by simp [Lib.decDigits]
theorem dec_0 : Lib.decDigits 0 = [48] := by simp [Lib.decDigits]
theorem dec_1500 : Lib.decDigits 1500 = [49, 53, 48, 48] := by simp [Lib.decDigits]
theorem text_third : Fl.textL 4599676419421066581 = [48, 46, 51, 51, 51] := by
  unfold Fl.textL
  rw [show Fl.amount 4599676419421066581 = 333 from by decide +kernel, dec_333]
  decide +kernel
theorem text_half : Fl.textL 4557750909289998844 = [48, 46, 48, 48, 49] := by
  unfold Fl.textL
  rw [show Fl.amount 4557750909289998844 = 1 from by decide +kernel, dec_1]
  decide +kernel
theorem text_minf : Fl.textL 18442240474082181120 = [45, 105, 110, 102] := by
  unfold Fl.textL
  rw [show Fl.amount 18442240474082181120 = 0 from by decide +kernel, dec_0]
  decide +kernel
theorem text_mzero : Fl.textL 9223372036854775808 = [45, 48, 46, 48, 48, 48] := by
  unfold Fl.textL
  rw [show Fl.amount 9223372036854775808 = 0 from by decide +kernel, dec_0]
  decide +kernel
theorem text_mone : Fl.textL 13832806255468478464 = [45, 49, 46, 53, 48, 48] := by
  unfold Fl.textL
  rw [show Fl.amount 13832806255468478464 = 1500 from by decide +kernel, dec_1500]
  decide +kernel
theorem text_nan' (r : Nat) (h : ∃ s f, Fl.D r = .nan s f) : Fl.textL r = [110, 97, 110] := by
  obtain ⟨s, f, h⟩ := h
  unfold Fl.textL; rw [if_pos (by unfold Fl.kind; rw [h]; rfl)]
theorem part_13 (r : Nat) (h : Fl.PartOf 1 3 r) : r = 4599676419421066581 := by
  unfold Fl.PartOf at h
  rw [show Ieee.double.div (floatOfInt .f64 1) (floatOfInt .f64 3) = some 4599676419421066581 from by decide +kernel] at h
  exact h
theorem part_00 (r : Nat) (h : Fl.PartOf 0 0 r) : ∃ s f, Fl.D r = .nan s f := by
  unfold Fl.PartOf at h
  rw [show Ieee.double.div (floatOfInt .f64 0) (floatOfInt .f64 0) = none from by decide +kernel] at h
  exact h
theorem part_m10 (r : Nat) (h : Fl.PartOf (-1) 0 r) : r = 18442240474082181120 := by
  unfold Fl.PartOf at h
  rw [show Ieee.double.div (floatOfInt .f64 (-1)) (floatOfInt .f64 0) = some 18442240474082181120 from by decide +kernel] at h
  exact h

theorem part_at (a b : Int) (B : Nat) (h : ∀ r, Fl.PartOf a b r → r = B) (w : World) (hp : Pow10 w) :
    Calls Tryd.prog 11 #[.int .i64 a, .int .i64 b] w fun e w' => e = .returned (.float .f64 B) ∧ Below w.heap.size w w' ∧ Pow10 w' :=
  (part_any a b w).mono fun _ _ ⟨r, h1, h2, h3, n, h4⟩ => by
    subst h4; rw [← h r h1]
    have hb := below_drewN' (Below.refl w.heap.size w) n
    exact ⟨h3, hb, pow_stays hp hb⟩
theorem part_nan (w : World) (hp : Pow10 w) :
    Calls Tryd.prog 11 #[.int .i64 0, .int .i64 0] w fun e w' => ∃ r, (r < 2 ^ 64 ∧ Fl.textL r = [110, 97, 110]) ∧ e = .returned (.float .f64 r) ∧ Below w.heap.size w w' ∧ Pow10 w' :=
  (part_any 0 0 w).mono fun _ _ ⟨r, h1, h2, h3, n, h4⟩ => by
    subst h4
    have hb := below_drewN' (Below.refl w.heap.size w) n
    exact ⟨r, ⟨h2, text_nan' r (part_00 r h1)⟩, h3, hb, pow_stays hp hb⟩

/-- the floats of the fixed list: no number, 1, the two zeros -/
def fixedXs (r : Nat) (k : Nat) : Nat := if k = 0 then r else if k = 1 then 4607182418800017408 else if k = 2 then 9223372036854775808 else 0
def fixedRank (k : Fin 4) : Nat := if k.val = 0 then 3 else if k.val = 1 then 2 else if k.val = 2 then 0 else 1
theorem fixed_lt (r : Nat) (h : ∃ s f, Fl.D r = .nan s f) (x y : Fin 4) : ltOf (cmpFin 4 (fixedXs r)) x y = decide (fixedRank x < fixedRank y) := by
  obtain ⟨s, f, h⟩ := h
  have k0 : Fl.kind r = 6 := by unfold Fl.kind; rw [h]; rfl
  have v0 : Fl.val (Fl.D r) = 0 := by rw [h]; rfl
  have k1 : Fl.kind 4607182418800017408 = 4 := by decide +kernel
  have k2 : Fl.kind 9223372036854775808 = 2 := by decide +kernel
  have k3 : Fl.kind 0 = 3 := by decide +kernel
  have hl : ltOf (cmpFin 4 (fixedXs r)) x y = Fl.lessF (fixedXs r x.val) (fixedXs r y.val) := by
    unfold ltOf cmpFin cmpF
    cases Fl.lessF (fixedXs r x.val) (fixedXs r y.val)
    · cases Fl.lessF (fixedXs r y.val) (fixedXs r x.val) <;> rfl
    · rfl
  rw [hl, Fl.less_iff]
  obtain ⟨x, hx⟩ := x
  obtain ⟨y, hy⟩ := y
  have hx' : x = 0 ∨ x = 1 ∨ x = 2 ∨ x = 3 := by omega
  have hy' : y = 0 ∨ y = 1 ∨ y = 2 ∨ y = 3 := by omega
  rcases hx' with rfl | rfl | rfl | rfl <;> rcases hy' with rfl | rfl | rfl | rfl <;> simp [fixedXs, fixedRank, k0, k1, k2, k3]
theorem fixed_sorts (r : Nat) (h : ∃ s f, Fl.D r = .nan s f) : Sorts 4 (fixedXs r) (by omega) #[2, 3, 1, 0] := by
  intro bx blk cap w hcmp hH
  letI : Inhabited (Fin 4) := ⟨⟨0, by omega⟩⟩
  have hst := stable_small (encFin 4) (fun _ => rfl) (cmpFin 4 (fixedXs r)) 33 #[.pointer (some ⟨bx, 0, none⟩)] blk cap (Array.ofFn (n := 4) id) w order1_enters (by simpa using hcmp) hH (by simp)
  have e : Sort.insertionSort (ltOf (cmpFin 4 (fixedXs r))) (Array.ofFn (n := 4) id) 0 (Array.ofFn (n := 4) (id : Fin 4 → Fin 4)).size = #[2, 3, 1, 0] := by
    have e2 : ltOf (cmpFin 4 (fixedXs r)) = fun x y => decide (fixedRank x < fixedRank y) := by funext x y; exact fixed_lt r h x y
    rw [e2]
    simp only [Sort.insertionSort, Array.size_ofFn]
    rw [Sort.insOuter, if_pos (by omega), Sort.insOuter, if_pos (by omega), Sort.insOuter, if_pos (by omega), Sort.insOuter, if_neg (by omega)]
    decide +kernel
  rw [e] at hst
  simpa using hst
end Go.Proofs.YtbjjanmafejlnaaDoor
