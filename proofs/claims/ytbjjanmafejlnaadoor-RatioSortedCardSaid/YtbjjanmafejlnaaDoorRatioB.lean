/- The walks of ratio.Less, Same, Part and of the reference's None, Minus, Less, Same, Part, Digits, Signed: what each call returns, of every float (a word below 2^64) and every int. -/
import Derived.Test.YtbjjanmafejlnaaDoorRatioA
import Derived.Test.YtbjjanmafejlnaaDoorFlPart
namespace Go.Proofs.YtbjjanmafejlnaaDoor
open Go.RowKit

theorem less_any (x y : Nat) (hx : x < 2 ^ 64) (hy : y < 2 ^ 64) (w : World) : Calls Tryd.prog 16 #[.float .f64 x, .float .f64 y] w fun e w' => e = .returned (.bool (Fl.lessF x y)) ∧ w = w' := by
  have HX := Lib.hid hx; clear hx
  have HY := Lib.hid hy; clear hy
  go_enter Tryd.func16, Tryd.ntmps16
  go_wp2_with (go_at_call 24; first | ((with_reducible refine (kind_any x HX.out _).mono ?_); rintro e w' ⟨rfl, rfl⟩) | ((with_reducible refine (kind_any y HY.out _).mono ?_); rintro e w' ⟨rfl, rfl⟩))
  all_goals go_ret
  all_goals (refine ⟨?_, rfl⟩; unfold Fl.lessF Fl.ord; simp only [FloatKind.format] at *; simp_all)
theorem same_any (x y : Nat) (hx : x < 2 ^ 64) (hy : y < 2 ^ 64) (w : World) : Calls Tryd.prog 10 #[.float .f64 x, .float .f64 y] w fun e w' => e = .returned (.bool (Fl.sameF x y)) ∧ w = w' := by
  have HX := Lib.hid hx; clear hx
  have HY := Lib.hid hy; clear hy
  go_enter Tryd.func10, Tryd.ntmps10
  go_wp2_with (go_at_call 16; first | ((with_reducible refine (less_any x y HX.out HY.out _).mono ?_); rintro e w' ⟨rfl, rfl⟩) | ((with_reducible refine (less_any y x HY.out HX.out _).mono ?_); rintro e w' ⟨rfl, rfl⟩))
  all_goals go_ret
  all_goals (refine ⟨?_, rfl⟩; unfold Fl.sameF; simp_all)

theorem rnone_any (x : Nat) (w : World) : Calls Tryd.prog 28 #[.float .f64 x] w fun e w' => e = .returned (.bool (Fl.noneF x)) ∧ w = w' := by
  go_enter Tryd.func28, Tryd.ntmps28
  go_wp2
  go_ret
  exact ⟨rfl, rfl⟩
theorem rminus_any (x : Nat) (w : World) : Calls Tryd.prog 29 #[.float .f64 x] w fun e w' => e = .returned (.bool (Fl.minusF x)) ∧ w = w' := by
  by_cases h1 : (Fl.ord x 0 == some .lt) = true
  · have hm := Fl.minus_lt x h1
    have HM := Lib.hid hm; clear hm
    have h2 : (FloatKind.f64.format.order x 0 == some Ordering.lt) = true := h1
    clear h1
    go_enter Tryd.func29, Tryd.ntmps29
    go_wp2
    go_ret
    exact ⟨by rw [HM.out]; rfl, rfl⟩
  · have h1 : (Fl.ord x 0 == some .lt) = false := by simpa using h1
    have h2 : (FloatKind.f64.format.order x 0 == some Ordering.lt) = false := h1
    by_cases h3 : (Fl.ord x 0 == some .eq) = true
    · have h4 : (FloatKind.f64.format.order x 0 == some Ordering.eq) = true := h3
      obtain ⟨r, hr, hs⟩ := Fl.one_div_zero x h3
      have hq := fun w => run_float_arith (P := Tryd.prog) w .quo 22 .f64 4607182418800017408 x r hr
      have HS := Lib.hid hs; clear hs h1 h3 hr
      go_enter Tryd.func29, Tryd.ntmps29
      go_wp2
      go_ret
      exact ⟨by rw [← HS.out]; rfl, rfl⟩
    · have h3 : (Fl.ord x 0 == some .eq) = false := by simpa using h3
      have h4 : (FloatKind.f64.format.order x 0 == some Ordering.eq) = false := h3
      have hm := Fl.minus_no x h1 h3
      have HM := Lib.hid hm; clear hm h1 h3
      go_enter Tryd.func29, Tryd.ntmps29
      go_wp2
      go_ret
      exact ⟨by rw [HM.out]; rfl, rfl⟩

theorem rless_any (x y : Nat) (w : World) : Calls Tryd.prog 17 #[.float .f64 x, .float .f64 y] w fun e w' => e = .returned (.bool (Fl.lessF x y)) ∧ w = w' := by
  have hl := Fl.lessR_eq x y
  have HL := Lib.hid hl; clear hl
  go_enter Tryd.func17, Tryd.ntmps17
  go_wp2_with (first | (go_at_call 28; (with_reducible refine (rnone_any _ _).mono ?_); rintro e w' ⟨rfl, rfl⟩) | (go_at_call 29; (with_reducible refine (rminus_any _ _).mono ?_); rintro e w' ⟨rfl, rfl⟩))

  all_goals go_ret
  all_goals (refine ⟨?_, rfl⟩; rw [← HL.out]; unfold Fl.ord; simp only [FloatKind.format] at *; simp_all)
theorem rsame_any (x y : Nat) (w : World) : Calls Tryd.prog 13 #[.float .f64 x, .float .f64 y] w fun e w' => e = .returned (.bool (Fl.sameF x y)) ∧ w = w' := by
  go_enter Tryd.func13, Tryd.ntmps13
  go_wp2_with (go_at_call 17; first | ((with_reducible refine (rless_any x y _).mono ?_); rintro e w' ⟨rfl, rfl⟩) | ((with_reducible refine (rless_any y x _).mono ?_); rintro e w' ⟨rfl, rfl⟩))
  all_goals go_ret
  all_goals (refine ⟨?_, rfl⟩; unfold Fl.sameF; simp_all)

/-- a part of two whole numbers: some bits, perhaps behind a draw -/
def PartEnds (a b : Int) (w : World) (e : Ending) (w' : World) : Prop := ∃ r, Fl.PartOf a b r ∧ r < 2 ^ 64 ∧ e = .returned (.float .f64 r) ∧ ∃ n, w' = w.drewN n
theorem part_any (a b : Int) (w : World) : Calls Tryd.prog 11 #[.int .i64 a, .int .i64 b] w (PartEnds a b w) := by
  cases hd : floatBits .quo .f64 (floatOfInt .f64 a) (floatOfInt .f64 b) with
  | some r =>
    have hq := fun w => run_float_arith (P := Tryd.prog) w .quo 22 .f64 _ _ r hd
    have hr : Fl.PartOf a b r := by
      have hd' : Ieee.double.div (floatOfInt .f64 a) (floatOfInt .f64 b) = some r := hd
      unfold Fl.PartOf; rw [hd']
    have hl : r < 2 ^ 64 := Fl.part_lt (a := a) (b := b) hd
    have HR := Lib.hid hr; have HL := Lib.hid hl
    clear hd hr hl
    go_enter Tryd.func11, Tryd.ntmps11
    go_wp2
    go_ret
    exact ⟨r, HR.out, HL.out, rfl, 0, rfl⟩
  | none =>
    have hq := fun w => run_float_nan (P := Tryd.prog) w .quo 22 (floatOfInt .f64 a) (floatOfInt .f64 b) hd
    have hr : ∀ t, Fl.PartOf a b (Question.cut (.nanBits .f64 (floatOfInt .f64 a) (floatOfInt .f64 b)) t) := by
      intro t
      have hd' : Ieee.double.div (floatOfInt .f64 a) (floatOfInt .f64 b) = none := hd
      unfold Fl.PartOf; rw [hd']; exact Fl.nanBits_nan _ _ _
    have HR := Lib.hid hr
    clear hd hr
    go_enter Tryd.func11, Tryd.ntmps11
    go_wp2
    go_ret
    exact ⟨_, HR.out _, Fl.cut_lt _ _ _, rfl, 1, rfl⟩
end Go.Proofs.YtbjjanmafejlnaaDoor
