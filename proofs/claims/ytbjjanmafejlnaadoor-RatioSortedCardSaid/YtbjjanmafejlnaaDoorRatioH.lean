/- Layer 1's fixed calls answer true, wherever the table of powers of ten lies as the program lays it; only new memory is written. -/
import Derived.Test.YtbjjanmafejlnaaDoorRatioG
namespace Go.Proofs.YtbjjanmafejlnaaDoor
open Go.RowKit Go.Sort Go.Lib

def fixedOut (k : Nat) : Int := if k = 0 then 2 else if k = 1 then 3 else if k = 2 then 1 else 0

set_option maxHeartbeats 1000000 in
theorem fixed_any (w : World) (hp : Pow10 w) : Calls Tryd.prog 9 #[] w fun e w' => e = .returned (.bool true) ∧ Below w.heap.size w w' := by
  have q1 := fun w => run_float_arith (P := Tryd.prog) w .quo 22 .f64 4607182418800017408 0 9218868437227405312 (by decide +kernel)
  have q2 := fun w => run_float_arith (P := Tryd.prog) w .quo 22 .f64 13830554455654793216 9218868437227405312 9223372036854775808 (by decide +kernel)
  have q3 := fun w => run_float_nan (P := Tryd.prog) w .quo 22 0 0 (by decide +kernel)
  have hless : Hid (∀ w, Calls Tryd.prog 16 #[.float .f64 9223372036854775808, .float .f64 0] w fun e w' => e = .returned (.bool true) ∧ w = w') := by
    have h := less_any 9223372036854775808 0 (by omega) (by omega)
    rw [show Fl.lessF 9223372036854775808 0 = true from by decide +kernel] at h
    exact h
  have hsame : Hid (∀ w, Calls Tryd.prog 10 #[.float .f64 9223372036854775808, .float .f64 0] w fun e w' => e = .returned (.bool false) ∧ w = w') := by
    have h := same_any 9223372036854775808 0 (by omega) (by omega)
    rw [show Fl.sameF 9223372036854775808 0 = false from by decide +kernel] at h
    exact h
  have HP := Lib.hid hp; clear hp
  go_enter Tryd.func9, Tryd.ntmps9
  go_wp2_with fail
  refine (part_at 1 3 _ part_13 _ HP.out).mono ?_
  rintro e w1 ⟨rfl, b1, p1⟩
  have HP1 := Lib.hid p1; have B1 := Lib.hid b1; clear p1 b1
  go_wp2_with fail
  refine (text_const _ _ (by omega) text_third _ HP1.out).mono ?_
  rintro e w2 ⟨rfl, b2, p2⟩
  have HP2 := Lib.hid p2; have B2 := Lib.hid (btrans B1.out b2); clear p2 b2
  go_wp2_with fail
  refine (part_nan _ HP2.out).mono ?_
  rintro e w3 ⟨r, hr, rfl, b3, p3⟩
  have HP3 := Lib.hid p3; have B3 := Lib.hid (btrans B2.out b3); clear p3 b3
  go_wp2_with fail
  refine (text_const _ _ hr.1 hr.2 _ HP3.out).mono ?_
  rintro e w4 ⟨rfl, b4, p4⟩
  have HP4 := Lib.hid p4; have B4 := Lib.hid (btrans B3.out b4); clear p4 b4
  go_wp2_with fail
  refine (part_at (-1) 0 _ part_m10 _ HP4.out).mono ?_
  rintro e w5 ⟨rfl, b5, p5⟩
  have HP5 := Lib.hid p5; have B5 := Lib.hid (btrans B4.out b5); clear p5 b5
  go_wp2_with fail
  refine (text_const _ _ (by omega) text_minf _ HP5.out).mono ?_
  rintro e w6 ⟨rfl, b6, p6⟩
  have HP6 := Lib.hid p6; have B6 := Lib.hid (btrans B5.out b6); clear p6 b6
  go_wp2_with fail
  refine (text_const _ _ (by omega) text_half _ HP6.out).mono ?_
  rintro e w7 ⟨rfl, b7, p7⟩
  have HP7 := Lib.hid p7; have B7 := Lib.hid (btrans B6.out b7); clear p7 b7
  go_wp2_with fail
  refine (text_const _ _ (by omega) text_mzero _ HP7.out).mono ?_
  rintro e w8 ⟨rfl, b8, p8⟩
  have HP8 := Lib.hid p8; have B8 := Lib.hid (btrans B7.out b8); clear p8 b8
  go_wp2_with fail
  refine (hless.out _).mono ?_
  rintro e w' ⟨rfl, rfl⟩
  go_wp2_with fail
  refine (hsame.out _).mono ?_
  rintro e w' ⟨rfl, rfl⟩
  go_wp2_with fail
  refine (text_const _ _ (by omega) text_mone _ HP8.out).mono ?_
  rintro e w9 ⟨rfl, b9, p9⟩
  have HP9 := Lib.hid p9; have B9 := Lib.hid (btrans B8.out b9); clear p9 b9
  go_wp2_with fail
  have hnan := Fl.nanBits_nan 0 0 (w9.tape w9.drawn (.nanBits .f64 0 0))
  have hlt := Fl.cut_lt 0 0 (w9.tape w9.drawn (.nanBits .f64 0 0))
  generalize hR : Question.cut (.nanBits .f64 0 0) (w9.tape w9.drawn (.nanBits .f64 0 0)) = R at *
  have hord := order_any 4 (by omega) (by omega) (fixedXs R) w9.heap.size 0 4 (by
      intro k hk
      have hk' : k = 0 ∨ k = 1 ∨ k = 2 ∨ k = 3 := by omega
      rcases hk' with rfl | rfl | rfl | rfl <;> simp [fixedXs, hlt])
    ((w9.alloc (.cells #[.float .f64 R, .float .f64 4607182418800017408, .float .f64 9223372036854775808, .float .f64 0] 22)).drew) (by simp)
    (by
      intro k hk
      have hk' : k = 0 ∨ k = 1 ∨ k = 2 ∨ k = 3 := by omega
      show (w9.alloc _).cell? _ = _
      rw [World.cell?_alloc_at _ _ _ _ rfl]
      rcases hk' with rfl | rfl | rfl | rfl <;> rfl)
    #[2, 3, 1, 0] rfl (fixed_sorts R hnan)
  have HORD := Lib.hid hord
  clear hord hnan hlt hR
  refine HORD.out.mono ?_
  rintro e w10 ⟨g, rfl, hg1, hg2, hcells, b10⟩
  have B10 := Lib.hid (btrans B9.out ((((Below.refl _ _).alloc (Nat.le_refl _) _).drew).trans (b10.mono (by simp))))
  have hints := ints_any 4 4 4 4 (some ⟨g, 0, none⟩) (some ⟨w10.heap.size, 0, none⟩) fixedOut fixedOut (by omega) (by omega)
    (w10.alloc (.cells #[.int .i64 2, .int .i64 3, .int .i64 1, .int .i64 0] 3))
    (by
      intro k hk
      refine ⟨g, 0, rfl, ?_⟩
      rw [World.cell?_alloc_past _ _ _ hg2, Nat.zero_add, hcells k hk]
      have hk' : k = 0 ∨ k = 1 ∨ k = 2 ∨ k = 3 := by omega
      rcases hk' with rfl | rfl | rfl | rfl <;> rfl)
    (by
      intro k hk
      refine ⟨w10.heap.size, 0, rfl, ?_⟩
      rw [World.cell?_alloc_at _ _ _ _ rfl]
      have hk' : k = 0 ∨ k = 1 ∨ k = 2 ∨ k = 3 := by omega
      rcases hk' with rfl | rfl | rfl | rfl <;> rfl)
  rw [show intsEq 4 4 fixedOut fixedOut = true from intsEq_yes (fun _ _ => rfl)] at hints
  have HI := Lib.hid hints
  clear hints hcells b10 HORD
  go_wp2_with fail
  refine HI.out.mono ?_
  rintro e w11 ⟨rfl, q, rfl⟩
  go_wp2_with fail
  go_ret
  exact ⟨rfl, B10.out.trans (below_drewN' ((Below.refl _ _).alloc (Nat.le_trans B10.out.size (Nat.le_refl _)) _) q)⟩
end Go.Proofs.YtbjjanmafejlnaaDoor
