/- The walks of package ratio's small functions and of the reference's: what each call returns, of every float; the world is left as it was, but for draws. -/
import Derived.Test.YtbjjanmafejlnaaDoorRows
import Derived.Test.YtbjjanmafejlnaaDoorFlKind
import Derived.Test.YtbjjanmafejlnaaDoorBase
namespace Go.Proofs.YtbjjanmafejlnaaDoor
open Go.RowKit

@[go_sem] theorem run_neg_f64 {P : Program} (x : Nat) (w : World) : (Op.unary .neg (.float .f64 x)).run P w = .ok (.float .f64 (Op.negFloat .f64 x)) w := rfl

/-- an operation that is not valid: bits of the machine's choosing, behind a draw -/
theorem run_float_nan {P : Program} (w : World) (op : BinOp) (t : TypeId) (x y : Nat) (h : floatBits op .f64 x y = none) (ho : op = .quo ∨ op = .sub := by decide) :
    (binOp op t (.float .f64 x) (.float .f64 y)).run P w = .ok (.float .f64 (Question.cut (.nanBits .f64 x y) (w.tape w.drawn (.nanBits .f64 x y)))) w.drew := by
  unfold floatBits at h
  rcases ho with rfl | rfl <;> (simp only at h; simp [binOp, Op.floatArith, h]; intro hf; cases hf)

theorem isNaN_any (x : Nat) (w : World) : Calls Tryd.prog 34 #[.float .f64 x] w fun e w' => e = .returned (.bool (Fl.noneF x)) ∧ w = w' := by
  go_enter Tryd.func34, Tryd.ntmps34
  go_wp2
  go_ret
  exact ⟨rfl, rfl⟩
theorem inf_any (x : Nat) (w : World) : Calls Tryd.prog 35 #[.float .f64 x, .int .i64 1] w fun e w' => e = .returned (.bool (Ieee.double.order x 9218868437227405311 == some .gt)) ∧ w = w' := by
  go_enter Tryd.func35, Tryd.ntmps35
  go_wp2
  go_ret
  exact ⟨rfl, rfl⟩
theorem infn_any (x : Nat) (w : World) : Calls Tryd.prog 35 #[.float .f64 x, .int .i64 (-1)] w fun e w' => e = .returned (.bool (Ieee.double.order (Op.negFloat .f64 x) 9218868437227405311 == some .gt)) ∧ w = w' := by
  go_enter Tryd.func35, Tryd.ntmps35
  go_wp2
  go_ret
  exact ⟨rfl, rfl⟩
theorem run_bits (x : Nat) (w : World) : (callFunc 49 #[.float .f64 x]).run Tryd.prog w = .ok (.value (.int .u64 x)) w := by
  rw [run_callFunc_extern Tryd.func49 (by kernel_rfl) (by kernel_rfl) (by kernel_rfl) (e := Extern.MathFloatBits.float64bits) (by kernel_rfl)]
  rfl
theorem signbit_any (x : Nat) (w : World) : Calls Tryd.prog 36 #[.float .f64 x] w fun e w' => e = .returned (.bool (decide (wrap64 x < 0))) ∧ w = w' := by
  have hb := run_bits x w
  go_enter Tryd.func36, Tryd.ntmps36
  go_wp2
  go_ret
  exact ⟨rfl, rfl⟩

theorem kind_any (x : Nat) (hx : x < 2 ^ 64) (w : World) : Calls Tryd.prog 24 #[.float .f64 x] w fun e w' => e = .returned (.int .i64 (Fl.kind x)) ∧ w = w' := by
  have hk := Fl.kind_chain x hx
  have HK := Lib.hid hk; clear hk
  have HX := Lib.hid hx; clear hx
  go_enter Tryd.func24, Tryd.ntmps24
  go_wp2_with (first | (go_at_call 34; refine (isNaN_any _ _).mono ?_; rintro e w' ⟨rfl, rfl⟩) | (go_at_call 35; first | ((with_reducible refine (inf_any _ _).mono ?_); rintro e w' ⟨rfl, rfl⟩) | ((with_reducible refine (infn_any _ _).mono ?_); rintro e w' ⟨rfl, rfl⟩)) | (go_at_call 36; refine (signbit_any _ _).mono ?_; rintro e w' ⟨rfl, rfl⟩))
  all_goals go_ret
  all_goals (refine ⟨?_, rfl⟩; rw [HK.out]; unfold Fl.ord; simp only [FloatKind.format] at *; simp [*])
end Go.Proofs.YtbjjanmafejlnaaDoor
