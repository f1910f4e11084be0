/- The walks of ratio.Order's comparison, of ratio.Order for few elements, of the reference's Ints, of math.NaN: what the fixed calls of layer 1 need. -/
import Derived.Test.YtbjjanmafejlnaaDoorRatioD
import Derived.Test.YtbjjanmafejlnaaDoorSortShelf
import Derived.Deep.OwnRows
namespace Go.Proofs.YtbjjanmafejlnaaDoor
open Go.RowKit Go.Sort

def cmpF (x y : Nat) : Int := if Fl.lessF x y then -1 else if Fl.lessF y x then 1 else 0

theorem cmp_any (i j n : Nat) (xs : Nat → Nat) (b off cap bx : Nat) (hi : i < n) (hj : j < n) (_hn : n ≤ 140737488355328) (hxs : ∀ k, k < n → xs k < 2 ^ 64) (W : World)
    (hbox : W.cell? ⟨bx, 0, none⟩ = some (.slice (some ⟨b, off, none⟩) n cap)) (hc : ∀ k, k < n → W.cell? ⟨b, off + k, none⟩ = some (.float .f64 (xs k))) :
    Calls Tryd.prog 33 #[.int .i64 i, .int .i64 j, .pointer (some ⟨bx, 0, none⟩)] W fun e w' => e = .returned (.int .i64 (cmpF (xs i) (xs j))) ∧ ∃ q, w' = W.drewN q := by
  have h1 := less_any (xs i) (xs j) (hxs i hi) (hxs j hj)
  have h2 := less_any (xs j) (xs i) (hxs j hj) (hxs i hi)
  have H1 := Lib.hid h1; have H2 := Lib.hid h2
  have c1 := hc i hi
  have c2 := hc j hj
  have i1 : (i : Int) < (n : Int) := by omega
  have j1 : (j : Int) < (n : Int) := by omega
  clear h1 h2 hc hxs
  have hfin : ∀ v : Int, v = cmpF (xs i) (xs j) → ∀ q, (Ending.returned (.int .i64 v) = .returned (.int .i64 (cmpF (xs i) (xs j))) ∧ ∃ q', W.drewN q = W.drewN q') := by rintro v rfl q; exact ⟨rfl, q, rfl⟩
  have HF := Lib.hid hfin; clear hfin
  unfold cmpF at HF ⊢
  generalize xs i = x at *
  generalize xs j = y at *
  cases hl : Fl.lessF x y
  · cases hr : Fl.lessF y x
    all_goals
      simp only [hl, hr] at H1 H2 HF
      go_enter Tryd.func33, Tryd.ntmps33
      go_wp2_with fail
      go_quiet ((go_at_call 16; exact quiet_left (H1.out _)))
      go_wp2_with fail
      go_quiet ((go_at_call 16; exact quiet_add_left (H2.out _)))
      go_wp2_with fail
      go_ret
      exact HF.out _ rfl _
  · simp only [hl] at H1 HF
    go_enter Tryd.func33, Tryd.ntmps33
    go_wp2_with fail
    go_quiet ((go_at_call 16; exact quiet_left (H1.out _)))
    go_wp2_with fail
    go_ret
    exact HF.out _ rfl _
end Go.Proofs.YtbjjanmafejlnaaDoor
