/- The walk of the reference's Ints: whether two slices of ints are the same, element by element; only draws are made. -/
import Derived.Test.YtbjjanmafejlnaaDoorRows
import Derived.Test.YtbjjanmafejlnaaDoorBase
namespace Go.Proofs.YtbjjanmafejlnaaDoor
open Go.RowKit

def intsEq (n m : Nat) (f g : Nat → Int) : Bool := decide (n = m ∧ ∀ k, k < n → f k = g k)

theorem intsEq_no {n m : Nat} {f g : Nat → Int} (k : Nat) (hk : k < n) (h : f k ≠ g k) : intsEq n m f g = false := by
  unfold intsEq; rw [decide_eq_false_iff_not]; rintro ⟨_, h2⟩; exact h (h2 k hk)
theorem intsEq_yes {n : Nat} {f g : Nat → Int} (h : ∀ k, k < n → f k = g k) : intsEq n n f g = true := by
  unfold intsEq; rw [decide_eq_true_eq]; exact ⟨rfl, h⟩

set_option maxHeartbeats 400000 in
theorem ints_any (n m ca cb : Nat) (pa pb : Option Addr) (f g : Nat → Int) (hn : n ≤ 140737488355328) (hm : m ≤ 140737488355328) (w : World)
    (ha : ∀ k, k < n → ∃ b o, pa = some ⟨b, o, none⟩ ∧ w.cell? ⟨b, o + k, none⟩ = some (.int .i64 (f k)))
    (hb : ∀ k, k < m → ∃ b o, pb = some ⟨b, o, none⟩ ∧ w.cell? ⟨b, o + k, none⟩ = some (.int .i64 (g k))) :
    Calls Tryd.prog 21 #[.slice pa n ca, .slice pb m cb] w fun e w' => e = .returned (.bool (intsEq n m f g)) ∧ ∃ q, w' = w.drewN q := by
  by_cases hnm : n = m
  · subst hnm
    have HA := Lib.hid ha; have HB := Lib.hid hb
    clear ha hb
    go_enter Tryd.func21, Tryd.ntmps21
    go_wp2_with fail
    go_loopw [5] (fun i wr => ∃ k : Nat, k ≤ n ∧ i = .int .i64 k ∧ (∀ j, j < k → f j = g j) ∧ ∃ q, wr = w.drewN q) (fun i _ => n - (intOf i).toNat)
    case atStart => exact ⟨0, by omega, rfl, fun j hj => by omega, 0, rfl⟩
    case round =>
      obtain ⟨k, hk, rfl, heq, q, rfl⟩ := hrel
      have HE := Lib.hid heq; clear heq
      by_cases hlt : k < n
      · obtain ⟨b1, o1, hp1, hc1⟩ := HA.out k hlt
        obtain ⟨b2, o2, hp2, hc2⟩ := HB.out k hlt
        subst hp1; subst hp2
        have hki : (k : Int) < (n : Int) := by omega
        by_cases hfg : f k = g k
        · have hne : (f k != g k) = false := by simp [hfg]
          have HFG := Lib.hid hfg; clear hfg
          go_wp2_with fail
          go_quiet (fail)
          go_wp2_with fail
          refine ⟨⟨k + 1, by omega, by go_num, ?_, _, rfl⟩, by simp [intOf]; omega⟩
          intro j hj
          by_cases e : j = k
          · rw [e]; exact HFG.out
          · exact HE.out j (by omega)
        · have hne : (f k != g k) = true := by simp [hfg]
          have hres := intsEq_no (m := n) k hlt hfg
          have HRES := Lib.hid hres; clear hres hfg
          go_wp2_with fail
          go_quiet (fail)
          go_wp2_with fail
          go_ret
          exact ⟨by rw [HRES.out]; rfl, _, World.drewN_drewN _ _ _⟩
      · obtain rfl : k = n := by omega
        have hres := intsEq_yes HE.out
        have HRES := Lib.hid hres; clear hres
        go_wp2_with fail
        go_ret
        exact ⟨by rw [HRES.out]; rfl, _, rfl⟩
  · have hne : ((n : Int) != (m : Int)) = true := by simp; omega
    have hres : intsEq n m f g = false := by unfold intsEq; rw [decide_eq_false_iff_not]; exact fun h => hnm h.1
    have HRES := Lib.hid hres; clear hres ha hb hnm
    go_enter Tryd.func21, Tryd.ntmps21
    go_wp2_with fail
    go_ret
    exact ⟨by rw [HRES.out]; rfl, 0, rfl⟩
end Go.Proofs.YtbjjanmafejlnaaDoor
