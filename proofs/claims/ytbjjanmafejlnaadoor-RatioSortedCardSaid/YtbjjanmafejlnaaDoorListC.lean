/- ratio.Order of any floats, of at most 300: the places as the reference lays them; the argument of a law on floats, opened. -/
import Derived.Test.YtbjjanmafejlnaaDoorStableE
import Derived.Test.YtbjjanmafejlnaaDoorListB
import Derived.Test.YtbjjanmafejlnaaDoorListA
import Derived.Test.YtbjjanmafejlnaaDoorLaid1
namespace Go.Proofs.YtbjjanmafejlnaaDoor
open Go.RowKit Go.Sort Go.Lib

def refF (xs : Nat → Nat) (n k : Nat) : Nat := (Lp.refL xs n)[k]?.getD 0

theorem order_ref (n : Nat) (xs : Nat → Nat) (hn : 0 < n) (k : Nat) (hk : k < n) : haveI : Inhabited (Fin n) := ⟨⟨0, hn⟩⟩; ((orderOf n xs hn)[k]!).val = refF xs n k := by
  letI : Inhabited (Fin n) := ⟨⟨0, hn⟩⟩
  have hr : (Array.ofFn (n := n) fun i : Fin n => (⟨refF xs n i.val, Lp.refL_at_lt i.isLt⟩ : Fin n)).size = n := by simp
  have hg : ∀ i, i < n → ((Array.ofFn (n := n) fun i : Fin n => (⟨refF xs n i.val, Lp.refL_at_lt i.isLt⟩ : Fin n))[i]!).val = refF xs n i := by
    intro i hi
    rw [getElem!_pos _ i (by rw [hr]; exact hi)]; simp
  have h := one_order n (TL n xs) (TL.irr n xs) (TL.tr n xs) (orderOf n xs hn) (Array.ofFn (n := n) fun i : Fin n => (⟨refF xs n i.val, Lp.refL_at_lt i.isLt⟩ : Fin n)) (order_size n xs hn) hr (order_sorted n xs hn) (by
    intro i j h1 h2
    have := Lp.refL_at (xs := xs) h1 h2
    unfold TL
    rw [hg i (by omega), hg j h2]
    exact this)
  rw [h]; exact hg k hk

theorem ins_zero (blk cap : Nat) (f : Value) (w : World) :
    Calls Tryd.prog 60 #[.slice (some ⟨blk, 0, none⟩) 0 cap, .int .i64 0, .int .i64 0, f] w fun e w' => e = .returned (.tuple #[]) ∧ w = w' := by
  go_enter Tryd.func60, Tryd.ntmps60
  go_wp2_with fail
  refine wp_loop_rounds 1 ?_
  rw [rounds_succ]
  go_wp2_with fail
  go_end0
  exact ⟨rfl, rfl⟩
theorem stable_zero (blk cap g : Nat) (cb : Array Value) (w : World) :
    Calls Tryd.prog 47 #[.slice (some ⟨blk, 0, none⟩) 0 cap, .int .i64 0, .func (.func g) #[] cb] w fun e w' => e = .returned (.tuple #[]) ∧ w = w' := by
  go_enter Tryd.func47, Tryd.ntmps47
  go_wp2_with fail
  refine wp_loop_rounds 1 ?_
  rw [rounds_succ]
  go_wp2_with fail
  refine (ins_zero _ _ _ _).mono ?_
  rintro e w' ⟨rfl, rfl⟩
  go_wp2_with fail
  refine wp_loop_rounds 1 ?_
  rw [rounds_succ]
  go_wp2_with fail
  go_end0
  exact ⟨rfl, rfl⟩

set_option maxHeartbeats 1000000 in
theorem order_zero (xs : Nat → Nat) (A : Option Addr) (cap : Nat) (w : World) :
    Calls Tryd.prog 22 #[.slice A 0 cap] w (OrderEnds 0 (refF xs 0) w) := by
  have hmk : ∀ w, (Instr.makeSlice 37 (.int .i64 0) (.int .i64 0)).run Tryd.prog w = .ok (.slice (some ⟨w.heap.size, 0, none⟩) 0 0) (w.alloc (.cells #[] 3)) := fun w => by
    have h := run_make_row' (P := Tryd.prog) 37 3 (.int .i64 0) 8 Tryd.underlying37 int_info rfl .i64 .i64 0 (by omega) (by omega) w
    have e : madeCells #[.int .i64 0] 0 = #[] := by simp [madeCells]
    rw [e] at h
    simpa using h
  have hmf : ∀ (fn : Fn) (first cap : Array Value) (w : World), (Instr.makeFunc fn first cap).run Tryd.prog w = .ok (.func fn first cap) w := fun _ _ _ _ => rfl
  go_enter Tryd.func22, Tryd.ntmps22
  go_wp2_with fail
  refine wp_loop_rounds 1 ?_
  rw [rounds_succ]
  go_wp2_with fail
  refine (sort_stable_any _ 0 0 _ (by omega) _ (stable_zero _ _ _ _ _)).mono ?_
  rintro e w' ⟨rfl, rfl⟩
  go_wp2_with fail
  go_ret
  exact ⟨w.heap.size + 1, rfl, by omega, by simp, fun k hk => by omega, ((Below.refl _ _).alloc (Nat.le_refl _) _).alloc (by simp) _⟩

theorem order_all (n : Nat) (hn : n ≤ 300) (xs : Nat → Nat) (A : Option Addr) (cap : Nat) (hxs : ∀ k, k < n → xs k < 2 ^ 64) (w : World)
    (hc : ∀ k, k < n → ∃ b o, A = some ⟨b, o, none⟩ ∧ b < w.heap.size ∧ w.cell? ⟨b, o + k, none⟩ = some (.float .f64 (xs k))) :
    Calls Tryd.prog 22 #[.slice A n cap] w (OrderEnds n (refF xs n) w) := by
  rcases Nat.eq_zero_or_pos n with rfl | h0
  · exact order_zero xs A cap w
  · obtain ⟨b, o, rfl, hb, _⟩ := hc 0 h0
    have hc' : ∀ k, k < n → w.cell? ⟨b, o + k, none⟩ = some (.float .f64 (xs k)) := by
      intro k hk
      obtain ⟨b', o', e, _, h⟩ := hc k hk
      injection e with e; injection e with e1 e2; subst e1; subst e2; exact h
    refine (order_any n h0 hn xs b o cap hxs w hb hc' (orderOf n xs h0) (order_size n xs h0) (sorts_any n xs h0 hn)).mono ?_
    rintro e w' ⟨g, h1, h2, h3, h4, h5⟩
    exact ⟨g, h1, h2, h3, fun k hk => by have := h4 k hk; simp only [order_ref n xs h0 k hk] at this; exact this, h5⟩
end Go.Proofs.YtbjjanmafejlnaaDoor
