/- slices.Clone at rows of 3 cells: a new row of the same cells; nothing else is turned. -/
import Derived.Test.YtgabifkechofnaaDoorVec
import Derived.Test.YtgabifkechofnaaDoorProg
import Derived.Outline
namespace Go.Proofs.YtgabifkechofnaaDoor
open Go.RowKit

theorem infoV : (Tryd.prog.info? 41).map (fun i => (i.zero, i.size, i.bytes)) = some (some (.agg #[.int .i64 0, .int .i64 0, .slice none 0 0]), 3, 40) := by kernel_rfl

set_option maxRecDepth 100000 in
set_option maxHeartbeats 1000000 in
theorem cloneV_any (p : Option Addr) (n c : Nat) (xs : List Value) (w : World) (hs : SrcAt w p n 3 xs) (hn : n ≤ 1000000000) :
    Calls Tryd.prog 40 #[.slice p n c] w fun e w' => ∃ v', e = .returned v' ∧ w'.ownsRow w.heap.size 41 3 v' n xs ∧ Below w.heap.size w w' := by
  obtain ⟨hl, hnil, h1, hx⟩ := hs
  cases p with
  | none =>
    have hq : ∀ w : World, (binOp .eql 22 (.slice none 0 c) (.slice none 0 0)).run Tryd.prog w = .ok (.bool true) w := fun w => Lib.run_eql_slice_nil w 22 41 none 0 c 0 0 Tryd.underlying22
    obtain rfl := hnil rfl
    obtain rfl : xs = [] := List.eq_nil_of_length_eq_zero (by rw [hl, Nat.zero_mul])
    clear hnil hx h1 hl hn
    go_enter Tryd.func40, Tryd.ntmps40
    go_wp2_with fail
    go_ret
    exact ⟨_, rfl, World.ownsRow_nil _ _ _ _, Below.refl _ _⟩
  | some a =>
    have HX := Lib.hid (hx a rfl); have HL := Lib.hid hl; have H1 := Lib.hid h1; have HN := Lib.hid hn
    clear hnil hx h1 hl hn
    have hq : ∀ w : World, (binOp .eql 22 (.slice (some a) n c) (.slice none 0 0)).run Tryd.prog w = .ok (.bool false) w := fun w => Lib.run_eql_slice_nil w 22 41 (some a) n c 0 0 Tryd.underlying22
    obtain ⟨i0, hi, hz0, hz1, hz2⟩ := info_parts infoV
    have HB := Lib.hid (((Below.refl w.heap.size w).alloc (Nat.le_refl _) (.cells #[] 41)))
    go_enter Tryd.func40, Tryd.ntmps40
    go_wp2_with (at_builtin; refine wpList_append_own _ rfl _ _ 22 rfl w.heap.size 41 i0 (.agg #[.int .i64 0, .int .i64 0, .slice none 0 0]) 3 40 Tryd.underlying22 hi hz0 hz1 hz2 rfl (by decide) _ 0 [] rfl (World.ownsRow_made w #[] 0 (Nat.le_refl _) (by unfold maxLen; omega) rfl) a n c xs rfl ?_ ?_ ?_ ?_ ?_ ?_ ?_)
    · exact HL.out
    · intro j u hu; exact cell_later HB.out (HX.out j u hu)
    · exact H1.out
    · have := HN.out; unfold maxLen; omega
    · have := HN.out; omega
    · simp
    · intro v' w1 hown hg _
      have HO := Lib.hid hown; have HG := Lib.hid hg; clear hown hg
      go_wp2_with fail
      go_ret
      exact ⟨v', rfl, by simpa using HO.out, HB.out.grown HG.out (by simp) (fun k e => by simp [Value.ownBlock] at e; omega)⟩
end Go.Proofs.YtgabifkechofnaaDoor
