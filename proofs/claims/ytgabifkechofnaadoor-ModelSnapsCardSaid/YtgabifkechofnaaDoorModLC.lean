/- The walk of the law's fixed calls. -/
import Derived.Test.YtgabifkechofnaaDoorModLB
import Derived.Deep.RegionHeld3
namespace Go.Proofs.YtgabifkechofnaaDoor
open Go.RowKit

theorem fold_fst (l : List OpD) (m : List VolD) (a b : AnsM) : (l.foldl (fun s x => doL s.1 x) (m, a)).1 = (l.foldl (fun s x => doL s.1 x) (m, b)).1 := by
  cases l with
  | nil => rfl
  | cons x l => rfl
theorem runL_ok : ∀ (l : List OpD) (m : List VolD) (n : Nat), MayP m → (∀ d ∈ m, d.blocks.length ≤ n) → MayP (runL m l).1 ∧ ∀ d ∈ (runL m l).1, d.blocks.length ≤ n + l.length
  | [], m, n, hm, hb => ⟨hm, fun d hd => by have := hb d hd; simp; omega⟩
  | x :: l, m, n, hm, hb => by
    have h := runL_ok l (doL m x).1 (n + 1) (doL_may hm x) (doL_len hm x n hb)
    have e : (runL m (x :: l)).1 = (runL (doL m x).1 l).1 := by
      unfold runL; rw [List.foldl_cons]; exact fold_fst l _ _ _
    rw [e]
    exact ⟨h.1, fun d hd => by have := h.2 d hd; simp only [List.length_cons]; omega⟩
def fixOps : List OpD := [⟨0, 1, 0, 0, 4, ⟨#[]⟩⟩, ⟨4, 1, 0, 2, 0, blkB 7⟩, ⟨6, 1, 2, 0, 0, ⟨#[]⟩⟩, ⟨4, 1, 0, 2, 0, blkB 8⟩]
def fixM : List VolD := [⟨1, 4, [⟨2, blkB 8⟩]⟩, ⟨2, 4, [⟨2, blkB 7⟩]⟩]
theorem fix_run : runL [] fixOps = (fixM, .zero) := by kernel_rfl
theorem fix_b : (doL fixM ⟨3, 2, 0, 2, 0, ⟨#[]⟩⟩).2 = ⟨0, blkB 7, 0⟩ := by kernel_rfl
theorem fix_c : (doL fixM ⟨3, 1, 0, 2, 0, ⟨#[]⟩⟩).2 = ⟨0, blkB 8, 0⟩ := by kernel_rfl
theorem fix_d : (doL fixM ⟨3, 1, 0, 4, 0, ⟨#[]⟩⟩).2 = ⟨191, ⟨#[]⟩, 0⟩ := by kernel_rfl
theorem fix_e : (doL fixM ⟨8, 0, 0, 0, 0, ⟨#[]⟩⟩).2 = ⟨0, ⟨#[49, 58, 52, 58, 49, 32, 50, 58, 52, 58, 49]⟩, 2⟩ := by kernel_rfl
theorem fix_may : mayL fixM = true := by kernel_rfl
theorem fix_no : mayL [⟨0, 0, []⟩] = false := by kernel_rfl
theorem OpsIn.new (w : World) (l : List OpD) (T : TypeId) : OpsIn (w.alloc (.cells (l.map OpD.cells).flatten.toArray T)) w.heap.size l := by
  intro i x hx r u hu
  rw [World.cell?_alloc_at _ _ _ _ rfl]
  have hr : r < 6 := (List.getElem?_eq_some_iff.1 hu).1
  have hall : AllLen 6 (l.map OpD.cells) := by
    intro c hc
    obtain ⟨y, _, rfl⟩ := List.mem_map.1 hc
    rfl
  have h2 : (l.map OpD.cells)[i]? = some x.cells := by rw [List.getElem?_map, hx]; rfl
  show (l.map OpD.cells).flatten.toArray[i * 6 + r]? = some u
  rw [List.getElem?_toArray, flat_get hall h2 hr]; exact hu
theorem model_nil (w : World) : ModelAt w (.slice none 0 0) [] := ⟨none, 0, rfl, Nat.le_refl _, Nat.zero_le _, fun i d hd => by simp at hd⟩
theorem model_zero (w : World) : ModelAt (w.alloc (.cells #[.int .i64 0, .int .i64 0, .slice none 0 0] 41)) (.slice (some ⟨w.heap.size, 0, none⟩) 1 1) [⟨0, 0, []⟩] := by
  refine ⟨_, 1, rfl, Nat.le_refl _, by unfold maxLen; omega, fun i d hd => ?_⟩
  cases i with
  | succ i => simp at hd
  | zero =>
    simp only [List.getElem?_cons_zero, Option.some.injEq] at hd
    subst hd
    refine ⟨_, _, none, 0, rfl, ?_, ?_, ?_, Nat.le_refl _, Nat.zero_le _, fun i d hd => by simp at hd⟩
    · rw [World.cell?_alloc_at _ _ _ _ rfl]; rfl
    · rw [World.cell?_alloc_at _ _ _ _ rfl]; rfl
    · rw [World.cell?_alloc_at _ _ _ _ rfl]; rfl
theorem run_small : ∀ k, k ≤ fixOps.length → (runL [] (fixOps.take k)).1.length ≤ 1000 ∧ ∀ d ∈ (runL [] (fixOps.take k)).1, d.blocks.length ≤ 50000 := by
  intro k hk
  have hm : MayP [] := ⟨Nat.zero_le _, List.Pairwise.nil, fun d hd => by simp at hd⟩
  have h := runL_ok (fixOps.take k) [] 0 hm (fun d hd => by simp at hd)
  refine ⟨by have := h.1.len; omega, fun d hd => ?_⟩
  have := h.2 d hd
  have e4 : fixOps.length = 4 := rfl
  rw [List.length_take, e4] at this
  omega
theorem fix_small : fixM.length ≤ 1000 ∧ ∀ d ∈ fixM, d.blocks.length ≤ 50000 := by
  have h := run_small 4 (by decide)
  have e : fixOps.take 4 = fixOps := rfl
  rw [e, fix_run] at h; exact h

/-- what the law's last statement holds of the world -/
def FxS (w : World) (v : Value) (b3 b5 b7 b9 b11 : Nat) (w' : World) : Prop :=
  ModelAt w' v fixM ∧ Below w.heap.size w w' ∧ w'.cell? ⟨b3, 0, none⟩ = some (.int .i64 0) ∧ w'.cell? ⟨b5, 1, none⟩ = some (.string (blkB 7)) ∧ w'.cell? ⟨b7, 1, none⟩ = some (.string (blkB 8)) ∧ w'.cell? ⟨b9, 0, none⟩ = some (.int .i64 191) ∧ w'.cell? ⟨b11, 1, none⟩ = some (.string ⟨#[49, 58, 52, 58, 49, 32, 50, 58, 52, 58, 49]⟩) ∧ w'.cell? ⟨b11, 2, none⟩ = some (.int .i64 2)
theorem FxS.next {w : World} {v : Value} {b3 b5 b7 b9 b11 : Nat} {W W' : World} (h : FxS w v b3 b5 b7 b9 b11 W) (hb : Below W.heap.size W W') : FxS w v b3 b5 b7 b9 b11 W' := by
  obtain ⟨h1, h2, h3, h4, h5, h6, h7, h8⟩ := h
  exact ⟨h1.stays hb, h2.trans (hb.mono h2.size), cell_stays hb h3, cell_stays hb h4, cell_stays hb h5, cell_stays hb h6, cell_stays hb h7, cell_stays hb h8⟩

set_option maxRecDepth 100000 in
set_option maxHeartbeats 8000000 in
theorem fixed_any (w : World) (hp : Pow10 w) : Calls Tryd.prog 9 #[] w fun e w' => e = .returned (.bool true) ∧ Below w.heap.size w w' := by
  have HP := Lib.hid hp; clear hp
  go_enter Tryd.func9, Tryd.ntmps9
  go_wp2_with fail
  refine (block_any 7 7 rfl _).mono ?_
  rintro e w1 ⟨rfl, hb⟩
  have HB1 := Lib.hid hb; clear hb
  go_wp2_with fail
  refine (block_any 8 8 rfl _).mono ?_
  rintro e w2 ⟨rfl, hb⟩
  have HB2 := Lib.hid (btrans HB1.out hb); clear hb
  go_wp2_with fail
  have hbox := (Below.refl w2.heap.size w2).alloc (Nat.le_refl _) (.cells (fixOps.map OpD.cells).flatten.toArray 24)
  have HBX := Lib.hid hbox; have HB3 := Lib.hid (btrans HB2.out hbox); clear hbox
  refine (lrun_any [] fixOps (.slice none 0 0) w2.heap.size _ (model_nil _) (OpsIn.new _ fixOps _) (by decide) run_small (pow_stays HP.out HB3.out)).mono ?_
  rintro e w3 ⟨v', rfl, hm, hb⟩
  rw [fix_run] at hm ⊢
  simp only [AnsM.agg, AnsM.zero] at hm ⊢
  have HM := Lib.hid hm; have HB4 := Lib.hid (btrans HB3.out hb); clear hb
  obtain ⟨p, c, rfl, _, _, _⟩ := hm
  have hb := HB4.out.alloc HB4.out.size (.cells #[.int .i64 0, .string ⟨#[]⟩, .int .i64 0] 29)
  have HB5 := Lib.hid hb; clear hb
  have HM5 := Lib.hid (HM.out.stays ((Below.refl w3.heap.size w3).alloc (Nat.le_refl _) (.cells #[.int .i64 0, .string ⟨#[]⟩, .int .i64 0] 29)))
  go_wp2_with fail
  refine (do_any fixM ⟨3, 2, 0, 2, 0, ⟨#[]⟩⟩ _ _ HM5.out fix_small.1 fix_small.2 (pow_stays HP.out HB5.out)).mono ?_
  rintro e w4 ⟨vw4, rfl, _, hb⟩
  rw [fix_b]
  simp only [AnsM.agg]
  have HB60 := Lib.hid (btrans HB5.out hb); have HM60 := Lib.hid (HM5.out.stays hb)
  have HXw4 := Lib.hid hb; clear hb
  have HB6 := Lib.hid (HB60.out.alloc HB60.out.size (.cells #[.int .i64 0, .string (blkB 7), .int .i64 0] 29)); have HM6 := Lib.hid (HM60.out.stays ((Below.refl w4.heap.size w4).alloc (Nat.le_refl _) (.cells #[.int .i64 0, .string (blkB 7), .int .i64 0] 29)))
  go_wp2_with fail
  refine (do_any fixM ⟨3, 1, 0, 2, 0, ⟨#[]⟩⟩ _ _ HM6.out fix_small.1 fix_small.2 (pow_stays HP.out HB6.out)).mono ?_
  rintro e w5 ⟨vw5, rfl, _, hb⟩
  rw [fix_c]
  simp only [AnsM.agg]
  have HB70 := Lib.hid (btrans HB6.out hb); have HM70 := Lib.hid (HM6.out.stays hb)
  have HXw5 := Lib.hid hb; clear hb
  have HB7 := Lib.hid (HB70.out.alloc HB70.out.size (.cells #[.int .i64 0, .string (blkB 8), .int .i64 0] 29)); have HM7 := Lib.hid (HM70.out.stays ((Below.refl w5.heap.size w5).alloc (Nat.le_refl _) (.cells #[.int .i64 0, .string (blkB 8), .int .i64 0] 29)))
  go_wp2_with fail
  refine (do_any fixM ⟨3, 1, 0, 4, 0, ⟨#[]⟩⟩ _ _ HM7.out fix_small.1 fix_small.2 (pow_stays HP.out HB7.out)).mono ?_
  rintro e w6 ⟨vw6, rfl, _, hb⟩
  rw [fix_d]
  simp only [AnsM.agg]
  have HB80 := Lib.hid (btrans HB7.out hb); have HM80 := Lib.hid (HM7.out.stays hb)
  have HXw6 := Lib.hid hb; clear hb
  have HB8 := Lib.hid (HB80.out.alloc HB80.out.size (.cells #[.int .i64 191, .string (⟨#[]⟩), .int .i64 0] 29)); have HM8 := Lib.hid (HM80.out.stays ((Below.refl w6.heap.size w6).alloc (Nat.le_refl _) (.cells #[.int .i64 191, .string (⟨#[]⟩), .int .i64 0] 29)))
  go_wp2_with fail
  refine (do_any fixM ⟨8, 0, 0, 0, 0, ⟨#[]⟩⟩ _ _ HM8.out fix_small.1 fix_small.2 (pow_stays HP.out HB8.out)).mono ?_
  rintro e w7 ⟨vw7, rfl, _, hb⟩
  rw [fix_e]
  simp only [AnsM.agg]
  have HB90 := Lib.hid (btrans HB8.out hb); have HM90 := Lib.hid (HM8.out.stays hb)
  have HXw7 := Lib.hid hb; clear hb
  have HB9 := Lib.hid (HB90.out.alloc HB90.out.size (.cells #[.int .i64 0, .string (⟨#[49, 58, 52, 58, 49, 32, 50, 58, 52, 58, 49]⟩), .int .i64 2] 29)); have HM9 := Lib.hid (HM90.out.stays ((Below.refl w7.heap.size w7).alloc (Nat.le_refl _) (.cells #[.int .i64 0, .string (⟨#[49, 58, 52, 58, 49, 32, 50, 58, 52, 58, 49]⟩), .int .i64 2] 29)))
  have k3 : w7.cell? ⟨w3.heap.size, 0, none⟩ = some (.int .i64 0) := cell_stays HXw7.out (cell_stays ((Below.refl _ _).alloc (Nat.le_refl _) _) (cell_stays HXw6.out (cell_stays ((Below.refl _ _).alloc (Nat.le_refl _) _) (cell_stays HXw5.out (cell_stays ((Below.refl _ _).alloc (Nat.le_refl _) _) (cell_stays HXw4.out (by simp)))))))
  have k4 : w7.cell? ⟨w4.heap.size, 1, none⟩ = some (.string (blkB 7)) := cell_stays HXw7.out (cell_stays ((Below.refl _ _).alloc (Nat.le_refl _) _) (cell_stays HXw6.out (cell_stays ((Below.refl _ _).alloc (Nat.le_refl _) _) (cell_stays HXw5.out (by simp)))))
  have k5 : w7.cell? ⟨w5.heap.size, 1, none⟩ = some (.string (blkB 8)) := cell_stays HXw7.out (cell_stays ((Below.refl _ _).alloc (Nat.le_refl _) _) (cell_stays HXw6.out (by simp)))
  have k6 : w7.cell? ⟨w6.heap.size, 0, none⟩ = some (.int .i64 191) := cell_stays HXw7.out (by simp)
  have hal := (Below.refl w7.heap.size w7).alloc (Nat.le_refl _) (.cells #[.int .i64 0, .string ⟨#[49, 58, 52, 58, 49, 32, 50, 58, 52, 58, 49]⟩, .int .i64 2] 29)
  have HF := Lib.hid (show FxS w (.slice p fixM.length c) w3.heap.size w4.heap.size w5.heap.size w6.heap.size w7.heap.size (w7.alloc (.cells #[.int .i64 0, .string ⟨#[49, 58, 52, 58, 49, 32, 50, 58, 52, 58, 49]⟩, .int .i64 2] 29)) from
    ⟨HM9.out, HB9.out, cell_stays hal k3, cell_stays hal k4, cell_stays hal k5, cell_stays hal k6, by simp, by simp⟩)
  clear k3 k4 k5 k6 hal
  go_wp2_with fail
  go_region_held3 (fun w' => ModelAt w' (.slice p fixM.length c) fixM ∧ Below w.heap.size w w' ∧ w'.cell? ⟨w3.heap.size, 0, none⟩ = some (.int .i64 0) ∧ w'.cell? ⟨w4.heap.size, 1, none⟩ = some (.string (blkB 7)) ∧ w'.cell? ⟨w5.heap.size, 1, none⟩ = some (.string (blkB 8)) ∧ w'.cell? ⟨w6.heap.size, 0, none⟩ = some (.int .i64 191) ∧ w'.cell? ⟨w7.heap.size, 1, none⟩ = some (.string ⟨#[49, 58, 52, 58, 49, 32, 50, 58, 52, 58, 49]⟩) ∧ w'.cell? ⟨w7.heap.size, 2, none⟩ = some (.int .i64 2))
    (first | exact HF.out.next (Below.refl _ _).drew | (refine FxS.next ?_ (show Below _ _ _ by assumption); assumption) | (refine FxS.next ?_ ((Below.refl _ _).alloc (Nat.le_refl _) _); assumption))
    (first
      | (go_at_call 17; (with_reducible refine (block_any 7 7 rfl _).mono ?_); rintro e w8 ⟨rfl, hb⟩)
      | (go_at_call 17; (with_reducible refine (block_any 8 8 rfl _).mono ?_); rintro e w8 ⟨rfl, hb⟩)
      | (go_at_call 12; (with_reducible refine (may_any fixM _ _ (show ModelAt _ _ fixM ∧ _ by assumption).1).mono ?_); rw [fix_may]; rintro e w8 ⟨rfl, hb⟩)
      | (go_at_call 12; (with_reducible refine (may_any [⟨0, 0, []⟩] _ _ (model_zero _)).mono ?_); rw [fix_no]; rintro e w8 ⟨rfl, hb⟩))
  go_wp2_with fail
  go_ret
  exact ⟨rfl, (show ModelAt _ _ fixM ∧ Below _ _ _ ∧ _ by assumption).2.1⟩
end Go.Proofs.YtgabifkechofnaaDoor
