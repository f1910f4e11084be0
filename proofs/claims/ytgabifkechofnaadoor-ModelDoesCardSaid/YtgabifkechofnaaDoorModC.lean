/- The walk of the model's fault: which error is answered. -/
import Derived.Test.YtgabifkechofnaaDoorModB
import Derived.Deep.RegionHeld3
namespace Go.Proofs.YtgabifkechofnaaDoor
open Go.RowKit

theorem faultL_0 (m : List VolD) (vo de bl nn : Int) (tx : ByteArray) : faultL m ⟨0, vo, de, bl, nn, tx⟩ = if vo < 1 ∨ 1000 < vo ∨ nn < 0 ∨ 100000 < nn then 1 else if 0 ≤ sizeL m vo ∨ 64 ≤ m.length then 190 else 0 := rfl
theorem faultL_6 (m : List VolD) (vo de bl nn : Int) (tx : ByteArray) : faultL m ⟨6, vo, de, bl, nn, tx⟩ = if de < 1 ∨ 1000 < de then 1 else if sizeL m vo < 0 ∨ 0 ≤ sizeL m de ∨ 64 ≤ m.length then 190 else 0 := rfl
theorem faultL_ask {m : List VolD} {x : OpD} (h : 7 ≤ x.act ∧ x.act ≤ 9) : faultL m x = 0 := by unfold faultL; rw [if_neg (by omega), if_neg (by omega), if_pos h]
theorem faultL_of {m : List VolD} {x : OpD} (h : 1 ≤ x.act ∧ x.act ≤ 5) : faultL m x = faultOfL (sizeL m x.vol) x := by unfold faultL; rw [if_neg (by omega), if_neg (by omega), if_neg (by omega), if_pos h]
theorem faultL_out {m : List VolD} {x : OpD} (h : x.act < 0 ∨ 9 < x.act) : faultL m x = 1 := by unfold faultL; rw [if_neg (by omega), if_neg (by omega), if_neg (by omega), if_neg (by omega)]

def FEnds (m : List VolD) (x : OpD) (w : World) (e : Ending) (w' : World) : Prop := e = .returned (.int .i64 (faultL m x)) ∧ Below w.heap.size w w'
abbrev fbox (w : World) (v : Value) (x : OpD) : World := (w.alloc (.cells #[v] 22)).alloc (.cells #[.int .i64 x.act, .int .i64 x.vol, .int .i64 x.dest, .int .i64 x.block, .int .i64 x.n, .string x.text] 24)
theorem fbox_below (w : World) (v : Value) (x : OpD) : Below w.heap.size w (fbox w v x) := ((Below.refl _ _).alloc (Nat.le_refl _) _).alloc (by simp) _

set_option maxRecDepth 100000 in
set_option maxHeartbeats 1000000 in
theorem fault_0 (m : List VolD) (v : Value) (w : World) (vo de bl nn : Int) (tx : ByteArray) (hm : ModelAt w v m) (hs : ∀ d ∈ m, 0 ≤ d.size ∧ d.size ≤ 100000) :
    Calls Tryd.prog 19 #[v, .agg #[.int .i64 0, .int .i64 vo, .int .i64 de, .int .i64 bl, .int .i64 nn, .string tx]] w (FEnds m ⟨0, vo, de, bl, nn, tx⟩ w) := by
  have HM := Lib.hid (hm.stays (fbox_below w v ⟨0, vo, de, bl, nn, tx⟩))
  have HB0 := Lib.hid (fbox_below w v ⟨0, vo, de, bl, nn, tx⟩)
  have hsz := sizeL_bd hs vo
  have hsz2 := sizeL_bd hs de
  obtain ⟨p, c, rfl, _, _, _⟩ := hm
  have HS2 := Lib.hid hsz2
  clear hs hsz2
  have hmf := makeFunc_runM
  by_cases hg : vo < 1 ∨ 1000 < vo ∨ nn < 0 ∨ 100000 < nn
  · have HE := Lib.hid (show faultL m ⟨0, vo, de, bl, nn, tx⟩ = 1 by rw [faultL_0, if_pos hg])
    clear hsz
    go_enter Tryd.func19, Tryd.ntmps19
    go_wp2_with fail
    all_goals
      go_ret
      exact ⟨ret_int HE.out.symm, HB0.out⟩
  · have hg1 : 1 ≤ vo ∧ vo ≤ 1000 ∧ 0 ≤ nn ∧ nn ≤ 100000 := by omega
    obtain ⟨g1, g2, g3, g4⟩ := hg1
    have HG := Lib.hid hg; clear hg
    go_enter Tryd.func19, Tryd.ntmps19
    go_wp2_with fail
    refine (size_any m vo _ w.heap.size _ (by simp) HM.out).mono ?_
    rintro e w1 ⟨rfl, hb⟩
    have hcl : w1.cell? ⟨w.heap.size, 0, none⟩ = some (.slice p m.length c) := cell_stays hb (by simp)
    have HB := Lib.hid (btrans HB0.out hb); clear hb
    obtain ⟨s, hsE⟩ : ∃ s, sizeL m vo = s := ⟨_, rfl⟩
    rw [hsE] at hsz ⊢
    have HSE := Lib.hid hsE; clear hsE
    go_wp2_with fail
    all_goals
      go_ret
      refine ⟨ret_int ?_, HB.out⟩
      rw [faultL_0, if_neg HG.out, HSE.out]
      split <;> omega

set_option maxRecDepth 100000 in
set_option maxHeartbeats 1000000 in
theorem fault_6 (m : List VolD) (v : Value) (w : World) (vo de bl nn : Int) (tx : ByteArray) (hm : ModelAt w v m) (hs : ∀ d ∈ m, 0 ≤ d.size ∧ d.size ≤ 100000) :
    Calls Tryd.prog 19 #[v, .agg #[.int .i64 6, .int .i64 vo, .int .i64 de, .int .i64 bl, .int .i64 nn, .string tx]] w (FEnds m ⟨6, vo, de, bl, nn, tx⟩ w) := by
  have HM := Lib.hid (hm.stays (fbox_below w v ⟨6, vo, de, bl, nn, tx⟩))
  have HB0 := Lib.hid (fbox_below w v ⟨6, vo, de, bl, nn, tx⟩)
  have hsz := sizeL_bd hs vo
  have hsz2 := sizeL_bd hs de
  obtain ⟨p, c, rfl, _, _, _⟩ := hm
  have HS2 := Lib.hid hsz2
  clear hs hsz2
  have hmf := makeFunc_runM
  by_cases hg : de < 1 ∨ 1000 < de
  · have HE := Lib.hid (show faultL m ⟨6, vo, de, bl, nn, tx⟩ = 1 by rw [faultL_6, if_pos hg])
    clear hsz
    go_enter Tryd.func19, Tryd.ntmps19
    go_wp2_with fail
    all_goals
      go_ret
      exact ⟨ret_int HE.out.symm, HB0.out⟩
  · have hg1 : 1 ≤ de ∧ de ≤ 1000 := by omega
    obtain ⟨g1, g2⟩ := hg1
    have HG := Lib.hid hg; clear hg
    go_enter Tryd.func19, Tryd.ntmps19
    go_wp2_with fail
    refine (size_any m vo _ w.heap.size _ (by simp) HM.out).mono ?_
    rintro e w1 ⟨rfl, hb⟩
    have hcl : w1.cell? ⟨w.heap.size, 0, none⟩ = some (.slice p m.length c) := cell_stays hb (by simp)
    have hcd : w1.cell? ⟨w.heap.size + 1, 2, none⟩ = some (.int .i64 de) := cell_stays hb (by simp)
    have HB := Lib.hid (btrans HB0.out hb); have HM1 := Lib.hid (HM.out.stays hb); clear hb
    obtain ⟨s, hsE⟩ : ∃ s, sizeL m vo = s := ⟨_, rfl⟩
    rw [hsE] at hsz ⊢
    have HSE := Lib.hid hsE; clear hsE
    by_cases hs0 : s < 0
    · go_wp2_with fail
      go_ret
      refine ⟨ret_int ?_, HB.out⟩
      rw [faultL_6, if_neg HG.out, HSE.out, if_pos (.inl hs0)]
    · go_wp2_with fail
      refine (size_any m de _ w.heap.size _ hcl HM1.out).mono ?_
      rintro e w2 ⟨rfl, hb⟩
      have hcl2 : w2.cell? ⟨w.heap.size, 0, none⟩ = some (.slice p m.length c) := cell_stays hb hcl
      have HB2 := Lib.hid (btrans HB.out hb); clear hb hcl hcd
      have hsz2 := HS2.out
      obtain ⟨s2, hsE2⟩ : ∃ s2, sizeL m de = s2 := ⟨_, rfl⟩
      rw [hsE2] at hsz2 ⊢
      have HSE2 := Lib.hid hsE2; clear hsE2
      go_wp2_with fail
      all_goals
        go_ret
        refine ⟨ret_int ?_, HB2.out⟩
        rw [faultL_6, if_neg HG.out, HSE.out, HSE2.out]
        split <;> omega

set_option maxRecDepth 100000 in
set_option maxHeartbeats 1000000 in
theorem fault_else (m : List VolD) (v : Value) (w : World) (ac vo de bl nn : Int) (tx : ByteArray) (hm : ModelAt w v m) (hn0 : ac ≠ 0) (hn6 : ac ≠ 6) (hn : ac < 1 ∨ 5 < ac) :
    Calls Tryd.prog 19 #[v, .agg #[.int .i64 ac, .int .i64 vo, .int .i64 de, .int .i64 bl, .int .i64 nn, .string tx]] w (FEnds m ⟨ac, vo, de, bl, nn, tx⟩ w) := by
  have HB0 := Lib.hid (fbox_below w v ⟨ac, vo, de, bl, nn, tx⟩)
  obtain ⟨p, c, rfl, _, _, _⟩ := hm
  have hmf := makeFunc_runM
  have n0 : (ac == 0) = false := by rw [beq_eq_false_iff_ne]; omega
  have n1 : (ac == 1) = false := by rw [beq_eq_false_iff_ne]; omega
  have n2 : (ac == 2) = false := by rw [beq_eq_false_iff_ne]; omega
  have n3 : (ac == 3) = false := by rw [beq_eq_false_iff_ne]; omega
  have n4 : (ac == 4) = false := by rw [beq_eq_false_iff_ne]; omega
  have n5 : (ac == 5) = false := by rw [beq_eq_false_iff_ne]; omega
  have n6 : (ac == 6) = false := by rw [beq_eq_false_iff_ne]; omega
  by_cases h79 : 7 ≤ ac ∧ ac ≤ 9
  · have HE := Lib.hid (faultL_ask (m := m) (x := ⟨ac, vo, de, bl, nn, tx⟩) h79)
    have h3 : ac = 7 ∨ ac = 8 ∨ ac = 9 := by omega
    clear hn0 hn6 hn h79
    rcases h3 with rfl | rfl | rfl
    all_goals
      go_enter Tryd.func19, Tryd.ntmps19
      go_wp2_with fail
      go_ret
      exact ⟨ret_int HE.out.symm, HB0.out⟩
  · have HE := Lib.hid (faultL_out (m := m) (x := ⟨ac, vo, de, bl, nn, tx⟩) (show ac < 0 ∨ 9 < ac by omega))
    have n7 : (ac == 7) = false := by rw [beq_eq_false_iff_ne]; omega
    have n8 : (ac == 8) = false := by rw [beq_eq_false_iff_ne]; omega
    have n9 : (ac == 9) = false := by rw [beq_eq_false_iff_ne]; omega
    clear hn0 hn6 hn h79
    go_enter Tryd.func19, Tryd.ntmps19
    go_wp2_with fail
    go_ret
    exact ⟨ret_int HE.out.symm, HB0.out⟩

def FS (m : List VolD) (w : World) (p : Option Addr) (c : Nat) (ac vo de bl nn : Int) (tx : ByteArray) (w' : World) : Prop :=
  ModelAt w' (.slice p m.length c) m ∧ Below w.heap.size w w' ∧ w'.cell? ⟨w.heap.size, 0, none⟩ = some (.slice p m.length c) ∧ w'.cell? ⟨w.heap.size + 1, 0, none⟩ = some (.int .i64 ac) ∧ w'.cell? ⟨w.heap.size + 1, 1, none⟩ = some (.int .i64 vo) ∧ w'.cell? ⟨w.heap.size + 1, 2, none⟩ = some (.int .i64 de) ∧ w'.cell? ⟨w.heap.size + 1, 3, none⟩ = some (.int .i64 bl) ∧ w'.cell? ⟨w.heap.size + 1, 4, none⟩ = some (.int .i64 nn) ∧ w'.cell? ⟨w.heap.size + 1, 5, none⟩ = some (.string tx)
theorem FS.next {m : List VolD} {w : World} {p : Option Addr} {c : Nat} {ac vo de bl nn : Int} {tx : ByteArray} {W W' : World} (h : FS m w p c ac vo de bl nn tx W) (hb : Below W.heap.size W W') : FS m w p c ac vo de bl nn tx W' := by
  obtain ⟨h1, h2, h3, h4, h5, h6, h7, h8, h9⟩ := h
  exact ⟨h1.stays hb, btrans h2 hb, cell_stays hb h3, cell_stays hb h4, cell_stays hb h5, cell_stays hb h6, cell_stays hb h7, cell_stays hb h8, cell_stays hb h9⟩

set_option maxRecDepth 100000 in
set_option maxHeartbeats 1000000 in
theorem fault_of (m : List VolD) (v : Value) (w : World) (ac vo de bl nn : Int) (tx : ByteArray) (hm : ModelAt w v m) (hs : ∀ d ∈ m, 0 ≤ d.size ∧ d.size ≤ 100000) (h15 : ac = 1 ∨ ac = 2 ∨ ac = 3 ∨ ac = 4 ∨ ac = 5) :
    Calls Tryd.prog 19 #[v, .agg #[.int .i64 ac, .int .i64 vo, .int .i64 de, .int .i64 bl, .int .i64 nn, .string tx]] w (FEnds m ⟨ac, vo, de, bl, nn, tx⟩ w) := by
  have HM := Lib.hid (hm.stays (fbox_below w v ⟨ac, vo, de, bl, nn, tx⟩))
  have HB0 := Lib.hid (fbox_below w v ⟨ac, vo, de, bl, nn, tx⟩)
  have hsz := sizeL_bd hs vo
  have hsz2 := sizeL_bd hs de
  obtain ⟨p, c, rfl, _, _, _⟩ := hm
  have HS2 := Lib.hid hsz2
  clear hs hsz2
  have hmf := makeFunc_runM
  have HE := Lib.hid (faultL_of (m := m) (x := ⟨ac, vo, de, bl, nn, tx⟩) (show 1 ≤ ac ∧ ac ≤ 5 by omega))
  have HS := Lib.hid hsz; clear hsz
  rcases h15 with rfl | rfl | rfl | rfl | rfl
  · have hS : FS m w p c 1 vo de bl nn tx (fbox w (.slice p m.length c) ⟨1, vo, de, bl, nn, tx⟩) := ⟨HM.out, HB0.out, by simp, by simp, by simp, by simp, by simp, by simp, by simp⟩
    go_enter Tryd.func19, Tryd.ntmps19
    go_wp2_with fail
    go_region_held3 (fun w' => ModelAt w' (.slice p m.length c) m ∧ Below w.heap.size w w' ∧ w'.cell? ⟨w.heap.size, 0, none⟩ = some (.slice p m.length c) ∧ w'.cell? ⟨w.heap.size + 1, 0, none⟩ = some (.int .i64 1) ∧ w'.cell? ⟨w.heap.size + 1, 1, none⟩ = some (.int .i64 vo) ∧ w'.cell? ⟨w.heap.size + 1, 2, none⟩ = some (.int .i64 de) ∧ w'.cell? ⟨w.heap.size + 1, 3, none⟩ = some (.int .i64 bl) ∧ w'.cell? ⟨w.heap.size + 1, 4, none⟩ = some (.int .i64 nn) ∧ w'.cell? ⟨w.heap.size + 1, 5, none⟩ = some (.string tx)) (first | exact hS.next (Below.refl _ _).drew | (refine FS.next ?_ (show Below _ _ _ by assumption); assumption)) (first
      | (go_at_call 38; refine (size_any m vo (.slice p m.length c) w.heap.size _ ?_ ?_).mono ?_; exact (show ModelAt _ _ _ ∧ Below _ _ _ ∧ _ ∧ _ by assumption).2.2.1; exact (show ModelAt _ _ _ ∧ Below _ _ _ ∧ _ by assumption).1; rintro e w1 ⟨rfl, hb1⟩)
      | (go_at_call 39; refine (faultOf_any _ ⟨1, vo, de, bl, nn, tx⟩ _ HS.out.2).mono ?_; rintro e w2 ⟨rfl, hb2⟩))
    go_wp2_with fail
    go_ret
    exact ⟨ret_int HE.out.symm, (show ModelAt _ _ _ ∧ Below _ _ _ ∧ _ by assumption).2.1⟩
  · have hS : FS m w p c 2 vo de bl nn tx (fbox w (.slice p m.length c) ⟨2, vo, de, bl, nn, tx⟩) := ⟨HM.out, HB0.out, by simp, by simp, by simp, by simp, by simp, by simp, by simp⟩
    go_enter Tryd.func19, Tryd.ntmps19
    go_wp2_with fail
    go_region_held3 (fun w' => ModelAt w' (.slice p m.length c) m ∧ Below w.heap.size w w' ∧ w'.cell? ⟨w.heap.size, 0, none⟩ = some (.slice p m.length c) ∧ w'.cell? ⟨w.heap.size + 1, 0, none⟩ = some (.int .i64 2) ∧ w'.cell? ⟨w.heap.size + 1, 1, none⟩ = some (.int .i64 vo) ∧ w'.cell? ⟨w.heap.size + 1, 2, none⟩ = some (.int .i64 de) ∧ w'.cell? ⟨w.heap.size + 1, 3, none⟩ = some (.int .i64 bl) ∧ w'.cell? ⟨w.heap.size + 1, 4, none⟩ = some (.int .i64 nn) ∧ w'.cell? ⟨w.heap.size + 1, 5, none⟩ = some (.string tx)) (first | exact hS.next (Below.refl _ _).drew | (refine FS.next ?_ (show Below _ _ _ by assumption); assumption)) (first
      | (go_at_call 38; refine (size_any m vo (.slice p m.length c) w.heap.size _ ?_ ?_).mono ?_; exact (show ModelAt _ _ _ ∧ Below _ _ _ ∧ _ ∧ _ by assumption).2.2.1; exact (show ModelAt _ _ _ ∧ Below _ _ _ ∧ _ by assumption).1; rintro e w1 ⟨rfl, hb1⟩)
      | (go_at_call 39; refine (faultOf_any _ ⟨2, vo, de, bl, nn, tx⟩ _ HS.out.2).mono ?_; rintro e w2 ⟨rfl, hb2⟩))
    go_wp2_with fail
    go_ret
    exact ⟨ret_int HE.out.symm, (show ModelAt _ _ _ ∧ Below _ _ _ ∧ _ by assumption).2.1⟩
  · have hS : FS m w p c 3 vo de bl nn tx (fbox w (.slice p m.length c) ⟨3, vo, de, bl, nn, tx⟩) := ⟨HM.out, HB0.out, by simp, by simp, by simp, by simp, by simp, by simp, by simp⟩
    go_enter Tryd.func19, Tryd.ntmps19
    go_wp2_with fail
    go_region_held3 (fun w' => ModelAt w' (.slice p m.length c) m ∧ Below w.heap.size w w' ∧ w'.cell? ⟨w.heap.size, 0, none⟩ = some (.slice p m.length c) ∧ w'.cell? ⟨w.heap.size + 1, 0, none⟩ = some (.int .i64 3) ∧ w'.cell? ⟨w.heap.size + 1, 1, none⟩ = some (.int .i64 vo) ∧ w'.cell? ⟨w.heap.size + 1, 2, none⟩ = some (.int .i64 de) ∧ w'.cell? ⟨w.heap.size + 1, 3, none⟩ = some (.int .i64 bl) ∧ w'.cell? ⟨w.heap.size + 1, 4, none⟩ = some (.int .i64 nn) ∧ w'.cell? ⟨w.heap.size + 1, 5, none⟩ = some (.string tx)) (first | exact hS.next (Below.refl _ _).drew | (refine FS.next ?_ (show Below _ _ _ by assumption); assumption)) (first
      | (go_at_call 38; refine (size_any m vo (.slice p m.length c) w.heap.size _ ?_ ?_).mono ?_; exact (show ModelAt _ _ _ ∧ Below _ _ _ ∧ _ ∧ _ by assumption).2.2.1; exact (show ModelAt _ _ _ ∧ Below _ _ _ ∧ _ by assumption).1; rintro e w1 ⟨rfl, hb1⟩)
      | (go_at_call 39; refine (faultOf_any _ ⟨3, vo, de, bl, nn, tx⟩ _ HS.out.2).mono ?_; rintro e w2 ⟨rfl, hb2⟩))
    go_wp2_with fail
    go_ret
    exact ⟨ret_int HE.out.symm, (show ModelAt _ _ _ ∧ Below _ _ _ ∧ _ by assumption).2.1⟩
  · have hS : FS m w p c 4 vo de bl nn tx (fbox w (.slice p m.length c) ⟨4, vo, de, bl, nn, tx⟩) := ⟨HM.out, HB0.out, by simp, by simp, by simp, by simp, by simp, by simp, by simp⟩
    go_enter Tryd.func19, Tryd.ntmps19
    go_wp2_with fail
    go_region_held3 (fun w' => ModelAt w' (.slice p m.length c) m ∧ Below w.heap.size w w' ∧ w'.cell? ⟨w.heap.size, 0, none⟩ = some (.slice p m.length c) ∧ w'.cell? ⟨w.heap.size + 1, 0, none⟩ = some (.int .i64 4) ∧ w'.cell? ⟨w.heap.size + 1, 1, none⟩ = some (.int .i64 vo) ∧ w'.cell? ⟨w.heap.size + 1, 2, none⟩ = some (.int .i64 de) ∧ w'.cell? ⟨w.heap.size + 1, 3, none⟩ = some (.int .i64 bl) ∧ w'.cell? ⟨w.heap.size + 1, 4, none⟩ = some (.int .i64 nn) ∧ w'.cell? ⟨w.heap.size + 1, 5, none⟩ = some (.string tx)) (first | exact hS.next (Below.refl _ _).drew | (refine FS.next ?_ (show Below _ _ _ by assumption); assumption)) (first
      | (go_at_call 38; refine (size_any m vo (.slice p m.length c) w.heap.size _ ?_ ?_).mono ?_; exact (show ModelAt _ _ _ ∧ Below _ _ _ ∧ _ ∧ _ by assumption).2.2.1; exact (show ModelAt _ _ _ ∧ Below _ _ _ ∧ _ by assumption).1; rintro e w1 ⟨rfl, hb1⟩)
      | (go_at_call 39; refine (faultOf_any _ ⟨4, vo, de, bl, nn, tx⟩ _ HS.out.2).mono ?_; rintro e w2 ⟨rfl, hb2⟩))
    go_wp2_with fail
    go_ret
    exact ⟨ret_int HE.out.symm, (show ModelAt _ _ _ ∧ Below _ _ _ ∧ _ by assumption).2.1⟩
  · have hS : FS m w p c 5 vo de bl nn tx (fbox w (.slice p m.length c) ⟨5, vo, de, bl, nn, tx⟩) := ⟨HM.out, HB0.out, by simp, by simp, by simp, by simp, by simp, by simp, by simp⟩
    go_enter Tryd.func19, Tryd.ntmps19
    go_wp2_with fail
    go_region_held3 (fun w' => ModelAt w' (.slice p m.length c) m ∧ Below w.heap.size w w' ∧ w'.cell? ⟨w.heap.size, 0, none⟩ = some (.slice p m.length c) ∧ w'.cell? ⟨w.heap.size + 1, 0, none⟩ = some (.int .i64 5) ∧ w'.cell? ⟨w.heap.size + 1, 1, none⟩ = some (.int .i64 vo) ∧ w'.cell? ⟨w.heap.size + 1, 2, none⟩ = some (.int .i64 de) ∧ w'.cell? ⟨w.heap.size + 1, 3, none⟩ = some (.int .i64 bl) ∧ w'.cell? ⟨w.heap.size + 1, 4, none⟩ = some (.int .i64 nn) ∧ w'.cell? ⟨w.heap.size + 1, 5, none⟩ = some (.string tx)) (first | exact hS.next (Below.refl _ _).drew | (refine FS.next ?_ (show Below _ _ _ by assumption); assumption)) (first
      | (go_at_call 38; refine (size_any m vo (.slice p m.length c) w.heap.size _ ?_ ?_).mono ?_; exact (show ModelAt _ _ _ ∧ Below _ _ _ ∧ _ ∧ _ by assumption).2.2.1; exact (show ModelAt _ _ _ ∧ Below _ _ _ ∧ _ by assumption).1; rintro e w1 ⟨rfl, hb1⟩)
      | (go_at_call 39; refine (faultOf_any _ ⟨5, vo, de, bl, nn, tx⟩ _ HS.out.2).mono ?_; rintro e w2 ⟨rfl, hb2⟩))
    go_wp2_with fail
    go_ret
    exact ⟨ret_int HE.out.symm, (show ModelAt _ _ _ ∧ Below _ _ _ ∧ _ by assumption).2.1⟩

theorem fault_any (m : List VolD) (x : OpD) (v : Value) (w : World) (hm : ModelAt w v m) (hs : ∀ d ∈ m, 0 ≤ d.size ∧ d.size ≤ 100000) :
    Calls Tryd.prog 19 #[v, x.agg] w (FEnds m x w) := by
  obtain ⟨ac, vo, de, bl, nn, tx⟩ := x
  by_cases h0 : ac = 0
  · subst h0; exact fault_0 m v w vo de bl nn tx hm hs
  by_cases h6 : ac = 6
  · subst h6; exact fault_6 m v w vo de bl nn tx hm hs
  by_cases h15 : 1 ≤ ac ∧ ac ≤ 5
  · exact fault_of m v w ac vo de bl nn tx hm hs (by omega)
  · exact fault_else m v w ac vo de bl nn tx hm h0 h6 (by omega)
end Go.Proofs.YtgabifkechofnaaDoor
