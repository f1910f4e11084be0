/- The walk of the reference's Wrong: it is the model's fault. Printed by gen_mwrong.py. -/
import Derived.Test.YtgabifkechofnaaDoorMR1
import Derived.Test.YtgabifkechofnaaDoorMX1
namespace Go.Proofs.YtgabifkechofnaaDoor
open Go.RowKit

theorem find_size {m : List VolD} (hm : MayP m) (id : Int) : (findI m id = -1 ∧ sizeL m id = -1) ∨ ∃ i d, findI m id = (i : Nat) ∧ m[i]? = some d ∧ sizeL m id = d.size ∧ 0 ≤ d.size ∧ d.size ≤ 100000 := by
  cases hg : getV m id with
  | none => left; exact ⟨by unfold findI; rw [find_none hg], by rw [sizeL_look, hg]⟩
  | some d =>
    right
    obtain ⟨i, h1, h2, _⟩ := find_some hg
    have := (hm.vol d (look_mem hg).1).size
    exact ⟨i, d, by unfold findI; rw [h1], h2, by rw [sizeL_look, hg], this.1, this.2⟩
theorem find_sign {m : List VolD} (hm : MayP m) (id : Int) : (findI m id = -1 ∧ sizeL m id = -1) ∨ (0 ≤ findI m id ∧ 0 ≤ sizeL m id ∧ findI m id ≤ 1000) := by
  rcases find_size hm id with h | ⟨i, d, h1, h2, h3, h4, _⟩
  · exact .inl h
  · refine .inr ⟨by omega, by omega, ?_⟩
    have := (List.getElem?_eq_some_iff.1 h2).1; have := hm.len; omega
theorem idB_iff (n : Int) : idB n = true ↔ 1 ≤ n ∧ n ≤ 1000 := by unfold idB; simp
theorem szB_iff (n : Int) : szB n = true ↔ 0 ≤ n ∧ n ≤ 100000 := by unfold szB; simp
theorem idB_no (n : Int) : idB n = false ↔ ¬ (1 ≤ n ∧ n ≤ 1000) := by rw [← idB_iff]; simp
theorem szB_no (n : Int) : szB n = false ↔ ¬ (0 ≤ n ∧ n ≤ 100000) := by rw [← szB_iff]; simp

set_option maxRecDepth 100000 in
set_option maxHeartbeats 8000000 in
theorem wrong_0 (m : List VolD) (vo de bl nn : Int) (tx : ByteArray) (v : Value) (w : World) (hm : ModelAt w v m) (hmp : MayP m) :
    Calls Tryd.prog 29 #[v, .agg #[.int .i64 0, .int .i64 vo, .int .i64 de, .int .i64 bl, .int .i64 nn, .string tx]] w fun e w' => e = .returned (.int .i64 (faultL m ⟨0, vo, de, bl, nn, tx⟩)) ∧ Below w.heap.size w w' := by
  have hbx := (Below.refl w.heap.size w).alloc (Nat.le_refl _) (.cells #[.int .i64 0, .int .i64 vo, .int .i64 de, .int .i64 bl, .int .i64 nn, .string tx] 24)
  have HM := Lib.hid (hm.stays hbx); have HBX := Lib.hid hbx
  have hml : (m.length : Int) ≤ 64 := by have := hmp.len; omega
  have hfs := find_size hmp vo
  obtain ⟨p, c, rfl, hc1, hc2, hel⟩ := hm.stays hbx
  clear hmp hm
  rcases hfs with ⟨hf, hs⟩ | ⟨i, d, hf, hd, hs, h0, h1⟩
  · have HS := Lib.hid hs; have HFI := Lib.hid hf; clear hs hf
    clear hel hc1 hc2 hbx
    go_enter Tryd.func29, Tryd.ntmps29
    go_wp2_with fail
    refine (rfind_any m vo _ _ HM.out).mono ?_
    rintro e w' ⟨rfl, rfl⟩
    rw [HFI.out]
    go_wp2_with (first
      | (go_at_call 36; refine (rid_b _ _).mono ?_; rintro e w' ⟨rfl, rfl⟩)
      | (go_at_call 37; refine (rsize_b _ _).mono ?_; rintro e w' ⟨rfl, rfl⟩)
      | (go_at_call 16; refine (rfind_any m de _ _ HM.out).mono ?_; rintro e w' ⟨rfl, rfl⟩))
    all_goals
      go_ret
      refine ⟨ret_int ?_, HBX.out⟩
      unfold faultL faultOfL; simp only
      have hs := HS.out
      try simp only [idB_iff, szB_iff, szB_no, ne_eq, Bool.not_eq_true', Bool.not_eq_false'] at *
      (repeat' split) <;> first | rfl | omega | (exfalso; omega) | (exfalso; simp only [true_and] at *; omega) | (simp_all; done) | (simp_all <;> omega)
  · have HS := Lib.hid hs; have HFI := Lib.hid hf; clear hs hf
    obtain ⟨g, o, bp, bc, rfl, e0, e1, e2, _⟩ := hel i d hd
    have hiI : (i : Int) < (m.length : Int) := by have := (List.getElem?_eq_some_iff.1 hd).1; omega
    clear hel hd hc1 hc2 hbx
    go_enter Tryd.func29, Tryd.ntmps29
    go_wp2_with fail
    refine (rfind_any m vo _ _ HM.out).mono ?_
    rintro e w' ⟨rfl, rfl⟩
    rw [HFI.out]
    go_wp2_with (first
      | (go_at_call 36; refine (rid_b _ _).mono ?_; rintro e w' ⟨rfl, rfl⟩)
      | (go_at_call 37; refine (rsize_b _ _).mono ?_; rintro e w' ⟨rfl, rfl⟩)
      | (go_at_call 16; refine (rfind_any m de _ _ HM.out).mono ?_; rintro e w' ⟨rfl, rfl⟩))
    all_goals
      go_ret
      refine ⟨ret_int ?_, HBX.out⟩
      unfold faultL faultOfL; simp only
      have hs := HS.out
      try simp only [idB_iff, szB_iff, szB_no, ne_eq, Bool.not_eq_true', Bool.not_eq_false'] at *
      (repeat' split) <;> first | rfl | omega | (exfalso; omega) | (exfalso; simp only [true_and] at *; omega) | (simp_all; done) | (simp_all <;> omega)

set_option maxRecDepth 100000 in
set_option maxHeartbeats 8000000 in
theorem wrong_1 (m : List VolD) (vo de bl nn : Int) (tx : ByteArray) (v : Value) (w : World) (hm : ModelAt w v m) (hmp : MayP m) :
    Calls Tryd.prog 29 #[v, .agg #[.int .i64 1, .int .i64 vo, .int .i64 de, .int .i64 bl, .int .i64 nn, .string tx]] w fun e w' => e = .returned (.int .i64 (faultL m ⟨1, vo, de, bl, nn, tx⟩)) ∧ Below w.heap.size w w' := by
  have hbx := (Below.refl w.heap.size w).alloc (Nat.le_refl _) (.cells #[.int .i64 1, .int .i64 vo, .int .i64 de, .int .i64 bl, .int .i64 nn, .string tx] 24)
  have HM := Lib.hid (hm.stays hbx); have HBX := Lib.hid hbx
  have hml : (m.length : Int) ≤ 64 := by have := hmp.len; omega
  have hfs := find_size hmp vo
  obtain ⟨p, c, rfl, hc1, hc2, hel⟩ := hm.stays hbx
  clear hmp hm
  rcases hfs with ⟨hf, hs⟩ | ⟨i, d, hf, hd, hs, h0, h1⟩
  · have HS := Lib.hid hs; have HFI := Lib.hid hf; clear hs hf
    clear hel hc1 hc2 hbx
    go_enter Tryd.func29, Tryd.ntmps29
    go_wp2_with fail
    refine (rfind_any m vo _ _ HM.out).mono ?_
    rintro e w' ⟨rfl, rfl⟩
    rw [HFI.out]
    go_wp2_with (first
      | (go_at_call 36; refine (rid_b _ _).mono ?_; rintro e w' ⟨rfl, rfl⟩)
      | (go_at_call 37; refine (rsize_b _ _).mono ?_; rintro e w' ⟨rfl, rfl⟩)
      | (go_at_call 16; refine (rfind_any m de _ _ HM.out).mono ?_; rintro e w' ⟨rfl, rfl⟩))
    all_goals
      go_ret
      refine ⟨ret_int ?_, HBX.out⟩
      unfold faultL faultOfL; simp only
      have hs := HS.out
      try simp only [ne_eq] at *
      (repeat' split) <;> first | rfl | omega | (exfalso; omega) | (exfalso; simp only [true_and] at *; omega) | (simp_all; done) | (simp_all <;> omega)
  · have HS := Lib.hid hs; have HFI := Lib.hid hf; clear hs hf
    obtain ⟨g, o, bp, bc, rfl, e0, e1, e2, _⟩ := hel i d hd
    have hiI : (i : Int) < (m.length : Int) := by have := (List.getElem?_eq_some_iff.1 hd).1; omega
    clear hel hd hc1 hc2 hbx
    go_enter Tryd.func29, Tryd.ntmps29
    go_wp2_with fail
    refine (rfind_any m vo _ _ HM.out).mono ?_
    rintro e w' ⟨rfl, rfl⟩
    rw [HFI.out]
    go_wp2_with (first
      | (go_at_call 36; refine (rid_b _ _).mono ?_; rintro e w' ⟨rfl, rfl⟩)
      | (go_at_call 37; refine (rsize_b _ _).mono ?_; rintro e w' ⟨rfl, rfl⟩)
      | (go_at_call 16; refine (rfind_any m de _ _ HM.out).mono ?_; rintro e w' ⟨rfl, rfl⟩))
    all_goals
      go_ret
      refine ⟨ret_int ?_, HBX.out⟩
      unfold faultL faultOfL; simp only
      have hs := HS.out
      try simp only [ne_eq] at *
      (repeat' split) <;> first | rfl | omega | (exfalso; omega) | (exfalso; simp only [true_and] at *; omega) | (simp_all; done) | (simp_all <;> omega)

set_option maxRecDepth 100000 in
set_option maxHeartbeats 8000000 in
theorem wrong_2 (m : List VolD) (vo de bl nn : Int) (tx : ByteArray) (v : Value) (w : World) (hm : ModelAt w v m) (hmp : MayP m) :
    Calls Tryd.prog 29 #[v, .agg #[.int .i64 2, .int .i64 vo, .int .i64 de, .int .i64 bl, .int .i64 nn, .string tx]] w fun e w' => e = .returned (.int .i64 (faultL m ⟨2, vo, de, bl, nn, tx⟩)) ∧ Below w.heap.size w w' := by
  have hbx := (Below.refl w.heap.size w).alloc (Nat.le_refl _) (.cells #[.int .i64 2, .int .i64 vo, .int .i64 de, .int .i64 bl, .int .i64 nn, .string tx] 24)
  have HM := Lib.hid (hm.stays hbx); have HBX := Lib.hid hbx
  have hml : (m.length : Int) ≤ 64 := by have := hmp.len; omega
  have hzz : (szB nn = true ∧ 0 ≤ nn ∧ nn ≤ 100000) ∨ (szB nn = false ∧ ¬ (0 ≤ nn ∧ nn ≤ 100000)) := by
    cases h : szB nn
    · exact .inr ⟨rfl, (szB_no nn).1 h⟩
    · exact .inl ⟨rfl, (szB_iff nn).1 h⟩
  have hfs := find_size hmp vo
  obtain ⟨p, c, rfl, hc1, hc2, hel⟩ := hm.stays hbx
  clear hmp hm
  rcases hfs with ⟨hf, hs⟩ | ⟨i, d, hf, hd, hs, h0, h1⟩
  · have HS := Lib.hid hs; have HFI := Lib.hid hf; clear hs hf
    clear hel hc1 hc2 hbx
    rcases hzz with ⟨hz, HZ⟩ | ⟨hz, HZ⟩
    all_goals
      go_enter Tryd.func29, Tryd.ntmps29
      go_wp2_with fail
      refine (rfind_any m vo _ _ HM.out).mono ?_
      rintro e w' ⟨rfl, rfl⟩
      rw [HFI.out]
      go_wp2_with (first
        | (go_at_call 36; refine (rid_b _ _).mono ?_; rintro e w' ⟨rfl, rfl⟩)
        | (go_at_call 37; refine (rsize_b _ _).mono ?_; rintro e w' ⟨rfl, rfl⟩)
        | (go_at_call 16; refine (rfind_any m de _ _ HM.out).mono ?_; rintro e w' ⟨rfl, rfl⟩))
      all_goals
        go_ret
        refine ⟨ret_int ?_, HBX.out⟩
        unfold faultL faultOfL; simp only
        have hs := HS.out
        try simp only [szB_iff, szB_no, ne_eq] at *
        (repeat' split) <;> first | rfl | omega | (exfalso; omega) | (exfalso; simp only [true_and] at *; omega) | (simp_all; done) | (simp_all <;> omega)
  · have HS := Lib.hid hs; have HFI := Lib.hid hf; clear hs hf
    obtain ⟨g, o, bp, bc, rfl, e0, e1, e2, _⟩ := hel i d hd
    have hiI : (i : Int) < (m.length : Int) := by have := (List.getElem?_eq_some_iff.1 hd).1; omega
    clear hel hd hc1 hc2 hbx
    rcases hzz with ⟨hz, HZ⟩ | ⟨hz, HZ⟩
    all_goals
      go_enter Tryd.func29, Tryd.ntmps29
      go_wp2_with fail
      refine (rfind_any m vo _ _ HM.out).mono ?_
      rintro e w' ⟨rfl, rfl⟩
      rw [HFI.out]
      go_wp2_with (first
        | (go_at_call 36; refine (rid_b _ _).mono ?_; rintro e w' ⟨rfl, rfl⟩)
        | (go_at_call 37; refine (rsize_b _ _).mono ?_; rintro e w' ⟨rfl, rfl⟩)
        | (go_at_call 16; refine (rfind_any m de _ _ HM.out).mono ?_; rintro e w' ⟨rfl, rfl⟩))
      all_goals
        go_ret
        refine ⟨ret_int ?_, HBX.out⟩
        unfold faultL faultOfL; simp only
        have hs := HS.out
        try simp only [szB_iff, szB_no, ne_eq] at *
        (repeat' split) <;> first | rfl | omega | (exfalso; omega) | (exfalso; simp only [true_and] at *; omega) | (simp_all; done) | (simp_all <;> omega)

set_option maxRecDepth 100000 in
set_option maxHeartbeats 8000000 in
theorem wrong_3 (m : List VolD) (vo de bl nn : Int) (tx : ByteArray) (v : Value) (w : World) (hm : ModelAt w v m) (hmp : MayP m) :
    Calls Tryd.prog 29 #[v, .agg #[.int .i64 3, .int .i64 vo, .int .i64 de, .int .i64 bl, .int .i64 nn, .string tx]] w fun e w' => e = .returned (.int .i64 (faultL m ⟨3, vo, de, bl, nn, tx⟩)) ∧ Below w.heap.size w w' := by
  have hbx := (Below.refl w.heap.size w).alloc (Nat.le_refl _) (.cells #[.int .i64 3, .int .i64 vo, .int .i64 de, .int .i64 bl, .int .i64 nn, .string tx] 24)
  have HM := Lib.hid (hm.stays hbx); have HBX := Lib.hid hbx
  have hml : (m.length : Int) ≤ 64 := by have := hmp.len; omega
  have hfs := find_size hmp vo
  obtain ⟨p, c, rfl, hc1, hc2, hel⟩ := hm.stays hbx
  clear hmp hm
  rcases hfs with ⟨hf, hs⟩ | ⟨i, d, hf, hd, hs, h0, h1⟩
  · have HS := Lib.hid hs; have HFI := Lib.hid hf; clear hs hf
    clear hel hc1 hc2 hbx
    go_enter Tryd.func29, Tryd.ntmps29
    go_wp2_with fail
    refine (rfind_any m vo _ _ HM.out).mono ?_
    rintro e w' ⟨rfl, rfl⟩
    rw [HFI.out]
    go_wp2_with (first
      | (go_at_call 36; refine (rid_b _ _).mono ?_; rintro e w' ⟨rfl, rfl⟩)
      | (go_at_call 37; refine (rsize_b _ _).mono ?_; rintro e w' ⟨rfl, rfl⟩)
      | (go_at_call 16; refine (rfind_any m de _ _ HM.out).mono ?_; rintro e w' ⟨rfl, rfl⟩))
    all_goals
      go_ret
      refine ⟨ret_int ?_, HBX.out⟩
      unfold faultL faultOfL; simp only
      have hs := HS.out
      try simp only [ne_eq] at *
      (repeat' split) <;> first | rfl | omega | (exfalso; omega) | (exfalso; simp only [true_and] at *; omega) | (simp_all; done) | (simp_all <;> omega)
  · have HS := Lib.hid hs; have HFI := Lib.hid hf; clear hs hf
    obtain ⟨g, o, bp, bc, rfl, e0, e1, e2, _⟩ := hel i d hd
    have hiI : (i : Int) < (m.length : Int) := by have := (List.getElem?_eq_some_iff.1 hd).1; omega
    clear hel hd hc1 hc2 hbx
    go_enter Tryd.func29, Tryd.ntmps29
    go_wp2_with fail
    refine (rfind_any m vo _ _ HM.out).mono ?_
    rintro e w' ⟨rfl, rfl⟩
    rw [HFI.out]
    go_wp2_with (first
      | (go_at_call 36; refine (rid_b _ _).mono ?_; rintro e w' ⟨rfl, rfl⟩)
      | (go_at_call 37; refine (rsize_b _ _).mono ?_; rintro e w' ⟨rfl, rfl⟩)
      | (go_at_call 16; refine (rfind_any m de _ _ HM.out).mono ?_; rintro e w' ⟨rfl, rfl⟩))
    all_goals
      go_ret
      refine ⟨ret_int ?_, HBX.out⟩
      unfold faultL faultOfL; simp only
      have hs := HS.out
      try simp only [ne_eq] at *
      (repeat' split) <;> first | rfl | omega | (exfalso; omega) | (exfalso; simp only [true_and] at *; omega) | (simp_all; done) | (simp_all <;> omega)

set_option maxRecDepth 100000 in
set_option maxHeartbeats 8000000 in
theorem wrong_4 (m : List VolD) (vo de bl nn : Int) (tx : ByteArray) (v : Value) (w : World) (hm : ModelAt w v m) (hmp : MayP m) :
    Calls Tryd.prog 29 #[v, .agg #[.int .i64 4, .int .i64 vo, .int .i64 de, .int .i64 bl, .int .i64 nn, .string tx]] w fun e w' => e = .returned (.int .i64 (faultL m ⟨4, vo, de, bl, nn, tx⟩)) ∧ Below w.heap.size w w' := by
  have hbx := (Below.refl w.heap.size w).alloc (Nat.le_refl _) (.cells #[.int .i64 4, .int .i64 vo, .int .i64 de, .int .i64 bl, .int .i64 nn, .string tx] 24)
  have HM := Lib.hid (hm.stays hbx); have HBX := Lib.hid hbx
  have hml : (m.length : Int) ≤ 64 := by have := hmp.len; omega
  have hfs := find_size hmp vo
  obtain ⟨p, c, rfl, hc1, hc2, hel⟩ := hm.stays hbx
  clear hmp hm
  rcases hfs with ⟨hf, hs⟩ | ⟨i, d, hf, hd, hs, h0, h1⟩
  · have HS := Lib.hid hs; have HFI := Lib.hid hf; clear hs hf
    clear hel hc1 hc2 hbx
    go_enter Tryd.func29, Tryd.ntmps29
    go_wp2_with fail
    refine (rfind_any m vo _ _ HM.out).mono ?_
    rintro e w' ⟨rfl, rfl⟩
    rw [HFI.out]
    go_wp2_with (first
      | (go_at_call 36; refine (rid_b _ _).mono ?_; rintro e w' ⟨rfl, rfl⟩)
      | (go_at_call 37; refine (rsize_b _ _).mono ?_; rintro e w' ⟨rfl, rfl⟩)
      | (go_at_call 16; refine (rfind_any m de _ _ HM.out).mono ?_; rintro e w' ⟨rfl, rfl⟩))
    all_goals
      go_ret
      refine ⟨ret_int ?_, HBX.out⟩
      unfold faultL faultOfL; simp only
      have hs := HS.out
      try simp only [bne_iff_ne, bne_eq_false_iff_eq, ne_eq] at *
      (repeat' split) <;> first | rfl | omega | (exfalso; omega) | (exfalso; simp only [true_and] at *; omega) | (simp_all; done) | (simp_all <;> omega)
  · have HS := Lib.hid hs; have HFI := Lib.hid hf; clear hs hf
    obtain ⟨g, o, bp, bc, rfl, e0, e1, e2, _⟩ := hel i d hd
    have hiI : (i : Int) < (m.length : Int) := by have := (List.getElem?_eq_some_iff.1 hd).1; omega
    clear hel hd hc1 hc2 hbx
    go_enter Tryd.func29, Tryd.ntmps29
    go_wp2_with fail
    refine (rfind_any m vo _ _ HM.out).mono ?_
    rintro e w' ⟨rfl, rfl⟩
    rw [HFI.out]
    go_wp2_with (first
      | (go_at_call 36; refine (rid_b _ _).mono ?_; rintro e w' ⟨rfl, rfl⟩)
      | (go_at_call 37; refine (rsize_b _ _).mono ?_; rintro e w' ⟨rfl, rfl⟩)
      | (go_at_call 16; refine (rfind_any m de _ _ HM.out).mono ?_; rintro e w' ⟨rfl, rfl⟩))
    all_goals
      go_ret
      refine ⟨ret_int ?_, HBX.out⟩
      unfold faultL faultOfL; simp only
      have hs := HS.out
      try simp only [bne_iff_ne, bne_eq_false_iff_eq, ne_eq] at *
      (repeat' split) <;> first | rfl | omega | (exfalso; omega) | (exfalso; simp only [true_and] at *; omega) | (simp_all; done) | (simp_all <;> omega)

set_option maxRecDepth 100000 in
set_option maxHeartbeats 8000000 in
theorem wrong_5 (m : List VolD) (vo de bl nn : Int) (tx : ByteArray) (v : Value) (w : World) (hm : ModelAt w v m) (hmp : MayP m) :
    Calls Tryd.prog 29 #[v, .agg #[.int .i64 5, .int .i64 vo, .int .i64 de, .int .i64 bl, .int .i64 nn, .string tx]] w fun e w' => e = .returned (.int .i64 (faultL m ⟨5, vo, de, bl, nn, tx⟩)) ∧ Below w.heap.size w w' := by
  have hbx := (Below.refl w.heap.size w).alloc (Nat.le_refl _) (.cells #[.int .i64 5, .int .i64 vo, .int .i64 de, .int .i64 bl, .int .i64 nn, .string tx] 24)
  have HM := Lib.hid (hm.stays hbx); have HBX := Lib.hid hbx
  have hml : (m.length : Int) ≤ 64 := by have := hmp.len; omega
  have hfs := find_size hmp vo
  obtain ⟨p, c, rfl, hc1, hc2, hel⟩ := hm.stays hbx
  clear hmp hm
  rcases hfs with ⟨hf, hs⟩ | ⟨i, d, hf, hd, hs, h0, h1⟩
  · have HS := Lib.hid hs; have HFI := Lib.hid hf; clear hs hf
    clear hel hc1 hc2 hbx
    go_enter Tryd.func29, Tryd.ntmps29
    go_wp2_with fail
    refine (rfind_any m vo _ _ HM.out).mono ?_
    rintro e w' ⟨rfl, rfl⟩
    rw [HFI.out]
    go_wp2_with (first
      | (go_at_call 36; refine (rid_b _ _).mono ?_; rintro e w' ⟨rfl, rfl⟩)
      | (go_at_call 37; refine (rsize_b _ _).mono ?_; rintro e w' ⟨rfl, rfl⟩)
      | (go_at_call 16; refine (rfind_any m de _ _ HM.out).mono ?_; rintro e w' ⟨rfl, rfl⟩))
    all_goals
      go_ret
      refine ⟨ret_int ?_, HBX.out⟩
      unfold faultL faultOfL; simp only
      have hs := HS.out
      try simp only [ne_eq] at *
      (repeat' split) <;> first | rfl | omega | (exfalso; omega) | (exfalso; simp only [true_and] at *; omega) | (simp_all; done) | (simp_all <;> omega)
  · have HS := Lib.hid hs; have HFI := Lib.hid hf; clear hs hf
    obtain ⟨g, o, bp, bc, rfl, e0, e1, e2, _⟩ := hel i d hd
    have hiI : (i : Int) < (m.length : Int) := by have := (List.getElem?_eq_some_iff.1 hd).1; omega
    clear hel hd hc1 hc2 hbx
    go_enter Tryd.func29, Tryd.ntmps29
    go_wp2_with fail
    refine (rfind_any m vo _ _ HM.out).mono ?_
    rintro e w' ⟨rfl, rfl⟩
    rw [HFI.out]
    go_wp2_with (first
      | (go_at_call 36; refine (rid_b _ _).mono ?_; rintro e w' ⟨rfl, rfl⟩)
      | (go_at_call 37; refine (rsize_b _ _).mono ?_; rintro e w' ⟨rfl, rfl⟩)
      | (go_at_call 16; refine (rfind_any m de _ _ HM.out).mono ?_; rintro e w' ⟨rfl, rfl⟩))
    all_goals
      go_ret
      refine ⟨ret_int ?_, HBX.out⟩
      unfold faultL faultOfL; simp only
      have hs := HS.out
      try simp only [ne_eq] at *
      (repeat' split) <;> first | rfl | omega | (exfalso; omega) | (exfalso; simp only [true_and] at *; omega) | (simp_all; done) | (simp_all <;> omega)

set_option maxRecDepth 100000 in
set_option maxHeartbeats 8000000 in
theorem wrong_6 (m : List VolD) (vo de bl nn : Int) (tx : ByteArray) (v : Value) (w : World) (hm : ModelAt w v m) (hmp : MayP m) :
    Calls Tryd.prog 29 #[v, .agg #[.int .i64 6, .int .i64 vo, .int .i64 de, .int .i64 bl, .int .i64 nn, .string tx]] w fun e w' => e = .returned (.int .i64 (faultL m ⟨6, vo, de, bl, nn, tx⟩)) ∧ Below w.heap.size w w' := by
  have hbx := (Below.refl w.heap.size w).alloc (Nat.le_refl _) (.cells #[.int .i64 6, .int .i64 vo, .int .i64 de, .int .i64 bl, .int .i64 nn, .string tx] 24)
  have HM := Lib.hid (hm.stays hbx); have HBX := Lib.hid hbx
  have hml : (m.length : Int) ≤ 64 := by have := hmp.len; omega
  have HD := Lib.hid (find_sign hmp de)
  have hfs := find_size hmp vo
  obtain ⟨p, c, rfl, hc1, hc2, hel⟩ := hm.stays hbx
  clear hmp hm
  rcases hfs with ⟨hf, hs⟩ | ⟨i, d, hf, hd, hs, h0, h1⟩
  · have HS := Lib.hid hs; have HFI := Lib.hid hf; clear hs hf
    clear hel hc1 hc2 hbx
    go_enter Tryd.func29, Tryd.ntmps29
    go_wp2_with fail
    refine (rfind_any m vo _ _ HM.out).mono ?_
    rintro e w' ⟨rfl, rfl⟩
    rw [HFI.out]
    go_wp2_with (first
      | (go_at_call 36; refine (rid_b _ _).mono ?_; rintro e w' ⟨rfl, rfl⟩)
      | (go_at_call 37; refine (rsize_b _ _).mono ?_; rintro e w' ⟨rfl, rfl⟩)
      | (go_at_call 16; refine (rfind_any m de _ _ HM.out).mono ?_; rintro e w' ⟨rfl, rfl⟩))
    all_goals
      go_ret
      refine ⟨ret_int ?_, HBX.out⟩
      unfold faultL faultOfL; simp only
      have hs := HS.out
      have hdd := HD.out
      try simp only [idB_iff, idB_no, ne_eq, Bool.not_eq_true', Bool.not_eq_false'] at *
      (repeat' split) <;> first | rfl | omega | (exfalso; omega) | (exfalso; simp only [true_and] at *; omega) | (simp_all; done) | (simp_all <;> omega)
  · have HS := Lib.hid hs; have HFI := Lib.hid hf; clear hs hf
    obtain ⟨g, o, bp, bc, rfl, e0, e1, e2, _⟩ := hel i d hd
    have hiI : (i : Int) < (m.length : Int) := by have := (List.getElem?_eq_some_iff.1 hd).1; omega
    clear hel hd hc1 hc2 hbx
    go_enter Tryd.func29, Tryd.ntmps29
    go_wp2_with fail
    refine (rfind_any m vo _ _ HM.out).mono ?_
    rintro e w' ⟨rfl, rfl⟩
    rw [HFI.out]
    go_wp2_with (first
      | (go_at_call 36; refine (rid_b _ _).mono ?_; rintro e w' ⟨rfl, rfl⟩)
      | (go_at_call 37; refine (rsize_b _ _).mono ?_; rintro e w' ⟨rfl, rfl⟩)
      | (go_at_call 16; refine (rfind_any m de _ _ HM.out).mono ?_; rintro e w' ⟨rfl, rfl⟩))
    all_goals
      go_ret
      refine ⟨ret_int ?_, HBX.out⟩
      unfold faultL faultOfL; simp only
      have hs := HS.out
      have hdd := HD.out
      try simp only [idB_iff, idB_no, ne_eq, Bool.not_eq_true', Bool.not_eq_false'] at *
      (repeat' split) <;> first | rfl | omega | (exfalso; omega) | (exfalso; simp only [true_and] at *; omega) | (simp_all; done) | (simp_all <;> omega)

set_option maxRecDepth 100000 in
set_option maxHeartbeats 8000000 in
theorem wrong_7 (m : List VolD) (vo de bl nn : Int) (tx : ByteArray) (v : Value) (w : World) (hm : ModelAt w v m) (hmp : MayP m) :
    Calls Tryd.prog 29 #[v, .agg #[.int .i64 7, .int .i64 vo, .int .i64 de, .int .i64 bl, .int .i64 nn, .string tx]] w fun e w' => e = .returned (.int .i64 (faultL m ⟨7, vo, de, bl, nn, tx⟩)) ∧ Below w.heap.size w w' := by
  have hbx := (Below.refl w.heap.size w).alloc (Nat.le_refl _) (.cells #[.int .i64 7, .int .i64 vo, .int .i64 de, .int .i64 bl, .int .i64 nn, .string tx] 24)
  have HM := Lib.hid (hm.stays hbx); have HBX := Lib.hid hbx
  have hml : (m.length : Int) ≤ 64 := by have := hmp.len; omega
  have hfs := find_size hmp vo
  obtain ⟨p, c, rfl, hc1, hc2, hel⟩ := hm.stays hbx
  clear hmp hm
  rcases hfs with ⟨hf, hs⟩ | ⟨i, d, hf, hd, hs, h0, h1⟩
  · have HS := Lib.hid hs; have HFI := Lib.hid hf; clear hs hf
    clear hel hc1 hc2 hbx
    go_enter Tryd.func29, Tryd.ntmps29
    go_wp2_with fail
    refine (rfind_any m vo _ _ HM.out).mono ?_
    rintro e w' ⟨rfl, rfl⟩
    rw [HFI.out]
    go_wp2_with (first
      | (go_at_call 36; refine (rid_b _ _).mono ?_; rintro e w' ⟨rfl, rfl⟩)
      | (go_at_call 37; refine (rsize_b _ _).mono ?_; rintro e w' ⟨rfl, rfl⟩)
      | (go_at_call 16; refine (rfind_any m de _ _ HM.out).mono ?_; rintro e w' ⟨rfl, rfl⟩))
    all_goals
      go_ret
      refine ⟨ret_int ?_, HBX.out⟩
      unfold faultL faultOfL; simp only
      have hs := HS.out
      try simp only [ne_eq] at *
      (repeat' split) <;> first | rfl | omega | (exfalso; omega) | (exfalso; simp only [true_and] at *; omega) | (simp_all; done) | (simp_all <;> omega)
  · have HS := Lib.hid hs; have HFI := Lib.hid hf; clear hs hf
    obtain ⟨g, o, bp, bc, rfl, e0, e1, e2, _⟩ := hel i d hd
    have hiI : (i : Int) < (m.length : Int) := by have := (List.getElem?_eq_some_iff.1 hd).1; omega
    clear hel hd hc1 hc2 hbx
    go_enter Tryd.func29, Tryd.ntmps29
    go_wp2_with fail
    refine (rfind_any m vo _ _ HM.out).mono ?_
    rintro e w' ⟨rfl, rfl⟩
    rw [HFI.out]
    go_wp2_with (first
      | (go_at_call 36; refine (rid_b _ _).mono ?_; rintro e w' ⟨rfl, rfl⟩)
      | (go_at_call 37; refine (rsize_b _ _).mono ?_; rintro e w' ⟨rfl, rfl⟩)
      | (go_at_call 16; refine (rfind_any m de _ _ HM.out).mono ?_; rintro e w' ⟨rfl, rfl⟩))
    all_goals
      go_ret
      refine ⟨ret_int ?_, HBX.out⟩
      unfold faultL faultOfL; simp only
      have hs := HS.out
      try simp only [ne_eq] at *
      (repeat' split) <;> first | rfl | omega | (exfalso; omega) | (exfalso; simp only [true_and] at *; omega) | (simp_all; done) | (simp_all <;> omega)

set_option maxRecDepth 100000 in
set_option maxHeartbeats 8000000 in
theorem wrong_8 (m : List VolD) (vo de bl nn : Int) (tx : ByteArray) (v : Value) (w : World) (hm : ModelAt w v m) (hmp : MayP m) :
    Calls Tryd.prog 29 #[v, .agg #[.int .i64 8, .int .i64 vo, .int .i64 de, .int .i64 bl, .int .i64 nn, .string tx]] w fun e w' => e = .returned (.int .i64 (faultL m ⟨8, vo, de, bl, nn, tx⟩)) ∧ Below w.heap.size w w' := by
  have hbx := (Below.refl w.heap.size w).alloc (Nat.le_refl _) (.cells #[.int .i64 8, .int .i64 vo, .int .i64 de, .int .i64 bl, .int .i64 nn, .string tx] 24)
  have HM := Lib.hid (hm.stays hbx); have HBX := Lib.hid hbx
  have hml : (m.length : Int) ≤ 64 := by have := hmp.len; omega
  have hfs := find_size hmp vo
  obtain ⟨p, c, rfl, hc1, hc2, hel⟩ := hm.stays hbx
  clear hmp hm
  rcases hfs with ⟨hf, hs⟩ | ⟨i, d, hf, hd, hs, h0, h1⟩
  · have HS := Lib.hid hs; have HFI := Lib.hid hf; clear hs hf
    clear hel hc1 hc2 hbx
    go_enter Tryd.func29, Tryd.ntmps29
    go_wp2_with fail
    refine (rfind_any m vo _ _ HM.out).mono ?_
    rintro e w' ⟨rfl, rfl⟩
    rw [HFI.out]
    go_wp2_with (first
      | (go_at_call 36; refine (rid_b _ _).mono ?_; rintro e w' ⟨rfl, rfl⟩)
      | (go_at_call 37; refine (rsize_b _ _).mono ?_; rintro e w' ⟨rfl, rfl⟩)
      | (go_at_call 16; refine (rfind_any m de _ _ HM.out).mono ?_; rintro e w' ⟨rfl, rfl⟩))
    all_goals
      go_ret
      refine ⟨ret_int ?_, HBX.out⟩
      unfold faultL faultOfL; simp only
      have hs := HS.out
      try simp only [ne_eq] at *
      (repeat' split) <;> first | rfl | omega | (exfalso; omega) | (exfalso; simp only [true_and] at *; omega) | (simp_all; done) | (simp_all <;> omega)
  · have HS := Lib.hid hs; have HFI := Lib.hid hf; clear hs hf
    obtain ⟨g, o, bp, bc, rfl, e0, e1, e2, _⟩ := hel i d hd
    have hiI : (i : Int) < (m.length : Int) := by have := (List.getElem?_eq_some_iff.1 hd).1; omega
    clear hel hd hc1 hc2 hbx
    go_enter Tryd.func29, Tryd.ntmps29
    go_wp2_with fail
    refine (rfind_any m vo _ _ HM.out).mono ?_
    rintro e w' ⟨rfl, rfl⟩
    rw [HFI.out]
    go_wp2_with (first
      | (go_at_call 36; refine (rid_b _ _).mono ?_; rintro e w' ⟨rfl, rfl⟩)
      | (go_at_call 37; refine (rsize_b _ _).mono ?_; rintro e w' ⟨rfl, rfl⟩)
      | (go_at_call 16; refine (rfind_any m de _ _ HM.out).mono ?_; rintro e w' ⟨rfl, rfl⟩))
    all_goals
      go_ret
      refine ⟨ret_int ?_, HBX.out⟩
      unfold faultL faultOfL; simp only
      have hs := HS.out
      try simp only [ne_eq] at *
      (repeat' split) <;> first | rfl | omega | (exfalso; omega) | (exfalso; simp only [true_and] at *; omega) | (simp_all; done) | (simp_all <;> omega)

set_option maxRecDepth 100000 in
set_option maxHeartbeats 8000000 in
theorem wrong_9 (m : List VolD) (vo de bl nn : Int) (tx : ByteArray) (v : Value) (w : World) (hm : ModelAt w v m) (hmp : MayP m) :
    Calls Tryd.prog 29 #[v, .agg #[.int .i64 9, .int .i64 vo, .int .i64 de, .int .i64 bl, .int .i64 nn, .string tx]] w fun e w' => e = .returned (.int .i64 (faultL m ⟨9, vo, de, bl, nn, tx⟩)) ∧ Below w.heap.size w w' := by
  have hbx := (Below.refl w.heap.size w).alloc (Nat.le_refl _) (.cells #[.int .i64 9, .int .i64 vo, .int .i64 de, .int .i64 bl, .int .i64 nn, .string tx] 24)
  have HM := Lib.hid (hm.stays hbx); have HBX := Lib.hid hbx
  have hml : (m.length : Int) ≤ 64 := by have := hmp.len; omega
  have hfs := find_size hmp vo
  obtain ⟨p, c, rfl, hc1, hc2, hel⟩ := hm.stays hbx
  clear hmp hm
  rcases hfs with ⟨hf, hs⟩ | ⟨i, d, hf, hd, hs, h0, h1⟩
  · have HS := Lib.hid hs; have HFI := Lib.hid hf; clear hs hf
    clear hel hc1 hc2 hbx
    go_enter Tryd.func29, Tryd.ntmps29
    go_wp2_with fail
    refine (rfind_any m vo _ _ HM.out).mono ?_
    rintro e w' ⟨rfl, rfl⟩
    rw [HFI.out]
    go_wp2_with (first
      | (go_at_call 36; refine (rid_b _ _).mono ?_; rintro e w' ⟨rfl, rfl⟩)
      | (go_at_call 37; refine (rsize_b _ _).mono ?_; rintro e w' ⟨rfl, rfl⟩)
      | (go_at_call 16; refine (rfind_any m de _ _ HM.out).mono ?_; rintro e w' ⟨rfl, rfl⟩))
    all_goals
      go_ret
      refine ⟨ret_int ?_, HBX.out⟩
      unfold faultL faultOfL; simp only
      have hs := HS.out
      try simp only [ne_eq] at *
      (repeat' split) <;> first | rfl | omega | (exfalso; omega) | (exfalso; simp only [true_and] at *; omega) | (simp_all; done) | (simp_all <;> omega)
  · have HS := Lib.hid hs; have HFI := Lib.hid hf; clear hs hf
    obtain ⟨g, o, bp, bc, rfl, e0, e1, e2, _⟩ := hel i d hd
    have hiI : (i : Int) < (m.length : Int) := by have := (List.getElem?_eq_some_iff.1 hd).1; omega
    clear hel hd hc1 hc2 hbx
    go_enter Tryd.func29, Tryd.ntmps29
    go_wp2_with fail
    refine (rfind_any m vo _ _ HM.out).mono ?_
    rintro e w' ⟨rfl, rfl⟩
    rw [HFI.out]
    go_wp2_with (first
      | (go_at_call 36; refine (rid_b _ _).mono ?_; rintro e w' ⟨rfl, rfl⟩)
      | (go_at_call 37; refine (rsize_b _ _).mono ?_; rintro e w' ⟨rfl, rfl⟩)
      | (go_at_call 16; refine (rfind_any m de _ _ HM.out).mono ?_; rintro e w' ⟨rfl, rfl⟩))
    all_goals
      go_ret
      refine ⟨ret_int ?_, HBX.out⟩
      unfold faultL faultOfL; simp only
      have hs := HS.out
      try simp only [ne_eq] at *
      (repeat' split) <;> first | rfl | omega | (exfalso; omega) | (exfalso; simp only [true_and] at *; omega) | (simp_all; done) | (simp_all <;> omega)

set_option maxRecDepth 100000 in
set_option maxHeartbeats 8000000 in
theorem wrong_out (m : List VolD) (ac : Int) (hac : ac < 0 ∨ 9 < ac) (vo de bl nn : Int) (tx : ByteArray) (v : Value) (w : World) (hm : ModelAt w v m) (hmp : MayP m) :
    Calls Tryd.prog 29 #[v, .agg #[.int .i64 ac, .int .i64 vo, .int .i64 de, .int .i64 bl, .int .i64 nn, .string tx]] w fun e w' => e = .returned (.int .i64 (faultL m ⟨ac, vo, de, bl, nn, tx⟩)) ∧ Below w.heap.size w w' := by
  have hbx := (Below.refl w.heap.size w).alloc (Nat.le_refl _) (.cells #[.int .i64 ac, .int .i64 vo, .int .i64 de, .int .i64 bl, .int .i64 nn, .string tx] 24)
  have HM := Lib.hid (hm.stays hbx); have HBX := Lib.hid hbx
  have hml : (m.length : Int) ≤ 64 := by have := hmp.len; omega
  have HF := Lib.hid (show faultL m ⟨ac, vo, de, bl, nn, tx⟩ = 1 by unfold faultL; simp only; rw [if_neg (by omega), if_neg (by omega), if_neg (by omega), if_neg (by omega)])
  have n0 : (ac == 0) = false := by simp; omega
  have n2 : (ac == 2) = false := by simp; omega
  have n4 : (ac == 4) = false := by simp; omega
  have n6 : (ac == 6) = false := by simp; omega
  have n7 : (ac == 7) = false := by simp; omega
  have n8 : (ac == 8) = false := by simp; omega
  have n9 : (ac == 9) = false := by simp; omega
  have hfs := find_size hmp vo
  obtain ⟨p, c, rfl, hc1, hc2, hel⟩ := hm.stays hbx
  clear hmp hm
  rcases hfs with ⟨hf, hs⟩ | ⟨i, d, hf, hd, hs, h0, h1⟩
  · have HS := Lib.hid hs; have HFI := Lib.hid hf; clear hs hf
    clear hel hc1 hc2 hbx
    rcases hac with hac | hac
    all_goals
      go_enter Tryd.func29, Tryd.ntmps29
      go_wp2_with fail
      refine (rfind_any m vo _ _ HM.out).mono ?_
      rintro e w' ⟨rfl, rfl⟩
      rw [HFI.out]
      go_wp2_with (first
        | (go_at_call 36; refine (rid_b _ _).mono ?_; rintro e w' ⟨rfl, rfl⟩)
        | (go_at_call 37; refine (rsize_b _ _).mono ?_; rintro e w' ⟨rfl, rfl⟩)
        | (go_at_call 16; refine (rfind_any m de _ _ HM.out).mono ?_; rintro e w' ⟨rfl, rfl⟩))
      all_goals
        go_ret
        refine ⟨ret_int ?_, HBX.out⟩
        exact HF.out.symm
  · have HS := Lib.hid hs; have HFI := Lib.hid hf; clear hs hf
    obtain ⟨g, o, bp, bc, rfl, e0, e1, e2, _⟩ := hel i d hd
    have hiI : (i : Int) < (m.length : Int) := by have := (List.getElem?_eq_some_iff.1 hd).1; omega
    clear hel hd hc1 hc2 hbx
    rcases hac with hac | hac
    all_goals
      go_enter Tryd.func29, Tryd.ntmps29
      go_wp2_with fail
      refine (rfind_any m vo _ _ HM.out).mono ?_
      rintro e w' ⟨rfl, rfl⟩
      rw [HFI.out]
      go_wp2_with (first
        | (go_at_call 36; refine (rid_b _ _).mono ?_; rintro e w' ⟨rfl, rfl⟩)
        | (go_at_call 37; refine (rsize_b _ _).mono ?_; rintro e w' ⟨rfl, rfl⟩)
        | (go_at_call 16; refine (rfind_any m de _ _ HM.out).mono ?_; rintro e w' ⟨rfl, rfl⟩))
      all_goals
        go_ret
        refine ⟨ret_int ?_, HBX.out⟩
        exact HF.out.symm

theorem wrong_any (m : List VolD) (x : OpD) (v : Value) (w : World) (hm : ModelAt w v m) (hmp : MayP m) :
    Calls Tryd.prog 29 #[v, x.agg] w fun e w' => e = .returned (.int .i64 (faultL m x)) ∧ Below w.heap.size w w' := by
  obtain ⟨ac, vo, de, bl, nn, tx⟩ := x
  simp only [OpD.agg]
  by_cases hac : ac < 0 ∨ 9 < ac
  · exact wrong_out m ac hac vo de bl nn tx v w hm hmp
  have h10 : ac = 0 ∨ ac = 1 ∨ ac = 2 ∨ ac = 3 ∨ ac = 4 ∨ ac = 5 ∨ ac = 6 ∨ ac = 7 ∨ ac = 8 ∨ ac = 9 := by omega
  rcases h10 with rfl | rfl | rfl | rfl | rfl | rfl | rfl | rfl | rfl | rfl
  · exact wrong_0 m vo de bl nn tx v w hm hmp
  · exact wrong_1 m vo de bl nn tx v w hm hmp
  · exact wrong_2 m vo de bl nn tx v w hm hmp
  · exact wrong_3 m vo de bl nn tx v w hm hmp
  · exact wrong_4 m vo de bl nn tx v w hm hmp
  · exact wrong_5 m vo de bl nn tx v w hm hmp
  · exact wrong_6 m vo de bl nn tx v w hm hmp
  · exact wrong_7 m vo de bl nn tx v w hm hmp
  · exact wrong_8 m vo de bl nn tx v w hm hmp
  · exact wrong_9 m vo de bl nn tx v w hm hmp
end Go.Proofs.YtgabifkechofnaaDoor
