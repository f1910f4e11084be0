/- ModelSnaps: one that is made as another one is reads as that did, and is not changed by whatever is done to that, nor that by what is done to it: the law returns true for every input. Condition: the listed tables lie as the program's text lays them (the card ties that). -/
import Derived.Test.YtgabifkechofnaaDoorModLD
import Derived.Test.YtgabifkechofnaaDoorLaidM
import Derived.Deep.Cut
namespace Go.Proofs.YtgabifkechofnaaDoor.modelSnaps
open Go.Stop Go.ChangeShapes Go.WideShapes Go.ChangeAt Go.RowKit
open Go.ChangeMaps (open_string)

set_option maxRecDepth 100000 in
set_option maxHeartbeats 16000000 in
theorem walk (w : World) (hp : Pow10 w) (m : List VolD) (v : Value) (x : OpD) (y : OpD) (hm : ModelAt w v m) :
    Calls Tryd.prog 6 #[v, x.agg, y.agg] w fun e w' => e = .returned (.bool true) ∧ Below w.heap.size w w' := by
  obtain ⟨ac, vo, de, bl, nn, tx⟩ := x
  obtain ⟨yac, yv, yd, yb, yn, yt⟩ := y
  have HBX := Lib.hid (show Below w.heap.size w ((w.alloc (.cells #[.int .i64 ac, .int .i64 vo, .int .i64 de, .int .i64 bl, .int .i64 nn, .string tx] 24)).alloc (.cells #[.int .i64 yac, .int .i64 yv, .int .i64 yd, .int .i64 yb, .int .i64 yn, .string yt] 24)) from ((Below.refl w.heap.size w).alloc (Nat.le_refl _) _).alloc (by simp) _)
  have HXB := Lib.hid (show OBox w.heap.size ⟨ac, vo, de, bl, nn, tx⟩ ((w.alloc (.cells #[.int .i64 ac, .int .i64 vo, .int .i64 de, .int .i64 bl, .int .i64 nn, .string tx] 24)).alloc (.cells #[.int .i64 yac, .int .i64 yv, .int .i64 yd, .int .i64 yb, .int .i64 yn, .string yt] 24)) from (OBox.new ⟨ac, vo, de, bl, nn, tx⟩ _ rfl).below ((Below.refl _ _).alloc (Nat.le_refl _) _))
  have HYB := Lib.hid (show OBox (w.heap.size + 1) ⟨yac, yv, yd, yb, yn, yt⟩ ((w.alloc (.cells #[.int .i64 ac, .int .i64 vo, .int .i64 de, .int .i64 bl, .int .i64 nn, .string tx] 24)).alloc (.cells #[.int .i64 yac, .int .i64 yv, .int .i64 yd, .int .i64 yb, .int .i64 yn, .string yt] 24)) from OBox.new ⟨yac, yv, yd, yb, yn, yt⟩ _ (by simp))
  have HM := Lib.hid hm; have HP := Lib.hid hp
  obtain ⟨p, c, rfl, _, _, _⟩ := hm
  clear hp
  simp only [OpD.agg]
  by_cases hs : smallB m = true
  case neg =>
    have HS := Lib.hid (show smallB m = false by simpa using hs); clear hs
    go_enter Tryd.func6, Tryd.ntmps6
    go_wp2_with fail
    refine (fixed_any _ (pow_stays HP.out HBX.out)).mono ?_
    rintro e w1 ⟨rfl, hb⟩
    have HB1 := Lib.hid (btrans HBX.out hb); have HX1 := Lib.hid (HXB.out.below hb); have HY1 := Lib.hid (HYB.out.below hb); clear hb
    go_wp2_with fail
    refine (small_any m _ _ (HM.out.stays HB1.out)).mono ?_
    rintro e _ ⟨rfl, rfl⟩
    rw [HS.out]
    go_wp2_with fail
    refine (fixed_any _ (pow_stays HP.out HB1.out)).mono ?_
    rintro e w2 ⟨rfl, hb⟩
    have HB2 := Lib.hid (btrans HB1.out hb); clear hb
    go_wp2_with fail
    go_ret
    exact ⟨rfl, HB2.out⟩
  have HS := Lib.hid hs; clear hs
  by_cases hy : mayL m = true
  case neg =>
    have HY := Lib.hid (show mayL m = false by simpa using hy); clear hy
    go_enter Tryd.func6, Tryd.ntmps6
    go_wp2_with fail
    refine (fixed_any _ (pow_stays HP.out HBX.out)).mono ?_
    rintro e w1 ⟨rfl, hb⟩
    have HB1 := Lib.hid (btrans HBX.out hb); have HX1 := Lib.hid (HXB.out.below hb); have HY1 := Lib.hid (HYB.out.below hb); clear hb
    go_wp2_with fail
    refine (small_any m _ _ (HM.out.stays HB1.out)).mono ?_
    rintro e _ ⟨rfl, rfl⟩
    rw [HS.out]
    go_wp2_with fail
    refine (rmay_any m _ _ (HM.out.stays HB1.out)).mono ?_
    rintro e w3 ⟨rfl, hb⟩
    rw [HY.out]
    have HB3 := Lib.hid (btrans HB1.out hb); have HX3 := Lib.hid (HX1.out.below hb); have HY3 := Lib.hid (HY1.out.below hb); clear hb
    go_wp2_with fail
    refine (fixed_any _ (pow_stays HP.out HB3.out)).mono ?_
    rintro e w2 ⟨rfl, hb⟩
    have HB2 := Lib.hid (btrans HB3.out hb); clear hb
    go_wp2_with fail
    go_ret
    exact ⟨rfl, HB2.out⟩
  have HY := Lib.hid hy
  have HMP := Lib.hid ((may_iff m).1 hy); clear hy
  have HL60 := Lib.hid (smallP HS.out).2
  have HLM := Lib.hid (show ∀ d ∈ m, d.blocks.length ≤ 50000 from fun d hd => by have := HL60.out d hd; omega)
  go_enter Tryd.func6, Tryd.ntmps6
  go_wp2_with fail
  refine (fixed_any _ (pow_stays HP.out HBX.out)).mono ?_
  rintro e w1 ⟨rfl, hb⟩
  have HB1 := Lib.hid (btrans HBX.out hb); have HX1 := Lib.hid (HXB.out.below hb); have HY1 := Lib.hid (HYB.out.below hb); clear hb
  go_wp2_with fail
  refine (small_any m _ _ (HM.out.stays HB1.out)).mono ?_
  rintro e _ ⟨rfl, rfl⟩
  rw [HS.out]
  go_wp2_with fail
  refine (rmay_any m _ _ (HM.out.stays HB1.out)).mono ?_
  rintro e w3 ⟨rfl, hb⟩
  rw [HY.out]
  have HB3 := Lib.hid (btrans HB1.out hb); have HX3 := Lib.hid (HX1.out.below hb); have HY3 := Lib.hid (HY1.out.below hb); clear hb
  have x0 := HX3.out.c 0 _ rfl
  have x1 := HX3.out.c 1 _ rfl
  have x2 := HX3.out.c 2 _ rfl
  have x3 := HX3.out.c 3 _ rfl
  have x4 := HX3.out.c 4 _ rfl
  have x5 := HX3.out.c 5 _ rfl
  go_wp2_with fail
  refine (do_any m ⟨6, vo, de, 0, 0, ⟨#[]⟩⟩ _ _ (HM.out.stays HB3.out) (mayLen HMP.out) HLM.out (pow_stays HP.out HB3.out)).mono ?_
  rintro e w4 ⟨v4, rfl, hfin, hb⟩
  have hcode := doL_code HMP.out ⟨6, vo, de, 0, 0, ⟨#[]⟩⟩
  obtain ⟨⟨co, te, nu⟩, ha⟩ : ∃ a, (doL m ⟨6, vo, de, 0, 0, ⟨#[]⟩⟩).2 = a := ⟨_, rfl⟩
  rw [ha] at hcode ⊢
  have hal := (Below.refl w4.heap.size w4).alloc (Nat.le_refl _) (.cells #[.int .i64 co, .string te, .int .i64 nu] 29)
  have HB4 := Lib.hid (btrans (btrans HB3.out hb) hal); have HX4 := Lib.hid ((HX3.out.below hb).below hal); have HY4 := Lib.hid ((HY3.out.below hb).below hal)
  have HN4 := Lib.hid ((MFin.mono (show w.heap.size + 2 ≤ w3.heap.size from HY3.out.lt) hfin).below hal)
  obtain ⟨p4, c4, rfl, _, _, _⟩ := hfin.reads
  clear hb hal hfin ha
  clear x0 x1 x2 x3 x4 x5
  simp only [AnsM.agg]
  by_cases hco : co = 0
  case neg =>
    have hb0 : (co != 0) = true := by simpa using hco
    clear hco hcode
    go_wp2_with fail
    go_ret
    exact ⟨rfl, HB4.out⟩
  have hb0 : (co != 0) = false := by simpa using hco
  have hlaw := snaps_law HMP.out vo de 0 0 ⟨#[]⟩ (by rw [← hcode]; exact hco)
  clear hco
  have HMN := Lib.hid (doL_may HMP.out ⟨6, vo, de, 0, 0, ⟨#[]⟩⟩)
  have HLN := Lib.hid (doL_len HMP.out ⟨6, vo, de, 0, 0, ⟨#[]⟩⟩ 60 HL60.out)
  obtain ⟨N, hN⟩ : ∃ N, (doL m ⟨6, vo, de, 0, 0, ⟨#[]⟩⟩).1 = N := ⟨_, rfl⟩
  simp only [hN] at hlaw HMN HLN HN4 ⊢
  clear hN
  obtain ⟨_, _, _, l4, l5, l6⟩ := hlaw
  obtain ⟨⟨co0, t0⟩, hr⟩ : ∃ r, rd m vo bl = r := ⟨_, rfl⟩
  have HRM := Lib.hid hr; have HRN := Lib.hid ((l4 bl).trans hr)
  have HLA := Lib.hid l5; have HLB := Lib.hid l6
  clear hr l4 l5 l6
  clear hcode
  go_upto_region 5 with fail
  obtain ⟨WA, hWA⟩ : ∃ WA, w4.alloc (.cells #[.int .i64 co, .string te, .int .i64 nu] 29) = WA := ⟨_, rfl⟩
  rw [hWA] at HB4 HX4 HY4 HN4 ⊢
  have a0 : WA.cell? ⟨w4.heap.size, 0, none⟩ = some (.int .i64 co) := by rw [← hWA]; simp
  clear hWA
  have x0 := HX4.out.c 0 _ rfl
  have x1 := HX4.out.c 1 _ rfl
  have x2 := HX4.out.c 2 _ rfl
  have x3 := HX4.out.c 3 _ rfl
  have x4 := HX4.out.c 4 _ rfl
  have x5 := HX4.out.c 5 _ rfl
  have hxl := HX4.out.lt; have hyl := HY4.out.lt
  have HB8 := Lib.hid (show Below w.heap.size w ((WA.alloc (.cells #[.int .i64 3, .int .i64 de, .int .i64 0, .int .i64 bl, .int .i64 0, .string ⟨#[]⟩] 24)).alloc (.cells #[.int .i64 3, .int .i64 vo, .int .i64 0, .int .i64 bl, .int .i64 0, .string ⟨#[]⟩] 24)) from (HB4.out.alloc (by have := HB4.out.size; omega) _).alloc (by have := HB4.out.size; simp; omega) _)
  have h8 : Below WA.heap.size WA ((WA.alloc (.cells #[.int .i64 3, .int .i64 de, .int .i64 0, .int .i64 bl, .int .i64 0, .string ⟨#[]⟩] 24)).alloc (.cells #[.int .i64 3, .int .i64 vo, .int .i64 0, .int .i64 bl, .int .i64 0, .string ⟨#[]⟩] 24)) := ((Below.refl WA.heap.size WA).alloc (Nat.le_refl _) _).alloc (by simp) _
  have HX8 := Lib.hid (HX4.out.below h8); have HY8 := Lib.hid (HY4.out.below h8); have HN8 := Lib.hid (HN4.out.below h8)
  have HA8 := Lib.hid (show OBox WA.heap.size ⟨3, de, 0, bl, 0, ⟨#[]⟩⟩ ((WA.alloc (.cells #[.int .i64 3, .int .i64 de, .int .i64 0, .int .i64 bl, .int .i64 0, .string ⟨#[]⟩] 24)).alloc (.cells #[.int .i64 3, .int .i64 vo, .int .i64 0, .int .i64 bl, .int .i64 0, .string ⟨#[]⟩] 24)) from (OBox.new ⟨3, de, 0, bl, 0, ⟨#[]⟩⟩ _ rfl).below ((Below.refl _ _).alloc (Nat.le_refl _) _))
  have HO8 := Lib.hid (show OBox (WA.heap.size + 1) ⟨3, vo, 0, bl, 0, ⟨#[]⟩⟩ ((WA.alloc (.cells #[.int .i64 3, .int .i64 de, .int .i64 0, .int .i64 bl, .int .i64 0, .string ⟨#[]⟩] 24)).alloc (.cells #[.int .i64 3, .int .i64 vo, .int .i64 0, .int .i64 bl, .int .i64 0, .string ⟨#[]⟩] 24)) from OBox.new ⟨3, vo, 0, bl, 0, ⟨#[]⟩⟩ _ (by simp))
  clear h8
  go_wp2_with fail
  refine (lread3 N HMN.out de 0 bl 0 ⟨#[]⟩ _ _ HN8.out.reads (fun d hd => by have := HLN.out d hd; omega) (pow_stays HP.out HB8.out)).mono ?_
  rintro e w5 ⟨rfl, hb⟩
  rw [HRN.out]
  have HB5 := Lib.hid (btrans HB8.out hb); have HX5 := Lib.hid (HX8.out.below hb); have HY5 := Lib.hid (HY8.out.below hb); have HN5 := Lib.hid (HN8.out.below hb); have HA5 := Lib.hid (HA8.out.below hb); have HO5 := Lib.hid (HO8.out.below hb)
  clear hb
  clear x0 x1 x2 x3 x4 x5
  have x0 := HO5.out.c 0 _ rfl
  have x1 := HO5.out.c 1 _ rfl
  have x2 := HO5.out.c 2 _ rfl
  have x3 := HO5.out.c 3 _ rfl
  have x4 := HO5.out.c 4 _ rfl
  have x5 := HO5.out.c 5 _ rfl
  go_wp2_with fail
  refine (lread3 m HMP.out vo 0 bl 0 ⟨#[]⟩ _ _ (HM.out.stays HB5.out) HLM.out (pow_stays HP.out HB5.out)).mono ?_
  rintro e w6 ⟨rfl, hb⟩
  rw [HRM.out]
  have HB6 := Lib.hid (btrans HB5.out hb); have HX6 := Lib.hid (HX5.out.below hb); have HY6 := Lib.hid (HY5.out.below hb); have HN6 := Lib.hid (HN5.out.below hb); have HA6 := Lib.hid (HA5.out.below hb); have HO6 := Lib.hid (HO5.out.below hb)
  clear hb
  clear x0 x1 x2 x3 x4 x5
  have x0 := HX6.out.c 0 _ rfl
  have x1 := HX6.out.c 1 _ rfl
  have x2 := HX6.out.c 2 _ rfl
  have x3 := HX6.out.c 3 _ rfl
  have x4 := HX6.out.c 4 _ rfl
  have x5 := HX6.out.c 5 _ rfl
  have y0 := HY6.out.c 0 _ rfl
  have y1 := HY6.out.c 1 _ rfl
  have y2 := HY6.out.c 2 _ rfl
  have y3 := HY6.out.c 3 _ rfl
  have y4 := HY6.out.c 4 _ rfl
  have y5 := HY6.out.c 5 _ rfl
  have yf := HY6.out.f 1 (by decide)
  have h1l := HY6.out.lt
  have HY7 := Lib.hid (show OBox (w.heap.size + 1) ⟨yac, vo, yd, yb, yn, yt⟩ (w6.setCell ⟨w.heap.size + 1, 1, none⟩ (.int .i64 vo)) from HY6.out.set 1 (.int .i64 vo) rfl)
  have hc : (yac = 6 ∧ yd = de) ∨ yac = 0 ∨ ((yac == 6) = true ∧ (yd == de) = false ∧ (yac == 0) = false) ∨ ((yac == 6) = false ∧ (yac == 0) = false) := by
    by_cases h6 : yac = 6
    · by_cases hd : yd = de
      · exact .inl ⟨h6, hd⟩
      · subst h6; exact .inr (.inr (.inl ⟨by decide, by simpa using hd, by decide⟩))
    · by_cases h0 : yac = 0
      · exact .inr (.inl h0)
      · exact .inr (.inr (.inr ⟨by simpa using h6, by simpa using h0⟩))
  have HBE := Lib.hid (HB6.out.setCell (p := ⟨w.heap.size + 1, 1, none⟩) (Nat.le_succ _) (.int .i64 vo))
  have HN7 := Lib.hid (HN6.out.setBelow (show w.heap.size + 1 < w.heap.size + 2 by omega) (a := ⟨w.heap.size + 1, 1, none⟩) (.int .i64 vo))
  rcases hc with ⟨rfl, rfl⟩ | rfl | hc
  · go_wp2_with fail
    go_ret
    exact ⟨rfl, HBE.out⟩
  · go_wp2_with fail
    go_ret
    exact ⟨rfl, HBE.out⟩
  have hna : yac ≠ 0 ∧ ¬ (yac = 6 ∧ yd = de) := by
    rcases hc with ⟨h1, h2, h3⟩ | ⟨h1, h2⟩
    · exact ⟨by simpa using h3, fun h => by simp [h.2] at h2⟩
    · exact ⟨by simpa using h2, fun h => by simp [h.1] at h1⟩
  have hq1 := HLA.out yac yd yb yn yt hna.2
  have hq2 := HLB.out yac yd yb yn yt hna.1 hna.2
  have HMO := Lib.hid (doL_may HMN.out ⟨yac, vo, yd, yb, yn, yt⟩)
  have HLO := Lib.hid (doL_len HMN.out ⟨yac, vo, yd, yb, yn, yt⟩ 61 HLN.out)
  have HMV := Lib.hid (doL_may HMN.out ⟨yac, de, yd, yb, yn, yt⟩)
  have HLV := Lib.hid (doL_len HMN.out ⟨yac, de, yd, yb, yn, yt⟩ 61 HLN.out)
  have HRO := Lib.hid (show rd (doL N ⟨yac, vo, yd, yb, yn, yt⟩).1 de bl = (co0, t0) by show readC _ _ = _; rw [hq1]; exact HRN.out)
  have HRV := Lib.hid (show rd (doL N ⟨yac, de, yd, yb, yn, yt⟩).1 vo bl = (co0, t0) by show readC _ _ = _; rw [hq2]; exact HRM.out)
  clear hq1 hq2 hna
  obtain ⟨O, hO⟩ : ∃ O, (doL N ⟨yac, vo, yd, yb, yn, yt⟩).1 = O := ⟨_, rfl⟩
  obtain ⟨V, hV⟩ : ∃ V, (doL N ⟨yac, de, yd, yb, yn, yt⟩).1 = V := ⟨_, rfl⟩
  obtain ⟨⟨co1, te1, nu1⟩, ha1⟩ : ∃ a, (doL N ⟨yac, vo, yd, yb, yn, yt⟩).2 = a := ⟨_, rfl⟩
  obtain ⟨⟨co2, te2, nu2⟩, ha2⟩ : ∃ a, (doL N ⟨yac, de, yd, yb, yn, yt⟩).2 = a := ⟨_, rfl⟩
  rw [hO] at HMO HLO HRO
  rw [hV] at HMV HLV HRV
  have HO := Lib.hid hO; have HV := Lib.hid hV; have HE1 := Lib.hid ha1; have HE2 := Lib.hid ha2
  clear hO hV ha1 ha2
  rcases hc with ⟨k6, kd, k0⟩ | ⟨k6, k0⟩
  all_goals
    have HX7 := Lib.hid (HX6.out.far (show w.heap.size + 1 ≠ w.heap.size by omega) (p := ⟨w.heap.size + 1, 1, none⟩) (.int .i64 vo))
    have hane : w.heap.size + 1 ≠ WA.heap.size := by have := HX4.out.lt; have := HY4.out.lt; omega
    have hone : w.heap.size + 1 ≠ WA.heap.size + 1 := by have := HX4.out.lt; have := HY4.out.lt; omega
    have HA7 := Lib.hid (HA6.out.far hane (p := ⟨w.heap.size + 1, 1, none⟩) (.int .i64 vo))
    have HO7 := Lib.hid (HO6.out.far hone (p := ⟨w.heap.size + 1, 1, none⟩) (.int .i64 vo))
    go_wp2_with fail
    refine (do_any N ⟨yac, vo, yd, yb, yn, yt⟩ _ _ HN7.out.reads (mayLen HMN.out) (fun d hd => by have := HLN.out d hd; omega) (pow_stays HP.out HBE.out)).mono ?_
    rintro e w7 ⟨v7, rfl, hfin, hb⟩
    rw [HO.out] at hfin
    rw [HE1.out]
    have hal := btrans hb ((Below.refl w7.heap.size w7).alloc (Nat.le_refl _) (.cells #[.int .i64 co1, .string te1, .int .i64 nu1] 29))
    have HB9 := Lib.hid (btrans HBE.out hal); have HX9 := Lib.hid (HX7.out.below hal); have HY9 := Lib.hid (HY7.out.below hal); have HN9 := Lib.hid (HN7.out.below hal); have HA9 := Lib.hid (HA7.out.below hal); have HO9 := Lib.hid (HO7.out.below hal)
    have HR9 := Lib.hid (hfin.reads.stays ((Below.refl w7.heap.size w7).alloc (Nat.le_refl _) (.cells #[.int .i64 co1, .string te1, .int .i64 nu1] 29)))
    obtain ⟨p7, c7, rfl, _, _, _⟩ := hfin.reads
    clear hb hal hfin yf
    clear x0 x1 x2 x3 x4 x5
    clear y0 y1 y2 y3 y4 y5
    have x0 := HA9.out.c 0 _ rfl
    have x1 := HA9.out.c 1 _ rfl
    have x2 := HA9.out.c 2 _ rfl
    have x3 := HA9.out.c 3 _ rfl
    have x4 := HA9.out.c 4 _ rfl
    have x5 := HA9.out.c 5 _ rfl
    simp only [AnsM.agg]
    go_wp2_with fail
    refine (lread3 O HMO.out de 0 bl 0 ⟨#[]⟩ _ _ HR9.out (fun d hd => by have := HLO.out d hd; omega) (pow_stays HP.out HB9.out)).mono ?_
    rintro e w10 ⟨rfl, hb⟩
    rw [HRO.out]
    have HB10 := Lib.hid (btrans HB9.out hb); have HX10 := Lib.hid (HX9.out.below hb); have HY10 := Lib.hid (HY9.out.below hb); have HN10 := Lib.hid (HN9.out.below hb); have HA10 := Lib.hid (HA9.out.below hb); have HO10 := Lib.hid (HO9.out.below hb)
    clear hb
    clear x0 x1 x2 x3 x4 x5
    have x0 := HX10.out.c 0 _ rfl
    have x1 := HX10.out.c 1 _ rfl
    have x2 := HX10.out.c 2 _ rfl
    have x3 := HX10.out.c 3 _ rfl
    have x4 := HX10.out.c 4 _ rfl
    have x5 := HX10.out.c 5 _ rfl
    have y0 := HY10.out.c 0 _ rfl
    have y1 := HY10.out.c 1 _ rfl
    have y2 := HY10.out.c 2 _ rfl
    have y3 := HY10.out.c 3 _ rfl
    have y4 := HY10.out.c 4 _ rfl
    have y5 := HY10.out.c 5 _ rfl
    have yf := HY10.out.f 1 (by decide)
    have HY11 := Lib.hid (show OBox (w.heap.size + 1) ⟨yac, de, yd, yb, yn, yt⟩ (w10.setCell ⟨w.heap.size + 1, 1, none⟩ (.int .i64 de)) from HY10.out.set 1 (.int .i64 de) rfl)
    have HB11 := Lib.hid (HB10.out.setCell (p := ⟨w.heap.size + 1, 1, none⟩) (Nat.le_succ _) (.int .i64 de))
    have HN11 := Lib.hid (HN10.out.setBelow (show w.heap.size + 1 < w.heap.size + 2 by omega) (a := ⟨w.heap.size + 1, 1, none⟩) (.int .i64 de))
    have HO11 := Lib.hid (HO10.out.far hone (p := ⟨w.heap.size + 1, 1, none⟩) (.int .i64 de))
    go_wp2_with fail
    refine (do_any N ⟨yac, de, yd, yb, yn, yt⟩ _ _ HN11.out.reads (mayLen HMN.out) (fun d hd => by have := HLN.out d hd; omega) (pow_stays HP.out HB11.out)).mono ?_
    rintro e w12 ⟨v12, rfl, hfin, hb⟩
    rw [HV.out] at hfin
    rw [HE2.out]
    have hal := btrans hb ((Below.refl w12.heap.size w12).alloc (Nat.le_refl _) (.cells #[.int .i64 co2, .string te2, .int .i64 nu2] 29))
    have HB12 := Lib.hid (btrans HB11.out hal); have HO12 := Lib.hid (HO11.out.below hal)
    have HR12 := Lib.hid (hfin.reads.stays ((Below.refl w12.heap.size w12).alloc (Nat.le_refl _) (.cells #[.int .i64 co2, .string te2, .int .i64 nu2] 29)))
    obtain ⟨p12, c12, rfl, _, _, _⟩ := hfin.reads
    clear hb hal hfin yf
    clear x0 x1 x2 x3 x4 x5
    clear y0 y1 y2 y3 y4 y5
    have x0 := HO12.out.c 0 _ rfl
    have x1 := HO12.out.c 1 _ rfl
    have x2 := HO12.out.c 2 _ rfl
    have x3 := HO12.out.c 3 _ rfl
    have x4 := HO12.out.c 4 _ rfl
    have x5 := HO12.out.c 5 _ rfl
    simp only [AnsM.agg]
    go_wp2_with fail
    refine (lread3 V HMV.out vo 0 bl 0 ⟨#[]⟩ _ _ HR12.out (fun d hd => by have := HLV.out d hd; omega) (pow_stays HP.out HB12.out)).mono ?_
    rintro e w13 ⟨rfl, hb⟩
    rw [HRV.out]
    have HB13 := Lib.hid (btrans HB12.out hb)
    clear hb
    clear x0 x1 x2 x3 x4 x5
    go_wp2_with fail
    go_ret
    exact ⟨rfl, HB13.out⟩

set_option maxRecDepth 100000 in
theorem contract (H : Type) (enc : TypeId × Value → H) (W : World) (base : Nat) (args : Array Value) (ds gs : List (DataW H)) (before : List MemPlace)
    (hval : ∀ (j : Nat) t v, Tryd.f6.params[j]? = some t → args[j]? = some v → Value.okWide Tryd.prog W .any base t v)
    (hW : DataW.Whole enc Tryd.prog Tryd.f6.params.toList Rows.modelSnapsSpec.vars false W args.toList ds gs before) (hL : laidMetH Tryd.prog Rows.modelSnapsRow.laid W) :
    Calls Tryd.prog 6 args W fun e W' => ∃ v, e = .returned v ∧ Rows.modelSnapsSpec.post enc Tryd.prog Tryd.f6 false true false false W args v W' := by
  have hW' := hW
  obtain ⟨p, q, hA0, hV, rfl, hfz, hnd⟩ := hW
  have hA : DataW.TrodAll enc Tryd.prog W 0 (fun _ => true) true Tryd.f6.params.toList args.toList ds p := hA0
  rw [Tryd.params6] at hA hval
  obtain ⟨v0, vs0, d0, ds0, p0, q0, hargs, rfl, rfl, h0, r0⟩ := trodAll_cons hA
  obtain ⟨v1, vs1, d1, ds1, p1, q1, rfl, rfl, rfl, h1, r1⟩ := trodAll_cons r0
  obtain ⟨v2, vs2, d2, ds2, p2, q2, rfl, rfl, rfl, h2, r2⟩ := trodAll_cons r1
  obtain ⟨rfl, rfl, rfl⟩ := trodAll_nil r2
  obtain rfl : args = #[v0, v1, v2] := by cases args; simp_all
  obtain ⟨rfl, rfl⟩ := trodVars_none hV
  obtain ⟨a0, ha0⟩ := open_model (hval 0 22 v0 rfl rfl) h0
  obtain ⟨a1, rfl⟩ := open_op (hval 1 24 v1 rfl rfl) h1
  obtain ⟨a2, rfl⟩ := open_op (hval 2 24 v2 rfl rfl) h2
  clear hA0
  simp only [List.append_nil] at hW'
  refine (walk W (pow10_met hL) a0 v0 a1 a2 ha0  ).mono fun e W' ⟨he, hg⟩ => ?_
  subst he
  exact ⟨_, rfl, law_post laidOut (by rw [Tryd.params6]; intro t ht; simp only [List.mem_cons, List.not_mem_nil, or_false] at ht; rcases ht with rfl | rfl | rfl <;> exact ⟨by kernel_rfl, of_decide_eq_true (by kernel_rfl)⟩) rfl (show Tryd.f6.resultTypes = #[4] by kernel_rfl) Tryd.underlying4 hW' hg rfl⟩
theorem reads (os : Os) {H : Type} (enc : TypeId × Value → H) : ∃ places, DataW.whole enc Tryd.prog ((laidWorld os).forCall (fun _ _ => 0) ⟨#[], (#[.slice none 0 0, .agg #[.int .i64 0, .int .i64 0, .int .i64 0, .int .i64 0, .int .i64 0, .string ⟨#[]⟩], .agg #[.int .i64 0, .int .i64 0, .int .i64 0, .int .i64 0, .int .i64 0, .string ⟨#[]⟩]] : Array Value), []⟩).memory Tryd.f6.params.toList Rows.modelSnapsSpec.vars false (#[.slice none 0 0, .agg #[.int .i64 0, .int .i64 0, .int .i64 0, .int .i64 0, .int .i64 0, .string ⟨#[]⟩], .agg #[.int .i64 0, .int .i64 0, .int .i64 0, .int .i64 0, .int .i64 0, .string ⟨#[]⟩]] : Array Value).toList 8 = some ([.nil, .agg [.lit (.int .i64 0), .lit (.int .i64 0), .lit (.int .i64 0), .lit (.int .i64 0), .lit (.int .i64 0), .lit (.string [])], .agg [.lit (.int .i64 0), .lit (.int .i64 0), .lit (.int .i64 0), .lit (.int .i64 0), .lit (.int .i64 0), .lit (.string [])]], [], places) :=
  ⟨[], by kernel_rfl⟩

set_option maxRecDepth 100000 in
theorem lifted (os : Os) (started : os.Started) (H : Type) (enc : TypeId × Value → H) (F : Stop.Interp) :
    ReturnsInHanded {} Tryd.checked os 6 .any ((OpenSpec.ofChange Rows.modelSnapsSpec).preRow enc Tryd.prog Tryd.f6 Rows.modelSnapsRow.domain false Rows.modelSnapsRow.laid) (((OpenSpec.ofChange Rows.modelSnapsSpec).at F).post enc Tryd.prog Tryd.f6 false true false false) := by
  obtain ⟨places, hx⟩ := reads os enc
  refine returnsInHanded_of_row (C := Tryd.checked) (s := OpenSpec.ofChange Rows.modelSnapsSpec) own started (by kernel_rfl) Tryd.func6
    (witness_row_at (enc := enc) (C := Tryd.checked) false (laidWorld os) #[.slice none 0 0, .agg #[.int .i64 0, .int .i64 0, .int .i64 0, .int .i64 0, .int .i64 0, .string ⟨#[]⟩], .agg #[.int .i64 0, .int .i64 0, .int .i64 0, .int .i64 0, .int .i64 0, .string ⟨#[]⟩]] rfl (by kernel_rfl) (by kernel_rfl) (by kernel_rfl)
      (OpenSpec.preRow_of_cond 8 hx (by kernel_rfl) (fun k hk => by cases hk) (by kernel_rfl) (laid_met os _))) ?_
  intro W base args ds gs before hval hW _ _ _ hL _ _
  exact contract H enc W base args ds gs before hval hW hL

theorem said : Rows.ModelSnapsSaid :=
  OpenClaim.holds_of_cond 6 Tryd.f6 rfl rfl rfl rfl rfl rfl rfl ⟨rfl, rfl, rfl, rfl, rfl⟩ rfl rfl rfl rfl rfl (by kernel_rfl) Tryd.func6 (by kernel_rfl)
    (of_decide_eq_true (by kernel_rfl)) (by unfold Func.isWrapper; first | (rw [if_pos (by decide +kernel)]; kernel_rfl) | (rw [if_neg (by decide +kernel)]; exact ⟨rfl, rfl⟩))
    (fun os started H enc _ F => by rw [OpenClaim.pre_eq_preRow]; exact lifted os started H enc F)

theorem plain (f : FuncId) (fn : Func) (hf : Tryd.pinned.checked.prog.funcNamed Rows.modelSnapsRow.func = some f) (hfn : Tryd.pinned.checked.prog.funcs[f]? = some fn) :
    false = Tryd.pinned.checked.prog.looks [] ∧ ∀ (j : Nat) t, fn.params[j]? = some t → Tryd.pinned.checked.prog.wantsStandIn t = false := by
  obtain rfl : f = 6 := Option.some.inj ((show Tryd.prog.funcNamed Rows.modelSnapsRow.func = some 6 by kernel_rfl).symm.trans hf) |>.symm
  obtain rfl : fn = Tryd.f6 := (Option.some.inj (Tryd.func6.symm.trans hfn)).symm
  refine ⟨by kernel_rfl, fun j t ht => ?_⟩
  rw [Tryd.params6] at ht
  have hm := Array.mem_of_getElem? ht
  simp only [List.mem_toArray, List.mem_cons, List.not_mem_nil, or_false] at hm
  rcases hm with rfl | rfl | rfl
  · exact (show Tryd.prog.wantsStandIn 22 = false by kernel_rfl)
  · exact (show Tryd.prog.wantsStandIn 24 = false by kernel_rfl)
  · exact (show Tryd.prog.wantsStandIn 24 = false by kernel_rfl)

theorem card : Rows.ModelSnapsCardSaid :=
  Claim7.holds_tied_plain_at .later [] _ _ _ _ said (fun _ h => by cases h) (by kernel_rfl) (fun _ h => by cases h) modelSnaps_row_tie rfl ⟨rfl, rfl⟩ (by kernel_rfl) rfl plain (by kernel_rfl)
end Go.Proofs.YtgabifkechofnaaDoor.modelSnaps
