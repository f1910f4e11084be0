/- ModelReads: what is written is read, and every other block of every volume reads as it did; a block that is discarded reads as bytes 0, and no other one is changed by that: the law returns true for every input. Condition: the listed tables lie as the program's text lays them (the card ties that). -/
import Derived.Test.YtgabifkechofnaaDoorModLD
import Derived.Test.YtgabifkechofnaaDoorLaidM
namespace Go.Proofs.YtgabifkechofnaaDoor.modelReads
open Go.Stop Go.ChangeShapes Go.WideShapes Go.ChangeAt Go.RowKit
open Go.ChangeMaps (open_string)

set_option maxRecDepth 100000 in
set_option maxHeartbeats 16000000 in
theorem walk (w : World) (hp : Pow10 w) (m : List VolD) (v : Value) (x : OpD) (y : OpD) (hm : ModelAt w v m) :
    Calls Tryd.prog 5 #[v, x.agg, y.agg] w fun e w' => e = .returned (.bool true) ∧ Below w.heap.size w w' := by
  obtain ⟨ac, vo, de, bl, nn, tx⟩ := x
  obtain ⟨yac, yv, yd, yb, yn, yt⟩ := y
  have HBX := Lib.hid (show Below w.heap.size w ((w.alloc (.cells #[.int .i64 ac, .int .i64 vo, .int .i64 de, .int .i64 bl, .int .i64 nn, .string tx] 24)).alloc (.cells #[.int .i64 yac, .int .i64 yv, .int .i64 yd, .int .i64 yb, .int .i64 yn, .string yt] 24)) from ((Below.refl w.heap.size w).alloc (Nat.le_refl _) _).alloc (by simp) _)
  have HXB := Lib.hid (show OBox w.heap.size ⟨ac, vo, de, bl, nn, tx⟩ ((w.alloc (.cells #[.int .i64 ac, .int .i64 vo, .int .i64 de, .int .i64 bl, .int .i64 nn, .string tx] 24)).alloc (.cells #[.int .i64 yac, .int .i64 yv, .int .i64 yd, .int .i64 yb, .int .i64 yn, .string yt] 24)) from (OBox.new ⟨ac, vo, de, bl, nn, tx⟩ _ rfl).below ((Below.refl _ _).alloc (Nat.le_refl _) _))
  have HYB := Lib.hid (show OBox (w.heap.size + 1) ⟨yac, yv, yd, yb, yn, yt⟩ ((w.alloc (.cells #[.int .i64 ac, .int .i64 vo, .int .i64 de, .int .i64 bl, .int .i64 nn, .string tx] 24)).alloc (.cells #[.int .i64 yac, .int .i64 yv, .int .i64 yd, .int .i64 yb, .int .i64 yn, .string yt] 24)) from OBox.new ⟨yac, yv, yd, yb, yn, yt⟩ _ (by simp))
  have HM := Lib.hid hm; have HP := Lib.hid hp
  obtain ⟨p, c, rfl, _, _, _⟩ := hm
  clear hp
  simp only [OpD.agg]
  by_cases hs : smallB m = true
  case neg =>
    have HS := Lib.hid (show smallB m = false by simpa using hs); clear hs
    go_enter Tryd.func5, Tryd.ntmps5
    go_wp2_with fail
    refine (fixed_any _ (pow_stays HP.out HBX.out)).mono ?_
    rintro e w1 ⟨rfl, hb⟩
    have HB1 := Lib.hid (btrans HBX.out hb); have HX1 := Lib.hid (HXB.out.below hb); have HY1 := Lib.hid (HYB.out.below hb); clear hb
    go_wp2_with fail
    refine (small_any m _ _ (HM.out.stays HB1.out)).mono ?_
    rintro e _ ⟨rfl, rfl⟩
    rw [HS.out]
    go_wp2_with fail
    refine (fixed_any _ (pow_stays HP.out HB1.out)).mono ?_
    rintro e w2 ⟨rfl, hb⟩
    have HB2 := Lib.hid (btrans HB1.out hb); clear hb
    go_wp2_with fail
    go_ret
    exact ⟨rfl, HB2.out⟩
  have HS := Lib.hid hs; clear hs
  by_cases hy : mayL m = true
  case neg =>
    have HY := Lib.hid (show mayL m = false by simpa using hy); clear hy
    go_enter Tryd.func5, Tryd.ntmps5
    go_wp2_with fail
    refine (fixed_any _ (pow_stays HP.out HBX.out)).mono ?_
    rintro e w1 ⟨rfl, hb⟩
    have HB1 := Lib.hid (btrans HBX.out hb); have HX1 := Lib.hid (HXB.out.below hb); have HY1 := Lib.hid (HYB.out.below hb); clear hb
    go_wp2_with fail
    refine (small_any m _ _ (HM.out.stays HB1.out)).mono ?_
    rintro e _ ⟨rfl, rfl⟩
    rw [HS.out]
    go_wp2_with fail
    refine (rmay_any m _ _ (HM.out.stays HB1.out)).mono ?_
    rintro e w3 ⟨rfl, hb⟩
    rw [HY.out]
    have HB3 := Lib.hid (btrans HB1.out hb); have HX3 := Lib.hid (HX1.out.below hb); have HY3 := Lib.hid (HY1.out.below hb); clear hb
    go_wp2_with fail
    refine (fixed_any _ (pow_stays HP.out HB3.out)).mono ?_
    rintro e w2 ⟨rfl, hb⟩
    have HB2 := Lib.hid (btrans HB3.out hb); clear hb
    go_wp2_with fail
    go_ret
    exact ⟨rfl, HB2.out⟩
  have HY := Lib.hid hy
  have HMP := Lib.hid ((may_iff m).1 hy); clear hy
  have HL60 := Lib.hid (smallP HS.out).2
  have HLM := Lib.hid (show ∀ d ∈ m, d.blocks.length ≤ 50000 from fun d hd => by have := HL60.out d hd; omega)
  go_enter Tryd.func5, Tryd.ntmps5
  go_wp2_with fail
  refine (fixed_any _ (pow_stays HP.out HBX.out)).mono ?_
  rintro e w1 ⟨rfl, hb⟩
  have HB1 := Lib.hid (btrans HBX.out hb); have HX1 := Lib.hid (HXB.out.below hb); have HY1 := Lib.hid (HYB.out.below hb); clear hb
  go_wp2_with fail
  refine (small_any m _ _ (HM.out.stays HB1.out)).mono ?_
  rintro e _ ⟨rfl, rfl⟩
  rw [HS.out]
  go_wp2_with fail
  refine (rmay_any m _ _ (HM.out.stays HB1.out)).mono ?_
  rintro e w3 ⟨rfl, hb⟩
  rw [HY.out]
  have HB3 := Lib.hid (btrans HB1.out hb); have HX3 := Lib.hid (HX1.out.below hb); have HY3 := Lib.hid (HY1.out.below hb); clear hb
  have HX0 := Lib.hid (show OBox w.heap.size ⟨4, vo, de, bl, nn, tx⟩ ((w3.setCell ⟨w.heap.size, 0, none⟩ (.int .i64 4)).setCell ⟨w.heap.size + 1, 0, none⟩ (.int .i64 3)) from (HX3.out.set 0 (.int .i64 4) rfl).far (show w.heap.size + 1 ≠ w.heap.size by omega) _)
  have HY0 := Lib.hid (show OBox (w.heap.size + 1) ⟨3, yv, yd, yb, yn, yt⟩ ((w3.setCell ⟨w.heap.size, 0, none⟩ (.int .i64 4)).setCell ⟨w.heap.size + 1, 0, none⟩ (.int .i64 3)) from (HY3.out.far (show w.heap.size ≠ w.heap.size + 1 by omega) _).set 0 (.int .i64 3) rfl)
  have HB0 := Lib.hid (show Below w.heap.size w ((w3.setCell ⟨w.heap.size, 0, none⟩ (.int .i64 4)).setCell ⟨w.heap.size + 1, 0, none⟩ (.int .i64 3)) from (HB3.out.setCell (p := ⟨w.heap.size, 0, none⟩) (Nat.le_refl _) _).setCell (p := ⟨w.heap.size + 1, 0, none⟩) (Nat.le_succ _) _)
  have x0 := HX3.out.c 0 _ rfl
  have x1 := HX3.out.c 1 _ rfl
  have x2 := HX3.out.c 2 _ rfl
  have x3 := HX3.out.c 3 _ rfl
  have x4 := HX3.out.c 4 _ rfl
  have x5 := HX3.out.c 5 _ rfl
  have y0 := HY3.out.c 0 _ rfl
  have y1 := HY3.out.c 1 _ rfl
  have y2 := HY3.out.c 2 _ rfl
  have y3 := HY3.out.c 3 _ rfl
  have y4 := HY3.out.c 4 _ rfl
  have y5 := HY3.out.c 5 _ rfl
  have xf := HX3.out.f 0 (by decide)
  have yf := HY3.out.f 0 (by decide)
  go_wp2_with fail
  refine (lread3 m HMP.out yv yd yb yn yt _ _ (HM.out.stays HB0.out) HLM.out (pow_stays HP.out HB0.out)).mono ?_
  rintro e w4 ⟨rfl, hb⟩
  obtain ⟨⟨co0, t0⟩, hr⟩ : ∃ r, rd m yv yb = r := ⟨_, rfl⟩
  rw [hr]
  have HR := Lib.hid hr; clear hr
  have HB4 := Lib.hid (btrans HB0.out hb); have HX4 := Lib.hid (HX0.out.below hb); have HY4 := Lib.hid (HY0.out.below hb)
  clear hb xf yf
  clear x0 x1 x2 x3 x4 x5
  clear y0 y1 y2 y3 y4 y5
  have x0 := HX4.out.c 0 _ rfl
  have x1 := HX4.out.c 1 _ rfl
  have x2 := HX4.out.c 2 _ rfl
  have x3 := HX4.out.c 3 _ rfl
  have x4 := HX4.out.c 4 _ rfl
  have x5 := HX4.out.c 5 _ rfl
  go_wp2_with fail
  refine (do_any m ⟨4, vo, de, bl, nn, tx⟩ _ _ (HM.out.stays HB4.out) (mayLen HMP.out) HLM.out (pow_stays HP.out HB4.out)).mono ?_
  rintro e w5 ⟨v5, rfl, hfin, hb⟩
  have hcode := doL_code HMP.out ⟨4, vo, de, bl, nn, tx⟩
  obtain ⟨⟨co, te, nu⟩, ha⟩ : ∃ a, (doL m ⟨4, vo, de, bl, nn, tx⟩).2 = a := ⟨_, rfl⟩
  rw [ha] at hcode ⊢
  have hal := (Below.refl w5.heap.size w5).alloc (Nat.le_refl _) (.cells #[.int .i64 co, .string te, .int .i64 nu] 29)
  have HB5 := Lib.hid (btrans (btrans HB4.out hb) hal); have HX5 := Lib.hid ((HX4.out.below hb).below hal); have HY5 := Lib.hid ((HY4.out.below hb).below hal)
  have HN5 := Lib.hid (hfin.reads.stays hal)
  obtain ⟨p5, c5, rfl, _, _, _⟩ := hfin.reads
  clear hb hal hfin ha
  clear x0 x1 x2 x3 x4 x5
  simp only [AnsM.agg]
  by_cases hco : co = 0
  case neg =>
    have hb0 : (co != 0) = true := by simpa using hco
    clear hco hcode
    go_wp2_with fail
    go_ret
    exact ⟨rfl, HB5.out⟩
  have hb0 : (co != 0) = false := by simpa using hco
  have hlaw := reads_law HMP.out vo de bl nn yv yb tx (by rw [← hcode]; exact hco)
  clear hco hcode
  have HMN := Lib.hid (doL_may HMP.out ⟨4, vo, de, bl, nn, tx⟩)
  have HLN := Lib.hid (doL_len HMP.out ⟨4, vo, de, bl, nn, tx⟩ 60 HL60.out)
  obtain ⟨N, hN⟩ : ∃ N, (doL m ⟨4, vo, de, bl, nn, tx⟩).1 = N := ⟨_, rfl⟩
  simp only [hN] at hlaw HMN HLN HN5 ⊢
  have HMO := Lib.hid (doL_may HMN.out ⟨5, vo, 0, bl, 1, ⟨#[]⟩⟩)
  have HLO := Lib.hid (doL_len HMN.out ⟨5, vo, 0, bl, 1, ⟨#[]⟩⟩ 61 HLN.out)
  obtain ⟨O, hO⟩ : ∃ O, (doL N ⟨5, vo, 0, bl, 1, ⟨#[]⟩⟩).1 = O := ⟨_, rfl⟩
  obtain ⟨⟨co5, te5, nu5⟩, ha5⟩ : ∃ a, (doL N ⟨5, vo, 0, bl, 1, ⟨#[]⟩⟩).2 = a := ⟨_, rfl⟩
  rw [hO, ha5] at hlaw
  rw [hO] at HMO HLO
  have HO := Lib.hid hO; have HA5 := Lib.hid ha5
  clear hN hO ha5
  obtain ⟨l1, l2, l3, l4, l5, l6, l7⟩ := hlaw
  have hc5 : co5 = 0 := l4
  subst hc5
  rw [HR.out] at l1 l3
  have hcase : ∃ tN tO, rd N yv yb = (co0, tN) ∧ rd O yv yb = (co0, tO) ∧ ((vo = yv ∧ bl = yb ∧ tN = tx ∧ tO = blankB) ∨ ((vo == yv) = false ∧ tN = t0 ∧ tO = t0) ∨ ((vo == yv) = true ∧ (bl == yb) = false ∧ tN = t0 ∧ tO = t0)) := by
    have e1 : (rd N yv yb).1 = co0 := l1.symm
    have e2 : (rd O yv yb).1 = co0 := l5.trans e1
    refine ⟨(rd N yv yb).2, (rd O yv yb).2, Prod.ext e1 rfl, Prod.ext e2 rfl, ?_⟩
    by_cases h1 : vo = yv
    · by_cases h2 : bl = yb
      · exact .inl ⟨h1, h2, l2 ⟨h1, h2⟩, l6 ⟨h1, h2⟩⟩
      · have hn := fun h : vo = yv ∧ bl = yb => h2 h.2
        exact .inr (.inr ⟨by simpa using h1, by simpa using h2, l3 hn, (l7 hn).trans (l3 hn)⟩)
    · have hn := fun h : vo = yv ∧ bl = yb => h1 h.1
      exact .inr (.inl ⟨by simpa using h1, l3 hn, (l7 hn).trans (l3 hn)⟩)
  clear l1 l2 l3 l4 l5 l6 l7
  obtain ⟨tN, tO, hrN, hrO, hcase⟩ := hcase
  have HRN := Lib.hid hrN; have HRO := Lib.hid hrO; clear hrN hrO
  rcases hcase with ⟨rfl, rfl, rfl, rfl⟩ | ⟨hv, rfl, rfl⟩ | ⟨hv, hv2, rfl, rfl⟩
  all_goals
    have y0 := HY5.out.c 0 _ rfl
    have y1 := HY5.out.c 1 _ rfl
    have y2 := HY5.out.c 2 _ rfl
    have y3 := HY5.out.c 3 _ rfl
    have y4 := HY5.out.c 4 _ rfl
    have y5 := HY5.out.c 5 _ rfl
    go_wp2_with fail
    refine (lread3 N HMN.out _ yd _ yn yt _ _ HN5.out (fun d hd => by have := HLN.out d hd; omega) (pow_stays HP.out HB5.out)).mono ?_
    rintro e w6 ⟨rfl, hb⟩
    rw [HRN.out]
    have HB6 := Lib.hid (btrans HB5.out hb); have HX6 := Lib.hid (HX5.out.below hb); have HY6 := Lib.hid (HY5.out.below hb); have HN6 := Lib.hid (HN5.out.stays hb)
    clear hb
    clear y0 y1 y2 y3 y4 y5
    have x0 := HX6.out.c 0 _ rfl
    have x1 := HX6.out.c 1 _ rfl
    have x2 := HX6.out.c 2 _ rfl
    have x3 := HX6.out.c 3 _ rfl
    have x4 := HX6.out.c 4 _ rfl
    have x5 := HX6.out.c 5 _ rfl
    have y0 := HY6.out.c 0 _ rfl
    have y1 := HY6.out.c 1 _ rfl
    have y2 := HY6.out.c 2 _ rfl
    have y3 := HY6.out.c 3 _ rfl
    have y4 := HY6.out.c 4 _ rfl
    have y5 := HY6.out.c 5 _ rfl
    go_wp2_with fail
    refine (do_any N ⟨5, _, 0, _, 1, ⟨#[]⟩⟩ _ _ HN6.out (mayLen HMN.out) (fun d hd => by have := HLN.out d hd; omega) (pow_stays HP.out HB6.out)).mono ?_
    rintro e w7 ⟨v7, rfl, hfin, hb⟩
    rw [HO.out] at hfin
    rw [HA5.out]
    have hal := (Below.refl w7.heap.size w7).alloc (Nat.le_refl _) (.cells #[.int .i64 0, .string te5, .int .i64 nu5] 29)
    have HB7 := Lib.hid (btrans (btrans HB6.out hb) hal); have HY7 := Lib.hid ((HY6.out.below hb).below hal)
    have HO7 := Lib.hid (hfin.reads.stays hal)
    obtain ⟨p7, c7, rfl, _, _, _⟩ := hfin.reads
    clear hb hal hfin
    clear x0 x1 x2 x3 x4 x5
    clear y0 y1 y2 y3 y4 y5
    have y0 := HY7.out.c 0 _ rfl
    have y1 := HY7.out.c 1 _ rfl
    have y2 := HY7.out.c 2 _ rfl
    have y3 := HY7.out.c 3 _ rfl
    have y4 := HY7.out.c 4 _ rfl
    have y5 := HY7.out.c 5 _ rfl
    simp only [AnsM.agg]
    go_wp2_with fail
    refine (lread3 O HMO.out _ yd _ yn yt _ _ HO7.out (fun d hd => by have := HLO.out d hd; omega) (pow_stays HP.out HB7.out)).mono ?_
    rintro e w8 ⟨rfl, hb⟩
    rw [HRO.out]
    have a0 : w8.cell? ⟨w7.heap.size, 0, none⟩ = some (.int .i64 0) := cell_stays hb (by simp)
    have HB8 := Lib.hid (btrans HB7.out hb); clear hb
    clear y0 y1 y2 y3 y4 y5
    obtain ⟨W9, hmk, hcv, hb9⟩ := blank_make w8
    have HB9 := Lib.hid (btrans HB8.out hb9); clear hb9
    go_wp2_with fail
    go_ret
    first | exact ⟨rfl, HB8.out⟩ | exact ⟨rfl, HB9.out⟩

set_option maxRecDepth 100000 in
theorem contract (H : Type) (enc : TypeId × Value → H) (W : World) (base : Nat) (args : Array Value) (ds gs : List (DataW H)) (before : List MemPlace)
    (hval : ∀ (j : Nat) t v, Tryd.f5.params[j]? = some t → args[j]? = some v → Value.okWide Tryd.prog W .any base t v)
    (hW : DataW.Whole enc Tryd.prog Tryd.f5.params.toList Rows.modelReadsSpec.vars false W args.toList ds gs before) (hL : laidMetH Tryd.prog Rows.modelReadsRow.laid W) :
    Calls Tryd.prog 5 args W fun e W' => ∃ v, e = .returned v ∧ Rows.modelReadsSpec.post enc Tryd.prog Tryd.f5 false true false false W args v W' := by
  have hW' := hW
  obtain ⟨p, q, hA0, hV, rfl, hfz, hnd⟩ := hW
  have hA : DataW.TrodAll enc Tryd.prog W 0 (fun _ => true) true Tryd.f5.params.toList args.toList ds p := hA0
  rw [Tryd.params5] at hA hval
  obtain ⟨v0, vs0, d0, ds0, p0, q0, hargs, rfl, rfl, h0, r0⟩ := trodAll_cons hA
  obtain ⟨v1, vs1, d1, ds1, p1, q1, rfl, rfl, rfl, h1, r1⟩ := trodAll_cons r0
  obtain ⟨v2, vs2, d2, ds2, p2, q2, rfl, rfl, rfl, h2, r2⟩ := trodAll_cons r1
  obtain ⟨rfl, rfl, rfl⟩ := trodAll_nil r2
  obtain rfl : args = #[v0, v1, v2] := by cases args; simp_all
  obtain ⟨rfl, rfl⟩ := trodVars_none hV
  obtain ⟨a0, ha0⟩ := open_model (hval 0 22 v0 rfl rfl) h0
  obtain ⟨a1, rfl⟩ := open_op (hval 1 24 v1 rfl rfl) h1
  obtain ⟨a2, rfl⟩ := open_op (hval 2 24 v2 rfl rfl) h2
  clear hA0
  simp only [List.append_nil] at hW'
  refine (walk W (pow10_met hL) a0 v0 a1 a2 ha0  ).mono fun e W' ⟨he, hg⟩ => ?_
  subst he
  exact ⟨_, rfl, law_post laidOut (by rw [Tryd.params5]; intro t ht; simp only [List.mem_cons, List.not_mem_nil, or_false] at ht; rcases ht with rfl | rfl | rfl <;> exact ⟨by kernel_rfl, of_decide_eq_true (by kernel_rfl)⟩) rfl (show Tryd.f5.resultTypes = #[4] by kernel_rfl) Tryd.underlying4 hW' hg rfl⟩
theorem reads (os : Os) {H : Type} (enc : TypeId × Value → H) : ∃ places, DataW.whole enc Tryd.prog ((laidWorld os).forCall (fun _ _ => 0) ⟨#[], (#[.slice none 0 0, .agg #[.int .i64 0, .int .i64 0, .int .i64 0, .int .i64 0, .int .i64 0, .string ⟨#[]⟩], .agg #[.int .i64 0, .int .i64 0, .int .i64 0, .int .i64 0, .int .i64 0, .string ⟨#[]⟩]] : Array Value), []⟩).memory Tryd.f5.params.toList Rows.modelReadsSpec.vars false (#[.slice none 0 0, .agg #[.int .i64 0, .int .i64 0, .int .i64 0, .int .i64 0, .int .i64 0, .string ⟨#[]⟩], .agg #[.int .i64 0, .int .i64 0, .int .i64 0, .int .i64 0, .int .i64 0, .string ⟨#[]⟩]] : Array Value).toList 8 = some ([.nil, .agg [.lit (.int .i64 0), .lit (.int .i64 0), .lit (.int .i64 0), .lit (.int .i64 0), .lit (.int .i64 0), .lit (.string [])], .agg [.lit (.int .i64 0), .lit (.int .i64 0), .lit (.int .i64 0), .lit (.int .i64 0), .lit (.int .i64 0), .lit (.string [])]], [], places) :=
  ⟨[], by kernel_rfl⟩

set_option maxRecDepth 100000 in
theorem lifted (os : Os) (started : os.Started) (H : Type) (enc : TypeId × Value → H) (F : Stop.Interp) :
    ReturnsInHanded {} Tryd.checked os 5 .any ((OpenSpec.ofChange Rows.modelReadsSpec).preRow enc Tryd.prog Tryd.f5 Rows.modelReadsRow.domain false Rows.modelReadsRow.laid) (((OpenSpec.ofChange Rows.modelReadsSpec).at F).post enc Tryd.prog Tryd.f5 false true false false) := by
  obtain ⟨places, hx⟩ := reads os enc
  refine returnsInHanded_of_row (C := Tryd.checked) (s := OpenSpec.ofChange Rows.modelReadsSpec) own started (by kernel_rfl) Tryd.func5
    (witness_row_at (enc := enc) (C := Tryd.checked) false (laidWorld os) #[.slice none 0 0, .agg #[.int .i64 0, .int .i64 0, .int .i64 0, .int .i64 0, .int .i64 0, .string ⟨#[]⟩], .agg #[.int .i64 0, .int .i64 0, .int .i64 0, .int .i64 0, .int .i64 0, .string ⟨#[]⟩]] rfl (by kernel_rfl) (by kernel_rfl) (by kernel_rfl)
      (OpenSpec.preRow_of_cond 8 hx (by kernel_rfl) (fun k hk => by cases hk) (by kernel_rfl) (laid_met os _))) ?_
  intro W base args ds gs before hval hW _ _ _ hL _ _
  exact contract H enc W base args ds gs before hval hW hL

theorem said : Rows.ModelReadsSaid :=
  OpenClaim.holds_of_cond 5 Tryd.f5 rfl rfl rfl rfl rfl rfl rfl ⟨rfl, rfl, rfl, rfl, rfl⟩ rfl rfl rfl rfl rfl (by kernel_rfl) Tryd.func5 (by kernel_rfl)
    (of_decide_eq_true (by kernel_rfl)) (by unfold Func.isWrapper; first | (rw [if_pos (by decide +kernel)]; kernel_rfl) | (rw [if_neg (by decide +kernel)]; exact ⟨rfl, rfl⟩))
    (fun os started H enc _ F => by rw [OpenClaim.pre_eq_preRow]; exact lifted os started H enc F)

theorem plain (f : FuncId) (fn : Func) (hf : Tryd.pinned.checked.prog.funcNamed Rows.modelReadsRow.func = some f) (hfn : Tryd.pinned.checked.prog.funcs[f]? = some fn) :
    false = Tryd.pinned.checked.prog.looks [] ∧ ∀ (j : Nat) t, fn.params[j]? = some t → Tryd.pinned.checked.prog.wantsStandIn t = false := by
  obtain rfl : f = 5 := Option.some.inj ((show Tryd.prog.funcNamed Rows.modelReadsRow.func = some 5 by kernel_rfl).symm.trans hf) |>.symm
  obtain rfl : fn = Tryd.f5 := (Option.some.inj (Tryd.func5.symm.trans hfn)).symm
  refine ⟨by kernel_rfl, fun j t ht => ?_⟩
  rw [Tryd.params5] at ht
  have hm := Array.mem_of_getElem? ht
  simp only [List.mem_toArray, List.mem_cons, List.not_mem_nil, or_false] at hm
  rcases hm with rfl | rfl | rfl
  · exact (show Tryd.prog.wantsStandIn 22 = false by kernel_rfl)
  · exact (show Tryd.prog.wantsStandIn 24 = false by kernel_rfl)
  · exact (show Tryd.prog.wantsStandIn 24 = false by kernel_rfl)

theorem card : Rows.ModelReadsCardSaid :=
  Claim7.holds_tied_plain_at .later [] _ _ _ _ said (fun _ h => by cases h) (by kernel_rfl) (fun _ h => by cases h) modelReads_row_tie rfl ⟨rfl, rfl⟩ (by kernel_rfl) rfl plain (by kernel_rfl)
end Go.Proofs.YtgabifkechofnaaDoor.modelReads
