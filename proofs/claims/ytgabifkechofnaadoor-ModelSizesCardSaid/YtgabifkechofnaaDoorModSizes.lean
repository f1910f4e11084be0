/- ModelSizes: a volume that is made larger, and as it was, reads as it did; made smaller it has lost just what was cut off: the law returns true for every input. Condition: the listed tables lie as the program's text lays them (the card ties that). -/
import Derived.Test.YtgabifkechofnaaDoorModLD
import Derived.Test.YtgabifkechofnaaDoorLaidM
namespace Go.Proofs.YtgabifkechofnaaDoor.modelSizes
open Go.Stop Go.ChangeShapes Go.WideShapes Go.ChangeAt Go.RowKit
open Go.ChangeMaps (open_string)

set_option maxRecDepth 100000 in
set_option maxHeartbeats 16000000 in
theorem walk (w : World) (hp : Pow10 w) (m : List VolD) (v : Value) (x : OpD) (at_ : Int) (hm : ModelAt w v m) (_h1 : -9223372036854775808 ≤ at_) (_h2 : at_ ≤ 9223372036854775807) :
    Calls Tryd.prog 7 #[v, x.agg, .int .i64 at_] w fun e w' => e = .returned (.bool true) ∧ Below w.heap.size w w' := by
  obtain ⟨ac, vo, de, bl, nn, tx⟩ := x
  have HBX := Lib.hid (show Below w.heap.size w (w.alloc (.cells #[.int .i64 ac, .int .i64 vo, .int .i64 de, .int .i64 bl, .int .i64 nn, .string tx] 24)) from (Below.refl w.heap.size w).alloc (Nat.le_refl _) _)
  have HXB := Lib.hid (show OBox w.heap.size ⟨ac, vo, de, bl, nn, tx⟩ (w.alloc (.cells #[.int .i64 ac, .int .i64 vo, .int .i64 de, .int .i64 bl, .int .i64 nn, .string tx] 24)) from OBox.new ⟨ac, vo, de, bl, nn, tx⟩ _ rfl)
  have HM := Lib.hid hm; have HP := Lib.hid hp
  obtain ⟨p, c, rfl, _, _, _⟩ := hm
  clear hp
  simp only [OpD.agg]
  by_cases hs : smallB m = true
  case neg =>
    have HS := Lib.hid (show smallB m = false by simpa using hs); clear hs
    go_enter Tryd.func7, Tryd.ntmps7
    go_wp2_with fail
    refine (rfind_any m vo _ _ (HM.out.stays HBX.out)).mono ?_
    rintro e _ ⟨rfl, rfl⟩
    go_wp2_with fail
    refine (fixed_any _ (pow_stays HP.out HBX.out)).mono ?_
    rintro e w1 ⟨rfl, hb⟩
    have HB1 := Lib.hid (btrans HBX.out hb); have HX1 := Lib.hid (HXB.out.below hb); clear hb
    go_wp2_with fail
    refine (small_any m _ _ (HM.out.stays HB1.out)).mono ?_
    rintro e _ ⟨rfl, rfl⟩
    rw [HS.out]
    go_wp2_with fail
    refine (fixed_any _ (pow_stays HP.out HB1.out)).mono ?_
    rintro e w2 ⟨rfl, hb⟩
    have HB2 := Lib.hid (btrans HB1.out hb); clear hb
    go_wp2_with fail
    go_ret
    exact ⟨rfl, HB2.out⟩
  have HS := Lib.hid hs; clear hs
  by_cases hy : mayL m = true
  case neg =>
    have HY := Lib.hid (show mayL m = false by simpa using hy); clear hy
    go_enter Tryd.func7, Tryd.ntmps7
    go_wp2_with fail
    refine (rfind_any m vo _ _ (HM.out.stays HBX.out)).mono ?_
    rintro e _ ⟨rfl, rfl⟩
    go_wp2_with fail
    refine (fixed_any _ (pow_stays HP.out HBX.out)).mono ?_
    rintro e w1 ⟨rfl, hb⟩
    have HB1 := Lib.hid (btrans HBX.out hb); have HX1 := Lib.hid (HXB.out.below hb); clear hb
    go_wp2_with fail
    refine (small_any m _ _ (HM.out.stays HB1.out)).mono ?_
    rintro e _ ⟨rfl, rfl⟩
    rw [HS.out]
    go_wp2_with fail
    refine (rmay_any m _ _ (HM.out.stays HB1.out)).mono ?_
    rintro e w3 ⟨rfl, hb⟩
    rw [HY.out]
    have HB3 := Lib.hid (btrans HB1.out hb); have HX3 := Lib.hid (HX1.out.below hb); clear hb
    go_wp2_with fail
    refine (fixed_any _ (pow_stays HP.out HB3.out)).mono ?_
    rintro e w2 ⟨rfl, hb⟩
    have HB2 := Lib.hid (btrans HB3.out hb); clear hb
    go_wp2_with fail
    go_ret
    exact ⟨rfl, HB2.out⟩
  have HY := Lib.hid hy
  have HMP := Lib.hid ((may_iff m).1 hy); clear hy
  have HL60 := Lib.hid (smallP HS.out).2
  have HLM := Lib.hid (show ∀ d ∈ m, d.blocks.length ≤ 50000 from fun d hd => by have := HL60.out d hd; omega)
  go_enter Tryd.func7, Tryd.ntmps7
  go_wp2_with fail
  refine (rfind_any m vo _ _ (HM.out.stays HBX.out)).mono ?_
  rintro e _ ⟨rfl, rfl⟩
  go_wp2_with fail
  refine (fixed_any _ (pow_stays HP.out HBX.out)).mono ?_
  rintro e w1 ⟨rfl, hb⟩
  have HB1 := Lib.hid (btrans HBX.out hb); have HX1 := Lib.hid (HXB.out.below hb); clear hb
  go_wp2_with fail
  refine (small_any m _ _ (HM.out.stays HB1.out)).mono ?_
  rintro e _ ⟨rfl, rfl⟩
  rw [HS.out]
  go_wp2_with fail
  refine (rmay_any m _ _ (HM.out.stays HB1.out)).mono ?_
  rintro e w3 ⟨rfl, hb⟩
  rw [HY.out]
  have HB3 := Lib.hid (btrans HB1.out hb); have HX3 := Lib.hid (HX1.out.below hb); clear hb
  have x0 := HX3.out.c 0 _ rfl
  have x1 := HX3.out.c 1 _ rfl
  have x2 := HX3.out.c 2 _ rfl
  have x3 := HX3.out.c 3 _ rfl
  have x4 := HX3.out.c 4 _ rfl
  have x5 := HX3.out.c 5 _ rfl
  cases hg : getV m vo with
  | none =>
    have hfi : findI m vo = -1 := by unfold findI; rw [find_none hg]
    clear hg
    rw [hfi]
    go_wp2_with fail
    refine (fixed_any _ (pow_stays HP.out HB3.out)).mono ?_
    rintro e w2 ⟨rfl, hb⟩
    have HB2 := Lib.hid (btrans HB3.out hb); clear hb
    go_wp2_with fail
    go_ret
    exact ⟨rfl, HB2.out⟩
  | some d =>
  obtain ⟨i, hfl, hdi, _⟩ := find_some hg
  have hfi : findI m vo = (i : Int) := by unfold findI; rw [hfl]
  rw [hfi]
  have HFI := Lib.hid hfi; have HG := Lib.hid hg; have HDI := Lib.hid hdi
  clear hfi hg hfl
  have hi0 : ¬ (i : Int) < 0 := by omega
  by_cases hn1 : nn < 0
  case pos =>
    clear hdi
    go_wp2_with fail
    refine (fixed_any _ (pow_stays HP.out HB3.out)).mono ?_
    rintro e w2 ⟨rfl, hb⟩
    have HB2 := Lib.hid (btrans HB3.out hb); clear hb
    go_wp2_with fail
    go_ret
    exact ⟨rfl, HB2.out⟩
  by_cases hn2 : 100000 < nn
  case pos =>
    clear hdi
    go_wp2_with fail
    refine (fixed_any _ (pow_stays HP.out HB3.out)).mono ?_
    rintro e w2 ⟨rfl, hb⟩
    have HB2 := Lib.hid (btrans HB3.out hb); clear hb
    go_wp2_with fail
    go_ret
    exact ⟨rfl, HB2.out⟩
  obtain ⟨pm, cm, hpm, _, _, hvin⟩ := HM.out.stays HB3.out
  cases hpm
  obtain ⟨g, o, bp, bc, rfl, _, h1, _, _, _, _⟩ := hvin i d hdi
  have hiI : (i : Int) < (m.length : Int) := by have := (List.getElem?_eq_some_iff.1 hdi).1; omega
  have hi62 : (i : Int) ≤ 1000 := by have := mayLen HMP.out; omega
  have HN0 := Lib.hid (show 0 ≤ nn ∧ nn ≤ 100000 by omega)
  clear hvin hdi
  go_wp2_with fail
  refine (do_any m ⟨2, vo, 0, 0, nn, ⟨#[]⟩⟩ _ _ (HM.out.stays HB3.out) (mayLen HMP.out) HLM.out (pow_stays HP.out HB3.out)).mono ?_
  rintro e w4 ⟨v4, rfl, hfin, hb⟩
  have hlaw := sizes_law HMP.out vo nn at_ d HG.out HN0.out
  have HMA := Lib.hid (doL_may HMP.out ⟨2, vo, 0, 0, nn, ⟨#[]⟩⟩)
  have HLA := Lib.hid (doL_len HMP.out ⟨2, vo, 0, 0, nn, ⟨#[]⟩⟩ 60 HL60.out)
  obtain ⟨N, hN⟩ : ∃ N, (doL m ⟨2, vo, 0, 0, nn, ⟨#[]⟩⟩).1 = N := ⟨_, rfl⟩
  obtain ⟨⟨co, te, nu⟩, ha⟩ : ∃ a, (doL m ⟨2, vo, 0, 0, nn, ⟨#[]⟩⟩).2 = a := ⟨_, rfl⟩
  simp only [hN] at hlaw HMA HLA hfin ⊢
  rw [ha]
  have HMB := Lib.hid (doL_may HMA.out ⟨2, vo, 0, 0, d.size, ⟨#[]⟩⟩)
  have HLB := Lib.hid (doL_len HMA.out ⟨2, vo, 0, 0, d.size, ⟨#[]⟩⟩ 61 HLA.out)
  obtain ⟨O, hO⟩ : ∃ O, (doL N ⟨2, vo, 0, 0, d.size, ⟨#[]⟩⟩).1 = O := ⟨_, rfl⟩
  obtain ⟨⟨co2, te2, nu2⟩, ha2⟩ : ∃ a, (doL N ⟨2, vo, 0, 0, d.size, ⟨#[]⟩⟩).2 = a := ⟨_, rfl⟩
  simp only [hO] at hlaw HMB HLB
  have HO := Lib.hid hO; have HA2 := Lib.hid ha2
  obtain ⟨⟨co0, t0⟩, hr⟩ : ∃ r, rd m vo at_ = r := ⟨_, rfl⟩
  obtain ⟨⟨co1, t1⟩, hr1⟩ : ∃ r, rd O vo at_ = r := ⟨_, rfl⟩
  rw [hr, hr1] at hlaw
  obtain ⟨l1, l2, l3⟩ := hlaw
  have l1' : co0 = co1 := l1
  subst l1'
  have HR := Lib.hid hr; have HR1 := Lib.hid hr1; have HL2 := Lib.hid l2; have HL3 := Lib.hid l3
  have hal := (Below.refl w4.heap.size w4).alloc (Nat.le_refl _) (.cells #[.int .i64 co, .string te, .int .i64 nu] 29)
  have HB4 := Lib.hid (btrans (btrans HB3.out hb) hal); have HX4 := Lib.hid ((HX3.out.below hb).below hal); have HN4 := Lib.hid (hfin.reads.stays hal)
  obtain ⟨p4, c4, rfl, _, _, _⟩ := hfin.reads
  clear hb hal hfin ha hN hO ha2 hr hr1 l1 l2 l3 h1
  clear x0 x1 x2 x3 x4 x5
  have x0 := HX4.out.c 0 _ rfl
  have x1 := HX4.out.c 1 _ rfl
  have x2 := HX4.out.c 2 _ rfl
  have x3 := HX4.out.c 3 _ rfl
  have x4 := HX4.out.c 4 _ rfl
  have x5 := HX4.out.c 5 _ rfl
  simp only [AnsM.agg]
  go_wp2_with fail
  refine (do_any N ⟨2, vo, 0, 0, d.size, ⟨#[]⟩⟩ _ _ HN4.out (mayLen HMA.out) (fun d hd => by have := HLA.out d hd; omega) (pow_stays HP.out HB4.out)).mono ?_
  rintro e w5 ⟨v5, rfl, hfin, hb⟩
  rw [HO.out] at hfin
  rw [HA2.out]
  have hal := (Below.refl w5.heap.size w5).alloc (Nat.le_refl _) (.cells #[.int .i64 co2, .string te2, .int .i64 nu2] 29)
  have HB5 := Lib.hid (btrans (btrans HB4.out hb) hal); have HX5 := Lib.hid ((HX4.out.below hb).below hal); have HO5 := Lib.hid (hfin.reads.stays hal)
  obtain ⟨p5, c5, rfl, _, _, _⟩ := hfin.reads
  clear hb hal hfin
  clear x0 x1 x2 x3 x4 x5
  have x0 := HX5.out.c 0 _ rfl
  have x1 := HX5.out.c 1 _ rfl
  have x2 := HX5.out.c 2 _ rfl
  have x3 := HX5.out.c 3 _ rfl
  have x4 := HX5.out.c 4 _ rfl
  have x5 := HX5.out.c 5 _ rfl
  simp only [AnsM.agg]
  go_wp2_with fail
  refine (lread3 m HMP.out vo 0 at_ 0 ⟨#[]⟩ _ _ (HM.out.stays HB5.out) HLM.out (pow_stays HP.out HB5.out)).mono ?_
  rintro e w6 ⟨rfl, hb⟩
  rw [HR.out]
  have HB6 := Lib.hid (btrans HB5.out hb); have HX6 := Lib.hid (HX5.out.below hb); have HO6 := Lib.hid (HO5.out.stays hb)
  clear hb
  clear x0 x1 x2 x3 x4 x5
  have x0 := HX6.out.c 0 _ rfl
  have x1 := HX6.out.c 1 _ rfl
  have x2 := HX6.out.c 2 _ rfl
  have x3 := HX6.out.c 3 _ rfl
  have x4 := HX6.out.c 4 _ rfl
  have x5 := HX6.out.c 5 _ rfl
  go_wp2_with fail
  refine (lread3 O HMB.out vo 0 at_ 0 ⟨#[]⟩ _ _ HO6.out (fun d hd => by have := HLB.out d hd; omega) (pow_stays HP.out HB6.out)).mono ?_
  rintro e w7 ⟨rfl, hb⟩
  rw [HR1.out]
  have HB7 := Lib.hid (btrans HB6.out hb); have HX7 := Lib.hid (HX6.out.below hb)
  clear hb
  clear x0 x1 x2 x3 x4 x5
  have x0 := HX7.out.c 0 _ rfl
  have x1 := HX7.out.c 1 _ rfl
  have x2 := HX7.out.c 2 _ rfl
  have x3 := HX7.out.c 3 _ rfl
  have x4 := HX7.out.c 4 _ rfl
  have x5 := HX7.out.c 5 _ rfl
  by_cases hat : at_ < nn
  · have ht : t0 = t1 := congrArg Prod.snd (HL2.out (by omega))
    subst ht
    go_wp2_with fail
    go_ret
    exact ⟨rfl, HB7.out⟩
  · rcases HL3.out (by omega) with hc | hc
    · have hb0 : (co0 != 0) = true := by simpa using hc
      clear hc
      go_wp2_with fail
      go_ret
      exact ⟨rfl, HB7.out⟩
    · have hc' : t1 = blankB := hc
      subst hc'
      obtain ⟨W9, hmk, hcv, hb9⟩ := blank_make w7
      have HB9 := Lib.hid (btrans HB7.out hb9); clear hb9 hc
      go_wp2_with fail
      all_goals
        go_ret
        first | exact ⟨rfl, HB7.out⟩ | exact ⟨rfl, HB9.out⟩

set_option maxRecDepth 100000 in
theorem contract (H : Type) (enc : TypeId × Value → H) (W : World) (base : Nat) (args : Array Value) (ds gs : List (DataW H)) (before : List MemPlace)
    (hval : ∀ (j : Nat) t v, Tryd.f7.params[j]? = some t → args[j]? = some v → Value.okWide Tryd.prog W .any base t v)
    (hW : DataW.Whole enc Tryd.prog Tryd.f7.params.toList Rows.modelSizesSpec.vars false W args.toList ds gs before) (hL : laidMetH Tryd.prog Rows.modelSizesRow.laid W) :
    Calls Tryd.prog 7 args W fun e W' => ∃ v, e = .returned v ∧ Rows.modelSizesSpec.post enc Tryd.prog Tryd.f7 false true false false W args v W' := by
  have hW' := hW
  obtain ⟨p, q, hA0, hV, rfl, hfz, hnd⟩ := hW
  have hA : DataW.TrodAll enc Tryd.prog W 0 (fun _ => true) true Tryd.f7.params.toList args.toList ds p := hA0
  rw [Tryd.params7] at hA hval
  obtain ⟨v0, vs0, d0, ds0, p0, q0, hargs, rfl, rfl, h0, r0⟩ := trodAll_cons hA
  obtain ⟨v1, vs1, d1, ds1, p1, q1, rfl, rfl, rfl, h1, r1⟩ := trodAll_cons r0
  obtain ⟨v2, vs2, d2, ds2, p2, q2, rfl, rfl, rfl, h2, r2⟩ := trodAll_cons r1
  obtain ⟨rfl, rfl, rfl⟩ := trodAll_nil r2
  obtain rfl : args = #[v0, v1, v2] := by cases args; simp_all
  obtain ⟨rfl, rfl⟩ := trodVars_none hV
  obtain ⟨a0, ha0⟩ := open_model (hval 0 22 v0 rfl rfl) h0
  obtain ⟨a1, rfl⟩ := open_op (hval 1 24 v1 rfl rfl) h1
  obtain ⟨a2, rfl, rfl, rfl, wa2⟩ := open_int Tryd.underlying3 (hval 2 3 v2 rfl rfl) h2
  clear hA0
  simp only [List.append_nil] at hW'
  refine (walk W (pow10_met hL) a0 v0 a1 a2 ha0  (int_bounds wa2).1 (int_bounds wa2).2).mono fun e W' ⟨he, hg⟩ => ?_
  subst he
  exact ⟨_, rfl, law_post laidOut (by rw [Tryd.params7]; intro t ht; simp only [List.mem_cons, List.not_mem_nil, or_false] at ht; rcases ht with rfl | rfl | rfl <;> exact ⟨by kernel_rfl, of_decide_eq_true (by kernel_rfl)⟩) rfl (show Tryd.f7.resultTypes = #[4] by kernel_rfl) Tryd.underlying4 hW' hg rfl⟩
theorem reads (os : Os) {H : Type} (enc : TypeId × Value → H) : ∃ places, DataW.whole enc Tryd.prog ((laidWorld os).forCall (fun _ _ => 0) ⟨#[], (#[.slice none 0 0, .agg #[.int .i64 0, .int .i64 0, .int .i64 0, .int .i64 0, .int .i64 0, .string ⟨#[]⟩], .int .i64 0] : Array Value), []⟩).memory Tryd.f7.params.toList Rows.modelSizesSpec.vars false (#[.slice none 0 0, .agg #[.int .i64 0, .int .i64 0, .int .i64 0, .int .i64 0, .int .i64 0, .string ⟨#[]⟩], .int .i64 0] : Array Value).toList 8 = some ([.nil, .agg [.lit (.int .i64 0), .lit (.int .i64 0), .lit (.int .i64 0), .lit (.int .i64 0), .lit (.int .i64 0), .lit (.string [])], .lit (.int .i64 0)], [], places) :=
  ⟨[], by kernel_rfl⟩

set_option maxRecDepth 100000 in
theorem lifted (os : Os) (started : os.Started) (H : Type) (enc : TypeId × Value → H) (F : Stop.Interp) :
    ReturnsInHanded {} Tryd.checked os 7 .any ((OpenSpec.ofChange Rows.modelSizesSpec).preRow enc Tryd.prog Tryd.f7 Rows.modelSizesRow.domain false Rows.modelSizesRow.laid) (((OpenSpec.ofChange Rows.modelSizesSpec).at F).post enc Tryd.prog Tryd.f7 false true false false) := by
  obtain ⟨places, hx⟩ := reads os enc
  refine returnsInHanded_of_row (C := Tryd.checked) (s := OpenSpec.ofChange Rows.modelSizesSpec) own started (by kernel_rfl) Tryd.func7
    (witness_row_at (enc := enc) (C := Tryd.checked) false (laidWorld os) #[.slice none 0 0, .agg #[.int .i64 0, .int .i64 0, .int .i64 0, .int .i64 0, .int .i64 0, .string ⟨#[]⟩], .int .i64 0] rfl (by kernel_rfl) (by kernel_rfl) (by kernel_rfl)
      (OpenSpec.preRow_of_cond 8 hx (by kernel_rfl) (fun k hk => by cases hk) (by kernel_rfl) (laid_met os _))) ?_
  intro W base args ds gs before hval hW _ _ _ hL _ _
  exact contract H enc W base args ds gs before hval hW hL

theorem said : Rows.ModelSizesSaid :=
  OpenClaim.holds_of_cond 7 Tryd.f7 rfl rfl rfl rfl rfl rfl rfl ⟨rfl, rfl, rfl, rfl, rfl⟩ rfl rfl rfl rfl rfl (by kernel_rfl) Tryd.func7 (by kernel_rfl)
    (of_decide_eq_true (by kernel_rfl)) (by unfold Func.isWrapper; first | (rw [if_pos (by decide +kernel)]; kernel_rfl) | (rw [if_neg (by decide +kernel)]; exact ⟨rfl, rfl⟩))
    (fun os started H enc _ F => by rw [OpenClaim.pre_eq_preRow]; exact lifted os started H enc F)

theorem plain (f : FuncId) (fn : Func) (hf : Tryd.pinned.checked.prog.funcNamed Rows.modelSizesRow.func = some f) (hfn : Tryd.pinned.checked.prog.funcs[f]? = some fn) :
    false = Tryd.pinned.checked.prog.looks [] ∧ ∀ (j : Nat) t, fn.params[j]? = some t → Tryd.pinned.checked.prog.wantsStandIn t = false := by
  obtain rfl : f = 7 := Option.some.inj ((show Tryd.prog.funcNamed Rows.modelSizesRow.func = some 7 by kernel_rfl).symm.trans hf) |>.symm
  obtain rfl : fn = Tryd.f7 := (Option.some.inj (Tryd.func7.symm.trans hfn)).symm
  refine ⟨by kernel_rfl, fun j t ht => ?_⟩
  rw [Tryd.params7] at ht
  have hm := Array.mem_of_getElem? ht
  simp only [List.mem_toArray, List.mem_cons, List.not_mem_nil, or_false] at hm
  rcases hm with rfl | rfl | rfl
  · exact (show Tryd.prog.wantsStandIn 22 = false by kernel_rfl)
  · exact (show Tryd.prog.wantsStandIn 24 = false by kernel_rfl)
  · exact (show Tryd.prog.wantsStandIn 3 = false by kernel_rfl)

theorem card : Rows.ModelSizesCardSaid :=
  Claim7.holds_tied_plain_at .later [] _ _ _ _ said (fun _ h => by cases h) (by kernel_rfl) (fun _ h => by cases h) modelSizes_row_tie rfl ⟨rfl, rfl⟩ (by kernel_rfl) rfl plain (by kernel_rfl)
end Go.Proofs.YtgabifkechofnaaDoor.modelSizes
