/- ModelErrors: with an error, and by what only asks, a model is not changed; what may be stays so: the law returns true for every input. Condition: the listed tables lie as the program's text lays them (the card ties that). -/
import Derived.Test.YtgabifkechofnaaDoorModLC
import Derived.Test.YtgabifkechofnaaDoorLaidM
namespace Go.Proofs.YtgabifkechofnaaDoor.modelErrors
open Go.Stop Go.ChangeShapes Go.WideShapes Go.ChangeAt Go.RowKit
open Go.ChangeMaps (open_string)

theorem small_len {m : List VolD} (h : smallB m = true) : m.length ≤ 1000 ∧ ∀ d ∈ m, d.blocks.length ≤ 60 := by
  unfold smallB at h
  rw [Bool.and_eq_true, List.all_eq_true, decide_eq_true_eq] at h
  exact ⟨by omega, fun d hd => by simpa using h.1 d hd⟩

set_option maxRecDepth 100000 in
set_option maxHeartbeats 4000000 in
theorem walk (w : World) (hp : Pow10 w) (m : List VolD) (v : Value) (x : OpD) (hm : ModelAt w v m) :
    Calls Tryd.prog 4 #[v, x.agg] w fun e w' => e = .returned (.bool true) ∧ Below w.heap.size w w' := by
  obtain ⟨ac, vo, de, bl, nn, tx⟩ := x
  have hbx := (Below.refl w.heap.size w).alloc (Nat.le_refl _) (.cells #[.int .i64 ac, .int .i64 vo, .int .i64 de, .int .i64 bl, .int .i64 nn, .string tx] 24)
  have HBX := Lib.hid hbx; have HM := Lib.hid hm; have HP := Lib.hid hp
  obtain ⟨p, c, rfl, _, _, _⟩ := hm
  clear hbx hp
  simp only [OpD.agg]
  by_cases hs : smallB m = true
  case neg =>
    have HS := Lib.hid (show smallB m = false by simpa using hs); clear hs
    go_enter Tryd.func4, Tryd.ntmps4
    go_wp2_with fail
    refine (fixed_any _ (pow_stays HP.out HBX.out)).mono ?_
    rintro e w1 ⟨rfl, hb⟩
    have HB1 := Lib.hid (btrans HBX.out hb); clear hb
    go_wp2_with fail
    refine (small_any m _ _ (HM.out.stays HB1.out)).mono ?_
    rintro e _ ⟨rfl, rfl⟩
    rw [HS.out]
    go_wp2_with fail
    refine (fixed_any _ (pow_stays HP.out HB1.out)).mono ?_
    rintro e w2 ⟨rfl, hb⟩
    have HB2 := Lib.hid (btrans HB1.out hb); clear hb
    go_wp2_with fail
    go_ret
    exact ⟨rfl, HB2.out⟩
  have HS := Lib.hid hs; clear hs
  by_cases hy : mayL m = true
  case neg =>
    have HY := Lib.hid (show mayL m = false by simpa using hy); clear hy
    go_enter Tryd.func4, Tryd.ntmps4
    go_wp2_with fail
    refine (fixed_any _ (pow_stays HP.out HBX.out)).mono ?_
    rintro e w1 ⟨rfl, hb⟩
    have HB1 := Lib.hid (btrans HBX.out hb); clear hb
    go_wp2_with fail
    refine (small_any m _ _ (HM.out.stays HB1.out)).mono ?_
    rintro e _ ⟨rfl, rfl⟩
    rw [HS.out]
    go_wp2_with fail
    refine (rmay_any m _ _ (HM.out.stays HB1.out)).mono ?_
    rintro e w3 ⟨rfl, hb⟩
    rw [HY.out]
    have HB3 := Lib.hid (btrans HB1.out hb); clear hb
    go_wp2_with fail
    refine (fixed_any _ (pow_stays HP.out HB3.out)).mono ?_
    rintro e w2 ⟨rfl, hb⟩
    have HB2 := Lib.hid (btrans HB3.out hb); clear hb
    go_wp2_with fail
    go_ret
    exact ⟨rfl, HB2.out⟩
  have HY := Lib.hid hy
  have HMP := Lib.hid ((may_iff m).1 hy); clear hy
  have hlaw := errors_law HMP.out ⟨ac, vo, de, bl, nn, tx⟩
  have hlen := doL_len HMP.out ⟨ac, vo, de, bl, nn, tx⟩ 60 (small_len HS.out).2
  obtain ⟨⟨co, te, nu⟩, ha⟩ : ∃ a, (doL m ⟨ac, vo, de, bl, nn, tx⟩).2 = a := ⟨_, rfl⟩
  obtain ⟨N, hN⟩ : ∃ N, (doL m ⟨ac, vo, de, bl, nn, tx⟩).1 = N := ⟨_, rfl⟩
  rw [ha, hN] at hlaw
  rw [hN] at hlen
  have HA := Lib.hid ha; have HN := Lib.hid hN; have HLAW := Lib.hid hlaw; have HLEN := Lib.hid hlen
  clear ha hN hlaw hlen
  go_enter Tryd.func4, Tryd.ntmps4
  go_wp2_with fail
  refine (fixed_any _ (pow_stays HP.out HBX.out)).mono ?_
  rintro e w1 ⟨rfl, hb⟩
  have k0 : w1.cell? ⟨w.heap.size, 0, none⟩ = some (.int .i64 ac) := cell_stays hb (by simp)
  have k1 : w1.cell? ⟨w.heap.size, 1, none⟩ = some (.int .i64 vo) := cell_stays hb (by simp)
  have k2 : w1.cell? ⟨w.heap.size, 2, none⟩ = some (.int .i64 de) := cell_stays hb (by simp)
  have k3 : w1.cell? ⟨w.heap.size, 3, none⟩ = some (.int .i64 bl) := cell_stays hb (by simp)
  have k4 : w1.cell? ⟨w.heap.size, 4, none⟩ = some (.int .i64 nn) := cell_stays hb (by simp)
  have k5 : w1.cell? ⟨w.heap.size, 5, none⟩ = some (.string tx) := cell_stays hb (by simp)
  have HB1 := Lib.hid (btrans HBX.out hb); clear hb
  go_wp2_with fail
  refine (small_any m _ _ (HM.out.stays HB1.out)).mono ?_
  rintro e _ ⟨rfl, rfl⟩
  rw [HS.out]
  go_wp2_with fail
  refine (rmay_any m _ _ (HM.out.stays HB1.out)).mono ?_
  rintro e w3 ⟨rfl, hb⟩
  rw [HY.out]
  have HB3 := Lib.hid (btrans HB1.out hb)
  replace k0 := cell_stays hb k0
  replace k1 := cell_stays hb k1
  replace k2 := cell_stays hb k2
  replace k3 := cell_stays hb k3
  replace k4 := cell_stays hb k4
  replace k5 := cell_stays hb k5
  clear hb
  go_wp2_with fail
  refine (do_any m ⟨ac, vo, de, bl, nn, tx⟩ _ _ (HM.out.stays HB3.out) (small_len HS.out).1 (fun d hd => by have := (small_len HS.out).2 d hd; omega) (pow_stays HP.out HB3.out)).mono ?_
  rintro e w4 ⟨v', rfl, hfin, hb⟩
  rw [HN.out] at hfin
  rw [HA.out]
  have hal := (Below.refl w4.heap.size w4).alloc (Nat.le_refl _) (.cells #[.int .i64 co, .string te, .int .i64 nu] 29)
  have HB4 := Lib.hid (btrans (btrans HB3.out hb) hal); have HN4 := Lib.hid (hfin.reads.stays hal)
  replace k0 := cell_stays hal (cell_stays hb k0)
  obtain ⟨p', c', rfl, _, _, _⟩ := hfin.reads
  clear hb hal hfin k1 k2 k3 k4 k5
  simp only [AnsM.agg]
  have tail : ∀ (W : World), Below w.heap.size w W → True := fun _ _ => trivial
  by_cases hco : co = 0
  · have hb0 : (co != 0) = false := by simpa using hco
    clear hco
    by_cases hask : ac = 3 ∨ ac = 7 ∨ ac = 8 ∨ ac = 9
    · have HNM := Lib.hid (show decide (N = m) = true from decide_eq_true (HLAW.out.2.2 hask))
      go_wp2_with fail
      all_goals
        refine (may_any N _ _ HN4.out).mono ?_
        rintro e w5 ⟨rfl, hb⟩
        rw [HLAW.out.2.1]
        have HB5 := Lib.hid (btrans HB4.out hb); have HN5 := Lib.hid (HN4.out.stays hb); clear hb
        go_wp2_with fail
        all_goals first
          | (go_ret; exact ⟨rfl, HB5.out⟩)
          | (refine (rsame_any N m _ _ _ HN5.out (HM.out.stays HB5.out)).mono ?_
             rintro e w6 ⟨rfl, hb⟩
             rw [HNM.out]
             have HB6 := Lib.hid (btrans HB5.out hb); clear hb
             go_wp2_with fail
             go_ret
             exact ⟨rfl, HB6.out⟩)
    · have b3 : (ac == 3) = false := by simp; omega
      have b7 : (ac == 7) = false := by simp; omega
      have b8 : (ac == 8) = false := by simp; omega
      have b9 : (ac == 9) = false := by simp; omega
      clear hask
      go_wp2_with fail
      refine (may_any N _ _ HN4.out).mono ?_
      rintro e w5 ⟨rfl, hb⟩
      rw [HLAW.out.2.1]
      have HB5 := Lib.hid (btrans HB4.out hb); clear hb
      go_wp2_with fail
      go_ret
      exact ⟨rfl, HB5.out⟩
  · have hb0 : (co != 0) = true := by simpa using hco
    obtain ⟨rfl, rfl, hNm⟩ := HLAW.out.1 hco
    have HNM := Lib.hid (show decide (N = m) = true from decide_eq_true hNm)
    clear hco hNm
    go_wp2_with fail
    refine (rsame_any N m _ _ _ HN4.out (HM.out.stays HB4.out)).mono ?_
    rintro e w5 ⟨rfl, hb⟩
    rw [HNM.out]
    replace k0 := cell_stays hb k0
    have HB5 := Lib.hid (btrans HB4.out hb); have HN5 := Lib.hid (HN4.out.stays hb); clear hb
    go_wp2_with fail
    all_goals
      refine (may_any N _ _ HN5.out).mono ?_
      rintro e w6 ⟨rfl, hb⟩
      rw [HLAW.out.2.1]
      have HB6 := Lib.hid (btrans HB5.out hb); have HN6 := Lib.hid (HN5.out.stays hb); clear hb
      go_wp2_with fail
      all_goals first
        | (go_ret; exact ⟨rfl, HB6.out⟩)
        | (refine (rsame_any N m _ _ _ HN6.out (HM.out.stays HB6.out)).mono ?_
           rintro e w7 ⟨rfl, hb⟩
           rw [HNM.out]
           have HB7 := Lib.hid (btrans HB6.out hb); clear hb
           go_wp2_with fail
           go_ret
           exact ⟨rfl, HB7.out⟩)

set_option maxRecDepth 100000 in
theorem contract (H : Type) (enc : TypeId × Value → H) (W : World) (base : Nat) (args : Array Value) (ds gs : List (DataW H)) (before : List MemPlace)
    (hval : ∀ (j : Nat) t v, Tryd.f4.params[j]? = some t → args[j]? = some v → Value.okWide Tryd.prog W .any base t v)
    (hW : DataW.Whole enc Tryd.prog Tryd.f4.params.toList Rows.modelErrorsSpec.vars false W args.toList ds gs before) (hL : laidMetH Tryd.prog Rows.modelErrorsRow.laid W) :
    Calls Tryd.prog 4 args W fun e W' => ∃ v, e = .returned v ∧ Rows.modelErrorsSpec.post enc Tryd.prog Tryd.f4 false true false false W args v W' := by
  have hW' := hW
  obtain ⟨p, q, hA0, hV, rfl, hfz, hnd⟩ := hW
  have hA : DataW.TrodAll enc Tryd.prog W 0 (fun _ => true) true Tryd.f4.params.toList args.toList ds p := hA0
  rw [Tryd.params4] at hA hval
  obtain ⟨v0, vs0, d0, ds0, p0, q0, hargs, rfl, rfl, h0, r0⟩ := trodAll_cons hA
  obtain ⟨v1, vs1, d1, ds1, p1, q1, rfl, rfl, rfl, h1, r1⟩ := trodAll_cons r0
  obtain ⟨rfl, rfl, rfl⟩ := trodAll_nil r1
  obtain rfl : args = #[v0, v1] := by cases args; simp_all
  obtain ⟨rfl, rfl⟩ := trodVars_none hV
  obtain ⟨a0, ha0⟩ := open_model (hval 0 22 v0 rfl rfl) h0
  obtain ⟨a1, rfl⟩ := open_op (hval 1 24 v1 rfl rfl) h1
  clear hA0
  simp only [List.append_nil] at hW'
  refine (walk W (pow10_met hL) a0 v0 a1 ha0 ).mono fun e W' ⟨he, hg⟩ => ?_
  subst he
  exact ⟨_, rfl, law_post laidOut (by rw [Tryd.params4]; intro t ht; simp only [List.mem_cons, List.not_mem_nil, or_false] at ht; rcases ht with rfl | rfl <;> exact ⟨by kernel_rfl, of_decide_eq_true (by kernel_rfl)⟩) rfl (show Tryd.f4.resultTypes = #[4] by kernel_rfl) Tryd.underlying4 hW' hg rfl⟩
theorem reads (os : Os) {H : Type} (enc : TypeId × Value → H) : ∃ places, DataW.whole enc Tryd.prog ((laidWorld os).forCall (fun _ _ => 0) ⟨#[], (#[.slice none 0 0, .agg #[.int .i64 0, .int .i64 0, .int .i64 0, .int .i64 0, .int .i64 0, .string ⟨#[]⟩]] : Array Value), []⟩).memory Tryd.f4.params.toList Rows.modelErrorsSpec.vars false (#[.slice none 0 0, .agg #[.int .i64 0, .int .i64 0, .int .i64 0, .int .i64 0, .int .i64 0, .string ⟨#[]⟩]] : Array Value).toList 8 = some ([.nil, .agg [.lit (.int .i64 0), .lit (.int .i64 0), .lit (.int .i64 0), .lit (.int .i64 0), .lit (.int .i64 0), .lit (.string [])]], [], places) :=
  ⟨[], by kernel_rfl⟩

set_option maxRecDepth 100000 in
theorem lifted (os : Os) (started : os.Started) (H : Type) (enc : TypeId × Value → H) (F : Stop.Interp) :
    ReturnsInHanded {} Tryd.checked os 4 .any ((OpenSpec.ofChange Rows.modelErrorsSpec).preRow enc Tryd.prog Tryd.f4 Rows.modelErrorsRow.domain false Rows.modelErrorsRow.laid) (((OpenSpec.ofChange Rows.modelErrorsSpec).at F).post enc Tryd.prog Tryd.f4 false true false false) := by
  obtain ⟨places, hx⟩ := reads os enc
  refine returnsInHanded_of_row (C := Tryd.checked) (s := OpenSpec.ofChange Rows.modelErrorsSpec) own started (by kernel_rfl) Tryd.func4
    (witness_row_at (enc := enc) (C := Tryd.checked) false (laidWorld os) #[.slice none 0 0, .agg #[.int .i64 0, .int .i64 0, .int .i64 0, .int .i64 0, .int .i64 0, .string ⟨#[]⟩]] rfl (by kernel_rfl) (by kernel_rfl) (by kernel_rfl)
      (OpenSpec.preRow_of_cond 8 hx (by kernel_rfl) (fun k hk => by cases hk) (by kernel_rfl) (laid_met os _))) ?_
  intro W base args ds gs before hval hW _ _ _ hL _ _
  exact contract H enc W base args ds gs before hval hW hL

theorem said : Rows.ModelErrorsSaid :=
  OpenClaim.holds_of_cond 4 Tryd.f4 rfl rfl rfl rfl rfl rfl rfl ⟨rfl, rfl, rfl, rfl, rfl⟩ rfl rfl rfl rfl rfl (by kernel_rfl) Tryd.func4 (by kernel_rfl)
    (of_decide_eq_true (by kernel_rfl)) (by unfold Func.isWrapper; first | (rw [if_pos (by decide +kernel)]; kernel_rfl) | (rw [if_neg (by decide +kernel)]; exact ⟨rfl, rfl⟩))
    (fun os started H enc _ F => by rw [OpenClaim.pre_eq_preRow]; exact lifted os started H enc F)

theorem plain (f : FuncId) (fn : Func) (hf : Tryd.pinned.checked.prog.funcNamed Rows.modelErrorsRow.func = some f) (hfn : Tryd.pinned.checked.prog.funcs[f]? = some fn) :
    false = Tryd.pinned.checked.prog.looks [] ∧ ∀ (j : Nat) t, fn.params[j]? = some t → Tryd.pinned.checked.prog.wantsStandIn t = false := by
  obtain rfl : f = 4 := Option.some.inj ((show Tryd.prog.funcNamed Rows.modelErrorsRow.func = some 4 by kernel_rfl).symm.trans hf) |>.symm
  obtain rfl : fn = Tryd.f4 := (Option.some.inj (Tryd.func4.symm.trans hfn)).symm
  refine ⟨by kernel_rfl, fun j t ht => ?_⟩
  rw [Tryd.params4] at ht
  have hm := Array.mem_of_getElem? ht
  simp only [List.mem_toArray, List.mem_cons, List.not_mem_nil, or_false] at hm
  rcases hm with rfl | rfl
  · exact (show Tryd.prog.wantsStandIn 22 = false by kernel_rfl)
  · exact (show Tryd.prog.wantsStandIn 24 = false by kernel_rfl)

theorem card : Rows.ModelErrorsCardSaid :=
  Claim7.holds_tied_plain_at .later [] _ _ _ _ said (fun _ h => by cases h) (by kernel_rfl) (fun _ h => by cases h) modelErrors_row_tie rfl ⟨rfl, rfl⟩ (by kernel_rfl) rfl plain (by kernel_rfl)
end Go.Proofs.YtgabifkechofnaaDoor.modelErrors
