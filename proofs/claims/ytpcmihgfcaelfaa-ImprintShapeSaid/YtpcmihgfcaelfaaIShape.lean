/- The walk of ImprintShape. · ImprintShape: volumes whose trees have the same pairs have the same text, and tables: the law returns true for every input. No condition. -/
import Derived.Test.YtpcmihgfcaelfaaIO
import Derived.Test.YtpcmihgfcaelfaaIP
namespace Go.Proofs.Ytpcmihgfcaelfaa
open Go.RowKit

theorem tabs_nil (W : World) : TabsAt W (.slice none 0 0) [] := ⟨none, 0, rfl, Nat.le_refl _, by unfold maxLen; omega, fun i d hd => by simp at hd⟩
set_option maxRecDepth 100000 in
set_option maxHeartbeats 4000000 in
theorem shape_walk (l : List VoD) (c : Int) (v1 : Value) (w : World) (h1 : VolsAt w v1 l) : Calls Try.prog 6 #[v1, .int .i64 c] w fun e w' => e = .returned (.bool true) ∧ Below w.heap.size w w' := by
  have HVL := Lib.hid h1
  obtain ⟨p1, c1, rfl, _, _, _⟩ := h1
  obtain ⟨n1, hn1⟩ : ∃ n, l.length = n := ⟨_, rfl⟩
  rw [hn1] at HVL ⊢
  clear hn1
  cases hs1 : smallVs l with
  | false =>
    have HS1 := Lib.hid hs1; clear hs1
    go_enter Try.func6, Try.ntmps6
    have HB := Lib.hid (show Below w.heap.size w w from Below.refl _ _)
    go_wp2_with fail
    refine (fixed_any _).mono ?_
    rintro e wx ⟨rfl, hb⟩
    have HB := Lib.hid (btrans HB.out hb)
    clear hb
    go_wp2_with fail
    refine (rsmall18_any l _ _ (HVL.out.keep (keeps_below HB.out))).mono ?_
    rintro e wx ⟨rfl, hb⟩
    rw [HS1.out]
    have HB := Lib.hid (btrans HB.out hb)
    clear hb
    go_wp2_with fail
    refine (fixed_any _).mono ?_
    rintro e wx ⟨rfl, hb⟩
    have HB := Lib.hid (btrans HB.out hb)
    clear hb
    go_wp2_with fail
    go_ret
    exact ⟨rfl, HB.out⟩
  | true =>
  have HS1 := Lib.hid hs1; have HL1 := Lib.hid (smallVs_trees hs1); have HX1 := Lib.hid (text_short hs1); clear hs1
  cases hm1 : mayVB l with
  | false =>
    have HM1 := Lib.hid hm1; clear hm1
    go_enter Try.func6, Try.ntmps6
    have HB := Lib.hid (show Below w.heap.size w w from Below.refl _ _)
    go_wp2_with fail
    refine (fixed_any _).mono ?_
    rintro e wx ⟨rfl, hb⟩
    have HB := Lib.hid (btrans HB.out hb)
    clear hb
    go_wp2_with fail
    refine (rsmall18_any l _ _ (HVL.out.keep (keeps_below HB.out))).mono ?_
    rintro e wx ⟨rfl, hb⟩
    rw [HS1.out]
    have HB := Lib.hid (btrans HB.out hb)
    clear hb
    go_wp2_with fail
    refine (rmay18_any l _ _ (HVL.out.keep (keeps_below HB.out)) HL1.out).mono ?_
    rintro e wx ⟨rfl, hb⟩
    rw [HM1.out]
    have HB := Lib.hid (btrans HB.out hb)
    clear hb
    go_wp2_with fail
    refine (fixed_any _).mono ?_
    rintro e wx ⟨rfl, hb⟩
    have HB := Lib.hid (btrans HB.out hb)
    clear hb
    go_wp2_with fail
    go_ret
    exact ⟨rfl, HB.out⟩
  | true =>
  have HM1 := Lib.hid hm1; clear hm1
  by_cases hz : (50 : Int) < c
  · skip
    go_enter Try.func6, Try.ntmps6
    have HB := Lib.hid (show Below w.heap.size w w from Below.refl _ _)
    go_wp2_with fail
    refine (fixed_any _).mono ?_
    rintro e wx ⟨rfl, hb⟩
    have HB := Lib.hid (btrans HB.out hb)
    clear hb
    go_wp2_with fail
    refine (rsmall18_any l _ _ (HVL.out.keep (keeps_below HB.out))).mono ?_
    rintro e wx ⟨rfl, hb⟩
    rw [HS1.out]
    have HB := Lib.hid (btrans HB.out hb)
    clear hb
    go_wp2_with fail
    refine (rmay18_any l _ _ (HVL.out.keep (keeps_below HB.out)) HL1.out).mono ?_
    rintro e wx ⟨rfl, hb⟩
    rw [HM1.out]
    have HB := Lib.hid (btrans HB.out hb)
    clear hb
    go_wp2_with fail
    refine (fixed_any _).mono ?_
    rintro e wx ⟨rfl, hb⟩
    have HB := Lib.hid (btrans HB.out hb)
    clear hb
    go_wp2_with fail
    go_ret
    exact ⟨rfl, HB.out⟩
  go_enter Try.func6, Try.ntmps6
  have HB := Lib.hid (show Below w.heap.size w w from Below.refl _ _)
  go_wp2_with fail
  refine (fixed_any _).mono ?_
  rintro e wx ⟨rfl, hb⟩
  have HB := Lib.hid (btrans HB.out hb)
  clear hb
  go_wp2_with fail
  refine (rsmall18_any l _ _ (HVL.out.keep (keeps_below HB.out))).mono ?_
  rintro e wx ⟨rfl, hb⟩
  rw [HS1.out]
  have HB := Lib.hid (btrans HB.out hb)
  clear hb
  go_wp2_with fail
  refine (rmay18_any l _ _ (HVL.out.keep (keeps_below HB.out)) HL1.out).mono ?_
  rintro e wx ⟨rfl, hb⟩
  rw [HM1.out]
  have HB := Lib.hid (btrans HB.out hb)
  clear hb
  go_wp2_with fail
  clear hz
  refine (pText_any l _ _ (HVL.out.keep (keeps_below HB.out)) HL1.out).mono ?_
  rintro e wt ⟨rfl, hb⟩
  have HB := Lib.hid (btrans HB.out hb); clear hb
  go_wp2_with fail
  refine (read_back l HM1.out HL1.out HX1.out _).mono ?_
  rintro e wr ⟨va, a, rfl, hva, hra, hma, hb⟩
  have HB := Lib.hid (btrans HB.out hb); have HVA := Lib.hid hva; have HRA := Lib.hid (rvs_of hra); have HMA := Lib.hid hma; have HSA := Lib.hid (hra.small (rvs_few HL1.out))
  obtain ⟨pa, ca, rfl, _, _, _⟩ := hva
  clear hb hra hma
  have HTQ := Lib.hid (tables_rvs HRA.out HMA.out HM1.out c)
  have HTX := Lib.hid ((text_same HMA.out HM1.out HSA.out HL1.out).2 (same_rvs.2 HRA.out))
  go_wp2_with fail
  cases htq : tablesQ l c with
  | none =>
    have HQ := Lib.hid htq; clear htq
    have HQA := Lib.hid (show tablesQ a c = none by rw [HTQ.out, HQ.out])
    refine (pTabs_any l c _ _ (HVL.out.keep (keeps_below HB.out)) HL1.out).mono ?_
    intro e wx he
    unfold PtabPost at he
    rw [HQ.out] at he
    obtain ⟨rfl, hb⟩ := he
    have HB := Lib.hid (btrans HB.out hb)
    have HVA := Lib.hid (HVA.out.keep (keeps_below hb))
    clear hb
    go_wp2_with fail
    refine (pTabs_any a c _ _ HVA.out HSA.out).mono ?_
    intro e wx he
    unfold PtabPost at he
    rw [HQA.out] at he
    obtain ⟨rfl, hb⟩ := he
    have HB := Lib.hid (btrans HB.out hb)
    have HVA := Lib.hid (HVA.out.keep (keeps_below hb))
    clear hb
    go_wp2_with fail
    refine (pText_any a _ _ HVA.out HSA.out).mono ?_
    rintro e wx ⟨rfl, hb⟩
    rw [HTX.out]
    have HB := Lib.hid (btrans HB.out hb)
    have HVA := Lib.hid (HVA.out.keep (keeps_below hb))
    clear hb
    go_wp2_with fail
    refine (pText_any l _ _ (HVL.out.keep (keeps_below HB.out)) HL1.out).mono ?_
    rintro e wx ⟨rfl, hb⟩
    have HB := Lib.hid (btrans HB.out hb)
    have HVA := Lib.hid (HVA.out.keep (keeps_below hb))
    clear hb
    go_wp2_with fail
    refine (rsame17_any [] [] _ _ _ (tabs_nil _) (tabs_nil _)).mono ?_
    rintro e wx ⟨rfl, hb⟩
    rw [show sameTT [] [] = true by unfold sameTT; simp]
    have HB := Lib.hid (btrans HB.out hb)
    have HVA := Lib.hid (HVA.out.keep (keeps_below hb))
    clear hb
    go_wp2_with fail
    refine (rsame18_any l a _ _ _ (HVL.out.keep (keeps_below HB.out)) HVA.out HL1.out HSA.out).mono ?_
    rintro e wx ⟨rfl, hb⟩
    rw [same_rvs.2 HRA.out.symm]
    have HB := Lib.hid (btrans HB.out hb)
    clear hb
    go_wp2_with fail
    go_ret
    exact ⟨rfl, HB.out⟩
  | some T =>
    have HQ := Lib.hid htq; clear htq
    have HQA := Lib.hid (show tablesQ a c = some T by rw [HTQ.out, HQ.out])
    refine (pTabs_any l c _ _ (HVL.out.keep (keeps_below HB.out)) HL1.out).mono ?_
    intro e wx he
    unfold PtabPost at he
    rw [HQ.out] at he
    obtain ⟨vt1, rfl, ht, hb⟩ := he
    have HB := Lib.hid (btrans HB.out hb)
    have HVA := Lib.hid (HVA.out.keep (keeps_below hb))
    have HT1 := Lib.hid ht
    clear hb ht
    go_wp2_with fail
    refine (pTabs_any a c _ _ HVA.out HSA.out).mono ?_
    intro e wx he
    unfold PtabPost at he
    rw [HQA.out] at he
    obtain ⟨vt2, rfl, ht, hb⟩ := he
    have HB := Lib.hid (btrans HB.out hb)
    have HVA := Lib.hid (HVA.out.keep (keeps_below hb))
    have HT1 := Lib.hid (HT1.out.keep (keeps_below hb))
    have HT2 := Lib.hid ht
    clear hb ht
    go_wp2_with fail
    refine (pText_any a _ _ HVA.out HSA.out).mono ?_
    rintro e wx ⟨rfl, hb⟩
    rw [HTX.out]
    have HB := Lib.hid (btrans HB.out hb)
    have HVA := Lib.hid (HVA.out.keep (keeps_below hb))
    have HT1 := Lib.hid (HT1.out.keep (keeps_below hb))
    have HT2 := Lib.hid (HT2.out.keep (keeps_below hb))
    clear hb
    go_wp2_with fail
    refine (pText_any l _ _ (HVL.out.keep (keeps_below HB.out)) HL1.out).mono ?_
    rintro e wx ⟨rfl, hb⟩
    have HB := Lib.hid (btrans HB.out hb)
    have HVA := Lib.hid (HVA.out.keep (keeps_below hb))
    have HT1 := Lib.hid (HT1.out.keep (keeps_below hb))
    have HT2 := Lib.hid (HT2.out.keep (keeps_below hb))
    clear hb
    go_wp2_with fail
    refine (rsame17_any T T _ _ _ HT1.out HT2.out).mono ?_
    rintro e wx ⟨rfl, hb⟩
    rw [show sameTT T T = true by unfold sameTT; simp]
    have HB := Lib.hid (btrans HB.out hb)
    have HVA := Lib.hid (HVA.out.keep (keeps_below hb))
    clear hb
    go_wp2_with fail
    refine (rsame18_any l a _ _ _ (HVL.out.keep (keeps_below HB.out)) HVA.out HL1.out HSA.out).mono ?_
    rintro e wx ⟨rfl, hb⟩
    rw [same_rvs.2 HRA.out.symm]
    have HB := Lib.hid (btrans HB.out hb)
    clear hb
    go_wp2_with fail
    go_ret
    exact ⟨rfl, HB.out⟩
end Go.Proofs.Ytpcmihgfcaelfaa
namespace Go.Proofs.Ytpcmihgfcaelfaa.imprintShape
open Go.Stop Go.ChangeShapes Go.WideShapes Go.ChangeAt Go.RowKit

theorem walk (W : World) (l : List VoD) (c : Int) {v1 : Value} (h1 : VolsAt W v1 l) (_hc : -9223372036854775808 ≤ c) (_hc2 : c ≤ 9223372036854775807) :
    Calls Try.prog 6 #[v1, .int .i64 c] W fun e W' => e = .returned (.bool true) ∧ Below W.heap.size W W' := shape_walk l c v1 W h1

set_option maxRecDepth 100000 in
theorem contract (H : Type) (enc : TypeId × Value → H) (W : World) (base : Nat) (args : Array Value) (ds gs : List (DataW H)) (before : List MemPlace)
    (hval : ∀ (j : Nat) t v, Try.f6.params[j]? = some t → args[j]? = some v → Value.okWide Try.prog W .any base t v)
    (hW : DataW.Whole enc Try.prog Try.f6.params.toList Rows.imprintShapeSpec.vars false W args.toList ds gs before) :
    Calls Try.prog 6 args W fun e W' => ∃ v, e = .returned v ∧ Rows.imprintShapeSpec.post enc Try.prog Try.f6 false true false false W args v W' := by
  have hW' := hW
  obtain ⟨p, q, hA0, hV, rfl, hfz, hnd⟩ := hW
  have hA : DataW.TrodAll enc Try.prog W 0 (fun _ => true) true Try.f6.params.toList args.toList ds p := hA0
  rw [Try.params6] at hA hval
  obtain ⟨v0, vs0, d0, ds0, p0, q0, hargs, rfl, rfl, h0, r0⟩ := trodAll_cons hA
  obtain ⟨v1, vs1, d1, ds1, p1, q1, rfl, rfl, rfl, h1, r1⟩ := trodAll_cons r0
  obtain ⟨rfl, rfl, rfl⟩ := trodAll_nil r1
  obtain rfl : args = #[v0, v1] := by cases args; simp_all
  obtain ⟨rfl, rfl⟩ := trodVars_none hV
  obtain ⟨a0, ha0⟩ := open_volsA (hval 0 22 v0 rfl rfl) h0
  obtain ⟨a1, rfl, rfl, rfl, wa1⟩ := open_int Try.underlying3 (hval 1 3 v1 rfl rfl) h1
  clear hA0
  simp only [List.append_nil] at hW'
  refine (walk W a0 a1 ha0 (int_bounds wa1).1 (int_bounds wa1).2).mono fun e W' ⟨he, hg⟩ => ?_
  subst he
  exact ⟨_, rfl, law_post laidOut (by rw [Try.params6]; intro t ht; simp only [List.mem_cons, List.not_mem_nil, or_false] at ht; rcases ht with rfl | rfl <;> exact ⟨by kernel_rfl, of_decide_eq_true (by kernel_rfl)⟩) rfl (show Try.f6.resultTypes = #[4] by kernel_rfl) Try.underlying4 hW' hg rfl⟩
theorem reads (os : Os) {H : Type} (enc : TypeId × Value → H) : ∃ places, DataW.whole enc Try.prog ((laidWorld os).forCall (fun _ _ => 0) ⟨#[], (#[.slice none 0 0, .int .i64 0] : Array Value), []⟩).memory Try.f6.params.toList Rows.imprintShapeSpec.vars false (#[.slice none 0 0, .int .i64 0] : Array Value).toList 8 = some ([.nil, .lit (.int .i64 0)], [], places) :=
  ⟨[], by kernel_rfl⟩

set_option maxRecDepth 100000 in
theorem lifted (os : Os) (started : os.Started) (H : Type) (enc : TypeId × Value → H) (F : Stop.Interp) :
    ReturnsInHanded {} Try.checked os 6 .any ((OpenSpec.ofChange Rows.imprintShapeSpec).preRow enc Try.prog Try.f6 Rows.imprintShapeRow.domain false Rows.imprintShapeRow.laid) (((OpenSpec.ofChange Rows.imprintShapeSpec).at F).post enc Try.prog Try.f6 false true false false) := by
  obtain ⟨places, hx⟩ := reads os enc
  refine returnsInHanded_of_row (C := Try.checked) (s := OpenSpec.ofChange Rows.imprintShapeSpec) own started (by kernel_rfl) Try.func6
    (witness_row_at (enc := enc) (C := Try.checked) false (laidWorld os) #[.slice none 0 0, .int .i64 0] rfl (by kernel_rfl) (by kernel_rfl) (by kernel_rfl)
      (OpenSpec.preRow_of_cond 8 hx (by kernel_rfl) (fun k hk => by cases hk) (by kernel_rfl) (laid_nil _))) ?_
  intro W base args ds gs before hval hW _ _ _ _ _ _
  exact contract H enc W base args ds gs before hval hW

theorem said : Rows.ImprintShapeSaid :=
  OpenClaim.holds_of_cond 6 Try.f6 rfl rfl rfl rfl rfl rfl rfl ⟨rfl, rfl, rfl, rfl, rfl⟩ rfl rfl rfl rfl rfl (by kernel_rfl) Try.func6 (by kernel_rfl)
    (of_decide_eq_true (by kernel_rfl)) (by unfold Func.isWrapper; first | (rw [if_pos (by decide +kernel)]; kernel_rfl) | (rw [if_neg (by decide +kernel)]; exact ⟨rfl, rfl⟩))
    (fun os started H enc _ F => by rw [OpenClaim.pre_eq_preRow]; exact lifted os started H enc F)

end Go.Proofs.Ytpcmihgfcaelfaa.imprintShape
