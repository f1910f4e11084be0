/- The walk of ImprintBack. · ImprintBack: volumes that may be are read from their text, and what is read is told by just that text: the law returns true for every input. No condition. -/
import Derived.Test.YtpcmihgfcaelfaaIO
import Derived.Test.YtpcmihgfcaelfaaIP
namespace Go.Proofs.Ytpcmihgfcaelfaa
open Go.RowKit

set_option maxRecDepth 100000 in
set_option maxHeartbeats 4000000 in
theorem back_walk (l m : List VoD) (s : ByteArray) (v1 v2 : Value) (w : World) (h1 : VolsAt w v1 l) (h2 : VolsAt w v2 m) (hsz : s.size ≤ maxLen) : Calls Try.prog 4 #[v1, v2, .string s] w fun e w' => e = .returned (.bool true) ∧ Below w.heap.size w w' := by
  have HVL := Lib.hid h1; have HVM := Lib.hid h2
  obtain ⟨p1, c1, rfl, _, _, _⟩ := h1
  obtain ⟨p2, c2, rfl, _, _, _⟩ := h2
  obtain ⟨n1, hn1⟩ : ∃ n, l.length = n := ⟨_, rfl⟩
  obtain ⟨n2, hn2⟩ : ∃ n, m.length = n := ⟨_, rfl⟩
  rw [hn1] at HVL ⊢
  rw [hn2] at HVM ⊢
  have hlc : (s.size : Int) ≤ 9223372036854775807 := by unfold maxLen at hsz; omega
  clear hn1 hn2 hsz
  cases hs1 : smallVs l with
  | false =>
    have HS1 := Lib.hid hs1; clear hs1
    go_enter Try.func4, Try.ntmps4
    have HB := Lib.hid (show Below w.heap.size w w from Below.refl _ _)
    go_wp2_with fail
    refine (fixed_any _).mono ?_
    rintro e wx ⟨rfl, hb⟩
    have HB := Lib.hid (btrans HB.out hb)
    clear hb
    go_wp2_with fail
    refine (rsmall18_any l _ _ (HVL.out.keep (keeps_below HB.out))).mono ?_
    rintro e wx ⟨rfl, hb⟩
    rw [HS1.out]
    have HB := Lib.hid (btrans HB.out hb)
    clear hb
    go_wp2_with fail
    refine (fixed_any _).mono ?_
    rintro e wx ⟨rfl, hb⟩
    have HB := Lib.hid (btrans HB.out hb)
    clear hb
    go_wp2_with fail
    go_ret
    exact ⟨rfl, HB.out⟩
  | true =>
  have HS1 := Lib.hid hs1; have HL1 := Lib.hid (smallVs_trees hs1); have HX1 := Lib.hid (text_short hs1); clear hs1
  cases hs2 : smallVs m with
  | false =>
    have HS2 := Lib.hid hs2; clear hs2
    go_enter Try.func4, Try.ntmps4
    have HB := Lib.hid (show Below w.heap.size w w from Below.refl _ _)
    go_wp2_with fail
    refine (fixed_any _).mono ?_
    rintro e wx ⟨rfl, hb⟩
    have HB := Lib.hid (btrans HB.out hb)
    clear hb
    go_wp2_with fail
    refine (rsmall18_any l _ _ (HVL.out.keep (keeps_below HB.out))).mono ?_
    rintro e wx ⟨rfl, hb⟩
    rw [HS1.out]
    have HB := Lib.hid (btrans HB.out hb)
    clear hb
    go_wp2_with fail
    refine (rsmall18_any m _ _ (HVM.out.keep (keeps_below HB.out))).mono ?_
    rintro e wx ⟨rfl, hb⟩
    rw [HS2.out]
    have HB := Lib.hid (btrans HB.out hb)
    clear hb
    go_wp2_with fail
    refine (fixed_any _).mono ?_
    rintro e wx ⟨rfl, hb⟩
    have HB := Lib.hid (btrans HB.out hb)
    clear hb
    go_wp2_with fail
    go_ret
    exact ⟨rfl, HB.out⟩
  | true =>
  have HS2 := Lib.hid hs2; have HL2 := Lib.hid (smallVs_trees hs2); clear hs2
  by_cases hz : (2000 : Int) < (s.size : Int)
  · skip
    go_enter Try.func4, Try.ntmps4
    have HB := Lib.hid (show Below w.heap.size w w from Below.refl _ _)
    go_wp2_with fail
    refine (fixed_any _).mono ?_
    rintro e wx ⟨rfl, hb⟩
    have HB := Lib.hid (btrans HB.out hb)
    clear hb
    go_wp2_with fail
    refine (rsmall18_any l _ _ (HVL.out.keep (keeps_below HB.out))).mono ?_
    rintro e wx ⟨rfl, hb⟩
    rw [HS1.out]
    have HB := Lib.hid (btrans HB.out hb)
    clear hb
    go_wp2_with fail
    refine (rsmall18_any m _ _ (HVM.out.keep (keeps_below HB.out))).mono ?_
    rintro e wx ⟨rfl, hb⟩
    rw [HS2.out]
    have HB := Lib.hid (btrans HB.out hb)
    clear hb
    go_wp2_with fail
    refine (fixed_any _).mono ?_
    rintro e wx ⟨rfl, hb⟩
    have HB := Lib.hid (btrans HB.out hb)
    clear hb
    go_wp2_with fail
    go_ret
    exact ⟨rfl, HB.out⟩
  have HSZ := Lib.hid (show s.size ≤ 2000 by omega)
  go_enter Try.func4, Try.ntmps4
  have HB := Lib.hid (show Below w.heap.size w w from Below.refl _ _)
  go_wp2_with fail
  refine (fixed_any _).mono ?_
  rintro e wx ⟨rfl, hb⟩
  have HB := Lib.hid (btrans HB.out hb)
  clear hb
  go_wp2_with fail
  refine (rsmall18_any l _ _ (HVL.out.keep (keeps_below HB.out))).mono ?_
  rintro e wx ⟨rfl, hb⟩
  rw [HS1.out]
  have HB := Lib.hid (btrans HB.out hb)
  clear hb
  go_wp2_with fail
  refine (rsmall18_any m _ _ (HVM.out.keep (keeps_below HB.out))).mono ?_
  rintro e wx ⟨rfl, hb⟩
  rw [HS2.out]
  have HB := Lib.hid (btrans HB.out hb)
  clear hb
  go_wp2_with fail
  clear hz
  refine (pText_any l _ _ (HVL.out.keep (keeps_below HB.out)) HL1.out).mono ?_
  rintro e wt ⟨rfl, hb⟩
  have HB := Lib.hid (btrans HB.out hb); clear hb
  go_wp2_with fail
  cases hm1 : mayVB l with
  | false =>
    have HM1 := Lib.hid hm1; clear hm1
    refine (read_nil _ l HM1.out).mono ?_
    rintro e wr ⟨rfl, hb⟩
    have HB := Lib.hid (btrans HB.out hb); clear hb
    go_wp2_with fail
    refine (rmay18_any l _ _ (HVL.out.keep (keeps_below HB.out)) HL1.out).mono ?_
    rintro e wx ⟨rfl, hb⟩
    rw [HM1.out]
    have HB := Lib.hid (btrans HB.out hb)
    clear hb
    go_wp2_with fail
    refine (read_text s HSZ.out _).mono ?_
    rintro e wq ⟨hb, rfl | ⟨v, x, rfl, hv, hsx, hmx, htx⟩⟩
    · have HB := Lib.hid (btrans HB.out hb); clear hb
      go_wp2_with fail
      refine (rmay18_any l _ _ (HVL.out.keep (keeps_below HB.out)) HL1.out).mono ?_
      rintro e wx ⟨rfl, hb⟩
      rw [HM1.out]
      have HB := Lib.hid (btrans HB.out hb)
      clear hb
      go_wp2_with fail
      go_ret
      exact ⟨rfl, HB.out⟩
    · have HB := Lib.hid (btrans HB.out hb); have HVX := Lib.hid hv; have HSX := Lib.hid hsx
      have HTX := Lib.hid (show (⟨(textV x).toArray⟩ : ByteArray) = s by rw [htx])
      obtain ⟨px, cx, rfl, _, _, _⟩ := hv
      clear hb hsx hmx htx
      go_wp2_with fail
      refine (pText_any x _ _ HVX.out HSX.out).mono ?_
      rintro e wx ⟨rfl, hb⟩
      rw [HTX.out]
      have HB := Lib.hid (btrans HB.out hb)
      clear hb
      go_wp2_with fail
      refine (rmay18_any l _ _ (HVL.out.keep (keeps_below HB.out)) HL1.out).mono ?_
      rintro e wx ⟨rfl, hb⟩
      rw [HM1.out]
      have HB := Lib.hid (btrans HB.out hb)
      clear hb
      go_wp2_with fail
      go_ret
      exact ⟨rfl, HB.out⟩
  | true =>
  have HM1 := Lib.hid hm1; clear hm1
  refine (read_back l HM1.out HL1.out HX1.out _).mono ?_
  rintro e wr ⟨va, a, rfl, hva, hra, hma, hb⟩
  have HB := Lib.hid (btrans HB.out hb); have HVA := Lib.hid hva; have HRA := Lib.hid (rvs_of hra); have HMA := Lib.hid hma; have HSA := Lib.hid (hra.small (rvs_few HL1.out))
  obtain ⟨pa, ca, rfl, _, _, _⟩ := hva
  clear hb hra hma
  go_wp2_with fail
  refine (rmay18_any l _ _ (HVL.out.keep (keeps_below HB.out)) HL1.out).mono ?_
  rintro e wx ⟨rfl, hb⟩
  rw [HM1.out]
  have HB := Lib.hid (btrans HB.out hb)
  have HVA := Lib.hid (HVA.out.keep (keeps_below hb))
  clear hb
  go_wp2_with fail
  refine (rsame18_any a l _ _ _ HVA.out (HVL.out.keep (keeps_below HB.out)) HSA.out HL1.out).mono ?_
  rintro e wx ⟨rfl, hb⟩
  rw [same_rvs.2 HRA.out]
  have HB := Lib.hid (btrans HB.out hb)
  have HVA := Lib.hid (HVA.out.keep (keeps_below hb))
  clear hb
  go_wp2_with fail
  refine (rmay18_any a _ _ HVA.out HSA.out).mono ?_
  rintro e wx ⟨rfl, hb⟩
  rw [HMA.out]
  have HB := Lib.hid (btrans HB.out hb)
  clear hb
  go_wp2_with fail
  refine (read_text s HSZ.out _).mono ?_
  rintro e wq ⟨hb, rfl | ⟨v, x, rfl, hv, hsx, hmx, htx⟩⟩
  · have HB := Lib.hid (btrans HB.out hb); clear hb
    go_wp2_with fail
    refine (rmay18_any l _ _ (HVL.out.keep (keeps_below HB.out)) HL1.out).mono ?_
    rintro e wx ⟨rfl, hb⟩
    rw [HM1.out]
    have HB := Lib.hid (btrans HB.out hb)
    clear hb
    go_wp2_with fail
    cases hm2 : mayVB m with
    | false =>
      have HM2 := Lib.hid hm2; clear hm2
      refine (rmay18_any m _ _ (HVM.out.keep (keeps_below HB.out)) HL2.out).mono ?_
      rintro e wx ⟨rfl, hb⟩
      rw [HM2.out]
      have HB := Lib.hid (btrans HB.out hb)
      clear hb
      go_wp2_with fail
      go_ret
      exact ⟨rfl, HB.out⟩
    | true =>
      have HM2 := Lib.hid hm2; clear hm2
      refine (rmay18_any m _ _ (HVM.out.keep (keeps_below HB.out)) HL2.out).mono ?_
      rintro e wx ⟨rfl, hb⟩
      rw [HM2.out]
      have HB := Lib.hid (btrans HB.out hb)
      clear hb
      go_wp2_with fail
      refine (pText_any l _ _ (HVL.out.keep (keeps_below HB.out)) HL1.out).mono ?_
      rintro e wx ⟨rfl, hb⟩
      have HB := Lib.hid (btrans HB.out hb)
      clear hb
      go_wp2_with fail
      refine (pText_any m _ _ (HVM.out.keep (keeps_below HB.out)) HL2.out).mono ?_
      rintro e wx ⟨rfl, hb⟩
      have HB := Lib.hid (btrans HB.out hb)
      clear hb
      go_wp2_with fail
      refine (rsame18_any l m _ _ _ (HVL.out.keep (keeps_below HB.out)) (HVM.out.keep (keeps_below HB.out)) HL1.out HL2.out).mono ?_
      rintro e wz ⟨rfl, hb⟩
      have HB := Lib.hid (btrans HB.out hb); clear hb
      have HTS := Lib.hid (text_same HM1.out HM2.out HL1.out HL2.out)
      by_cases hsm : sameVs l m = true
      · rw [hsm, HTS.out.2 hsm]
        clear hsm
        go_wp2_with fail
        go_ret
        exact ⟨rfl, HB.out⟩
      · have hne : (textV l == textV m) = false := beq_eq_false_iff_ne.2 (fun e => hsm (HTS.out.1 e))
        rw [show sameVs l m = false by simpa using hsm]
        clear hsm
        go_wp2_with fail
        go_ret
        exact ⟨rfl, HB.out⟩
  · have HB := Lib.hid (btrans HB.out hb); have HVX := Lib.hid hv; have HSX := Lib.hid hsx
    have HTX := Lib.hid (show (⟨(textV x).toArray⟩ : ByteArray) = s by rw [htx])
    obtain ⟨px, cx, rfl, _, _, _⟩ := hv
    clear hb hsx hmx htx
    go_wp2_with fail
    refine (pText_any x _ _ HVX.out HSX.out).mono ?_
    rintro e wx ⟨rfl, hb⟩
    rw [HTX.out]
    have HB := Lib.hid (btrans HB.out hb)
    clear hb
    go_wp2_with fail
    refine (rmay18_any l _ _ (HVL.out.keep (keeps_below HB.out)) HL1.out).mono ?_
    rintro e wx ⟨rfl, hb⟩
    rw [HM1.out]
    have HB := Lib.hid (btrans HB.out hb)
    clear hb
    go_wp2_with fail
    cases hm2 : mayVB m with
    | false =>
      have HM2 := Lib.hid hm2; clear hm2
      refine (rmay18_any m _ _ (HVM.out.keep (keeps_below HB.out)) HL2.out).mono ?_
      rintro e wx ⟨rfl, hb⟩
      rw [HM2.out]
      have HB := Lib.hid (btrans HB.out hb)
      clear hb
      go_wp2_with fail
      go_ret
      exact ⟨rfl, HB.out⟩
    | true =>
      have HM2 := Lib.hid hm2; clear hm2
      refine (rmay18_any m _ _ (HVM.out.keep (keeps_below HB.out)) HL2.out).mono ?_
      rintro e wx ⟨rfl, hb⟩
      rw [HM2.out]
      have HB := Lib.hid (btrans HB.out hb)
      clear hb
      go_wp2_with fail
      refine (pText_any l _ _ (HVL.out.keep (keeps_below HB.out)) HL1.out).mono ?_
      rintro e wx ⟨rfl, hb⟩
      have HB := Lib.hid (btrans HB.out hb)
      clear hb
      go_wp2_with fail
      refine (pText_any m _ _ (HVM.out.keep (keeps_below HB.out)) HL2.out).mono ?_
      rintro e wx ⟨rfl, hb⟩
      have HB := Lib.hid (btrans HB.out hb)
      clear hb
      go_wp2_with fail
      refine (rsame18_any l m _ _ _ (HVL.out.keep (keeps_below HB.out)) (HVM.out.keep (keeps_below HB.out)) HL1.out HL2.out).mono ?_
      rintro e wz ⟨rfl, hb⟩
      have HB := Lib.hid (btrans HB.out hb); clear hb
      have HTS := Lib.hid (text_same HM1.out HM2.out HL1.out HL2.out)
      by_cases hsm : sameVs l m = true
      · rw [hsm, HTS.out.2 hsm]
        clear hsm
        go_wp2_with fail
        go_ret
        exact ⟨rfl, HB.out⟩
      · have hne : (textV l == textV m) = false := beq_eq_false_iff_ne.2 (fun e => hsm (HTS.out.1 e))
        rw [show sameVs l m = false by simpa using hsm]
        clear hsm
        go_wp2_with fail
        go_ret
        exact ⟨rfl, HB.out⟩
end Go.Proofs.Ytpcmihgfcaelfaa
namespace Go.Proofs.Ytpcmihgfcaelfaa.imprintBack
open Go.Stop Go.ChangeShapes Go.WideShapes Go.ChangeAt Go.RowKit
open Go.ChangeMaps (open_string)

theorem walk (W : World) (l m : List VoD) (s : ByteArray) {v1 v2 : Value} (h1 : VolsAt W v1 l) (h2 : VolsAt W v2 m) (hs : s.size ≤ maxLen) :
    Calls Try.prog 4 #[v1, v2, .string s] W fun e W' => e = .returned (.bool true) ∧ Below W.heap.size W W' := back_walk l m s v1 v2 W h1 h2 hs

set_option maxRecDepth 100000 in
theorem contract (H : Type) (enc : TypeId × Value → H) (W : World) (base : Nat) (args : Array Value) (ds gs : List (DataW H)) (before : List MemPlace)
    (hval : ∀ (j : Nat) t v, Try.f4.params[j]? = some t → args[j]? = some v → Value.okWide Try.prog W .any base t v)
    (hW : DataW.Whole enc Try.prog Try.f4.params.toList Rows.imprintBackSpec.vars false W args.toList ds gs before) :
    Calls Try.prog 4 args W fun e W' => ∃ v, e = .returned v ∧ Rows.imprintBackSpec.post enc Try.prog Try.f4 false true false false W args v W' := by
  have hW' := hW
  obtain ⟨p, q, hA0, hV, rfl, hfz, hnd⟩ := hW
  have hA : DataW.TrodAll enc Try.prog W 0 (fun _ => true) true Try.f4.params.toList args.toList ds p := hA0
  rw [Try.params4] at hA hval
  obtain ⟨v0, vs0, d0, ds0, p0, q0, hargs, rfl, rfl, h0, r0⟩ := trodAll_cons hA
  obtain ⟨v1, vs1, d1, ds1, p1, q1, rfl, rfl, rfl, h1, r1⟩ := trodAll_cons r0
  obtain ⟨v2, vs2, d2, ds2, p2, q2, rfl, rfl, rfl, h2, r2⟩ := trodAll_cons r1
  obtain ⟨rfl, rfl, rfl⟩ := trodAll_nil r2
  obtain rfl : args = #[v0, v1, v2] := by cases args; simp_all
  obtain ⟨rfl, rfl⟩ := trodVars_none hV
  obtain ⟨a0, ha0⟩ := open_volsA (hval 0 22 v0 rfl rfl) h0
  obtain ⟨a1, ha1⟩ := open_volsA (hval 1 22 v1 rfl rfl) h1
  obtain ⟨a2, rfl, rfl, rfl, wa2⟩ := open_string Try.underlying9 (hval 2 9 v2 rfl rfl) h2
  clear hA0
  simp only [List.append_nil] at hW'
  refine (walk W a0 a1 a2 ha0 ha1 wa2).mono fun e W' ⟨he, hg⟩ => ?_
  subst he
  exact ⟨_, rfl, law_post laidOut (by rw [Try.params4]; intro t ht; simp only [List.mem_cons, List.not_mem_nil, or_false] at ht; rcases ht with rfl | rfl | rfl <;> exact ⟨by kernel_rfl, of_decide_eq_true (by kernel_rfl)⟩) rfl (show Try.f4.resultTypes = #[4] by kernel_rfl) Try.underlying4 hW' hg rfl⟩
theorem reads (os : Os) {H : Type} (enc : TypeId × Value → H) : ∃ places, DataW.whole enc Try.prog ((laidWorld os).forCall (fun _ _ => 0) ⟨#[], (#[.slice none 0 0, .slice none 0 0, .string ⟨#[]⟩] : Array Value), []⟩).memory Try.f4.params.toList Rows.imprintBackSpec.vars false (#[.slice none 0 0, .slice none 0 0, .string ⟨#[]⟩] : Array Value).toList 8 = some ([.nil, .nil, .lit (.string [])], [], places) :=
  ⟨[], by kernel_rfl⟩

set_option maxRecDepth 100000 in
theorem lifted (os : Os) (started : os.Started) (H : Type) (enc : TypeId × Value → H) (F : Stop.Interp) :
    ReturnsInHanded {} Try.checked os 4 .any ((OpenSpec.ofChange Rows.imprintBackSpec).preRow enc Try.prog Try.f4 Rows.imprintBackRow.domain false Rows.imprintBackRow.laid) (((OpenSpec.ofChange Rows.imprintBackSpec).at F).post enc Try.prog Try.f4 false true false false) := by
  obtain ⟨places, hx⟩ := reads os enc
  refine returnsInHanded_of_row (C := Try.checked) (s := OpenSpec.ofChange Rows.imprintBackSpec) own started (by kernel_rfl) Try.func4
    (witness_row_at (enc := enc) (C := Try.checked) false (laidWorld os) #[.slice none 0 0, .slice none 0 0, .string ⟨#[]⟩] rfl (by kernel_rfl) (by kernel_rfl) (by kernel_rfl)
      (OpenSpec.preRow_of_cond 8 hx (by kernel_rfl) (fun k hk => by cases hk) (by kernel_rfl) (laid_nil _))) ?_
  intro W base args ds gs before hval hW _ _ _ _ _ _
  exact contract H enc W base args ds gs before hval hW

theorem said : Rows.ImprintBackSaid :=
  OpenClaim.holds_of_cond 4 Try.f4 rfl rfl rfl rfl rfl rfl rfl ⟨rfl, rfl, rfl, rfl, rfl⟩ rfl rfl rfl rfl rfl (by kernel_rfl) Try.func4 (by kernel_rfl)
    (of_decide_eq_true (by kernel_rfl)) (by unfold Func.isWrapper; first | (rw [if_pos (by decide +kernel)]; kernel_rfl) | (rw [if_neg (by decide +kernel)]; exact ⟨rfl, rfl⟩))
    (fun os started H enc _ F => by rw [OpenClaim.pre_eq_preRow]; exact lifted os started H enc F)

end Go.Proofs.Ytpcmihgfcaelfaa.imprintBack
