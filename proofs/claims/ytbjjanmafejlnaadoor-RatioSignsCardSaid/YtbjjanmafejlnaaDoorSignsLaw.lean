/- RatioSigns: a text has a minus just where the number stands ahead of 0, and of a number below 1000 a dot ahead of its last three digits: the law returns true for every float. Condition: the three listed tables lie as the program's text lays them (the card ties that). -/
import Derived.Test.YtbjjanmafejlnaaDoorLaid1
import Derived.Test.YtbjjanmafejlnaaDoorFlSigns
namespace Go.Proofs.YtbjjanmafejlnaaDoor.ratioSigns
open Go.Stop Go.ChangeShapes Go.WideShapes Go.ChangeAt Go.RowKit

set_option maxHeartbeats 1000000 in
theorem walk (x : Nat) (hx : x < 2 ^ 64) (w : World) (hp : Pow10 w) :
    Calls Tryd.prog 5 #[.float .f64 x] w fun e w' => e = .returned (.bool true) ∧ Below w.heap.size w w' := by
  have ht := text_any x hx w hp
  have hless := less_any x 0 hx (by omega)
  have HT := Lib.hid ht; have HL := Lib.hid hless
  have hfx : ∀ w', Below w.heap.size w w' → Calls Tryd.prog 9 #[] w' fun e w'' => e = .returned (.bool true) ∧ Below w.heap.size w w'' :=
    fun w' hb => (fixed_any w' (pow_stays hp hb)).mono fun _ _ h => ⟨h.1, btrans hb h.2⟩
  have HF := Lib.hid hfx
  clear ht hless hfx hp
  by_cases h6 : Fl.kind x = 6
  · have hn : (FloatKind.f64.format.order x x != some Ordering.eq) = true := (Fl.none_kind x).2 h6
    have htl : Fl.textL x = [110, 97, 110] := by unfold Fl.textL; rw [if_pos h6]
    have HTL := Lib.hid htl
    clear htl h6
    go_enter Tryd.func5, Tryd.ntmps5
    go_wp2_with fail
    refine HT.out.mono ?_
    rintro e w1 ⟨rfl, hb1⟩
    rw [HTL.out]
    go_wp2_with fail
    refine (HF.out _ hb1).mono ?_
    rintro e w2 ⟨rfl, hb2⟩
    go_wp2_with fail
    go_ret
    exact ⟨rfl, hb2⟩
  · have hn : (FloatKind.f64.format.order x x != some Ordering.eq) = false := Fl.none_kind' x h6
    obtain ⟨b, rest, htl, hb⟩ := Fl.head_sign x h6
    have hS0 : 0 < (⟨(Fl.textL x).toArray⟩ : ByteArray).size := by rw [htl]; show 0 < Array.size _; simp
    have hS1 : ((((⟨(Fl.textL x).toArray⟩ : ByteArray)[0].toNat : Int) == 45)) = Fl.lessF x 0 := by
      have e : (⟨(Fl.textL x).toArray⟩ : ByteArray)[0] = b := by show (Fl.textL x).toArray[0] = b; simp [htl]
      rw [e]
      cases hl : Fl.lessF x 0
      · have : b.toNat ≠ 45 := fun h => by rw [hb.1 h] at hl; cases hl
        simp; omega
      · have := hb.2 hl; simp [this]
    have hcase : (Fl.leM1000 x = true) ∨ (Fl.leM1000 x = false ∧ Fl.ge1000 x = true) ∨ (Fl.leM1000 x = false ∧ Fl.ge1000 x = false ∧
        5 ≤ (⟨(Fl.textL x).toArray⟩ : ByteArray).size ∧ (⟨(Fl.textL x).toArray⟩ : ByteArray).size ≤ 100 ∧ ∀ h : (⟨(Fl.textL x).toArray⟩ : ByteArray).size - 4 < (⟨(Fl.textL x).toArray⟩ : ByteArray).size, (((⟨(Fl.textL x).toArray⟩ : ByteArray)[(⟨(Fl.textL x).toArray⟩ : ByteArray).size - 4].toNat : Int) == 46) = true) := by
      cases h1 : Fl.leM1000 x
      · cases h2 : Fl.ge1000 x
        · refine .inr (.inr ⟨rfl, rfl, ?_⟩)
          obtain ⟨sg, m, hs, hsl, hm⟩ := Fl.small_text x h6 h2 h1
          obtain ⟨hlt, h5, hdot⟩ := Fl.body_dot sg m
          have hlen : (Fl.textL x).length ≤ 100 := by
            rw [hs, List.length_append, Fl.dotted_len, Fl.pad4_len]
            have := decDigits_len m hm
            omega
          generalize sg ++ Fl.dotted (Fl.pad4 (Lib.decDigits m)) = L at *
          subst hs
          have hsize : (⟨(Fl.textL x).toArray⟩ : ByteArray).size = (Fl.textL x).length := by show Array.size _ = _; simp
          refine ⟨by omega, by omega, ?_⟩
          intro h
          have e : (⟨(Fl.textL x).toArray⟩ : ByteArray)[(⟨(Fl.textL x).toArray⟩ : ByteArray).size - 4] = 46 := by
            show (Fl.textL x).toArray[(⟨(Fl.textL x).toArray⟩ : ByteArray).size - 4] = 46
            rw [← hdot]
            simp only [List.getElem_toArray]
            congr 1
          rw [e]; decide
        · exact .inr (.inl ⟨rfl, rfl⟩)
      · exact .inl rfl
    have hcase' : ((FloatKind.f64.format.order x 13875379345695965184 == some .lt || FloatKind.f64.format.order x 13875379345695965184 == some .eq) = Fl.leM1000 x) := rfl
    have hcase2 : ((FloatKind.f64.format.order x 4652007308841189376 == some .gt || FloatKind.f64.format.order x 4652007308841189376 == some .eq) = Fl.ge1000 x) := rfl
    have hT : Hid (Calls Tryd.prog 14 #[.float .f64 x] w fun e w' => e = .returned (.string ⟨(Fl.textL x).toArray⟩) ∧ Below w.heap.size w w') := HT.out
    have hE1 : ¬ (⟨(Fl.textL x).toArray⟩ : ByteArray).toList = [] := by rw [htl]; simp
    have hE2 : (!(⟨(Fl.textL x).toArray⟩ : ByteArray).toList.isEmpty) = true := by rw [htl]; simp
    have hE3 : (⟨(Fl.textL x).toArray⟩ : ByteArray).toList.isEmpty = false := by rw [htl]; simp
    clear HT hb htl
    generalize (⟨(Fl.textL x).toArray⟩ : ByteArray) = S at *
    go_enter Tryd.func5, Tryd.ntmps5
    go_wp2_with fail
    refine hT.out.mono ?_
    rintro e w1 ⟨rfl, hb1⟩
    go_wp2_with fail
    refine (HF.out _ hb1).mono ?_
    rintro e w2 ⟨rfl, hb2⟩
    go_wp2_with fail
    clear hT hE1 hE2 hE3
    generalize Fl.lessF x 0 = l at *
    clear hb1
    generalize Fl.leM1000 x = m1 at *
    generalize Fl.ge1000 x = m2 at *
    have hsz : (0 : Int) < (S.size : Int) := by omega
    have hfin : ∀ wz, Below w.heap.size w wz → (Ending.returned (.bool true) = .returned (.bool true) ∧ Below w.heap.size w wz) := fun wz h => ⟨rfl, h⟩
    rcases hcase with rfl | ⟨rfl, rfl⟩ | ⟨rfl, rfl, hn1, hn2, hdot⟩ <;> cases l
    · clear hcase2
      go_quiet ((go_at_call 16; exact quiet_left (HL.out _)))
      go_wp2_with fail
      go_ret
      exact ⟨rfl, below_drewN' hb2 _⟩
    · clear hcase2
      go_quiet ((go_at_call 16; exact quiet_left (HL.out _)))
      go_wp2_with fail
      go_ret
      exact ⟨rfl, below_drewN' hb2 _⟩
    · go_quiet ((go_at_call 16; exact quiet_left (HL.out _)))
      go_wp2_with fail
      go_ret
      exact ⟨rfl, below_drewN' hb2 _⟩
    · go_quiet ((go_at_call 16; exact quiet_left (HL.out _)))
      go_wp2_with fail
      go_ret
      exact ⟨rfl, below_drewN' hb2 _⟩
    all_goals
      have hd2 : S.size - 4 < S.size := by omega
      have hz1 : (5 : Int) ≤ (S.size : Int) := by omega
      have hz2 : (S.size : Int) ≤ 100 := by omega
      have hd3 := hdot hd2
      clear hdot
      go_quiet ((go_at_call 16; exact quiet_left (HL.out _)))
      go_wp2_with fail
      go_ret
      refine ⟨?_, below_drewN' hb2 _⟩
      rfl

theorem contract (H : Type) (enc : TypeId × Value → H) (W : World) (base : Nat) (args : Array Value) (ds gs : List (DataW H)) (before : List MemPlace)
    (hval : ∀ (j : Nat) t v, Tryd.f5.params[j]? = some t → args[j]? = some v → Value.okWide Tryd.prog W .any base t v)
    (hW : DataW.Whole enc Tryd.prog Tryd.f5.params.toList Rows.ratioSignsSpec.vars false W args.toList ds gs before) (hL : laidMetH Tryd.prog Rows.ratioSignsRow.laid W) :
    Calls Tryd.prog 5 args W fun e W' => ∃ v, e = .returned v ∧ Rows.ratioSignsSpec.post enc Tryd.prog Tryd.f5 false true false false W args v W' := by
  have hW' := hW
  obtain ⟨p, q, hA0, hV, rfl, hfz, hnd⟩ := hW
  have hA : DataW.TrodAll enc Tryd.prog W 0 (fun _ => true) true Tryd.f5.params.toList args.toList ds p := hA0
  rw [Tryd.params5] at hA hval
  obtain ⟨v0, vs0, d0, ds0, p0, q0, hargs, rfl, rfl, h0, r0⟩ := trodAll_cons hA
  obtain ⟨rfl, rfl, rfl⟩ := trodAll_nil r0
  obtain rfl : args = #[v0] := by cases args; simp_all
  obtain ⟨rfl, rfl⟩ := trodVars_none hV
  obtain ⟨a0, rfl, rfl, rfl, wa0⟩ := open_float Tryd.underlying22 (hval 0 22 v0 rfl rfl) h0
  clear hA0
  simp only [List.append_nil] at hW'
  refine (walk a0 (float_lt wa0) W (pow10_met hL)).mono fun e W' ⟨he, hg⟩ => ?_
  subst he
  exact ⟨_, rfl, law_post laidOut (by rw [Tryd.params5]; intro t ht; simp only [List.mem_cons, List.not_mem_nil, or_false] at ht; subst ht; exact ⟨by kernel_rfl, of_decide_eq_true (by kernel_rfl)⟩) rfl (show Tryd.f5.resultTypes = #[4] by kernel_rfl) Tryd.underlying4 hW' hg rfl⟩
theorem reads (os : Os) {H : Type} (enc : TypeId × Value → H) : ∃ places, DataW.whole enc Tryd.prog ((laidWorld os).forCall (fun _ _ => 0) ⟨#[], (#[.float .f64 0] : Array Value), []⟩).memory Tryd.f5.params.toList Rows.ratioSignsSpec.vars false (#[.float .f64 0] : Array Value).toList 8 = some ([.lit (.float .f64 0)], [], places) :=
  ⟨[], by kernel_rfl⟩

set_option maxRecDepth 100000 in
theorem lifted (os : Os) (started : os.Started) (H : Type) (enc : TypeId × Value → H) (F : Stop.Interp) :
    ReturnsInHanded {} Tryd.checked os 5 .any ((OpenSpec.ofChange Rows.ratioSignsSpec).preRow enc Tryd.prog Tryd.f5 Rows.ratioSignsRow.domain false Rows.ratioSignsRow.laid) (((OpenSpec.ofChange Rows.ratioSignsSpec).at F).post enc Tryd.prog Tryd.f5 false true false false) := by
  obtain ⟨places, hx⟩ := reads os enc
  refine returnsInHanded_of_row (C := Tryd.checked) (s := OpenSpec.ofChange Rows.ratioSignsSpec) own started (by kernel_rfl) Tryd.func5
    (witness_row_at (enc := enc) (C := Tryd.checked) false (laidWorld os) #[.float .f64 0] rfl (by kernel_rfl) (by kernel_rfl) (by kernel_rfl)
      (OpenSpec.preRow_of_cond 8 hx (by kernel_rfl) (fun k hk => by cases hk) (by kernel_rfl) (laid_met os _))) ?_
  intro W base args ds gs before hval hW _ _ _ hL _ _
  exact contract H enc W base args ds gs before hval hW hL

theorem said : Rows.RatioSignsSaid :=
  OpenClaim.holds_of_cond 5 Tryd.f5 rfl rfl rfl rfl rfl rfl rfl ⟨rfl, rfl, rfl, rfl, rfl⟩ rfl rfl rfl rfl rfl (by kernel_rfl) Tryd.func5 (by kernel_rfl)
    (of_decide_eq_true (by kernel_rfl)) (by unfold Func.isWrapper; first | (rw [if_pos (by decide +kernel)]; kernel_rfl) | (rw [if_neg (by decide +kernel)]; exact ⟨rfl, rfl⟩))
    (fun os started H enc _ F => by rw [OpenClaim.pre_eq_preRow]; exact lifted os started H enc F)

theorem plain (f : FuncId) (fn : Func) (hf : Tryd.pinned.checked.prog.funcNamed Rows.ratioSignsRow.func = some f) (hfn : Tryd.pinned.checked.prog.funcs[f]? = some fn) :
    false = Tryd.pinned.checked.prog.looks [] ∧ ∀ (j : Nat) t, fn.params[j]? = some t → Tryd.pinned.checked.prog.wantsStandIn t = false := by
  obtain rfl : f = 5 := Option.some.inj ((show Tryd.prog.funcNamed Rows.ratioSignsRow.func = some 5 by kernel_rfl).symm.trans hf) |>.symm
  obtain rfl : fn = Tryd.f5 := (Option.some.inj (Tryd.func5.symm.trans hfn)).symm
  refine ⟨by kernel_rfl, fun j t ht => ?_⟩
  rw [Tryd.params5] at ht
  have hm := Array.mem_of_getElem? ht
  simp only [List.mem_toArray, List.mem_cons, List.not_mem_nil, or_false] at hm
  subst hm
  exact (show Tryd.prog.wantsStandIn 22 = false by kernel_rfl)

theorem card : Rows.RatioSignsCardSaid :=
  Claim7.holds_tied_plain_at .later [] _ _ _ _ said (fun _ h => by cases h) (by kernel_rfl) (fun _ h => by cases h) ratioSigns_row_tie rfl ⟨rfl, rfl⟩ (by kernel_rfl) rfl plain (by kernel_rfl)
end Go.Proofs.YtbjjanmafejlnaaDoor.ratioSigns
