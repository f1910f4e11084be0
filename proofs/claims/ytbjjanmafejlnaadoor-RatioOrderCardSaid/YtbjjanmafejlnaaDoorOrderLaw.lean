/- RatioOrder: of any three floats just one of three holds, the order passes on, none stands ahead of itself: the law returns true for every input. Condition: the three listed tables lie as the program's text lays them (the card ties that). -/
import Derived.Test.YtbjjanmafejlnaaDoorLaid1
namespace Go.Proofs.YtbjjanmafejlnaaDoor.ratioOrder
open Go.Stop Go.ChangeShapes Go.WideShapes Go.ChangeAt Go.RowKit

set_option maxHeartbeats 1000000 in
theorem walk (a b c : Nat) (ha : a < 2 ^ 64) (hb : b < 2 ^ 64) (hc : c < 2 ^ 64) (w : World) (hp : Pow10 w) :
    Calls Tryd.prog 4 #[.float .f64 a, .float .f64 b, .float .f64 c] w fun e w' => e = .returned (.bool true) ∧ Below w.heap.size w w' := by
  have h1 := less_any a b ha hb
  have h2 := less_any b a hb ha
  have h3 := same_any a b ha hb
  have h4 := less_any a a ha ha
  have h5 := same_any a a ha ha
  have h6 := less_any b c hb hc
  have h7 := less_any a c ha hc
  have h8 := same_any b c hb hc
  have h9 := same_any a c ha hc
  have e5 : Fl.sameF a a = true := by unfold Fl.sameF; rw [Fl.less_irrefl]; rfl
  rw [Fl.less_irrefl] at h4
  rw [e5] at h5
  have tr : Fl.lessF a b = true → Fl.lessF b c = true → Fl.lessF a c = true := Fl.less_trans
  have ts : Fl.sameF a b = true → Fl.sameF b c = true → Fl.sameF a c = true := Fl.same_trans
  have asy : Fl.lessF a b = true → Fl.lessF b a = false := Fl.less_asymm
  have ss : Fl.sameF a b = (!Fl.lessF a b && !Fl.lessF b a) := rfl
  have H1 := Lib.hid h1; have H2 := Lib.hid h2; have H3 := Lib.hid h3; have H4 := Lib.hid h4; have H5 := Lib.hid h5; have H6 := Lib.hid h6; have H7 := Lib.hid h7; have H8 := Lib.hid h8; have H9 := Lib.hid h9
  have hfx := fixed_any w hp
  have HF := Lib.hid hfx
  clear h1 h2 h3 h4 h5 h6 h7 h8 h9 e5 hfx hp ha hb hc
  generalize Fl.lessF a b = l1 at *
  generalize Fl.lessF b a = l2 at *
  generalize Fl.sameF a b = s1 at *
  generalize Fl.lessF b c = l3 at *
  generalize Fl.lessF a c = l4 at *
  generalize Fl.sameF b c = s2 at *
  generalize Fl.sameF a c = s3 at *
  subst ss
  cases l1 <;> cases l2 <;> simp at asy
  all_goals
    have TR := Lib.hid tr; have TS := Lib.hid ts
    clear tr ts
    go_enter Tryd.func4, Tryd.ntmps4
    go_wp2_with (first | (go_at_call 16; first | ((with_reducible refine (H1.out _).mono ?_); rintro e w' ⟨rfl, rfl⟩) | ((with_reducible refine (H2.out _).mono ?_); rintro e w' ⟨rfl, rfl⟩) | ((with_reducible refine (H4.out _).mono ?_); rintro e w' ⟨rfl, rfl⟩) | ((with_reducible refine (H6.out _).mono ?_); rintro e w' ⟨rfl, rfl⟩) | ((with_reducible refine (H7.out _).mono ?_); rintro e w' ⟨rfl, rfl⟩)) | (go_at_call 10; first | ((with_reducible refine (H3.out _).mono ?_); rintro e w' ⟨rfl, rfl⟩) | ((with_reducible refine (H5.out _).mono ?_); rintro e w' ⟨rfl, rfl⟩) | ((with_reducible refine (H8.out _).mono ?_); rintro e w' ⟨rfl, rfl⟩) | ((with_reducible refine (H9.out _).mono ?_); rintro e w' ⟨rfl, rfl⟩)) | (go_at_call 9; (with_reducible refine HF.out.mono ?_); rintro e w1 ⟨rfl, hbel⟩))
    all_goals
      go_ret
      refine ⟨?_, hbel⟩
      have t1 := TR.out
      have t2 := TS.out
      revert t1 t2
      first | rfl | (cases l3 <;> cases l4 <;> cases s2 <;> cases s3 <;> simp_all)

theorem contract (H : Type) (enc : TypeId × Value → H) (W : World) (base : Nat) (args : Array Value) (ds gs : List (DataW H)) (before : List MemPlace)
    (hval : ∀ (j : Nat) t v, Tryd.f4.params[j]? = some t → args[j]? = some v → Value.okWide Tryd.prog W .any base t v)
    (hW : DataW.Whole enc Tryd.prog Tryd.f4.params.toList Rows.ratioOrderSpec.vars false W args.toList ds gs before) (hL : laidMetH Tryd.prog Rows.ratioOrderRow.laid W) :
    Calls Tryd.prog 4 args W fun e W' => ∃ v, e = .returned v ∧ Rows.ratioOrderSpec.post enc Tryd.prog Tryd.f4 false true false false W args v W' := by
  have hW' := hW
  obtain ⟨p, q, hA0, hV, rfl, hfz, hnd⟩ := hW
  have hA : DataW.TrodAll enc Tryd.prog W 0 (fun _ => true) true Tryd.f4.params.toList args.toList ds p := hA0
  rw [Tryd.params4] at hA hval
  obtain ⟨v0, vs0, d0, ds0, p0, q0, hargs, rfl, rfl, h0, r0⟩ := trodAll_cons hA
  obtain ⟨v1, vs1, d1, ds1, p1, q1, rfl, rfl, rfl, h1, r1⟩ := trodAll_cons r0
  obtain ⟨v2, vs2, d2, ds2, p2, q2, rfl, rfl, rfl, h2, r2⟩ := trodAll_cons r1
  obtain ⟨rfl, rfl, rfl⟩ := trodAll_nil r2
  obtain rfl : args = #[v0, v1, v2] := by cases args; simp_all
  obtain ⟨rfl, rfl⟩ := trodVars_none hV
  obtain ⟨a0, rfl, rfl, rfl, wa0⟩ := open_float Tryd.underlying22 (hval 0 22 v0 rfl rfl) h0
  obtain ⟨a1, rfl, rfl, rfl, wa1⟩ := open_float Tryd.underlying22 (hval 1 22 v1 rfl rfl) h1
  obtain ⟨a2, rfl, rfl, rfl, wa2⟩ := open_float Tryd.underlying22 (hval 2 22 v2 rfl rfl) h2
  clear hA0
  simp only [List.append_nil] at hW'
  refine (walk a0 a1 a2 (float_lt wa0) (float_lt wa1) (float_lt wa2) W (pow10_met hL)).mono fun e W' ⟨he, hg⟩ => ?_
  subst he
  exact ⟨_, rfl, law_post laidOut (by rw [Tryd.params4]; intro t ht; simp only [List.mem_cons, List.not_mem_nil, or_false] at ht; rcases ht with rfl | rfl | rfl <;> exact ⟨by kernel_rfl, of_decide_eq_true (by kernel_rfl)⟩) rfl (show Tryd.f4.resultTypes = #[4] by kernel_rfl) Tryd.underlying4 hW' hg rfl⟩
theorem reads (os : Os) {H : Type} (enc : TypeId × Value → H) : ∃ places, DataW.whole enc Tryd.prog ((laidWorld os).forCall (fun _ _ => 0) ⟨#[], (#[.float .f64 0, .float .f64 0, .float .f64 0] : Array Value), []⟩).memory Tryd.f4.params.toList Rows.ratioOrderSpec.vars false (#[.float .f64 0, .float .f64 0, .float .f64 0] : Array Value).toList 8 = some ([.lit (.float .f64 0), .lit (.float .f64 0), .lit (.float .f64 0)], [], places) :=
  ⟨[], by kernel_rfl⟩

set_option maxRecDepth 100000 in
theorem lifted (os : Os) (started : os.Started) (H : Type) (enc : TypeId × Value → H) (F : Stop.Interp) :
    ReturnsInHanded {} Tryd.checked os 4 .any ((OpenSpec.ofChange Rows.ratioOrderSpec).preRow enc Tryd.prog Tryd.f4 Rows.ratioOrderRow.domain false Rows.ratioOrderRow.laid) (((OpenSpec.ofChange Rows.ratioOrderSpec).at F).post enc Tryd.prog Tryd.f4 false true false false) := by
  obtain ⟨places, hx⟩ := reads os enc
  refine returnsInHanded_of_row (C := Tryd.checked) (s := OpenSpec.ofChange Rows.ratioOrderSpec) own started (by kernel_rfl) Tryd.func4
    (witness_row_at (enc := enc) (C := Tryd.checked) false (laidWorld os) #[.float .f64 0, .float .f64 0, .float .f64 0] rfl (by kernel_rfl) (by kernel_rfl) (by kernel_rfl)
      (OpenSpec.preRow_of_cond 8 hx (by kernel_rfl) (fun k hk => by cases hk) (by kernel_rfl) (laid_met os _))) ?_
  intro W base args ds gs before hval hW _ _ _ hL _ _
  exact contract H enc W base args ds gs before hval hW hL

theorem said : Rows.RatioOrderSaid :=
  OpenClaim.holds_of_cond 4 Tryd.f4 rfl rfl rfl rfl rfl rfl rfl ⟨rfl, rfl, rfl, rfl, rfl⟩ rfl rfl rfl rfl rfl (by kernel_rfl) Tryd.func4 (by kernel_rfl)
    (of_decide_eq_true (by kernel_rfl)) (by unfold Func.isWrapper; first | (rw [if_pos (by decide +kernel)]; kernel_rfl) | (rw [if_neg (by decide +kernel)]; exact ⟨rfl, rfl⟩))
    (fun os started H enc _ F => by rw [OpenClaim.pre_eq_preRow]; exact lifted os started H enc F)

theorem plain (f : FuncId) (fn : Func) (hf : Tryd.pinned.checked.prog.funcNamed Rows.ratioOrderRow.func = some f) (hfn : Tryd.pinned.checked.prog.funcs[f]? = some fn) :
    false = Tryd.pinned.checked.prog.looks [] ∧ ∀ (j : Nat) t, fn.params[j]? = some t → Tryd.pinned.checked.prog.wantsStandIn t = false := by
  obtain rfl : f = 4 := Option.some.inj ((show Tryd.prog.funcNamed Rows.ratioOrderRow.func = some 4 by kernel_rfl).symm.trans hf) |>.symm
  obtain rfl : fn = Tryd.f4 := (Option.some.inj (Tryd.func4.symm.trans hfn)).symm
  refine ⟨by kernel_rfl, fun j t ht => ?_⟩
  rw [Tryd.params4] at ht
  have hm := Array.mem_of_getElem? ht
  simp only [List.mem_toArray, List.mem_cons, List.not_mem_nil, or_false] at hm
  rcases hm with rfl | rfl | rfl
  · exact (show Tryd.prog.wantsStandIn 22 = false by kernel_rfl)
  · exact (show Tryd.prog.wantsStandIn 22 = false by kernel_rfl)
  · exact (show Tryd.prog.wantsStandIn 22 = false by kernel_rfl)

theorem card : Rows.RatioOrderCardSaid :=
  Claim7.holds_tied_plain_at .later [] _ _ _ _ said (fun _ h => by cases h) (by kernel_rfl) (fun _ h => by cases h) ratioOrder_row_tie rfl ⟨rfl, rfl⟩ (by kernel_rfl) rfl plain (by kernel_rfl)
end Go.Proofs.YtbjjanmafejlnaaDoor.ratioOrder
