/- RatioTells: parts, texts, which of any two floats stands ahead, and whether they are alike, is what the reference gives: the law returns true for every input. Condition: the three listed tables lie as the program's text lays them (the card ties that). -/
import Derived.Test.YtbjjanmafejlnaaDoorLaid1
import Derived.Lib.SmallJoins
namespace Go.Proofs.YtbjjanmafejlnaaDoor.ratioTells
open Go.Stop Go.ChangeShapes Go.WideShapes Go.ChangeAt Go.RowKit

theorem trod_float {H : Type} {enc : TypeId × Value → H} {P : Program} {w : World} {base : Nat} {spare : Nat → Bool} {held : Bool} {fuel : Nat} {t : TypeId} {cs : List Value} {x : DataW H × List MemPlace} {k : FloatKind}
    (ht : P.underlying t = some (.float k)) (h : DataW.trod enc P w base spare held fuel t cs = some x) : ∃ n, cs = [.float k n] ∧ x = (.lit (.float k n), []) ∧ (Lit.float k n).wf = true := by
  cases fuel with
  | zero => simp [DataW.trod] at h
  | succ n =>
    unfold DataW.trod at h
    rw [ht] at h
    split at h <;> simp_all

theorem rpart_any (a b : Int) (w : World) : Calls Tryd.prog 12 #[.int .i64 a, .int .i64 b] w (PartEnds a b w) := by
  cases hd : floatBits .quo .f64 (floatOfInt .f64 a) (floatOfInt .f64 b) with
  | some r =>
    have hq := fun w => run_float_arith (P := Tryd.prog) w .quo 22 .f64 _ _ r hd
    have hr : Fl.PartOf a b r := by
      have hd' : Ieee.double.div (floatOfInt .f64 a) (floatOfInt .f64 b) = some r := hd
      unfold Fl.PartOf; rw [hd']
    have hl : r < 2 ^ 64 := Fl.part_lt (a := a) (b := b) hd
    have HR := Lib.hid hr; have HL := Lib.hid hl
    clear hd hr hl
    go_enter Tryd.func12, Tryd.ntmps12
    go_wp2
    go_ret
    exact ⟨r, HR.out, HL.out, rfl, 0, rfl⟩
  | none =>
    have hq := fun w => run_float_nan (P := Tryd.prog) w .quo 22 (floatOfInt .f64 a) (floatOfInt .f64 b) hd
    have hr : ∀ t, Fl.PartOf a b (Question.cut (.nanBits .f64 (floatOfInt .f64 a) (floatOfInt .f64 b)) t) := by
      intro t
      have hd' : Ieee.double.div (floatOfInt .f64 a) (floatOfInt .f64 b) = none := hd
      unfold Fl.PartOf; rw [hd']; exact Fl.nanBits_nan _ _ _
    have HR := Lib.hid hr
    clear hd hr
    go_enter Tryd.func12, Tryd.ntmps12
    go_wp2
    go_ret
    exact ⟨_, HR.out _, Fl.cut_lt _ _ _, rfl, 1, rfl⟩

theorem part_text {a b : Int} {r r' : Nat} (h : Fl.PartOf a b r) (h' : Fl.PartOf a b r') : Fl.textL r = Fl.textL r' := by
  unfold Fl.PartOf at h h'
  cases hd : Ieee.double.div (floatOfInt .f64 a) (floatOfInt .f64 b) with
  | some q => rw [hd] at h h'; simp only at h h'; rw [h, h']
  | none => rw [hd] at h h'; simp only at h h'; rw [text_nan' r h, text_nan' r' h']

/-- a part, as the law's walk takes it -/
def PE (a b : Int) (w : World) (e : Ending) (w' : World) : Prop := ∃ r, (Fl.PartOf a b r ∧ r < 2 ^ 64) ∧ e = .returned (.float .f64 r) ∧ Below w.heap.size w w' ∧ Pow10 w'
theorem pe_of {a b : Int} {w : World} (hp : Pow10 w) (e : Ending) (w' : World) (h : PartEnds a b w e w') : PE a b w e w' := by
  obtain ⟨r, h1, h2, h3, n, rfl⟩ := h
  have hb := below_drewN' (Below.refl w.heap.size w) n
  exact ⟨r, ⟨h1, h2⟩, h3, hb, pow_stays hp hb⟩

set_option maxHeartbeats 1000000 in
theorem walk (a b : Int) (x y : Nat) (hx : x < 2 ^ 64) (hy : y < 2 ^ 64) (w : World) (hp : Pow10 w) :
    Calls Tryd.prog 3 #[.agg #[.int .i64 a, .int .i64 b, .float .f64 x, .float .f64 y]] w fun e w' => e = .returned (.bool true) ∧ Below w.heap.size w w' := by
  have HX := Lib.hid hx; have HY := Lib.hid hy; have HP := Lib.hid hp
  clear hx hy hp
  go_enter Tryd.func3, Tryd.ntmps3
  go_wp2_with fail
  go_quiet (fail)
  go_wp2_with fail
  have hp0 := pow_stays HP.out ((Below.refl _ _).alloc (Nat.le_refl _) (.cells #[.int .i64 a, .int .i64 b, .float .f64 x, .float .f64 y] 24))
  have b00 := (Below.refl w.heap.size w).alloc (Nat.le_refl _) (.cells #[.int .i64 a, .int .i64 b, .float .f64 x, .float .f64 y] 24)
  have b0 := below_drewN' b00 nq
  have p0 := pow_stays HP.out b0
  have B0 := Lib.hid b0; have P0 := Lib.hid p0
  clear hp0 b00 b0 p0
  refine (fixed_any _ P0.out).mono ?_
  rintro e w1 ⟨rfl, hb⟩
  have B1 := Lib.hid (btrans B0.out hb)
  have P1 := Lib.hid (pow_stays P0.out hb); clear hb
  go_wp2_with fail
  refine ((part_any a b _).mono (pe_of P1.out)).mono ?_
  rintro e w2 ⟨r1, hr1, rfl, hb, hp⟩
  have R1 := Lib.hid hr1; have B2 := Lib.hid (btrans B1.out hb); have P2 := Lib.hid hp; clear hb hp hr1
  go_wp2_with fail
  refine ((rpart_any a b _).mono (pe_of P2.out)).mono ?_
  rintro e w3 ⟨r2, hr2, rfl, hb, hp⟩
  have R2 := Lib.hid hr2; have B3 := Lib.hid (btrans B2.out hb); have P3 := Lib.hid hp; clear hb hp hr2
  go_wp2_with fail
  refine (same_any r1 r2 R1.out.2 R2.out.2 _).mono ?_
  rintro e w' ⟨rfl, rfl⟩
  rw [Fl.part_same R1.out.1 R2.out.1]
  go_wp2_with fail
  refine ((part_any a b _).mono (pe_of P3.out)).mono ?_
  rintro e w4 ⟨r3, hr3, rfl, hb, hp⟩
  have R3 := Lib.hid hr3; have B4 := Lib.hid (btrans B3.out hb); have P4 := Lib.hid hp; clear hb hp hr3
  go_wp2_with fail
  refine ((rpart_any a b _).mono (pe_of P4.out)).mono ?_
  rintro e w5 ⟨r4, hr4, rfl, hb, hp⟩
  have R4 := Lib.hid hr4; have B5 := Lib.hid (btrans B4.out hb); have P5 := Lib.hid hp; clear hb hp hr4
  go_wp2_with fail
  refine (rsame_any r3 r4 _).mono ?_
  rintro e w' ⟨rfl, rfl⟩
  rw [Fl.part_same R3.out.1 R4.out.1]
  go_wp2_with fail
  refine (text_any x HX.out _ P5.out).mono ?_
  rintro e w6 ⟨rfl, hb⟩
  have B6 := Lib.hid (btrans B5.out hb); have P6 := Lib.hid (pow_stays P5.out hb); clear hb
  go_wp2_with fail
  refine (rtext_any x _).mono ?_
  rintro e w7 ⟨rfl, hb⟩
  have B7 := Lib.hid (btrans B6.out hb); have P7 := Lib.hid (pow_stays P6.out hb); clear hb
  go_wp2_with fail
  refine ((rpart_any a b _).mono (pe_of P7.out)).mono ?_
  rintro e w8 ⟨r5, hr5, rfl, hb, hp⟩
  have R5 := Lib.hid hr5; have B8 := Lib.hid (btrans B7.out hb); have P8 := Lib.hid hp; clear hb hp hr5
  go_wp2_with fail
  refine (text_any r5 R5.out.2 _ P8.out).mono ?_
  rintro e w9 ⟨rfl, hb⟩
  have B9 := Lib.hid (btrans B8.out hb); have P9 := Lib.hid (pow_stays P8.out hb); clear hb
  go_wp2_with fail
  refine ((rpart_any a b _).mono (pe_of P9.out)).mono ?_
  rintro e w10 ⟨r6, hr6, rfl, hb, hp⟩
  have R6 := Lib.hid hr6; have B10 := Lib.hid (btrans B9.out hb); have P10 := Lib.hid hp; clear hb hp hr6
  go_wp2_with fail
  refine (rtext_any r6 _).mono ?_
  rintro e w11 ⟨rfl, hb⟩
  have B11 := Lib.hid (btrans B10.out hb); have P11 := Lib.hid (pow_stays P10.out hb); clear hb
  rw [part_text R6.out.1 R5.out.1]
  go_wp2_with fail
  refine (less_any x y HX.out HY.out _).mono ?_
  rintro e w' ⟨rfl, rfl⟩
  go_wp2_with fail
  refine (rless_any x y _).mono ?_
  rintro e w' ⟨rfl, rfl⟩
  go_wp2_with fail
  refine (same_any x y HX.out HY.out _).mono ?_
  rintro e w' ⟨rfl, rfl⟩
  go_wp2_with fail
  refine (rsame_any x y _).mono ?_
  rintro e w' ⟨rfl, rfl⟩
  go_wp2_with fail
  go_ret
  exact ⟨by simp, B11.out⟩

theorem contract (H : Type) (enc : TypeId × Value → H) (W : World) (base : Nat) (args : Array Value) (ds gs : List (DataW H)) (before : List MemPlace)
    (hval : ∀ (j : Nat) t v, Tryd.f3.params[j]? = some t → args[j]? = some v → Value.okWide Tryd.prog W .any base t v)
    (hW : DataW.Whole enc Tryd.prog Tryd.f3.params.toList Rows.ratioTellsSpec.vars false W args.toList ds gs before) (hL : laidMetH Tryd.prog Rows.ratioTellsRow.laid W) :
    Calls Tryd.prog 3 args W fun e W' => ∃ v, e = .returned v ∧ Rows.ratioTellsSpec.post enc Tryd.prog Tryd.f3 false true false false W args v W' := by
  have hW' := hW
  obtain ⟨p, q, hA0, hV, rfl, hfz, hnd⟩ := hW
  have hA : DataW.TrodAll enc Tryd.prog W 0 (fun _ => true) true Tryd.f3.params.toList args.toList ds p := hA0
  rw [Tryd.params3] at hA hval
  obtain ⟨v0, vs0, d0, ds0, p0, q0, hargs, rfl, rfl, h0, r0⟩ := trodAll_cons hA
  obtain ⟨rfl, rfl, rfl⟩ := trodAll_nil r0
  obtain rfl : args = #[v0] := by cases args; simp_all
  obtain ⟨rfl, rfl⟩ := trodVars_none hV
  obtain ⟨c0, c1, c2, c3, y0, y1, y2, y3, m, rfl, rfl, rfl, g0, g1, g2, g3⟩ := Joins.open_agg4 Tryd.underlying24 (by kernel_rfl) (show Tryd.prog.cellsOf 24 = 4 by kernel_rfl) (hval 0 24 v0 rfl rfl) h0
  obtain ⟨x0, e0, rfl, b0⟩ := DataW.trod_int Tryd.underlying3 g0
  obtain ⟨x1, e1, rfl, b1⟩ := DataW.trod_int Tryd.underlying3 g1
  obtain ⟨x2, e2, rfl, b2⟩ := trod_float Tryd.underlying22 g2
  obtain ⟨x3, e3, rfl, b3⟩ := trod_float Tryd.underlying22 g3
  obtain rfl := List.head_eq_of_cons_eq e0
  obtain rfl := List.head_eq_of_cons_eq e1
  obtain rfl := List.head_eq_of_cons_eq e2
  obtain rfl := List.head_eq_of_cons_eq e3
  clear hA0
  simp only [List.append_nil] at hW'
  refine (walk x0 x1 x2 x3 (float_lt b2) (float_lt b3) W (pow10_met hL)).mono fun e W' ⟨he, hg⟩ => ?_
  subst he
  exact ⟨_, rfl, law_post laidOut (by rw [Tryd.params3]; intro t ht; simp only [List.mem_cons, List.not_mem_nil, or_false] at ht; subst ht; exact ⟨by kernel_rfl, of_decide_eq_true (by kernel_rfl)⟩) rfl (show Tryd.f3.resultTypes = #[4] by kernel_rfl) Tryd.underlying4 hW' hg rfl⟩
theorem reads (os : Os) {H : Type} (enc : TypeId × Value → H) : ∃ places, DataW.whole enc Tryd.prog ((laidWorld os).forCall (fun _ _ => 0) ⟨#[], (#[.agg #[.int .i64 0, .int .i64 0, .float .f64 0, .float .f64 0]] : Array Value), []⟩).memory Tryd.f3.params.toList Rows.ratioTellsSpec.vars false (#[.agg #[.int .i64 0, .int .i64 0, .float .f64 0, .float .f64 0]] : Array Value).toList 8 = some ([.agg [.lit (.int .i64 0), .lit (.int .i64 0), .lit (.float .f64 0), .lit (.float .f64 0)]], [], places) :=
  ⟨[], by kernel_rfl⟩

set_option maxRecDepth 100000 in
theorem lifted (os : Os) (started : os.Started) (H : Type) (enc : TypeId × Value → H) (F : Stop.Interp) :
    ReturnsInHanded {} Tryd.checked os 3 .any ((OpenSpec.ofChange Rows.ratioTellsSpec).preRow enc Tryd.prog Tryd.f3 Rows.ratioTellsRow.domain false Rows.ratioTellsRow.laid) (((OpenSpec.ofChange Rows.ratioTellsSpec).at F).post enc Tryd.prog Tryd.f3 false true false false) := by
  obtain ⟨places, hx⟩ := reads os enc
  refine returnsInHanded_of_row (C := Tryd.checked) (s := OpenSpec.ofChange Rows.ratioTellsSpec) own started (by kernel_rfl) Tryd.func3
    (witness_row_at (enc := enc) (C := Tryd.checked) false (laidWorld os) #[.agg #[.int .i64 0, .int .i64 0, .float .f64 0, .float .f64 0]] rfl (by kernel_rfl) (by kernel_rfl) (by kernel_rfl)
      (OpenSpec.preRow_of_cond 8 hx (by kernel_rfl) (fun k hk => by cases hk) (by kernel_rfl) (laid_met os _))) ?_
  intro W base args ds gs before hval hW _ _ _ hL _ _
  exact contract H enc W base args ds gs before hval hW hL

theorem said : Rows.RatioTellsSaid :=
  OpenClaim.holds_of_cond 3 Tryd.f3 rfl rfl rfl rfl rfl rfl rfl ⟨rfl, rfl, rfl, rfl, rfl⟩ rfl rfl rfl rfl rfl (by kernel_rfl) Tryd.func3 (by kernel_rfl)
    (of_decide_eq_true (by kernel_rfl)) (by unfold Func.isWrapper; first | (rw [if_pos (by decide +kernel)]; kernel_rfl) | (rw [if_neg (by decide +kernel)]; exact ⟨rfl, rfl⟩))
    (fun os started H enc _ F => by rw [OpenClaim.pre_eq_preRow]; exact lifted os started H enc F)

theorem plain (f : FuncId) (fn : Func) (hf : Tryd.pinned.checked.prog.funcNamed Rows.ratioTellsRow.func = some f) (hfn : Tryd.pinned.checked.prog.funcs[f]? = some fn) :
    false = Tryd.pinned.checked.prog.looks [] ∧ ∀ (j : Nat) t, fn.params[j]? = some t → Tryd.pinned.checked.prog.wantsStandIn t = false := by
  obtain rfl : f = 3 := Option.some.inj ((show Tryd.prog.funcNamed Rows.ratioTellsRow.func = some 3 by kernel_rfl).symm.trans hf) |>.symm
  obtain rfl : fn = Tryd.f3 := (Option.some.inj (Tryd.func3.symm.trans hfn)).symm
  refine ⟨by kernel_rfl, fun j t ht => ?_⟩
  rw [Tryd.params3] at ht
  have hm := Array.mem_of_getElem? ht
  simp only [List.mem_toArray, List.mem_cons, List.not_mem_nil, or_false] at hm
  subst hm
  exact (show Tryd.prog.wantsStandIn 24 = false by kernel_rfl)

theorem card : Rows.RatioTellsCardSaid :=
  Claim7.holds_tied_plain_at .later [] _ _ _ _ said (fun _ h => by cases h) (by kernel_rfl) (fun _ h => by cases h) ratioTells_row_tie rfl ⟨rfl, rfl⟩ (by kernel_rfl) rfl plain (by kernel_rfl)
end Go.Proofs.YtbjjanmafejlnaaDoor.ratioTells
