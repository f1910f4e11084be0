/- RatioWhole: a whole number of thousandths is told by its digits; parts of the same, made larger alike, are the same: the law returns true for every input. Condition: the three listed tables lie as the program's text lays them (the card ties that). -/
import Derived.Test.YtbjjanmafejlnaaDoorLaid1
import Derived.Test.YtbjjanmafejlnaaDoorFlWhole
namespace Go.Proofs.YtbjjanmafejlnaaDoor.ratioWhole
open Go.Stop Go.ChangeShapes Go.WideShapes Go.ChangeAt Go.RowKit

theorem walk_out (n a b : Int) (w : World) (hp : Pow10 w) (h : n < 0 ∨ 1000 < n ∨ a < 1 ∨ b < 1 ∨ 1000 < a ∨ 1000 < b) :
    Calls Tryd.prog 6 #[.int .i64 n, .int .i64 a, .int .i64 b] w fun e w' => e = .returned (.bool true) ∧ Below w.heap.size w w' := by
  have hf : ∀ w', Below w.heap.size w w' → Calls Tryd.prog 9 #[] w' fun e w'' => e = .returned (.bool true) ∧ Below w.heap.size w w'' :=
    fun w' hb => (fixed_any w' (pow_stays hp hb)).mono fun _ _ h => ⟨h.1, btrans hb h.2⟩
  have HF := Lib.hid hf
  clear hf hp
  by_cases h1 : n < 0
  · clear h
    go_enter Tryd.func6, Tryd.ntmps6
    go_wp2_with fail
    refine (HF.out _ (Below.refl _ _)).mono ?_
    rintro e w1 ⟨rfl, hb1⟩
    go_wp2_with fail
    refine (HF.out _ hb1).mono ?_
    rintro e w2 ⟨rfl, hb2⟩
    go_wp2_with fail
    go_ret
    exact ⟨rfl, hb2⟩
  by_cases h2 : 1000 < n
  · clear h
    go_enter Tryd.func6, Tryd.ntmps6
    go_wp2_with fail
    refine (HF.out _ (Below.refl _ _)).mono ?_
    rintro e w1 ⟨rfl, hb1⟩
    go_wp2_with fail
    refine (HF.out _ hb1).mono ?_
    rintro e w2 ⟨rfl, hb2⟩
    go_wp2_with fail
    go_ret
    exact ⟨rfl, hb2⟩
  by_cases h3 : a < 1
  · clear h
    go_enter Tryd.func6, Tryd.ntmps6
    go_wp2_with fail
    refine (HF.out _ (Below.refl _ _)).mono ?_
    rintro e w1 ⟨rfl, hb1⟩
    go_wp2_with fail
    refine (HF.out _ hb1).mono ?_
    rintro e w2 ⟨rfl, hb2⟩
    go_wp2_with fail
    go_ret
    exact ⟨rfl, hb2⟩
  by_cases h4 : b < 1
  · clear h
    go_enter Tryd.func6, Tryd.ntmps6
    go_wp2_with fail
    refine (HF.out _ (Below.refl _ _)).mono ?_
    rintro e w1 ⟨rfl, hb1⟩
    go_wp2_with fail
    refine (HF.out _ hb1).mono ?_
    rintro e w2 ⟨rfl, hb2⟩
    go_wp2_with fail
    go_ret
    exact ⟨rfl, hb2⟩
  by_cases h5 : 1000 < a
  · clear h
    go_enter Tryd.func6, Tryd.ntmps6
    go_wp2_with fail
    refine (HF.out _ (Below.refl _ _)).mono ?_
    rintro e w1 ⟨rfl, hb1⟩
    go_wp2_with fail
    refine (HF.out _ hb1).mono ?_
    rintro e w2 ⟨rfl, hb2⟩
    go_wp2_with fail
    go_ret
    exact ⟨rfl, hb2⟩
  have h6 : 1000 < b := by omega
  · clear h
    go_enter Tryd.func6, Tryd.ntmps6
    go_wp2_with fail
    refine (HF.out _ (Below.refl _ _)).mono ?_
    rintro e w1 ⟨rfl, hb1⟩
    go_wp2_with fail
    refine (HF.out _ hb1).mono ?_
    rintro e w2 ⟨rfl, hb2⟩
    go_wp2_with fail
    go_ret
    exact ⟨rfl, hb2⟩

/-- a part, as the law's walk takes it -/
def PE (a b : Int) (w : World) (e : Ending) (w' : World) : Prop := ∃ r, (Fl.PartOf a b r ∧ r < 2 ^ 64) ∧ e = .returned (.float .f64 r) ∧ Below w.heap.size w w' ∧ Pow10 w'
theorem pe_of {a b : Int} {w : World} (hp : Pow10 w) (e : Ending) (w' : World) (h : PartEnds a b w e w') : PE a b w e w' := by
  obtain ⟨r, h1, h2, h3, n, rfl⟩ := h
  have hb := below_drewN' (Below.refl w.heap.size w) n
  exact ⟨r, ⟨h1, h2⟩, h3, hb, pow_stays hp hb⟩

theorem same_twice {A B : Nat} {r r' : Nat} (ha : A < 1001) (hb : B < 1001) (ha0 : A ≠ 0) (hb0 : B ≠ 0) (h : Fl.PartOf ((A : Int) * 2) ((B : Int) * 2) r) (h' : Fl.PartOf A B r') : Fl.sameF r r' = true := by
  have e := Fl.part_twice A B ha hb ha0 hb0
  have h2 : Fl.PartOf A B r := by
    unfold Fl.PartOf at h ⊢
    rw [← e]
    have e1 : ((A * 2 : Nat) : Int) = (A : Int) * 2 := by simp
    have e2 : ((B * 2 : Nat) : Int) = (B : Int) * 2 := by simp
    rw [e1, e2]; exact h
  exact Fl.part_same h2 h'
theorem same_whole {A N : Nat} {r : Nat} (ha : A ≤ 1000) (ha0 : 1 ≤ A) (hn : N ≤ 1000) (h : Fl.PartOf ((A : Int) * N) A r) : Fl.sameF r (floatOfInt .f64 N) = true := by
  have e1 : ((A * N : Nat) : Int) = (A : Int) * N := by simp
  unfold Fl.PartOf at h
  rw [← e1] at h
  by_cases h0 : N = 0
  · subst h0
    rcases Fl.zero_part A (by omega) with hz | hz
    · omega
    · rw [Nat.mul_zero] at h
      have hz' : Ieee.double.div (floatOfInt .f64 ((0 : Nat) : Int)) (floatOfInt .f64 (A : Int)) = some 0 := hz
      rw [hz'] at h
      simp only at h
      subst h
      decide +kernel
  · obtain ⟨r', k, q, hd, hD, hq, hm⟩ := Fl.part_exact A N ha0 ha (by omega) hn
    rw [hd] at h
    simp only at h
    subst h
    obtain ⟨k2, q2, g1, g2, g3⟩ := Fl.whole_exact false N (by omega)
    have e2 : Fl.D (floatOfInt .f64 (N : Int)) = .number false k2 q2 := by
      rw [← g1]
      show Fl.D (Ieee.double.nearest _ _ 0) = _
      congr 2
    have hv1 : Fl.val (.number false k q) = (N * Fl.U : Nat) := by rw [Fl.val_num, hm, Fl.mval_nat]; rfl
    have hv2 : Fl.val (.number false k2 q2) = (N * Fl.U : Nat) := by rw [Fl.val_num, g3, Fl.mval_nat]; rfl
    have hpos : 0 < N * Fl.U := Nat.mul_pos (by omega) Fl.U_pos
    rw [Fl.same_iff]
    unfold Fl.kind
    rw [hD, e2, hv1, hv2, Fl.val_kind, Fl.val_kind, hv1, hv2]
    simp

set_option maxHeartbeats 1000000 in
theorem walk_in (N A B : Nat) (w : World) (hp : Pow10 w) (hN : N ≤ 1000) (hA : A ≤ 1000) (hB : B ≤ 1000) (hA1 : 1 ≤ A) (hB1 : 1 ≤ B) :
    Calls Tryd.prog 6 #[.int .i64 N, .int .i64 A, .int .i64 B] w fun e w' => e = .returned (.bool true) ∧ Below w.heap.size w w' := by
  have hAN : (A : Int) * (N : Int) ≤ 1000000 := by
    have : A * N ≤ 1000 * 1000 := Nat.mul_le_mul hA hN
    rw [← Int.natCast_mul]; omega
  have hAN0 : 0 ≤ (A : Int) * (N : Int) := by rw [← Int.natCast_mul]; omega
  have htx := text_any (floatOfInt .f64 N) ((Fl.text_whole_fact N (by omega)).2.2.2.2.2.2.2)
  have HTX : Hid (∀ w, Pow10 w → Calls Tryd.prog 14 #[.float .f64 (floatOfInt .f64 N)] w fun e w' => e = .returned (.string ⟨(Lib.decDigits N ++ [46, 48, 48, 48]).toArray⟩) ∧ Below w.heap.size w w') :=
    fun w hp => (htx w hp).mono fun _ _ h => ⟨by rw [h.1, Fl.text_whole N (by omega)], h.2⟩
  have hsg : Hid (∀ w, Calls Tryd.prog 18 #[.int .i64 N] w fun e w' => e = .returned (.string ⟨(Lib.decDigits N).toArray⟩) ∧ w = w') :=
    fun w => (signed_any N (by omega) (by omega) w).mono fun _ _ h => ⟨by rw [h.1]; unfold Lib.itoa; rw [if_neg (by omega)]; rfl, h.2⟩
  have hlen := decDigits_len N (by omega)
  have hf2 : Hid (floatOfInt .f64 (N : Int) < 2 ^ 64) := (Fl.text_whole_fact N (by omega)).2.2.2.2.2.2.2
  have hsame2 : Hid (∀ r, Fl.PartOf ((A : Int) * N) A r → Fl.sameF r (floatOfInt .f64 (N : Int)) = true) := fun r h => same_whole hA hA1 hN h
  have hsame1 : Hid (∀ r r', Fl.PartOf ((A : Int) * 2) ((B : Int) * 2) r → Fl.PartOf A B r' → Fl.sameF r r' = true) := fun r r' h h' => same_twice (by omega) (by omega) (by omega) (by omega) h h'
  have hcat := ba_append (Lib.decDigits N) [46, 48, 48, 48]
  have HCAT := Lib.hid hcat
  have HP := Lib.hid hp
  clear htx hcat hp
  generalize Lib.decDigits N = L at *
  have d1 : decide ((N : Int) < 0) = false := by simp
  have d2 : decide ((1000 : Int) < (N : Int)) = false := by simp; omega
  have d3 : decide ((A : Int) < 1) = false := by simp; omega
  have d4 : decide ((B : Int) < 1) = false := by simp; omega
  have d5 : decide ((1000 : Int) < (A : Int)) = false := by simp; omega
  have d6 : decide ((1000 : Int) < (B : Int)) = false := by simp; omega
  go_enter Tryd.func6, Tryd.ntmps6
  go_wp2_with fail
  refine (fixed_any _ HP.out).mono ?_
  rintro e w1 ⟨rfl, hb⟩
  have B1 := Lib.hid hb; have P1 := Lib.hid (pow_stays HP.out hb); clear hb
  go_wp2_with fail
  refine (HTX.out _ P1.out).mono ?_
  rintro e w2 ⟨rfl, hb⟩
  have B2 := Lib.hid (btrans B1.out hb); have P2 := Lib.hid (pow_stays P1.out hb); clear hb
  go_wp2_with fail
  refine (hsg.out _).mono ?_
  rintro e w' ⟨rfl, rfl⟩
  have heq : ((⟨L.toArray⟩ : ByteArray) ++ ⟨#[46, 48, 48, 48]⟩).toList = L ++ [46, 48, 48, 48] := by
    have : (⟨L.toArray⟩ : ByteArray) ++ ⟨#[46, 48, 48, 48]⟩ = ⟨(L ++ [46, 48, 48, 48]).toArray⟩ := HCAT.out
    rw [this]; simp
  go_wp2_with fail
  refine ((part_any ((A : Int) * 2) ((B : Int) * 2) _).mono (pe_of P2.out)).mono ?_
  rintro e w3 ⟨r1, hr1, rfl, hb, hp⟩
  have R1 := Lib.hid hr1; have B3 := Lib.hid (btrans B2.out hb); have P3 := Lib.hid hp; clear hb hp hr1
  go_wp2_with fail
  refine ((part_any A B _).mono (pe_of P3.out)).mono ?_
  rintro e w4 ⟨r2, hr2, rfl, hb, hp⟩
  have R2 := Lib.hid hr2; have B4 := Lib.hid (btrans B3.out hb); have P4 := Lib.hid hp; clear hb hp hr2
  go_wp2_with fail
  refine (same_any r1 r2 R1.out.2 R2.out.2 _).mono ?_
  rintro e w' ⟨rfl, rfl⟩
  rw [hsame1.out r1 r2 R1.out.1 R2.out.1]
  go_wp2_with fail
  refine ((part_any ((A : Int) * N) A _).mono (pe_of P4.out)).mono ?_
  rintro e w5 ⟨r3, hr3, rfl, hb, hp⟩
  have R3 := Lib.hid hr3; have B5 := Lib.hid (btrans B4.out hb); have P5 := Lib.hid hp; clear hb hp hr3
  go_wp2_with fail
  refine (same_any r3 (floatOfInt .f64 (N : Int)) R3.out.2 hf2.out _).mono ?_
  rintro e w' ⟨rfl, rfl⟩
  rw [hsame2.out r3 R3.out.1]
  go_wp2_with fail
  go_ret
  exact ⟨rfl, B5.out⟩

theorem walk (n a b : Int) (_n1 : -9223372036854775808 ≤ n) (_n2 : n ≤ 9223372036854775807) (_a1 : -9223372036854775808 ≤ a) (_a2 : a ≤ 9223372036854775807) (_b1 : -9223372036854775808 ≤ b) (_b2 : b ≤ 9223372036854775807) (w : World) (hp : Pow10 w) :
    Calls Tryd.prog 6 #[.int .i64 n, .int .i64 a, .int .i64 b] w fun e w' => e = .returned (.bool true) ∧ Below w.heap.size w w' := by
  by_cases h : n < 0 ∨ 1000 < n ∨ a < 1 ∨ b < 1 ∨ 1000 < a ∨ 1000 < b
  · exact walk_out n a b w hp h
  · obtain ⟨N, rfl⟩ := Int.eq_ofNat_of_zero_le (show 0 ≤ n by omega)
    obtain ⟨A, rfl⟩ := Int.eq_ofNat_of_zero_le (show 0 ≤ a by omega)
    obtain ⟨B, rfl⟩ := Int.eq_ofNat_of_zero_le (show 0 ≤ b by omega)
    exact walk_in N A B w hp (by omega) (by omega) (by omega) (by omega) (by omega)

theorem contract (H : Type) (enc : TypeId × Value → H) (W : World) (base : Nat) (args : Array Value) (ds gs : List (DataW H)) (before : List MemPlace)
    (hval : ∀ (j : Nat) t v, Tryd.f6.params[j]? = some t → args[j]? = some v → Value.okWide Tryd.prog W .any base t v)
    (hW : DataW.Whole enc Tryd.prog Tryd.f6.params.toList Rows.ratioWholeSpec.vars false W args.toList ds gs before) (hL : laidMetH Tryd.prog Rows.ratioWholeRow.laid W) :
    Calls Tryd.prog 6 args W fun e W' => ∃ v, e = .returned v ∧ Rows.ratioWholeSpec.post enc Tryd.prog Tryd.f6 false true false false W args v W' := by
  have hW' := hW
  obtain ⟨p, q, hA0, hV, rfl, hfz, hnd⟩ := hW
  have hA : DataW.TrodAll enc Tryd.prog W 0 (fun _ => true) true Tryd.f6.params.toList args.toList ds p := hA0
  rw [Tryd.params6] at hA hval
  obtain ⟨v0, vs0, d0, ds0, p0, q0, hargs, rfl, rfl, h0, r0⟩ := trodAll_cons hA
  obtain ⟨v1, vs1, d1, ds1, p1, q1, rfl, rfl, rfl, h1, r1⟩ := trodAll_cons r0
  obtain ⟨v2, vs2, d2, ds2, p2, q2, rfl, rfl, rfl, h2, r2⟩ := trodAll_cons r1
  obtain ⟨rfl, rfl, rfl⟩ := trodAll_nil r2
  obtain rfl : args = #[v0, v1, v2] := by cases args; simp_all
  obtain ⟨rfl, rfl⟩ := trodVars_none hV
  obtain ⟨a0, rfl, rfl, rfl, wa0⟩ := open_int Tryd.underlying3 (hval 0 3 v0 rfl rfl) h0
  obtain ⟨a1, rfl, rfl, rfl, wa1⟩ := open_int Tryd.underlying3 (hval 1 3 v1 rfl rfl) h1
  obtain ⟨a2, rfl, rfl, rfl, wa2⟩ := open_int Tryd.underlying3 (hval 2 3 v2 rfl rfl) h2
  clear hA0
  simp only [List.append_nil] at hW'
  refine (walk a0 a1 a2 (int_bounds wa0).1 (int_bounds wa0).2 (int_bounds wa1).1 (int_bounds wa1).2 (int_bounds wa2).1 (int_bounds wa2).2 W (pow10_met hL)).mono fun e W' ⟨he, hg⟩ => ?_
  subst he
  exact ⟨_, rfl, law_post laidOut (by rw [Tryd.params6]; intro t ht; simp only [List.mem_cons, List.not_mem_nil, or_false] at ht; rcases ht with rfl | rfl | rfl <;> exact ⟨by kernel_rfl, of_decide_eq_true (by kernel_rfl)⟩) rfl (show Tryd.f6.resultTypes = #[4] by kernel_rfl) Tryd.underlying4 hW' hg rfl⟩
theorem reads (os : Os) {H : Type} (enc : TypeId × Value → H) : ∃ places, DataW.whole enc Tryd.prog ((laidWorld os).forCall (fun _ _ => 0) ⟨#[], (#[.int .i64 0, .int .i64 0, .int .i64 0] : Array Value), []⟩).memory Tryd.f6.params.toList Rows.ratioWholeSpec.vars false (#[.int .i64 0, .int .i64 0, .int .i64 0] : Array Value).toList 8 = some ([.lit (.int .i64 0), .lit (.int .i64 0), .lit (.int .i64 0)], [], places) :=
  ⟨[], by kernel_rfl⟩

set_option maxRecDepth 100000 in
theorem lifted (os : Os) (started : os.Started) (H : Type) (enc : TypeId × Value → H) (F : Stop.Interp) :
    ReturnsInHanded {} Tryd.checked os 6 .any ((OpenSpec.ofChange Rows.ratioWholeSpec).preRow enc Tryd.prog Tryd.f6 Rows.ratioWholeRow.domain false Rows.ratioWholeRow.laid) (((OpenSpec.ofChange Rows.ratioWholeSpec).at F).post enc Tryd.prog Tryd.f6 false true false false) := by
  obtain ⟨places, hx⟩ := reads os enc
  refine returnsInHanded_of_row (C := Tryd.checked) (s := OpenSpec.ofChange Rows.ratioWholeSpec) own started (by kernel_rfl) Tryd.func6
    (witness_row_at (enc := enc) (C := Tryd.checked) false (laidWorld os) #[.int .i64 0, .int .i64 0, .int .i64 0] rfl (by kernel_rfl) (by kernel_rfl) (by kernel_rfl)
      (OpenSpec.preRow_of_cond 8 hx (by kernel_rfl) (fun k hk => by cases hk) (by kernel_rfl) (laid_met os _))) ?_
  intro W base args ds gs before hval hW _ _ _ hL _ _
  exact contract H enc W base args ds gs before hval hW hL

theorem said : Rows.RatioWholeSaid :=
  OpenClaim.holds_of_cond 6 Tryd.f6 rfl rfl rfl rfl rfl rfl rfl ⟨rfl, rfl, rfl, rfl, rfl⟩ rfl rfl rfl rfl rfl (by kernel_rfl) Tryd.func6 (by kernel_rfl)
    (of_decide_eq_true (by kernel_rfl)) (by unfold Func.isWrapper; first | (rw [if_pos (by decide +kernel)]; kernel_rfl) | (rw [if_neg (by decide +kernel)]; exact ⟨rfl, rfl⟩))
    (fun os started H enc _ F => by rw [OpenClaim.pre_eq_preRow]; exact lifted os started H enc F)

theorem plain (f : FuncId) (fn : Func) (hf : Tryd.pinned.checked.prog.funcNamed Rows.ratioWholeRow.func = some f) (hfn : Tryd.pinned.checked.prog.funcs[f]? = some fn) :
    false = Tryd.pinned.checked.prog.looks [] ∧ ∀ (j : Nat) t, fn.params[j]? = some t → Tryd.pinned.checked.prog.wantsStandIn t = false := by
  obtain rfl : f = 6 := Option.some.inj ((show Tryd.prog.funcNamed Rows.ratioWholeRow.func = some 6 by kernel_rfl).symm.trans hf) |>.symm
  obtain rfl : fn = Tryd.f6 := (Option.some.inj (Tryd.func6.symm.trans hfn)).symm
  refine ⟨by kernel_rfl, fun j t ht => ?_⟩
  rw [Tryd.params6] at ht
  have hm := Array.mem_of_getElem? ht
  simp only [List.mem_toArray, List.mem_cons, List.not_mem_nil, or_false] at hm
  rcases hm with rfl | rfl | rfl
  · exact (show Tryd.prog.wantsStandIn 3 = false by kernel_rfl)
  · exact (show Tryd.prog.wantsStandIn 3 = false by kernel_rfl)
  · exact (show Tryd.prog.wantsStandIn 3 = false by kernel_rfl)

theorem card : Rows.RatioWholeCardSaid :=
  Claim7.holds_tied_plain_at .later [] _ _ _ _ said (fun _ h => by cases h) (by kernel_rfl) (fun _ h => by cases h) ratioWhole_row_tie rfl ⟨rfl, rfl⟩ (by kernel_rfl) rfl plain (by kernel_rfl)
end Go.Proofs.YtbjjanmafejlnaaDoor.ratioWhole
