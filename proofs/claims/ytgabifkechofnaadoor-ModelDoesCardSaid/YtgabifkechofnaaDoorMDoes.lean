/- ModelDoes: what any model is behind whatever is asked, and what is answered, is as the document says: the law returns true for every input. Condition: the listed tables lie as the program's text lays them (the card ties that). -/
import Derived.Test.YtgabifkechofnaaDoorMRZ1
import Derived.Test.YtgabifkechofnaaDoorMR1
import Derived.Test.YtgabifkechofnaaDoorLaidM
namespace Go.Proofs.YtgabifkechofnaaDoor.modelDoes
open Go.Stop Go.ChangeShapes Go.WideShapes Go.ChangeAt Go.RowKit
open Go.ChangeMaps (open_string)

theorem run_eql_ans (w : World) (c n : Int) (t : ByteArray) : (binOp .eql 29 (.agg #[.int .i64 c, .string t, .int .i64 n]) (.agg #[.int .i64 c, .string t, .int .i64 n])).run Tryd.prog w = .ok (.bool true) w := by
  go_simp

set_option maxRecDepth 100000 in
set_option maxHeartbeats 16000000 in
theorem walk (w : World) (hp : Pow10 w) (m : List VolD) (v : Value) (x : OpD) (hm : ModelAt w v m) :
    Calls Tryd.prog 3 #[v, x.agg] w fun e w' => e = .returned (.bool true) ∧ Below w.heap.size w w' := by
  obtain ⟨ac, vo, de, bl, nn, tx⟩ := x
  have HBX := Lib.hid (show Below w.heap.size w (w.alloc (.cells #[.int .i64 ac, .int .i64 vo, .int .i64 de, .int .i64 bl, .int .i64 nn, .string tx] 24)) from (Below.refl w.heap.size w).alloc (Nat.le_refl _) _)
  have HXB := Lib.hid (show OBox w.heap.size ⟨ac, vo, de, bl, nn, tx⟩ (w.alloc (.cells #[.int .i64 ac, .int .i64 vo, .int .i64 de, .int .i64 bl, .int .i64 nn, .string tx] 24)) from OBox.new ⟨ac, vo, de, bl, nn, tx⟩ _ rfl)
  have HM := Lib.hid hm; have HP := Lib.hid hp
  obtain ⟨p, c, rfl, _, _, _⟩ := hm
  clear hp
  simp only [OpD.agg]
  by_cases hs : smallB m = true
  case neg =>
    have HS := Lib.hid (show smallB m = false by simpa using hs); clear hs
    go_enter Tryd.func3, Tryd.ntmps3
    go_wp2_with fail
    refine (small_any m _ _ (HM.out.stays HBX.out)).mono ?_
    rintro e _ ⟨rfl, rfl⟩
    rw [HS.out]
    go_wp2_with fail
    refine (fixed_any _ (pow_stays HP.out HBX.out)).mono ?_
    rintro e w2 ⟨rfl, hb⟩
    have HB2 := Lib.hid (btrans HBX.out hb); clear hb
    go_wp2_with fail
    go_ret
    exact ⟨rfl, HB2.out⟩
  have HS := Lib.hid hs; clear hs
  have HL60 := Lib.hid (smallP HS.out).2
  have HL1 := Lib.hid (smallP HS.out).1
  have HLM := Lib.hid (show ∀ d ∈ m, d.blocks.length ≤ 50000 from fun d hd => by have := HL60.out d hd; omega)
  go_enter Tryd.func3, Tryd.ntmps3
  go_wp2_with fail
  refine (small_any m _ _ (HM.out.stays HBX.out)).mono ?_
  rintro e _ ⟨rfl, rfl⟩
  rw [HS.out]
  have x0 := HXB.out.c 0 _ rfl
  have x1 := HXB.out.c 1 _ rfl
  have x2 := HXB.out.c 2 _ rfl
  have x3 := HXB.out.c 3 _ rfl
  have x4 := HXB.out.c 4 _ rfl
  have x5 := HXB.out.c 5 _ rfl
  go_wp2_with fail
  refine (do_any m ⟨ac, vo, de, bl, nn, tx⟩ _ _ (HM.out.stays HBX.out) HL1.out HLM.out (pow_stays HP.out HBX.out)).mono ?_
  rintro e w3 ⟨v3, rfl, hfin, hb⟩
  obtain ⟨N, hN⟩ : ∃ N, (doL m ⟨ac, vo, de, bl, nn, tx⟩).1 = N := ⟨_, rfl⟩
  obtain ⟨⟨co, te, nu⟩, ha⟩ : ∃ a, (doL m ⟨ac, vo, de, bl, nn, tx⟩).2 = a := ⟨_, rfl⟩
  rw [hN] at hfin
  rw [ha]
  have HN := Lib.hid hN; have HA := Lib.hid ha
  have hal := (Below.refl w3.heap.size w3).alloc (Nat.le_refl _) (.cells #[.int .i64 co, .string te, .int .i64 nu] 29)
  have HB3 := Lib.hid (btrans (btrans HBX.out hb) hal); have HX3 := Lib.hid ((HXB.out.below hb).below hal)
  have HA3 := Lib.hid (show FBox w3.heap.size (.int .i64 co) (.string te) (.int .i64 nu) (w3.alloc (.cells #[.int .i64 co, .string te, .int .i64 nu] 29)) from FBox.new _ rfl)
  have HN3 := Lib.hid (hfin.reads.stays hal)
  obtain ⟨p3, c3, rfl, _, _, _⟩ := hfin.reads
  clear hb hal hfin hN ha x0 x1 x2 x3 x4 x5
  have x0 := HX3.out.c 0 _ rfl
  have x1 := HX3.out.c 1 _ rfl
  have x2 := HX3.out.c 2 _ rfl
  have x3 := HX3.out.c 3 _ rfl
  have x4 := HX3.out.c 4 _ rfl
  have x5 := HX3.out.c 5 _ rfl
  simp only [AnsM.agg]
  go_wp2_with fail
  refine (rdo_any m ⟨ac, vo, de, bl, nn, tx⟩ _ _ (HM.out.stays HB3.out) HLM.out).mono ?_
  rintro e w4 ⟨v4, rfl, hmod, hb⟩
  rw [HN.out] at hmod
  rw [HA.out]
  have hal := (Below.refl w4.heap.size w4).alloc (Nat.le_refl _) (.cells #[.int .i64 co, .string te, .int .i64 nu] 29)
  have HB4 := Lib.hid (btrans (btrans HB3.out hb) hal); have HA4 := Lib.hid ((HA3.out.below hb).below hal); have HN4 := Lib.hid ((HN3.out.stays hb).stays hal)
  have HO4 := Lib.hid (hmod.stays hal)
  have HC4 := Lib.hid (show FBox w4.heap.size (.int .i64 co) (.string te) (.int .i64 nu) (w4.alloc (.cells #[.int .i64 co, .string te, .int .i64 nu] 29)) from FBox.new _ rfl)
  obtain ⟨p4, c4, rfl, _, _, _⟩ := hmod
  clear hb hal x0 x1 x2 x3 x4 x5
  simp only [AnsM.agg]
  go_wp2_with fail
  refine (fixed_any _ (pow_stays HP.out HB4.out)).mono ?_
  rintro e w5 ⟨rfl, hb⟩
  have HB5 := Lib.hid (btrans HB4.out hb); have HA5 := Lib.hid (HA4.out.below hb); have HN5 := Lib.hid (HN4.out.stays hb); have HO5 := Lib.hid (HO4.out.stays hb); have HC5 := Lib.hid (HC4.out.below hb)
  clear hb
  go_wp2_with fail
  refine (may_any m _ _ (HM.out.stays HB5.out)).mono ?_
  rintro e w6 ⟨rfl, hb⟩
  have HB6 := Lib.hid (btrans HB5.out hb); have HA6 := Lib.hid (HA5.out.below hb); have HN6 := Lib.hid (HN5.out.stays hb); have HO6 := Lib.hid (HO5.out.stays hb); have HC6 := Lib.hid (HC5.out.below hb)
  clear hb
  go_wp2_with fail
  refine (rmay_any m _ _ (HM.out.stays HB6.out)).mono ?_
  rintro e w7 ⟨rfl, hb⟩
  have HB7 := Lib.hid (btrans HB6.out hb); have HA7 := Lib.hid (HA6.out.below hb); have HN7 := Lib.hid (HN6.out.stays hb); have HO7 := Lib.hid (HO6.out.stays hb); have HC7 := Lib.hid (HC6.out.below hb)
  clear hb
  go_wp2_with fail
  refine (rsame_any N N _ _ _ HN7.out HO7.out).mono ?_
  rintro e w8 ⟨rfl, hb⟩
  have HB8 := Lib.hid (btrans HB7.out hb); have HA8 := Lib.hid (HA7.out.below hb); have HC8 := Lib.hid (HC7.out.below hb)
  clear hb
  have a0 := HA8.out.c0; have a1 := HA8.out.c1; have a2 := HA8.out.c2
  have b0 := HC8.out.c0; have b1 := HC8.out.c1; have b2 := HC8.out.c2
  have hla := HA8.out.lt; have hlc := HC8.out.lt
  have hrun := fun w => run_eql_ans w co nu te
  rw [decide_eq_true (rfl : N = N)]
  go_wp2_with fail
  go_ret
  exact ⟨rfl, HB8.out⟩

set_option maxRecDepth 100000 in
theorem contract (H : Type) (enc : TypeId × Value → H) (W : World) (base : Nat) (args : Array Value) (ds gs : List (DataW H)) (before : List MemPlace)
    (hval : ∀ (j : Nat) t v, Tryd.f3.params[j]? = some t → args[j]? = some v → Value.okWide Tryd.prog W .any base t v)
    (hW : DataW.Whole enc Tryd.prog Tryd.f3.params.toList Rows.modelDoesSpec.vars false W args.toList ds gs before) (hL : laidMetH Tryd.prog Rows.modelDoesRow.laid W) :
    Calls Tryd.prog 3 args W fun e W' => ∃ v, e = .returned v ∧ Rows.modelDoesSpec.post enc Tryd.prog Tryd.f3 false true false false W args v W' := by
  have hW' := hW
  obtain ⟨p, q, hA0, hV, rfl, hfz, hnd⟩ := hW
  have hA : DataW.TrodAll enc Tryd.prog W 0 (fun _ => true) true Tryd.f3.params.toList args.toList ds p := hA0
  rw [Tryd.params3] at hA hval
  obtain ⟨v0, vs0, d0, ds0, p0, q0, hargs, rfl, rfl, h0, r0⟩ := trodAll_cons hA
  obtain ⟨v1, vs1, d1, ds1, p1, q1, rfl, rfl, rfl, h1, r1⟩ := trodAll_cons r0
  obtain ⟨rfl, rfl, rfl⟩ := trodAll_nil r1
  obtain rfl : args = #[v0, v1] := by cases args; simp_all
  obtain ⟨rfl, rfl⟩ := trodVars_none hV
  obtain ⟨a0, ha0⟩ := open_model (hval 0 22 v0 rfl rfl) h0
  obtain ⟨a1, rfl⟩ := open_op (hval 1 24 v1 rfl rfl) h1
  clear hA0
  simp only [List.append_nil] at hW'
  refine (walk W (pow10_met hL) a0 v0 a1 ha0 ).mono fun e W' ⟨he, hg⟩ => ?_
  subst he
  exact ⟨_, rfl, law_post laidOut (by rw [Tryd.params3]; intro t ht; simp only [List.mem_cons, List.not_mem_nil, or_false] at ht; rcases ht with rfl | rfl <;> exact ⟨by kernel_rfl, of_decide_eq_true (by kernel_rfl)⟩) rfl (show Tryd.f3.resultTypes = #[4] by kernel_rfl) Tryd.underlying4 hW' hg rfl⟩
theorem reads (os : Os) {H : Type} (enc : TypeId × Value → H) : ∃ places, DataW.whole enc Tryd.prog ((laidWorld os).forCall (fun _ _ => 0) ⟨#[], (#[.slice none 0 0, .agg #[.int .i64 0, .int .i64 0, .int .i64 0, .int .i64 0, .int .i64 0, .string ⟨#[]⟩]] : Array Value), []⟩).memory Tryd.f3.params.toList Rows.modelDoesSpec.vars false (#[.slice none 0 0, .agg #[.int .i64 0, .int .i64 0, .int .i64 0, .int .i64 0, .int .i64 0, .string ⟨#[]⟩]] : Array Value).toList 8 = some ([.nil, .agg [.lit (.int .i64 0), .lit (.int .i64 0), .lit (.int .i64 0), .lit (.int .i64 0), .lit (.int .i64 0), .lit (.string [])]], [], places) :=
  ⟨[], by kernel_rfl⟩

set_option maxRecDepth 100000 in
theorem lifted (os : Os) (started : os.Started) (H : Type) (enc : TypeId × Value → H) (F : Stop.Interp) :
    ReturnsInHanded {} Tryd.checked os 3 .any ((OpenSpec.ofChange Rows.modelDoesSpec).preRow enc Tryd.prog Tryd.f3 Rows.modelDoesRow.domain false Rows.modelDoesRow.laid) (((OpenSpec.ofChange Rows.modelDoesSpec).at F).post enc Tryd.prog Tryd.f3 false true false false) := by
  obtain ⟨places, hx⟩ := reads os enc
  refine returnsInHanded_of_row (C := Tryd.checked) (s := OpenSpec.ofChange Rows.modelDoesSpec) own started (by kernel_rfl) Tryd.func3
    (witness_row_at (enc := enc) (C := Tryd.checked) false (laidWorld os) #[.slice none 0 0, .agg #[.int .i64 0, .int .i64 0, .int .i64 0, .int .i64 0, .int .i64 0, .string ⟨#[]⟩]] rfl (by kernel_rfl) (by kernel_rfl) (by kernel_rfl)
      (OpenSpec.preRow_of_cond 8 hx (by kernel_rfl) (fun k hk => by cases hk) (by kernel_rfl) (laid_met os _))) ?_
  intro W base args ds gs before hval hW _ _ _ hL _ _
  exact contract H enc W base args ds gs before hval hW hL

theorem said : Rows.ModelDoesSaid :=
  OpenClaim.holds_of_cond 3 Tryd.f3 rfl rfl rfl rfl rfl rfl rfl ⟨rfl, rfl, rfl, rfl, rfl⟩ rfl rfl rfl rfl rfl (by kernel_rfl) Tryd.func3 (by kernel_rfl)
    (of_decide_eq_true (by kernel_rfl)) (by unfold Func.isWrapper; first | (rw [if_pos (by decide +kernel)]; kernel_rfl) | (rw [if_neg (by decide +kernel)]; exact ⟨rfl, rfl⟩))
    (fun os started H enc _ F => by rw [OpenClaim.pre_eq_preRow]; exact lifted os started H enc F)

theorem plain (f : FuncId) (fn : Func) (hf : Tryd.pinned.checked.prog.funcNamed Rows.modelDoesRow.func = some f) (hfn : Tryd.pinned.checked.prog.funcs[f]? = some fn) :
    false = Tryd.pinned.checked.prog.looks [] ∧ ∀ (j : Nat) t, fn.params[j]? = some t → Tryd.pinned.checked.prog.wantsStandIn t = false := by
  obtain rfl : f = 3 := Option.some.inj ((show Tryd.prog.funcNamed Rows.modelDoesRow.func = some 3 by kernel_rfl).symm.trans hf) |>.symm
  obtain rfl : fn = Tryd.f3 := (Option.some.inj (Tryd.func3.symm.trans hfn)).symm
  refine ⟨by kernel_rfl, fun j t ht => ?_⟩
  rw [Tryd.params3] at ht
  have hm := Array.mem_of_getElem? ht
  simp only [List.mem_toArray, List.mem_cons, List.not_mem_nil, or_false] at hm
  rcases hm with rfl | rfl
  · exact (show Tryd.prog.wantsStandIn 22 = false by kernel_rfl)
  · exact (show Tryd.prog.wantsStandIn 24 = false by kernel_rfl)

theorem card : Rows.ModelDoesCardSaid :=
  Claim7.holds_tied_plain_at .later [] _ _ _ _ said (fun _ h => by cases h) (by kernel_rfl) (fun _ h => by cases h) modelDoes_row_tie rfl ⟨rfl, rfl⟩ (by kernel_rfl) rfl plain (by kernel_rfl)
end Go.Proofs.YtgabifkechofnaaDoor.modelDoes
