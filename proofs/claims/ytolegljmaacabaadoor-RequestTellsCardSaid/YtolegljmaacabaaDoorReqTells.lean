/- RequestTells: what any text asks, its words, any filling, and how any answer is shown, is what the reference gives: the law returns true for every input. Condition: the listed tables lie as the program's text lays them (the card ties that). -/
import Derived.Test.YtolegljmaacabaaDoorReqK
import Derived.Test.YtolegljmaacabaaDoorLaid2
import Derived.Test.YtolegljmaacabaaDoorReqH
import Derived.Test.YtolegljmaacabaaDoorReqM
import Derived.Deep.RegionHeld3
import Derived.Lib.SmallJoins
namespace Go.Proofs.YtolegljmaacabaaDoor.requestTells
open Go.Stop Go.ChangeShapes Go.WideShapes Go.ChangeAt Go.RowKit
open Go.ChangeMaps (open_string)

/-- what the law's last statement holds of the world: its boxes -/
def SS (w : World) (b1 b2 : Nat) (t : ByteArray) (code n ac vo de bl nn : Int) (tx : ByteArray) (w' : World) : Prop :=
  Tabs w' ∧ Below w.heap.size w w' ∧ w'.cell? ⟨w.heap.size, 0, none⟩ = some (.int .i64 code) ∧ w'.cell? ⟨w.heap.size, 1, none⟩ = some (.string t) ∧ w'.cell? ⟨w.heap.size, 2, none⟩ = some (.int .i64 n) ∧ w'.cell? ⟨b1, 0, none⟩ = some (.int .i64 ac) ∧ w'.cell? ⟨b1, 1, none⟩ = some (.int .i64 vo) ∧ w'.cell? ⟨b1, 2, none⟩ = some (.int .i64 de) ∧ w'.cell? ⟨b1, 3, none⟩ = some (.int .i64 bl) ∧ w'.cell? ⟨b1, 4, none⟩ = some (.int .i64 nn) ∧ w'.cell? ⟨b1, 5, none⟩ = some (.string tx) ∧ w'.cell? ⟨b2, 0, none⟩ = some (.int .i64 ac) ∧ w'.cell? ⟨b2, 1, none⟩ = some (.int .i64 vo) ∧ w'.cell? ⟨b2, 2, none⟩ = some (.int .i64 de) ∧ w'.cell? ⟨b2, 3, none⟩ = some (.int .i64 bl) ∧ w'.cell? ⟨b2, 4, none⟩ = some (.int .i64 nn) ∧ w'.cell? ⟨b2, 5, none⟩ = some (.string tx)
theorem SS.next {w : World} {b1 b2 : Nat} {t : ByteArray} {code n ac vo de bl nn : Int} {tx : ByteArray} {W W' : World} (h : SS w b1 b2 t code n ac vo de bl nn tx W) (hb : Below W.heap.size W W') : SS w b1 b2 t code n ac vo de bl nn tx W' := by
  unfold SS at h ⊢
  obtain ⟨h1, h2, hs⟩ := h
  have key : ∀ {a : Addr} {v : Value}, W.cell? a = some v → W'.cell? a = some v := fun hc => (hb.cell (World.block_lt_of_cell? W _ hc)).trans hc
  exact ⟨h1.stays hb, btrans h2 hb, key hs.1, key hs.2.1, key hs.2.2.1, key hs.2.2.2.1, key hs.2.2.2.2.1, key hs.2.2.2.2.2.1, key hs.2.2.2.2.2.2.1, key hs.2.2.2.2.2.2.2.1, key hs.2.2.2.2.2.2.2.2.1, key hs.2.2.2.2.2.2.2.2.2.1, key hs.2.2.2.2.2.2.2.2.2.2.1, key hs.2.2.2.2.2.2.2.2.2.2.2.1, key hs.2.2.2.2.2.2.2.2.2.2.2.2.1, key hs.2.2.2.2.2.2.2.2.2.2.2.2.2.1, key hs.2.2.2.2.2.2.2.2.2.2.2.2.2.2⟩
set_option maxRecDepth 100000 in
set_option maxHeartbeats 2000000 in
theorem walk (s : ByteArray) (d code : Int) (t : ByteArray) (n : Int) (hs : s.size ≤ maxLen) (_hd0 : -9223372036854775808 ≤ d) (_hd1 : d ≤ 9223372036854775807) (ht : t.size ≤ maxLen) (hc0 : -9223372036854775808 ≤ code) (hc1 : code ≤ 9223372036854775807) (h0 : -9223372036854775808 ≤ n) (h1 : n ≤ 9223372036854775807) (w : World) (hT : Tabs w) :
    Calls Tryd.prog 3 #[.string s, .int .i64 d, ansV code t n] w fun e w' => e = .returned (.bool true) ∧ Below w.heap.size w w' := by
  have hb0 : Below w.heap.size w (w.alloc (.cells #[.int .i64 code, .string t, .int .i64 n] 24)) := (Below.refl _ _).alloc (Nat.le_refl _) _
  have HT := Lib.hid (hT.stays hb0)
  have HB0 := Lib.hid hb0
  clear hT hb0
  by_cases hg1 : 2000 < s.size
  · have e1 : (2000 : Int) < (s.size : Int) := by omega
    clear hg1
    unfold ansV
    go_enter Tryd.func3, Tryd.ntmps3
    go_wp2_with fail
    refine (fixed_any _ HT.out).mono ?_
    rintro e w1 ⟨rfl, hb⟩
    have HB := Lib.hid (btrans HB0.out hb); clear hb
    go_wp2_with fail
    go_ret
    exact ⟨rfl, HB.out⟩
  · by_cases hg2 : 5000 < t.size
    · have e1 : ¬ (2000 : Int) < (s.size : Int) := by omega
      have e2 : (5000 : Int) < (t.size : Int) := by omega
      clear hg1 hg2
      unfold ansV
      go_enter Tryd.func3, Tryd.ntmps3
      go_wp2_with fail
      refine (fixed_any _ HT.out).mono ?_
      rintro e w1 ⟨rfl, hb⟩
      have HB := Lib.hid (btrans HB0.out hb); clear hb
      go_wp2_with fail
      go_ret
      exact ⟨rfl, HB.out⟩
    · have e1 : ¬ (2000 : Int) < (s.size : Int) := by omega
      have e2 : ¬ (5000 : Int) < (t.size : Int) := by omega
      have S2 := Lib.hid (show s.size ≤ 2000 by omega); have T2 := Lib.hid (show t.size ≤ 5000 by omega)
      clear hg1 hg2
      unfold ansV
      go_enter Tryd.func3, Tryd.ntmps3
      go_wp2_with fail
      clear e1 e2
      refine (parse_any s (by have := S2.out; omega) _).mono ?_
      rintro e w1 ⟨rfl, hb⟩
      obtain ⟨⟨ac, vo, de, bl, nn, tx⟩, ho⟩ : ∃ o, (parseL (wordsL s.data.toList)).getD OpD.zero = o := ⟨_, rfl⟩
      obtain ⟨ok, hk⟩ : ∃ ok, (parseL (wordsL s.data.toList)).isSome = ok := ⟨_, rfl⟩
      rw [ho, hk]
      have HO := Lib.hid ho; have HK := Lib.hid hk; clear ho hk
      have HB1 := Lib.hid hb; clear hb
      simp only [OpD.agg]
      go_wp2_with fail
      refine (rparse_any s (by have := S2.out; omega) _).mono ?_
      rintro e w2 ⟨rfl, hb⟩
      rw [HO.out, HK.out]
      have HB2 := Lib.hid (btrans (HB1.out.alloc HB1.out.size _) hb)
      have hx : w2.heap[w1.heap.size]? = some (.cells #[.int .i64 ac, .int .i64 vo, .int .i64 de, .int .i64 bl, .int .i64 nn, .string tx] 27 (0, 0)) := (hb.block _ (by simp)).trans (World.alloc_heap_new w1 _)
      have HX := Lib.hid hx; clear hb hx
      simp only [OpD.agg]
      go_wp2_with fail
      refine (fill_any s (by have := S2.out; unfold maxLen; omega) _).mono ?_
      rintro e w3 ⟨rfl, hb⟩
      obtain ⟨tf, hf⟩ : ∃ v, (⟨((fillL s.data.toList).getD []).toArray⟩ : ByteArray) = v := ⟨_, rfl⟩
      obtain ⟨pf, hp⟩ : ∃ v, (fillL s.data.toList).isSome = v := ⟨_, rfl⟩
      rw [hf, hp]
      have HF := Lib.hid hf; have HP := Lib.hid hp; clear hf hp
      have HB3 := Lib.hid (btrans (HB2.out.alloc HB2.out.size _) hb)
      have hy3 : w3.heap[w2.heap.size]? = some (.cells #[.int .i64 ac, .int .i64 vo, .int .i64 de, .int .i64 bl, .int .i64 nn, .string tx] 27 (0, 0)) := (hb.block _ (by simp)).trans (World.alloc_heap_new w2 _)
      have hx3 := (hb.block w1.heap.size (by have := (Array.getElem?_eq_some_iff.1 HX.out).1; simp; omega)).trans ((Below.heap_alloc w2 _ _ (Array.getElem?_eq_some_iff.1 HX.out).1).trans HX.out)
      have HX3 := Lib.hid hx3; have HY3 := Lib.hid hy3
      clear hb hy3 hx3 HX
      go_wp2_with fail
      refine (rfill_any s (by have := S2.out; unfold maxLen; omega) _).mono ?_
      rintro e w4 ⟨rfl, hb⟩
      rw [HF.out, HP.out]
      have HB4 := Lib.hid (btrans HB3.out hb)
      have hb4 : (w4.heap.size > w1.heap.size ∧ w4.heap.size > w2.heap.size) := by
        have h1 := (Array.getElem?_eq_some_iff.1 HX3.out).1; have h2 := (Array.getElem?_eq_some_iff.1 HY3.out).1; have := hb.size; omega
      have HX4 := Lib.hid ((hb.block w1.heap.size (Array.getElem?_eq_some_iff.1 HX3.out).1).trans HX3.out)
      have HY4 := Lib.hid ((hb.block w2.heap.size (Array.getElem?_eq_some_iff.1 HY3.out).1).trans HY3.out)
      clear hb HX3 HY3 hb4
      go_wp2_with fail
      have HL := Lib.hid (words_len (s := s) (by have := S2.out; omega))
      clear HO HK HF HP
      have hS : SS w w1.heap.size w2.heap.size t code n ac vo de bl nn tx w4 := by
        have hB := btrans HB0.out HB4.out
        have k0 : w4.heap[w.heap.size]? = some (.cells #[.int .i64 code, .string t, .int .i64 n] 24 (0, 0)) := (HB4.out.block _ (by simp)).trans (World.alloc_heap_new w _)
        refine ⟨HT.out.stays HB4.out, hB, ?_⟩
        have kx := HX4.out; have ky := HY4.out
        simp [World.cell?, k0, kx, ky]
      go_region_held3 (fun w' => Tabs w' ∧ Below w.heap.size w w' ∧ w'.cell? ⟨w.heap.size, 0, none⟩ = some (.int .i64 code) ∧ w'.cell? ⟨w.heap.size, 1, none⟩ = some (.string t) ∧ w'.cell? ⟨w.heap.size, 2, none⟩ = some (.int .i64 n) ∧ w'.cell? ⟨w1.heap.size, 0, none⟩ = some (.int .i64 ac) ∧ w'.cell? ⟨w1.heap.size, 1, none⟩ = some (.int .i64 vo) ∧ w'.cell? ⟨w1.heap.size, 2, none⟩ = some (.int .i64 de) ∧ w'.cell? ⟨w1.heap.size, 3, none⟩ = some (.int .i64 bl) ∧ w'.cell? ⟨w1.heap.size, 4, none⟩ = some (.int .i64 nn) ∧ w'.cell? ⟨w1.heap.size, 5, none⟩ = some (.string tx) ∧ w'.cell? ⟨w2.heap.size, 0, none⟩ = some (.int .i64 ac) ∧ w'.cell? ⟨w2.heap.size, 1, none⟩ = some (.int .i64 vo) ∧ w'.cell? ⟨w2.heap.size, 2, none⟩ = some (.int .i64 de) ∧ w'.cell? ⟨w2.heap.size, 3, none⟩ = some (.int .i64 bl) ∧ w'.cell? ⟨w2.heap.size, 4, none⟩ = some (.int .i64 nn) ∧ w'.cell? ⟨w2.heap.size, 5, none⟩ = some (.string tx)) (first | exact hS | exact hS.next (Below.refl _ _).drew | (refine SS.next ?_ (show Below _ _ _ by assumption); assumption) | (refine SS.next ?_ (below_drewN' (Below.refl _ _) _); assumption)) (first
        | (go_at_call 7; refine (fixed_any _ ?_).mono ?_; (simp [*]); rintro e w5 ⟨rfl, hb5⟩)
        | (go_at_call 13; refine (words_any s ?_ _).mono ?_; (have := S2.out; omega); rintro e w6 ⟨v, ws, rfl, hws, hown, hb6⟩)
        | (go_at_call 14; refine (rwords_any s ?_ _).mono ?_; (have := S2.out; omega); rintro e w7 ⟨v2, ws2, rfl, hws2, hown2, hb7⟩)
        | (go_at_call 12; refine (texts_yes _ (ow_below hown hb7) hown2 hws hws2 HL.out).mono ?_; rintro e w8 ⟨rfl, q, rfl⟩)
        | (go_at_call 15; refine (show_any d code n t ?_ hc0 hc1 h0 h1 _ ?_).mono ?_; (have := T2.out; omega); (simp [*]); rintro e w9 ⟨rfl, hb9⟩)
        | (go_at_call 16; refine (rshow_any d code n t ?_ hc0 hc1 h0 h1 _).mono ?_; (have := T2.out; omega); rintro e w10 ⟨rfl, hb10⟩))
      go_wp2_with fail
      go_ret
      exact ⟨by simp, (show Tabs _ ∧ Below _ _ _ ∧ _ by assumption).2.1⟩

set_option maxRecDepth 100000 in
theorem contract (H : Type) (enc : TypeId × Value → H) (W : World) (base : Nat) (args : Array Value) (ds gs : List (DataW H)) (before : List MemPlace)
    (hval : ∀ (j : Nat) t v, Tryd.f3.params[j]? = some t → args[j]? = some v → Value.okWide Tryd.prog W .any base t v)
    (hW : DataW.Whole enc Tryd.prog Tryd.f3.params.toList Rows.requestTellsSpec.vars false W args.toList ds gs before) (hL : laidMetH Tryd.prog Rows.requestTellsRow.laid W) :
    Calls Tryd.prog 3 args W fun e W' => ∃ v, e = .returned v ∧ Rows.requestTellsSpec.post enc Tryd.prog Tryd.f3 false true false false W args v W' := by
  have hW' := hW
  obtain ⟨p, q, hA0, hV, rfl, hfz, hnd⟩ := hW
  have hA : DataW.TrodAll enc Tryd.prog W 0 (fun _ => true) true Tryd.f3.params.toList args.toList ds p := hA0
  rw [Tryd.params3] at hA hval
  obtain ⟨v0, vs0, d0, ds0, p0, q0, hargs, rfl, rfl, h0, r0⟩ := trodAll_cons hA
  obtain ⟨v1, vs1, d1, ds1, p1, q1, rfl, rfl, rfl, h1, r1⟩ := trodAll_cons r0
  obtain ⟨v2, vs2, d2, ds2, p2, q2, rfl, rfl, rfl, h2, r2⟩ := trodAll_cons r1
  obtain ⟨rfl, rfl, rfl⟩ := trodAll_nil r2
  obtain rfl : args = #[v0, v1, v2] := by cases args; simp_all
  obtain ⟨rfl, rfl⟩ := trodVars_none hV
  obtain ⟨a0, rfl, rfl, rfl, wa0⟩ := open_string Tryd.underlying9 (hval 0 9 v0 rfl rfl) h0
  obtain ⟨a1, rfl, rfl, rfl, wa1⟩ := open_int Tryd.underlying3 (hval 1 3 v1 rfl rfl) h1
  obtain ⟨c20, c21, c22, y20, y21, y22, m2, rfl, rfl, rfl, g20, g21, g22⟩ := Joins.open_agg3 Tryd.underlying24 (by kernel_rfl) (show Tryd.prog.cellsOf 24 = 3 by kernel_rfl) (hval 2 24 v2 rfl rfl) h2
  obtain ⟨x20, e20, rfl, b20⟩ := DataW.trod_int Tryd.underlying22 g20
  obtain ⟨x21, e21, rfl, b21⟩ := DataW.trod_string Tryd.underlying9 g21
  obtain ⟨x22, e22, rfl, b22⟩ := DataW.trod_int Tryd.underlying3 g22
  obtain rfl := List.head_eq_of_cons_eq e20
  obtain rfl := List.head_eq_of_cons_eq e21
  obtain rfl := List.head_eq_of_cons_eq e22
  clear hA0
  simp only [List.append_nil] at hW'
  refine (walk a0 a1 x20 x21 x22 wa0 (int_bounds wa1).1 (int_bounds wa1).2 b21 (int_bounds b20).1 (int_bounds b20).2 (int_bounds b22).1 (int_bounds b22).2 W (tabs_met hL)).mono fun e W' ⟨he, hg⟩ => ?_
  subst he
  exact ⟨_, rfl, law_post laidOut (by rw [Tryd.params3]; intro t ht; simp only [List.mem_cons, List.not_mem_nil, or_false] at ht; rcases ht with rfl | rfl | rfl <;> exact ⟨by kernel_rfl, of_decide_eq_true (by kernel_rfl)⟩) rfl (show Tryd.f3.resultTypes = #[4] by kernel_rfl) Tryd.underlying4 hW' hg rfl⟩
theorem reads (os : Os) {H : Type} (enc : TypeId × Value → H) : ∃ places, DataW.whole enc Tryd.prog ((laidWorld os).forCall (fun _ _ => 0) ⟨#[], (#[.string ⟨#[]⟩, .int .i64 0, .agg #[.int .i64 0, .string ⟨#[]⟩, .int .i64 0]] : Array Value), []⟩).memory Tryd.f3.params.toList Rows.requestTellsSpec.vars false (#[.string ⟨#[]⟩, .int .i64 0, .agg #[.int .i64 0, .string ⟨#[]⟩, .int .i64 0]] : Array Value).toList 8 = some ([.lit (.string []), .lit (.int .i64 0), .agg [.lit (.int .i64 0), .lit (.string []), .lit (.int .i64 0)]], [], places) :=
  ⟨[], by kernel_rfl⟩

set_option maxRecDepth 100000 in
theorem lifted (os : Os) (started : os.Started) (H : Type) (enc : TypeId × Value → H) (F : Stop.Interp) :
    ReturnsInHanded {} Tryd.checked os 3 .any ((OpenSpec.ofChange Rows.requestTellsSpec).preRow enc Tryd.prog Tryd.f3 Rows.requestTellsRow.domain false Rows.requestTellsRow.laid) (((OpenSpec.ofChange Rows.requestTellsSpec).at F).post enc Tryd.prog Tryd.f3 false true false false) := by
  obtain ⟨places, hx⟩ := reads os enc
  refine returnsInHanded_of_row (C := Tryd.checked) (s := OpenSpec.ofChange Rows.requestTellsSpec) own started (by kernel_rfl) Tryd.func3
    (witness_row_at (enc := enc) (C := Tryd.checked) false (laidWorld os) #[.string ⟨#[]⟩, .int .i64 0, .agg #[.int .i64 0, .string ⟨#[]⟩, .int .i64 0]] rfl (by kernel_rfl) (by kernel_rfl) (by kernel_rfl)
      (OpenSpec.preRow_of_cond 8 hx (by kernel_rfl) (fun k hk => by cases hk) (by kernel_rfl) (laid_met os _))) ?_
  intro W base args ds gs before hval hW _ _ _ hL _ _
  exact contract H enc W base args ds gs before hval hW hL

theorem said : Rows.RequestTellsSaid :=
  OpenClaim.holds_of_cond 3 Tryd.f3 rfl rfl rfl rfl rfl rfl rfl ⟨rfl, rfl, rfl, rfl, rfl⟩ rfl rfl rfl rfl rfl (by kernel_rfl) Tryd.func3 (by kernel_rfl)
    (of_decide_eq_true (by kernel_rfl)) (by unfold Func.isWrapper; first | (rw [if_pos (by decide +kernel)]; kernel_rfl) | (rw [if_neg (by decide +kernel)]; exact ⟨rfl, rfl⟩))
    (fun os started H enc _ F => by rw [OpenClaim.pre_eq_preRow]; exact lifted os started H enc F)

theorem plain (f : FuncId) (fn : Func) (hf : Tryd.pinned.checked.prog.funcNamed Rows.requestTellsRow.func = some f) (hfn : Tryd.pinned.checked.prog.funcs[f]? = some fn) :
    false = Tryd.pinned.checked.prog.looks [] ∧ ∀ (j : Nat) t, fn.params[j]? = some t → Tryd.pinned.checked.prog.wantsStandIn t = false := by
  obtain rfl : f = 3 := Option.some.inj ((show Tryd.prog.funcNamed Rows.requestTellsRow.func = some 3 by kernel_rfl).symm.trans hf) |>.symm
  obtain rfl : fn = Tryd.f3 := (Option.some.inj (Tryd.func3.symm.trans hfn)).symm
  refine ⟨by kernel_rfl, fun j t ht => ?_⟩
  rw [Tryd.params3] at ht
  have hm := Array.mem_of_getElem? ht
  simp only [List.mem_toArray, List.mem_cons, List.not_mem_nil, or_false] at hm
  rcases hm with rfl | rfl | rfl
  · exact (show Tryd.prog.wantsStandIn 9 = false by kernel_rfl)
  · exact (show Tryd.prog.wantsStandIn 3 = false by kernel_rfl)
  · exact (show Tryd.prog.wantsStandIn 24 = false by kernel_rfl)

theorem card : Rows.RequestTellsCardSaid :=
  Claim7.holds_tied_plain_at .later [] _ _ _ _ said (fun _ h => by cases h) (by kernel_rfl) (fun _ h => by cases h) requestTells_row_tie rfl ⟨rfl, rfl⟩ (by kernel_rfl) rfl plain (by kernel_rfl)
end Go.Proofs.YtolegljmaacabaaDoor.requestTells
