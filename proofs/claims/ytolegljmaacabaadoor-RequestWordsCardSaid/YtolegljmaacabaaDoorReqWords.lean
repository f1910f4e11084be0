/- RequestWords: a text's words, parted by one blank, are its words; none is empty, nor has a blank: the law returns true for every input. Condition: the listed tables lie as the program's text lays them (the card ties that). -/
import Derived.Test.YtolegljmaacabaaDoorReqK
import Derived.Test.YtolegljmaacabaaDoorLaid2
import Derived.Test.YtolegljmaacabaaDoorReqLP
import Derived.Test.YtolegljmaacabaaDoorReqM
namespace Go.Proofs.YtolegljmaacabaaDoor.requestWords
open Go.Stop Go.ChangeShapes Go.WideShapes Go.ChangeAt Go.RowKit
open Go.ChangeMaps (open_string)

def JRel (L : List (List UInt8)) (t i : Value) : Prop := ∃ (k : Nat) (T : ByteArray), k ≤ L.length ∧ i = .int .i64 k ∧ t = .string T ∧ T.data.toList = joinW (L.take k)

theorem join_step0 {L : List (List UInt8)} {k : Nat} {T x : ByteArray} (hk : k = 0) (h0 : k < L.length) (hT : T.data.toList = joinW (L.take k)) (hx : x.data.toList = L[k]) : (T ++ x).data.toList = joinW (L.take (k + 1)) := by
  subst hk
  rw [List.take_succ_eq_append_getElem h0, joinW_snoc, if_pos (by simp), ← hx]
  simp only [List.take_zero, joinW] at hT
  simp [hT]
theorem join_step1 {L : List (List UInt8)} {k : Nat} {T x : ByteArray} (hk : 0 < k) (h0 : k < L.length) (hT : T.data.toList = joinW (L.take k)) (hx : x.data.toList = L[k]) : (T ++ ⟨#[32]⟩ ++ x).data.toList = joinW (L.take (k + 1)) := by
  rw [List.take_succ_eq_append_getElem h0, joinW_snoc, if_neg (by intro h; have := congrArg List.length h; rw [List.length_take, List.length_nil] at this; omega), ← hx, ← hT]
  simp

set_option maxRecDepth 100000 in
set_option maxHeartbeats 1000000 in
theorem walk (s : ByteArray) (hs : s.size ≤ maxLen) (w : World) (hT : Tabs w) :
    Calls Tryd.prog 5 #[.string s] w fun e w' => e = .returned (.bool true) ∧ Below w.heap.size w w' := by
  have HT := Lib.hid hT; clear hT
  by_cases hg1 : 1000 < s.size
  · have e1 : (1000 : Int) < (s.size : Int) := by omega
    clear hg1 hs
    go_enter Tryd.func5, Tryd.ntmps5
    go_wp2_with fail
    refine (fixed_any _ HT.out).mono ?_
    rintro e w1 ⟨rfl, hb⟩
    have HB := Lib.hid hb; have HT1 := Lib.hid (HT.out.stays hb); clear hb
    go_wp2_with fail
    refine (fixed_any _ HT1.out).mono ?_
    rintro e w2 ⟨rfl, hb⟩
    have HB2 := Lib.hid (btrans HB.out hb); clear hb
    go_wp2_with fail
    go_ret
    exact ⟨rfl, HB2.out⟩
  · have e1 : ¬ (1000 : Int) < (s.size : Int) := by omega
    have S1 := Lib.hid (show s.size ≤ 1000 by omega); clear hs
    clear hg1
    go_enter Tryd.func5, Tryd.ntmps5
    go_wp2_with fail
    refine (fixed_any _ HT.out).mono ?_
    rintro e w1 ⟨rfl, hb⟩
    have HB := Lib.hid hb; have HT1 := Lib.hid (HT.out.stays hb); clear hb
    go_wp2_with fail
    refine (words_any s (by have := S1.out; omega) _).mono ?_
    rintro e w2 ⟨v, ws, rfl, hws, hown, hb⟩
    obtain ⟨pa, ca, rfl, hc⟩ := own_shape hown
    have HB2 := Lib.hid (btrans HB.out hb)
    have HOWN := Lib.hid hown; have HC := Lib.hid hc; have HWS := Lib.hid hws
    obtain ⟨L, hL⟩ : ∃ L, wordsL s.data.toList = L := ⟨_, rfl⟩
    have HL := Lib.hid hL
    have hlen : ws.length = L.length := by rw [← hL, ← hws]; simp
    have HLEN := Lib.hid hlen
    have hll : L.length ≤ 1000 := by rw [← hL]; have h1 := wordsL_length s.data.toList; have h2 : s.data.toList.length = s.size := by simp
                                     have := S1.out; omega
    clear hb hown hc hws hL hlen e1
    rw [HLEN.out]
    go_wp2_with fail
    go_loop [4, 5] (fun t i => JRel L t i) (fun _ i => L.length - (intOf i).toNat)
    case atStart => exact ⟨0, ⟨#[]⟩, Nat.zero_le _, rfl, rfl, rfl⟩
    case round =>
      obtain ⟨k, T, hk, rfl, rfl, hT⟩ := hrel
      have HTT := Lib.hid hT; clear hT
      by_cases hlt : k < L.length
      · have hki : (k : Int) < (L.length : Int) := by omega
        obtain ⟨b, o, hp, hcell⟩ := HC.out k (by rw [HLEN.out]; exact hlt)
        subst hp
        obtain ⟨x, hx⟩ : ∃ x, strAt ws k = x := ⟨_, rfl⟩
        rw [hx] at hcell
        have hxl : x.data.toList = L[k] := by
          have h1 : (ws.map fun x => x.data.toList)[k]'(by simp; rw [HLEN.out]; exact hlt) = L[k] := by
            have := HWS.out.trans HL.out
            simp only [this]
          rw [← h1, ← hx]; simp [strAt, show k < ws.length by rw [HLEN.out]; exact hlt]
        have hfree := wordsL_free s.data.toList L[k] (by rw [HL.out]; exact List.getElem_mem hlt)
        have hne : ¬ x.toList = [] := by rw [ByteArray.toList_eq, hxl]; exact hfree.1
        have hne2 : x.toList.isEmpty = false := by rw [List.isEmpty_eq_false_iff]; exact hne
        have HX := Lib.hid hxl; have HF := Lib.hid hfree
        have hxs : x.size ≤ 1000 := by
          have h1 := wordsL_mem s.data.toList L[k] (by rw [HL.out]; exact List.getElem_mem hlt)
          rw [← hxl] at h1
          have e1 : x.data.toList.length = x.size := by simp
          have e2 : s.data.toList.length = s.size := by simp
          have := S1.out; omega
        have hts : T.size ≤ 1000 := by
          have h1 := join_take_le s.data.toList k
          rw [HL.out, ← HTT.out] at h1
          have e1 : T.data.toList.length = T.size := by simp
          have e2 : s.data.toList.length = s.size := by simp
          have := S1.out; omega
        have HXS := Lib.hid hxs; have HTS := Lib.hid hts
        clear hxl hfree hx hxs hts
        go_wp2_with fail
        go_loop [6] (fun j => ∃ m : Nat, m ≤ x.size ∧ j = .int .i64 m) (fun j => x.size - (intOf j).toNat)
        case atStart => exact ⟨0, Nat.zero_le _, rfl⟩
        case round =>
          obtain ⟨m, hm, rfl⟩ := hrel
          by_cases hlt2 : m < x.size
          · have hmi : (m : Int) < (x.size : Int) := by omega
            have hb32 : x[m] ≠ 32 := HF.out.2 _ (by rw [← HX.out]; exact List.getElem_mem (by simpa using hlt2))
            have hbb : ((x[m].toNat : Int) == 32) = false := by
              rw [beq_eq_false_iff_ne]; intro h
              exact hb32 (UInt8.toNat_inj.1 (by have : x[m].toNat = 32 := by omega
                                                rw [this]; rfl))
            clear hb32
            have hsz : x.size ≤ 1000 := HXS.out
            go_wp2_with fail
            go_round
            case rel => exact ⟨m + 1, by omega, by go_num⟩
            case measure => simp [intOf]; omega
          · have hmi : ¬ (m : Int) < (x.size : Int) := by omega
            have hsz : x.size ≤ 1000 := HXS.out
            have htz : T.size ≤ 1000 := HTS.out
            have hpos : k = 0 ∨ 0 < k := by omega
            rcases hpos with h0 | h0
            · have hk0 : ¬ (0 : Int) < (k : Int) := by omega
              have H0 := Lib.hid h0; clear h0
              go_wp2_with fail
              go_round
              case rel => exact ⟨k + 1, T ++ x, by omega, by go_num, rfl, join_step0 H0.out hlt HTT.out HX.out⟩
              case measure => simp [intOf]; omega
            · have hk0 : (0 : Int) < (k : Int) := by omega
              have H0 := Lib.hid h0; clear h0
              go_wp2_with fail
              go_round
              case rel => exact ⟨k + 1, T ++ ⟨#[32]⟩ ++ x, by omega, by go_num, rfl, join_step1 H0.out hlt HTT.out HX.out⟩
              case measure => simp [intOf]; omega
      · obtain rfl : k = L.length := by omega
        have HJ := Lib.hid (show T.data.toList = joinW (wordsL s.data.toList) by rw [HTT.out, List.take_length, HL.out])
        have htz : (T.size : Int) ≤ (s.size : Int) := by
          have h1 := join_le s.data.toList
          rw [← HJ.out] at h1
          have e1 : T.data.toList.length = T.size := by simp
          have e2 : s.data.toList.length = s.size := by simp
          omega
        have HTZ := Lib.hid htz; clear htz
        go_wp2_with fail
        refine (words_any T (by have h1 := HTZ.out; have h2 := S1.out; omega) _).mono ?_
        rintro e w3 ⟨v2, ws2, rfl, hws2, hown2, hb⟩
        have ho := ow_below HOWN.out hb
        rw [show Value.slice pa ws.length ca = Value.slice pa L.length ca by rw [HLEN.out]] at ho
        have HO := Lib.hid ho; have HO2 := Lib.hid hown2; have HB3 := Lib.hid (btrans HB2.out hb)
        have hw2 : ws2.map (fun x => x.data.toList) = L := by
          rw [hws2, HJ.out, words_join _ (fun p hp => wordsL_free _ p hp), HL.out]
        have HW2 := Lib.hid hw2
        clear hb ho hown2 hw2 hws2
        go_wp2_with fail
        refine (texts_yes (l := L) _ HO2.out HO.out HW2.out (HWS.out.trans HL.out) (by omega)).mono ?_
        rintro e w4 ⟨rfl, q, rfl⟩
        have htz := HTZ.out
        go_wp2_with fail
        go_ret
        exact ⟨rfl, below_drewN' HB3.out _⟩

set_option maxRecDepth 100000 in
theorem contract (H : Type) (enc : TypeId × Value → H) (W : World) (base : Nat) (args : Array Value) (ds gs : List (DataW H)) (before : List MemPlace)
    (hval : ∀ (j : Nat) t v, Tryd.f5.params[j]? = some t → args[j]? = some v → Value.okWide Tryd.prog W .any base t v)
    (hW : DataW.Whole enc Tryd.prog Tryd.f5.params.toList Rows.requestWordsSpec.vars false W args.toList ds gs before) (hL : laidMetH Tryd.prog Rows.requestWordsRow.laid W) :
    Calls Tryd.prog 5 args W fun e W' => ∃ v, e = .returned v ∧ Rows.requestWordsSpec.post enc Tryd.prog Tryd.f5 false true false false W args v W' := by
  have hW' := hW
  obtain ⟨p, q, hA0, hV, rfl, hfz, hnd⟩ := hW
  have hA : DataW.TrodAll enc Tryd.prog W 0 (fun _ => true) true Tryd.f5.params.toList args.toList ds p := hA0
  rw [Tryd.params5] at hA hval
  obtain ⟨v0, vs0, d0, ds0, p0, q0, hargs, rfl, rfl, h0, r0⟩ := trodAll_cons hA
  obtain ⟨rfl, rfl, rfl⟩ := trodAll_nil r0
  obtain rfl : args = #[v0] := by cases args; simp_all
  obtain ⟨rfl, rfl⟩ := trodVars_none hV
  obtain ⟨a0, rfl, rfl, rfl, wa0⟩ := open_string Tryd.underlying9 (hval 0 9 v0 rfl rfl) h0
  clear hA0
  simp only [List.append_nil] at hW'
  refine (walk a0 wa0 W (tabs_met hL)).mono fun e W' ⟨he, hg⟩ => ?_
  subst he
  exact ⟨_, rfl, law_post laidOut (by rw [Tryd.params5]; intro t ht; simp only [List.mem_cons, List.not_mem_nil, or_false] at ht; subst ht; exact ⟨by kernel_rfl, of_decide_eq_true (by kernel_rfl)⟩) rfl (show Tryd.f5.resultTypes = #[4] by kernel_rfl) Tryd.underlying4 hW' hg rfl⟩
theorem reads (os : Os) {H : Type} (enc : TypeId × Value → H) : ∃ places, DataW.whole enc Tryd.prog ((laidWorld os).forCall (fun _ _ => 0) ⟨#[], (#[.string ⟨#[]⟩] : Array Value), []⟩).memory Tryd.f5.params.toList Rows.requestWordsSpec.vars false (#[.string ⟨#[]⟩] : Array Value).toList 8 = some ([.lit (.string [])], [], places) :=
  ⟨[], by kernel_rfl⟩

set_option maxRecDepth 100000 in
theorem lifted (os : Os) (started : os.Started) (H : Type) (enc : TypeId × Value → H) (F : Stop.Interp) :
    ReturnsInHanded {} Tryd.checked os 5 .any ((OpenSpec.ofChange Rows.requestWordsSpec).preRow enc Tryd.prog Tryd.f5 Rows.requestWordsRow.domain false Rows.requestWordsRow.laid) (((OpenSpec.ofChange Rows.requestWordsSpec).at F).post enc Tryd.prog Tryd.f5 false true false false) := by
  obtain ⟨places, hx⟩ := reads os enc
  refine returnsInHanded_of_row (C := Tryd.checked) (s := OpenSpec.ofChange Rows.requestWordsSpec) own started (by kernel_rfl) Tryd.func5
    (witness_row_at (enc := enc) (C := Tryd.checked) false (laidWorld os) #[.string ⟨#[]⟩] rfl (by kernel_rfl) (by kernel_rfl) (by kernel_rfl)
      (OpenSpec.preRow_of_cond 8 hx (by kernel_rfl) (fun k hk => by cases hk) (by kernel_rfl) (laid_met os _))) ?_
  intro W base args ds gs before hval hW _ _ _ hL _ _
  exact contract H enc W base args ds gs before hval hW hL

theorem said : Rows.RequestWordsSaid :=
  OpenClaim.holds_of_cond 5 Tryd.f5 rfl rfl rfl rfl rfl rfl rfl ⟨rfl, rfl, rfl, rfl, rfl⟩ rfl rfl rfl rfl rfl (by kernel_rfl) Tryd.func5 (by kernel_rfl)
    (of_decide_eq_true (by kernel_rfl)) (by unfold Func.isWrapper; first | (rw [if_pos (by decide +kernel)]; kernel_rfl) | (rw [if_neg (by decide +kernel)]; exact ⟨rfl, rfl⟩))
    (fun os started H enc _ F => by rw [OpenClaim.pre_eq_preRow]; exact lifted os started H enc F)

theorem plain (f : FuncId) (fn : Func) (hf : Tryd.pinned.checked.prog.funcNamed Rows.requestWordsRow.func = some f) (hfn : Tryd.pinned.checked.prog.funcs[f]? = some fn) :
    false = Tryd.pinned.checked.prog.looks [] ∧ ∀ (j : Nat) t, fn.params[j]? = some t → Tryd.pinned.checked.prog.wantsStandIn t = false := by
  obtain rfl : f = 5 := Option.some.inj ((show Tryd.prog.funcNamed Rows.requestWordsRow.func = some 5 by kernel_rfl).symm.trans hf) |>.symm
  obtain rfl : fn = Tryd.f5 := (Option.some.inj (Tryd.func5.symm.trans hfn)).symm
  refine ⟨by kernel_rfl, fun j t ht => ?_⟩
  rw [Tryd.params5] at ht
  have hm := Array.mem_of_getElem? ht
  simp only [List.mem_toArray, List.mem_cons, List.not_mem_nil, or_false] at hm
  subst hm
  exact (show Tryd.prog.wantsStandIn 9 = false by kernel_rfl)

theorem card : Rows.RequestWordsCardSaid :=
  Claim7.holds_tied_plain_at .later [] _ _ _ _ said (fun _ h => by cases h) (by kernel_rfl) (fun _ h => by cases h) requestWords_row_tie rfl ⟨rfl, rfl⟩ (by kernel_rfl) rfl plain (by kernel_rfl)
end Go.Proofs.YtolegljmaacabaaDoor.requestWords
