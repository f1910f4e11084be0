/- RequestFills: a letter fills a block with itself, and no other byte alone does; the same number fills it alike; each filling is a block: the law returns true for every input. Condition: the listed tables lie as the program's text lays them (the card ties that). -/
import Derived.Test.YtolegljmaacabaaDoorReqK
import Derived.Test.YtolegljmaacabaaDoorLaid2
import Derived.Test.YtolegljmaacabaaDoorReqLP
import Derived.Lib.SmallJoins
namespace Go.Proofs.YtolegljmaacabaaDoor.requestFills
open Go.Stop Go.ChangeShapes Go.WideShapes Go.ChangeAt Go.RowKit
open Go.ChangeMaps (open_string)

theorem dec_dig : ∀ (n m : Nat), m < n → ∀ b ∈ Lib.decDigits m, dig b = true
  | 0, m, h => by omega
  | n + 1, m, h => by
    intro b hb
    by_cases h1 : m < 10
    · rw [decDigits_lt h1] at hb
      simp only [List.mem_singleton] at hb
      rw [hb, dig_iff, UInt8.toNat_ofNat']; omega
    · rw [decDigits_ge h1] at hb
      rcases List.mem_append.1 hb with hb | hb
      · exact dec_dig n (m / 10) (by omega) b hb
      · simp only [List.mem_singleton] at hb
        rw [hb, dig_iff, UInt8.toNat_ofNat']; omega
theorem dec_val : ∀ (n m : Nat), m < n → valL (Lib.decDigits m) = m
  | 0, m, h => by omega
  | n + 1, m, h => by
    by_cases h1 : m < 10
    · rw [decDigits_lt h1]; show 10 * 0 + ((UInt8.ofNat (48 + m)).toNat - 48) = m
      rw [UInt8.toNat_ofNat']; omega
    · rw [decDigits_ge h1, valL_snoc, dec_val n (m / 10) (by omega), UInt8.toNat_ofNat']; omega
theorem dec_len : ∀ (k m : Nat), m < 10 ^ (k + 1) → 1 ≤ (Lib.decDigits m).length ∧ (Lib.decDigits m).length ≤ k + 1
  | 0, m, h => by rw [decDigits_lt (by omega)]; simp
  | k + 1, m, h => by
    by_cases h1 : m < 10
    · rw [decDigits_lt h1]; simp
    · rw [decDigits_ge h1]
      have := dec_len k (m / 10) (by rw [Nat.pow_succ] at h; omega)
      simp; omega
theorem dec_num {m : Nat} (h : m < 1000000) : numB (Lib.decDigits m) = true := by
  have hl := dec_len 5 m (by simpa using h)
  refine (itoa_iff (dec_dig (m + 1) m (by omega)) hl.1 (by omega)).1 ?_
  rw [dec_val (m + 1) m (by omega)]
  unfold Lib.itoa; rw [if_neg (by omega)]; rfl
def rT (m : Nat) : ByteArray := ⟨(genX m 256).toArray⟩
theorem rT_size (m : Nat) : (rT m).size = 256 := by show (genX m 256).toArray.size = 256; rw [List.size_toArray, genX_length]
theorem fill_num {m : Nat} (h : m < 1000000) : fillL (114 :: Lib.decDigits m) = some (genX m 256) := by
  have hl := dec_len 5 m (by simpa using h)
  have hn := dec_num h
  have hv := dec_val (m + 1) m (by omega)
  generalize Lib.decDigits m = l at *
  match l, hl with
  | c :: r, _ => rw [fillL_more, if_pos ⟨rfl, hn⟩, hv]
theorem fr_any (m : Nat) (h : m < 1000000) (w : World) : Calls Tryd.prog 10 #[.string (⟨#[114]⟩ ++ ⟨(Lib.itoa (m : Int)).toArray⟩)] w fun e w' => e = .returned (.tuple #[.string (rT m), .bool true]) ∧ Below w.heap.size w w' := by
  have e1 : Lib.itoa (m : Int) = Lib.decDigits m := by unfold Lib.itoa; rw [if_neg (by omega)]; rfl
  have hl := dec_len 5 m (by simpa using h)
  have e2 : ((⟨#[114]⟩ : ByteArray) ++ ⟨(Lib.itoa (m : Int)).toArray⟩).data.toList = 114 :: Lib.decDigits m := by
    rw [e1]; simp
  refine (fill_any _ ?_ w).mono ?_
  · have : ((⟨#[114]⟩ : ByteArray) ++ ⟨(Lib.itoa (m : Int)).toArray⟩).size = (114 :: Lib.decDigits m).length := by
      rw [← e2, Array.length_toList]; rfl
    rw [this, List.length_cons]; unfold maxLen; omega
  · rintro e w' ⟨rfl, hb⟩
    rw [e2, fill_num h]
    exact ⟨rfl, hb⟩
theorem fr_int (a : Int) (h : 0 ≤ a ∧ a < 1000000) (w : World) : Calls Tryd.prog 10 #[.string (⟨#[114]⟩ ++ itoaB a)] w fun e w' => e = .returned (.tuple #[.string (rT a.toNat), .bool true]) ∧ Below w.heap.size w w' := by
  obtain ⟨m, rfl⟩ := Int.eq_ofNat_of_zero_le h.1
  exact fr_any m (by omega) w
def cT (c : UInt8) : ByteArray := ⟨(rep256 c).toArray⟩
theorem cT_size (c : UInt8) : (cT c).size = 256 := by show (rep256 c).toArray.size = 256; rw [List.size_toArray]; unfold rep256; rw [List.length_replicate]
theorem cT_at (c : UInt8) (i : Nat) (h : i < (cT c).size) : (cT c)[i] = c := by
  have hi : i < (rep256 c).length := by have e : (cT c).size = (rep256 c).length := List.size_toArray; omega
  exact List.eq_of_mem_replicate (n := 256) (List.getElem_mem (l := rep256 c) (n := i) hi)
theorem fc_yes (c : UInt8) (h : 97 ≤ c.toNat ∧ c.toNat ≤ 122) (w : World) : Calls Tryd.prog 10 #[.string ⟨#[c]⟩] w fun e w' => e = .returned (.tuple #[.string (cT c), .bool true]) ∧ Below w.heap.size w w' := by
  refine (fill_any ⟨#[c]⟩ (by simp [ByteArray.size, maxLen]) w).mono ?_
  rintro e w' ⟨rfl, hb⟩
  rw [show fillL (⟨#[c]⟩ : ByteArray).data.toList = some (rep256 c) from (fillL_one c).trans (if_pos h)]
  exact ⟨rfl, hb⟩
theorem fc_no (c : UInt8) (h : ¬ (97 ≤ c.toNat ∧ c.toNat ≤ 122)) (w : World) : Calls Tryd.prog 10 #[.string ⟨#[c]⟩] w fun e w' => e = .returned (.tuple #[.string ⟨#[]⟩, .bool false]) ∧ Below w.heap.size w w' := by
  refine (fill_any ⟨#[c]⟩ (by simp [ByteArray.size, maxLen]) w).mono ?_
  rintro e w' ⟨rfl, hb⟩
  rw [show fillL (⟨#[c]⟩ : ByteArray).data.toList = none from (fillL_one c).trans (if_neg h)]
  exact ⟨rfl, hb⟩

theorem conv1 (c : UInt8) (w : World) : (convert 40 9 (.slice (some ⟨w.heap.size, 0, none⟩) 1 1)).run Tryd.prog (w.alloc (.cells #[.int .u8 (c.toNat : Nat)] 5)) = .ok (.string ⟨#[c]⟩) (w.alloc (.cells #[.int .u8 (c.toNat : Nat)] 5)) := by
  exact run_convert_bytes_back (P := Tryd.prog) _ 40 9 5 ⟨w.heap.size, 0, none⟩ 1 [c] Tryd.underlying40 Tryd.underlying5 Tryd.underlying9 (fun j hj => by
    have hj' : j = 0 := by simpa using hj
    subst hj'
    rw [ow_at', World.cell?_alloc_at _ _ _ _ rfl]; rfl)

theorem last_eq {a b : Int} {S T : ByteArray} (h : a = b → S = T) : Ending.returned (.bool (a != b || S.toList == T.toList)) = .returned (.bool true) := by
  by_cases e : a = b
  · rw [h e]; simp
  · simp [e]

set_option maxRecDepth 100000 in
set_option maxHeartbeats 1000000 in
theorem walk (a b c : Int) (ha0 : -9223372036854775808 ≤ a) (ha1 : a ≤ 9223372036854775807) (hb0 : -9223372036854775808 ≤ b) (hb1 : b ≤ 9223372036854775807) (hc0 : 0 ≤ c) (hc1 : c ≤ 255) (w : World) (hT : Tabs w) :
    Calls Tryd.prog 6 #[.int .i64 a, .int .i64 b, .int .u8 c] w fun e w' => e = .returned (.bool true) ∧ Below w.heap.size w w' := by
  have HT := Lib.hid hT; clear hT
  by_cases hg : 0 ≤ a ∧ 0 ≤ b ∧ a < 1000000 ∧ b < 1000000
  · obtain ⟨h1, h2, h3, h4⟩ := hg
    obtain ⟨c, rfl⟩ : ∃ k : UInt8, c = (k.toNat : Int) := ⟨UInt8.ofNat c.toNat, by rw [UInt8.toNat_ofNat']; omega⟩
    have hab : a = b → rT a.toNat = rT b.toNat := fun h => by rw [h]
    have HP := Lib.hid (And.intro (And.intro h1 h3) (And.intro h2 h4))
    have HAB := Lib.hid hab; clear hab
    have HA := Lib.hid (And.intro (And.intro ha0 ha1) (And.intro hb0 hb1)); clear ha0 ha1 hb0 hb1 hc0 hc1
    go_enter Tryd.func6, Tryd.ntmps6
    go_wp2_with fail
    refine (fixed_any _ HT.out).mono ?_
    rintro e w1 ⟨rfl, hb⟩
    have HB1 := Lib.hid hb; clear hb
    go_wp2_with fail
    refine (signed_any a HA.out.1.1 HA.out.1.2 _).mono ?_
    rintro e w' ⟨rfl, rfl⟩
    rw [show (⟨(Lib.itoa a).toArray⟩ : ByteArray) = itoaB a from rfl]
    have hsa := itoaB_size a HA.out.1.1 HA.out.1.2
    go_wp2_with fail
    refine (fr_int a HP.out.1 _).mono ?_
    rintro e w2 ⟨rfl, hb⟩
    obtain ⟨S, hS⟩ : ∃ S, rT a.toNat = S := ⟨_, rfl⟩
    rw [hS]
    have HS := Lib.hid hS; clear hS
    have HB2 := Lib.hid (btrans HB1.out hb); clear hb
    go_wp2_with fail
    refine (signed_any b HA.out.2.1 HA.out.2.2 _).mono ?_
    rintro e w' ⟨rfl, rfl⟩
    rw [show (⟨(Lib.itoa b).toArray⟩ : ByteArray) = itoaB b from rfl]
    have hsb := itoaB_size b HA.out.2.1 HA.out.2.2
    go_wp2_with fail
    refine (fr_int b HP.out.2 _).mono ?_
    rintro e w3 ⟨rfl, hb⟩
    obtain ⟨T, hT⟩ : ∃ T, rT b.toNat = T := ⟨_, rfl⟩
    rw [hT]
    have hab := HAB.out
    rw [HS.out, hT] at hab
    have HST := Lib.hid hab
    have HT := Lib.hid hT; clear hT hab HAB
    have HB3 := Lib.hid (btrans HB2.out hb); clear hb
    have hcv := conv1 c w3
    go_wp2_with fail
    clear hsa hsb hcv
    by_cases hcc : 97 ≤ c.toNat ∧ c.toNat ≤ 122
    · refine (fc_yes c hcc _).mono ?_
      rintro e w4 ⟨rfl, hb⟩
      have HB4 := Lib.hid (btrans ((HB3.out.alloc HB3.out.size _)) hb); clear hb
      have k1 : S.size = 256 := by rw [← HS.out]; exact rT_size a.toNat
      obtain ⟨U, hU⟩ : ∃ U, cT c = U := ⟨_, rfl⟩
      rw [hU]
      have k2 : U.size = 256 := by rw [← hU]; exact cT_size c
      have k3 : U[0]'(by rw [k2]; decide) = c := by subst hU; exact cT_at c 0 _
      have k4 : U[255]'(by rw [k2]; decide) = c := by subst hU; exact cT_at c 255 _
      have HU := Lib.hid hU; clear hU
      have k5 : (97 : Int) ≤ (c.toNat : Int) := by omega
      have k6 : (c.toNat : Int) ≤ 122 := by omega
      go_wp2_with fail
      all_goals (go_ret; refine ⟨?_, HB4.out⟩; first | rfl | exact last_eq HST.out | (rw [HST.out (by simp_all)]; simp))
    · refine (fc_no c hcc _).mono ?_
      rintro e w4 ⟨rfl, hb⟩
      have HB4 := Lib.hid (btrans ((HB3.out.alloc HB3.out.size _)) hb); clear hb
      have k1 : S.size = 256 := by rw [← HS.out]; exact rT_size a.toNat
      by_cases h97 : 97 ≤ c.toNat
      · have k5 : (97 : Int) ≤ (c.toNat : Int) := by omega
        have k6 : ¬ (c.toNat : Int) ≤ 122 := by omega
        go_wp2_with fail
        all_goals (go_ret; refine ⟨?_, HB4.out⟩; first | rfl | exact last_eq HST.out | (rw [HST.out (by simp_all)]; simp))
      · have k5 : ¬ (97 : Int) ≤ (c.toNat : Int) := by omega
        go_wp2_with fail
        all_goals (go_ret; refine ⟨?_, HB4.out⟩; first | rfl | exact last_eq HST.out | (rw [HST.out (by simp_all)]; simp))
  · have hg2 : a < 0 ∨ b < 0 ∨ 1000000 ≤ a ∨ 1000000 ≤ b := by omega
    clear hg ha0 ha1 hb0 hb1 hc0 hc1
    go_enter Tryd.func6, Tryd.ntmps6
    go_wp2_with fail
    refine (fixed_any _ HT.out).mono ?_
    rintro e w1 ⟨rfl, hb⟩
    have HB1 := Lib.hid hb; have HT1 := Lib.hid (HT.out.stays hb); clear hb
    go_wp2_with fail
    all_goals
      refine (fixed_any _ HT1.out).mono ?_
      rintro e w2 ⟨rfl, hb⟩
      have HB2 := Lib.hid (btrans HB1.out hb); clear hb
      go_wp2_with fail
      go_ret
      exact ⟨rfl, HB2.out⟩

set_option maxRecDepth 100000 in
theorem contract (H : Type) (enc : TypeId × Value → H) (W : World) (base : Nat) (args : Array Value) (ds gs : List (DataW H)) (before : List MemPlace)
    (hval : ∀ (j : Nat) t v, Tryd.f6.params[j]? = some t → args[j]? = some v → Value.okWide Tryd.prog W .any base t v)
    (hW : DataW.Whole enc Tryd.prog Tryd.f6.params.toList Rows.requestFillsSpec.vars false W args.toList ds gs before) (hL : laidMetH Tryd.prog Rows.requestFillsRow.laid W) :
    Calls Tryd.prog 6 args W fun e W' => ∃ v, e = .returned v ∧ Rows.requestFillsSpec.post enc Tryd.prog Tryd.f6 false true false false W args v W' := by
  have hW' := hW
  obtain ⟨p, q, hA0, hV, rfl, hfz, hnd⟩ := hW
  have hA : DataW.TrodAll enc Tryd.prog W 0 (fun _ => true) true Tryd.f6.params.toList args.toList ds p := hA0
  rw [Tryd.params6] at hA hval
  obtain ⟨v0, vs0, d0, ds0, p0, q0, hargs, rfl, rfl, h0, r0⟩ := trodAll_cons hA
  obtain ⟨v1, vs1, d1, ds1, p1, q1, rfl, rfl, rfl, h1, r1⟩ := trodAll_cons r0
  obtain ⟨v2, vs2, d2, ds2, p2, q2, rfl, rfl, rfl, h2, r2⟩ := trodAll_cons r1
  obtain ⟨rfl, rfl, rfl⟩ := trodAll_nil r2
  obtain rfl : args = #[v0, v1, v2] := by cases args; simp_all
  obtain ⟨rfl, rfl⟩ := trodVars_none hV
  obtain ⟨a0, rfl, rfl, rfl, wa0⟩ := open_int Tryd.underlying3 (hval 0 3 v0 rfl rfl) h0
  obtain ⟨a1, rfl, rfl, rfl, wa1⟩ := open_int Tryd.underlying3 (hval 1 3 v1 rfl rfl) h1
  obtain ⟨a2, rfl, rfl, rfl, wa2⟩ := open_int Tryd.underlying5 (hval 2 5 v2 rfl rfl) h2
  clear hA0
  simp only [List.append_nil] at hW'
  refine (walk a0 a1 a2 (int_bounds wa0).1 (int_bounds wa0).2 (int_bounds wa1).1 (int_bounds wa1).2 (u8_bounds wa2).1 (u8_bounds wa2).2 W (tabs_met hL)).mono fun e W' ⟨he, hg⟩ => ?_
  subst he
  exact ⟨_, rfl, law_post laidOut (by rw [Tryd.params6]; intro t ht; simp only [List.mem_cons, List.not_mem_nil, or_false] at ht; rcases ht with rfl | rfl | rfl <;> exact ⟨by kernel_rfl, of_decide_eq_true (by kernel_rfl)⟩) rfl (show Tryd.f6.resultTypes = #[4] by kernel_rfl) Tryd.underlying4 hW' hg rfl⟩
theorem reads (os : Os) {H : Type} (enc : TypeId × Value → H) : ∃ places, DataW.whole enc Tryd.prog ((laidWorld os).forCall (fun _ _ => 0) ⟨#[], (#[.int .i64 0, .int .i64 0, .int .u8 0] : Array Value), []⟩).memory Tryd.f6.params.toList Rows.requestFillsSpec.vars false (#[.int .i64 0, .int .i64 0, .int .u8 0] : Array Value).toList 8 = some ([.lit (.int .i64 0), .lit (.int .i64 0), .lit (.int .u8 0)], [], places) :=
  ⟨[], by kernel_rfl⟩

set_option maxRecDepth 100000 in
theorem lifted (os : Os) (started : os.Started) (H : Type) (enc : TypeId × Value → H) (F : Stop.Interp) :
    ReturnsInHanded {} Tryd.checked os 6 .any ((OpenSpec.ofChange Rows.requestFillsSpec).preRow enc Tryd.prog Tryd.f6 Rows.requestFillsRow.domain false Rows.requestFillsRow.laid) (((OpenSpec.ofChange Rows.requestFillsSpec).at F).post enc Tryd.prog Tryd.f6 false true false false) := by
  obtain ⟨places, hx⟩ := reads os enc
  refine returnsInHanded_of_row (C := Tryd.checked) (s := OpenSpec.ofChange Rows.requestFillsSpec) own started (by kernel_rfl) Tryd.func6
    (witness_row_at (enc := enc) (C := Tryd.checked) false (laidWorld os) #[.int .i64 0, .int .i64 0, .int .u8 0] rfl (by kernel_rfl) (by kernel_rfl) (by kernel_rfl)
      (OpenSpec.preRow_of_cond 8 hx (by kernel_rfl) (fun k hk => by cases hk) (by kernel_rfl) (laid_met os _))) ?_
  intro W base args ds gs before hval hW _ _ _ hL _ _
  exact contract H enc W base args ds gs before hval hW hL

theorem said : Rows.RequestFillsSaid :=
  OpenClaim.holds_of_cond 6 Tryd.f6 rfl rfl rfl rfl rfl rfl rfl ⟨rfl, rfl, rfl, rfl, rfl⟩ rfl rfl rfl rfl rfl (by kernel_rfl) Tryd.func6 (by kernel_rfl)
    (of_decide_eq_true (by kernel_rfl)) (by unfold Func.isWrapper; first | (rw [if_pos (by decide +kernel)]; kernel_rfl) | (rw [if_neg (by decide +kernel)]; exact ⟨rfl, rfl⟩))
    (fun os started H enc _ F => by rw [OpenClaim.pre_eq_preRow]; exact lifted os started H enc F)

theorem plain (f : FuncId) (fn : Func) (hf : Tryd.pinned.checked.prog.funcNamed Rows.requestFillsRow.func = some f) (hfn : Tryd.pinned.checked.prog.funcs[f]? = some fn) :
    false = Tryd.pinned.checked.prog.looks [] ∧ ∀ (j : Nat) t, fn.params[j]? = some t → Tryd.pinned.checked.prog.wantsStandIn t = false := by
  obtain rfl : f = 6 := Option.some.inj ((show Tryd.prog.funcNamed Rows.requestFillsRow.func = some 6 by kernel_rfl).symm.trans hf) |>.symm
  obtain rfl : fn = Tryd.f6 := (Option.some.inj (Tryd.func6.symm.trans hfn)).symm
  refine ⟨by kernel_rfl, fun j t ht => ?_⟩
  rw [Tryd.params6] at ht
  have hm := Array.mem_of_getElem? ht
  simp only [List.mem_toArray, List.mem_cons, List.not_mem_nil, or_false] at hm
  rcases hm with rfl | rfl | rfl
  · exact (show Tryd.prog.wantsStandIn 3 = false by kernel_rfl)
  · exact (show Tryd.prog.wantsStandIn 3 = false by kernel_rfl)
  · exact (show Tryd.prog.wantsStandIn 5 = false by kernel_rfl)

theorem card : Rows.RequestFillsCardSaid :=
  Claim7.holds_tied_plain_at .later [] _ _ _ _ said (fun _ h => by cases h) (by kernel_rfl) (fun _ h => by cases h) requestFills_row_tie rfl ⟨rfl, rfl⟩ (by kernel_rfl) rfl plain (by kernel_rfl)
end Go.Proofs.YtolegljmaacabaaDoor.requestFills
