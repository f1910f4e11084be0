/- The walk of ImprintTables. · ImprintTables: tables that volumes make may be, count as many as there are keys, and stay so with a chunk more: the law returns true for every input that holds at most 1048576 values and letters. Condition: that size. -/
import Derived.Test.YtpcmihgfcaelfaaIO
import Derived.Test.YtpcmihgfcaelfaaIR
import Derived.Test.YtpcmihgfcaelfaaIP
namespace Go.Proofs.Ytpcmihgfcaelfaa
open Go.RowKit

theorem TabsAt.init {W : World} {p : Option Addr} {n1 n c : Nat} {T : List (List UseD)} {t : List UseD} (h : TabsAt W (.slice p n1 c) (T ++ [t])) (hT : T.length = n) : TabsAt W (.slice p n c) T := by
  obtain ⟨p', c', e, h1, h2, h3⟩ := h
  injection e with e1 e2 e3
  subst e1; subst e3
  rw [List.length_append] at h1
  refine ⟨p, c, by rw [hT], by simp only [List.length_cons, List.length_nil] at h1; omega, h2, fun i x hx => h3 i x ?_⟩
  rw [List.getElem?_append_left (List.getElem?_eq_some_iff.1 hx).1]; exact hx
theorem vals_step {l : List VoD} {k : Nat} {s : VoD} (h : l[k]? = some s) : (valsV (l.take (k + 1))).length = (valsV (l.take k)).length + (pairsN s.map).length := by
  rw [valsV_snoc h, List.length_append]; unfold valsP; rw [List.length_map]
theorem vals_le {l : List VoD} (k : Nat) : (valsV (l.take k)).length ≤ (valsV l).length := vals_len (Nat.le_refl _)
theorem wrap_fit {a : Int} (h0 : 0 ≤ a) (h1 : a ≤ 1000000000) : wrap64 a = a := by unfold wrap64; omega
def OtRel (w5 : World) (T : List (List UseD)) (n : Nat) (s i : Value) (wr : World) : Prop := ∃ k : Nat, k ≤ n ∧ i = .int .i64 k ∧ s = .int .i64 (sumT (T.take k)) ∧ wr = w5
def OuRel (w5 : World) (b : Int) (t : List UseD) (m : Nat) (s i : Value) (wr : World) : Prop := ∃ j : Nat, j ≤ m ∧ i = .int .i64 j ∧ s = .int .i64 (b + sumU (t.take j)) ∧ wr = w5
def KyRel (w5 : World) (l : List VoD) (N : Nat) (s i : Value) (wr : World) : Prop := ∃ k : Nat, k ≤ N ∧ i = .int .i64 k ∧ s = .int .i64 ((valsV (l.take k)).length : Nat) ∧ Below w5.heap.size w5 wr
set_option maxRecDepth 100000 in
set_option maxHeartbeats 4000000 in
theorem tables_walk (l : List VoD) (c : Int) (v1 : Value) (w : World) (h1 : VolsAt w v1 l) (l1 : BigTrees l) (l2 : mayVB l = true → (valsV l).length ≤ 600000) : Calls Try.prog 5 #[v1, .int .i64 c] w fun e w' => e = .returned (.bool true) ∧ Below w.heap.size w w' := by
  have HVL := Lib.hid h1; have HL1 := Lib.hid l1; have HL2 := Lib.hid l2
  obtain ⟨p1, c1, rfl, b1, b2, ha⟩ := h1
  obtain ⟨N, hN⟩ : ∃ n, l.length = n := ⟨_, rfl⟩
  rw [hN] at HVL b1 ⊢
  have HA := Lib.hid ha; have HN := Lib.hid hN
  have hlc : (N : Int) ≤ 9223372036854775807 := by unfold maxLen at b2; omega
  clear hN ha l1 l2 b1 b2
  have HB := Lib.hid (show Below w.heap.size w w from Below.refl _ _)
  cases htq : tablesQ l c with
  | none =>
    have HQ := Lib.hid htq; clear htq
    go_enter Try.func5, Try.ntmps5
    go_wp2_with fail
    refine (pTabsB_any l c _ _ HVL.out HL1.out HL2.out).mono ?_
    intro e wx he
    unfold PtabPost at he
    rw [HQ.out] at he
    obtain ⟨rfl, hb⟩ := he
    have HB := Lib.hid (btrans HB.out hb)
    clear hb
    go_wp2_with fail
    refine (fixed_any _).mono ?_
    rintro e wx ⟨rfl, hb⟩
    have HB := Lib.hid (btrans HB.out hb)
    clear hb
    go_wp2_with fail
    refine (fixed_any _).mono ?_
    rintro e wx ⟨rfl, hb⟩
    have HB := Lib.hid (btrans HB.out hb)
    clear hb
    go_wp2_with fail
    go_ret
    exact ⟨rfl, HB.out⟩
  | some T =>
  have HQ := Lib.hid htq
  obtain ⟨n, rfl, n1, n2, hmy, hTl, hgd, hsum, hmay, hmore⟩ := tables_facts htq
  have HMY := Lib.hid hmy; have HTL := Lib.hid hTl; have HGD := Lib.hid hgd; have HSUM := Lib.hid hsum; have HTM := Lib.hid hmay; have HMORE := Lib.hid hmore
  have HNB := Lib.hid (And.intro n1 n2)
  clear htq hmy hTl hgd hsum hmay hmore n1 n2
  have HLT := Lib.hid (show ∀ (i : Nat) t, T[i]? = some t → (t.length : Int) ≤ sumT T from fun i t ht => len_way HGD.out ht)
  by_cases hz : (50 : Int) < (n : Int)
  · go_enter Try.func5, Try.ntmps5
    go_wp2_with fail
    refine (pTabsB_any l n _ _ HVL.out HL1.out HL2.out).mono ?_
    intro e wx he
    unfold PtabPost at he
    rw [HQ.out] at he
    obtain ⟨vt, rfl, ht, hb⟩ := he
    have HB := Lib.hid (btrans HB.out hb)
    clear hb ht
    go_wp2_with fail
    refine (fixed_any _).mono ?_
    rintro e wx ⟨rfl, hb⟩
    have HB := Lib.hid (btrans HB.out hb)
    clear hb
    go_wp2_with fail
    refine (fixed_any _).mono ?_
    rintro e wx ⟨rfl, hb⟩
    have HB := Lib.hid (btrans HB.out hb)
    clear hb
    go_wp2_with fail
    go_ret
    exact ⟨rfl, HB.out⟩
  have HZ := Lib.hid (show n ≤ 50 by omega)
  go_enter Try.func5, Try.ntmps5
  go_wp2_with fail
  refine (pTabsB_any l n _ _ HVL.out HL1.out HL2.out).mono ?_
  intro e w4 he
  unfold PtabPost at he
  rw [HQ.out] at he
  obtain ⟨vt, rfl, ht, hb⟩ := he
  have HB := Lib.hid (btrans HB.out hb); have HT := Lib.hid ht
  obtain ⟨pt, ct, rfl, _, _, _⟩ := ht
  rw [HTL.out] at HT ⊢
  clear hb
  go_wp2_with fail
  refine (fixed_any _).mono ?_
  rintro e wx ⟨rfl, hb⟩
  have HB := Lib.hid (btrans HB.out hb); have HT := Lib.hid (HT.out.keep (keeps_below hb))
  clear hb
  go_wp2_with fail
  refine (rsmall18_any l _ _ (HVL.out.keep (keeps_below HB.out))).mono ?_
  rintro e w5 ⟨rfl, hb⟩
  have HB := Lib.hid (btrans HB.out hb); have HT := Lib.hid (HT.out.keep (keeps_below hb))
  clear hb
  cases hs1 : smallVs l with
  | false =>
    clear hs1
    go_wp2_with fail
    refine (fixed_any _).mono ?_
    rintro e wx ⟨rfl, hb⟩
    have HB := Lib.hid (btrans HB.out hb)
    clear hb
    go_wp2_with fail
    go_ret
    exact ⟨rfl, HB.out⟩
  | true =>
  have HS1 := Lib.hid (smallVs_trees hs1)
  clear hs1
  have hnc : (n : Int) ≤ 9223372036854775807 := by have := HZ.out; omega
  obtain ⟨NV, hNV⟩ : ∃ m, (valsV l).length = m := ⟨_, rfl⟩
  have HNV := Lib.hid hNV
  have HNV2 := Lib.hid (show NV ≤ 600000 by rw [← hNV]; exact HL2.out HMY.out)
  clear hNV
  obtain ⟨pt', ct', e, _, _, hel⟩ := HT.out
  injection e with e1 e2 e3
  subst e1; subst e3
  have HEL := Lib.hid hel
  clear hel e2
  go_wp2_with fail
  clear hz
  go_loopw [7, 8] (fun s i wr => OtRel w5 T n s i wr) (fun _ i _ => n - (intOf i).toNat)
  case atStart => exact ⟨0, Nat.zero_le _, rfl, by rw [List.take_zero]; rfl, rfl⟩
  case round =>
    obtain ⟨k, hk, rfl, rfl, rfl⟩ := hrel
    by_cases hlt : k < n
    case pos =>
      have hki : (k : Int) < (n : Int) := by omega
      have hwk := wrap_le1 hk (show n ≤ 1000000 by have := HZ.out; omega)
      obtain ⟨t, ht⟩ : ∃ t, T[k]? = some t := ⟨_, List.getElem?_eq_getElem (by rw [HTL.out]; exact hlt)⟩
      obtain ⟨gt, ot, ut, rfl, hct, hut⟩ := HEL.out k t ht
      obtain ⟨pu, cu, rfl, b1, b2, hu⟩ := hut
      obtain ⟨m, hm⟩ : ∃ m, t.length = m := ⟨_, rfl⟩
      rw [hm] at b1 hct
      have hmc : (m : Int) ≤ 9223372036854775807 := by unfold maxLen at b2; omega
      obtain ⟨b, hb⟩ : ∃ b, sumT (T.take k) = b := ⟨_, rfl⟩
      rw [hb]
      have HTK := Lib.hid ht; have HM := Lib.hid hm; have HU := Lib.hid hu; have HBS := Lib.hid hb
      have hm63 := HNV2.out
      clear ht hm hu hb b1 b2
      go_wp2_with fail
      go_loopw [7, 9] (fun s i wq => OuRel wr b t m s i wq) (fun _ i _ => m - (intOf i).toNat)
      case atStart => exact ⟨0, Nat.zero_le _, rfl, by rw [List.take_zero]; simp [sumU], rfl⟩
      case round =>
        obtain ⟨j, hj, rfl, rfl, rfl⟩ := hrel
        obtain ⟨sv, hsv⟩ : ∃ s, b + sumU (t.take j) = s := ⟨_, rfl⟩
        rw [hsv]
        by_cases hlt2 : j < m
        case neg =>
          obtain rfl : j = m := by omega
          have hmm2 : decide ((j : Int) < (j : Int)) = false := by simp
          have HSV := Lib.hid (show sv = sumT (T.take (k + 1)) by rw [← hsv, List.take_of_length_le (by rw [HM.out]; exact Nat.le_refl _), sumT_step HTK.out, HBS.out])
          clear hsv
          go_wp2_with fail
          go_roundw
          case rel => exact ⟨k + 1, by omega, by go_num, by rw [HSV.out], rfl⟩
          case measure => first | exact meas_step hlt | (have hm := meas_step hlt; rw [← hwk] at hm; exact hm)
        case pos =>
          have hji : (j : Int) < (m : Int) := by omega
          obtain ⟨⟨ua, ul, q, ud⟩, hu⟩ : ∃ u, t[j]? = some u := ⟨_, List.getElem?_eq_getElem (by rw [HM.out]; exact hlt2)⟩
          obtain ⟨gu, ou, rfl, x0, x1, x2, x3⟩ := HU.out j _ hu
          obtain ⟨f1, f2, f3, f4, f5⟩ := sum_way HGD.out HTK.out hu
          simp only at x0 x1 x2 x3 f2 f3 f4 f5
          subst f3
          rw [HBS.out] at f1 f4
          rw [HSUM.out, HNV.out] at f4
          rw [hsv] at f1 f4
          have hq : ¬ q < 1 := by omega
          have HS2 := Lib.hid (show sv + q = b + sumU (t.take (j + 1)) by rw [f5, ← hsv]; exact Int.add_assoc _ _ _)
          have g1 : 0 ≤ sv + q := by omega
          have g2 : sv + q ≤ 1000000000 := by have := HNV2.out; omega
          have g3 : m ≤ 1000000 := by
            have h1 := HLT.out k t HTK.out
            rw [HSUM.out, HNV.out, HM.out] at h1
            have h3 := HNV2.out
            clear f1 f2 f4 f5 g1 g2 hsv
            omega
          have HW := Lib.hid (wrap_fit g1 g2)
          have hwj := wrap_le1 hj g3
          clear g1 g2 g3
          clear f1 f2 f4 f5 hsv hu
          have hq2 : decide (q < 1) = false := by simpa using hq
          clear hq
          go_upto_region 12 with fail
          clear hwk
          go_wp2_with fail
          go_roundw
          case rel => exact ⟨j + 1, by omega, by go_num, by rw [← HS2.out, HW.out], rfl⟩
          case measure => first | exact meas_step hlt2 | (have hm := meas_step hlt2; rw [← hwj] at hm; exact hm)
    case neg =>
      obtain rfl : k = n := by omega
      have hmm : decide ((k : Int) < (k : Int)) = false := by simp
      have hst : sumT (T.take k) = (NV : Int) := by rw [List.take_of_length_le (by rw [HTL.out]; exact Nat.le_refl _), HSUM.out, HNV.out]
      rw [hst]
      clear hst
      go_wp2_with fail
      go_loopw [10, 11] (fun s i wq => KyRel wr l N s i wq) (fun _ i _ => N - (intOf i).toNat)
      case atStart => exact ⟨0, Nat.zero_le _, rfl, by rw [List.take_zero]; rfl, Below.refl _ _⟩
      case round =>
        obtain ⟨j, hj, rfl, rfl, hbq⟩ := hrel
        have HBQ := Lib.hid hbq
        clear hbq
        by_cases hlt2 : j < N
        case pos =>
          have hji : (j : Int) < (N : Int) := by omega
          have H64 := Lib.hid (show N ≤ 64 by rw [← HN.out]; exact (mayVB_iff.1 HMY.out).2.2)
          have hwj := wrap_le1 hj (show N ≤ 1000000 by have := H64.out; omega)
          obtain ⟨s, hs⟩ : ∃ s, l[j]? = some s := ⟨_, List.getElem?_eq_getElem (by rw [HN.out]; exact hlt2)⟩
          obtain ⟨_, _, g, o, a, b, c, rfl, e0, e1, e2, e3, e4, e5⟩ := HA.out j s hs
          obtain ⟨pa, na, ca, pb, nb, cb, pc, nc, cc, rfl, rfl, rfl⟩ := node_slices e5
          have HBW := Lib.hid (btrans HB.out HBQ.out)
          obtain ⟨_, _, r2, r3, r4⟩ := V5.below ⟨e0, e1, e2, e3, e4⟩ HBW.out
          have HND := Lib.hid (e5.keep (keeps_below HBW.out))
          have HST := Lib.hid (vals_step hs)
          have HSM := Lib.hid (HL1.out s (List.mem_of_getElem? hs))
          have hle := vals_le (l := l) (j + 1)
          rw [HNV.out, HST.out] at hle
          obtain ⟨kv, hkv⟩ : ∃ q, (valsV (l.take j)).length = q := ⟨_, rfl⟩
          rw [hkv] at hle HST ⊢
          obtain ⟨np, hnp⟩ : ∃ q, (pairsN s.map).length = q := ⟨_, rfl⟩
          rw [hnp] at hle HST
          have hw : wrap64 ((kv : Int) + (np : Int)) = ((kv + np : Nat) : Int) := by rw [wrap_fit (by omega) (by have := HNV2.out; omega)]; omega
          have HNP := Lib.hid hnp
          clear e0 e1 e2 e3 e4 e5 hs hkv hnp hle
          go_wp2_with (go_at_call 19; (with_reducible refine (rpairs_any s.map _ _ _ _ HND.out (by have := HSM.out; unfold BigTree at this; omega)).mono ?_); rintro e w6 ⟨pv, rfl, hown, hb6⟩; rw [HNP.out] at hown; obtain ⟨pq, cq, rfl⟩ : ∃ p c, pv = .slice p np c := (by rcases ow_slice hown with ⟨h, h2, _⟩ | ⟨g, c, h⟩; exact ⟨none, 0, by rw [h, h2]⟩; exact ⟨_, c, h⟩); have HB6 := Lib.hid (btrans HBQ.out hb6); clear hown hb6)
          go_roundw
          case rel => exact ⟨j + 1, by omega, by go_num, by rw [HST.out]; go_num, HB6.out⟩
          case measure => first | exact meas_step hlt2 | (have hm := meas_step hlt2; rw [← hwj] at hm; exact hm)
        case neg =>
          obtain rfl : j = N := by omega
          have hmm2 : decide ((j : Int) < (j : Int)) = false := by simp
          have hst : (valsV (l.take j)).length = NV := by rw [List.take_of_length_le (by rw [HN.out]; exact Nat.le_refl _), HNV.out]
          rw [hst]
          clear hst
          have HBW := Lib.hid (btrans HB.out HBQ.out)
          have HTW := Lib.hid (HT.out.keep (keeps_below HBQ.out))
          obtain ⟨k1, hk1⟩ : ∃ q, k + 1 = q := ⟨_, rfl⟩
          have hwn : wrap64 ((k : Int) + 1) = (k : Int) + 1 := wrap_fit (by omega) (by have := HZ.out; omega)
          have HQ2 := Lib.hid (HMORE.out (by have := HZ.out; omega))
          have HK1 := Lib.hid hk1
          clear hk1
          go_wp2_with fail
          refine (pTabsB_any l ((k : Int) + 1) _ _ (HVL.out.keep (keeps_below HBW.out)) HL1.out HL2.out).mono ?_
          intro e w7 he
          unfold PtabPost at he
          rw [HQ2.out] at he
          obtain ⟨vd, rfl, hd, hb⟩ := he
          have HB7 := Lib.hid (btrans HBW.out hb); have HT7 := Lib.hid (HTW.out.keep (keeps_below hb))
          obtain ⟨pd, cd, rfl, b1, b2, hel⟩ := hd
          have hll : (T ++ [[]]).length = k1 := by rw [List.length_append, HTL.out, ← HK1.out]; rfl
          rw [hll] at b1 ⊢
          obtain ⟨gd, od, ud, rfl, hcd, ⟨pu, cu, rfl, _, _, _⟩⟩ := hel k [] (by rw [List.getElem?_append_right (by rw [HTL.out]; exact Nat.le_refl _), HTL.out, Nat.sub_self]; rfl)
          have HD7 := Lib.hid (show TabsAt w7 (.slice (some ⟨gd, od, none⟩) k cd) T from TabsAt.init (t := []) (n1 := k1) ⟨_, cd, by rw [hll], by rw [hll]; exact b1, b2, hel⟩ HTL.out)
          have HCD := Lib.hid hcd
          have hkc : (k : Int) ≤ (cd : Int) := by have := HK1.out; omega
          have hkk : (k : Int) < (k1 : Int) := by have := HK1.out; omega
          have hki1 : (k1 : Int) = (k : Int) + 1 := by have := HK1.out; omega
          have hkk2 : (k : Int) < (k : Int) + 1 := by omega
          have hkn : k < k1 := by have := HK1.out; omega
          clear hb hel hll b1 b2 hcd
          go_wp2_with fail
          refine (rmay17_any T _ _ HT7.out).mono ?_
          rintro e w8 ⟨rfl, hb⟩
          rw [HTM.out]
          have HB8 := Lib.hid (btrans HB7.out hb); have HT8 := Lib.hid (HT7.out.keep (keeps_below hb)); have HD8 := Lib.hid (HD7.out.keep (keeps_below hb)); have HC8 := Lib.hid (cell_stays hb HCD.out)
          clear hb
          go_wp2_with fail
          refine (rsame17_any T T _ _ _ HD8.out HT8.out).mono ?_
          rintro e w9 ⟨rfl, hb⟩
          rw [show sameTT T T = true by unfold sameTT; simp]
          have HB9 := Lib.hid (btrans HB8.out hb)
          have hcd := cell_stays hb HC8.out
          clear hb
          go_wp2_with fail
          go_ret
          exact ⟨rfl, HB9.out⟩
end Go.Proofs.Ytpcmihgfcaelfaa
namespace Go.Proofs.Ytpcmihgfcaelfaa.imprintTables
open Go.Stop Go.ChangeShapes Go.WideShapes Go.ChangeAt Go.RowKit
open Go.ChangeMaps (open_string)

theorem upto_hyp {H : Type} {d : DataW H} {n : Int} (h : Rows.uptoSmall H [d, .lit (.int .i64 n)] = true) : Rows.uptoBulk d ≤ 1048576 := by
  unfold Rows.uptoSmall at h
  have h2 := of_decide_eq_true h
  simp only [Rows.uptoBulkAll] at h2
  omega
theorem one_le {l : List VoD} {d : VoD} (h : d ∈ l) : (pairsN d.map).length ≤ (valsV l).length := by
  induction l with
  | nil => simp at h
  | cons a l ih =>
    have e : (valsV (a :: l)).length = (pairsN a.map).length + (valsV l).length := by
      unfold valsV valsP; rw [List.map_cons, List.flatten_cons, List.length_append, List.length_map]
    rw [List.mem_cons] at h
    rcases h with rfl | h
    · omega
    · have := ih h; omega
theorem walk {H : Type} (W : World) {d : DataW H} (hu : Rows.uptoBulk d ≤ 1048576) (l : List VoD) (c : Int) {v1 : Value} (h1 : VolsAt W v1 l) (hb : 2 * (valsV l).length ≤ Rows.uptoBulk d) (_hc : -9223372036854775808 ≤ c) (_hc2 : c ≤ 9223372036854775807) :
    Calls Try.prog 5 #[v1, .int .i64 c] W fun e W' => e = .returned (.bool true) ∧ Below W.heap.size W W' :=
  tables_walk l c v1 W h1 (fun d hd => by have := one_le hd; unfold BigTree; omega) (fun _ => by omega)

set_option maxRecDepth 100000 in
theorem contract (H : Type) (enc : TypeId × Value → H) (W : World) (base : Nat) (args : Array Value) (ds gs : List (DataW H)) (before : List MemPlace)
    (hval : ∀ (j : Nat) t v, Try.f5.params[j]? = some t → args[j]? = some v → Value.okWide Try.prog W .any base t v)
    (hW : DataW.Whole enc Try.prog Try.f5.params.toList Rows.imprintTablesSpec.vars false W args.toList ds gs before) (hsm : Rows.uptoSmall H (ds ++ gs) = true) :
    Calls Try.prog 5 args W fun e W' => ∃ v, e = .returned v ∧ Rows.imprintTablesSpec.post enc Try.prog Try.f5 false true false false W args v W' := by
  have hW' := hW
  obtain ⟨p, q, hA0, hV, rfl, hfz, hnd⟩ := hW
  have hA : DataW.TrodAll enc Try.prog W 0 (fun _ => true) true Try.f5.params.toList args.toList ds p := hA0
  rw [Try.params5] at hA hval
  obtain ⟨v0, vs0, d0, ds0, p0, q0, hargs, rfl, rfl, h0, r0⟩ := trodAll_cons hA
  obtain ⟨v1, vs1, d1, ds1, p1, q1, rfl, rfl, rfl, h1, r1⟩ := trodAll_cons r0
  obtain ⟨rfl, rfl, rfl⟩ := trodAll_nil r1
  obtain rfl : args = #[v0, v1] := by cases args; simp_all
  obtain ⟨rfl, rfl⟩ := trodVars_none hV
  obtain ⟨a0, ha0, hb0⟩ := open_volsU (hval 0 22 v0 rfl rfl) h0
  obtain ⟨a1, rfl, rfl, rfl, wa1⟩ := open_int Try.underlying3 (hval 1 3 v1 rfl rfl) h1
  clear hA0
  simp only [List.append_nil] at hW'
  refine (walk W (upto_hyp hsm) a0 a1 ha0 hb0 (int_bounds wa1).1 (int_bounds wa1).2).mono fun e W' ⟨he, hg⟩ => ?_
  subst he
  exact ⟨_, rfl, law_post laidOut (by rw [Try.params5]; intro t ht; simp only [List.mem_cons, List.not_mem_nil, or_false] at ht; rcases ht with rfl | rfl <;> exact ⟨by kernel_rfl, of_decide_eq_true (by kernel_rfl)⟩) rfl (show Try.f5.resultTypes = #[4] by kernel_rfl) Try.underlying4 hW' hg rfl⟩
theorem reads (os : Os) {H : Type} (enc : TypeId × Value → H) : ∃ places, DataW.whole enc Try.prog ((laidWorld os).forCall (fun _ _ => 0) ⟨#[], (#[.slice none 0 0, .int .i64 0] : Array Value), []⟩).memory Try.f5.params.toList Rows.imprintTablesSpec.vars false (#[.slice none 0 0, .int .i64 0] : Array Value).toList 8 = some ([.nil, .lit (.int .i64 0)], [], places) :=
  ⟨[], by kernel_rfl⟩

set_option maxRecDepth 100000 in
theorem lifted (os : Os) (started : os.Started) (H : Type) (enc : TypeId × Value → H) (F : Stop.Interp) :
    ReturnsInHanded {} Try.checked os 5 .any ((Rows.OpenSpec.upto Rows.imprintTablesSpec).preRow enc Try.prog Try.f5 Rows.imprintTablesUptoRow.domain false Rows.imprintTablesUptoRow.laid) (((Rows.OpenSpec.upto Rows.imprintTablesSpec).at F).post enc Try.prog Try.f5 false true false false) := by
  obtain ⟨places, hx⟩ := reads os enc
  refine returnsInHanded_of_row (C := Try.checked) (s := Rows.OpenSpec.upto Rows.imprintTablesSpec) own started (by kernel_rfl) Try.func5
    (witness_row_at (enc := enc) (C := Try.checked) false (laidWorld os) #[.slice none 0 0, .int .i64 0] rfl (by kernel_rfl) (by kernel_rfl) (by kernel_rfl)
      (OpenSpec.preRow_of_cond 8 hx (by kernel_rfl) (fun k hk => by cases hk; rfl) (by kernel_rfl) (laid_nil _))) ?_
  intro W base args ds gs before hval hW _ hc _ _ _ _
  exact contract H enc W base args ds gs before hval hW (hc _ rfl)

theorem said : Rows.ImprintTablesUptoSaid :=
  OpenClaim.holds_of_cond 5 Try.f5 rfl rfl rfl rfl rfl rfl rfl ⟨rfl, rfl, rfl, rfl, rfl⟩ rfl rfl rfl rfl rfl (by kernel_rfl) Try.func5 (by kernel_rfl)
    (of_decide_eq_true (by kernel_rfl)) (by unfold Func.isWrapper; first | (rw [if_pos (by decide +kernel)]; kernel_rfl) | (rw [if_neg (by decide +kernel)]; exact ⟨rfl, rfl⟩))
    (fun os started H enc _ F => by rw [OpenClaim.pre_eq_preRow]; exact lifted os started H enc F)

end Go.Proofs.Ytpcmihgfcaelfaa.imprintTables
