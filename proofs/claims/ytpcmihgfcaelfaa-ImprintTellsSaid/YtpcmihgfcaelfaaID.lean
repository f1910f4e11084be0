/- The walks of the reference's May, Same, Get (layer 16). · The walks of the reference's Put and of layer 18's Cut: rows of pairs put in order. · Places of blocks as plain data: numbers, and which may be. No program in sight. · The walks of ref (layer 15) and of its reference. · The walks of the reference's places (layer 15). · The walks of the reference's Num and Of (layer 15). -/
import Derived.Test.YtpcmihgfcaelfaaIB
import Derived.Test.YtpcmihgfcaelfaaIA
import Derived.Test.YtpcmihgfcaelfaaProg
import Derived.Test.YtpcmihgfcaelfaaChecked
import Derived.Deep.QuietTactic
import Derived.BigQuiet
import Derived.Deep.RegionHeld3
import Derived.Deep.Cut
namespace Go.Proofs.Ytpcmihgfcaelfaa
open Go.RowKit

set_option maxRecDepth 100000 in
set_option maxHeartbeats 2000000 in
theorem rmay16_any (t : NodeD) (a b c : Value) (w : World) (hn : NodeAt w t a b c) (hlen : (pairsN t).length ≤ 1000000) : Calls Try.prog 68 #[.agg #[a, b, c]] w fun e w' => e = .returned (.bool (mayN t)) ∧ Below w.heap.size w w' := by
  have hbx : Below w.heap.size w (w.alloc (.cells #[a, b, c] 43)) := (Below.refl _ _).alloc (Nat.le_refl _) _
  have HN := Lib.hid hn; have HB := Lib.hid hbx; have HLEN := Lib.hid hlen
  obtain ⟨⟨pa, ca, rfl, _, _, _⟩, ⟨pb, cb, rfl, _, _, _⟩, ⟨pc, cc, rfl, _, _, _⟩⟩ := nodeAt_iff.1 hn
  clear hn hbx hlen
  go_enter Try.func68, Try.ntmps68
  go_wp2_with fail
  refine (deep_any t _ _ _ 40 _ (HN.out.keep (keeps_below HB.out)) (by omega) (by omega)).mono ?_
  rintro e w1 ⟨rfl, hb⟩
  have HB1 := Lib.hid (btrans HB.out hb)
  have HX1 := Lib.hid (show NBox w.heap.size (.slice pa t.keys.length ca) (.slice pb t.vals.length cb) (.slice pc t.kids.length cc) w1 from NBox.below ⟨by simp, by simp, by simp⟩ hb)
  clear hb
  obtain ⟨D, hD⟩ : ∃ D, deepN t 40 = D := ⟨_, rfl⟩
  rw [hD]
  have HD := Lib.hid hD; clear hD
  obtain ⟨q0, q1, q2⟩ := HX1.out
  have hlx := World.block_lt_of_cell? _ _ q0
  by_cases hz : D = 0
  · have HF := Lib.hid (show mayN t = false by unfold mayN; rw [HD.out]; simp [hz])
    have hzb : (D == 0) = true := by simpa using hz
    clear hz
    go_wp2_with fail
    go_ret
    exact ⟨retB HF.out.symm, HB1.out⟩
  have hzb : (D == 0) = false := by simpa using hz
  have HZ := Lib.hid hz; clear hz
  go_wp2_with fail
  refine (sized_any t _ _ _ 0 _ (HN.out.keep (keeps_below HB1.out)) (by omega) (by omega)).mono ?_
  rintro e w2 ⟨rfl, hb⟩
  have HB2 := Lib.hid (btrans HB1.out hb)
  have HX2 := Lib.hid (HX1.out.below hb)
  clear hb q0 q1 q2 hlx
  obtain ⟨q0, q1, q2⟩ := HX2.out
  have hlx := World.block_lt_of_cell? _ _ q0
  cases hs : sizedN t 0 with
  | false =>
    have HF := Lib.hid (show mayN t = false by unfold mayN; rw [hs]; simp)
    clear hs
    go_wp2_with fail
    go_ret
    exact ⟨retB HF.out.symm, HB2.out⟩
  | true =>
    have HS := Lib.hid (show mayN t = riseB (pairsN t) by unfold mayN; rw [hs, HD.out, decide_eq_true HZ.out]; simp)
    clear hs
    go_wp2_with fail
    refine (rpairs_any t _ _ _ _ (HN.out.keep (keeps_below HB2.out)) HLEN.out).mono ?_
    rintro e w3 ⟨v3, rfl, hrow, hb⟩
    obtain ⟨p, cp, rfl, _, hcm, hcs⟩ := pairs_of_row hrow
    have HB3 := Lib.hid (btrans HB2.out hb)
    have HCS := Lib.hid hcs
    obtain ⟨l, hl⟩ : ∃ l, pairsN t = l := ⟨_, rfl⟩
    rw [hl] at HCS HS ⊢
    obtain ⟨N, hN⟩ : ∃ N, l.length = N := ⟨_, rfl⟩
    rw [hN]
    have hlc : (N : Int) ≤ 9223372036854775807 := by have := HLEN.out; rw [hl, hN] at this; omega
    have HNL := Lib.hid hN
    clear hb hrow hcs hl hN q0 q1 q2 hlx hcm
    go_wp2_with fail
    go_loopw [4] (fun i wr => ∃ k : Nat, (k ≤ N ∨ k = 1) ∧ 1 ≤ k ∧ i = .int .i64 k ∧ (∀ (j : Nat) x y, j + 1 < k → l[j]? = some x → l[j + 1]? = some y → x.1 < y.1) ∧ Below w3.heap.size w3 wr) (fun i _ => N + 1 - (intOf i).toNat)
    case atStart => exact ⟨1, .inr rfl, Nat.le_refl _, rfl, fun j x y hj => by omega, Below.refl _ _⟩
    case round =>
      obtain ⟨k, hk, hk1, rfl, hall, hb⟩ := hrel
      have HAL := Lib.hid hall; have HB := Lib.hid hb
      clear hall hb
      by_cases hlt : k < N
      case neg =>
        have hki : ¬ (k : Int) < (N : Int) := by omega
        have HF := Lib.hid (show mayN t = true by
          rw [HS.out, riseB_iff]
          intro j x y hx hy
          exact HAL.out j x y (by have := (List.getElem?_eq_some_iff.1 hy).1; have := HNL.out; omega) hx hy)
        clear hk
        go_wp2_with fail
        go_ret
        exact ⟨retB HF.out.symm, btrans HB3.out HB.out⟩
      have hki : (k : Int) < (N : Int) := by omega
      obtain ⟨m, hm⟩ : ∃ m, k = m + 1 := ⟨k - 1, by omega⟩
      obtain ⟨x, hx⟩ : ∃ x, l[m]? = some x := ⟨_, List.getElem?_eq_getElem (by rw [HNL.out]; omega)⟩
      obtain ⟨y, hy⟩ : ∃ y, l[k]? = some y := ⟨_, List.getElem?_eq_getElem (by rw [HNL.out]; omega)⟩
      obtain ⟨g, o, rfl, x1, _⟩ := HCS.out m x hx
      obtain ⟨g', o', hp', y1, _⟩ := HCS.out k y hy
      cases hp'
      have r1 := cell_stays HB.out x1; have r2 := cell_stays HB.out y1
      have e5 : IntKind.i64.wrap ((k : Int) - 1) = (m : Int) := by rw [IntKind.wrap_i64]; omega
      have e6 : (m : Int) < (N : Int) := by omega
      have HX := Lib.hid hx; have HY := Lib.hid hy; have HM := Lib.hid hm
      clear hx hy hm x1 y1 hk
      by_cases hxy : x.1 < y.1
      · have hdb : decide (y.1 ≤ x.1) = false := by simp; omega
        have HXY := Lib.hid hxy; clear hxy
        go_wp2_with fail
        go_quiet (fail)
        go_wp2_with fail
        go_roundw
        case rel =>
          refine ⟨k + 1, .inl (by omega), by omega, by go_num, fun j x' y' hj hx' hy' => ?_, below_drewN' HB.out _⟩
          by_cases e : j + 1 = k
          · obtain rfl : j = m := by have := HM.out; omega
            rw [HX.out] at hx'; rw [e, HY.out] at hy'
            cases hx'; cases hy'; exact HXY.out
          · exact HAL.out j x' y' (by omega) hx' hy'
        case measure => simp [intOf]; omega
      · have hdb : decide (y.1 ≤ x.1) = true := by simp; omega
        have hdi : y.1 ≤ x.1 := by omega
        have HF := Lib.hid (show mayN t = false by
          rw [HS.out, ← Bool.not_eq_true, riseB_iff]
          intro h
          exact hxy (h m x y HX.out (by rw [← HM.out]; exact HY.out)))
        clear hxy
        go_wp2_with fail
        go_quiet (fail)
        go_wp2_with fail
        go_ret
        exact ⟨retB HF.out.symm, below_drewN' (btrans HB3.out HB.out) _⟩

/-- two rows of pairs compared -/
def samePs (a b : List PairD) : Bool := decide (a = b)
set_option maxRecDepth 100000 in
set_option maxHeartbeats 2000000 in
theorem rsame16_any (x y : List PairD) (v1 v2 : Value) (w : World) (h1 : PairsAt w v1 x) (h2 : PairsAt w v2 y) : Calls Try.prog 67 #[v1, v2] w fun e w' => e = .returned (.bool (samePs x y)) ∧ Below w.heap.size w w' := by
  obtain ⟨p, cp, rfl, a1, a2, ha⟩ := h1
  obtain ⟨q, cq, rfl, b1, b2, hb⟩ := h2
  have HA := Lib.hid ha; have HBB := Lib.hid hb
  obtain ⟨N, hN⟩ : ∃ N, x.length = N := ⟨_, rfl⟩
  obtain ⟨M, hM⟩ : ∃ M, y.length = M := ⟨_, rfl⟩
  rw [hN] at a1; rw [hM] at b1; rw [hN, hM]
  have hlc : (N : Int) ≤ 9223372036854775807 := by unfold maxLen at a2; omega
  have hld : (M : Int) ≤ 9223372036854775807 := by unfold maxLen at b2; omega
  have HN := Lib.hid hN; have HM := Lib.hid hM
  clear ha hb hN hM a1 a2 b1 b2
  by_cases hNM : N = M
  case neg =>
    have hne : ((N : Int) != (M : Int)) = true := by rw [bne_iff_ne]; omega
    have HF := Lib.hid (show samePs x y = false by
      unfold samePs; rw [decide_eq_false_iff_not]; intro h; exact hNM (by rw [← HN.out, ← HM.out, h]))
    clear hNM
    go_enter Try.func67, Try.ntmps67
    go_wp2_with fail
    go_ret
    exact ⟨retB HF.out.symm, Below.refl _ _⟩
  subst hNM
  have hne : ((N : Int) != (N : Int)) = false := by simp
  go_enter Try.func67, Try.ntmps67
  go_wp2_with fail
  go_loopw [5] (fun i wr => ∃ k : Nat, k ≤ N ∧ i = .int .i64 k ∧ (∀ (j : Nat), j < k → x[j]? = y[j]?) ∧ Below w.heap.size w wr) (fun i _ => N - (intOf i).toNat)
  case atStart => exact ⟨0, Nat.zero_le _, rfl, fun j hj => by omega, Below.refl _ _⟩
  case round =>
    obtain ⟨k, hk, rfl, hall, hb⟩ := hrel
    have HAL := Lib.hid hall; have HB := Lib.hid hb
    clear hall hb
    by_cases hlt : k < N
    case neg =>
      obtain rfl : k = N := by omega
      have HF := Lib.hid (show samePs x y = true by
        unfold samePs; rw [decide_eq_true_eq]
        apply List.ext_getElem?; intro j
        by_cases hj : j < k
        · exact HAL.out j hj
        · rw [List.getElem?_eq_none (by rw [HN.out]; omega), List.getElem?_eq_none (by rw [HM.out]; omega)])
      go_wp2_with fail
      go_ret
      exact ⟨retB HF.out.symm, HB.out⟩
    have hki : (k : Int) < (N : Int) := by omega
    obtain ⟨s, hs⟩ : ∃ s, x[k]? = some s := ⟨_, List.getElem?_eq_getElem (by rw [HN.out]; omega)⟩
    obtain ⟨t, ht⟩ : ∃ t, y[k]? = some t := ⟨_, List.getElem?_eq_getElem (by rw [HM.out]; omega)⟩
    obtain ⟨g, o, rfl, x1, x2⟩ := HA.out k s hs
    obtain ⟨g', o', rfl, y1, y2⟩ := HBB.out k t ht
    have r1 := cell_stays HB.out x1; have r2 := cell_stays HB.out x2
    have r3 := cell_stays HB.out y1; have r4 := cell_stays HB.out y2
    have HS := Lib.hid hs; have HT := Lib.hid ht
    clear hs ht x1 x2 y1 y2
    by_cases hst : s = t
    · subst hst
      have b1 : (s.1 == s.1) = true := by simp
      have b2 : (s.2 == s.2) = true := by simp
      go_wp2_with fail
      go_quiet (fail)
      go_wp2_with fail
      go_roundw
      case rel =>
        refine ⟨k + 1, by omega, by go_num, fun j hj => ?_, below_drewN' HB.out _⟩
        by_cases e : j = k
        · subst e; rw [HS.out, HT.out]
        · exact HAL.out j (by omega)
      case measure => simp [intOf]; omega
    · have HF := Lib.hid (show samePs x y = false by
        unfold samePs; rw [decide_eq_false_iff_not]; intro h; subst h; exact hst (by have := HS.out; rw [HT.out] at this; injection this with this; exact this.symm))
      have hc : ((s.1 == t.1) = false) ∨ ((s.1 == t.1) = true ∧ (s.2 == t.2) = false) := by
        by_cases e1 : s.1 = t.1
        · by_cases e2 : s.2 = t.2
          · exact absurd (Prod.ext e1 e2) hst
          · exact .inr ⟨by simpa using e1, by simpa using e2⟩
        · exact .inl (by simpa using e1)
      clear hst
      rcases hc with h1 | ⟨h1, h2⟩
      all_goals
        go_wp2_with fail
        go_quiet (fail)
        go_wp2_with fail
        go_ret
        exact ⟨retB HF.out.symm, below_drewN' HB.out _⟩

/-- the value of a key -/
def getP (l : List PairD) (k : Int) : Int × Bool := match l.find? (fun x => x.1 == k) with
  | some x => (x.2, true)
  | none => (0, false)
set_option maxRecDepth 100000 in
set_option maxHeartbeats 2000000 in
theorem rget16_any (x : List PairD) (q : Int) (v1 : Value) (w : World) (h1 : PairsAt w v1 x) : Calls Try.prog 23 #[v1, .int .i64 q] w fun e w' => e = .returned (.tuple #[.int .i64 (getP x q).1, .bool (getP x q).2]) ∧ w = w' := by
  obtain ⟨p, cp, rfl, a1, a2, ha⟩ := h1
  have HA := Lib.hid ha
  obtain ⟨N, hN⟩ : ∃ N, x.length = N := ⟨_, rfl⟩
  rw [hN] at a1; rw [hN]
  have hlc : (N : Int) ≤ 9223372036854775807 := by unfold maxLen at a2; omega
  have HN := Lib.hid hN
  clear ha hN a1 a2
  go_enter Try.func23, Try.ntmps23
  go_wp2_with fail
  go_loop [6] (fun i => ∃ k : Nat, k ≤ N ∧ i = .int .i64 k ∧ getP x q = getP (x.drop k) q) (fun i => N - (intOf i).toNat)
  case atStart => exact ⟨0, Nat.zero_le _, rfl, by rw [List.drop_zero]⟩
  case round =>
    obtain ⟨k, hk, rfl, hall⟩ := hrel
    have HAL := Lib.hid hall
    clear hall
    by_cases hlt : k < N
    case neg =>
      obtain rfl : k = N := by omega
      have HF := Lib.hid (show getP x q = (0, false) by rw [HAL.out, List.drop_of_length_le (by rw [HN.out]; omega)]; rfl)
      go_wp2_with fail
      go_ret2
      rw [HF.out]; exact ⟨rfl, rfl⟩
    have hki : (k : Int) < (N : Int) := by omega
    obtain ⟨s, hs⟩ : ∃ s, x[k]? = some s := ⟨_, List.getElem?_eq_getElem (by rw [HN.out]; omega)⟩
    obtain ⟨g, o, rfl, x1, x2⟩ := HA.out k s hs
    have hd : x.drop k = s :: x.drop (k + 1) := by
      obtain ⟨hk2, hx⟩ := List.getElem?_eq_some_iff.1 hs
      rw [List.drop_eq_getElem_cons hk2, hx]
    have HD := Lib.hid hd
    clear hs hd
    by_cases hsq : s.1 = q
    · have hb : (s.1 == q) = true := by simpa using hsq
      have HF := Lib.hid (show getP x q = (s.2, true) by rw [HAL.out, HD.out]; unfold getP; rw [List.find?_cons_of_pos (p := fun x : PairD => x.1 == q) hb])
      clear hsq
      go_wp2_with fail
      go_ret2
      rw [HF.out]; exact ⟨rfl, rfl⟩
    · have hb : (s.1 == q) = false := by simpa using hsq
      have HF := Lib.hid (show getP x q = getP (x.drop (k + 1)) q by rw [HAL.out, HD.out]; unfold getP; rw [List.find?_cons_of_neg (p := fun x : PairD => x.1 == q) (by simpa using hsq)])
      clear hsq
      go_wp2_with fail
      go_round
      case rel => exact ⟨k + 1, by omega, by go_num, HF.out⟩
      case measure => simp [intOf]; omega
end Go.Proofs.Ytpcmihgfcaelfaa
namespace Go.Proofs.Ytpcmihgfcaelfaa
open Go.RowKit

/-- pairs with one more, or another value; 'laid': it stands already -/
def putP : List PairD → Int → Int → Bool → List PairD
  | [], k, v, laid => if laid then [] else [(k, v)]
  | x :: l, k, v, laid => (if laid = false ∧ k ≤ x.1 then [(k, v)] else []) ++ (if x.1 = k then [] else [x]) ++ putP l k v (laid || decide (k ≤ x.1))
theorem putP_cons (x : PairD) (l : List PairD) (k v : Int) (laid : Bool) : putP (x :: l) k v laid = (if laid = false ∧ k ≤ x.1 then [(k, v)] else []) ++ (if x.1 = k then [] else [x]) ++ putP l k v (laid || decide (k ≤ x.1)) := by simp only [putP]
theorem putP_len : ∀ (l : List PairD) (k v : Int) (laid : Bool), (putP l k v laid).length ≤ l.length + (if laid then 0 else 1)
  | [], k, v, laid => by cases laid <;> simp [putP]
  | x :: l, k, v, laid => by
    have := putP_len l k v (laid || decide (k ≤ x.1))
    simp only [putP, List.length_append, List.length_cons]
    cases laid
    · by_cases h : k ≤ x.1
      · by_cases e : x.1 = k
        · simp [e] at this ⊢; omega
        · simp [h, e] at this ⊢; omega
      · by_cases e : x.1 = k
        · omega
        · simp [h, e] at this ⊢; omega
    · by_cases e : x.1 = k
      · simp [e] at this ⊢; omega
      · simp [e] at this ⊢; omega


set_option maxRecDepth 100000 in
set_option maxHeartbeats 4000000 in
theorem rput16_any (x : List PairD) (q u : Int) (v1 : Value) (w : World) (h1 : PairsAt w v1 x) (hlen : x.length ≤ 900000) : Calls Try.prog 25 #[v1, .int .i64 q, .int .i64 u] w fun e w' => ∃ v', e = .returned v' ∧ w'.ownsRow w.heap.size 66 2 v' (putP x q u false).length (pairRows (putP x q u false)).flatten ∧ Below w.heap.size w w' := by
  obtain ⟨p, cp, rfl, a1, a2, ha⟩ := h1
  have HA := Lib.hid ha
  obtain ⟨N, hN⟩ : ∃ N, x.length = N := ⟨_, rfl⟩
  rw [hN] at a1 hlen; rw [hN]
  have hlc : (N : Int) ≤ 900000 := by omega
  have HN := Lib.hid hN
  clear ha hN a1 a2 hlen
  go_enter Try.func25, Try.ntmps25
  go_wp2_with fail
  go_loopw [7, 8, 9] (fun v lb i wr => ∃ (k : Nat) (laid : Bool) (done : List PairD), k ≤ N ∧ i = .int .i64 k ∧ lb = .bool laid ∧ putP x q u false = done ++ putP (x.drop k) q u laid ∧ done.length ≤ N + 1 ∧ wr.ownsRow w.heap.size 66 2 v done.length (pairRows done).flatten ∧ Below w.heap.size w wr) (fun _ _ i _ => N - (intOf i).toNat)
  case atStart =>
    refine ⟨0, false, [], Nat.zero_le _, rfl, rfl, by rw [List.drop_zero]; rfl, by simp, ?_, (Below.refl _ _).alloc (Nat.le_refl _) _⟩
    have := World.ownsRow_made w #[] 0 (base := w.heap.size) (e := 66) (size := 2) (Nat.le_refl _) (by unfold maxLen; omega) rfl
    simpa [pairRows] using this
  case round =>
    obtain ⟨k, laid, done, hk, rfl, rfl, hput, hdl, hown, hb⟩ := hrel
    have HP := Lib.hid hput; have HB := Lib.hid hb; have HO := Lib.hid hown
    clear hput hb hown
    by_cases hlt : k < N
    case neg =>
      obtain rfl : k = N := by omega
      have HD := Lib.hid (show x.drop k = [] from List.drop_of_length_le (by rw [HN.out]; omega))
      cases laid with
      | true =>
        have HF := Lib.hid (show putP x q u false = done by rw [HP.out, HD.out]; simp [putP])
        go_wp2_with fail
        go_ret
        refine ⟨_, rfl, ?_, HB.out⟩
        rw [HF.out]; exact HO.out
      | false =>
        have HF := Lib.hid (show putP x q u false = done ++ [(q, u)] by rw [HP.out, HD.out]; simp [putP])
        obtain ⟨g1, c1, w2, hrun, hown2, hb2⟩ := pair_append wr w.heap.size _ _ done q u HO.out (by omega) HB.out.size
        have HR := Lib.hid hrun; have HO2 := Lib.hid hown2; have HB2 := Lib.hid (HB.out.trans (hb2))
        clear hrun hown2 hb2
        go_wp2_with (at_builtin; refine Lib.wpList_append_run _ rfl _ _ _ _ rfl _ _ rfl rfl _ _ HR.out ?_)
        go_ret
        refine ⟨_, rfl, ?_, HB2.out⟩
        rw [HF.out, List.length_append]; exact HO2.out
    have hki : (k : Int) < (N : Int) := by omega
    obtain ⟨s, hs⟩ : ∃ s, x[k]? = some s := ⟨_, List.getElem?_eq_getElem (by rw [HN.out]; omega)⟩
    obtain ⟨g, o, rfl, x1, x2⟩ := HA.out k s hs
    have r1 := cell_stays HB.out x1; have r2 := cell_stays HB.out x2
    have hd : x.drop k = s :: x.drop (k + 1) := by
      obtain ⟨hk2, hx⟩ := List.getElem?_eq_some_iff.1 hs
      rw [List.drop_eq_getElem_cons hk2, hx]
    have hput2 := HP.out
    rw [hd, putP_cons] at hput2
    have HPL := Lib.hid (show done.length + ((if laid = false ∧ q ≤ s.1 then [(q, u)] else []) ++ (if s.1 = q then [] else [s]) : List PairD).length ≤ N + 1 by
      have h1 := putP_len x q u false
      have h2 := HN.out
      rw [hput2] at h1
      simp only [List.length_append, Bool.false_eq_true, if_false] at h1 ⊢
      omega)
    have HP2 := Lib.hid hput2
    have HX1 := Lib.hid x1; have HX2 := Lib.hid x2
    clear hs hd hput2 x1 x2
    by_cases hins : laid = false ∧ q ≤ s.1
    · obtain ⟨rfl, hq⟩ := hins
      have hq2 : decide (q ≤ s.1) = true := decide_eq_true hq
      obtain ⟨g1, c1, w2, hrun, hown2, hb2⟩ := pair_append wr w.heap.size _ _ done q u HO.out (by omega) HB.out.size
      have HR := Lib.hid hrun; have HO2 := Lib.hid hown2; have HB2 := Lib.hid (HB.out.trans (hb2))
      have r3 := cell_stays HB2.out HX1.out; have r4 := cell_stays HB2.out HX2.out
      have HQ := Lib.hid hq
      clear hrun hown2 hb2 hq
      by_cases he : s.1 = q
      · have heb : (s.1 != q) = false := by rw [he]; simp
        have HF := Lib.hid (show putP x q u false = (done ++ [(q, u)]) ++ putP (x.drop (k + 1)) q u true by
          rw [HP2.out, if_pos ⟨rfl, HQ.out⟩, if_pos he, decide_eq_true HQ.out]; simp)
        have HL2 := Lib.hid (show (done ++ [(q, u)]).length ≤ N + 1 by have := HPL.out; rw [if_pos ⟨rfl, HQ.out⟩, if_pos he] at this; simpa using this)
        clear he
        go_wp2_with (at_builtin; refine Lib.wpList_append_run _ rfl _ _ _ _ rfl _ _ rfl rfl _ _ HR.out ?_)
        go_roundw
        case rel =>
          refine ⟨k + 1, true, done ++ [(q, u)], by omega, by go_num, rfl, HF.out, HL2.out, ?_, HB2.out⟩
          rw [List.length_append]; exact HO2.out
        case measure => simp [intOf]; omega
      · have heb : (s.1 != q) = true := by rw [bne_iff_ne]; exact he
        have HF := Lib.hid (show putP x q u false = ((done ++ [(q, u)]) ++ [(s.1, s.2)]) ++ putP (x.drop (k + 1)) q u true by
          rw [HP2.out, if_pos ⟨rfl, HQ.out⟩, if_neg he, decide_eq_true HQ.out]; simp)
        have HL2 := Lib.hid (show ((done ++ [(q, u)]) ++ [(s.1, s.2)]).length ≤ N + 1 by have := HPL.out; rw [if_pos ⟨rfl, HQ.out⟩, if_neg he] at this; simp at this ⊢; omega)
        obtain ⟨g2, c2, w3, hrun, hown3, hb3⟩ := pair_append w2 w.heap.size _ _ (done ++ [(q, u)]) s.1 s.2 HO2.out (by omega) HB2.out.size
        have HR2 := Lib.hid hrun; have HO3 := Lib.hid hown3; have HB3 := Lib.hid (HB2.out.trans hb3)
        clear he hrun hown3 hb3
        go_wp2_with (first | (at_builtin; refine Lib.wpList_append_run _ rfl (.tmp 28) (.tmp 32) _ _ rfl _ _ rfl rfl _ _ HR.out ?_) | (at_builtin; refine Lib.wpList_append_run _ rfl (.tmp 41) (.tmp 46) _ _ rfl _ _ rfl rfl _ _ HR2.out ?_))
        go_roundw
        case rel =>
          refine ⟨k + 1, true, (done ++ [(q, u)]) ++ [(s.1, s.2)], by omega, by go_num, rfl, HF.out, HL2.out, ?_, HB3.out⟩
          rw [List.length_append, List.length_append]; exact HO3.out
        case measure => simp [intOf]; omega
    · have HI := Lib.hid hins
      have HB2 := HB; have HO2 := HO
      have hc : laid = true ∨ (laid = false ∧ decide (q ≤ s.1) = false) := by
        cases laid
        · exact .inr ⟨rfl, decide_eq_false fun h => hins ⟨rfl, h⟩⟩
        · exact .inl rfl
      have HL := Lib.hid (show (laid || decide (q ≤ s.1)) = laid by rcases hc with rfl | ⟨rfl, h⟩ <;> simp [*])
      clear hins
      by_cases he : s.1 = q
      · have heb : (s.1 != q) = false := by rw [he]; simp
        have HF := Lib.hid (show putP x q u false = done ++ putP (x.drop (k + 1)) q u laid by
          rw [HP2.out, if_neg HI.out, if_pos he, HL.out]; simp)
        clear he
        rcases hc with rfl | ⟨rfl, hq⟩
        all_goals
          go_wp2_with fail
          go_roundw
          case rel => exact ⟨k + 1, _, done, by omega, by go_num, rfl, HF.out, hdl, HO.out, HB.out⟩
          case measure => simp [intOf]; omega
      · have heb : (s.1 != q) = true := by rw [bne_iff_ne]; exact he
        have HF := Lib.hid (show putP x q u false = (done ++ [(s.1, s.2)]) ++ putP (x.drop (k + 1)) q u laid by
          rw [HP2.out, if_neg HI.out, if_neg he, HL.out]; simp)
        have HL2 := Lib.hid (show (done ++ [(s.1, s.2)]).length ≤ N + 1 by have := HPL.out; rw [if_neg HI.out, if_neg he] at this; simpa using this)
        obtain ⟨g2, c2, w3, hrun, hown3, hb3⟩ := pair_append wr w.heap.size _ _ done s.1 s.2 HO.out (by omega) HB.out.size
        have HR2 := Lib.hid hrun; have HO3 := Lib.hid hown3; have HB3 := Lib.hid (HB.out.trans hb3)
        clear he hrun hown3 hb3
        rcases hc with rfl | ⟨rfl, hq⟩
        all_goals
          go_wp2_with (at_builtin; refine Lib.wpList_append_run _ rfl _ _ _ _ rfl _ _ rfl rfl _ _ HR2.out ?_; clear HR2)
          go_roundw
          case rel =>
            refine ⟨k + 1, _, done ++ [(s.1, s.2)], by omega, by go_num, rfl, HF.out, HL2.out, ?_, HB3.out⟩
            rw [List.length_append]; exact HO3.out
          case measure => simp [intOf]; omega

/-- pairs parted: those outside, the values of those inside -/
def inB (x : PairD) (f t : Int) : Bool := decide (f ≤ x.1) && decide (x.1 < t)
def keptP (l : List PairD) (f t : Int) : List PairD := l.filter fun x => !inB x f t
def goneP (l : List PairD) (f t : Int) : List Int := (l.filter fun x => inB x f t).map Prod.snd
theorem kept_snoc (l : List PairD) (x : PairD) (f t : Int) : keptP (l ++ [x]) f t = keptP l f t ++ if inB x f t = true then [] else [x] := by
  unfold keptP; rw [List.filter_append]; cases h : inB x f t <;> simp [h]
theorem gone_snoc (l : List PairD) (x : PairD) (f t : Int) : goneP (l ++ [x]) f t = goneP l f t ++ if inB x f t = true then [x.2] else [] := by
  unfold goneP; rw [List.filter_append, List.map_append]; cases h : inB x f t <;> simp [h]
theorem kept_len (l : List PairD) (f t : Int) : (keptP l f t).length ≤ l.length := List.length_filter_le _ _
theorem gone_len (l : List PairD) (f t : Int) : (goneP l f t).length ≤ l.length := by unfold goneP; rw [List.length_map]; exact List.length_filter_le _ _
end Go.Proofs.Ytpcmihgfcaelfaa
namespace Go.Proofs.Ytpcmihgfcaelfaa
open Go.RowKit

def secL (n : Int) : Int := if n ≤ 0 then 0 else (n - 1) / 32 + 1
structure RefD where
  chunk : Int
  pos : Int
  size : Int
  packed : Bool
deriving DecidableEq
def RefD.agg (x : RefD) : Value := .agg #[.int .i64 x.chunk, .int .i64 x.pos, .int .i64 x.size, .bool x.packed]
def RefD.zero : RefD := ⟨0, 0, 0, false⟩
def refMay (x : RefD) : Bool := decide (0 ≤ x.chunk ∧ x.chunk ≤ 999 ∧ 1 ≤ x.size ∧ x.size ≤ 256 ∧ 0 ≤ x.pos ∧ x.pos + secL x.size ≤ 16 ∧ (x.packed = true ∨ x.size = 256))
def refOf (n : Int) : RefD := ⟨n / 2 / 257 / 16, n / 2 / 257 % 16, n / 2 % 257, n % 2 == 1⟩
def ofB (n : Int) : Bool := decide (0 ≤ n) && refMay (refOf n)
def refNum (x : RefD) : Int := 2 * (257 * (16 * x.chunk + x.pos) + x.size) + if x.packed then 1 else 0
theorem secL_bd {n : Int} (h0 : 1 ≤ n) (h : n ≤ 256) : 1 ≤ secL n ∧ secL n ≤ 8 := by unfold secL; rw [if_neg (by omega)]; omega
theorem refMay_iff (x : RefD) : refMay x = true ↔ 0 ≤ x.chunk ∧ x.chunk ≤ 999 ∧ 1 ≤ x.size ∧ x.size ≤ 256 ∧ 0 ≤ x.pos ∧ x.pos + secL x.size ≤ 16 ∧ (x.packed = true ∨ x.size = 256) := by unfold refMay; simp
theorem refMay_no (x : RefD) : refMay x = false ↔ ¬ (0 ≤ x.chunk ∧ x.chunk ≤ 999 ∧ 1 ≤ x.size ∧ x.size ≤ 256 ∧ 0 ≤ x.pos ∧ x.pos + secL x.size ≤ 16 ∧ (x.packed = true ∨ x.size = 256)) := by rw [← refMay_iff]; simp
theorem refOf_num {n : Int} (_h : 0 ≤ n) : refNum (refOf n) = n := by
  unfold refNum refOf
  simp only
  by_cases hp : n % 2 = 1
  · rw [if_pos (by simpa using hp)]; omega
  · rw [if_neg (by simpa using hp)]; omega
theorem refOf_alt {n : Int} (_h : 0 ≤ n) : refOf n = ⟨n / 8224, n / 514 % 16, n / 2 % 257, n % 2 == 1⟩ := by
  unfold refOf
  congr 1 <;> omega
end Go.Proofs.Ytpcmihgfcaelfaa
namespace Go.Proofs.Ytpcmihgfcaelfaa
open Go.RowKit

theorem ret_b {a b : Bool} (h : a = b) : Ending.returned (.bool a) = .returned (.bool b) := by rw [h]
theorem ret_i {a b : Int} (h : a = b) : Ending.returned (.int .i64 a) = .returned (.int .i64 b) := by rw [h]
theorem sectors_any (n : Int) (h0 : -1000000 ≤ n) (h1 : n ≤ 1000000) (w : World) : Calls Try.prog 61 #[.int .i64 n] w fun e w' => e = .returned (.int .i64 (secL n)) ∧ w = w' := by
  by_cases h : n ≤ 0
  · have HS := Lib.hid (show secL n = 0 by unfold secL; rw [if_pos h])
    go_enter Try.func61, Try.ntmps61
    go_wp2_with fail
    go_ret
    exact ⟨ret_i HS.out.symm, rfl⟩
  · have HS := Lib.hid (show secL n = (n - 1) / 32 + 1 by unfold secL; rw [if_neg h])
    go_enter Try.func61, Try.ntmps61
    go_wp2_with fail
    go_ret
    exact ⟨ret_i HS.out.symm, rfl⟩
theorem len_any (x : RefD) (h0 : -1000000 ≤ x.size) (h1 : x.size ≤ 1000000) (w : World) : Calls Try.prog 38 #[x.agg] w fun e w' => e = .returned (.int .i64 (secL x.size)) ∧ Below w.heap.size w w' := by
  obtain ⟨c, p, s, b⟩ := x
  simp only [RefD.agg]
  simp only at h0 h1
  go_enter Try.func38, Try.ntmps38
  go_wp2_with fail
  refine (sectors_any s h0 h1 _).mono ?_
  rintro e w1 ⟨rfl, rfl⟩
  go_wp2_with fail
  go_ret
  exact ⟨rfl, (Below.refl _ _).alloc (Nat.le_refl _) _⟩

theorem len_b (c p s L : Int) (b : Bool) (h0 : -1000000 ≤ s) (h1 : s ≤ 1000000) (hL : secL s = L) (w : World) : Calls Try.prog 38 #[.agg #[.int .i64 c, .int .i64 p, .int .i64 s, .bool b]] w fun e w' => e = .returned (.int .i64 L) ∧ Below w.heap.size w w' := by
  subst hL; exact len_any ⟨c, p, s, b⟩ h0 h1 w
def RBox (g : Nat) (c p s : Int) (b : Bool) (w : World) : Prop := w.cell? ⟨g, 0, none⟩ = some (.int .i64 c) ∧ w.cell? ⟨g, 1, none⟩ = some (.int .i64 p) ∧ w.cell? ⟨g, 2, none⟩ = some (.int .i64 s) ∧ w.cell? ⟨g, 3, none⟩ = some (.bool b)
theorem cell_st {W W' : World} (hb : Below W.heap.size W W') {a : Addr} {v : Value} (h : W.cell? a = some v) : W'.cell? a = some v := (hb.cell (World.block_lt_of_cell? W _ h)).trans h
theorem RBox.below {g : Nat} {c p s : Int} {b : Bool} {w w' : World} (h : RBox g c p s b w) (hb : Below w.heap.size w w') : RBox g c p s b w' := ⟨cell_st hb h.1, cell_st hb h.2.1, cell_st hb h.2.2.1, cell_st hb h.2.2.2⟩

set_option maxRecDepth 100000 in
set_option maxHeartbeats 1000000 in
theorem refmay_any (x : RefD) (w : World) : Calls Try.prog 60 #[x.agg] w fun e w' => e = .returned (.bool (refMay x)) ∧ Below w.heap.size w w' := by
  obtain ⟨c, p, s, b⟩ := x
  simp only [RefD.agg]
  have hb1 : Below w.heap.size w (w.alloc (.cells #[.int .i64 c, .int .i64 p, .int .i64 s, .bool b] 69)) := (Below.refl _ _).alloc (Nat.le_refl _) _
  have HB := Lib.hid hb1; clear hb1
  by_cases h1 : 0 ≤ c ∧ c ≤ 999 ∧ 1 ≤ s ∧ s ≤ 256
  case neg =>
    have HF := Lib.hid (show refMay ⟨c, p, s, b⟩ = false from (refMay_no _).2 (fun h => h1 ⟨h.1, h.2.1, h.2.2.1, h.2.2.2.1⟩))
    have hc : c < 0 ∨ (¬ c < 0 ∧ 1000 ≤ c) ∨ (¬ c < 0 ∧ ¬ 1000 ≤ c ∧ s < 1) ∨ (¬ c < 0 ∧ ¬ 1000 ≤ c ∧ ¬ s < 1 ∧ 256 < s) := by omega
    clear h1
    rcases hc with g1 | ⟨g1, g2⟩ | ⟨g1, g2, g3⟩ | ⟨g1, g2, g3, g4⟩
    all_goals
      go_enter Try.func60, Try.ntmps60
      go_wp2_with fail
      go_ret
      exact ⟨ret_b HF.out.symm, HB.out⟩
  obtain ⟨k1, k2, k3, k4⟩ := h1
  have g1 : ¬ c < 0 := by omega
  have g2 : ¬ 1000 ≤ c := by omega
  have g3 : ¬ s < 1 := by omega
  have g4 : ¬ 256 < s := by omega
  have hs8 := secL_bd k3 k4
  by_cases h5 : p < 0
  · have HF := Lib.hid (show refMay ⟨c, p, s, b⟩ = false from (refMay_no _).2 (fun h => by have := h.2.2.2.2.1; simp only at this; omega))
    have d5 : decide (p < 0) = true := by simpa using h5
    go_enter Try.func60, Try.ntmps60
    go_wp2_with fail
    go_quiet (fail)
    go_wp2_with fail
    go_ret
    exact ⟨ret_b HF.out.symm, below_drewN' HB.out _⟩
  have d5 : decide (p < 0) = false := by simpa using h5
  have hlr : w.heap.size < (w.alloc (.cells #[.int .i64 c, .int .i64 p, .int .i64 s, .bool b] 69)).heap.size := by simp
  obtain ⟨W1, hW1⟩ : ∃ W1, w.alloc (.cells #[.int .i64 c, .int .i64 p, .int .i64 s, .bool b] 69) = W1 := ⟨_, rfl⟩
  have HC := Lib.hid (show RBox w.heap.size c p s b W1 by rw [← hW1]; exact ⟨by simp, by simp, by simp, by simp⟩)
  rw [hW1] at HB hlr
  obtain ⟨q0, q1, q2, q3⟩ := HC.out
  have hcase : (16 < p + secL s) ∨ (p + secL s ≤ 16 ∧ b = true) ∨ (p + secL s ≤ 16 ∧ b = false ∧ s = 256) ∨ (p + secL s ≤ 16 ∧ b = false ∧ (s == 256) = false) := by
    by_cases hx : 16 < p + secL s
    · exact .inl hx
    · cases b
      · by_cases hs : s = 256
        · exact .inr (.inr (.inl ⟨by omega, rfl, hs⟩))
        · exact .inr (.inr (.inr ⟨by omega, rfl, by simpa using hs⟩))
      · exact .inr (.inl ⟨by omega, rfl⟩)
  have HV : Hid (refMay ⟨c, p, s, b⟩ = true ↔ p + secL s ≤ 16 ∧ (b = true ∨ s = 256)) := by
    rw [Hid, refMay_iff]; simp only
    exact ⟨fun h => ⟨h.2.2.2.2.2.1, h.2.2.2.2.2.2⟩, fun h => ⟨k1, k2, k3, k4, by omega, h.1, h.2⟩⟩
  obtain ⟨L, hL⟩ : ∃ L, secL s = L := ⟨_, rfl⟩
  rw [hL] at hcase hs8 HV
  have HLE := Lib.hid hL; clear hL
  have hwr : IntKind.i64.wrap (16 - L) = 16 - L := IntWalk.i64_in _ (by omega)
  rcases hcase with h | ⟨h, rfl⟩ | ⟨h, rfl, rfl⟩ | ⟨h, rfl, hse⟩
  · have hd : decide (16 - L < p) = true := by simp; omega
    go_enter Try.func60, Try.ntmps60
    go_upto_region 3 with fail
    go_region_held3 (fun w' => w'.cell? ⟨w.heap.size, 0, none⟩ = some (.int .i64 c) ∧ w'.cell? ⟨w.heap.size, 1, none⟩ = some (.int .i64 p) ∧ w'.cell? ⟨w.heap.size, 2, none⟩ = some (.int .i64 s) ∧ w'.cell? ⟨w.heap.size, 3, none⟩ = some (.bool b))
      (first | exact HC1.out | exact HC.out)
      (first | (go_at_call 38; refine (len_b c p s _ b (by omega) (by omega) HLE.out _).mono ?_; rintro e w2 ⟨rfl, hb⟩; have HC1 := Lib.hid (RBox.below (show RBox w.heap.size c p s b W1.drew from HC.out) hb); have HB1 := Lib.hid (btrans HB.out.drew hb); clear hb))
    go_wp2_with fail
    go_ret
    refine ⟨ret_b ?_, HB1.out⟩; symm; rw [← Bool.not_eq_true, HV.out]; omega
  · have hd : decide (16 - L < p) = false := by simp; omega
    go_enter Try.func60, Try.ntmps60
    go_upto_region 3 with fail
    go_region_held3 (fun w' => w'.cell? ⟨w.heap.size, 0, none⟩ = some (.int .i64 c) ∧ w'.cell? ⟨w.heap.size, 1, none⟩ = some (.int .i64 p) ∧ w'.cell? ⟨w.heap.size, 2, none⟩ = some (.int .i64 s) ∧ w'.cell? ⟨w.heap.size, 3, none⟩ = some (.bool true))
      (first | exact HC1.out | exact HC.out)
      (first | (go_at_call 38; refine (len_b c p s _ true (by omega) (by omega) HLE.out _).mono ?_; rintro e w2 ⟨rfl, hb⟩; have HC1 := Lib.hid (RBox.below (show RBox w.heap.size c p s true W1.drew from HC.out) hb); have HB1 := Lib.hid (btrans HB.out.drew hb); clear hb))
    go_wp2_with fail
    go_ret
    exact ⟨ret_b ((HV.out).2 ⟨by omega, by simp⟩).symm, HB1.out⟩
  · have hd : decide (16 - L < p) = false := by simp; omega
    go_enter Try.func60, Try.ntmps60
    go_upto_region 3 with fail
    go_region_held3 (fun w' => w'.cell? ⟨w.heap.size, 0, none⟩ = some (.int .i64 c) ∧ w'.cell? ⟨w.heap.size, 1, none⟩ = some (.int .i64 p) ∧ w'.cell? ⟨w.heap.size, 2, none⟩ = some (.int .i64 256) ∧ w'.cell? ⟨w.heap.size, 3, none⟩ = some (.bool false))
      (first | exact HC1.out | exact HC.out)
      (first | (go_at_call 38; refine (len_b c p 256 _ false (by omega) (by omega) HLE.out _).mono ?_; rintro e w2 ⟨rfl, hb⟩; have HC1 := Lib.hid (RBox.below (show RBox w.heap.size c p 256 false W1.drew from HC.out) hb); have HB1 := Lib.hid (btrans HB.out.drew hb); clear hb))
    go_wp2_with fail
    go_ret
    exact ⟨ret_b ((HV.out).2 ⟨by omega, by simp⟩).symm, HB1.out⟩
  · have hd : decide (16 - L < p) = false := by simp; omega
    go_enter Try.func60, Try.ntmps60
    go_upto_region 3 with fail
    go_region_held3 (fun w' => w'.cell? ⟨w.heap.size, 0, none⟩ = some (.int .i64 c) ∧ w'.cell? ⟨w.heap.size, 1, none⟩ = some (.int .i64 p) ∧ w'.cell? ⟨w.heap.size, 2, none⟩ = some (.int .i64 s) ∧ w'.cell? ⟨w.heap.size, 3, none⟩ = some (.bool false))
      (first | exact HC1.out | exact HC.out)
      (first | (go_at_call 38; refine (len_b c p s _ false (by omega) (by omega) HLE.out _).mono ?_; rintro e w2 ⟨rfl, hb⟩; have HC1 := Lib.hid (RBox.below (show RBox w.heap.size c p s false W1.drew from HC.out) hb); have HB1 := Lib.hid (btrans HB.out.drew hb); clear hb))
    go_wp2_with fail
    go_ret
    refine ⟨ret_b ?_, HB1.out⟩; symm; rw [← Bool.not_eq_true, HV.out]; intro hq; rcases hq.2 with hq2 | hq2; cases hq2; subst hq2; simp at hse

def ofR (n : Int) : RefD := if ofB n = true then refOf n else RefD.zero
theorem RBox.far {g : Nat} {c p s : Int} {b : Bool} {w : World} (h : RBox g c p s b w) {g' j : Nat} (hne : g' ≠ g) (u : Value) : RBox g c p s b (w.setCell ⟨g', j, none⟩ u) :=
  ⟨(World.cell?_setCell_far _ _ _ _ hne).trans h.1, (World.cell?_setCell_far _ _ _ _ hne).trans h.2.1, (World.cell?_setCell_far _ _ _ _ hne).trans h.2.2.1, (World.cell?_setCell_far _ _ _ _ hne).trans h.2.2.2⟩

set_option maxRecDepth 100000 in
set_option maxHeartbeats 1000000 in
theorem refof_any (n : Int) (_h1 : -9223372036854775808 ≤ n) (h2 : n ≤ 9223372036854775807) (w : World) : Calls Try.prog 37 #[.int .i64 n] w fun e w' => e = .returned (.tuple #[(ofR n).agg, .bool (ofB n)]) ∧ Below w.heap.size w w' := by
  by_cases h0 : n < 0
  · have HF := Lib.hid (show ofB n = false by unfold ofB; simp; omega)
    go_enter Try.func37, Try.ntmps37
    go_wp2_with fail
    refine bodyPost_ret (v := .tuple #[RefD.zero.agg, .bool false]) (by simp [results, Try.results37, go_sem, RefD.agg, RefD.zero]) rfl ⟨by unfold ofR; rw [HF.out]; rfl, (Below.refl _ _).alloc (Nat.le_refl _) _⟩
  have h0' : 0 ≤ n := by omega
  obtain ⟨b, hb⟩ : ∃ b, refMay (refOf n) = b := ⟨_, rfl⟩
  have HOB := Lib.hid (show ofB n = b by unfold ofB; rw [hb]; simp; intro _; omega)
  have HR := Lib.hid hb; clear hb
  go_enter Try.func37, Try.ntmps37
  go_wp2_with fail
  refine (refmay_any (refOf n) _).mono ?_
  rintro e w1 ⟨rfl, hb⟩
  rw [HR.out]
  have q0 : w1.cell? ⟨w.heap.size, 0, none⟩ = some (.int .i64 0) := cell_st hb (by simp)
  have q1 : w1.cell? ⟨w.heap.size, 1, none⟩ = some (.int .i64 0) := cell_st hb (by simp)
  have q2 : w1.cell? ⟨w.heap.size, 2, none⟩ = some (.int .i64 0) := cell_st hb (by simp)
  have q3 : w1.cell? ⟨w.heap.size, 3, none⟩ = some (.bool false) := cell_st hb (by simp)
  have p0 : w1.cell? ⟨w.heap.size + 1, 0, none⟩ = some (.int .i64 (n / 2 / 257 / 16)) := cell_st hb (by simp)
  have p1 : w1.cell? ⟨w.heap.size + 1, 1, none⟩ = some (.int .i64 (n / 2 / 257 % 16)) := cell_st hb (by simp)
  have p2 : w1.cell? ⟨w.heap.size + 1, 2, none⟩ = some (.int .i64 (n / 2 % 257)) := cell_st hb (by simp)
  have p3 : w1.cell? ⟨w.heap.size + 1, 3, none⟩ = some (.bool (n % 2 == 1)) := cell_st hb (by simp)
  have f0 : w1.frozen? ⟨w.heap.size, 0, none⟩ = false := (hb.frozen (p := ⟨w.heap.size, 0, none⟩) (by simp; omega)).trans (by simp)
  have f1 : w1.frozen? ⟨w.heap.size, 1, none⟩ = false := (hb.frozen (p := ⟨w.heap.size, 1, none⟩) (by simp; omega)).trans (by simp)
  have f2 : w1.frozen? ⟨w.heap.size, 2, none⟩ = false := (hb.frozen (p := ⟨w.heap.size, 2, none⟩) (by simp; omega)).trans (by simp)
  have f3 : w1.frozen? ⟨w.heap.size, 3, none⟩ = false := (hb.frozen (p := ⟨w.heap.size, 3, none⟩) (by simp; omega)).trans (by simp)
  have hl : w.heap.size + 1 < w1.heap.size := by have := hb.size; simp at this; omega
  have HB := Lib.hid (btrans (((Below.refl w.heap.size w).alloc (Nat.le_refl _) _).alloc (by simp) _) hb)
  clear hb
  cases b
  · go_wp2_with fail
    refine bodyPost_ret (v := .tuple #[RefD.zero.agg, .bool false]) (by simp [results, Try.results37, go_sem, RefD.agg, RefD.zero, q0, q1, q2, q3]; try omega) rfl ⟨by unfold ofR; rw [HOB.out]; rfl, ?_⟩
    exact (((HB.out.setCell (Nat.le_refl _) _).setCell (Nat.le_refl _) _).setCell (Nat.le_refl _) _).setCell (Nat.le_refl _) _
  · go_wp2_with fail
    refine bodyPost_ret (v := .tuple #[(refOf n).agg, .bool true]) (by simp [results, Try.results37, go_sem, RefD.agg, refOf, q0, q1, q2, q3]; try omega) rfl ⟨by unfold ofR; rw [HOB.out]; rfl, ?_⟩
    exact (((HB.out.setCell (Nat.le_refl _) _).setCell (Nat.le_refl _) _).setCell (Nat.le_refl _) _).setCell (Nat.le_refl _) _
end Go.Proofs.Ytpcmihgfcaelfaa
namespace Go.Proofs.Ytpcmihgfcaelfaa
open Go.RowKit

theorem rsectors_any (n : Int) (h0 : -1000000 ≤ n) (h1 : n ≤ 1000000) (w : World) : Calls Try.prog 63 #[.int .i64 n] w fun e w' => e = .returned (.int .i64 (secL n)) ∧ w = w' := by
  by_cases h : n ≤ 0
  · have HS := Lib.hid (show secL n = 0 by unfold secL; rw [if_pos h])
    go_enter Try.func63, Try.ntmps63
    go_wp2_with fail
    go_ret
    exact ⟨ret_i HS.out.symm, rfl⟩
  · have HS := Lib.hid (show secL n = (n - 1) / 32 + 1 by unfold secL; rw [if_neg h])
    go_enter Try.func63, Try.ntmps63
    go_wp2_with fail
    go_ret
    exact ⟨ret_i HS.out.symm, rfl⟩
theorem rlen_b (c p s L : Int) (b : Bool) (h0 : -1000000 ≤ s) (h1 : s ≤ 1000000) (hL : secL s = L) (w : World) : Calls Try.prog 42 #[.agg #[.int .i64 c, .int .i64 p, .int .i64 s, .bool b]] w fun e w' => e = .returned (.int .i64 L) ∧ Below w.heap.size w w' := by
  subst hL
  go_enter Try.func42, Try.ntmps42
  go_wp2_with fail
  refine (rsectors_any s h0 h1 _).mono ?_
  rintro e w1 ⟨rfl, rfl⟩
  go_wp2_with fail
  go_ret
  exact ⟨rfl, (Below.refl _ _).alloc (Nat.le_refl _) _⟩

set_option maxRecDepth 100000 in
set_option maxHeartbeats 2000000 in
theorem rrefmay_any (x : RefD) (w : World) : Calls Try.prog 74 #[x.agg] w fun e w' => e = .returned (.bool (refMay x)) ∧ Below w.heap.size w w' := by
  obtain ⟨c, p, s, b⟩ := x
  simp only [RefD.agg]
  have hb1 : Below w.heap.size w (w.alloc (.cells #[.int .i64 c, .int .i64 p, .int .i64 s, .bool b] 69)) := (Below.refl _ _).alloc (Nat.le_refl _) _
  have HB := Lib.hid hb1; clear hb1
  by_cases h1 : 0 ≤ c ∧ c ≤ 999 ∧ 1 ≤ s ∧ s ≤ 256 ∧ 0 ≤ p ∧ p ≤ 16
  case neg =>
    have HF := Lib.hid (show refMay ⟨c, p, s, b⟩ = false from (refMay_no _).2 (fun h => h1 ⟨h.1, h.2.1, h.2.2.1, h.2.2.2.1, h.2.2.2.2.1, by have h3 := secL_bd h.2.2.1 h.2.2.2.1; have h4 := h.2.2.2.2.2.1; simp only at h3 h4; omega⟩))
    have hc : (decide (c < 0) = true) ∨ (decide (c < 0) = false ∧ decide (999 < c) = true) ∨ (decide (c < 0) = false ∧ decide (999 < c) = false ∧ decide (s < 1) = true) ∨ (decide (c < 0) = false ∧ decide (999 < c) = false ∧ decide (s < 1) = false ∧ decide (256 < s) = true) ∨ (decide (c < 0) = false ∧ decide (999 < c) = false ∧ decide (s < 1) = false ∧ decide (256 < s) = false ∧ decide (p < 0) = true) ∨ (decide (c < 0) = false ∧ decide (999 < c) = false ∧ decide (s < 1) = false ∧ decide (256 < s) = false ∧ decide (p < 0) = false ∧ decide (16 < p) = true) := by
      simp only [decide_eq_true_eq, decide_eq_false_iff_not]; omega
    clear h1
    rcases hc with g0 | ⟨g0, g1⟩ | ⟨g0, g1, g2⟩ | ⟨g0, g1, g2, g3⟩ | ⟨g0, g1, g2, g3, g4⟩ | ⟨g0, g1, g2, g3, g4, g5⟩
    all_goals
      go_enter Try.func74, Try.ntmps74
      go_wp2_with fail
      go_quiet (fail)
      go_wp2_with fail
      go_ret
      exact ⟨ret_b HF.out.symm, below_drewN' HB.out _⟩
  obtain ⟨k1, k2, k3, k4, k5, k6⟩ := h1
  have g0 : decide (c < 0) = false := by simp; omega
  have g1 : decide (999 < c) = false := by simp; omega
  have g2 : decide (s < 1) = false := by simp; omega
  have g3 : decide (256 < s) = false := by simp; omega
  have g4 : decide (p < 0) = false := by simp; omega
  have g5 : decide (16 < p) = false := by simp; omega
  have hs8 := secL_bd k3 k4
  have hlr : w.heap.size < (w.alloc (.cells #[.int .i64 c, .int .i64 p, .int .i64 s, .bool b] 69)).heap.size := by simp
  obtain ⟨W1, hW1⟩ : ∃ W1, w.alloc (.cells #[.int .i64 c, .int .i64 p, .int .i64 s, .bool b] 69) = W1 := ⟨_, rfl⟩
  have HC := Lib.hid (show RBox w.heap.size c p s b W1 by rw [← hW1]; exact ⟨by simp, by simp, by simp, by simp⟩)
  rw [hW1] at HB hlr
  obtain ⟨q0, q1, q2, q3⟩ := HC.out
  have hcase : (16 < p + secL s) ∨ (p + secL s ≤ 16 ∧ b = true) ∨ (p + secL s ≤ 16 ∧ b = false ∧ s = 256) ∨ (p + secL s ≤ 16 ∧ b = false ∧ (s == 256) = false) := by
    by_cases hx : 16 < p + secL s
    · exact .inl hx
    · cases b
      · by_cases hs : s = 256
        · exact .inr (.inr (.inl ⟨by omega, rfl, hs⟩))
        · exact .inr (.inr (.inr ⟨by omega, rfl, by simpa using hs⟩))
      · exact .inr (.inl ⟨by omega, rfl⟩)
  have HV : Hid (refMay ⟨c, p, s, b⟩ = true ↔ p + secL s ≤ 16 ∧ (b = true ∨ s = 256)) := by
    rw [Hid, refMay_iff]; simp only
    exact ⟨fun h => ⟨h.2.2.2.2.2.1, h.2.2.2.2.2.2⟩, fun h => ⟨k1, k2, k3, k4, k5, h.1, h.2⟩⟩
  obtain ⟨L, hL⟩ : ∃ L, secL s = L := ⟨_, rfl⟩
  rw [hL] at hcase hs8 HV
  have HLE := Lib.hid hL; clear hL
  have hwr : IntKind.i64.wrap (p + L) = p + L := IntWalk.i64_in _ (by omega)
  rcases hcase with h | ⟨h, rfl⟩ | ⟨h, rfl, rfl⟩ | ⟨h, rfl, hse⟩
  · have hd : decide (16 < p + L) = true := by simp; omega
    go_enter Try.func74, Try.ntmps74
    go_upto_region 1 with fail
    go_region_held3 (fun w' => w'.cell? ⟨w.heap.size, 0, none⟩ = some (.int .i64 c) ∧ w'.cell? ⟨w.heap.size, 1, none⟩ = some (.int .i64 p) ∧ w'.cell? ⟨w.heap.size, 2, none⟩ = some (.int .i64 s) ∧ w'.cell? ⟨w.heap.size, 3, none⟩ = some (.bool b))
      (first | exact HC1.out | exact HC.out)
      (first | (go_at_call 42; refine (rlen_b c p s _ b (by omega) (by omega) HLE.out _).mono ?_; rintro e w2 ⟨rfl, hb⟩; have HC1 := Lib.hid (RBox.below (show RBox w.heap.size c p s b W1.drew from HC.out) hb); have HB1 := Lib.hid (btrans HB.out.drew hb); clear hb))
    go_wp2_with fail
    go_ret
    refine ⟨ret_b ?_, HB1.out⟩; symm; rw [← Bool.not_eq_true, HV.out]; omega
  · have hd : decide (16 < p + L) = false := by simp; omega
    go_enter Try.func74, Try.ntmps74
    go_upto_region 1 with fail
    go_region_held3 (fun w' => w'.cell? ⟨w.heap.size, 0, none⟩ = some (.int .i64 c) ∧ w'.cell? ⟨w.heap.size, 1, none⟩ = some (.int .i64 p) ∧ w'.cell? ⟨w.heap.size, 2, none⟩ = some (.int .i64 s) ∧ w'.cell? ⟨w.heap.size, 3, none⟩ = some (.bool true))
      (first | exact HC1.out | exact HC.out)
      (first | (go_at_call 42; refine (rlen_b c p s _ true (by omega) (by omega) HLE.out _).mono ?_; rintro e w2 ⟨rfl, hb⟩; have HC1 := Lib.hid (RBox.below (show RBox w.heap.size c p s true W1.drew from HC.out) hb); have HB1 := Lib.hid (btrans HB.out.drew hb); clear hb))
    go_wp2_with fail
    go_ret
    exact ⟨ret_b ((HV.out).2 ⟨by omega, by simp⟩).symm, HB1.out⟩
  · have hd : decide (16 < p + L) = false := by simp; omega
    go_enter Try.func74, Try.ntmps74
    go_upto_region 1 with fail
    go_region_held3 (fun w' => w'.cell? ⟨w.heap.size, 0, none⟩ = some (.int .i64 c) ∧ w'.cell? ⟨w.heap.size, 1, none⟩ = some (.int .i64 p) ∧ w'.cell? ⟨w.heap.size, 2, none⟩ = some (.int .i64 256) ∧ w'.cell? ⟨w.heap.size, 3, none⟩ = some (.bool false))
      (first | exact HC1.out | exact HC.out)
      (first | (go_at_call 42; refine (rlen_b c p 256 _ false (by omega) (by omega) HLE.out _).mono ?_; rintro e w2 ⟨rfl, hb⟩; have HC1 := Lib.hid (RBox.below (show RBox w.heap.size c p 256 false W1.drew from HC.out) hb); have HB1 := Lib.hid (btrans HB.out.drew hb); clear hb))
    go_wp2_with fail
    go_ret
    exact ⟨ret_b ((HV.out).2 ⟨by omega, by simp⟩).symm, HB1.out⟩
  · have hd : decide (16 < p + L) = false := by simp; omega
    go_enter Try.func74, Try.ntmps74
    go_upto_region 1 with fail
    go_region_held3 (fun w' => w'.cell? ⟨w.heap.size, 0, none⟩ = some (.int .i64 c) ∧ w'.cell? ⟨w.heap.size, 1, none⟩ = some (.int .i64 p) ∧ w'.cell? ⟨w.heap.size, 2, none⟩ = some (.int .i64 s) ∧ w'.cell? ⟨w.heap.size, 3, none⟩ = some (.bool false))
      (first | exact HC1.out | exact HC.out)
      (first | (go_at_call 42; refine (rlen_b c p s _ false (by omega) (by omega) HLE.out _).mono ?_; rintro e w2 ⟨rfl, hb⟩; have HC1 := Lib.hid (RBox.below (show RBox w.heap.size c p s false W1.drew from HC.out) hb); have HB1 := Lib.hid (btrans HB.out.drew hb); clear hb))
    go_wp2_with fail
    go_ret
    refine ⟨ret_b ?_, HB1.out⟩; symm; rw [← Bool.not_eq_true, HV.out]; intro hq; rcases hq.2 with hq2 | hq2; cases hq2; subst hq2; simp at hse
end Go.Proofs.Ytpcmihgfcaelfaa
namespace Go.Proofs.Ytpcmihgfcaelfaa
open Go.RowKit

def numR (x : RefD) : Int := if refMay x = true then refNum x else -1
set_option maxRecDepth 100000 in
set_option maxHeartbeats 1000000 in
theorem rnum_any (x : RefD) (w : World) : Calls Try.prog 62 #[x.agg] w fun e w' => e = .returned (.int .i64 (numR x)) ∧ Below w.heap.size w w' := by
  obtain ⟨c, p, s, b⟩ := x
  simp only [RefD.agg]
  have HB := Lib.hid (show Below w.heap.size w (w.alloc (.cells #[.int .i64 c, .int .i64 p, .int .i64 s, .bool b] 69)) from (Below.refl _ _).alloc (Nat.le_refl _) _)
  have HC := Lib.hid (show RBox w.heap.size c p s b (w.alloc (.cells #[.int .i64 c, .int .i64 p, .int .i64 s, .bool b] 69)) from ⟨by simp, by simp, by simp, by simp⟩)
  by_cases hm : refMay ⟨c, p, s, b⟩ = true
  · have HV := Lib.hid (show numR ⟨c, p, s, b⟩ = refNum ⟨c, p, s, b⟩ by unfold numR; rw [if_pos hm])
    have hi := (refMay_iff _).1 hm
    have HM := Lib.hid hm; clear hm
    obtain ⟨k1, k2, k3, k4, k5, k6, _⟩ := hi
    simp only at k1 k2 k3 k4 k5 k6
    have hs8 := secL_bd k3 k4
    have k6' : p ≤ 16 := by omega
    clear k6
    go_enter Try.func62, Try.ntmps62
    go_wp2_with fail
    refine (rrefmay_any ⟨c, p, s, b⟩ _).mono ?_
    rintro e w1 ⟨rfl, hb⟩
    rw [HM.out]
    have HB1 := Lib.hid (btrans HB.out hb)
    obtain ⟨q0, q1, q2, q3⟩ := HC.out.below hb
    have hl := World.block_lt_of_cell? _ _ q0
    clear hb
    cases b
    all_goals
      go_wp2_with fail
      go_ret
      refine ⟨ret_i ?_, HB1.out⟩
      rw [HV.out]; unfold refNum; simp; try omega
  · have HV := Lib.hid (show numR ⟨c, p, s, b⟩ = -1 by unfold numR; rw [if_neg hm])
    have HM := Lib.hid (show refMay ⟨c, p, s, b⟩ = false by simpa using hm); clear hm
    go_enter Try.func62, Try.ntmps62
    go_wp2_with fail
    refine (rrefmay_any ⟨c, p, s, b⟩ _).mono ?_
    rintro e w1 ⟨rfl, hb⟩
    rw [HM.out]
    have HB1 := Lib.hid (btrans HB.out hb); clear hb
    go_wp2_with fail
    go_ret
    exact ⟨ret_i HV.out.symm, HB1.out⟩

theorem ofB_alt {n : Int} (h : 0 ≤ n) : ofB n = (numR (refOf n) == n) := by
  unfold ofB numR
  by_cases hm : refMay (refOf n) = true
  · rw [if_pos hm, refOf_num h, hm]; simp [h]
  · rw [if_neg hm]
    have : refMay (refOf n) = false := by simpa using hm
    rw [this]; simp; omega
set_option maxRecDepth 100000 in
set_option maxHeartbeats 1000000 in
theorem rrefof_any (n : Int) (_h1 : -9223372036854775808 ≤ n) (h2 : n ≤ 9223372036854775807) (w : World) : Calls Try.prog 41 #[.int .i64 n] w fun e w' => e = .returned (.tuple #[(ofR n).agg, .bool (ofB n)]) ∧ Below w.heap.size w w' := by
  by_cases h0 : n < 0
  · have HF := Lib.hid (show ofB n = false by unfold ofB; simp; omega)
    go_enter Try.func41, Try.ntmps41
    go_wp2_with fail
    refine bodyPost_ret (v := .tuple #[RefD.zero.agg, .bool false]) (by simp [results, Try.results41, go_sem, RefD.agg, RefD.zero]) rfl ⟨by unfold ofR; rw [HF.out]; rfl, (Below.refl _ _).alloc (Nat.le_refl _) _⟩
  have h0' : 0 ≤ n := by omega
  obtain ⟨b, hb⟩ : ∃ b, ofB n = b := ⟨_, rfl⟩
  have hq : (numR (refOf n) != n) = !b := by rw [← hb, ofB_alt h0']; rfl
  have HOB := Lib.hid hb
  have HALT := Lib.hid (refOf_alt h0')
  obtain ⟨N, hN⟩ : ∃ N, numR (refOf n) = N := ⟨_, rfl⟩
  rw [hN] at hq
  have HN := Lib.hid (show numR ⟨n / 8224, n / 514 % 16, n / 2 % 257, n % 2 == 1⟩ = N by rw [← HALT.out]; exact hN)
  clear hb hN
  go_enter Try.func41, Try.ntmps41
  go_wp2_with fail
  refine (rnum_any ⟨n / 8224, n / 514 % 16, n / 2 % 257, n % 2 == 1⟩ _).mono ?_
  rintro e w1 ⟨rfl, hb⟩
  rw [HN.out]
  have q0 : w1.cell? ⟨w.heap.size, 0, none⟩ = some (.int .i64 0) := cell_st hb (by simp)
  have q1 : w1.cell? ⟨w.heap.size, 1, none⟩ = some (.int .i64 0) := cell_st hb (by simp)
  have q2 : w1.cell? ⟨w.heap.size, 2, none⟩ = some (.int .i64 0) := cell_st hb (by simp)
  have q3 : w1.cell? ⟨w.heap.size, 3, none⟩ = some (.bool false) := cell_st hb (by simp)
  have p0 : w1.cell? ⟨w.heap.size + 1, 0, none⟩ = some (.int .i64 (n / 8224)) := cell_st hb (by simp)
  have p1 : w1.cell? ⟨w.heap.size + 1, 1, none⟩ = some (.int .i64 (n / 514 % 16)) := cell_st hb (by simp)
  have p2 : w1.cell? ⟨w.heap.size + 1, 2, none⟩ = some (.int .i64 (n / 2 % 257)) := cell_st hb (by simp)
  have p3 : w1.cell? ⟨w.heap.size + 1, 3, none⟩ = some (.bool (n % 2 == 1)) := cell_st hb (by simp)
  have f0 : w1.frozen? ⟨w.heap.size, 0, none⟩ = false := (hb.frozen (p := ⟨w.heap.size, 0, none⟩) (by simp; omega)).trans (by simp)
  have f1 : w1.frozen? ⟨w.heap.size, 1, none⟩ = false := (hb.frozen (p := ⟨w.heap.size, 1, none⟩) (by simp; omega)).trans (by simp)
  have f2 : w1.frozen? ⟨w.heap.size, 2, none⟩ = false := (hb.frozen (p := ⟨w.heap.size, 2, none⟩) (by simp; omega)).trans (by simp)
  have f3 : w1.frozen? ⟨w.heap.size, 3, none⟩ = false := (hb.frozen (p := ⟨w.heap.size, 3, none⟩) (by simp; omega)).trans (by simp)
  have hl : w.heap.size + 1 < w1.heap.size := by have := hb.size; simp at this; omega
  have HB := Lib.hid (btrans (((Below.refl w.heap.size w).alloc (Nat.le_refl _) _).alloc (by simp) _) hb)
  clear hb
  cases b
  · simp only [Bool.not_false] at hq
    go_wp2_with fail
    refine bodyPost_ret (v := .tuple #[RefD.zero.agg, .bool false]) (by simp [results, Try.results41, go_sem, RefD.agg, RefD.zero, q0, q1, q2, q3]; try omega) rfl ⟨by unfold ofR; rw [HOB.out]; rfl, ?_⟩
    exact (((HB.out.setCell (Nat.le_refl _) _).setCell (Nat.le_refl _) _).setCell (Nat.le_refl _) _).setCell (Nat.le_refl _) _
  · simp only [Bool.not_true] at hq
    go_wp2_with fail
    refine bodyPost_ret (v := .tuple #[(RefD.mk (n / 8224) (n / 514 % 16) (n / 2 % 257) (n % 2 == 1)).agg, .bool true]) (by simp [results, Try.results41, go_sem, RefD.agg, q0, q1, q2, q3]; try omega) rfl ⟨by unfold ofR; rw [HOB.out, ← HALT.out]; rfl, ?_⟩
    exact (((HB.out.setCell (Nat.le_refl _) _).setCell (Nat.le_refl _) _).setCell (Nat.le_refl _) _).setCell (Nat.le_refl _) _
end Go.Proofs.Ytpcmihgfcaelfaa
