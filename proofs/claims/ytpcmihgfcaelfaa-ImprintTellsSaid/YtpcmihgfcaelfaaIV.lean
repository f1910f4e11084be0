/- The walk of the reference's Text (layer 20). · What the reference reads of a text: plain. · The walk of the reference's Read (layer 20). -/
import Derived.Test.YtpcmihgfcaelfaaIN
import Derived.Test.YtpcmihgfcaelfaaII
import Derived.Deep.RegionHeld3
import Derived.Test.YtpcmihgfcaelfaaIS
namespace Go.Proofs.Ytpcmihgfcaelfaa
open Go.RowKit

def strT (n : Nat) (l : List VoD) : ByteArray := ⟨(numS n ++ volsS l).toArray⟩
theorem strT_start (n : Nat) (l : List VoD) : strN n = strT n (l.take 0) := by
  unfold strT strN; rw [List.take_zero, show volsS [] = [] from rfl, List.append_nil]
theorem strT_snoc (n : Nat) (l : List VoD) (d : VoD) : strT n l ++ (⟨(intsS (numsV d)).toArray⟩ : ByteArray) = strT n (l ++ [d]) := by
  unfold strT; rw [volsS_snoc]
  apply ByteArray.ext
  apply Array.ext'
  simp
theorem strT_fit {n k : Nat} {l : List VoD} {s : List UInt8} (h : SmallTrees l) (hn : l.length = n) (h2 : n ≤ 64) (hs : s.length ≤ 30000) : ¬ 9223372036854775807 < (strT n (l.take k)).size + (⟨s.toArray⟩ : ByteArray).size := by
  have h1 := textG_le (k := k) h (by rw [hn]; exact h2)
  rw [hn] at h1
  unfold strT
  rw [ba_size, ba_size]
  have h5 : (numS (n : Nat) ++ volsS (l.take k)).length + s.length ≤ 2030000 := by omega
  exact Nat.not_lt.2 (Nat.le_trans h5 (by decide))
def RtRel (w : World) (l : List VoD) (N : Nat) (t i : Value) (wr : World) : Prop :=
  ∃ k : Nat, k ≤ N ∧ i = .int .i64 k ∧ t = .string (strT N (l.take k)) ∧ Below w.heap.size w wr
set_option maxRecDepth 100000 in
set_option maxHeartbeats 4000000 in
theorem rText_any (l : List VoD) (v1 : Value) (w : World) (h1 : VolsAt w v1 l) (l1 : SmallTrees l) : Calls Try.prog 15 #[v1] w fun e w' => e = .returned (.string ⟨(textV l).toArray⟩) ∧ Below w.heap.size w w' := by
  have HV := Lib.hid h1
  obtain ⟨p, cp, rfl, a1, a2, ha⟩ := h1
  have HA := Lib.hid ha
  obtain ⟨N, hN⟩ : ∃ N, l.length = N := ⟨_, rfl⟩
  rw [hN] at a1 HV; rw [hN]
  have HN := Lib.hid hN; have HL1 := Lib.hid l1
  have hlc : (N : Int) ≤ 9223372036854775807 := by unfold maxLen at a2; omega
  have HCN := Lib.hid (numR_any)
  clear ha hN a1 a2 l1
  go_enter Try.func15, Try.ntmps15
  go_wp2_with fail
  refine (rmay18_any l _ _ HV.out HL1.out).mono ?_
  rintro e w1 ⟨rfl, hb⟩
  have HB := Lib.hid hb
  clear hb
  cases hm : mayVB l with
  | false =>
    have HF := Lib.hid (show textV l = [] by unfold textV; rw [hm]; rfl)
    clear hm
    go_wp2_with fail
    refine take_ret (v := .string ⟨#[]⟩) ⟨by rw [HF.out], HB.out⟩ ?_
    simp [results, Try.results15, go_sem]
  | true =>
  have HF := Lib.hid (show textV l = numS l.length ++ volsS l by unfold textV; rw [hm]; rfl)
  have HMY := Lib.hid (mayVB_iff.1 hm)
  have H64 := Lib.hid (show N ≤ 64 by rw [← HN.out]; exact HMY.out.2.2)
  clear hm
  go_wp2_with (go_at_call 49; (with_reducible refine (HCN.out _ _).mono ?_); rintro e w2 ⟨rfl, hb2⟩)
  have HB3 := Lib.hid (btrans HB.out hb2)
  clear hb2
  go_loopw [3, 4] (fun t i wr => RtRel w l N t i wr) (fun _ i _ => N - (intOf i).toNat)
  case atStart => exact ⟨0, Nat.zero_le _, rfl, by rw [strT_start N l], HB3.out⟩
  case round =>
    obtain ⟨k, hk, rfl, rfl, hb⟩ := hrel
    have HBR := Lib.hid hb
    clear hb HB3
    by_cases hlt : k < N
    case neg =>
      obtain rfl : k = N := by omega
      have hmm : decide ((k : Int) < (k : Int)) = false := by simp
      have HT := Lib.hid (show textV l = numS k ++ volsS (l.take k) by rw [HF.out, HN.out, List.take_of_length_le (by rw [HN.out]; exact Nat.le_refl _)])
      go_wp2_with fail
      refine take_ret (v := .string (strT k (l.take k))) ⟨by rw [HT.out]; rfl, HBR.out⟩ ?_
      simp [results, Try.results15, go_sem]
    have hki : (k : Int) < (N : Int) := by omega
    have hwk : wrap64 ((k : Int) + 1) = (k : Int) + 1 := wrap_le1 hk (show N ≤ 1000000 by have := H64.out; omega)
    obtain ⟨s, hs⟩ : ∃ s, l[k]? = some s := ⟨_, List.getElem?_eq_getElem (by rw [HN.out]; omega)⟩
    obtain ⟨i1, i2, g, o, a, b, c, rfl, e0, e1, e2, e3, e4, e5⟩ := HA.out k s hs
    obtain ⟨pa, na, ca, pb, nb, cb, pc, nc, cc, rfl, rfl, rfl⟩ := node_slices e5
    have HV5 := Lib.hid (V5.below ⟨e0, e1, e2, e3, e4⟩ HBR.out)
    have HND := Lib.hid (And.intro i1 (And.intro i2 (e5.keep (keeps_below HBR.out))))
    have HS := Lib.hid hs; have HM := Lib.hid (HL1.out s (List.mem_of_getElem? hs))
    clear hs e0 e1 e2 e3 e4 e5 i1 i2
    obtain ⟨SI, hSI⟩ : ∃ S, s.id = S := ⟨_, rfl⟩
    obtain ⟨SZ, hSZ⟩ : ∃ S, s.size = S := ⟨_, rfl⟩
    have HSE := Lib.hid (And.intro hSI hSZ)
    rw [hSI, hSZ] at HV5
    clear hSI hSZ
    obtain ⟨wo, hwo⟩ : ∃ W, W = wr := ⟨_, rfl⟩
    rw [← hwo] at HV5 HND HBR ⊢
    clear hwo
    have r0 : wo.drew.cell? ⟨g, o + k * 5, none⟩ = some (.int .i64 SI) := cell_stays ((Below.refl _ _).drew) HV5.out.1
    have r1 : wo.drew.cell? ⟨g, o + k * 5 + 1, none⟩ = some (.int .i64 SZ) := cell_stays ((Below.refl _ _).drew) HV5.out.2.1
    obtain ⟨W2, hW2⟩ : ∃ W, (wo.alloc (.cells #[.int .i64 SI, .int .i64 SZ] 3)).drew = W := ⟨_, rfl⟩
    have hb2 : Below wo.heap.size wo W2 := by rw [← hW2]; exact ((Below.refl _ _).alloc (Nat.le_refl _) _).drew
    have HSB := Lib.hid (show (wo.alloc (.cells #[.int .i64 SI, .int .i64 SZ] 3)).drew.cell? ⟨g, o + k * 5, none⟩ = some (.int .i64 SI) ∧ (wo.alloc (.cells #[.int .i64 SI, .int .i64 SZ] 3)).drew.cell? ⟨g, o + k * 5 + 1, none⟩ = some (.int .i64 SZ) by rw [hW2]; exact ⟨cell_stays hb2 HV5.out.1, cell_stays hb2 HV5.out.2.1⟩)
    have HO2 := Lib.hid (show W2.ownsRow wo.heap.size 3 1 (.slice (some ⟨wo.heap.size, 0, none⟩) 2 2) 2 (intVs [SI, SZ]) by rw [← hW2]; exact World.ownsRow.drew (ints_two wo wo.heap.size SI SZ (Nat.le_refl _)))
    have HX2 := Lib.hid (V5.below HV5.out hb2)
    have HB2 := Lib.hid hb2; have HW2 := Lib.hid hW2
    clear hW2 hb2
    go_upto_region 7 with fail
    go_region_held3 (fun w' => w'.cell? ⟨g, o + k * 5, none⟩ = some (.int .i64 SI) ∧ w'.cell? ⟨g, o + k * 5 + 1, none⟩ = some (.int .i64 SZ))
      (first | with_reducible exact ⟨r0, r1⟩ | with_reducible exact HSB.out)
      (fail)
    rw [HW2.out]
    clear r0 r1
    obtain ⟨_, _, r2, r3, r4⟩ := HX2.out
    go_wp2_with (go_at_call 19; (with_reducible refine (rpairs_any s.map _ _ _ _ (HND.out.2.2.keep (keeps_below HB2.out)) (by have := HM.out; unfold SmallTree at this; omega)).mono ?_); rintro e w3 ⟨pv, rfl, hown, hb3⟩; obtain ⟨np, hnp⟩ : ∃ n, (pairsN s.map).length = n := ⟨_, rfl⟩; rw [hnp] at hown; obtain ⟨pq, cq, rfl⟩ : ∃ p c, pv = .slice p np c := (by rcases ow_slice hown with ⟨h, h2, _⟩ | ⟨g, c, h⟩; exact ⟨none, 0, by rw [h, h2]⟩; exact ⟨_, c, h⟩); have HOP := Lib.hid hown; have HNP := Lib.hid hnp; have HO3 := Lib.hid (own_belowP HO2.out hb3); have HB3 := Lib.hid (btrans HB2.out hb3); clear hown hnp hb3 r2 r3 r4)
    have HNS := Lib.hid (show np ≤ 2000 by rw [← HNP.out]; exact HM.out)
    have hnc : (np : Int) ≤ 9223372036854775807 := by have := HNS.out; omega
    go_loopw [7, 5] (fun i v wr => TxIn wo W2.heap.size [SI, SZ] (pairsN s.map) (.slice pq np cq) np i v wr) (fun i _ _ => np - (intOf i).toNat)
    case atStart => exact ⟨0, Nat.zero_le _, rfl, by rw [List.take_zero]; exact HO3.out, HOP.out, HB3.out⟩
    case round =>
      obtain ⟨j, hj, rfl, hown, hownp, hb4⟩ := hrel
      obtain ⟨pn, nn, cn, rfl⟩ := own_shape hown
      have HO4 := Lib.hid hown; have HOP4 := Lib.hid hownp; have HB4 := Lib.hid hb4
      clear hown hownp hb4 HO3 HOP HB3
      by_cases hlt2 : j < np
      case neg =>
        obtain rfl : j = np := by omega
        have hmm : decide ((j : Int) < (j : Int)) = false := by simp
        have HEQ := Lib.hid (show [SI, SZ] ++ flatP ((pairsN s.map).take j) = numsV s by
          rw [List.take_of_length_le (by rw [HNP.out]; exact Nat.le_refl _), ← HSE.out.1, ← HSE.out.2]; rfl)
        have HIA := Lib.hid (show IntsAt wr (.slice pn nn cn) (numsV s) from ints_of_row (nums_bd HND.out.1 HND.out.2.1 HND.out.2.2) (by
          have := HO4.out
          rw [HEQ.out] at this
          rw [numsV_len, HNP.out]; exact this))
        have HIL := Lib.hid (show (numsV s).length ≤ 1000000 by rw [numsV_len, HNP.out]; have := HNS.out; omega)
        have HSL := Lib.hid (show (intsS (numsV s)).length ≤ 30000 by have := intsS_le (numsV s); rw [numsV_len, HNP.out] at this; have := HNS.out; omega)
        have HT := Lib.hid (show l.take (k + 1) = l.take k ++ [s] by rw [List.take_add_one, HS.out]; rfl)
        have hfit := strT_fit (k := k) HL1.out HN.out H64.out HSL.out
        obtain ⟨S2, hS2⟩ : ∃ S : ByteArray, ⟨(intsS (numsV s)).toArray⟩ = S := ⟨_, rfl⟩
        rw [hS2] at hfit
        have HS2 := Lib.hid hS2
        clear hS2
        go_wp2_with (go_at_call 50; (with_reducible refine (intsR_any (numsV s) _ _ HIA.out HIL.out).mono ?_); rintro e w5 ⟨rfl, hb5⟩; rw [HS2.out])
        go_roundw
        case rel => exact ⟨k + 1, by omega, by go_num, by rw [HT.out, ← strT_snoc, HS2.out], (HBR.out.trans (below_low HB4.out HBR.out.size)).trans (below_low hb5 (Nat.le_trans HBR.out.size HB4.out.size))⟩
        case measure => first | exact meas_step hlt | (have hm := meas_step hlt; rw [← hwk] at hm; exact hm)
      case pos =>
        have hji : (j : Int) < (np : Int) := by omega
        have hwj := wrap_le1 hj (show np ≤ 1000000 by have := HNS.out; omega)
        obtain ⟨t, ht⟩ : ∃ t, (pairsN s.map)[j]? = some t := ⟨_, List.getElem?_eq_getElem (by rw [HNP.out]; exact hlt2)⟩
        obtain ⟨_, _, e, _, _, hp⟩ := pairs_of_row (l := pairsN s.map) (by rw [HNP.out]; exact HOP4.out)
        rw [HNP.out] at e
        injection e with e6 e7 e8
        subst e6; subst e8
        obtain ⟨g2, o2, rfl, y0, y1⟩ := hp j t ht
        obtain ⟨T1, hT1⟩ : ∃ q, t.1 = q := ⟨_, rfl⟩
        obtain ⟨T2, hT2⟩ : ∃ q, t.2 = q := ⟨_, rfl⟩
        rw [hT1] at y0; rw [hT2] at y1
        obtain ⟨nq, hnq⟩ : ∃ q, 2 + 2 * j = q := ⟨_, rfl⟩
        obtain ⟨g6, c6, w6, hrun, hown6, hb6, hoth⟩ := int_append2 wr.drew wo.heap.size (2 + 2 * j) _ _ T1 T2 (World.ownsRow.drew HO4.out) (by have := HNS.out; omega) HB4.out.size
        have hop5 := World.ownsRow.drew HOP4.out
        have hop6 := (hoth _ _ _ _ _ _ hop5 (apart_type hop5 (World.ownsRow.drew HO4.out) (by decide))).1
        obtain ⟨_, _, e', _, _, hp6⟩ := pairs_of_row (l := pairsN s.map) (by rw [HNP.out]; exact hop6)
        rw [HNP.out] at e'
        injection e' with e6 e7 e8
        obtain ⟨g3, o3, e9, z0, z1⟩ := hp6 j t ht
        rw [← e6] at e9
        injection e9 with e9; injection e9 with e9 e10
        subst e9; subst e10
        rw [hT1] at z0; rw [hT2] at z1
        rw [hnq] at hrun hown6
        have HRUN := Lib.hid hrun; have HO6 := Lib.hid hown6; have HOP6 := Lib.hid hop6
        have HB6 := Lib.hid (show Below wo.heap.size wo w6 from (HB4.out.trans (show Below wo.heap.size wr wr.drew from (Below.refl _ _).drew)).trans hb6)
        have HT2 := Lib.hid (show (pairsN s.map).take (j + 1) = (pairsN s.map).take j ++ [t] by rw [List.take_add_one, ht]; rfl)
        have HTT := Lib.hid (And.intro hT1 hT2)
        have HNQ := Lib.hid hnq
        have y0' : wr.drew.cell? ⟨g2, o2 + j * 2, none⟩ = some (.int .i64 T1) := cell_stays ((Below.refl _ _).drew) y0
        have y1' : wr.drew.cell? ⟨g2, o2 + j * 2 + 1, none⟩ = some (.int .i64 T2) := cell_stays ((Below.refl _ _).drew) y1
        have HSM := Lib.hid (show (wr.alloc (.cells #[.int .i64 T1, .int .i64 T2] 3)).drew.cell? ⟨g2, o2 + j * 2, none⟩ = some (.int .i64 T1) ∧ (wr.alloc (.cells #[.int .i64 T1, .int .i64 T2] 3)).drew.cell? ⟨g2, o2 + j * 2 + 1, none⟩ = some (.int .i64 T2) from ⟨cell_stays ((Below.refl _ _).alloc (Nat.le_refl _) _).drew y0, cell_stays ((Below.refl _ _).alloc (Nat.le_refl _) _).drew y1⟩)
        have HSN := Lib.hid (And.intro z0 z1)
        clear hrun hown6 hb6 hoth hop5 hop6 ht hp hp6 z0 z1 hT1 hT2 hnq y0 y1 e6 e7 e8
        go_upto_region 12 with fail
        go_region_held3 (fun w' => w'.cell? ⟨g2, o2 + j * 2, none⟩ = some (.int .i64 T1) ∧ w'.cell? ⟨g2, o2 + j * 2 + 1, none⟩ = some (.int .i64 T2))
          (first | with_reducible exact ⟨y0', y1'⟩ | with_reducible exact HSM.out | with_reducible exact HSN.out)
          (refine step_append_run rfl _ _ _ rfl rfl rfl HRUN.out ?_)
        all_goals
          clear y0' y1'
          go_wp2_with fail
          go_roundw
          case rel => exact ⟨j + 1, by omega, by go_num, by rw [HT2.out, flatP_snoc, ← List.append_assoc, HTT.out.1, HTT.out.2, show 2 + 2 * (j + 1) = nq + 2 by have := HNQ.out; omega]; exact HO6.out, HOP6.out, HB6.out⟩
          case measure => first | exact meas_step hlt2 | (have hm := meas_step hlt2; rw [← hwj] at hm; exact hm)
end Go.Proofs.Ytpcmihgfcaelfaa
namespace Go.Proofs.Ytpcmihgfcaelfaa
open Go.RowKit

def volR : List Int → Option RvD
  | i :: s :: r => some (i, s, prsOf r)
  | _ => none
theorem volR_short {n : List Int} (h : n.length < 2) : volR n = none := by
  match n, h with
  | [], _ => rfl
  | [a], _ => rfl
  | a :: b :: r, h => simp only [List.length_cons] at h; omega
theorem volR_of {n : List Int} {v : RvD} (h : volL n = some v) : volR n = some v := by
  match n, h with
  | i :: s :: r, h =>
    change (if r.length % 2 = 0 ∧ riseB (prsOf r) = true then some (i, s, prsOf r) else none) = some v at h
    split at h
    · exact h
    · simp at h
/-- so many volumes, from a place on -/
def readR (s : List UInt8) : Nat → Int → Option (List RvD × Int)
  | 0, a => some ([], a)
  | n + 1, a => match takeI s a with
    | none => none
    | some x => match volR x.1 with
      | none => none
      | some v => (readR s n x.2).map fun y => (v :: y.1, y.2)
theorem readR_next {s : List UInt8} {k m : Nat} {c : Int} (h : k < m) : readR s (m - k) c = match takeI s c with
    | none => none
    | some x => match volR x.1 with
      | none => none
      | some v => (readR s (m - (k + 1)) x.2).map fun y => (v :: y.1, y.2) := by
  obtain ⟨d, hd⟩ : ∃ d, m - k = d + 1 := ⟨m - k - 1, by omega⟩
  rw [hd, show m - (k + 1) = d by omega]; rfl
theorem readR_step {s : List UInt8} {k m : Nat} {c : Int} {L : List RvD} {x : List Int × Int} {v : RvD} {t : Option (List RvD × Int)} (h : k < m) (hd : takeI s c = some x) (hv : volR x.1 = some v) (ht : t = (readR s (m - k) c).map fun y => (L ++ y.1, y.2)) : t = (readR s (m - (k + 1)) x.2).map fun y => ((L ++ [v]) ++ y.1, y.2) := by
  rw [ht, readR_next h, hd]
  simp only [hv, Option.map_map]
  congr 1
  funext y
  simp
theorem readR_no1 {s : List UInt8} {k m : Nat} {c : Int} {L : List RvD} {t : Option (List RvD × Int)} (h : k < m) (hd : takeI s c = none) (ht : t = (readR s (m - k) c).map fun y => (L ++ y.1, y.2)) : t = none := by
  rw [ht, readR_next h, hd]; rfl
theorem readR_no2 {s : List UInt8} {k m : Nat} {c : Int} {L : List RvD} {x : List Int × Int} {t : Option (List RvD × Int)} (h : k < m) (hd : takeI s c = some x) (hv : volR x.1 = none) (ht : t = (readR s (m - k) c).map fun y => (L ++ y.1, y.2)) : t = none := by
  rw [ht, readR_next h, hd]
  simp only [hv]; rfl
def readRQ (s : List UInt8) : Option (List RvD) := match takeD s 0 with
  | none => none
  | some x => if x.1 > 64 then none else (readR s x.1.toNat x.2).map Prod.fst
theorem readRQ_none {s : List UInt8} (h : takeD s 0 = none) : readRQ s = none := by unfold readRQ; rw [h]
theorem readRQ_many {s : List UInt8} {x : Int × Int} (h : takeD s 0 = some x) (h2 : 64 < x.1) : readRQ s = none := by unfold readRQ; rw [h]; simp only; rw [if_pos h2]
theorem readRQ_go {s : List UInt8} {x : Int × Int} (h : takeD s 0 = some x) (h2 : ¬ 64 < x.1) : readRQ s = (readR s x.1.toNat x.2).map Prod.fst := by unfold readRQ; rw [h]; simp only; rw [if_neg h2]
theorem readR_of {s : List UInt8} : ∀ (n : Nat) (a : Int) {y : List RvD × Int}, readG s n a = some y → readR s n a = some y
  | 0, a, y, h => h
  | n + 1, a, y, h => by
    rw [readG] at h
    rw [readR]
    cases hd : takeI s a with
    | none => rw [hd] at h; simp at h
    | some x =>
      rw [hd] at h
      simp only at h ⊢
      cases hv : volL x.1 with
      | none => rw [hv] at h; simp at h
      | some v =>
        rw [hv] at h
        rw [volR_of hv]
        simp only [Option.map_eq_some_iff] at h ⊢
        obtain ⟨u, hu, e⟩ := h
        exact ⟨u, readR_of n x.2 hu, e⟩
theorem readRQ_of {s : List UInt8} {L : List RvD} (h : readQ s = some L) : readRQ s = some L := by
  cases hd : takeD s 0 with
  | none => rw [readQ_none hd] at h; simp at h
  | some x =>
    by_cases h64 : 64 < x.1
    · rw [readQ_many hd h64] at h; simp at h
    · rw [readQ_go hd h64] at h
      rw [readRQ_go hd h64]
      cases hg : readG s x.1.toNat x.2 with
      | none => rw [hg] at h; simp at h
      | some y =>
        rw [hg] at h
        simp only at h
        split at h
        · simp only [Option.some.injEq] at h
          subst h
          rw [readR_of _ _ hg]; rfl
        · simp at h
theorem readR_few {s : List UInt8} : ∀ (n : Nat) (a : Int) {y : List RvD × Int}, readR s n a = some y → ∀ v ∈ y.1, v.2.2.length ≤ s.length
  | 0, a, y, h => by simp only [readR, Option.some.injEq] at h; subst h; intro v hv; simp at hv
  | n + 1, a, y, h => by
    rw [readR] at h
    cases hd : takeI s a with
    | none => rw [hd] at h; simp at h
    | some x =>
      rw [hd] at h
      simp only at h
      cases hv : volR x.1 with
      | none => rw [hv] at h; simp at h
      | some v =>
        rw [hv] at h
        simp only [Option.map_eq_some_iff] at h
        obtain ⟨u, hu, rfl⟩ := h
        intro q hq
        rw [List.mem_cons] at hq
        rcases hq with rfl | hq
        · have h1 := (takeI_bd hd).1
          obtain ⟨nums, b⟩ := x
          match nums, hv with
          | i :: s2 :: r, hv =>
            simp only [volR, Option.some.injEq] at hv
            subst hv
            simp only [List.length_cons] at h1
            simp only [prsOf_len]; omega
        · exact readR_few n x.2 hu q hq
theorem readRQ_few {s : List UInt8} {L : List RvD} (h : readRQ s = some L) : ∀ v ∈ L, v.2.2.length ≤ s.length := by
  cases hd : takeD s 0 with
  | none => rw [readRQ_none hd] at h; simp at h
  | some x =>
    by_cases h64 : 64 < x.1
    · rw [readRQ_many hd h64] at h; simp at h
    · rw [readRQ_go hd h64, Option.map_eq_some_iff] at h
      obtain ⟨y, hy, rfl⟩ := h
      exact readR_few _ _ hy
/-- both read the same -/
theorem read_same {s : List UInt8} {L : List RvD} {y : List VoD} (_h : readRQ s = some L) (hy : RvAll y L) (hm : mayVB y = true) (ht : textV y = s) (hs : SmallTrees y) : readQ s = some L := by
  have h1 := readQ_textV hm hs
  rw [ht, rvs_of hy] at h1
  exact h1
end Go.Proofs.Ytpcmihgfcaelfaa
namespace Go.Proofs.Ytpcmihgfcaelfaa
open Go.RowKit

theorem vol_append4 (W : World) (B n : Nat) (v : Value) (l : List VoD) (d : VoD) (a b c : Value) (hown : OwnVols W B v l) (hl : l.length = n) (hn : n ≤ 1000000) (hB : B ≤ W.heap.size) (h1 : i64B d.id) (h2 : i64B d.size) (h3 : NodeAt (mask (fun b => some b ≠ v.ownBlock) W) d.map a b c) :
    ∃ g cap w2, (Builtin.append_ #[22, 22] 22 #[v, .slice (some ⟨W.heap.size, 0, none⟩) 1 1]).run Try.prog (W.alloc (.cells #[.int .i64 d.id, .int .i64 d.size, a, b, c] 45)) = .ok (.slice (some ⟨g, 0, none⟩) (n + 1) cap) w2 ∧
      OwnVols w2 B (.slice (some ⟨g, 0, none⟩) (n + 1) cap) (l ++ [d]) ∧ Below B W w2 ∧ ∀ a u, W.cell? a = some u → some a.block ≠ v.ownBlock → w2.cell? a = some u := by
  obtain ⟨xs, hx0, hown, hx⟩ := hown
  obtain ⟨pa, na, ca, pb, nb, cb, pc, nc, cc, rfl, rfl, rfl⟩ := node_slices h3
  rw [hl] at hown
  obtain ⟨i0, hi0, hz0, hz1, hz2⟩ := info_parts infoV
  obtain ⟨v', w', r1, r2, r3, _, r5⟩ := run_append_own_at (P := Try.prog) (W.alloc (.cells #[.int .i64 d.id, .int .i64 d.size, .slice pa na ca, .slice pb nb cb, .slice pc nc cc] 45)) B 22 22 45 i0 _ 5 88 Try.underlying22 hi0 hz0 hz1 hz2 rfl (by decide) v n _ (hown.alloc _) ⟨W.heap.size, 0, none⟩ 1 1 [.int .i64 d.id, .int .i64 d.size, .slice pa na ca, .slice pb nb cb, .slice pc nc cc] rfl (by
      intro j u hu
      rw [ow_at, World.cell?_alloc_at _ _ _ _ rfl]
      rcases j with _ | _ | _ | _ | _ | j
      · exact hu
      · exact hu
      · exact hu
      · exact hu
      · exact hu
      · simp at hu) (by
      intro u hu; simp only [List.mem_cons, List.not_mem_nil, or_false] at hu
      rcases hu with rfl | rfl | rfl | rfl | rfl <;> rfl) (by unfold maxLen; omega) (by omega) (by simp; omega)
  obtain ⟨g, cap, rfl⟩ := ownsRow_succ r2
  have hk : Keeps (mask (fun b => some b ≠ v.ownBlock) W) (mask (fun b => some b ≠ (Value.slice (some ⟨g, 0, none⟩) (n + 1) cap).ownBlock) w') := mask_keeps fun a u hf hu => by
    have hlt := World.block_lt_of_cell? _ _ hu
    refine ⟨fun e => ?_, r3.cell (cell_stays ((Below.refl _ _).alloc (Nat.le_refl _) _) hu) hf⟩
    rcases r5 with r5 | r5
    · rw [r5] at e; exact hf e
    · rw [r5] at e; injection e with e; simp at e; omega
  refine ⟨g, cap, w', r1, ⟨xs ++ [(d, (.slice pa na ca, .slice pb nb cb, .slice pc nc cc))], by rw [List.map_append, hx0]; rfl, ?_, fun x hxm => ?_⟩, ow_grown (Below.refl _ _) hB hown r3, fun a u hu hf => r3.cell (cell_stays ((Below.refl _ _).alloc (Nat.le_refl _) _) hu) hf⟩
  · rw [List.length_append, hl, volRows_snoc]; exact r2
  · rw [List.mem_append, List.mem_singleton] at hxm
    rcases hxm with hxm | rfl
    · obtain ⟨i1, i2, i3⟩ := hx x hxm
      exact ⟨i1, i2, i3.keep hk⟩
    · exact ⟨h1, h2, h3.keep hk⟩
theorem wrap_fitR {a : Int} (h0 : 0 ≤ a) (h1 : a ≤ 1000000000) : wrap64 a = a := by unfold wrap64; omega
theorem wrap_iw {q q1 : Nat} (h : q + 1 = q1) (h2 : q ≤ 100000) : IntKind.i64.wrap ((q : Int) + 1) = (q1 : Int) := by rw [IntKind.wrap_i64]; omega
theorem ba_toList (s : ByteArray) : s.toList = s.data.toList := by cases s; exact ByteArray.toList_mk _
theorem pairs_empty {w : World} {B : Nat} (hB : B ≤ w.heap.size) : (w.alloc (.cells #[] 66)).ownsRow B 66 2 (.slice (some ⟨w.heap.size, 0, none⟩) 0 0) 0 (pairRows []).flatten := by
  have := World.ownsRow_made w #[] 0 (base := B) (e := 66) (size := 2) hB (by unfold maxLen; omega) rfl
  simpa [pairRows] using this
def RreadPost (s : ByteArray) (w : World) (e : Ending) (w' : World) : Prop := Below w.heap.size w w' ∧ match readRQ s.data.toList with
  | none => e = .returned (.tuple #[.slice none 0 0, .bool false])
  | some L => ∃ x, RvAll x L ∧ ((mayVB x = true ∧ textV x = s.data.toList ∧ ∃ v, e = .returned (.tuple #[v, .bool true]) ∧ VolsAt w' v x) ∨ (¬ (mayVB x = true ∧ textV x = s.data.toList) ∧ e = .returned (.tuple #[.slice none 0 0, .bool false])))
theorem RreadPost.no {s : ByteArray} {w w' : World} (h : readRQ s.data.toList = none) (hb : Below w.heap.size w w') : RreadPost s w (.returned (.tuple #[.slice none 0 0, .bool false])) w' := by
  unfold RreadPost; rw [h]; exact ⟨hb, rfl⟩
theorem RreadPost.out {s : ByteArray} {w w' : World} {L : List RvD} {x : List VoD} (h : readRQ s.data.toList = some L) (hx : RvAll x L) (hm : ¬ (mayVB x = true ∧ textV x = s.data.toList)) (hb : Below w.heap.size w w') : RreadPost s w (.returned (.tuple #[.slice none 0 0, .bool false])) w' := by
  unfold RreadPost; rw [h]; exact ⟨hb, x, hx, .inr ⟨hm, rfl⟩⟩
theorem RreadPost.yes {s : ByteArray} {w w' : World} {L : List RvD} {x : List VoD} {v : Value} (h : readRQ s.data.toList = some L) (hx : RvAll x L) (hm : mayVB x = true) (ht : textV x = s.data.toList) (hv : VolsAt w' v x) (hb : Below w.heap.size w w') : RreadPost s w (.returned (.tuple #[v, .bool true])) w' := by
  unfold RreadPost; rw [h]; exact ⟨hb, x, hx, .inl ⟨hm, ht, v, rfl, hv⟩⟩
def RrRel (s : ByteArray) (w : World) (m : Nat) (b : Int) (v a i : Value) (wr : World) : Prop :=
  ∃ (k : Nat) (c : Int) (x : List VoD) (L : List RvD), k ≤ m ∧ i = .int .i64 k ∧ a = .int .i64 c ∧ OwnVols wr w.heap.size v x ∧ x.length = k ∧ RvAll x L ∧ readR s.data.toList m b = (readR s.data.toList (m - k) c).map (fun y => (L ++ y.1, y.2)) ∧ Below w.heap.size w wr
def RpRel (w3 : World) (r : List Int) (v i : Value) (wr : World) : Prop :=
  ∃ j : Nat, 2 * j ≤ r.length ∧ i = .int .i64 ((2 * j + 2 : Nat) : Int) ∧ wr.ownsRow w3.heap.size 66 2 v j (pairRows ((prsOf r).take j)).flatten ∧ Below w3.heap.size w3 wr
set_option maxRecDepth 100000 in
set_option maxHeartbeats 4000000 in
theorem rRead_any (s : ByteArray) (hs : s.size ≤ 2000) (w : World) : Calls Try.prog 11 #[.string s] w (RreadPost s w) := by
  have hlen : s.data.toList.length = s.size := by simp
  have HC := Lib.hid (fun (b : Int) (w : World) => takeR_any s (by unfold maxLen; omega) b w)
  have HCI := Lib.hid (fun (b : Int) (w : World) => takeIR_any s (by omega) b w)
  have HSL := Lib.hid (And.intro hlen hs)
  clear hlen hs
  cases hd : takeD s.data.toList 0 with
  | none =>
    have HF := Lib.hid (readRQ_none hd)
    have HR := Lib.hid (takeR_none hd)
    clear hd
    go_enter Try.func11, Try.ntmps11
    go_wp2_with (go_at_call 34; (with_reducible refine (HC.out _ _).mono ?_); rintro e w' ⟨rfl, hb⟩; rw [HR.out])
    refine take_ret (RreadPost.no HF.out hb) ?_
    simp [results, Try.results11, go_sem]
  | some x =>
    obtain ⟨m0, b0⟩ := x
    have hbd := takeD_bd hd
    have HR := Lib.hid (takeR_some hd)
    simp only at hbd
    obtain ⟨m, rfl⟩ : ∃ m : Nat, m0 = m := ⟨m0.toNat, by omega⟩
    by_cases h64 : (64 : Int) < (m : Int)
    · have HF := Lib.hid (readRQ_many hd h64)
      clear hd hbd
      go_enter Try.func11, Try.ntmps11
      go_wp2_with (go_at_call 34; (with_reducible refine (HC.out _ _).mono ?_); rintro e w' ⟨rfl, hb⟩; rw [HR.out])
      refine take_ret (RreadPost.no HF.out hb) ?_
      simp [results, Try.results11, go_sem]
    have HF := Lib.hid (readRQ_go hd h64)
    have H64 := Lib.hid (show m ≤ 64 by omega)
    clear hd hbd
    go_enter Try.func11, Try.ntmps11
    go_wp2_with (go_at_call 34; (with_reducible refine (HC.out _ _).mono ?_); rintro e w1 ⟨rfl, hb⟩; rw [HR.out]; have HB1 := Lib.hid hb; clear hb)
    clear h64
    go_loopw [7, 5, 8] (fun v a i wr => RrRel s w m b0 v a i wr) (fun _ _ i _ => m - (intOf i).toNat)
    case atStart =>
      refine ⟨0, b0, [], [], Nat.zero_le _, rfl, rfl, ?_, rfl, RvAll.nil, by simp, HB1.out.alloc HB1.out.size _⟩
      exact OwnVols.nil HB1.out.size
    case round =>
      obtain ⟨k, c, x, L, hk, rfl, rfl, hown, hxl, hrv, hrd, hb⟩ := hrel
      have HO := Lib.hid hown; have HX := Lib.hid hxl; have HRV := Lib.hid hrv; have HRD := Lib.hid hrd; have HB := Lib.hid hb
      clear hown hxl hrv hrd hb HB1
      by_cases hlt : k < m
      case neg =>
        obtain rfl : k = m := by omega
        have hmm : decide ((k : Int) < (k : Int)) = false := by simp
        have HQ := Lib.hid (show readRQ s.data.toList = some L by
          rw [HF.out]; simp only [Int.toNat_natCast]
          rw [HRD.out, Nat.sub_self]
          simp only [readR, Option.map_some, List.append_nil])
        have HSM := Lib.hid (HRV.out.small (fun v hv => by have := readRQ_few HQ.out v hv; have := HSL.out; omega))
        obtain ⟨pv, cv, hv, _⟩ := HO.out.at
        subst hv
        rw [HX.out]
        rw [HX.out] at HO
        go_wp2_with fail
        refine (rmay18_any x _ _ HO.out.at HSM.out).mono ?_
        rintro e w3 ⟨rfl, hb⟩
        have HB3 := Lib.hid (btrans HB.out hb); have HV3 := Lib.hid (HO.out.at.keep (keeps_below hb))
        clear hb
        cases hm : mayVB x with
        | false =>
          have HM := Lib.hid hm; clear hm
          go_wp2_with fail
          refine take_ret (RreadPost.out HQ.out HRV.out (fun h => by rw [HM.out] at h; exact absurd h.1 (by simp)) HB3.out) ?_
          simp [results, Try.results11, go_sem]
        | true =>
          have HM := Lib.hid hm; clear hm
          go_wp2_with fail
          refine (rText_any x _ _ HV3.out HSM.out).mono ?_
          rintro e w4 ⟨rfl, hb⟩
          have HB4 := Lib.hid (btrans HB3.out hb); have HV4 := Lib.hid (HV3.out.keep (keeps_below hb))
          clear hb
          obtain ⟨S, hS⟩ : ∃ S : ByteArray, ⟨(textV x).toArray⟩ = S := ⟨_, rfl⟩
          rw [hS]
          have HTS := Lib.hid (show textV x = S.data.toList by rw [← hS])
          by_cases he : S.data.toList = s.data.toList
          · have hss : S = s := by
              apply ByteArray.ext; apply Array.ext'; exact he
            subst hss
            clear he hS
            go_wp2_with fail
            refine take_ret (RreadPost.yes HQ.out HRV.out HM.out HTS.out HV4.out HB4.out) ?_
            simp [results, Try.results11, go_sem]
          · have hne : (S.toList == s.toList) = false := by
              rw [beq_eq_false_iff_ne]; intro h; exact he (by rw [← ba_toList S, ← ba_toList s, h])
            have HNE := Lib.hid (show ¬ (mayVB x = true ∧ textV x = s.data.toList) from fun h => he (by rw [← HTS.out]; exact h.2))
            clear he hS
            go_wp2_with fail
            refine take_ret (RreadPost.out HQ.out HRV.out HNE.out HB4.out) ?_
            simp [results, Try.results11, go_sem]
      case pos =>
        have hki : (k : Int) < (m : Int) := by omega
        have hwk : wrap64 ((k : Int) + 1) = (k : Int) + 1 := wrap_le1 hk (show m ≤ 1000000 by have := H64.out; omega)
        have HLT := Lib.hid hlt; have HWK := Lib.hid hwk
        cases ht : takeI s.data.toList c with
        | none =>
          have HQ := Lib.hid (show readRQ s.data.toList = none by rw [HF.out]; simp only [Int.toNat_natCast]; rw [readR_no1 hlt ht HRD.out]; rfl)
          have HT := Lib.hid ht
          clear ht
          go_wp2_with (go_at_call 35; (with_reducible refine (HCI.out _ _).mono ?_); intro e w3 he; unfold TakeIEnd at he; rw [HT.out] at he; obtain ⟨rfl, hb⟩ := he)
          refine take_ret (RreadPost.no HQ.out (btrans HB.out hb)) ?_
          simp [results, Try.results11, go_sem]
        | some y =>
          have HT := Lib.hid ht
          obtain ⟨t1, t2⟩ := takeI_bd ht
          rw [HSL.out.1] at t1
          obtain ⟨nums, b2⟩ := y
          simp only at t1 t2
          have HNI := Lib.hid (show ∀ x ∈ nums, i64B x from fun x hx => by have := t2 x hx; unfold i64B; omega)
          obtain ⟨nn, hnn⟩ : ∃ q, nums.length = q := ⟨_, rfl⟩
          rw [hnn] at t1
          have HNN := Lib.hid hnn
          have hn2 : nn ≤ 2000 := Nat.le_trans t1 HSL.out.2
          have hnc : (nn : Int) ≤ 9223372036854775807 := by omega
          clear ht t1 t2 hnn
          go_upto_region 9 with (go_at_call 35; (with_reducible refine (HCI.out _ _).mono ?_); intro e w3 he; unfold TakeIEnd at he; rw [HT.out] at he; obtain ⟨nv, rfl, hni, hb⟩ := he; rw [HNN.out] at hni; obtain ⟨pq, cq, rfl⟩ : ∃ p c, nv = .slice p nn c := (by rcases ow_slice hni with ⟨h, h2, _⟩ | ⟨g, c, h⟩; exact ⟨none, 0, by rw [h, h2]⟩; exact ⟨_, c, h⟩))
          have HOW := Lib.hid hni
          have HIA := Lib.hid (show IntsAt w3 (.slice pq nn cq) nums from ints_of_row HNI.out (by rw [HNN.out]; exact hni))
          have HB3 := Lib.hid (btrans HB.out hb); have HO3 := Lib.hid (HO.out.below hb); have HBT := Lib.hid hb
          clear hni hb
          by_cases h2 : (nn : Int) < 2
          · have HQ := Lib.hid (show readRQ s.data.toList = none by rw [HF.out]; simp only [Int.toNat_natCast]; rw [readR_no2 hlt HT.out (volR_short (by rw [HNN.out]; omega)) HRD.out]; rfl)
            go_wp2_with fail
            refine take_ret (RreadPost.no HQ.out HB3.out) ?_
            simp [results, Try.results11, go_sem]
          obtain ⟨vi, vs, r, rfl⟩ : ∃ i s r, nums = i :: s :: r := by
            match nums, HNN.out with
            | [], h => simp at h; omega
            | [a], h => simp at h; omega
            | a :: b :: r, _ => exact ⟨a, b, r, rfl⟩
          have HRL := Lib.hid (show nn = r.length + 2 by have := HNN.out; simp only [List.length_cons] at this; omega)
          obtain ⟨pp, cp, ee, a1, a2, ha⟩ := HIA.out
          injection ee with ee1 ee2 ee3
          subst ee1; subst ee3
          obtain ⟨_, g, o, rfl, c0⟩ := ha 0 vi rfl
          obtain ⟨_, _, _, e, c1⟩ := ha 1 vs rfl
          cases e
          rw [Nat.add_zero] at c0
          have HAI := Lib.hid ha
          have HC01 := Lib.hid (And.intro c0 c1)
          have HGB := Lib.hid (show wr.heap.size ≤ g ∧ g < w3.heap.size from HOW.out.lt g rfl)
          have HN2 := Lib.hid hn2
          have HVB := Lib.hid (fun kk hkk => Nat.lt_of_lt_of_le (ov_lt HO.out kk hkk) HGB.out.1)
          clear ha c0 c1 a1 a2 ee2 hwk hn2
          go_wp2_with fail
          clear h2
          go_loopw [12, 13] (fun v i wq => RpRel w3 r v i wq) (fun _ i _ => nn - (intOf i).toNat)
          case atStart => exact ⟨0, Nat.zero_le _, rfl, by rw [List.take_zero]; exact pairs_empty (Nat.le_refl _), (Below.refl _ _).alloc (Nat.le_refl _) _⟩
          case round =>
            obtain ⟨j, hj, rfl, hown, hb⟩ := hrel
            obtain ⟨pv, nv, cv, rfl⟩ := own_shape hown
            have HOP := Lib.hid hown; have HBQ := Lib.hid hb
            clear hown hb
            obtain ⟨q, hq⟩ : ∃ q, 2 * j + 2 = q := ⟨_, rfl⟩
            obtain ⟨q1, hq1⟩ : ∃ q1, q + 1 = q1 := ⟨_, rfl⟩
            rw [hq]
            have hwq : wrap64 ((q : Int) + 1) = (q1 : Int) := by
              rw [← hq1]
              exact wrap_le1 (show q ≤ 10000 by have := HRL.out; have := HN2.out; omega) (by omega)
            by_cases hlt2 : q1 < nn
            case neg =>
              have hnlt : ¬ (q1 : Int) < (nn : Int) := by omega
              have hk2 : (prsOf r).length = j := by rw [prsOf_len]; have := HRL.out; omega
              have hT : (prsOf r).take j = prsOf r := List.take_of_length_le (by rw [hk2]; exact Nat.le_refl _)
              have HP7 := Lib.hid (show PairsAt wr.drew (.slice pv nv cv) (prsOf r) from (pairs_of_row (by have := HOP.out; rw [hT] at this; rw [hk2]; exact this)).keep (keeps_below (Below.refl _ _).drew))
              have HPB := Lib.hid (show PBd (prsOf r) from prsOf_bd r fun x hx => HNI.out x (by simp [hx]))
              have HPN := Lib.hid (show (prsOf r).length ≤ 900000 by rw [hk2]; have := HRL.out; have := HN2.out; omega)
              have hbr : Below w3.heap.size w3 wr.drew := HBQ.out.trans (show Below w3.heap.size wr wr.drew from (Below.refl _ _).drew)
              have r0 : wr.drew.cell? ⟨g, o, none⟩ = some (.int .i64 vi) := cell_stays hbr HC01.out.1
              have r1 : wr.drew.cell? ⟨g, o + 1, none⟩ = some (.int .i64 vs) := cell_stays hbr HC01.out.2
              have HBR := Lib.hid hbr
              have HVC := Lib.hid (show readR s.data.toList m b0 = (readR s.data.toList (m - (k + 1)) b2).map fun y => ((L ++ [(vi, vs, prsOf r)]) ++ y.1, y.2) from readR_step HLT.out HT.out rfl HRD.out)
              have z0 : (0 : Int) < (nn : Int) := by have := HRL.out; omega
              have z1 : (1 : Int) < (nn : Int) := by have := HRL.out; omega
              have z2 : 0 < nn := by have := HRL.out; omega
              have z3 : 1 < nn := by have := HRL.out; omega
              have HIB := Lib.hid (And.intro (HNI.out vi (by simp)) (HNI.out vs (by simp)))
              clear hk2 hT hq hq1 hlt2 hbr
              go_upto_region 16 with fail
              clear hwq hnlt
              go_region_held3 (fun w' => w'.cell? ⟨g, o, none⟩ = some (.int .i64 vi) ∧ w'.cell? ⟨g, o + 1, none⟩ = some (.int .i64 vs))
                (first | with_reducible exact ⟨r0, r1⟩ | with_reducible exact HSA.out | with_reducible exact HSB.out | with_reducible exact HSC.out)
                (first | ((with_reducible refine (rof_any (prsOf r) _ _ HP7.out HPN.out HPB.out).mono ?_); rintro e w7 ⟨t, a, b, c5, rfl, hg, hnd, hb⟩; obtain ⟨qa, na, ca, qb, nb, cb, qc, nc, cc, rfl, rfl, rfl⟩ := node_slices hnd; have HSA := Lib.hid (And.intro (cell_stays hb r0) (cell_stays hb r1)); have HB7 := Lib.hid (HBR.out.trans (below_low hb HBR.out.size)); obtain ⟨g6, c6, w8, hrun, hown6, hb6, hkeep⟩ := vol_append4 w7 w.heap.size k _ x ⟨vi, vs, t⟩ _ _ _ (HO3.out.below HB7.out) HX.out (by have := H64.out; omega) (Nat.le_trans HB3.out.size HB7.out.size) HIB.out.1 HIB.out.2 (hnd.keep (mask_keeps fun _ _ hf hv => ⟨fun e => by have h1 := HVB.out _ e.symm; have h2 := hf.1; have h3 := HGB.out.2; have h4 := HBR.out.size; omega, hv⟩)); have HSB := Lib.hid (And.intro (cell_stays ((Below.refl w7.heap.size w7).alloc (Nat.le_refl _) (.cells #[.int .i64 vi, .int .i64 vs, .slice qa na ca, .slice qb nb cb, .slice qc nc cc] 45)) HSA.out.1) (cell_stays ((Below.refl w7.heap.size w7).alloc (Nat.le_refl _) (.cells #[.int .i64 vi, .int .i64 vs, .slice qa na ca, .slice qb nb cb, .slice qc nc cc] 45)) HSA.out.2)); have HSC := Lib.hid (And.intro (hkeep _ _ HSA.out.1 (fun e => by have h1 := HVB.out _ e.symm; simp only at h1; omega)) (hkeep _ _ HSA.out.2 (fun e => by have h1 := HVB.out _ e.symm; simp only at h1; omega))); have HRUN := Lib.hid hrun; have HO6 := Lib.hid hown6; have HB6 := Lib.hid ((HB3.out.trans (below_low HB7.out HB3.out.size)).trans hb6); have HG := Lib.hid hg; clear hrun hown6 hb6 hkeep hg hnd hb) | (refine step_append_run rfl _ _ _ rfl rfl rfl HRUN.out ?_))
              have hwk := HWK.out
              clear r0 r1 z0 z1 z2 z3
              go_wp2_with fail
              go_roundw
              case rel => exact ⟨k + 1, b2, _, _, by omega, by go_num, rfl, HO6.out, by rw [List.length_append, HX.out]; rfl, HRV.out.snoc ⟨rfl, rfl, HG.out⟩, HVC.out, HB6.out⟩
              case measure => first | exact meas_step hlt | (have hm := meas_step hlt; rw [← hwk] at hm; exact hm)
            case pos =>
              have hqi : (q : Int) < (nn : Int) := by omega
              have hq1i : (q1 : Int) < (nn : Int) := by omega
              obtain ⟨x', hx⟩ : ∃ x, r[2 * j]? = some x := ⟨_, List.getElem?_eq_getElem (by have := HRL.out; omega)⟩
              obtain ⟨y', hy⟩ : ∃ y, r[2 * j + 1]? = some y := ⟨_, List.getElem?_eq_getElem (by have := HRL.out; omega)⟩
              have HS := Lib.hid (prsOf_get r j x' y' hx hy)
              obtain ⟨_, g', o', e, d2⟩ := HAI.out (2 * j + 2) x' (by rw [List.getElem?_cons_succ, List.getElem?_cons_succ]; exact hx)
              cases e
              obtain ⟨_, g', o', e, d3⟩ := HAI.out (2 * j + 1 + 2) y' (by rw [List.getElem?_cons_succ, List.getElem?_cons_succ]; exact hy)
              cases e
              rw [hq] at d2
              rw [show 2 * j + 1 + 2 = q1 by omega] at d3
              have hbd : Below w3.heap.size w3 wr.drew := HBQ.out.trans (show Below w3.heap.size wr wr.drew from (Below.refl _ _).drew)
              have r0' : wr.drew.cell? ⟨g, o + q, none⟩ = some (.int .i64 x') := cell_stays hbd d2
              have r1' : wr.drew.cell? ⟨g, o + q1, none⟩ = some (.int .i64 y') := cell_stays hbd d3
              have e1 := wrap_iw hq1 (show q ≤ 100000 by have := HRL.out; have := HN2.out; omega)
              have HQ1 := Lib.hid (And.intro hq hq1)
              have HKN := Lib.hid (show 2 * (j + 1) ≤ r.length by have := HRL.out; omega)
              have HST := Lib.hid (show wrap64 ((q : Int) + 2) = ((2 * (j + 1) + 2 : Nat) : Int) from by rw [wrap_fitR (by omega) (by have := HN2.out; omega)]; omega)
              obtain ⟨g3, c3, w6, hra, hown3, hb3⟩ := pair_append wr.drew w3.heap.size j _ ((prsOf r).take j) x' y' (World.ownsRow.drew HOP.out) (by have := HKN.out; have := HRL.out; have := HN2.out; omega) HBQ.out.size
              have HRA := Lib.hid hra
              have HO3' := Lib.hid (show w6.ownsRow w3.heap.size 66 2 (.slice (some ⟨g3, 0, none⟩) (j + 1) c3) (j + 1) (pairRows ((prsOf r).take (j + 1))).flatten by
                obtain ⟨hk9, hs9⟩ := List.getElem?_eq_some_iff.1 HS.out
                rw [List.take_succ_eq_append_getElem hk9, hs9]; exact hown3)
              have HB6 := Lib.hid (show Below w3.heap.size w3 w6 from hbd.trans hb3)
              have HSM := Lib.hid (show (wr.alloc (.cells #[.int .i64 x', .int .i64 y'] 66)).drew.cell? ⟨g, o + q, none⟩ = some (.int .i64 x') ∧ (wr.alloc (.cells #[.int .i64 x', .int .i64 y'] 66)).drew.cell? ⟨g, o + q1, none⟩ = some (.int .i64 y') from ⟨cell_stays ((Below.refl _ _).alloc (Nat.le_refl _) _).drew (show wr.cell? ⟨g, o + q, none⟩ = _ from r0'), cell_stays ((Below.refl _ _).alloc (Nat.le_refl _) _).drew (show wr.cell? ⟨g, o + q1, none⟩ = _ from r1')⟩)
              have HSN := Lib.hid (And.intro (cell_stays HB6.out d2) (cell_stays HB6.out d3))
              have HQN := Lib.hid (show q < nn by omega)
              clear hra hown3 hb3 hx hy d2 d3 hbd hq hq1 hj hlt2
              go_upto_region 15 with fail
              go_region_held3 (fun w' => w'.cell? ⟨g, o + q, none⟩ = some (.int .i64 x') ∧ w'.cell? ⟨g, o + q1, none⟩ = some (.int .i64 y'))
                (first | with_reducible exact ⟨r0', r1'⟩ | with_reducible exact HSM.out | with_reducible exact HSN.out)
                (refine step_append_run rfl _ _ _ rfl rfl rfl HRA.out ?_)
              all_goals
                have hst := HST.out
                go_wp2_with fail
                go_roundw
                case rel => exact ⟨j + 1, HKN.out, by go_num, HO3'.out, HB6.out⟩
                case measure => have hm := meas_two HQ1.out.1 HQN.out; first | exact hm | (rw [← hst] at hm; exact hm)
end Go.Proofs.Ytpcmihgfcaelfaa
