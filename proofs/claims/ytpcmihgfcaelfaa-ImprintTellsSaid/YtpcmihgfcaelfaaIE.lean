/- Volumes as plain data: which may be, what is found, put, left out, counted, cut. No program in sight. · The walk of the reference's Right (layer 18). · The walks of the reference's Alike and Same (layer 18). · The walks of the reference's Find and Small (layer 18). · The walk of the reference's May (layer 18). · A world seen through some of its blocks; rows of volumes of the call's own. -/
import Derived.Test.YtpcmihgfcaelfaaID
namespace Go.Proofs.Ytpcmihgfcaelfaa
open Go.RowKit

def pairOk (size : Int) (x : PairD) : Bool := ofB x.2 && decide (0 ≤ x.1 ∧ x.1 < size)
def rightN (d : VoD) : Bool := decide (1 ≤ d.id ∧ d.id ≤ 1000 ∧ 0 ≤ d.size ∧ d.size ≤ 100000) && mayN d.map && (pairsN d.map).all (pairOk d.size)
/-- the numbers rise -/
def Rising (l : List VoD) : Prop := ∀ i x y, l[i]? = some x → l[i + 1]? = some y → x.id < y.id
/-- the box of a volume -/
def VBox (g : Nat) (a b x y z : Value) (w : World) : Prop := w.cell? ⟨g, 0, none⟩ = some a ∧ w.cell? ⟨g, 1, none⟩ = some b ∧ w.cell? ⟨g, 2, none⟩ = some x ∧ w.cell? ⟨g, 3, none⟩ = some y ∧ w.cell? ⟨g, 4, none⟩ = some z
theorem VBox.below {g : Nat} {a b x y z : Value} {w w' : World} (h : VBox g a b x y z w) (hb : Below w.heap.size w w') : VBox g a b x y z w' :=
  ⟨cell_stays hb h.1, cell_stays hb h.2.1, cell_stays hb h.2.2.1, cell_stays hb h.2.2.2.1, cell_stays hb h.2.2.2.2⟩
def SmallTree (t : NodeD) : Prop := (pairsN t).length ≤ 2000
theorem pairOk_no {d : VoD} {x : PairD} {i : Nat} (h : (pairsN d.map)[i]? = some x) (hx : pairOk d.size x = false) : rightN d = false := by
  unfold rightN
  rw [show (pairsN d.map).all (pairOk d.size) = false from List.all_eq_false.2 ⟨x, List.mem_of_getElem? h, by rw [hx]; simp⟩, Bool.and_false]
end Go.Proofs.Ytpcmihgfcaelfaa
namespace Go.Proofs.Ytpcmihgfcaelfaa
open Go.RowKit

set_option maxRecDepth 100000 in
set_option maxHeartbeats 4000000 in
theorem rright_any (d : VoD) (v : Value) (w : World) (hv : VolV w v d) (hlen : SmallTree d.map) : Calls Try.prog 52 #[v] w fun e w' => e = .returned (.bool (rightN d)) ∧ Below w.heap.size w w' := by
  obtain ⟨a, b, c, rfl, hi, hsz, hn⟩ := hv
  have hbx : Below w.heap.size w (w.alloc (.cells #[.int .i64 d.id, .int .i64 d.size, a, b, c] 45)) := (Below.refl _ _).alloc (Nat.le_refl _) _
  have HN := Lib.hid (hn.keep (keeps_below hbx)); have HB := Lib.hid hbx; have HLEN := Lib.hid hlen
  have HPB := Lib.hid (pairsN_bd _ hn)
  obtain ⟨⟨pa, ca, rfl, _, _, _⟩, ⟨pb, cb, rfl, _, _, _⟩, ⟨pc, cc, rfl, _, _, _⟩⟩ := nodeAt_iff.1 hn
  obtain ⟨KA, hKA⟩ : ∃ K, d.map.keys.length = K := ⟨_, rfl⟩
  obtain ⟨KB, hKB⟩ : ∃ K, d.map.vals.length = K := ⟨_, rfl⟩
  obtain ⟨KC, hKC⟩ : ∃ K, d.map.kids.length = K := ⟨_, rfl⟩
  rw [hKA, hKB, hKC] at HN HB ⊢
  clear hn hbx hlen hi hsz hKA hKB hKC
  obtain ⟨I, hI⟩ : ∃ I, d.id = I := ⟨_, rfl⟩
  obtain ⟨S, hS⟩ : ∃ S, d.size = S := ⟨_, rfl⟩
  have HR0 := Lib.hid (show rightN d = (decide (1 ≤ I ∧ I ≤ 1000 ∧ 0 ≤ S ∧ S ≤ 100000) && mayN d.map && (pairsN d.map).all (pairOk S)) by unfold rightN; rw [hI, hS])
  have HSE := Lib.hid hS
  rw [hI, hS] at HN HB ⊢
  clear hI hS
  by_cases hA : 1 ≤ I ∧ I ≤ 1000 ∧ 0 ≤ S ∧ S ≤ 100000
  case neg =>
    have HF := Lib.hid (show rightN d = false by rw [HR0.out, decide_eq_false hA]; simp)
    have hc : (decide (I < 1) = true) ∨ (decide (I < 1) = false ∧ decide (1000 < I) = true) ∨ (decide (I < 1) = false ∧ decide (1000 < I) = false ∧ decide (S < 0) = true) ∨ (decide (I < 1) = false ∧ decide (1000 < I) = false ∧ decide (S < 0) = false ∧ decide (100000 < S) = true) := by
      simp only [decide_eq_true_eq, decide_eq_false_iff_not]; omega
    clear hA
    rcases hc with h1 | ⟨h1, h2⟩ | ⟨h1, h2, h3⟩ | ⟨h1, h2, h3, h4⟩
    all_goals
      go_enter Try.func52, Try.ntmps52
      go_wp2_with fail
      go_ret
      exact ⟨retB HF.out.symm, HB.out⟩
  have HR1 := Lib.hid (show rightN d = (mayN d.map && (pairsN d.map).all (pairOk S)) by rw [HR0.out, decide_eq_true hA]; simp)
  have h1 : decide (I < 1) = false := by simp only [decide_eq_false_iff_not]; omega
  have h2 : decide (1000 < I) = false := by simp only [decide_eq_false_iff_not]; omega
  have h3 : decide (S < 0) = false := by simp only [decide_eq_false_iff_not]; omega
  have h4 : decide (100000 < S) = false := by simp only [decide_eq_false_iff_not]; omega
  have HA := Lib.hid hA
  clear hA HR0
  go_enter Try.func52, Try.ntmps52
  go_wp2_with fail
  refine (rmay16_any d.map _ _ _ _ HN.out (by have := HLEN.out; unfold SmallTree at this; omega)).mono ?_
  rintro e w1 ⟨rfl, hb⟩
  have HB1 := Lib.hid (btrans HB.out hb)
  have HN1 := Lib.hid (HN.out.keep (keeps_below hb))
  have HX1 := Lib.hid (show VBox w.heap.size (.int .i64 I) (.int .i64 S) (.slice pa KA ca) (.slice pb KB cb) (.slice pc KC cc) w1 from VBox.below ⟨by simp, by simp, by simp, by simp, by simp⟩ hb)
  clear hb h1 h2 h3 h4
  obtain ⟨q0, q1, q2, q3, q4⟩ := HX1.out
  have hlx := World.block_lt_of_cell? _ _ q0
  cases hm : mayN d.map with
  | false =>
    have HF := Lib.hid (show rightN d = false by rw [HR1.out, hm]; simp)
    clear hm
    go_wp2_with fail
    go_ret
    exact ⟨retB HF.out.symm, HB1.out⟩
  | true =>
    have HR2 := Lib.hid (show rightN d = (pairsN d.map).all (pairOk S) by rw [HR1.out, hm]; simp)
    clear hm
    go_wp2_with fail
    refine (rpairs_any d.map _ _ _ _ HN1.out (by have := HLEN.out; unfold SmallTree at this; omega)).mono ?_
    rintro e w2 ⟨v2, rfl, hrow, hb⟩
    obtain ⟨p, cp, rfl, _, hcm, hcs⟩ := pairs_of_row hrow
    have HB2 := Lib.hid (btrans HB1.out hb)
    have HX2 := Lib.hid (HX1.out.below hb)
    have HCS := Lib.hid hcs
    have hll := HLEN.out; unfold SmallTree at hll
    obtain ⟨l, hl⟩ : ∃ l, pairsN d.map = l := ⟨_, rfl⟩
    have HPE := Lib.hid hl
    rw [hl] at HCS HR2 HPB hll ⊢
    obtain ⟨N, hN⟩ : ∃ N, l.length = N := ⟨_, rfl⟩
    rw [hN] at hll ⊢
    have HNL := Lib.hid hN
    clear hb hrow hcs hl hN q0 q1 q2 q3 q4 hlx hcm
    go_wp2_with fail
    go_loopw [4] (fun i wr => ∃ k : Nat, k ≤ N ∧ i = .int .i64 k ∧ (∀ (j : Nat) x, j < k → l[j]? = some x → pairOk S x = true) ∧ Below w2.heap.size w2 wr) (fun i _ => N - (intOf i).toNat)
    case atStart => exact ⟨0, Nat.zero_le _, rfl, fun j x hj => by omega, Below.refl _ _⟩
    case round =>
      obtain ⟨k, hk, rfl, hall, hb⟩ := hrel
      have HAL := Lib.hid hall; have HBR := Lib.hid hb
      clear hall hb
      by_cases hlt : k < N
      case neg =>
        obtain rfl : k = N := by omega
        have HF := Lib.hid (show rightN d = true by
          rw [HR2.out, List.all_eq_true]
          intro x hx
          obtain ⟨j, hj⟩ := List.mem_iff_getElem?.1 hx
          exact HAL.out j x (by have := (List.getElem?_eq_some_iff.1 hj).1; have := HNL.out; omega) hj)
        go_wp2_with fail
        go_ret
        exact ⟨retB HF.out.symm, btrans HB2.out HBR.out⟩
      have hki : (k : Int) < (N : Int) := by omega
      obtain ⟨x, hx⟩ : ∃ x, l[k]? = some x := ⟨_, List.getElem?_eq_getElem (by rw [HNL.out]; omega)⟩
      obtain ⟨g, o, rfl, x1, x2⟩ := HCS.out k x hx
      have r1 := cell_stays HBR.out x1; have r2 := cell_stays HBR.out x2
      have hxb := (HPB.out x (List.mem_of_getElem? hx)).2
      have HX := Lib.hid hx; have HY1 := Lib.hid r1; have HXB := Lib.hid hxb
      have HXR := Lib.hid (HX2.out.below HBR.out)
      clear hx x1 x2 r1 hxb
      obtain ⟨y1, y2⟩ := x
      simp only at r2
      go_wp2_with fail
      refine (rrefof_any y2 HXB.out.1 HXB.out.2 _).mono ?_
      rintro e w3 ⟨rfl, hb⟩
      have HB3 := Lib.hid (btrans HBR.out hb)
      have hl3 : w2.heap.size ≤ w3.heap.size := HB3.out.size
      have r1 := cell_stays hb HY1.out
      have r2 := (HX2.out.below HB3.out).2.1
      have hg1 := World.block_lt_of_cell? _ _ r1
      have hg2 := World.block_lt_of_cell? _ _ r2
      obtain ⟨⟨rc, rp, rs, rb⟩, hrr⟩ : ∃ r, ofR y2 = r := ⟨_, rfl⟩
      rw [hrr]; simp only [RefD.agg]
      obtain ⟨B2, hB2⟩ : ∃ b, ofB y2 = b := ⟨_, rfl⟩
      rw [hB2]
      have HOB := Lib.hid hB2
      clear hb hrr hB2
      have r3 : (w3.alloc (.cells #[.int .i64 rc, .int .i64 rp, .int .i64 rs, .bool rb] 69)).cell? ⟨g, o + k * 2, none⟩ = some (.int .i64 y1) := by rw [World.cell?_alloc_past _ _ _ hg1]; exact r1
      have r4 : (w3.alloc (.cells #[.int .i64 rc, .int .i64 rp, .int .i64 rs, .bool rb] 69)).cell? ⟨w.heap.size, 1, none⟩ = some (.int .i64 S) := by rw [World.cell?_alloc_past _ _ _ hg2]; exact r2
      have HB4 := Lib.hid (HB3.out.alloc hl3 (.cells #[.int .i64 rc, .int .i64 rp, .int .i64 rs, .bool rb] 69))
      cases B2 with
      | false =>
        have HF := Lib.hid (show rightN d = false from pairOk_no (x := (y1, y2)) (i := k) (by rw [HPE.out]; exact HX.out) (by unfold pairOk; simp only; rw [HOB.out, Bool.false_and]))
        go_wp2_with fail
        go_quiet (fail)
        go_wp2_with fail
        go_ret
        exact ⟨retB HF.out.symm, below_drewN' (btrans HB2.out HB4.out) _⟩
      | true =>
        by_cases hlo : y1 < 0
        · have HF := Lib.hid (show rightN d = false from pairOk_no (x := (y1, y2)) (i := k) (by rw [HPE.out]; exact HX.out) (by unfold pairOk; simp only; rw [decide_eq_false (by omega), Bool.and_false]))
          have hdb : decide (y1 < 0) = true := decide_eq_true hlo
          go_wp2_with fail
          go_quiet (fail)
          go_wp2_with fail
          go_ret
          exact ⟨retB HF.out.symm, below_drewN' (btrans HB2.out HB4.out) _⟩
        · have hdb : decide (y1 < 0) = false := decide_eq_false hlo
          by_cases hhi : S ≤ y1
          · have HF := Lib.hid (show rightN d = false from pairOk_no (x := (y1, y2)) (i := k) (by rw [HPE.out]; exact HX.out) (by unfold pairOk; simp only; rw [HSE.out, decide_eq_false (by omega), Bool.and_false]))
            have hdc : decide (S ≤ y1) = true := decide_eq_true hhi
            go_wp2_with fail
            go_quiet (fail)
            go_wp2_with fail
            go_ret
            exact ⟨retB HF.out.symm, below_drewN' (btrans HB2.out HB4.out) _⟩
          · have hdc : decide (S ≤ y1) = false := decide_eq_false hhi
            have HG := Lib.hid (show pairOk S (y1, y2) = true by unfold pairOk; simp only; rw [HOB.out, Bool.true_and, decide_eq_true_eq]; omega)
            clear hlo hhi
            go_wp2_with fail
            go_quiet (fail)
            go_wp2_with fail
            go_roundw
            case rel =>
              refine ⟨k + 1, by omega, by go_num, fun j x' hj hx' => ?_, below_drewN' HB4.out _⟩
              by_cases e : j = k
              · subst e; rw [HX.out] at hx'; cases hx'; exact HG.out
              · exact HAL.out j x' (by omega) hx'
            case measure => simp [intOf]; omega
end Go.Proofs.Ytpcmihgfcaelfaa
namespace Go.Proofs.Ytpcmihgfcaelfaa
open Go.RowKit

def alikeN (a b : VoD) : Bool := (a.id == b.id && a.size == b.size) && samePs (pairsN a.map) (pairsN b.map)
set_option maxRecDepth 100000 in
set_option maxHeartbeats 4000000 in
theorem ralike_any (d1 d2 : VoD) (v1 v2 : Value) (w : World) (h1 : VolV w v1 d1) (h2 : VolV w v2 d2) (l1 : SmallTree d1.map) (l2 : SmallTree d2.map) : Calls Try.prog 51 #[v1, v2] w fun e w' => e = .returned (.bool (alikeN d1 d2)) ∧ Below w.heap.size w w' := by
  obtain ⟨a, b, c, rfl, _, _, hn⟩ := h1
  obtain ⟨a', b', c', rfl, _, _, hn'⟩ := h2
  have hb1 : Below w.heap.size w (w.alloc (.cells #[.int .i64 d1.id, .int .i64 d1.size, a, b, c] 45)) := (Below.refl _ _).alloc (Nat.le_refl _) _
  have hb2 : Below w.heap.size w ((w.alloc (.cells #[.int .i64 d1.id, .int .i64 d1.size, a, b, c] 45)).alloc (.cells #[.int .i64 d2.id, .int .i64 d2.size, a', b', c'] 45)) := hb1.alloc (by simp) _
  obtain ⟨⟨pa, ca, rfl, _, _, _⟩, ⟨pb, cb, rfl, _, _, _⟩, ⟨pc, cc, rfl, _, _, _⟩⟩ := nodeAt_iff.1 hn
  obtain ⟨⟨pa', ca', rfl, _, _, _⟩, ⟨pb', cb', rfl, _, _, _⟩, ⟨pc', cc', rfl, _, _, _⟩⟩ := nodeAt_iff.1 hn'
  obtain ⟨KA, hKA⟩ : ∃ K, d1.map.keys.length = K := ⟨_, rfl⟩
  obtain ⟨KB, hKB⟩ : ∃ K, d1.map.vals.length = K := ⟨_, rfl⟩
  obtain ⟨KC, hKC⟩ : ∃ K, d1.map.kids.length = K := ⟨_, rfl⟩
  obtain ⟨KA', hKA'⟩ : ∃ K, d2.map.keys.length = K := ⟨_, rfl⟩
  obtain ⟨KB', hKB'⟩ : ∃ K, d2.map.vals.length = K := ⟨_, rfl⟩
  obtain ⟨KC', hKC'⟩ : ∃ K, d2.map.kids.length = K := ⟨_, rfl⟩
  rw [hKA, hKB, hKC] at hn hb1 hb2 ⊢
  rw [hKA', hKB', hKC'] at hn' hb2 ⊢
  have HNA := Lib.hid (hn.keep (keeps_below hb2)); have HNB := Lib.hid (hn'.keep (keeps_below hb2))
  have HB := Lib.hid hb2
  have HL1 := Lib.hid l1; have HL2 := Lib.hid l2
  clear hn hn' hb1 hb2 l1 l2 hKA hKB hKC hKA' hKB' hKC'
  by_cases hid : d1.id = d2.id
  case neg =>
    have he : (d1.id == d2.id) = false := by simpa using hid
    have HF := Lib.hid (show alikeN d1 d2 = false by unfold alikeN; rw [he]; simp)
    clear hid
    go_enter Try.func51, Try.ntmps51
    go_wp2_with fail
    go_quiet (fail)
    go_wp2_with fail
    go_ret
    exact ⟨retB HF.out.symm, below_drewN' HB.out _⟩
  have he : (d1.id == d2.id) = true := by simpa using hid
  clear hid
  by_cases hsz : d1.size = d2.size
  case neg =>
    have he2 : (d1.size == d2.size) = false := by simpa using hsz
    have HF := Lib.hid (show alikeN d1 d2 = false by unfold alikeN; rw [he2]; simp)
    clear hsz
    go_enter Try.func51, Try.ntmps51
    go_wp2_with fail
    go_quiet (fail)
    go_wp2_with fail
    go_ret
    exact ⟨retB HF.out.symm, below_drewN' HB.out _⟩
  have he2 : (d1.size == d2.size) = true := by simpa using hsz
  have HF := Lib.hid (show alikeN d1 d2 = samePs (pairsN d1.map) (pairsN d2.map) by unfold alikeN; rw [he, he2]; simp)
  clear hsz
  obtain ⟨I, hI⟩ : ∃ I, d1.id = I := ⟨_, rfl⟩
  obtain ⟨S, hS⟩ : ∃ I, d1.size = I := ⟨_, rfl⟩
  obtain ⟨I', hI'⟩ : ∃ I, d2.id = I := ⟨_, rfl⟩
  obtain ⟨S', hS'⟩ : ∃ I, d2.size = I := ⟨_, rfl⟩
  rw [hI, hS, hI', hS'] at HB HNA HNB ⊢
  rw [hI, hI'] at he; rw [hS, hS'] at he2
  clear hI hS hI' hS'
  obtain ⟨W, hW⟩ : ∃ W, (w.alloc (.cells #[.int .i64 I, .int .i64 S, .slice pa KA ca, .slice pb KB cb, .slice pc KC cc] 45)).alloc (.cells #[.int .i64 I', .int .i64 S', .slice pa' KA' ca', .slice pb' KB' cb', .slice pc' KC' cc'] 45) = W := ⟨_, rfl⟩
  have HX1 := Lib.hid (show VBox w.heap.size (.int .i64 I) (.int .i64 S) (.slice pa KA ca) (.slice pb KB cb) (.slice pc KC cc) W by rw [← hW]; exact ⟨by simp, by simp, by simp, by simp, by simp⟩)
  have HX2 := Lib.hid (show VBox (w.heap.size + 1) (.int .i64 I') (.int .i64 S') (.slice pa' KA' ca') (.slice pb' KB' cb') (.slice pc' KC' cc') W by rw [← hW]; exact ⟨by simp, by simp, by simp, by simp, by simp⟩)
  go_enter Try.func51, Try.ntmps51
  go_upto_region 1 with fail
  rw [hW] at HB HNA HNB
  clear hW
  have HNA1 := Lib.hid (show NodeAt W.drew d1.map _ _ _ from HNA.out.keep (keeps_below (Below.refl _ _).drew))
  have HNB0 := Lib.hid (show NodeAt W.drew d2.map _ _ _ from HNB.out.keep (keeps_below (Below.refl _ _).drew))
  have HS0 := Lib.hid (show VBox w.heap.size (.int .i64 I) (.int .i64 S) (.slice pa KA ca) (.slice pb KB cb) (.slice pc KC cc) W.drew ∧ VBox (w.heap.size + 1) (.int .i64 I') (.int .i64 S') (.slice pa' KA' ca') (.slice pb' KB' cb') (.slice pc' KC' cc') W.drew from ⟨HX1.out.below (Below.refl _ _).drew, HX2.out.below (Below.refl _ _).drew⟩)
  have HBD := Lib.hid (show Below w.heap.size w W.drew from HB.out.drew)
  obtain ⟨⟨u0, u1, u2, u3, u4⟩, t0, t1, t2, t3, t4⟩ := HS0.out
  go_region_held3 (fun w' => w'.cell? ⟨w.heap.size, 0, none⟩ = some (.int .i64 I) ∧ w'.cell? ⟨w.heap.size, 1, none⟩ = some (.int .i64 S) ∧ w'.cell? ⟨w.heap.size, 2, none⟩ = some (.slice pa KA ca) ∧ w'.cell? ⟨w.heap.size, 3, none⟩ = some (.slice pb KB cb) ∧ w'.cell? ⟨w.heap.size, 4, none⟩ = some (.slice pc KC cc) ∧ w'.cell? ⟨w.heap.size + 1, 0, none⟩ = some (.int .i64 I') ∧ w'.cell? ⟨w.heap.size + 1, 1, none⟩ = some (.int .i64 S') ∧ w'.cell? ⟨w.heap.size + 1, 2, none⟩ = some (.slice pa' KA' ca') ∧ w'.cell? ⟨w.heap.size + 1, 3, none⟩ = some (.slice pb' KB' cb') ∧ w'.cell? ⟨w.heap.size + 1, 4, none⟩ = some (.slice pc' KC' cc'))
    (first | exact ⟨u0, u1, u2, u3, u4, t0, t1, t2, t3, t4⟩ | exact ⟨HSC.out.1.1, HSC.out.1.2.1, HSC.out.1.2.2.1, HSC.out.1.2.2.2.1, HSC.out.1.2.2.2.2, HSC.out.2.1, HSC.out.2.2.1, HSC.out.2.2.2.1, HSC.out.2.2.2.2.1, HSC.out.2.2.2.2.2⟩ | exact ⟨HSB.out.1.1, HSB.out.1.2.1, HSB.out.1.2.2.1, HSB.out.1.2.2.2.1, HSB.out.1.2.2.2.2, HSB.out.2.1, HSB.out.2.2.1, HSB.out.2.2.2.1, HSB.out.2.2.2.2.1, HSB.out.2.2.2.2.2⟩ | exact ⟨HSA.out.1.1, HSA.out.1.2.1, HSA.out.1.2.2.1, HSA.out.1.2.2.2.1, HSA.out.1.2.2.2.2, HSA.out.2.1, HSA.out.2.2.1, HSA.out.2.2.2.1, HSA.out.2.2.2.2.1, HSA.out.2.2.2.2.2⟩)
    (first | ((with_reducible refine (rpairs_any d1.map _ _ _ _ HNA1.out (by have := HL1.out; unfold SmallTree at this; omega)).mono ?_); rintro e w1 ⟨v1, rfl, hrow, hb⟩; have HP1 := Lib.hid (pairs_of_row hrow); have HNB1 := Lib.hid (HNB0.out.keep (keeps_below hb)); have HBA := Lib.hid (btrans HBD.out hb); have HSA := Lib.hid (And.intro (HS0.out.1.below hb) (HS0.out.2.below hb)); clear hrow hb) | ((with_reducible refine (rpairs_any d2.map _ _ _ _ HNB1.out (by have := HL2.out; unfold SmallTree at this; omega)).mono ?_); rintro e w2 ⟨v2, rfl, hrow, hb⟩; have HP2 := Lib.hid (pairs_of_row hrow); have HP1B := Lib.hid (HP1.out.keep (keeps_below hb)); have HBB := Lib.hid (btrans HBA.out hb); have HSB := Lib.hid (And.intro (HSA.out.1.below hb) (HSA.out.2.below hb)); clear hrow hb) | ((with_reducible refine (rsame16_any _ _ _ _ _ HP1B.out HP2.out).mono ?_); rintro e w3 ⟨rfl, hb⟩; have HBC := Lib.hid (btrans HBB.out hb); have HSC := Lib.hid (And.intro (HSB.out.1.below hb) (HSB.out.2.below hb)); clear hb))
  go_wp2_with fail
  go_ret
  exact ⟨retB HF.out.symm, HBC.out⟩

/-- all volumes' trees are small -/
def SmallTrees (l : List VoD) : Prop := ∀ d ∈ l, SmallTree d.map
def sameVs : List VoD → List VoD → Bool
  | [], [] => true
  | a :: l, b :: m => alikeN a b && sameVs l m
  | _, _ => false
theorem sameVs_iff : ∀ (l m : List VoD), sameVs l m = true ↔ l.length = m.length ∧ ∀ (j : Nat) a b, l[j]? = some a → m[j]? = some b → alikeN a b = true
  | [], [] => by simp [sameVs]
  | [], b :: m => by simp [sameVs]
  | a :: l, [] => by simp [sameVs]
  | a :: l, b :: m => by
    simp only [sameVs, Bool.and_eq_true, sameVs_iff l m, List.length_cons]
    constructor
    · rintro ⟨h1, h2, h3⟩
      refine ⟨by omega, fun j x y hx hy => ?_⟩
      cases j with
      | zero => simp only [List.getElem?_cons_zero, Option.some.injEq] at hx hy; subst hx hy; exact h1
      | succ j => rw [List.getElem?_cons_succ] at hx hy; exact h3 j x y hx hy
    · rintro ⟨h1, h2⟩
      exact ⟨h2 0 a b rfl rfl, by omega, fun j x y hx hy => h2 (j + 1) x y (by rw [List.getElem?_cons_succ]; exact hx) (by rw [List.getElem?_cons_succ]; exact hy)⟩
/-- the five cells of a volume in a row -/
def V5 (g o : Nat) (i s : Int) (a b c : Value) (w : World) : Prop := w.cell? ⟨g, o, none⟩ = some (.int .i64 i) ∧ w.cell? ⟨g, o + 1, none⟩ = some (.int .i64 s) ∧ w.cell? ⟨g, o + 2, none⟩ = some a ∧ w.cell? ⟨g, o + 3, none⟩ = some b ∧ w.cell? ⟨g, o + 4, none⟩ = some c
theorem V5.below {g o : Nat} {i s : Int} {a b c : Value} {w w' : World} (h : V5 g o i s a b c w) (hb : Below w.heap.size w w') : V5 g o i s a b c w' :=
  ⟨cell_stays hb h.1, cell_stays hb h.2.1, cell_stays hb h.2.2.1, cell_stays hb h.2.2.2.1, cell_stays hb h.2.2.2.2⟩
set_option maxRecDepth 100000 in
set_option maxHeartbeats 4000000 in
theorem rsame18_any (x y : List VoD) (v1 v2 : Value) (w : World) (h1 : VolsAt w v1 x) (h2 : VolsAt w v2 y) (l1 : SmallTrees x) (l2 : SmallTrees y) : Calls Try.prog 16 #[v1, v2] w fun e w' => e = .returned (.bool (sameVs x y)) ∧ Below w.heap.size w w' := by
  obtain ⟨p, cp, rfl, a1, a2, ha⟩ := h1
  obtain ⟨q, cq, rfl, b1, b2, hb⟩ := h2
  have HA := Lib.hid ha; have HBB := Lib.hid hb
  obtain ⟨N, hN⟩ : ∃ N, x.length = N := ⟨_, rfl⟩
  obtain ⟨M, hM⟩ : ∃ M, y.length = M := ⟨_, rfl⟩
  rw [hN] at a1; rw [hM] at b1; rw [hN, hM]
  have hlc : (N : Int) ≤ 9223372036854775807 := by unfold maxLen at a2; omega
  have hld : (M : Int) ≤ 9223372036854775807 := by unfold maxLen at b2; omega
  have HN := Lib.hid hN; have HM := Lib.hid hM; have HL1 := Lib.hid l1; have HL2 := Lib.hid l2
  clear ha hb hN hM a1 a2 b1 b2 l1 l2
  by_cases hNM : N = M
  case neg =>
    have hne : ((N : Int) != (M : Int)) = true := by rw [bne_iff_ne]; omega
    have HF := Lib.hid (show sameVs x y = false by
      rw [← Bool.not_eq_true, sameVs_iff]; rintro ⟨h, _⟩; exact hNM (by rw [← HN.out, ← HM.out, h]))
    clear hNM
    go_enter Try.func16, Try.ntmps16
    go_wp2_with fail
    go_ret
    exact ⟨retB HF.out.symm, Below.refl _ _⟩
  subst hNM
  have hne : ((N : Int) != (N : Int)) = false := by simp
  go_enter Try.func16, Try.ntmps16
  go_wp2_with fail
  go_loopw [5] (fun i wr => ∃ k : Nat, k ≤ N ∧ i = .int .i64 k ∧ (∀ (j : Nat) a b, j < k → x[j]? = some a → y[j]? = some b → alikeN a b = true) ∧ Below w.heap.size w wr) (fun i _ => N - (intOf i).toNat)
  case atStart => exact ⟨0, Nat.zero_le _, rfl, fun j a b hj => by omega, Below.refl _ _⟩
  case round =>
    obtain ⟨k, hk, rfl, hall, hb⟩ := hrel
    have HAL := Lib.hid hall; have HB := Lib.hid hb
    clear hall hb
    by_cases hlt : k < N
    case neg =>
      obtain rfl : k = N := by omega
      have HF := Lib.hid (show sameVs x y = true by
        rw [sameVs_iff]
        exact ⟨by rw [HN.out, HM.out], fun j a b ha hb => HAL.out j a b (by have := (List.getElem?_eq_some_iff.1 ha).1; have := HN.out; omega) ha hb⟩)
      go_wp2_with fail
      go_ret
      exact ⟨retB HF.out.symm, HB.out⟩
    have hki : (k : Int) < (N : Int) := by omega
    obtain ⟨s, hs⟩ : ∃ s, x[k]? = some s := ⟨_, List.getElem?_eq_getElem (by rw [HN.out]; omega)⟩
    obtain ⟨t, ht⟩ : ∃ t, y[k]? = some t := ⟨_, List.getElem?_eq_getElem (by rw [HM.out]; omega)⟩
    obtain ⟨i1, i2, g, o, a, b, c, rfl, e0, e1, e2, e3, e4, e5⟩ := HA.out k s hs
    obtain ⟨j1, j2, g', o', a', b', c', rfl, f0, f1, f2, f3, f4, f5⟩ := HBB.out k t ht
    have HV1 := Lib.hid (show V5 g (o + k * 5) s.id s.size a b c wr.drew from V5.below (V5.below ⟨e0, e1, e2, e3, e4⟩ HB.out) (Below.refl _ _).drew)
    have HV2 := Lib.hid (show V5 g' (o' + k * 5) t.id t.size a' b' c' wr.drew from V5.below (V5.below ⟨f0, f1, f2, f3, f4⟩ HB.out) (Below.refl _ _).drew)
    have HX1 := Lib.hid (show VolV wr.drew (.agg #[.int .i64 s.id, .int .i64 s.size, a, b, c]) s from ⟨a, b, c, rfl, i1, i2, (e5.keep (keeps_below HB.out)).keep (keeps_below (Below.refl _ _).drew)⟩)
    have HX2 := Lib.hid (show VolV wr.drew (.agg #[.int .i64 t.id, .int .i64 t.size, a', b', c']) t from ⟨a', b', c', rfl, j1, j2, (f5.keep (keeps_below HB.out)).keep (keeps_below (Below.refl _ _).drew)⟩)
    have HS := Lib.hid hs; have HT := Lib.hid ht
    have HM1 := Lib.hid (HL1.out s (List.mem_of_getElem? hs)); have HM2 := Lib.hid (HL2.out t (List.mem_of_getElem? ht))
    clear hs ht e0 e1 e2 e3 e4 e5 f0 f1 f2 f3 f4 f5 i1 i2 j1 j2
    obtain ⟨u0, u1, u2, u3, u4⟩ := HV1.out
    obtain ⟨t0, t1, t2, t3, t4⟩ := HV2.out
    obtain ⟨bb, hbb⟩ : ∃ bb, alikeN s t = bb := ⟨_, rfl⟩
    have HBE := Lib.hid hbb; clear hbb
    go_wp2_with fail
    go_region_held3 (fun w' => w'.cell? ⟨g, o + k * 5, none⟩ = some (.int .i64 s.id) ∧ w'.cell? ⟨g, o + k * 5 + 1, none⟩ = some (.int .i64 s.size) ∧ w'.cell? ⟨g, o + k * 5 + 2, none⟩ = some a ∧ w'.cell? ⟨g, o + k * 5 + 3, none⟩ = some b ∧ w'.cell? ⟨g, o + k * 5 + 4, none⟩ = some c ∧ w'.cell? ⟨g', o' + k * 5, none⟩ = some (.int .i64 t.id) ∧ w'.cell? ⟨g', o' + k * 5 + 1, none⟩ = some (.int .i64 t.size) ∧ w'.cell? ⟨g', o' + k * 5 + 2, none⟩ = some a' ∧ w'.cell? ⟨g', o' + k * 5 + 3, none⟩ = some b' ∧ w'.cell? ⟨g', o' + k * 5 + 4, none⟩ = some c')
      (first | exact ⟨u0, u1, u2, u3, u4, t0, t1, t2, t3, t4⟩ | exact HSA.out)
      (((with_reducible refine (ralike_any s t _ _ _ HX1.out HX2.out HM1.out HM2.out).mono ?_); rintro e w1 ⟨rfl, hb⟩; rw [HBE.out]; have HB1 := Lib.hid (btrans HB.out.drew hb); have HSA := Lib.hid (show _ ∧ _ ∧ _ ∧ _ ∧ _ ∧ _ ∧ _ ∧ _ ∧ _ ∧ _ from ⟨cell_stays hb u0, cell_stays hb u1, cell_stays hb u2, cell_stays hb u3, cell_stays hb u4, cell_stays hb t0, cell_stays hb t1, cell_stays hb t2, cell_stays hb t3, cell_stays hb t4⟩); clear hb))
    clear u0 u1 u2 u3 u4 t0 t1 t2 t3 t4
    cases bb with
    | true =>
      go_wp2_with fail
      go_roundw
      case rel =>
        refine ⟨k + 1, by omega, by go_num, fun j a b hj hx' hy' => ?_, HB1.out⟩
        by_cases e : j = k
        · subst e; rw [HS.out] at hx'; rw [HT.out] at hy'; cases hx'; cases hy'; exact HBE.out
        · exact HAL.out j a b (by omega) hx' hy'
      case measure => simp [intOf]; omega
    | false =>
      have HF := Lib.hid (show sameVs x y = false by
        rw [← Bool.not_eq_true, sameVs_iff]; rintro ⟨_, h⟩
        have := h k s t HS.out HT.out
        rw [HBE.out] at this; exact absurd this (by simp))
      go_wp2_with fail
      go_ret
      exact ⟨retB HF.out.symm, HB1.out⟩
end Go.Proofs.Ytpcmihgfcaelfaa
namespace Go.Proofs.Ytpcmihgfcaelfaa
open Go.RowKit

def zeroN : NodeD := .mk [] [] []
def zeroV : VoD := ⟨0, 0, zeroN⟩
def findD (l : List VoD) (id : Int) : VoD × Bool := match l.find? (fun d => d.id == id) with
  | some d => (d, true)
  | none => (zeroV, false)
theorem zero_node (w : World) : NodeAt w zeroN (.slice none 0 0) (.slice none 0 0) (.slice none 0 0) := by
  unfold zeroN
  rw [nodeAt_iff]
  exact ⟨⟨none, 0, rfl, Nat.le_refl _, by unfold maxLen; omega, fun i x h => by simp [NodeD.keys] at h⟩, ⟨none, 0, rfl, Nat.le_refl _, by unfold maxLen; omega, fun i x h => by simp [NodeD.vals] at h⟩, none, 0, rfl, Nat.le_refl _, by unfold maxLen; omega, fun j t h => by simp [NodeD.kids] at h⟩
theorem zero_vol (w : World) : VolV w (.agg #[.int .i64 0, .int .i64 0, .slice none 0 0, .slice none 0 0, .slice none 0 0]) zeroV :=
  ⟨_, _, _, rfl, by unfold zeroV i64B; simp, by unfold zeroV i64B; simp, zero_node w⟩
theorem node_slices {w : World} {t : NodeD} {a b c : Value} (h : NodeAt w t a b c) : ∃ pa na ca pb nb cb pc nc cc, a = .slice pa na ca ∧ b = .slice pb nb cb ∧ c = .slice pc nc cc := by
  obtain ⟨⟨pa, ca, h1, _⟩, ⟨pb, cb, h2, _⟩, ⟨pc, cc, h3, _⟩⟩ := nodeAt_iff.1 h
  exact ⟨pa, _, ca, pb, _, cb, pc, _, cc, h1, h2, h3⟩
set_option maxRecDepth 100000 in
set_option maxHeartbeats 4000000 in
theorem rfind_any (x : List VoD) (q : Int) (v1 : Value) (w : World) (h1 : VolsAt w v1 x) : Calls Try.prog 21 #[v1, .int .i64 q] w fun e w' => ∃ v, e = .returned (.tuple #[v, .bool (findD x q).2]) ∧ VolV w' v (findD x q).1 ∧ Below w.heap.size w w' := by
  obtain ⟨p, cp, rfl, a1, a2, ha⟩ := h1
  have HA := Lib.hid ha
  obtain ⟨N, hN⟩ : ∃ N, x.length = N := ⟨_, rfl⟩
  rw [hN] at a1; rw [hN]
  have hlc : (N : Int) ≤ 9223372036854775807 := by unfold maxLen at a2; omega
  have HN := Lib.hid hN
  clear ha hN a1 a2
  go_enter Try.func21, Try.ntmps21
  go_wp2_with fail
  have HB0 := Lib.hid (show Below w.heap.size w (w.alloc (.cells #[.int .i64 0, .int .i64 0, .slice none 0 0, .slice none 0 0, .slice none 0 0] 45)) from (Below.refl _ _).alloc (Nat.le_refl _) _)
  go_loop [6] (fun i => ∃ k : Nat, k ≤ N ∧ i = .int .i64 k ∧ findD x q = findD (x.drop k) q) (fun i => N - (intOf i).toNat)
  case atStart => exact ⟨0, Nat.zero_le _, rfl, by rw [List.drop_zero]⟩
  case round =>
    obtain ⟨k, hk, rfl, hall⟩ := hrel
    have HAL := Lib.hid hall
    clear hall
    by_cases hlt : k < N
    case neg =>
      obtain rfl : k = N := by omega
      have HF := Lib.hid (show findD x q = (zeroV, false) by rw [HAL.out, List.drop_of_length_le (by rw [HN.out]; omega)]; rfl)
      go_wp2_with fail
      refine bodyPost_ret (v := .tuple #[.agg #[.int .i64 0, .int .i64 0, .slice none 0 0, .slice none 0 0, .slice none 0 0], .bool false]) (by simp [results, Try.results21, go_sem]) rfl ?_
      refine ⟨_, by rw [HF.out], by rw [HF.out]; exact zero_vol _, HB0.out⟩
    have hki : (k : Int) < (N : Int) := by omega
    obtain ⟨s, hs⟩ : ∃ s, x[k]? = some s := ⟨_, List.getElem?_eq_getElem (by rw [HN.out]; omega)⟩
    obtain ⟨i1, i2, g, o, a, b, c, rfl, e0, e1, e2, e3, e4, e5⟩ := HA.out k s hs
    obtain ⟨pa, na, ca, pb, nb, cb, pc, nc, cc, rfl, rfl, rfl⟩ := node_slices e5
    have r0 := cell_stays HB0.out e0; have r1 := cell_stays HB0.out e1; have r2 := cell_stays HB0.out e2; have r3 := cell_stays HB0.out e3; have r4 := cell_stays HB0.out e4
    have hg := World.block_lt_of_cell? _ _ e0
    have hd : x.drop k = s :: x.drop (k + 1) := by
      obtain ⟨hk2, hx⟩ := List.getElem?_eq_some_iff.1 hs
      rw [List.drop_eq_getElem_cons hk2, hx]
    have HD := Lib.hid hd; have HE := Lib.hid (And.intro i1 (And.intro i2 e5))
    clear hs hd e5 i1 i2
    by_cases hsq : s.id = q
    · have hb : (s.id == q) = true := by simpa using hsq
      have HF := Lib.hid (show findD x q = (s, true) by rw [HAL.out, HD.out]; unfold findD; rw [List.find?_cons_of_pos (p := fun d : VoD => d.id == q) hb])
      clear hsq
      go_wp2_with fail
      have hBF := (Below.refl w.heap.size w).alloc (Nat.le_refl _) (.cells #[.int .i64 s.id, .int .i64 s.size, .slice pa na ca, .slice pb nb cb, .slice pc nc cc] 45)
      refine bodyPost_ret (v := .tuple #[.agg #[.int .i64 s.id, .int .i64 s.size, .slice pa na ca, .slice pb nb cb, .slice pc nc cc], .bool true]) (by simp [results, Try.results21, go_sem]) rfl ?_
      exact ⟨_, by rw [HF.out], by rw [HF.out]; exact ⟨_, _, _, rfl, HE.out.1, HE.out.2.1, HE.out.2.2.keep (keeps_below hBF)⟩, hBF⟩
    · have hb : (s.id == q) = false := by simpa using hsq
      have HF := Lib.hid (show findD x q = findD (x.drop (k + 1)) q by rw [HAL.out, HD.out]; unfold findD; rw [List.find?_cons_of_neg (p := fun d : VoD => d.id == q) (by simpa using hsq)])
      clear hsq
      go_wp2_with fail
      go_round
      case rel => exact ⟨k + 1, by omega, by go_num, HF.out⟩
      case measure => simp [intOf]; omega

def smallV (d : VoD) : Bool := smallN d.map && decide (countN d.map 60 < 60)
def smallVs (l : List VoD) : Bool := l.all smallV && decide (l.length ≤ 70)
set_option maxRecDepth 100000 in
set_option maxHeartbeats 4000000 in
theorem rsmall18_any (x : List VoD) (v1 : Value) (w : World) (h1 : VolsAt w v1 x) : Calls Try.prog 8 #[v1] w fun e w' => e = .returned (.bool (smallVs x)) ∧ Below w.heap.size w w' := by
  obtain ⟨p, cp, rfl, a1, a2, ha⟩ := h1
  have HA := Lib.hid ha
  obtain ⟨N, hN⟩ : ∃ N, x.length = N := ⟨_, rfl⟩
  rw [hN] at a1; rw [hN]
  have hlc : (N : Int) ≤ 9223372036854775807 := by unfold maxLen at a2; omega
  have HN := Lib.hid hN
  clear ha hN a1 a2
  go_enter Try.func8, Try.ntmps8
  go_wp2_with fail
  go_loopw [3] (fun i wr => ∃ k : Nat, k ≤ N ∧ i = .int .i64 k ∧ (∀ (j : Nat) a, j < k → x[j]? = some a → smallV a = true) ∧ Below w.heap.size w wr) (fun i _ => N - (intOf i).toNat)
  case atStart => exact ⟨0, Nat.zero_le _, rfl, fun j a hj => by omega, Below.refl _ _⟩
  case round =>
    obtain ⟨k, hk, rfl, hall, hb⟩ := hrel
    have HAL := Lib.hid hall; have HB := Lib.hid hb
    clear hall hb
    by_cases hlt : k < N
    case neg =>
      obtain rfl : k = N := by omega
      have HF := Lib.hid (show smallVs x = decide (k ≤ 70) by
        unfold smallVs
        rw [HN.out, show x.all smallV = true from List.all_eq_true.2 (fun a ha => by
          obtain ⟨j, hj⟩ := List.mem_iff_getElem?.1 ha
          exact HAL.out j a (by have := (List.getElem?_eq_some_iff.1 hj).1; have := HN.out; omega) hj), Bool.true_and])
      go_wp2_with fail
      go_ret
      refine ⟨retB ?_, HB.out⟩
      rw [HF.out, decide_eq_decide]; omega
    have hki : (k : Int) < (N : Int) := by omega
    obtain ⟨s, hs⟩ : ∃ s, x[k]? = some s := ⟨_, List.getElem?_eq_getElem (by rw [HN.out]; omega)⟩
    obtain ⟨i1, i2, g, o, a, b, c, rfl, e0, e1, e2, e3, e4, e5⟩ := HA.out k s hs
    have HV := Lib.hid (show V5 g (o + k * 5) s.id s.size a b c wr from V5.below ⟨e0, e1, e2, e3, e4⟩ HB.out)
    have HNN := Lib.hid (e5.keep (keeps_below HB.out))
    have HS := Lib.hid hs
    clear hs e0 e1 e2 e3 e4 e5 i1 i2
    obtain ⟨_, _, r2, r3, r4⟩ := HV.out
    go_wp2_with fail
    refine (smallN_any s.map a b c _ HNN.out).mono ?_
    rintro e w1 ⟨rfl, hb⟩
    have HB1 := Lib.hid (btrans HB.out hb); have HV1 := Lib.hid (HV.out.below hb); have HNN1 := Lib.hid (HNN.out.keep (keeps_below hb))
    clear hb r2 r3 r4
    have hno : smallV s = false → smallVs x = false := fun h => by
      unfold smallVs
      rw [show x.all smallV = false from List.all_eq_false.2 ⟨s, List.mem_of_getElem? HS.out, by rw [h]; simp⟩, Bool.false_and]
    have HNO := Lib.hid hno; clear hno
    obtain ⟨bb, hbb⟩ : ∃ bb, smallN s.map = bb := ⟨_, rfl⟩
    rw [hbb]
    have HBE := Lib.hid hbb; clear hbb
    obtain ⟨_, _, r2, r3, r4⟩ := HV1.out
    cases bb with
    | false =>
      go_wp2_with fail
      go_ret
      exact ⟨retB (HNO.out (by unfold smallV; rw [HBE.out]; rfl)).symm, HB1.out⟩
    | true =>
      go_wp2_with fail
      refine (count_any s.map a b c 60 _ HNN1.out (by omega) (by omega)).mono ?_
      rintro e w2 ⟨rfl, hb⟩
      have HB2 := Lib.hid (btrans HB1.out hb)
      clear hb r2 r3 r4
      obtain ⟨C, hC⟩ : ∃ C, countN s.map 60 = C := ⟨_, rfl⟩
      rw [hC]
      have HCE := Lib.hid hC; clear hC
      by_cases hlt60 : C < 60
      · have hd : decide (60 ≤ C) = false := by rw [decide_eq_false_iff_not]; omega
        have HT := Lib.hid (show smallV s = true by unfold smallV; rw [HBE.out, HCE.out, decide_eq_true hlt60]; rfl)
        clear hlt60
        go_wp2_with fail
        go_roundw
        case rel =>
          refine ⟨k + 1, by omega, by go_num, fun j a' hj hx' => ?_, HB2.out⟩
          by_cases e : j = k
          · subst e; rw [HS.out] at hx'; cases hx'; exact HT.out
          · exact HAL.out j a' (by omega) hx'
        case measure => simp [intOf]; omega
      · have hd : decide (60 ≤ C) = true := by rw [decide_eq_true_eq]; omega
        have HT := Lib.hid (show smallV s = false by unfold smallV; rw [HBE.out, HCE.out, decide_eq_false hlt60]; rfl)
        clear hlt60
        go_wp2_with fail
        go_ret
        exact ⟨retB (HNO.out HT.out).symm, HB2.out⟩
end Go.Proofs.Ytpcmihgfcaelfaa
namespace Go.Proofs.Ytpcmihgfcaelfaa
open Go.RowKit

def mayVs (l : List VoD) : Prop := (∀ d ∈ l, rightN d = true) ∧ Rising l ∧ l.length ≤ 64
noncomputable def mayVB (l : List VoD) : Bool := @decide (mayVs l) (Classical.propDecidable _)
theorem mayVB_iff {l : List VoD} : mayVB l = true ↔ mayVs l := by unfold mayVB; exact @decide_eq_true_iff _ (Classical.propDecidable _)
theorem mayVB_no_right {l : List VoD} {k : Nat} {d : VoD} (h : l[k]? = some d) (hd : rightN d = false) : mayVB l = false := by
  rw [← Bool.not_eq_true, mayVB_iff]; rintro ⟨h1, _⟩
  have := h1 d (List.mem_of_getElem? h); rw [hd] at this; exact absurd this (by simp)
theorem mayVB_no_order {l : List VoD} {k : Nat} {a b : VoD} (ha : l[k]? = some a) (hb : l[k + 1]? = some b) (h : ¬ a.id < b.id) : mayVB l = false := by
  rw [← Bool.not_eq_true, mayVB_iff]; rintro ⟨_, h2, _⟩
  exact h (h2 k a b ha hb)
theorem mayVB_end {l : List VoD} (h1 : ∀ (j : Nat) a, l[j]? = some a → rightN a = true) (h2 : Rising l) : mayVB l = decide (l.length ≤ 64) := by
  by_cases h : l.length ≤ 64
  · rw [decide_eq_true h, mayVB_iff]
    exact ⟨fun d hd => by obtain ⟨j, hj⟩ := List.mem_iff_getElem?.1 hd; exact h1 j d hj, h2, h⟩
  · rw [decide_eq_false h, ← Bool.not_eq_true, mayVB_iff]; rintro ⟨_, _, h3⟩; exact h h3
set_option maxRecDepth 100000 in
set_option maxHeartbeats 8000000 in
theorem rmay18_any (x : List VoD) (v1 : Value) (w : World) (h1 : VolsAt w v1 x) (l1 : SmallTrees x) : Calls Try.prog 18 #[v1] w fun e w' => e = .returned (.bool (mayVB x)) ∧ Below w.heap.size w w' := by
  obtain ⟨p, cp, rfl, a1, a2, ha⟩ := h1
  have HA := Lib.hid ha
  obtain ⟨N, hN⟩ : ∃ N, x.length = N := ⟨_, rfl⟩
  rw [hN] at a1; rw [hN]
  have hlc : (N : Int) ≤ 9223372036854775807 := by unfold maxLen at a2; omega
  have HN := Lib.hid hN; have HL1 := Lib.hid l1
  clear ha hN a1 a2 l1
  go_enter Try.func18, Try.ntmps18
  go_wp2_with fail
  go_loopw [3] (fun i wr => ∃ k : Nat, k ≤ N ∧ i = .int .i64 k ∧ (∀ (j : Nat) a, j < k → x[j]? = some a → rightN a = true) ∧ (∀ (j : Nat) a b, j + 1 < k → x[j]? = some a → x[j + 1]? = some b → a.id < b.id) ∧ Below w.heap.size w wr) (fun i _ => N - (intOf i).toNat)
  case atStart => exact ⟨0, Nat.zero_le _, rfl, fun j a hj => by omega, fun j a b hj => by omega, Below.refl _ _⟩
  case round =>
    obtain ⟨k, hk, rfl, hall, hord, hb⟩ := hrel
    have HAL := Lib.hid hall; have HOR := Lib.hid hord; have HB := Lib.hid hb
    clear hall hb hord
    by_cases hlt : k < N
    case neg =>
      obtain rfl : k = N := by omega
      have HF := Lib.hid (show mayVB x = decide (k ≤ 64) by
        rw [mayVB_end (fun j a h => HAL.out j a (by have := (List.getElem?_eq_some_iff.1 h).1; have := HN.out; omega) h) (fun j a b ha hb => HOR.out j a b (by have := (List.getElem?_eq_some_iff.1 hb).1; have := HN.out; omega) ha hb), HN.out])
      go_wp2_with fail
      go_ret
      refine ⟨retB ?_, HB.out⟩
      rw [HF.out, decide_eq_decide]; omega
    have hki : (k : Int) < (N : Int) := by omega
    obtain ⟨s, hs⟩ : ∃ s, x[k]? = some s := ⟨_, List.getElem?_eq_getElem (by rw [HN.out]; omega)⟩
    obtain ⟨i1, i2, g, o, a, b, c, rfl, e0, e1, e2, e3, e4, e5⟩ := HA.out k s hs
    have HV := Lib.hid (show V5 g (o + k * 5) s.id s.size a b c wr.drew from V5.below (V5.below ⟨e0, e1, e2, e3, e4⟩ HB.out) (Below.refl _ _).drew)
    have HX := Lib.hid (show VolV wr.drew (.agg #[.int .i64 s.id, .int .i64 s.size, a, b, c]) s from ⟨a, b, c, rfl, i1, i2, (e5.keep (keeps_below HB.out)).keep (keeps_below (Below.refl _ _).drew)⟩)
    have HS := Lib.hid hs; have HM := Lib.hid (HL1.out s (List.mem_of_getElem? hs))
    clear hs e0 e1 e2 e3 e4 e5 i1 i2
    obtain ⟨r0, r1, r2, r3, r4⟩ := HV.out
    cases hr : rightN s with
    | false =>
      have HT := Lib.hid hr; clear hr
      have HF := Lib.hid (mayVB_no_right HS.out HT.out)
      go_wp2_with fail
      refine wp_region_held_drew (S := fun w' => w'.cell? ⟨g, o + k * 5, none⟩ = some (.int .i64 s.id) ∧ w'.cell? ⟨g, o + k * 5 + 1, none⟩ = some (.int .i64 s.size) ∧ w'.cell? ⟨g, o + k * 5 + 2, none⟩ = some a ∧ w'.cell? ⟨g, o + k * 5 + 3, none⟩ = some b ∧ w'.cell? ⟨g, o + k * 5 + 4, none⟩ = some c) (by kernel_rfl) ⟨r0, r1, r2, r3, r4⟩ (fun hHeld => ?_)
      refine take_at (i := 0) (d := some 10) (v := .slice (some ⟨g, o, none⟩) N cp) rfl rfl (by kernel_rfl) (by kernel_rfl) (by kernel_rfl) (fun _ _ _ h => h) hHeld (by kernel_rfl) (fun w' hSw => by (try dsimp only at hSw); go_split_ands; go_simp) ?_
      simp only [Act.put, List.setIfInBounds_toArray, List.set_cons_zero, List.set_cons_succ]
      refine take_at (i := 1) (d := some 11) (v := .int .i64 k) rfl rfl (by kernel_rfl) (by kernel_rfl) (by kernel_rfl) (fun _ _ _ h => h) hHeld (by kernel_rfl) (fun w' hSw => by (try dsimp only at hSw); go_split_ands; go_simp) ?_
      simp only [Act.put, List.setIfInBounds_toArray, List.set_cons_zero, List.set_cons_succ]
      refine take_at (i := 2) (d := some 12) (v := .pointer (some ⟨g, o + k * 5, none⟩)) rfl rfl (by kernel_rfl) (by kernel_rfl) (by kernel_rfl) (fun _ _ _ h => h) hHeld (by kernel_rfl) (fun w' hSw => by (try dsimp only at hSw); go_split_ands; go_simp) ?_
      simp only [Act.put, List.setIfInBounds_toArray, List.set_cons_zero, List.set_cons_succ]
      refine take_at (i := 3) (d := some 13) (v := .agg #[.int .i64 s.id, .int .i64 s.size, a, b, c]) rfl rfl (by kernel_rfl) (by kernel_rfl) (by kernel_rfl) (fun _ _ _ h => h) hHeld (by kernel_rfl) (fun w' hSw => by (try dsimp only at hSw); go_split_ands; go_simp) ?_
      simp only [Act.put, List.setIfInBounds_toArray, List.set_cons_zero, List.set_cons_succ]
      refine wpAnyH_ready (rs := [4]) (by kernel_rfl) (by simp) ?_
      refine AllReadyH.cons rfl (fun K hK => ?_) AllReadyH.nil
      go_simp
      refine (rright_any s _ _ HX.out HM.out).mono ?_
      rintro e w1 ⟨rfl, hb⟩
      have HB1 := Lib.hid (btrans HB.out.drew hb)
      have HSA := Lib.hid (show _ ∧ _ ∧ _ ∧ _ ∧ _ from ⟨cell_stays hb r0, cell_stays hb r1, cell_stays hb r2, cell_stays hb r3, cell_stays hb r4⟩)
      clear hb hHeld r0 r1 r2 r3 r4
      rw [HT.out]
      go_simp
      refine hK.out _ _ HSA.out (fun hHeld => ?_)
      clear hK K
      refine take_at (i := 5) (d := some 15) (v := .bool true) rfl rfl (by kernel_rfl) (by kernel_rfl) (by kernel_rfl) (fun _ _ _ h => h) hHeld (by kernel_rfl) (fun w' hSw => by (try dsimp only at hSw); go_split_ands; go_simp) ?_
      simp only [Act.put, List.setIfInBounds_toArray, List.set_cons_zero, List.set_cons_succ]
      refine take_at (i := 6) (d := some 16) (v := .bool true) rfl rfl (by kernel_rfl) (by kernel_rfl) (by kernel_rfl) (fun _ _ _ h => h) hHeld (by kernel_rfl) (fun w' hSw => by (try dsimp only at hSw); go_split_ands; go_simp) ?_
      simp only [Act.put, List.setIfInBounds_toArray, List.set_cons_zero, List.set_cons_succ]
      refine skip_at (i := 7) (d := some 17) rfl rfl (by kernel_rfl) (by kernel_rfl) (by kernel_rfl) (fun _ _ _ h => h) hHeld (by kernel_rfl) ?_
      simp only [Act.put, List.setIfInBounds_toArray, List.set_cons_zero, List.set_cons_succ]
      refine skip_at (i := 8) (d := some 18) rfl rfl (by kernel_rfl) (by kernel_rfl) (by kernel_rfl) (fun _ _ _ h => h) hHeld (by kernel_rfl) ?_
      simp only [Act.put, List.setIfInBounds_toArray, List.set_cons_zero, List.set_cons_succ]
      refine skip_at (i := 9) (d := some 19) rfl rfl (by kernel_rfl) (by kernel_rfl) (by kernel_rfl) (fun _ _ _ h => h) hHeld (by kernel_rfl) ?_
      simp only [Act.put, List.setIfInBounds_toArray, List.set_cons_zero, List.set_cons_succ]
      refine skip_at (i := 10) (d := some 20) rfl rfl (by kernel_rfl) (by kernel_rfl) (by kernel_rfl) (fun _ _ _ h => h) hHeld (by kernel_rfl) ?_
      simp only [Act.put, List.setIfInBounds_toArray, List.set_cons_zero, List.set_cons_succ]
      refine skip_at (i := 11) (d := some 21) rfl rfl (by kernel_rfl) (by kernel_rfl) (by kernel_rfl) (fun _ _ _ h => h) hHeld (by kernel_rfl) ?_
      simp only [Act.put, List.setIfInBounds_toArray, List.set_cons_zero, List.set_cons_succ]
      refine skip_at (i := 12) (d := some 22) rfl rfl (by kernel_rfl) (by kernel_rfl) (by kernel_rfl) (fun _ _ _ h => h) hHeld (by kernel_rfl) ?_
      simp only [Act.put, List.setIfInBounds_toArray, List.set_cons_zero, List.set_cons_succ]
      refine skip_at (i := 13) (d := some 23) rfl rfl (by kernel_rfl) (by kernel_rfl) (by kernel_rfl) (fun _ _ _ h => h) hHeld (by kernel_rfl) ?_
      simp only [Act.put, List.setIfInBounds_toArray, List.set_cons_zero, List.set_cons_succ]
      refine skip_at (i := 14) (d := some 24) rfl rfl (by kernel_rfl) (by kernel_rfl) (by kernel_rfl) (fun _ _ _ h => h) hHeld (by kernel_rfl) ?_
      simp only [Act.put, List.setIfInBounds_toArray, List.set_cons_zero, List.set_cons_succ]
      refine skip_at (i := 15) (d := some 25) rfl rfl (by kernel_rfl) (by kernel_rfl) (by kernel_rfl) (fun _ _ _ h => h) hHeld (by kernel_rfl) ?_
      simp only [Act.put, List.setIfInBounds_toArray, List.set_cons_zero, List.set_cons_succ]
      refine skip_at (i := 16) (d := some 26) rfl rfl (by kernel_rfl) (by kernel_rfl) (by kernel_rfl) (fun _ _ _ h => h) hHeld (by kernel_rfl) ?_
      simp only [Act.put, List.setIfInBounds_toArray, List.set_cons_zero, List.set_cons_succ]
      refine skip_at (i := 17) (d := some 27) rfl rfl (by kernel_rfl) (by kernel_rfl) (by kernel_rfl) (fun _ _ _ h => h) hHeld (by kernel_rfl) ?_
      simp only [Act.put, List.setIfInBounds_toArray, List.set_cons_zero, List.set_cons_succ]
      refine skip_at (i := 18) (d := some 28) rfl rfl (by kernel_rfl) (by kernel_rfl) (by kernel_rfl) (fun _ _ _ h => h) hHeld (by kernel_rfl) ?_
      simp only [Act.put, List.setIfInBounds_toArray, List.set_cons_zero, List.set_cons_succ]
      refine skip_at (i := 19) (d := some 29) rfl rfl (by kernel_rfl) (by kernel_rfl) (by kernel_rfl) (fun _ _ _ h => h) hHeld (by kernel_rfl) ?_
      simp only [Act.put, List.setIfInBounds_toArray, List.set_cons_zero, List.set_cons_succ]
      refine skip_at (i := 20) (d := some 30) rfl rfl (by kernel_rfl) (by kernel_rfl) (by kernel_rfl) (fun _ _ _ h => h) hHeld (by kernel_rfl) ?_
      simp only [Act.put, List.setIfInBounds_toArray, List.set_cons_zero, List.set_cons_succ]
      refine skip_at (i := 21) (d := some 31) rfl rfl (by kernel_rfl) (by kernel_rfl) (by kernel_rfl) (fun _ _ _ h => h) hHeld (by kernel_rfl) ?_
      simp only [Act.put, List.setIfInBounds_toArray, List.set_cons_zero, List.set_cons_succ]
      refine skip_at (i := 22) (d := some 32) rfl rfl (by kernel_rfl) (by kernel_rfl) (by kernel_rfl) (fun _ _ _ h => h) hHeld (by kernel_rfl) ?_
      simp only [Act.put, List.setIfInBounds_toArray, List.set_cons_zero, List.set_cons_succ]
      refine take_at (i := 23) (d := some 33) (v := .bool true) rfl rfl (by kernel_rfl) (by kernel_rfl) (by kernel_rfl) (fun _ _ _ h => h) hHeld (by kernel_rfl) (fun w' hSw => by (try dsimp only at hSw); go_split_ands; go_simp) ?_
      simp only [Act.put, List.setIfInBounds_toArray, List.set_cons_zero, List.set_cons_succ]
      refine wpAnyH_done (by kernel_rfl) ?_ _
      go_wp2_with fail
      go_ret
      exact ⟨retB HF.out.symm, HB1.out⟩
    | true =>
      have HT := Lib.hid hr; clear hr
      rcases Nat.eq_zero_or_pos k with hk0 | hk0
      · subst hk0
        simp only [Nat.zero_mul, Nat.add_zero] at r0 r1 r2 r3 r4 hki hlt ⊢
        go_wp2_with fail
        refine wp_region_held_drew (S := fun w' => w'.cell? ⟨g, o, none⟩ = some (.int .i64 s.id) ∧ w'.cell? ⟨g, o + 1, none⟩ = some (.int .i64 s.size) ∧ w'.cell? ⟨g, o + 2, none⟩ = some a ∧ w'.cell? ⟨g, o + 3, none⟩ = some b ∧ w'.cell? ⟨g, o + 4, none⟩ = some c) (by kernel_rfl) ⟨r0, r1, r2, r3, r4⟩ (fun hHeld => ?_)
        refine take_at (i := 0) (d := some 10) (v := .slice (some ⟨g, o, none⟩) N cp) rfl rfl (by kernel_rfl) (by kernel_rfl) (by kernel_rfl) (fun _ _ _ h => h) hHeld (by kernel_rfl) (fun w' hSw => by (try dsimp only at hSw); go_split_ands; go_simp) ?_
        simp only [Act.put, List.setIfInBounds_toArray, List.set_cons_zero, List.set_cons_succ]
        refine take_at (i := 1) (d := some 11) (v := .int .i64 0) rfl rfl (by kernel_rfl) (by kernel_rfl) (by kernel_rfl) (fun _ _ _ h => h) hHeld (by kernel_rfl) (fun w' hSw => by (try dsimp only at hSw); go_split_ands; go_simp) ?_
        simp only [Act.put, List.setIfInBounds_toArray, List.set_cons_zero, List.set_cons_succ]
        refine take_at (i := 2) (d := some 12) (v := .pointer (some ⟨g, o, none⟩)) rfl rfl (by kernel_rfl) (by kernel_rfl) (by kernel_rfl) (fun _ _ _ h => h) hHeld (by kernel_rfl) (fun w' hSw => by (try dsimp only at hSw); go_split_ands; go_simp) ?_
        simp only [Act.put, List.setIfInBounds_toArray, List.set_cons_zero, List.set_cons_succ]
        refine take_at (i := 3) (d := some 13) (v := .agg #[.int .i64 s.id, .int .i64 s.size, a, b, c]) rfl rfl (by kernel_rfl) (by kernel_rfl) (by kernel_rfl) (fun _ _ _ h => h) hHeld (by kernel_rfl) (fun w' hSw => by (try dsimp only at hSw); go_split_ands; go_simp) ?_
        simp only [Act.put, List.setIfInBounds_toArray, List.set_cons_zero, List.set_cons_succ]
        refine wpAnyH_ready (rs := [4]) (by kernel_rfl) (by simp) ?_
        refine AllReadyH.cons rfl (fun K hK => ?_) AllReadyH.nil
        go_simp
        refine (rright_any s _ _ HX.out HM.out).mono ?_
        rintro e w1 ⟨rfl, hb⟩
        have HB1 := Lib.hid (btrans HB.out.drew hb)
        have HSA := Lib.hid (show _ ∧ _ ∧ _ ∧ _ ∧ _ from ⟨cell_stays hb r0, cell_stays hb r1, cell_stays hb r2, cell_stays hb r3, cell_stays hb r4⟩)
        clear hb hHeld r0 r1 r2 r3 r4
        rw [HT.out]
        go_simp
        refine hK.out _ _ HSA.out (fun hHeld => ?_)
        clear hK K
        refine take_at (i := 5) (d := some 15) (v := .bool false) rfl rfl (by kernel_rfl) (by kernel_rfl) (by kernel_rfl) (fun _ _ _ h => h) hHeld (by kernel_rfl) (fun w' hSw => by (try dsimp only at hSw); go_split_ands; go_simp) ?_
        simp only [Act.put, List.setIfInBounds_toArray, List.set_cons_zero, List.set_cons_succ]
        refine take_at (i := 6) (d := some 16) (v := .bool false) rfl rfl (by kernel_rfl) (by kernel_rfl) (by kernel_rfl) (fun _ _ _ h => h) hHeld (by kernel_rfl) (fun w' hSw => by (try dsimp only at hSw); go_split_ands; go_simp) ?_
        simp only [Act.put, List.setIfInBounds_toArray, List.set_cons_zero, List.set_cons_succ]
        refine take_at (i := 7) (d := some 17) (v := .int .i64 0) rfl rfl (by kernel_rfl) (by kernel_rfl) (by kernel_rfl) (fun _ _ _ h => h) hHeld (by kernel_rfl) (fun w' hSw => by (try dsimp only at hSw); go_split_ands; go_simp) ?_
        simp only [Act.put, List.setIfInBounds_toArray, List.set_cons_zero, List.set_cons_succ]
        refine take_at (i := 8) (d := some 18) (v := .bool false) rfl rfl (by kernel_rfl) (by kernel_rfl) (by kernel_rfl) (fun _ _ _ h => h) hHeld (by kernel_rfl) (fun w' hSw => by (try dsimp only at hSw); go_split_ands; go_simp) ?_
        simp only [Act.put, List.setIfInBounds_toArray, List.set_cons_zero, List.set_cons_succ]
        refine take_at (i := 9) (d := some 19) (v := .bool false) rfl rfl (by kernel_rfl) (by kernel_rfl) (by kernel_rfl) (fun _ _ _ h => h) hHeld (by kernel_rfl) (fun w' hSw => by (try dsimp only at hSw); go_split_ands; go_simp) ?_
        simp only [Act.put, List.setIfInBounds_toArray, List.set_cons_zero, List.set_cons_succ]
        refine skip_at (i := 10) (d := some 20) rfl rfl (by kernel_rfl) (by kernel_rfl) (by kernel_rfl) (fun _ _ _ h => h) hHeld (by kernel_rfl) ?_
        simp only [Act.put, List.setIfInBounds_toArray, List.set_cons_zero, List.set_cons_succ]
        refine skip_at (i := 11) (d := some 21) rfl rfl (by kernel_rfl) (by kernel_rfl) (by kernel_rfl) (fun _ _ _ h => h) hHeld (by kernel_rfl) ?_
        simp only [Act.put, List.setIfInBounds_toArray, List.set_cons_zero, List.set_cons_succ]
        refine skip_at (i := 12) (d := some 22) rfl rfl (by kernel_rfl) (by kernel_rfl) (by kernel_rfl) (fun _ _ _ h => h) hHeld (by kernel_rfl) ?_
        simp only [Act.put, List.setIfInBounds_toArray, List.set_cons_zero, List.set_cons_succ]
        refine skip_at (i := 13) (d := some 23) rfl rfl (by kernel_rfl) (by kernel_rfl) (by kernel_rfl) (fun _ _ _ h => h) hHeld (by kernel_rfl) ?_
        simp only [Act.put, List.setIfInBounds_toArray, List.set_cons_zero, List.set_cons_succ]
        refine skip_at (i := 14) (d := some 24) rfl rfl (by kernel_rfl) (by kernel_rfl) (by kernel_rfl) (fun _ _ _ h => h) hHeld (by kernel_rfl) ?_
        simp only [Act.put, List.setIfInBounds_toArray, List.set_cons_zero, List.set_cons_succ]
        refine skip_at (i := 15) (d := some 25) rfl rfl (by kernel_rfl) (by kernel_rfl) (by kernel_rfl) (fun _ _ _ h => h) hHeld (by kernel_rfl) ?_
        simp only [Act.put, List.setIfInBounds_toArray, List.set_cons_zero, List.set_cons_succ]
        refine skip_at (i := 16) (d := some 26) rfl rfl (by kernel_rfl) (by kernel_rfl) (by kernel_rfl) (fun _ _ _ h => h) hHeld (by kernel_rfl) ?_
        simp only [Act.put, List.setIfInBounds_toArray, List.set_cons_zero, List.set_cons_succ]
        refine skip_at (i := 17) (d := some 27) rfl rfl (by kernel_rfl) (by kernel_rfl) (by kernel_rfl) (fun _ _ _ h => h) hHeld (by kernel_rfl) ?_
        simp only [Act.put, List.setIfInBounds_toArray, List.set_cons_zero, List.set_cons_succ]
        refine skip_at (i := 18) (d := some 28) rfl rfl (by kernel_rfl) (by kernel_rfl) (by kernel_rfl) (fun _ _ _ h => h) hHeld (by kernel_rfl) ?_
        simp only [Act.put, List.setIfInBounds_toArray, List.set_cons_zero, List.set_cons_succ]
        refine skip_at (i := 19) (d := some 29) rfl rfl (by kernel_rfl) (by kernel_rfl) (by kernel_rfl) (fun _ _ _ h => h) hHeld (by kernel_rfl) ?_
        simp only [Act.put, List.setIfInBounds_toArray, List.set_cons_zero, List.set_cons_succ]
        refine skip_at (i := 20) (d := some 30) rfl rfl (by kernel_rfl) (by kernel_rfl) (by kernel_rfl) (fun _ _ _ h => h) hHeld (by kernel_rfl) ?_
        simp only [Act.put, List.setIfInBounds_toArray, List.set_cons_zero, List.set_cons_succ]
        refine skip_at (i := 21) (d := some 31) rfl rfl (by kernel_rfl) (by kernel_rfl) (by kernel_rfl) (fun _ _ _ h => h) hHeld (by kernel_rfl) ?_
        simp only [Act.put, List.setIfInBounds_toArray, List.set_cons_zero, List.set_cons_succ]
        refine take_at (i := 22) (d := some 32) (v := .bool false) rfl rfl (by kernel_rfl) (by kernel_rfl) (by kernel_rfl) (fun _ _ _ h => h) hHeld (by kernel_rfl) (fun w' hSw => by (try dsimp only at hSw); go_split_ands; go_simp) ?_
        simp only [Act.put, List.setIfInBounds_toArray, List.set_cons_zero, List.set_cons_succ]
        refine take_at (i := 23) (d := some 33) (v := .bool false) rfl rfl (by kernel_rfl) (by kernel_rfl) (by kernel_rfl) (fun _ _ _ h => h) hHeld (by kernel_rfl) (fun w' hSw => by (try dsimp only at hSw); go_split_ands; go_simp) ?_
        simp only [Act.put, List.setIfInBounds_toArray, List.set_cons_zero, List.set_cons_succ]
        refine wpAnyH_done (by kernel_rfl) ?_ _
        go_wp2_with fail
        go_roundw
        case rel =>
          refine ⟨1, by omega, by go_num, fun j a' hj hx' => ?_, fun j a b hj => by omega, HB1.out⟩
          obtain rfl : j = 0 := by omega
          rw [HS.out] at hx'; cases hx'; exact HT.out
        case measure => simp [intOf]; omega
      · obtain ⟨m, hm⟩ : ∃ m, k = m + 1 := ⟨k - 1, by omega⟩
        obtain ⟨t, ht⟩ : ∃ t, x[m]? = some t := ⟨_, List.getElem?_eq_getElem (by rw [HN.out]; omega)⟩
        obtain ⟨_, _, g', o', a', b', c', hp', f0, _⟩ := HA.out m t ht
        cases hp'
        have t0 : wr.drew.cell? ⟨g, o + m * 5, none⟩ = some (.int .i64 t.id) := cell_stays HB.out f0
        have e5 : IntKind.i64.wrap ((k : Int) - 1) = (m : Int) := by rw [IntKind.wrap_i64]; omega
        have e6 : (m : Int) < (N : Int) := by omega
        have hg3 : decide (0 < k) = true := by simpa using hk0
        have HTT := Lib.hid ht; have HMM := Lib.hid hm
        clear ht hm f0
        by_cases hxy : t.id < s.id
        · have hdb : decide (s.id ≤ t.id) = false := by rw [decide_eq_false_iff_not]; omega
          have HXY := Lib.hid hxy; clear hxy
          go_wp2_with fail
          go_region_held3 (fun w' => w'.cell? ⟨g, o + k * 5, none⟩ = some (.int .i64 s.id) ∧ w'.cell? ⟨g, o + k * 5 + 1, none⟩ = some (.int .i64 s.size) ∧ w'.cell? ⟨g, o + k * 5 + 2, none⟩ = some a ∧ w'.cell? ⟨g, o + k * 5 + 3, none⟩ = some b ∧ w'.cell? ⟨g, o + k * 5 + 4, none⟩ = some c ∧ w'.cell? ⟨g, o + m * 5, none⟩ = some (.int .i64 t.id))
            (first | exact ⟨r0, r1, r2, r3, r4, t0⟩ | exact HSA.out)
            (((with_reducible refine (rright_any s _ _ HX.out HM.out).mono ?_); rintro e w1 ⟨rfl, hb⟩; rw [HT.out]; have HB1 := Lib.hid (btrans HB.out.drew hb); have HSA := Lib.hid (show _ ∧ _ ∧ _ ∧ _ ∧ _ ∧ _ from ⟨cell_stays hb r0, cell_stays hb r1, cell_stays hb r2, cell_stays hb r3, cell_stays hb r4, cell_stays hb t0⟩); clear hb))
          clear r0 r1 r2 r3 r4 t0
          go_wp2_with fail
          go_roundw
          case rel =>
            refine ⟨k + 1, by omega, by go_num, fun j a' hj hx' => ?_, fun j a' b' hj hx' hy' => ?_, HB1.out⟩
            · by_cases e : j = k
              · subst e; rw [HS.out] at hx'; cases hx'; exact HT.out
              · exact HAL.out j a' (by omega) hx'
            · by_cases e : j + 1 = k
              · obtain rfl : j = m := by have := HMM.out; omega
                rw [HTT.out] at hx'; rw [e, HS.out] at hy'; cases hx'; cases hy'; exact HXY.out
              · exact HOR.out j a' b' (by omega) hx' hy'
          case measure => simp [intOf]; omega
        · have hdb : decide (s.id ≤ t.id) = true := by rw [decide_eq_true_eq]; omega
          have hdi : s.id ≤ t.id := by omega
          have HF := Lib.hid (mayVB_no_order HTT.out (show x[m + 1]? = some s by rw [← HMM.out]; exact HS.out) hxy)
          clear hxy
          go_wp2_with fail
          go_region_held3 (fun w' => w'.cell? ⟨g, o + k * 5, none⟩ = some (.int .i64 s.id) ∧ w'.cell? ⟨g, o + k * 5 + 1, none⟩ = some (.int .i64 s.size) ∧ w'.cell? ⟨g, o + k * 5 + 2, none⟩ = some a ∧ w'.cell? ⟨g, o + k * 5 + 3, none⟩ = some b ∧ w'.cell? ⟨g, o + k * 5 + 4, none⟩ = some c ∧ w'.cell? ⟨g, o + m * 5, none⟩ = some (.int .i64 t.id))
            (first | exact ⟨r0, r1, r2, r3, r4, t0⟩ | exact HSA.out)
            (((with_reducible refine (rright_any s _ _ HX.out HM.out).mono ?_); rintro e w1 ⟨rfl, hb⟩; rw [HT.out]; have HB1 := Lib.hid (btrans HB.out.drew hb); have HSA := Lib.hid (show _ ∧ _ ∧ _ ∧ _ ∧ _ ∧ _ from ⟨cell_stays hb r0, cell_stays hb r1, cell_stays hb r2, cell_stays hb r3, cell_stays hb r4, cell_stays hb t0⟩); clear hb))
          clear r0 r1 r2 r3 r4 t0
          go_wp2_with fail
          go_ret
          exact ⟨retB HF.out.symm, HB1.out⟩
end Go.Proofs.Ytpcmihgfcaelfaa
namespace Go.Proofs.Ytpcmihgfcaelfaa
open Go.RowKit

/-- the world as if just the blocks of F bore cells -/
noncomputable def mask (F : Nat → Prop) (w : World) : World := { w with heap := w.heap.mapIdx fun i o => @ite _ (F i) (Classical.propDecidable _) o (.map #[] 0) }
theorem mask_cell {F : Nat → Prop} {w : World} {a : Addr} {v : Value} : (mask F w).cell? a = some v ↔ F a.block ∧ w.cell? a = some v := by
  unfold mask World.cell?
  simp only [Array.getElem?_mapIdx]
  cases h : w.heap[a.block]? with
  | none => simp
  | some o =>
    by_cases hf : F a.block
    · simp [hf]
    · simp [hf]
theorem mask_keeps {F F' : Nat → Prop} {w w' : World} (h : ∀ (a : Addr) (v : Value), F a.block → w.cell? a = some v → F' a.block ∧ w'.cell? a = some v) : Keeps (mask F w) (mask F' w') := fun a v hv => by
  rw [mask_cell] at hv ⊢; exact h a v hv.1 hv.2
theorem unmask {F : Nat → Prop} {w : World} : Keeps (mask F w) w := fun _a _v hv => (mask_cell.1 hv).2
theorem mask_all {w : World} : Keeps w (mask (fun b => b < w.heap.size) w) := fun _ _ hv => mask_cell.2 ⟨World.block_lt_of_cell? _ _ hv, hv⟩
/-- what lay ahead of block B reads on, apart from a row that lies from B on -/
theorem mask_old {w W : World} {v : Value} (hb : Below w.heap.size w W) (hv : ∀ k, v.ownBlock = some k → w.heap.size ≤ k) : Keeps w (mask (fun b => some b ≠ v.ownBlock) W) := fun a u hu => by
  have hl := World.block_lt_of_cell? _ _ hu
  exact mask_cell.2 ⟨fun e => by have := hv _ e.symm; omega, cell_stays hb hu⟩

def volCs (d : VoD) (r : Value × Value × Value) : List Value := [.int .i64 d.id, .int .i64 d.size, r.1, r.2.1, r.2.2]
def volRows (l : List (VoD × (Value × Value × Value))) : List Value := (l.map fun x => volCs x.1 x.2).flatten
theorem volRows_snoc (l : List (VoD × (Value × Value × Value))) (x : VoD × (Value × Value × Value)) : volRows (l ++ [x]) = volRows l ++ volCs x.1 x.2 := by unfold volRows; rw [List.map_append, List.flatten_append]; simp
theorem volRows_len (l : List (VoD × (Value × Value × Value))) : (volRows l).length = l.length * 5 := by
  induction l with
  | nil => rfl
  | cons a l ih =>
    unfold volRows volCs at ih ⊢
    simp only [List.map_cons, List.flatten_cons, List.length_append, List.length_cons, List.length_nil, ih]; omega
theorem volRows_cell (l : List (VoD × (Value × Value × Value))) : ∀ (i : Nat) x, l[i]? = some x → ∀ j u, (volCs x.1 x.2)[j]? = some u → (volRows l)[i * 5 + j]? = some u := by
  induction l with
  | nil => intro i x h; simp at h
  | cons a l ih =>
    intro i x h j u hj
    have e : volRows (a :: l) = volCs a.1 a.2 ++ volRows l := by unfold volRows; simp
    have e5 : (volCs a.1 a.2).length = 5 := rfl
    rw [e]
    cases i with
    | zero =>
      simp only [List.getElem?_cons_zero, Option.some.injEq] at h; subst h
      have hj2 := (List.getElem?_eq_some_iff.1 hj).1
      rw [Nat.zero_mul, Nat.zero_add, List.getElem?_append_left hj2]; exact hj
    | succ i =>
      rw [List.getElem?_cons_succ] at h
      rw [List.getElem?_append_right (by omega), e5, show (i + 1) * 5 + j - 5 = i * 5 + j by omega]
      exact ih i x h j u hj
/-- a row of volumes that the call owns; their trees lie elsewhere -/
def OwnVols (w : World) (B : Nat) (v : Value) (l : List VoD) : Prop :=
  ∃ xs : List (VoD × (Value × Value × Value)), xs.map Prod.fst = l ∧ w.ownsRow B 45 5 v l.length (volRows xs) ∧ ∀ x ∈ xs, i64B x.1.id ∧ i64B x.1.size ∧ NodeAt (mask (fun b => some b ≠ v.ownBlock) w) x.1.map x.2.1 x.2.2.1 x.2.2.2
theorem OwnVols.at {w : World} {B : Nat} {v : Value} {l : List VoD} (h : OwnVols w B v l) : VolsAt w v l := by
  obtain ⟨xs, rfl, hown, hx⟩ := h
  rw [List.length_map] at hown
  rcases ow_slice hown with ⟨hv, hn, _⟩ | ⟨g, cap, hv⟩
  · exact ⟨none, 0, by rw [hv, List.length_map, hn], by rw [List.length_map]; omega, by unfold maxLen; omega, fun i x hx => by rw [List.eq_nil_of_length_eq_zero hn] at hx; simp at hx⟩
  · subst hv
    obtain ⟨_, _, _, h3, h4, _⟩ := own_block hown
    refine ⟨_, cap, by rw [List.length_map], by rw [List.length_map]; exact h3, h4, fun i d hd => ?_⟩
    rw [List.getElem?_map] at hd
    cases hxi : xs[i]? with
    | none => rw [hxi] at hd; simp at hd
    | some x =>
      rw [hxi] at hd
      simp only [Option.map_some, Option.some.injEq] at hd
      subst hd
      obtain ⟨i1, i2, i3⟩ := hx x (List.mem_of_getElem? hxi)
      have hl := volRows_len xs
      have hi := (List.getElem?_eq_some_iff.1 hxi).1
      have hc : ∀ j u, (volCs x.1 x.2)[j]? = some u → w.cell? ⟨g, 0 + i * 5 + j, none⟩ = some u := fun j u hj => by
        have h5 : j < 5 := (List.getElem?_eq_some_iff.1 hj).1
        have h6 := volRows_cell xs i x hxi j u hj
        obtain ⟨h7, h8⟩ := List.getElem?_eq_some_iff.1 h6
        rw [Nat.zero_add, ow_cell hown (i * 5 + j) h7, h8]
      exact ⟨i1, i2, g, 0, x.2.1, x.2.2.1, x.2.2.2, rfl, hc 0 _ rfl, hc 1 _ rfl, hc 2 _ rfl, hc 3 _ rfl, hc 4 _ rfl, i3.keep unmask⟩
theorem own_lt {w : World} {B : Nat} {e : TypeId} {k n : Nat} {v : Value} {xs : List Value} (h : w.ownsRow B e k v n xs) {b : Nat} (hb : v.ownBlock = some b) : B ≤ b ∧ b < w.heap.size := h.lt _ hb
theorem OwnVols.below {w w' : World} {B : Nat} {v : Value} {l : List VoD} (h : OwnVols w B v l) (hb : Below w.heap.size w w') : OwnVols w' B v l := by
  obtain ⟨xs, h1, hown, hx⟩ := h
  refine ⟨xs, h1, own_belowP hown hb, fun x hxm => ?_⟩
  obtain ⟨i1, i2, i3⟩ := hx x hxm
  exact ⟨i1, i2, i3.keep (mask_keeps fun a u hf hu => ⟨hf, cell_stays hb hu⟩)⟩
theorem OwnVols.nil {w : World} {B : Nat} (hB : B ≤ w.heap.size) : OwnVols (w.alloc (.cells #[] 45)) B (.slice (some ⟨w.heap.size, 0, none⟩) 0 0) [] := by
  refine ⟨[], rfl, ?_, fun x h => by simp at h⟩
  have := World.ownsRow_made w #[] 0 (base := B) (e := 45) (size := 5) hB (by unfold maxLen; omega) rfl
  simpa [volRows] using this
theorem OwnVols.none {w : World} {B : Nat} : OwnVols w B (.slice none 0 0) [] := ⟨[], rfl, World.ownsRow_nil w B _ _, fun x h => by simp at h⟩

theorem infoV : (Try.prog.info? 45).map (fun i => (i.zero, i.size, i.bytes)) = some (some (.agg #[.int .i64 0, .int .i64 0, .slice none 0 0, .slice none 0 0, .slice none 0 0]), 5, 88) := by kernel_rfl
/-- one volume more behind a row of the call's own -/
theorem vol_append (W : World) (B n : Nat) (v : Value) (l : List VoD) (d : VoD) (a b c : Value) (hown : OwnVols W B v l) (hl : l.length = n) (hn : n ≤ 1000000) (hB : B ≤ W.heap.size) (h1 : i64B d.id) (h2 : i64B d.size) (h3 : NodeAt (mask (fun b => some b ≠ v.ownBlock) W) d.map a b c) :
    ∃ g cap w2, (Builtin.append_ #[22, 22] 22 #[v, .slice (some ⟨W.heap.size, 0, none⟩) 1 1]).run Try.prog (W.alloc (.cells #[.int .i64 d.id, .int .i64 d.size, a, b, c] 45)) = .ok (.slice (some ⟨g, 0, none⟩) (n + 1) cap) w2 ∧
      OwnVols w2 B (.slice (some ⟨g, 0, none⟩) (n + 1) cap) (l ++ [d]) ∧ Below B W w2 := by
  obtain ⟨xs, hx0, hown, hx⟩ := hown
  obtain ⟨pa, na, ca, pb, nb, cb, pc, nc, cc, rfl, rfl, rfl⟩ := node_slices h3
  rw [hl] at hown
  obtain ⟨i0, hi0, hz0, hz1, hz2⟩ := info_parts infoV
  obtain ⟨v', w', r1, r2, r3, _, r5⟩ := run_append_own_at (P := Try.prog) (W.alloc (.cells #[.int .i64 d.id, .int .i64 d.size, .slice pa na ca, .slice pb nb cb, .slice pc nc cc] 45)) B 22 22 45 i0 _ 5 88 Try.underlying22 hi0 hz0 hz1 hz2 rfl (by decide) v n _ (hown.alloc _) ⟨W.heap.size, 0, none⟩ 1 1 [.int .i64 d.id, .int .i64 d.size, .slice pa na ca, .slice pb nb cb, .slice pc nc cc] rfl (by
      intro j u hu
      rw [ow_at, World.cell?_alloc_at _ _ _ _ rfl]
      rcases j with _ | _ | _ | _ | _ | j
      · exact hu
      · exact hu
      · exact hu
      · exact hu
      · exact hu
      · simp at hu) (by
      intro u hu; simp only [List.mem_cons, List.not_mem_nil, or_false] at hu
      rcases hu with rfl | rfl | rfl | rfl | rfl <;> rfl) (by unfold maxLen; omega) (by omega) (by simp; omega)
  obtain ⟨g, cap, rfl⟩ := ownsRow_succ r2
  have hk : Keeps (mask (fun b => some b ≠ v.ownBlock) W) (mask (fun b => some b ≠ (Value.slice (some ⟨g, 0, none⟩) (n + 1) cap).ownBlock) w') := mask_keeps fun a u hf hu => by
    have hlt := World.block_lt_of_cell? _ _ hu
    refine ⟨fun e => ?_, r3.cell (cell_stays ((Below.refl _ _).alloc (Nat.le_refl _) _) hu) hf⟩
    rcases r5 with r5 | r5
    · rw [r5] at e; exact hf e
    · rw [r5] at e; injection e with e; simp at e; omega
  refine ⟨g, cap, w', r1, ⟨xs ++ [(d, (.slice pa na ca, .slice pb nb cb, .slice pc nc cc))], by rw [List.map_append, hx0]; rfl, ?_, fun x hxm => ?_⟩, ow_grown (Below.refl _ _) hB hown r3⟩
  · rw [List.length_append, hl, volRows_snoc]; exact r2
  · rw [List.mem_append, List.mem_singleton] at hxm
    rcases hxm with hxm | rfl
    · obtain ⟨i1, i2, i3⟩ := hx x hxm
      exact ⟨i1, i2, i3.keep hk⟩
    · exact ⟨h1, h2, h3.keep hk⟩
end Go.Proofs.Ytpcmihgfcaelfaa
