/- The walk of imprint.plant. · The walk of imprint.vol: a volume out of its numbers. -/
import Derived.Test.YtpcmihgfcaelfaaII
import Derived.Test.YtpcmihgfcaelfaaIE
import Derived.Deep.RegionHeld3
namespace Go.Proofs.Ytpcmihgfcaelfaa
open Go.RowKit

def PlantPost (w : World) (l : List PairD) (e : Ending) (w' : World) : Prop := ∃ t a b c, e = .returned (.agg #[a, b, c]) ∧ Grown l t ∧ NodeAt (mask (OwnF w.heap.size w') w') t a b c ∧ Below w.heap.size w w'
def PLeafLoop (w wp : World) (l : List PairD) (m : Nat) (i v f : Value) (wr : World) : Prop :=
  ∃ k : Nat, k ≤ m ∧ i = .int .i64 k ∧ f = .int .i64 (fromN l.length m k : Nat) ∧ OwnNds wr (w.heap.size + 1) wp.heap.size v (((cutQ l).take k).map leafN) ∧ Below wp.heap.size wp wr
def PLeafIn (wo : World) (p : List PairD) (np : Nat) (i : Value) (wr : World) : Prop :=
  ∃ (k : Nat) (kv vv : Value), k ≤ np ∧ i = .int .i64 k ∧ NdBlk wr wo.heap.size kv vv (.slice none 0 0) ∧ wr.ownsRow (wo.heap.size + 1) 3 1 kv k (intVs ((p.take k).map Prod.fst)) ∧ wr.ownsRow (wo.heap.size + 1) 3 1 vv k (intVs ((p.take k).map Prod.snd)) ∧ Apart kv vv ∧ Apart vv kv ∧ Below wo.heap.size wo wr
def PlantRel (w : World) (l : List PairD) (k : Nat) (v : Value) (wr : World) : Prop :=
  k ≤ 1000000 ∧ ∃ (row : List NodeD) (d : Nat), row.length = k ∧ RowOk row l d ∧ OwnNds wr (w.heap.size + 1) (w.heap.size + 1) v row ∧ NdBlk wr w.heap.size (.slice none 0 0) (.slice none 0 0) (.slice none 0 0) ∧ Below w.heap.size w wr
def POverLoop (w wq : World) (row : List NodeD) (m : Nat) (i v f : Value) (wr : World) : Prop :=
  ∃ k : Nat, k ≤ m ∧ i = .int .i64 k ∧ f = .int .i64 (fromN row.length m k : Nat) ∧ OwnNds wr (w.heap.size + 1) wq.heap.size v (((cutQ row).take k).map overN) ∧ Below wq.heap.size wq wr
theorem slice_facts {lo np hi g c : Nat} (h1 : lo + np = hi) (h2 : hi ≤ g) (h3 : g ≤ c) (h4 : 1 ≤ np) : hi - lo = np ∧ lo ≤ hi ∧ hi ≤ c ∧ ¬ c = lo ∧ (lo : Int) ≤ (hi : Int) ∧ (hi : Int) ≤ (c : Int) ∧ ¬ (lo : Int) < 0 ∧ (0 : Int) ≤ (lo : Int) ∧ (0 : Int) ≤ (hi : Int) := by omega
def POverIn (wc : World) (q : List NodeD) (xs : List Value) (np : Nat) (i : Value) (wr : World) : Prop :=
  ∃ (k : Nat) (kv cv : Value), k ≤ np ∧ i = .int .i64 k ∧ NdBlk wr wc.heap.size kv (.slice none 0 0) cv ∧ wr.ownsRow (wc.heap.size + 1) 3 1 kv k (intVs ((q.take k).map headK)) ∧ wr.ownsRow (wc.heap.size + 1) 43 3 cv k (xs.take (k * 3)) ∧ Below wc.heap.size wc wr
theorem wrap_four {j : Nat} (h : j ≤ 4) : wrap64 ((j : Int) + 1) = (j : Int) + 1 := by unfold wrap64; omega
theorem take_mapW {α : Type} {p : List α} {k : Nat} {s : α} (f : α → Int) (h : p[k]? = some s) : (p.take (k + 1)).map f = (p.take k).map f ++ [f s] := by
  obtain ⟨hk, rfl⟩ := List.getElem?_eq_some_iff.1 h
  rw [List.take_succ_eq_append_getElem hk, List.map_append]; rfl
set_option maxRecDepth 100000 in
set_option maxHeartbeats 8000000 in
theorem plant_any (l : List PairD) (v1 : Value) (w : World) (h1 : PairsAt w v1 l) (hlen : l.length ≤ 900000) (hbd : PBd l) : Calls Try.prog 55 #[v1] w (PlantPost w l) := by
  have HP := Lib.hid h1; have HBD := Lib.hid hbd
  obtain ⟨p, c, rfl, a1, a2, ha⟩ := h1
  clear hbd
  rcases Nat.eq_zero_or_pos l.length with h0 | h0
  · obtain rfl := List.eq_nil_of_length_eq_zero h0
    clear ha h0 hlen
    go_enter Try.func55, Try.ntmps55
    go_wp2_with fail
    refine bodyPost_ret (v := .agg #[.slice none 0 0, .slice none 0 0, .slice none 0 0]) (by simp [results, Try.results55, go_sem]) rfl ?_
    refine ⟨_, _, _, _, rfl, grown_nil, ?_, (Below.refl _ _).alloc (Nat.le_refl _) _⟩
    rw [nodeAt_iff]
    exact ⟨⟨none, 0, rfl, Nat.le_refl _, by unfold maxLen; omega, fun i x hx => by simp [NodeD.keys] at hx⟩, ⟨none, 0, rfl, Nat.le_refl _, by unfold maxLen; omega, fun i x hx => by simp [NodeD.vals] at hx⟩, none, 0, rfl, Nat.le_refl _, by unfold maxLen; omega, fun j t hj => by simp [NodeD.kids] at hj⟩
  obtain ⟨g, o, rfl⟩ : ∃ g o, p = some ⟨g, o, none⟩ := by
    obtain ⟨g, o, e, _⟩ := ha 0 _ (List.getElem?_eq_getElem h0)
    exact ⟨g, o, e⟩
  obtain ⟨n, hn⟩ : ∃ n, l.length = n := ⟨_, rfl⟩
  rw [hn] at a1 hlen h0 HP; rw [hn]
  have HN := Lib.hid hn
  have hnz : ¬ n = 0 := by omega
  have hni : ((n : Int) == 0) = false := by simp; omega
  have HNL := Lib.hid (And.intro a1 (And.intro a2 hlen))
  have HSH := Lib.hid (fun W : World => shares_any n h0 (by omega) W)
  clear ha hn a1 a2 hlen
  go_enter Try.func55, Try.ntmps55
  go_wp2_with fail
  refine (HSH.out _).mono ?_
  rintro e wp ⟨v, rfl, hown, hb⟩
  obtain ⟨m, hm⟩ : ∃ m, manyQ n = m := ⟨_, rfl⟩
  have hm1 : 1 ≤ m := by rw [← hm]; unfold manyQ; omega
  have hm2 : m ≤ 1000000 := by have := HNL.out; rw [← hm]; unfold manyQ; omega
  rw [hm] at hown
  obtain ⟨P, cP, rfl⟩ : ∃ P cP, v = .slice (some ⟨P, 0, none⟩) m cP := by
    rcases ow_slice hown with ⟨_, h, _⟩ | ⟨g', c', h⟩
    · omega
    · exact ⟨_, _, h⟩
  have HBP := Lib.hid (btrans ((Below.refl _ _).alloc (Nat.le_refl _) (.cells #[.slice none 0 0, .slice none 0 0, .slice none 0 0] 43)) hb)
  have HOW := Lib.hid hown; have HZ := Lib.hid ((NdBlk.new w (.slice none 0 0) (.slice none 0 0) (.slice none 0 0)).below hb)
  have HM := Lib.hid hm; have HM2 := Lib.hid hm2; have HWP := Lib.hid (show w.heap.size + 1 ≤ wp.heap.size by have := hb.size; simpa using this)
  have hP := Lib.hid (HP.out.keep (keeps_below HBP.out))
  clear hown hb hm hm2 hni hnz
  go_wp2_with fail
  go_loopw [24, 3, 4] (fun i v f wr => PLeafLoop w wp l m i v f wr) (fun i _ _ _ => m - (intOf i).toNat)
  case atStart => exact ⟨0, Nat.zero_le _, rfl, by simp [fromN], by rw [List.take_zero]; exact OwnNds.none, Below.refl _ _⟩
  case round =>
    obtain ⟨k, hk, rfl, rfl, hnd, hb⟩ := hrel
    obtain ⟨pr, cr, rfl⟩ := hnd.shapeN (n := k) (by rw [List.length_map, List.length_take, cutQ_len, HN.out, HM.out]; exact Nat.min_eq_left hk)
    have HND := Lib.hid hnd; have HB := Lib.hid hb
    clear hnd hb
    by_cases hlt : k < m
    case neg =>
      obtain rfl : k = m := by omega
      have hmm : decide ((k : Int) < (k : Int)) = false := by simp
      go_wp2_with fail
      have hrow : OwnNds wr (w.heap.size + 1) wp.heap.size (.slice pr k cr) ((cutQ l).map leafN) := by
        have h := HND.out
        rw [List.take_of_length_le (show (cutQ l).length ≤ k by rw [cutQ_len, HN.out, HM.out]; exact Nat.le_refl _)] at h
        exact h
      have hok : RowOk ((cutQ l).map leafN) l 1 := leaf_rowG (by have := HN.out; omega) (by have := HN.out; have := HNL.out; omega) (cutQ_ok (by have := HN.out; omega))
      have HREL := Lib.hid (show PlantRel w l ((cutQ l).map leafN).length (.slice pr k cr) wr from
        ⟨by rw [List.length_map, cutQ_len, HN.out, HM.out]; exact HM2.out, _, _, rfl, hok, hrow.mono HWP.out, HZ.out.low HB.out (by have := HWP.out; omega), HBP.out.trans (below_low HB.out (by have := HWP.out; omega))⟩)
      clear hrow hok
      go_loopg [3] ((cutQ l).map leafN).length (fun k v wr => PlantRel w l k v wr)
      case atStart => exact HREL.out
      case round =>
        obtain ⟨hgk, row, d, hrl, hok, hnd, hz, hb⟩ := hrel
        obtain ⟨pr2, cr2, rfl, hs1, hs2, hs3⟩ := hnd.shape
        have HOK := Lib.hid hok; have HRL := Lib.hid hrl; have HGK := Lib.hid hgk; have HND3 := Lib.hid hnd; have HZ3 := Lib.hid hz; have HB3 := Lib.hid hb
        rw [hrl] at hs1 ⊢
        have HCP := Lib.hid (And.intro hs1 (And.intro hs2 hs3))
        clear hgk hok hnd hz hb HREL HB HND HZ hP hs1 hs2 hs3
        by_cases h2 : 2 ≤ gk
        case neg =>
          have hg1 : gk = 1 := by have := HOK.out.some; have := HRL.out; omega
          subst hg1
          obtain ⟨t, rfl⟩ : ∃ t, row = [t] := by
            match row, hrl with
            | [t], _ => exact ⟨t, rfl⟩
          obtain ⟨g7, e7, hkid⟩ := HND3.out.kid (Nat.le_refl _) 0 t rfl
          subst e7
          obtain ⟨g8, o8, x, y, z, e8, c0, c1, c2, hn7⟩ := hkid
          injection e8 with e8; injection e8 with e8 e9
          subst e8; subst e9
          obtain ⟨px, nx, cx, py, ny, cy, pz, nz, cz, rfl, rfl, rfl⟩ := node_slices hn7
          have x0 := (mask_cell.1 c0).2; have x1 := (mask_cell.1 c1).2; have x2 := (mask_cell.1 c2).2
          have HN7 := Lib.hid hn7
          obtain ⟨d0, d1, d2⟩ := HZ3.out.cells
          have f0 := HZ3.out.frozen 0; have f1 := HZ3.out.frozen 1; have f2 := HZ3.out.frozen 2
          simp only [Nat.zero_mul, Nat.zero_add, Nat.add_zero] at x0 x1 x2
          clear c0 c1 c2 hn7 hrl
          go_wp2_with fail
          have hBF := set_below (set_below (set_below HB3.out 0 (.slice px nx cx)) 1 (.slice py ny cy)) 2 (.slice pz nz cz)
          have hNF := ((HN7.out.keep (own_keep (grown_set wr w.heap.size 0 (.slice px nx cx)) (Nat.lt_succ_self _) (Nat.le_refl _))).keep (own_keep (grown_set _ w.heap.size 1 (.slice py ny cy)) (Nat.lt_succ_self _) (Nat.le_refl _))).keep (own_keep (grown_set _ w.heap.size 2 (.slice pz nz cz)) (Nat.lt_succ_self _) (Nat.le_succ _))
          obtain ⟨k0, k1, k2⟩ := (((HZ3.out.set0 (.slice px nx cx)).set1 (.slice py ny cy)).set2 (.slice pz nz cz)).cells
          obtain ⟨WF, hWF⟩ : ∃ W, ((wr.setCell ⟨w.heap.size, 0, none⟩ (.slice px nx cx)).setCell ⟨w.heap.size, 1, none⟩ (.slice py ny cy)).setCell ⟨w.heap.size, 2, none⟩ (.slice pz nz cz) = W := ⟨_, rfl⟩
          rw [hWF] at hBF hNF k0 k1 k2 ⊢
          refine bodyPost_ret (v := .agg #[.slice px nx cx, .slice py ny cy, .slice pz nz cz]) (by simp [results, Try.results55, go_sem, k0, k1, k2]) rfl ?_
          exact ⟨_, _, _, _, rfl, grown_row HOK.out rfl, hNF, hBF⟩
        case pos =>
          obtain ⟨g7, e7, _⟩ := HND3.out.kid (Nat.le_refl _) 0 _ (List.getElem?_eq_getElem (by rw [HRL.out]; omega))
          subst e7
          have HKID := Lib.hid (show ∀ j t, row[j]? = some t → KidAt (mask (OwnF (w.heap.size + 1) wr) wr) (some ⟨g7, 0, none⟩) j t from fun j t hj => by
            obtain ⟨g8, e8, h8⟩ := HND3.out.kid (Nat.le_refl _) j t hj
            injection e8 with e8; injection e8 with e8 e9
            subst e8; exact h8)
          have hgt : decide ((1 : Int) < (gk : Int)) = true := by simp; omega
          have hgt2 : (1 : Int) < (gk : Int) := by omega
          obtain ⟨wo3, hwo3⟩ : ∃ W, W = wr := ⟨_, rfl⟩
          rw [← hwo3] at HND3 HZ3 HB3 HCP HKID ⊢
          clear hwo3
          go_wp2_with fail
          refine (shares_any gk (by omega) HGK.out wo3).mono ?_
          rintro e wq ⟨v, rfl, hown, hbq⟩
          obtain ⟨m2, hm⟩ : ∃ m, manyQ gk = m := ⟨_, rfl⟩
          rw [hm] at hown
          have hn1 : 1 ≤ m2 := by rw [← hm]; unfold manyQ; omega
          have hn2 : m2 ≤ 1000000 := by have := HGK.out; rw [← hm]; unfold manyQ; omega
          have hn3 : m2 < gk := by rw [← hm]; unfold manyQ; omega
          obtain ⟨Q, cQ, rfl⟩ : ∃ Q cQ, v = .slice (some ⟨Q, 0, none⟩) m2 cQ := by
            rcases ow_slice hown with ⟨_, h, _⟩ | ⟨g', c', h⟩
            · omega
            · exact ⟨_, _, h⟩
          have HOW2 := Lib.hid hown; have HBQ := Lib.hid hbq; have HMM := Lib.hid (And.intro hm (And.intro hn2 hn3))
          have HSQ := Lib.hid (show w.heap.size + 1 ≤ wq.heap.size by have h1 := HZ3.out.lt; have h2 := hbq.size; omega)
          clear hown hbq hm hn2 hn3 hgt hgt2
          go_wp2_with fail
          go_loopw [69, 10, 4] (fun i v f wr => POverLoop w wq row m2 i v f wr) (fun i _ _ _ => m2 - (intOf i).toNat)
          case atStart => exact ⟨0, Nat.zero_le _, rfl, by simp [fromN], by rw [List.take_zero]; exact OwnNds.none, Below.refl _ _⟩
          case round =>
            obtain ⟨k2, hk2, rfl, rfl, hnd, hb⟩ := hrel
            obtain ⟨pr3, cr3, rfl⟩ := hnd.shapeN (n := k2) (by rw [List.length_map, List.length_take, cutQ_len, HRL.out, HMM.out.1]; exact Nat.min_eq_left hk2)
            have HND4 := Lib.hid hnd; have HB4 := Lib.hid hb
            clear hnd hb
            by_cases hlt2 : k2 < m2
            case neg =>
              obtain rfl : k2 = m2 := by omega
              have hmm : decide ((k2 : Int) < (k2 : Int)) = false := by simp
              have hover : PlantRel w l k2 (.slice pr3 k2 cr3) wr := by
                have h := HND4.out
                have e2 : (cutQ row).take k2 = cutQ row := List.take_of_length_le (by rw [cutQ_len, HRL.out, HMM.out.1]; exact Nat.le_refl _)
                rw [e2] at h
                exact ⟨HMM.out.2.1, _, _, by rw [List.length_map, cutQ_len, HRL.out, HMM.out.1], over_rowG HOK.out (by rw [HRL.out]; exact h2) (cutQ_ok HOK.out.some), h.mono HSQ.out, (HZ3.out.below HBQ.out).low HB4.out (by have := HSQ.out; omega), (HB3.out.trans (below_low HBQ.out (by have := HZ3.out.lt; omega))).trans (below_low HB4.out (by have := HSQ.out; omega))⟩
              have HOV := Lib.hid hover
              clear hover
              go_wp2_with fail
              go_roundg k2
              case measure => exact HMM.out.2.2
              case rel => exact HOV.out
            case pos =>
              have hki : (k2 : Int) < (m2 : Int) := by omega
              have hwk : wrap64 ((k2 : Int) + 1) = (k2 : Int) + 1 := by have := HMM.out.2.1; unfold wrap64; omega
              obtain ⟨lo, np, hi, e1, e2, e3, e4, e5, e6, e7, e8⟩ := share_nums (n := gk) (by omega) HGK.out (show k2 < manyQ gk by rw [HMM.out.1]; exact hlt2)
              have HE := Lib.hid (And.intro e1 (And.intro e2 e3))
              clear e1 e2 e3
              have hcl : wr.cell? ⟨Q, k2, none⟩ = some (.int .i64 (np : Nat)) := cell_stays HB4.out (by
                have h := sharesQ_at (n := gk) (k := k2) (by rw [HMM.out.1]; exact hlt2)
                obtain ⟨h3, h4⟩ := List.getElem?_eq_some_iff.1 h
                rw [ow_cell HOW2.out k2 h3, h4, HE.out.2.1])
              have HPL := Lib.hid (shareQ_len (l := row) (i := k2) HOK.out.some (by rw [HRL.out, HMM.out.1]; exact hlt2))
              have HKP := Lib.hid (kid_share (i := k2) HOK.out.some (by rw [HRL.out, HMM.out.1]; exact hlt2) (fun j t hj => kid_keep (kid_keep (HKID.out j t hj) (lt_keep HBQ.out)) (lt_below HB4.out)))
              rw [HRL.out]
              have HE1 := Lib.hid (show fromN gk m2 k2 = lo by rw [HE.out.1, HMM.out.1])
              have HE2 := Lib.hid (show shareN gk m2 k2 = np by rw [HE.out.2.1, HMM.out.1])
              have HE3 := Lib.hid (show fromN gk m2 (k2 + 1) = hi by rw [HE.out.2.2, HMM.out.1])
              rw [HRL.out, HMM.out.1, HE1.out] at HKP
              rw [HRL.out, HMM.out.1, HE2.out] at HPL
              rw [HE1.out]
              obtain ⟨q, hq⟩ : ∃ q, shareQ row k2 = q := ⟨_, rfl⟩
              rw [hq] at HKP HPL
              have HHI := Lib.hid (show ((fromN row.length m2 (k2 + 1) : Nat) : Int) = (hi : Int) by rw [HRL.out, HE3.out])
              have HQK := Lib.hid (show ∀ t ∈ q, 1 ≤ t.keys.length from fun t ht => HOK.out.keys t (by rw [← hq] at ht; exact share_mem ht))
              have HQ := Lib.hid hq; have HNP := Lib.hid (And.intro e6 e7)
              obtain ⟨s3, s1, s2, s4, s5, s6, s8, s9, s10⟩ := slice_facts e4 e5 HCP.out.1 e6
              have S3 := Lib.hid s3
              obtain ⟨wo4, hwo4⟩ : ∃ W, W = wr := ⟨_, rfl⟩
              rw [← hwo4] at hcl HB4 HND4 HKP ⊢
              obtain ⟨xs, hsrc, hxs⟩ := kids_src HKP.out
              rw [HPL.out] at hsrc
              have HSRC := Lib.hid hsrc; have HXS := Lib.hid hxs
              clear hq hwo4 hsrc hxs e4 e5 e6 e7 s3
              go_wp2_with fail
              rw [S3.out]
              clear hcl s1 s2 s4 s5 s6 s8 s9 s10
              go_loopw [80] (fun i wr => POverIn wo4 q xs np i wr) (fun i _ => np - (intOf i).toNat)
              case atStart => exact ⟨0, _, _, Nat.zero_le _, rfl, NdBlk.new _ _ _ _, World.ownsRow_nil _ _ _ _, by rw [Nat.zero_mul, List.take_zero]; exact World.ownsRow_nil _ _ _ _, (Below.refl _ _).alloc (Nat.le_refl _) _⟩
              case round =>
                obtain ⟨j, kv, cv, hj, rfl, hbx, hrk, hrc, hb6⟩ := hrel
                obtain ⟨pk, nk, ck, rfl⟩ := own_shape hrk
                obtain ⟨pc, nc, cc, rfl⟩ := own_shape hrc
                have HBX := Lib.hid hbx; have HRK := Lib.hid hrk; have HRC := Lib.hid hrc; have HB6 := Lib.hid hb6
                have HSZ := Lib.hid (show wo3.heap.size ≤ wq.heap.size ∧ wq.heap.size ≤ wo4.heap.size ∧ wo4.heap.size < wr.heap.size ∧ w.heap.size + 1 ≤ wo3.heap.size from ⟨HBQ.out.size, HB4.out.size, hbx.lt, HZ3.out.lt⟩)
                by_cases hlt3 : j < np
                case neg =>
                  obtain rfl : j = np := by clear e8 hwk; omega
                  have hmm : decide ((j : Int) < (j : Int)) = false := by simp
                  obtain ⟨x0, x1, x2⟩ := hbx.cells
                  obtain ⟨gr, cr5, hcv⟩ : ∃ gr cr5, (Value.slice pc nc cc) = .slice (some ⟨gr, 0, none⟩) j cr5 := by
                    rcases ow_slice hrc with ⟨_, h, _⟩ | ⟨g', c', h⟩
                    · have := HNP.out.1; clear e8 hwk; omega
                    · exact ⟨_, _, h⟩
                  rw [hcv] at x2 HRC
                  clear hcv hbx hrk hrc hb6
                  have HT := Lib.hid (show q.take j = q from List.take_of_length_le (by rw [HPL.out]; exact Nat.le_refl _))
                  have HT2 := Lib.hid (show xs.take (j * 3) = xs from List.take_of_length_le (by rw [HSRC.out.1]; exact Nat.le_refl _))
                  have hover := over_at (W := wr) (B := wo4.heap.size + 1) (B0 := w.heap.size + 1) (D := wo3.heap.size) (Dc := wo4.heap.size + 1) (kv := .slice pk nk ck) (gr := gr) (cr := cr5) (q := q) (xs := xs) (by rw [HPL.out]; exact HNP.out.1) (by have := HRK.out; rw [HT.out] at this; rw [HPL.out]; exact this)
                    (fun t ht => by
                      obtain ⟨i, hi⟩ := List.getElem?_of_mem ht
                      obtain ⟨_, _, _, _, _, _, _, _, _, hn⟩ := HKP.out i t hi
                      obtain ⟨_, _, _, _, _, _, h, _⟩ := head_bd hn (HQK.out t ht)
                      exact h)
                    (Nat.le_trans HSQ.out (Nat.le_trans HSZ.out.2.1 (Nat.le_succ _))) (Nat.le_trans HSZ.out.1 (Nat.le_trans HSZ.out.2.1 (Nat.le_succ _))) (v := .slice pr3 k2 cr3) (fun b hb => ⟨Nat.le_trans HSZ.out.1 (HND4.out.block b hb).1, Nat.lt_succ_of_lt (HND4.out.block b hb).2⟩) (Nat.le_trans HSZ.out.1 (Nat.le_trans HSZ.out.2.1 (Nat.le_succ _))) (Nat.le_refl _) HSZ.out.2.2.2 (by have := HRC.out; rw [HT2.out] at this; rw [HPL.out]; exact this)
                    (fun i t hi => by
                      obtain ⟨x, y, z, e1, e2, e3, e4⟩ := HXS.out i t hi
                      exact ⟨x, y, z, e1, e2, e3, e4.keep (lt_below HB6.out)⟩)
                  rw [HPL.out] at hover
                  obtain ⟨gn, cn, w7, hrun, hown7, hb7⟩ := nd_append wr (w.heap.size + 1) wq.heap.size k2 _ _ (overN q) _ _ _ (HND4.out.below HB6.out) (by rw [List.length_map, List.length_take, cutQ_len, HRL.out, HMM.out.1]; exact Nat.min_eq_left hk2) (Nat.le_trans hk2 HMM.out.2.1) (Nat.le_trans HSZ.out.2.1 (Nat.le_of_lt HSZ.out.2.2.1)) hover
                  have HRUN := Lib.hid hrun
                  have HND7 := Lib.hid (show OwnNds w7 (w.heap.size + 1) wq.heap.size (.slice (some ⟨gn, 0, none⟩) (k2 + 1) cn) (((cutQ row).take (k2 + 1)).map overN) by
                    rw [List.take_succ_eq_append_getElem (by rw [cutQ_len, HRL.out, HMM.out.1]; exact hlt2), List.map_append]
                    have e : (cutQ row)[k2]? = some q := by rw [cutQ_get (by rw [HRL.out, HMM.out.1]; exact hlt2), HQ.out]
                    obtain ⟨_, e⟩ := List.getElem?_eq_some_iff.1 e
                    rw [e]; exact hown7)
                  have HB7 := Lib.hid (show Below wq.heap.size wq w7 from (HB4.out.trans (below_low HB6.out HB4.out.size)).trans hb7)
                  clear hover hrun hown7 hb7 hki
                  go_wp2_with (at_builtin; refine Lib.wpList_append_run _ rfl _ _ _ _ rfl _ _ rfl rfl _ _ HRUN.out ?_)
                  go_roundw
                  case rel => exact ⟨k2 + 1, Nat.succ_le_of_lt hlt2, by go_num, by rw [HHI.out, e8], HND7.out, HB7.out⟩
                  case measure => first | exact meas_step hlt2 | (have hm := meas_step hlt2; rw [← hwk] at hm; exact hm)
                case pos =>
                  have hji : (j : Int) < (np : Int) := by clear e8 hwk; omega
                  have hwj := wrap_four (Nat.le_trans hj HNP.out.2)
                  obtain ⟨s, hs⟩ : ∃ s, q[j]? = some s := ⟨_, List.getElem?_eq_getElem (by rw [HPL.out]; exact hlt3)⟩
                  obtain ⟨g9, o9, x, y, z, e9, c0, c1, c2, hn9⟩ := HKP.out j s hs
                  injection e9 with e9; injection e9 with e9 e10
                  subst e9; subst e10
                  obtain ⟨gk2, ok2, nx, cx, rfl, hx1, _, hx3⟩ := head_bd hn9 (HQK.out s (List.mem_of_getElem? hs))
                  obtain ⟨_, _, _, py, ny, cy, pz, nz, cz, _, rfl, rfl⟩ := node_slices hn9
                  obtain ⟨u0, u1, u2, t0, t1, t2, _⟩ := HXS.out j s hs
                  have v0 := HSRC.out.2.2.2 _ rfl _ _ t0
                  have v1 := HSRC.out.2.2.2 _ rfl _ _ t1
                  have v2 := HSRC.out.2.2.2 _ rfl _ _ t2
                  rw [ow_at'] at v0 v1 v2
                  rw [Option.some.inj (v0.symm.trans (mask_cell.1 c0).2)] at t0
                  rw [Option.some.inj (v1.symm.trans (mask_cell.1 c1).2)] at t1
                  rw [Option.some.inj (v2.symm.trans (mask_cell.1 c2).2)] at t2
                  have HT3 := Lib.hid (take3 t0 t1 t2)
                  clear v0 v1 v2 t0 t1 t2
                  have r0 := cell_stays HB6.out (mask_cell.1 c0).2; have r1 := cell_stays HB6.out (mask_cell.1 c1).2; have r2 := cell_stays HB6.out (mask_cell.1 c2).2; have r3 := cell_stays HB6.out (mask_cell.1 hx3).2
                  have HS := Lib.hid hs
                  obtain ⟨W1, hW1⟩ : ∃ W, wr.alloc (.cells #[.slice (some ⟨gk2, ok2, none⟩) nx cx, .slice py ny cy, .slice pz nz cz] 43) = W := ⟨_, rfl⟩
                  have hb7 : Below wr.heap.size wr W1 := by rw [← hW1]; exact (Below.refl _ _).alloc (Nat.le_refl _) _
                  have b1 : NdBlk W1 wr.heap.size (.slice (some ⟨gk2, ok2, none⟩) nx cx) (.slice py ny cy) (.slice pz nz cz) := by rw [← hW1]; exact NdBlk.new _ _ _ _
                  obtain ⟨hd, hhd⟩ : ∃ h, headK s = h := ⟨_, rfl⟩
                  rw [hhd] at hx3 r3
                  have HHD := Lib.hid hhd
                  have r3' := cell_stays hb7 r3
                  obtain ⟨q0, q1, q2⟩ := b1.cells
                  have hbx1 := hbx.below hb7
                  obtain ⟨x0, x1, x2⟩ := hbx1.cells
                  have hnx : 0 < nx := hx1
                  have x0b : (W1.alloc (.cells #[.int .i64 hd] 3)).cell? ⟨wo4.heap.size, 0, none⟩ = some (.slice pk nk ck) := cell_stays ((Below.refl _ _).alloc (Nat.le_refl _) _) x0
                  have hlt5 : wo4.heap.size < W1.heap.size := hbx1.lt
                  have hne1 : wr.heap.size ≠ wo4.heap.size := Nat.ne_of_gt hbx.lt
                  have hne2 : some wr.heap.size ≠ (Value.slice pk nk ck).ownBlock := fun e => Nat.lt_irrefl _ (HRK.out.lt _ e.symm).2
                  obtain ⟨g1, c8, w7, ra1, bx1, bx2, ro1, ro2, bl1, kc1⟩ := push_key2 (W := W1.drew) hd hbx1 (World.ownsRow.drew (own_belowP HRK.out hb7)) (World.ownsRow.drew (own_belowP HRC.out hb7)) (Nat.le_trans hj (Nat.le_trans HNP.out.2 (by decide)))
                  have f0 := bx1.frozen 0
                  have d0 := bx1.cells.1
                  have z0 := kc1 ⟨wr.heap.size, 0, none⟩ _ q0 hne2 hne1
                  have z1 := kc1 ⟨wr.heap.size, 1, none⟩ _ q1 hne2 hne1
                  have z2 := kc1 ⟨wr.heap.size, 2, none⟩ _ q2 hne2 hne1
                  obtain ⟨w8, hw8⟩ : ∃ W, w7.setCell ⟨wo4.heap.size, 0, none⟩ (.slice (some ⟨g1, 0, none⟩) (j + 1) c8) = W := ⟨_, rfl⟩
                  rw [hw8] at bx2 ro1 ro2 bl1 z0 z1 z2
                  obtain ⟨g2, c9, w9, ra2, bx3, bx4, ro3, ro4, bl2⟩ := push_kid (pa := some ⟨gk2, ok2, none⟩) (na := nx) (ca := cx) (pb := py) (nb := ny) (cb := cy) (pc := pz) (nc := nz) (cc := cz) bx2 ro1 ro2 (Nat.le_trans hj (Nat.le_trans HNP.out.2 (by decide)))
                  have HRA := Lib.hid ra1; have HRA2 := Lib.hid ra2; have HX4 := Lib.hid bx4; have HO3 := Lib.hid ro3; have HO4 := Lib.hid ro4
                  have HB8 := Lib.hid (((HB6.out.trans (below_low hb7 HB6.out.size)).trans (show Below wo4.heap.size W1 _ from ((Below.refl _ _).drew).trans bl1)).trans bl2)
                  obtain ⟨_, _, y2⟩ := bx2.cells
                  obtain ⟨_, _, d2⟩ := bx3.cells
                  have f2 := bx3.frozen 2
                  clear ra1 ra2 bx1 bx2 bx3 bx4 ro1 ro2 ro3 ro4 bl1 bl2 kc1 hbx1 hbx hrk hrc hb6 hb7 b1 hs c0 c1 c2 hn9 hx3 hhd hx1 hne1 hne2
                  go_upto_region 28 with fail
                  have HW1 := Lib.hid hW1; have HW8 := Lib.hid hw8
                  clear hW1 hw8
                  go_region_law (refine step_append_run rfl _ _ _ rfl rfl rfl HRA.out ?_)
                  all_goals
                    rw [HW8.out]
                    clear r0 r1 r2 r3 r3' q0 q1 q2 x0 x1 x2 x0b hlt5 d0 f0 hnx e8 hwk hki
                    go_upto_region 30 with (at_builtin; refine Lib.wpList_append_run _ rfl _ _ _ _ rfl _ _ rfl rfl _ _ HRA2.out ?_)
                    clear y2 d2 f2 z0 z1 z2
                    go_wp2_with fail
                    go_roundw
                    case rel =>
                      refine ⟨j + 1, _, _, hlt3, by go_num, HX4.out, ?_, ?_, HB8.out⟩
                      · rw [take_mapW _ HS.out, HHD.out]; exact HO4.out
                      · rw [HT3.out]; exact HO3.out
                    case measure => first | exact meas_step hlt3 | (have hm := meas_step hlt3; rw [← hwj] at hm; exact hm)
    case pos =>
      have hki : (k : Int) < (m : Int) := by omega
      have hwk : wrap64 ((k : Int) + 1) = (k : Int) + 1 := by have := HM2.out; unfold wrap64; omega
      have HPA := Lib.hid (pairs_share (i := k) (by have := HN.out; omega) (by rw [HN.out, HM.out]; exact hlt) hP.out)
      obtain ⟨lo, np, hi, e1, e2, e3, e4, e5, e6, e7, e8⟩ := share_nums h0 (by have := HNL.out; omega) (show k < manyQ n by rw [HM.out]; exact hlt)
      have HE := Lib.hid (And.intro e1 (And.intro e2 e3))
      clear e1 e2 e3
      have hcl : wr.cell? ⟨P, k, none⟩ = some (.int .i64 (np : Nat)) := cell_stays HB.out (by
        have h := sharesQ_at (n := n) (k := k) (by rw [HM.out]; exact hlt)
        obtain ⟨h3, h4⟩ := List.getElem?_eq_some_iff.1 h
        rw [ow_cell HOW.out k h3, h4, HE.out.2.1])
      have HPL := Lib.hid (shareQ_len (l := l) (i := k) (by have := HN.out; omega) (by rw [HN.out, HM.out]; exact hlt))
      rw [HN.out]
      have HE1 := Lib.hid (show fromN n m k = lo by rw [HE.out.1, HM.out])
      have HE2 := Lib.hid (show shareN n m k = np by rw [HE.out.2.1, HM.out])
      have HE3 := Lib.hid (show fromN n m (k + 1) = hi by rw [HE.out.2.2, HM.out])
      rw [HN.out, HM.out, HE1.out] at HPA
      rw [HN.out, HM.out, HE2.out] at HPL
      rw [HE1.out]
      obtain ⟨q, hq⟩ : ∃ q, shareQ l k = q := ⟨_, rfl⟩
      rw [hq] at HPA HPL
      have hnpl : np ≤ n := by omega
      have HHI := Lib.hid (show ((fromN l.length m (k + 1) : Nat) : Int) = (hi : Int) by rw [HN.out, HE3.out])
      have HNP := Lib.hid hnpl; have HQ := Lib.hid hq
      have s1 : lo ≤ hi := by omega
      have s2 : hi ≤ c := by have := HNL.out; omega
      have S3 := Lib.hid (show hi - lo = np by omega)
      have S4 := Lib.hid e4
      have s4 : ¬ c = lo := by have := HNL.out; omega
      have s5 : (lo : Int) ≤ (hi : Int) := by omega
      have s6 : (hi : Int) ≤ (c : Int) := by omega
      have s8 : ¬ (lo : Int) < 0 := by omega
      have s9 : (0 : Int) ≤ (lo : Int) := by omega
      have s10 : (0 : Int) ≤ (hi : Int) := by omega
      have S5 := Lib.hid (And.intro e5 (And.intro e6 e7))
      clear hq hnpl e4 e5 e6 e7
      obtain ⟨wo, hwo⟩ : ∃ W, W = wr := ⟨_, rfl⟩
      rw [← hwo] at hcl HB HND ⊢
      clear hwo
      go_wp2_with fail
      rw [S3.out]
      clear hcl s1 s2 s4 s5 s6 s8 s9 s10
      go_loopw [35] (fun i wr => PLeafIn wo q np i wr) (fun i _ => np - (intOf i).toNat)
      case atStart => exact ⟨0, _, _, Nat.zero_le _, rfl, NdBlk.new _ _ _ _, World.ownsRow_nil _ _ _ _, World.ownsRow_nil _ _ _ _, .inl rfl, .inl rfl, (Below.refl _ _).alloc (Nat.le_refl _) _⟩
      case round =>
        obtain ⟨j, kv, vv, hj, rfl, hbx, hrk, hrv, hap, hap', hb2⟩ := hrel
        obtain ⟨pk, nk, ck, rfl⟩ := own_shape hrk
        obtain ⟨pv, nv, cv, rfl⟩ := own_shape hrv
        have HBX := Lib.hid hbx; have HRK := Lib.hid hrk; have HRV := Lib.hid hrv; have HAP := Lib.hid hap; have HAP' := Lib.hid hap'; have HB2 := Lib.hid hb2
        by_cases hlt2 : j < np
        case neg =>
          obtain rfl : j = np := by omega
          have hmm : decide ((j : Int) < (j : Int)) = false := by simp
          obtain ⟨x0, x1, x2⟩ := hbx.cells
          clear hbx hrk hrv hap hap' hb2
          have HT := Lib.hid (show q.take j = q from List.take_of_length_le (by rw [HPL.out]; exact Nat.le_refl _))
          have hleaf := leaf_at (W := wr) (B := wo.heap.size + 1) (B0 := w.heap.size + 1) (kv := .slice pk nk ck) (vv := .slice pv nv cv) (p := q) (by rw [← HQ.out]; exact share_bd HBD.out) (by have := HRK.out; rw [HT.out] at this; rw [HPL.out]; exact this) (by have := HRV.out; rw [HT.out] at this; rw [HPL.out]; exact this)
            (by have := HWP.out; have := HB.out.size; omega) (v := .slice pr k cr) (fun b hb => by have := (HND.out.block b hb).2; omega)
          have hb3 : Below wo.heap.size wo wr := HB2.out
          obtain ⟨gn, cn, w4, hrun, hown4, hb4⟩ := nd_append wr (w.heap.size + 1) wp.heap.size k _ _ (leafN q) _ _ _ (HND.out.below hb3) (by rw [List.length_map, List.length_take, cutQ_len, HN.out, HM.out]; omega) (by have := HM2.out; omega) (by have := HB.out.size; have := hb3.size; omega) hleaf
          have HRUN := Lib.hid hrun
          have HND4 := Lib.hid (show OwnNds w4 (w.heap.size + 1) wp.heap.size (.slice (some ⟨gn, 0, none⟩) (k + 1) cn) (((cutQ l).take (k + 1)).map leafN) by
            rw [List.take_succ_eq_append_getElem (by rw [cutQ_len, HN.out, HM.out]; exact hlt), List.map_append]
            have e : (cutQ l)[k]? = some q := by rw [cutQ_get (by rw [HN.out, HM.out]; exact hlt), HQ.out]
            obtain ⟨_, e⟩ := List.getElem?_eq_some_iff.1 e
            rw [e]; exact hown4)
          have HB4 := Lib.hid (show Below wp.heap.size wp w4 from (HB.out.trans (below_low hb3 HB.out.size)).trans hb4)
          clear hleaf hrun hown4 hb4 hb3 hki
          go_wp2_with (at_builtin; refine Lib.wpList_append_run _ rfl _ _ _ _ rfl _ _ rfl rfl _ _ HRUN.out ?_)
          go_roundw
          case rel => exact ⟨k + 1, by omega, by go_num, by rw [HHI.out, e8], HND4.out, HB4.out⟩
          case measure => first | exact meas_step hlt | (have hm := meas_step hlt; rw [← hwk] at hm; exact hm)
        case pos =>
          have hji : (j : Int) < (np : Int) := by omega
          have hwj : wrap64 ((j : Int) + 1) = (j : Int) + 1 := by have := HNP.out; have := HNL.out.2.2; unfold wrap64; omega
          obtain ⟨s, hs⟩ : ∃ s, q[j]? = some s := ⟨_, List.getElem?_eq_getElem (by rw [HPL.out]; exact hlt2)⟩
          obtain ⟨g', o', e0, e1, e2⟩ := HPA.out j s hs
          injection e0 with e0; injection e0 with e0 e3
          subst e0; subst e3
          have r1 := cell_stays (HB.out.trans (below_low hb2 HB.out.size)) e1; have r2 := cell_stays (HB.out.trans (below_low hb2 HB.out.size)) e2
          have HS := Lib.hid hs
          obtain ⟨W1, hW1⟩ : ∃ W, wr.alloc (.cells #[.int .i64 s.1, .int .i64 s.2] 66) = W := ⟨_, rfl⟩
          have hb3 : Below wr.heap.size wr W1 := by rw [← hW1]; exact (Below.refl _ _).alloc (Nat.le_refl _) _
          clear hs e1 e2 hbx hrk hrv hap hap' hb2
          have hbx1 := HBX.out.below hb3
          obtain ⟨g1, c1, w2, ra1, bx1, bx2, ro1, bl1, oth1, kc1⟩ := push_key s.1 hbx1 (own_belowP HRK.out hb3) (by have := HNP.out; have := HNL.out.2.2; omega)
          obtain ⟨rv1, ap1, ap2⟩ := oth1 _ _ _ (own_belowP HRV.out hb3) HAP'.out
          obtain ⟨w3, hw3⟩ : ∃ W, w2.setCell ⟨wo.heap.size, 0, none⟩ (.slice (some ⟨g1, 0, none⟩) (j + 1) c1) = W := ⟨_, rfl⟩
          rw [hw3] at bx2 ro1 bl1 rv1
          obtain ⟨g2, c2, w4, ra2, bx3, bx4, ro2, bl2, oth2, kc2⟩ := push_val s.2 bx2 rv1 (by have := HNP.out; have := HNL.out.2.2; omega)
          obtain ⟨rk2, ap3, ap4⟩ := oth2 _ _ _ ro1 ap2
          have s1 : wr.heap.size < W1.heap.size := by rw [← hW1]; simp
          have y0 : W1.cell? ⟨wr.heap.size, 0, none⟩ = some (.int .i64 s.1) := by rw [← hW1]; exact (World.cell?_alloc_at _ _ _ _ rfl).trans rfl
          have y1 : W1.cell? ⟨wr.heap.size, 1, none⟩ = some (.int .i64 s.2) := by rw [← hW1]; exact (World.cell?_alloc_at _ _ _ _ rfl).trans rfl
          have nk1 : some wr.heap.size ≠ (Value.slice pk nk ck).ownBlock := fun e => by have := (HRK.out.lt _ e.symm).2; omega
          have nk2 : wr.heap.size ≠ wo.heap.size := fun e => by have := HBX.out.lt; omega
          have z1 := (kc1 _ _ y1 nk1).2 nk2
          rw [hw3] at z1
          have HRA1 := Lib.hid ra1; have HRA2 := Lib.hid ra2; have HB4 := Lib.hid (show Below wo.heap.size wo (w4.setCell ⟨wo.heap.size, 1, none⟩ (.slice (some ⟨g2, 0, none⟩) (j + 1) c2)) from ((HB2.out.trans (below_low hb3 HB2.out.size)).trans bl1).trans bl2)
          have HX4 := Lib.hid bx4; have HRK4 := Lib.hid rk2; have HRV4 := Lib.hid ro2; have HAP4 := Lib.hid (And.intro ap3 ap4)
          obtain ⟨x0, x1, x2⟩ := hbx1.cells
          obtain ⟨_, x4, _⟩ := bx2.cells
          have f0 := bx1.frozen 0; have f1 := bx3.frozen 1
          obtain ⟨d0, d1, _⟩ := bx1.cells
          obtain ⟨d2, d3, _⟩ := bx3.cells
          clear ra1 ra2 bx1 bx2 bx3 bx4 ro1 bl1 oth1 kc1 ro2 bl2 oth2 kc2 rv1 ap1 ap2 rk2 ap3 ap4 hb3 hbx1 s1 nk1 nk2
          go_upto_region 12 with fail
          have HW1 := Lib.hid hW1; have HW3 := Lib.hid hw3
          clear hW1 hw3
          go_upto_region 13 with (at_builtin; refine Lib.wpList_append_run _ rfl _ _ _ _ rfl _ _ rfl rfl _ _ HRA1.out ?_)
          rw [HW3.out]
          go_wp2_with (at_builtin; refine Lib.wpList_append_run _ rfl _ _ _ _ rfl _ _ rfl rfl _ _ HRA2.out ?_)
          go_roundw
          case rel =>
            refine ⟨j + 1, _, _, by omega, by go_num, HX4.out, ?_, ?_, HAP4.out.1, HAP4.out.2, HB4.out⟩
            · rw [take_mapW _ HS.out]; exact HRK4.out
            · rw [take_mapW _ HS.out]; exact HRV4.out
          case measure => first | exact meas_step hlt2 | (have hm := meas_step hlt2; rw [← hwj] at hm; exact hm)
end Go.Proofs.Ytpcmihgfcaelfaa
namespace Go.Proofs.Ytpcmihgfcaelfaa
open Go.RowKit

def prsOf : List Int → List PairD
  | k :: v :: r => (k, v) :: prsOf r
  | _ => []
theorem prsOf_get : ∀ (r : List Int) (k : Nat) (x y : Int), r[2 * k]? = some x → r[2 * k + 1]? = some y → (prsOf r)[k]? = some (x, y)
  | [], k, x, y, h, _ => by simp at h
  | [a], k, x, y, h, h2 => by simp at h2
  | a :: b :: r, 0, x, y, h, h2 => by simp at h h2; subst h; subst h2; rfl
  | a :: b :: r, k + 1, x, y, h, h2 => by
    rw [show 2 * (k + 1) = 2 * k + 1 + 1 by omega, List.getElem?_cons_succ, List.getElem?_cons_succ] at h
    rw [show 2 * (k + 1) + 1 = 2 * k + 1 + 1 + 1 by omega, List.getElem?_cons_succ, List.getElem?_cons_succ] at h2
    simp only [prsOf, List.getElem?_cons_succ]
    exact prsOf_get r k x y h h2
theorem prsOf_len : ∀ r : List Int, (prsOf r).length = r.length / 2
  | [] => rfl
  | [a] => by simp [prsOf]
  | a :: b :: r => by simp only [prsOf, List.length_cons, prsOf_len r]; omega
theorem prsOf_bd : ∀ (r : List Int), (∀ x ∈ r, i64B x) → PBd (prsOf r)
  | [], _ => fun x hx => by simp [prsOf] at hx
  | [a], _ => fun x hx => by simp [prsOf] at hx
  | a :: b :: r, h => fun x hx => by
    simp only [prsOf, List.mem_cons] at hx
    rcases hx with rfl | hx
    · exact ⟨h a (by simp), h b (by simp)⟩
    · exact prsOf_bd r (fun y hy => h y (by simp [hy])) x hx
/-- a volume's number, size, pairs -/
def volL : List Int → Option (Int × Int × List PairD)
  | i :: s :: r => if r.length % 2 = 0 ∧ riseB (prsOf r) = true then some (i, s, prsOf r) else none
  | _ => none
theorem volL_two {n : List Int} (h : n.length < 2) : volL n = none := by
  match n, h with
  | [], _ => rfl
  | [a], _ => rfl
  | a :: b :: r, h => simp only [List.length_cons] at h; omega
theorem volL_odd {i s : Int} {r : List Int} (h : ¬ r.length % 2 = 0) : volL (i :: s :: r) = none := by
  show (if r.length % 2 = 0 ∧ riseB (prsOf r) = true then some (i, s, prsOf r) else none) = none
  rw [if_neg (fun h2 => h h2.1)]
theorem volL_fall {i s : Int} {r : List Int} {k : Nat} {x y : PairD} (h1 : (prsOf r)[k]? = some x) (h2 : (prsOf r)[k + 1]? = some y) (h : y.1 ≤ x.1) : volL (i :: s :: r) = none := by
  show (if r.length % 2 = 0 ∧ riseB (prsOf r) = true then some (i, s, prsOf r) else none) = none
  rw [if_neg (fun h3 => by have := (riseB_iff _).1 h3.2 k x y h1 h2; omega)]
theorem volL_yes {i s : Int} {r : List Int} (h : r.length % 2 = 0) (h2 : ∀ (j : Nat) x y, (prsOf r)[j]? = some x → (prsOf r)[j + 1]? = some y → x.1 < y.1) : volL (i :: s :: r) = some (i, s, prsOf r) := by
  show (if r.length % 2 = 0 ∧ riseB (prsOf r) = true then some (i, s, prsOf r) else none) = some (i, s, prsOf r)
  rw [if_pos ⟨h, (riseB_iff _).2 h2⟩]
def noVol : Value := .agg #[.int .i64 0, .int .i64 0, .slice none 0 0, .slice none 0 0, .slice none 0 0]
def PvolPost (w : World) (n : List Int) (e : Ending) (w' : World) : Prop := match volL n with
  | none => e = .returned (.tuple #[.agg #[.int .i64 0, .int .i64 0, .slice none 0 0, .slice none 0 0, .slice none 0 0], .bool false]) ∧ Below w.heap.size w w'
  | some (i, s, l) => ∃ t a b c, e = .returned (.tuple #[.agg #[.int .i64 i, .int .i64 s, a, b, c], .bool true]) ∧ Grown l t ∧ NodeAt (mask (OwnF w.heap.size w') w') t a b c ∧ i64B i ∧ i64B s ∧ Below w.heap.size w w'
theorem PvolPost.no {w w' : World} {n : List Int} (h : volL n = none) (hb : Below w.heap.size w w') : PvolPost w n (.returned (.tuple #[.agg #[.int .i64 0, .int .i64 0, .slice none 0 0, .slice none 0 0, .slice none 0 0], .bool false])) w' := by
  unfold PvolPost; rw [h]; exact ⟨rfl, hb⟩
theorem PvolPost.yes {w w' : World} {n : List Int} {i s : Int} {l : List PairD} {t : NodeD} {a b c : Value} (h : volL n = some (i, s, l)) (hg : Grown l t) (hn : NodeAt (mask (OwnF w.heap.size w') w') t a b c) (h1 : i64B i) (h2 : i64B s) (hb : Below w.heap.size w w') : PvolPost w n (.returned (.tuple #[.agg #[.int .i64 i, .int .i64 s, a, b, c], .bool true])) w' := by
  unfold PvolPost; rw [h]; exact ⟨t, a, b, c, rfl, hg, hn, h1, h2, hb⟩
/-- the box of a volume -/
def VlBlk (W : World) (B : Nat) (u0 u1 u2 u3 u4 : Value) : Prop := W.heap[B]? = some (.cells #[u0, u1, u2, u3, u4] 45 (0, 0))
theorem VlBlk.lt {W : World} {B : Nat} {u0 u1 u2 u3 u4 : Value} (h : VlBlk W B u0 u1 u2 u3 u4) : B < W.heap.size := (Array.getElem?_eq_some_iff.1 h).1
theorem VlBlk.cells {W : World} {B : Nat} {u0 u1 u2 u3 u4 : Value} (h : VlBlk W B u0 u1 u2 u3 u4) : W.cell? ⟨B, 0, none⟩ = some u0 ∧ W.cell? ⟨B, 1, none⟩ = some u1 ∧ W.cell? ⟨B, 2, none⟩ = some u2 ∧ W.cell? ⟨B, 3, none⟩ = some u3 ∧ W.cell? ⟨B, 4, none⟩ = some u4 := by
  simp [World.cell?, show W.heap[B]? = _ from h]
theorem VlBlk.frozen {W : World} {B : Nat} {u0 u1 u2 u3 u4 : Value} (h : VlBlk W B u0 u1 u2 u3 u4) (j : Nat) : W.frozen? ⟨B, j, none⟩ = false := by simp [World.frozen?, show W.heap[B]? = _ from h]
theorem VlBlk.new (W : World) (u0 u1 u2 u3 u4 : Value) : VlBlk (W.alloc (.cells #[u0, u1, u2, u3, u4] 45)) W.heap.size u0 u1 u2 u3 u4 := World.alloc_heap_new _ _
theorem VlBlk.low {W W' : World} {B D : Nat} {u0 u1 u2 u3 u4 : Value} (h : VlBlk W B u0 u1 u2 u3 u4) (hb : Below D W W') (hD : B < D) : VlBlk W' B u0 u1 u2 u3 u4 := (hb.block B hD).trans h
theorem VlBlk.set0 {W : World} {B : Nat} {u0 u1 u2 u3 u4 : Value} (v : Value) (h : VlBlk W B u0 u1 u2 u3 u4) : VlBlk (W.setCell ⟨B, 0, none⟩ v) B v u1 u2 u3 u4 := by
  obtain ⟨hlt, hk⟩ := Array.getElem?_eq_some_iff.1 h
  show (W.heap.modify B _)[B]? = _
  rw [Array.getElem?_eq_getElem (by rw [Array.size_modify]; exact hlt), Array.getElem_modify_self, hk]
  rfl
theorem VlBlk.set1 {W : World} {B : Nat} {u0 u1 u2 u3 u4 : Value} (v : Value) (h : VlBlk W B u0 u1 u2 u3 u4) : VlBlk (W.setCell ⟨B, 1, none⟩ v) B u0 v u2 u3 u4 := by
  obtain ⟨hlt, hk⟩ := Array.getElem?_eq_some_iff.1 h
  show (W.heap.modify B _)[B]? = _
  rw [Array.getElem?_eq_getElem (by rw [Array.size_modify]; exact hlt), Array.getElem_modify_self, hk]
  rfl
theorem VlBlk.set2 {W : World} {B : Nat} {u0 u1 u2 u3 u4 : Value} (v : Value) (h : VlBlk W B u0 u1 u2 u3 u4) : VlBlk (W.setCell ⟨B, 2, none⟩ v) B u0 u1 v u3 u4 := by
  obtain ⟨hlt, hk⟩ := Array.getElem?_eq_some_iff.1 h
  show (W.heap.modify B _)[B]? = _
  rw [Array.getElem?_eq_getElem (by rw [Array.size_modify]; exact hlt), Array.getElem_modify_self, hk]
  rfl
theorem VlBlk.set3 {W : World} {B : Nat} {u0 u1 u2 u3 u4 : Value} (v : Value) (h : VlBlk W B u0 u1 u2 u3 u4) : VlBlk (W.setCell ⟨B, 3, none⟩ v) B u0 u1 u2 v u4 := by
  obtain ⟨hlt, hk⟩ := Array.getElem?_eq_some_iff.1 h
  show (W.heap.modify B _)[B]? = _
  rw [Array.getElem?_eq_getElem (by rw [Array.size_modify]; exact hlt), Array.getElem_modify_self, hk]
  rfl
theorem VlBlk.set4 {W : World} {B : Nat} {u0 u1 u2 u3 u4 : Value} (v : Value) (h : VlBlk W B u0 u1 u2 u3 u4) : VlBlk (W.setCell ⟨B, 4, none⟩ v) B u0 u1 u2 u3 v := by
  obtain ⟨hlt, hk⟩ := Array.getElem?_eq_some_iff.1 h
  show (W.heap.modify B _)[B]? = _
  rw [Array.getElem?_eq_getElem (by rw [Array.size_modify]; exact hlt), Array.getElem_modify_self, hk]
  rfl
theorem VlBlk.set {W : World} {B : Nat} {u0 u1 u2 u3 u4 : Value} (v0 v1 v2 v3 v4 : Value) (h : VlBlk W B u0 u1 u2 u3 u4) : VlBlk (((((W.setCell ⟨B, 0, none⟩ v0).setCell ⟨B, 1, none⟩ v1).setCell ⟨B, 2, none⟩ v2).setCell ⟨B, 3, none⟩ v3).setCell ⟨B, 4, none⟩ v4) B v0 v1 v2 v3 v4 :=
  ((((h.set0 v0).set1 v1).set2 v2).set3 v3).set4 v4
theorem set_far {W : World} {B j : Nat} {v u : Value} {a : Addr} (h : W.cell? a = some u) (hne : a.block ≠ B) : (W.setCell ⟨B, j, none⟩ v).cell? a = some u := (grown_set W B j v).cell h (fun e => hne (by injection e))
theorem set5_far {W : World} {B : Nat} {u : Value} {a : Addr} (v0 v1 v2 v3 v4 : Value) (h : W.cell? a = some u) (hne : a.block ≠ B) : (((((W.setCell ⟨B, 0, none⟩ v0).setCell ⟨B, 1, none⟩ v1).setCell ⟨B, 2, none⟩ v2).setCell ⟨B, 3, none⟩ v3).setCell ⟨B, 4, none⟩ v4).cell? a = some u :=
  set_far (set_far (set_far (set_far (set_far h hne) hne) hne) hne) hne
theorem meas_two {n k q : Nat} (h : 2 * k + 2 = q) (hlt : q < n) : n - (intOf (.int .i64 ((2 * (k + 1) + 2 : Nat) : Int))).toNat < n - (intOf (.int .i64 (q : Int))).toNat := by
  simp only [intOf]; omega
def PvRel (w : World) (r : List Int) (v i : Value) (wr : World) : Prop :=
  ∃ k : Nat, 2 * k ≤ r.length ∧ i = .int .i64 ((2 * k + 2 : Nat) : Int) ∧ wr.ownsRow (w.heap.size + 1) 66 2 v k (pairRows ((prsOf r).take k)).flatten ∧ (∀ (j : Nat) x y, j + 1 < k → (prsOf r)[j]? = some x → (prsOf r)[j + 1]? = some y → x.1 < y.1) ∧ VlBlk wr w.heap.size (.int .i64 0) (.int .i64 0) (.slice none 0 0) (.slice none 0 0) (.slice none 0 0) ∧ Below w.heap.size w wr
set_option maxRecDepth 100000 in
set_option maxHeartbeats 4000000 in
theorem pvol_any (l : List Int) (v1 : Value) (w : World) (h1 : IntsAt w v1 l) (hlen : l.length ≤ 1000000) : Calls Try.prog 32 #[v1] w (PvolPost w l) := by
  have HV := Lib.hid h1
  obtain ⟨p, cp, rfl, a1, a2, ha⟩ := h1
  obtain ⟨n, hn⟩ : ∃ n, l.length = n := ⟨_, rfl⟩
  rw [hn] at a1 hlen HV; rw [hn]
  have HN := Lib.hid hn; have HA := Lib.hid ha
  have hlc : (n : Int) ≤ 9223372036854775807 := by omega
  clear hn a1 a2 ha
  by_cases h2 : n < 2
  · have HF := Lib.hid (volL_two (n := l) (by rw [HN.out]; exact h2))
    have h2i : (n : Int) < 2 := by omega
    clear h2
    go_enter Try.func32, Try.ntmps32
    go_wp2_with fail
    refine bodyPost_ret (v := .tuple #[.agg #[.int .i64 0, .int .i64 0, .slice none 0 0, .slice none 0 0, .slice none 0 0], .bool false]) (by simp [results, Try.results32, go_sem]) rfl ?_
    exact PvolPost.no HF.out ((Below.refl _ _).alloc (Nat.le_refl _) _)
  have h2i : ¬ (n : Int) < 2 := by omega
  obtain ⟨i0, s0, r, rfl⟩ : ∃ i s r, l = i :: s :: r := by
    match l, HN.out with
    | [], h => simp at h; omega
    | [a], h => simp at h; omega
    | a :: b :: r, _ => exact ⟨a, b, r, rfl⟩
  by_cases hodd : n % 2 = 0
  case neg =>
    have HF := Lib.hid (volL_odd (i := i0) (s := s0) (r := r) (by have := HN.out; simp only [List.length_cons] at this; omega))
    have hr : Int.tmod (n : Int) 2 = 1 := by rw [Int.tmod_eq_emod_of_nonneg (by omega)]; omega
    clear hodd h2
    go_enter Try.func32, Try.ntmps32
    go_wp2_with fail
    refine bodyPost_ret (v := .tuple #[.agg #[.int .i64 0, .int .i64 0, .slice none 0 0, .slice none 0 0, .slice none 0 0], .bool false]) (by simp [results, Try.results32, go_sem]) rfl ?_
    exact PvolPost.no HF.out ((Below.refl _ _).alloc (Nat.le_refl _) _)
  have hr : Int.tmod (n : Int) 2 = 0 := by rw [Int.tmod_eq_emod_of_nonneg (by omega)]; omega
  have HR := Lib.hid (show n = r.length + 2 by have := HN.out; simp only [List.length_cons] at this; omega)
  have HEV := Lib.hid hodd; have HLN := Lib.hid hlen
  obtain ⟨b0, g, o, rfl, c0⟩ := HA.out 0 i0 rfl
  obtain ⟨b1, _, _, e, c1⟩ := HA.out 1 s0 rfl
  cases e
  have HB0 := Lib.hid b0; have HB1 := Lib.hid b1; have HC0 := Lib.hid c0; have HC1 := Lib.hid c1
  clear b0 b1 c0 c1 hodd h2 hlen
  go_enter Try.func32, Try.ntmps32
  go_wp2_with fail
  clear hr h2i
  go_loopw [4, 5] (fun v i wr => PvRel w r v i wr) (fun _ i _ => n - (intOf i).toNat)
  case atStart => exact ⟨0, Nat.zero_le _, rfl, World.ownsRow_nil _ _ _ _, fun j x y hj => by omega, VlBlk.new _ _ _ _ _ _, (Below.refl _ _).alloc (Nat.le_refl _) _⟩
  case round =>
    obtain ⟨k, hk, rfl, hown, hup, hbx, hb⟩ := hrel
    obtain ⟨pv, nv, cv, rfl⟩ := own_shape hown
    have HO := Lib.hid hown; have HU := Lib.hid hup; have HX := Lib.hid hbx; have HB := Lib.hid hb
    clear hown hup hbx hb
    obtain ⟨q, hq⟩ : ∃ q, 2 * k + 2 = q := ⟨_, rfl⟩
    rw [hq]
    by_cases hlt : q < n
    case neg =>
      have hqn : q = n := by have := HR.out; have := HEV.out; omega
      subst hqn
      have hk2 : (prsOf r).length = k := by rw [prsOf_len]; have := HR.out; omega
      have HT := Lib.hid (show (prsOf r).take k = prsOf r from List.take_of_length_le (by rw [hk2]; exact Nat.le_refl _))
      have HF := Lib.hid (volL_yes (i := i0) (s := s0) (r := r) (by have := HR.out; omega) (fun j x y hx hy => HU.out j x y (by have := (List.getElem?_eq_some_iff.1 hy).1; omega) hx hy))
      have HPA := Lib.hid (show PairsAt wr.drew (.slice pv nv cv) (prsOf r) from (pairs_of_row (by have := HO.out; rw [HT.out] at this; rw [hk2]; exact this)).keep (keeps_below (Below.refl _ _).drew))
      have HBD := Lib.hid (show PBd (prsOf r) from prsOf_bd r fun x hx => by
        obtain ⟨i, hi⟩ := List.getElem?_of_mem hx
        exact (HA.out (i + 2) x (by rw [List.getElem?_cons_succ, List.getElem?_cons_succ]; exact hi)).1)
      have HPL := Lib.hid (show (prsOf r).length ≤ 900000 by rw [hk2]; have := HLN.out; omega)
      have hq2 : decide ((q : Int) < (q : Int)) = false := by simp
      have r0 : wr.drew.cell? ⟨g, o, none⟩ = some (.int .i64 i0) := cell_stays ((Below.refl _ _).drew) (cell_stays HB.out HC0.out)
      have r1 : wr.drew.cell? ⟨g, o + 1, none⟩ = some (.int .i64 s0) := cell_stays ((Below.refl _ _).drew) (cell_stays HB.out HC1.out)
      have HDR := Lib.hid (show Below wr.heap.size wr wr.drew from (Below.refl _ _).drew)
      have z0 : (0 : Int) < (q : Int) := by omega
      have z2 : 0 < q := by omega
      have z3 : 1 < q := by omega
      have z1 : (1 : Int) < (q : Int) := by omega
      have HLW := Lib.hid HX.out.lt
      have HGB := Lib.hid (show g ≠ w.heap.size from fun e => by have := World.block_lt_of_cell? _ _ HC0.out; simp only at this; omega)
      clear hk2 hk hq hlt
      go_wp2_with fail
      go_region_held3 (fun w' => w'.cell? ⟨g, o, none⟩ = some (.int .i64 i0) ∧ w'.cell? ⟨g, o + 1, none⟩ = some (.int .i64 s0))
        (first | with_reducible exact ⟨r0, r1⟩ | with_reducible exact HSA.out | with_reducible exact HSF.out)
        (first | ((with_reducible refine (plant_any (prsOf r) _ _ HPA.out HPL.out HBD.out).mono ?_); rintro e w3 ⟨t, a, b, c, rfl, hg, hnd, hb⟩; obtain ⟨qa, na, ca, qb, nb, cb, qc, nc, cc, rfl, rfl, rfl⟩ := node_slices hnd; have HSA := Lib.hid (show w3.cell? ⟨g, o, none⟩ = some (.int .i64 i0) ∧ w3.cell? ⟨g, o + 1, none⟩ = some (.int .i64 s0) from ⟨cell_stays hb r0, cell_stays hb r1⟩); have HSF := Lib.hid (And.intro (set5_far (B := w.heap.size) (.int .i64 i0) (.int .i64 s0) (.slice qa na ca) (.slice qb nb cb) (.slice qc nc cc) HSA.out.1 HGB.out) (set5_far (B := w.heap.size) (.int .i64 i0) (.int .i64 s0) (.slice qa na ca) (.slice qb nb cb) (.slice qc nc cc) HSA.out.2 HGB.out)); have HX3 := Lib.hid (HX.out.low ((HDR.out.trans hb)) HX.out.lt); have HG := Lib.hid hg; have HND := Lib.hid hnd; have HB3 := Lib.hid (btrans HB.out (HDR.out.trans hb)); obtain ⟨d0, d1, d2, d3, d4⟩ := HX3.out.cells; have f0 := HX3.out.frozen 0; have f1 := HX3.out.frozen 1; have f2 := HX3.out.frozen 2; have f3 := HX3.out.frozen 3; have f4 := HX3.out.frozen 4; clear hb hg hnd))
      clear d0 d1 d2 d3 d4 f0 f1 f2 f3 f4
      go_wp2_with fail
      obtain ⟨k0, k1, k2, k3, k4⟩ := (VlBlk.set (.int .i64 i0) (.int .i64 s0) (.slice qa na ca) (.slice qb nb cb) (.slice qc nc cc) HX3.out).cells
      have hbf := set_below (set_below (set_below (set_below (set_below HB3.out 0 (.int .i64 i0)) 1 (.int .i64 s0)) 2 (.slice qa na ca)) 3 (.slice qb nb cb)) 4 (.slice qc nc cc)
      have hnF := ((((HND.out.keep (own_keep (grown_set w3 w.heap.size 0 (.int .i64 i0)) HLW.out (Nat.le_refl _))).keep (own_keep (grown_set _ w.heap.size 1 (.int .i64 s0)) HLW.out (Nat.le_refl _))).keep (own_keep (grown_set _ w.heap.size 2 (.slice qa na ca)) HLW.out (Nat.le_refl _))).keep (own_keep (grown_set _ w.heap.size 3 (.slice qb nb cb)) HLW.out (Nat.le_refl _))).keep (own_keep (grown_set _ w.heap.size 4 (.slice qc nc cc)) HLW.out (Nat.le_of_lt HLW.out))
      obtain ⟨WF, hWF⟩ : ∃ W, ((((w3.setCell ⟨w.heap.size, 0, none⟩ (.int .i64 i0)).setCell ⟨w.heap.size, 1, none⟩ (.int .i64 s0)).setCell ⟨w.heap.size, 2, none⟩ (.slice qa na ca)).setCell ⟨w.heap.size, 3, none⟩ (.slice qb nb cb)).setCell ⟨w.heap.size, 4, none⟩ (.slice qc nc cc) = W := ⟨_, rfl⟩
      rw [hWF] at k0 k1 k2 k3 k4 hbf hnF ⊢
      refine bodyPost_ret (v := .tuple #[.agg #[.int .i64 i0, .int .i64 s0, .slice qa na ca, .slice qb nb cb, .slice qc nc cc], .bool true]) (by simp [results, Try.results32, go_sem, k0, k1, k2, k3, k4]) rfl ?_
      exact PvolPost.yes HF.out HG.out hnF HB0.out HB1.out hbf
    case pos =>
      have hqi : (q : Int) < (n : Int) := by omega
      obtain ⟨q1, hq1⟩ : ∃ q1, q + 1 = q1 := ⟨_, rfl⟩
      have hq1i : (q1 : Int) < (n : Int) := by have := HR.out; have := HEV.out; omega
      obtain ⟨x, hx⟩ : ∃ x, r[2 * k]? = some x := ⟨_, List.getElem?_eq_getElem (by have := HR.out; omega)⟩
      obtain ⟨y, hy⟩ : ∃ y, r[2 * k + 1]? = some y := ⟨_, List.getElem?_eq_getElem (by have := HR.out; omega)⟩
      have HS := Lib.hid (prsOf_get r k x y hx hy)
      obtain ⟨_, g', o', e, c2⟩ := HA.out (2 * k + 2) x (by rw [List.getElem?_cons_succ, List.getElem?_cons_succ]; exact hx)
      cases e
      obtain ⟨_, g', o', e, c3⟩ := HA.out (2 * k + 1 + 2) y (by rw [List.getElem?_cons_succ, List.getElem?_cons_succ]; exact hy)
      cases e
      rw [hq] at c2
      rw [show 2 * k + 1 + 2 = q1 by omega] at c3
      have r0 := cell_stays HB.out c2; have r1 := cell_stays HB.out c3
      have e1 : IntKind.i64.wrap ((q : Int) + 1) = (q1 : Int) := by rw [IntKind.wrap_i64]; omega
      have HQ1 := Lib.hid (And.intro hq hq1)
      have HQN := Lib.hid hlt
      have HKN := Lib.hid (show 2 * (k + 1) ≤ r.length by have := HR.out; have := HEV.out; omega)
      have HST := Lib.hid (show wrap64 ((q : Int) + 2) = ((2 * (k + 1) + 2 : Nat) : Int) from by unfold wrap64; omega)
      have htest : (decide ((2 : Int) < (q : Int)) = false ∧ k = 0) ∨ (∃ m x' y' q2, k = m + 1 ∧ (prsOf r)[m]? = some (x', y') ∧ wr.cell? ⟨g, o + q2, none⟩ = some (.int .i64 x') ∧ IntKind.i64.wrap ((q : Int) - 2) = ((q2 : Nat) : Int) ∧ (q2 : Int) < (n : Int) ∧ decide ((2 : Int) < (q : Int)) = true) := by
        rcases Nat.eq_zero_or_pos k with h0 | h0
        · exact .inl ⟨by simp; omega, h0⟩
        · obtain ⟨m, rfl⟩ : ∃ m, k = m + 1 := ⟨k - 1, by omega⟩
          obtain ⟨x', hx'⟩ : ∃ x, r[2 * m]? = some x := ⟨_, List.getElem?_eq_getElem (by have := HR.out; omega)⟩
          obtain ⟨y', hy'⟩ : ∃ y, r[2 * m + 1]? = some y := ⟨_, List.getElem?_eq_getElem (by have := HR.out; omega)⟩
          obtain ⟨_, g', o', e, c4⟩ := HA.out (2 * m + 2) x' (by rw [List.getElem?_cons_succ, List.getElem?_cons_succ]; exact hx')
          cases e
          exact .inr ⟨m, x', y', 2 * m + 2, rfl, prsOf_get r m x' y' hx' hy', cell_stays HB.out c4, by rw [IntKind.wrap_i64]; omega, by omega, by simp; omega⟩
      have HTE := Lib.hid htest
      clear htest hx hy c2 c3 hq hq1 hk hlt
      have hgo : (decide ((2 : Int) < (q : Int)) = false ∧ (∀ (j : Nat) a b, j + 1 < k + 1 → (prsOf r)[j]? = some a → (prsOf r)[j + 1]? = some b → a.1 < b.1)) ∨ (∃ x' q2, wr.cell? ⟨g, o + q2, none⟩ = some (.int .i64 x') ∧ IntKind.i64.wrap ((q : Int) - 2) = ((q2 : Nat) : Int) ∧ (q2 : Int) < (n : Int) ∧ decide ((2 : Int) < (q : Int)) = true ∧ ((decide (x ≤ x') = true ∧ volL (i0 :: s0 :: r) = none) ∨ (decide (x ≤ x') = false ∧ ∀ (j : Nat) a b, j + 1 < k + 1 → (prsOf r)[j]? = some a → (prsOf r)[j + 1]? = some b → a.1 < b.1))) := by
        rcases HTE.out with ⟨h1, rfl⟩ | ⟨m, x', y', q2, rfl, hm, h1, h2, h3, h4⟩
        · exact .inl ⟨h1, fun j a b hj => by omega⟩
        · refine .inr ⟨x', q2, h1, h2, h3, h4, ?_⟩
          by_cases hle : x ≤ x'
          · exact .inl ⟨decide_eq_true hle, volL_fall hm HS.out hle⟩
          · refine .inr ⟨decide_eq_false hle, fun j a b hj ha hb => ?_⟩
            by_cases e : j = m
            · subst e; rw [hm] at ha; rw [HS.out] at hb; cases ha; cases hb; simp only; omega
            · exact HU.out j a b (by omega) ha hb
      have HGO := Lib.hid hgo
      clear hgo HTE
      have HGB := Lib.hid (show g < w.heap.size by have := World.block_lt_of_cell? _ _ HC0.out; simpa using this)
      have HSV := Lib.hid (show VlBlk wr w.heap.size (.int .i64 0) (.int .i64 0) (.slice none 0 0) (.slice none 0 0) (.slice none 0 0) from HX.out)
      rcases HGO.out with ⟨hg, hup⟩ | ⟨x', q2, r2, e5, hq2i, hg, ⟨hle, hno⟩ | ⟨hle, hup⟩⟩
      case inr.inl =>
        have HF := Lib.hid hno
        clear hno
        go_wp2_with fail
        go_quiet (fail)
        obtain ⟨W2, hW2⟩ : ∃ W, wr.drewN nq = W := ⟨_, rfl⟩
        have hbd : Below wr.heap.size wr W2 := by rw [← hW2]; exact below_drewN' (Below.refl _ _) _
        rw [hW2]
        have hx2 := HX.out.low hbd HX.out.lt
        obtain ⟨d0, d1, d2, d3, d4⟩ := hx2.cells
        have f0 := hx2.frozen 0; have f1 := hx2.frozen 1; have f2 := hx2.frozen 2; have f3 := hx2.frozen 3; have f4 := hx2.frozen 4
        have HB2 := Lib.hid (btrans HB.out hbd); have HX2 := Lib.hid hx2
        clear hW2 hbd hx2 r0 r1 r2 e1 e5 hq2i hg hle hq1i hqi
        go_wp2_with fail
        obtain ⟨k0, k1, k2, k3, k4⟩ := (VlBlk.set (.int .i64 0) (.int .i64 0) (.slice none 0 0) (.slice none 0 0) (.slice none 0 0) HX2.out).cells
        have hbf := set_below (set_below (set_below (set_below (set_below HB2.out 0 (.int .i64 0)) 1 (.int .i64 0)) 2 (.slice none 0 0)) 3 (.slice none 0 0)) 4 (.slice none 0 0)
        obtain ⟨WF, hWF⟩ : ∃ W, ((((W2.setCell ⟨w.heap.size, 0, none⟩ (.int .i64 0)).setCell ⟨w.heap.size, 1, none⟩ (.int .i64 0)).setCell ⟨w.heap.size, 2, none⟩ (.slice none 0 0)).setCell ⟨w.heap.size, 3, none⟩ (.slice none 0 0)).setCell ⟨w.heap.size, 4, none⟩ (.slice none 0 0) = W := ⟨_, rfl⟩
        rw [hWF] at k0 k1 k2 k3 k4 hbf ⊢
        refine bodyPost_ret (v := .tuple #[.agg #[.int .i64 0, .int .i64 0, .slice none 0 0, .slice none 0 0, .slice none 0 0], .bool false]) (by simp [results, Try.results32, go_sem, k0, k1, k2, k3, k4]) rfl ?_
        exact PvolPost.no HF.out hbf
      all_goals
        have HUP := Lib.hid hup
        clear hup
        go_wp2_with fail
        go_quiet (fail)
        obtain ⟨W2, hW2⟩ : ∃ W, wr.drewN nq = W := ⟨_, rfl⟩
        have hbd : Below wr.heap.size wr W2 := by rw [← hW2]; exact below_drewN' (Below.refl _ _) _
        rw [hW2]
        have r0' : W2.drew.cell? ⟨g, o + q, none⟩ = some (.int .i64 x) := cell_stays ((Below.refl _ _).drew) (cell_stays hbd r0); have r1' : W2.drew.cell? ⟨g, o + q1, none⟩ = some (.int .i64 y) := cell_stays ((Below.refl _ _).drew) (cell_stays hbd r1)
        have HB2 := Lib.hid (btrans HB.out hbd); have HX2 := Lib.hid (HX.out.low hbd HX.out.lt); have HO2 := Lib.hid (own_belowP HO.out hbd)
        clear hW2 hbd r0 r1 hg
        try clear r2 e5 hq2i hle
        obtain ⟨g3, c3, w3, hra, hown3, hb3⟩ := pair_append W2.drew (w.heap.size + 1) k _ ((prsOf r).take k) x y (World.ownsRow.drew HO2.out) (by have := HKN.out; have := HR.out; have := HLN.out; omega) (HX2.out.lt)
        have HRA := Lib.hid hra
        have HO3 := Lib.hid (show w3.ownsRow (w.heap.size + 1) 66 2 (.slice (some ⟨g3, 0, none⟩) (k + 1) c3) (k + 1) (pairRows ((prsOf r).take (k + 1))).flatten by
          obtain ⟨hk9, hs9⟩ := List.getElem?_eq_some_iff.1 HS.out
          rw [List.take_succ_eq_append_getElem hk9, hs9]; exact hown3)
        have HX3 := Lib.hid (HX2.out.low ((Below.refl _ _).drew.trans hb3) (Nat.lt_succ_self _))
        have HB3 := Lib.hid (show Below w.heap.size w w3 from HB2.out.trans (((Below.refl _ _).drew.trans hb3).mono (Nat.le_succ _)))
        have HSM := Lib.hid (show (W2.alloc (.cells #[.int .i64 x, .int .i64 y] 66)).drew.cell? ⟨g, o + q, none⟩ = some (.int .i64 x) ∧ (W2.alloc (.cells #[.int .i64 x, .int .i64 y] 66)).drew.cell? ⟨g, o + q1, none⟩ = some (.int .i64 y) from ⟨cell_stays ((Below.refl _ _).drew) (cell_stays ((Below.refl _ _).alloc (Nat.le_refl _) _) (show W2.cell? ⟨g, o + q, none⟩ = _ from r0')), cell_stays ((Below.refl _ _).drew) (cell_stays ((Below.refl _ _).alloc (Nat.le_refl _) _) (show W2.cell? ⟨g, o + q1, none⟩ = _ from r1'))⟩)
        have HSN := Lib.hid (And.intro ((hb3.cell (by simp only; have := HGB.out; omega)).trans r0') ((hb3.cell (by simp only; have := HGB.out; omega)).trans r1'))
        clear hra hown3 hb3
        go_wp2_with fail
        go_region_held3 (fun w' => w'.cell? ⟨g, o + q, none⟩ = some (.int .i64 x) ∧ w'.cell? ⟨g, o + q1, none⟩ = some (.int .i64 y))
          (first | with_reducible exact ⟨r0', r1'⟩ | with_reducible exact HSM.out | with_reducible exact HSN.out)
          (refine step_append_run rfl _ _ _ rfl rfl rfl HRA.out ?_)
        all_goals
          have hst := HST.out
          go_wp2_with fail
          go_roundw
          case rel => exact ⟨k + 1, HKN.out, by go_num, HO3.out, HUP.out, HX3.out, HB3.out⟩
          case measure => have hm := meas_two HQ1.out.1 HQN.out; first | exact hm | (rw [← hst] at hm; exact hm)
end Go.Proofs.Ytpcmihgfcaelfaa
