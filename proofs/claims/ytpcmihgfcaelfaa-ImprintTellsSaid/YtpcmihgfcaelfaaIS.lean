/- The walk of the reference's above (layer 16): a node above others. · The walk of the reference's Of (layer 16), of at most four pairs: a leaf. · The walk of the reference's Of (layer 16): a tree of pairs. -/
import Derived.Test.YtpcmihgfcaelfaaII
import Derived.Test.YtpcmihgfcaelfaaIJ
namespace Go.Proofs.Ytpcmihgfcaelfaa
open Go.RowKit

theorem wrap_some {j n : Nat} (h : j ≤ n) (h2 : n ≤ 1000000) : wrap64 ((j : Int) + 1) = (j : Int) + 1 := by unfold wrap64; omega
theorem take_mapR {α : Type} {p : List α} {k : Nat} {s : α} (f : α → Int) (h : p[k]? = some s) : (p.take (k + 1)).map f = (p.take k).map f ++ [f s] := by
  obtain ⟨hk, rfl⟩ := List.getElem?_eq_some_iff.1 h
  rw [List.take_succ_eq_append_getElem hk, List.map_append]; rfl
def RabIn (w : World) (q : List NodeD) (xs : List Value) (np : Nat) (i : Value) (wr : World) : Prop :=
  ∃ (k : Nat) (kv cv : Value), k ≤ np ∧ i = .int .i64 k ∧ NdBlk wr w.heap.size (.slice none 0 0) (.slice none 0 0) (.slice none 0 0) ∧ NdBlk wr (w.heap.size + 1) kv (.slice none 0 0) cv ∧ wr.ownsRow (w.heap.size + 2) 3 1 kv k (intVs ((q.take k).map headK)) ∧ wr.ownsRow (w.heap.size + 2) 43 3 cv k (xs.take (k * 3)) ∧ Below w.heap.size w wr
def RabPost (w : World) (q : List NodeD) (B0 D : Nat) (e : Ending) (w' : World) : Prop :=
  ∃ a b c, e = .returned (.agg #[a, b, c]) ∧ (∀ v : Value, (∀ k, v.ownBlock = some k → D ≤ k ∧ k < w.heap.size) → NodeAt (mask (OwnF2 B0 v w') w') (overN q) a b c) ∧ Below w.heap.size w w'
set_option maxRecDepth 100000 in
set_option maxHeartbeats 8000000 in
theorem rabove_any (q : List NodeD) (B0 D g o c : Nat) (w : World) (hq : 1 ≤ q.length) (hq2 : q.length ≤ 1000000) (h0 : B0 ≤ D) (hD : D ≤ w.heap.size) (hk : ∀ t ∈ q, 1 ≤ t.keys.length) (h : ∀ j t, q[j]? = some t → KidAt (mask (OwnLt B0 D w) w) (some ⟨g, o, none⟩) j t) :
    Calls Try.prog 53 #[.slice (some ⟨g, o, none⟩) q.length c] w (RabPost w q B0 D) := by
  obtain ⟨np, hnp⟩ : ∃ n, q.length = n := ⟨_, rfl⟩
  rw [hnp] at hq hq2
  obtain ⟨xs, hsrc, hxs⟩ := kids_src h
  rw [hnp] at hsrc
  rw [hnp]
  have HPL := Lib.hid hnp; have HQ1 := Lib.hid hq; have HNP := Lib.hid hq2; have HKP := Lib.hid h; have HSRC := Lib.hid hsrc; have HXS := Lib.hid hxs; have HQK := Lib.hid hk; have HBD := Lib.hid (And.intro h0 hD)
  have hlc : (np : Int) ≤ 9223372036854775807 := by omega
  clear hnp hq hq2 h hsrc hxs hk h0 hD
  go_enter Try.func53, Try.ntmps53
  go_wp2_with fail
  go_loopw [4] (fun i wr => RabIn w q xs np i wr) (fun i _ => np - (intOf i).toNat)
  case atStart =>
    refine ⟨0, _, _, Nat.zero_le _, rfl, ?_, ?_, World.ownsRow_nil _ _ _ _, by rw [Nat.zero_mul, List.take_zero]; exact World.ownsRow_nil _ _ _ _, ((Below.refl _ _).alloc (Nat.le_refl _) _).alloc (by simp) _⟩
    · exact (NdBlk.new w _ _ _).below ((Below.refl _ _).alloc (Nat.le_refl _) _)
    · have := NdBlk.new (w.alloc (.cells #[.slice none 0 0, .slice none 0 0, .slice none 0 0] 43)) (.slice none 0 0) (.slice none 0 0) (.slice none 0 0)
      simpa using this
  case round =>
    obtain ⟨j, kv, cv, hj, rfl, hres, hbx, hrk, hrc, hb6⟩ := hrel
    obtain ⟨pk, nk, ck, rfl⟩ := own_shape hrk
    obtain ⟨pc, nc, cc, rfl⟩ := own_shape hrc
    have HBX := Lib.hid hbx; have HRK := Lib.hid hrk; have HRC := Lib.hid hrc; have HB6 := Lib.hid hb6; have HRS := Lib.hid hres
    by_cases hlt3 : j < np
    case neg =>
      obtain rfl : j = np := by omega
      have hmm : decide ((j : Int) < (j : Int)) = false := by simp
      obtain ⟨gr, cr5, hcv⟩ : ∃ gr cr5, (Value.slice pc nc cc) = .slice (some ⟨gr, 0, none⟩) j cr5 := by
        rcases ow_slice hrc with ⟨_, h, _⟩ | ⟨g', c', h⟩
        · have := HQ1.out; omega
        · exact ⟨_, _, h⟩
      injection hcv with e1 e2 e3
      subst e1; subst e2; subst e3
      obtain ⟨x0, x1, x2⟩ := hbx.cells
      obtain ⟨d0, d1, d2⟩ := hres.cells
      have f0 := hres.frozen 0; have f1 := hres.frozen 1; have f2 := hres.frozen 2
      have hlt1 := hres.lt
      clear hbx hrk hrc hb6 hres
      have HT := Lib.hid (show q.take nc = q from List.take_of_length_le (by rw [HPL.out]; exact Nat.le_refl _))
      have HT2 := Lib.hid (show xs.take (nc * 3) = xs from List.take_of_length_le (by rw [HSRC.out.1]; exact Nat.le_refl _))
      go_wp2_with fail
      have hg : wr.grownBy (((wr.setCell ⟨w.heap.size, 0, none⟩ (.slice pk nk ck)).setCell ⟨w.heap.size, 1, none⟩ (.slice none 0 0)).setCell ⟨w.heap.size, 2, none⟩ (.slice (some ⟨gr, 0, none⟩) nc cc)) (some w.heap.size) := ((grown_set wr w.heap.size 0 _).trans (grown_set _ w.heap.size 1 _)).trans (grown_set _ w.heap.size 2 _)
      have hbF : Below w.heap.size w (((wr.setCell ⟨w.heap.size, 0, none⟩ (.slice pk nk ck)).setCell ⟨w.heap.size, 1, none⟩ (.slice none 0 0)).setCell ⟨w.heap.size, 2, none⟩ (.slice (some ⟨gr, 0, none⟩) nc cc)) := set_below (set_below (set_below HB6.out 0 _) 1 _) 2 _
      have hkF := own_set (j := 2) (u := .slice (some ⟨gr, 0, none⟩) nc cc) (own_set (j := 1) (u := .slice none 0 0) (own_set (j := 0) (u := .slice pk nk ck) HRK.out (show w.heap.size < w.heap.size + 2 by omega)) (show w.heap.size < w.heap.size + 2 by omega)) (show w.heap.size < w.heap.size + 2 by omega)
      have hcF := own_set (j := 2) (u := .slice (some ⟨gr, 0, none⟩) nc cc) (own_set (j := 1) (u := .slice none 0 0) (own_set (j := 0) (u := .slice pk nk ck) HRC.out (show w.heap.size < w.heap.size + 2 by omega)) (show w.heap.size < w.heap.size + 2 by omega)) (show w.heap.size < w.heap.size + 2 by omega)
      obtain ⟨k0, k1, k2⟩ := (((HRS.out.set0 (.slice pk nk ck)).set1 (.slice none 0 0)).set2 (.slice (some ⟨gr, 0, none⟩) nc cc)).cells
      obtain ⟨WF, hWF⟩ : ∃ W, ((wr.setCell ⟨w.heap.size, 0, none⟩ (.slice pk nk ck)).setCell ⟨w.heap.size, 1, none⟩ (.slice none 0 0)).setCell ⟨w.heap.size, 2, none⟩ (.slice (some ⟨gr, 0, none⟩) nc cc) = W := ⟨_, rfl⟩
      rw [hWF] at hg hbF hkF hcF k0 k1 k2 ⊢
      refine bodyPost_ret (v := .agg #[.slice pk nk ck, .slice none 0 0, .slice (some ⟨gr, 0, none⟩) nc cc]) (by simp [results, Try.results53, go_sem, k0, k1, k2]) rfl ?_
      refine ⟨_, _, _, rfl, fun v hv => ?_, hbF⟩
      rw [HT.out] at hkF; rw [HT2.out] at hcF
      have := over_at (W := WF) (B := w.heap.size + 2) (B0 := B0) (D := D) (Dc := w.heap.size + 2) (kv := .slice pk nk ck) (gr := gr) (cr := cc) (q := q) (xs := xs) (by rw [HPL.out]; exact HQ1.out) (by rw [HPL.out]; exact hkF)
        (fun t ht => by
          obtain ⟨i, hi⟩ := List.getElem?_of_mem ht
          obtain ⟨_, _, _, _, _, _, _, _, _, hn⟩ := HKP.out i t hi
          obtain ⟨_, _, _, _, _, _, h, _⟩ := head_bd hn (HQK.out t ht)
          exact h)
        (by have := HBD.out; omega) (by have := HBD.out; omega) (v := v) (fun b hb => ⟨(hv b hb).1, by have := (hv b hb).2; omega⟩) (by have := HBD.out; omega) (Nat.le_refl _) HBD.out.1 (by rw [HPL.out]; exact hcF)
        (fun i t hi => by
          obtain ⟨x, y, z, e1, e2, e3, e4⟩ := HXS.out i t hi
          exact ⟨x, y, z, e1, e2, e3, e4.keep (mask_keeps fun _ _ hf hu => ⟨⟨⟨hf.1.1, free_below hf.1.2 hbF⟩, hf.2⟩, cell_stays hbF hu⟩)⟩)
      rw [HPL.out] at this
      exact this
    case pos =>
      have hji : (j : Int) < (np : Int) := by omega
      have hwj := wrap_some hj HNP.out
      obtain ⟨s, hs⟩ : ∃ s, q[j]? = some s := ⟨_, List.getElem?_eq_getElem (by rw [HPL.out]; exact hlt3)⟩
      obtain ⟨g9, o9, x, y, z, e9, c0, c1, c2, hn9⟩ := HKP.out j s hs
      injection e9 with e9; injection e9 with e9 e10
      subst e9; subst e10
      obtain ⟨gk2, ok2, nx, cx, rfl, hx1, _, hx3⟩ := head_bd hn9 (HQK.out s (List.mem_of_getElem? hs))
      obtain ⟨_, _, _, py, ny, cy, pz, nz, cz, _, rfl, rfl⟩ := node_slices hn9
      obtain ⟨u0, u1, u2, t0, t1, t2, _⟩ := HXS.out j s hs
      have v0 := HSRC.out.2.2.2 _ rfl _ _ t0
      have v1 := HSRC.out.2.2.2 _ rfl _ _ t1
      have v2 := HSRC.out.2.2.2 _ rfl _ _ t2
      rw [ow_at'] at v0 v1 v2
      rw [Option.some.inj (v0.symm.trans (mask_cell.1 c0).2)] at t0
      rw [Option.some.inj (v1.symm.trans (mask_cell.1 c1).2)] at t1
      rw [Option.some.inj (v2.symm.trans (mask_cell.1 c2).2)] at t2
      have HT3 := Lib.hid (take3 t0 t1 t2)
      clear v0 v1 v2 t0 t1 t2
      have r0 := cell_stays HB6.out (mask_cell.1 c0).2; have r1 := cell_stays HB6.out (mask_cell.1 c1).2; have r2 := cell_stays HB6.out (mask_cell.1 c2).2; have r3 := cell_stays HB6.out (mask_cell.1 hx3).2
      have HS := Lib.hid hs
      obtain ⟨hd, hhd⟩ : ∃ h, headK s = h := ⟨_, rfl⟩
      rw [hhd] at r3
      have HHD := Lib.hid hhd
      have hnx : 0 < nx := hx1
      have HR := Lib.hid (And.intro r0 (And.intro r1 r2))
      obtain ⟨x0, x1, x2⟩ := hbx.cells
      have x0b : (wr.alloc (.cells #[.int .i64 hd] 3)).cell? ⟨w.heap.size + 1, 0, none⟩ = some (.slice pk nk ck) := cell_stays ((Below.refl _ _).alloc (Nat.le_refl _) _) x0
      obtain ⟨g1, c8, w7, ra1, bx1, bx2, ro1, ro2, bl1, kc1⟩ := push_key2 (W := wr.drew) hd hbx (World.ownsRow.drew hrk) (World.ownsRow.drew hrc) (Nat.le_trans hj HNP.out)
      have f0 := bx1.frozen 0
      have d0 := bx1.cells.1
      obtain ⟨w8, hw8⟩ : ∃ W, w7.setCell ⟨w.heap.size + 1, 0, none⟩ (.slice (some ⟨g1, 0, none⟩) (j + 1) c8) = W := ⟨_, rfl⟩
      rw [hw8] at bx2 ro1 ro2 bl1
      obtain ⟨g2, c9, w9, ra2, bx3, bx4, ro3, ro4, bl2⟩ := push_kid (W := w8.drew) (pa := some ⟨gk2, ok2, none⟩) (na := nx) (ca := cx) (pb := py) (nb := ny) (cb := cy) (pc := pz) (nc := nz) (cc := cz) bx2 (World.ownsRow.drew ro1) (World.ownsRow.drew ro2) (Nat.le_trans hj HNP.out)
      have HBL := Lib.hid (show Below (w.heap.size + 1) wr w8 from (Below.refl _ _).drew.trans bl1)
      have HB8 := Lib.hid (show Below (w.heap.size + 1) w8 _ from (Below.refl _ _).drew.trans bl2)
      have HRA := Lib.hid ra1; have HRA2 := Lib.hid ra2; have HX4 := Lib.hid bx4; have HO3 := Lib.hid ro3; have HO4 := Lib.hid ro4
      have HSZ := Lib.hid (show w.heap.size + 1 < wr.heap.size from hbx.lt)
      have HCO := Lib.hid (show ∀ a u, w.cell? a = some u → w8.cell? a = some u from fun a u hu => by
        have hlt := World.block_lt_of_cell? _ _ hu
        exact (HBL.out.cell (by omega)).trans (cell_stays HB6.out hu))
      obtain ⟨_, _, y2⟩ := bx2.cells
      obtain ⟨_, _, d2⟩ := bx3.cells
      have f2 := bx3.frozen 2
      have y2b : (w8.alloc (.cells #[.slice (some ⟨gk2, ok2, none⟩) nx cx, .slice py ny cy, .slice pz nz cz] 43)).cell? ⟨w.heap.size + 1, 2, none⟩ = some (.slice pc nc cc) := cell_stays ((Below.refl _ _).alloc (Nat.le_refl _) _) y2
      have HY := Lib.hid (And.intro y2 (And.intro d2 (And.intro f2 y2b)))
      have HC3 := Lib.hid (And.intro (HCO.out _ _ (mask_cell.1 c0).2) (And.intro (HCO.out _ _ (mask_cell.1 c1).2) (HCO.out _ _ (mask_cell.1 c2).2)))
      clear ra1 ra2 bx1 bx2 bx3 bx4 ro1 ro2 ro3 ro4 bl1 bl2 kc1 hbx hrk hrc hb6 hs c0 c1 c2 hn9 hx3 hhd hx1 y2 d2 f2 hres r1 r2 y2b
      go_upto_region 5 with fail
      have HW8 := Lib.hid hw8
      clear hw8
      go_region_law (refine step_append_run rfl _ _ _ rfl rfl rfl HRA.out ?_)
      all_goals
        rw [HW8.out]
        clear r0 r3 x0 x1 x2 f0 d0 hnx x0b
        obtain ⟨r0, r1, r2⟩ := HC3.out
        obtain ⟨y2, d2, f2, y2b⟩ := HY.out
        go_upto_region 6 with fail
        go_region_law (refine step_append_run rfl _ _ _ rfl rfl rfl HRA2.out ?_)
        all_goals
          clear r0 r1 r2 y2 d2 f2 y2b
          go_wp2_with fail
          go_roundw
          case rel =>
            refine ⟨j + 1, _, _, hlt3, by go_num, HRS.out.low (HBL.out.trans HB8.out) (Nat.lt_succ_self _), HX4.out, ?_, ?_, HB6.out.trans ((HBL.out.trans HB8.out).mono (Nat.le_succ _))⟩
            · rw [take_mapR _ HS.out, HHD.out]; exact HO4.out
            · rw [HT3.out]; exact HO3.out
          case measure => first | exact meas_step hlt3 | (have hm := meas_step hlt3; rw [← hwj] at hm; exact hm)
end Go.Proofs.Ytpcmihgfcaelfaa
namespace Go.Proofs.Ytpcmihgfcaelfaa
open Go.RowKit

theorem grown_leaf {l : List PairD} (h : l.length ≤ 4) : Grown l (leafN l) := by
  refine ⟨pairs_leaf l, by simp [leafN, deepN, deepK], ?_⟩
  simp [leafN, sizedN]; omega
theorem apart_own {W : World} {B : Nat} {v : Value} (h : ∀ k, v.ownBlock = some k → k < B) {t : NodeD} {a b c : Value} {B0 : Nat} (hB : B0 ≤ B) (hn : NodeAt (mask (OwnF B W) W) t a b c) : NodeAt (mask (OwnF2 B0 v W) W) t a b c :=
  hn.keep (mask_keeps fun _ _ hf hv => ⟨⟨⟨Nat.le_trans hB hf.1, hf.2⟩, fun e => by have := h _ e.symm; have := hf.1; omega⟩, hv⟩)
def RofLPost (w : World) (l : List PairD) (e : Ending) (w' : World) : Prop := ∃ a b c, e = .returned (.agg #[a, b, c]) ∧ NodeAt (mask (OwnF w.heap.size w') w') (leafN l) a b c ∧ Below w.heap.size w w'
def RofIn (w : World) (l : List PairD) (np : Nat) (i : Value) (wr : World) : Prop :=
  ∃ (k : Nat) (kv vv : Value), k ≤ np ∧ i = .int .i64 k ∧ NdBlk wr w.heap.size (.slice none 0 0) (.slice none 0 0) (.slice none 0 0) ∧ NdBlk wr (w.heap.size + 1) kv vv (.slice none 0 0) ∧ wr.ownsRow (w.heap.size + 1 + 1) 3 1 kv k (intVs ((l.take k).map Prod.fst)) ∧ wr.ownsRow (w.heap.size + 1 + 1) 3 1 vv k (intVs ((l.take k).map Prod.snd)) ∧ Apart kv vv ∧ Apart vv kv ∧ Below w.heap.size w wr
set_option maxRecDepth 100000 in
set_option maxHeartbeats 8000000 in
theorem rofL_any (l : List PairD) (v1 : Value) (w : World) (h1 : PairsAt w v1 l) (h4 : l.length ≤ 4) (hbd : PBd l) : Calls Try.prog 24 #[v1] w (RofLPost w l) := by
  obtain ⟨p, cp, rfl, a1, a2, ha⟩ := h1
  obtain ⟨n, hn⟩ : ∃ n, l.length = n := ⟨_, rfl⟩
  rw [hn] at a1 h4; rw [hn]
  have HN := Lib.hid hn; have HA := Lib.hid ha; have H4 := Lib.hid h4; have HBD := Lib.hid hbd
  have h4i : (n : Int) ≤ 4 := by omega
  have hlc : (n : Int) ≤ 9223372036854775807 := by omega
  clear hn a1 a2 ha h4 hbd
  go_enter Try.func24, Try.ntmps24
  go_wp2_with fail
  go_loopw [4] (fun i wr => RofIn w l n i wr) (fun i _ => n - (intOf i).toNat)
  case atStart =>
    refine ⟨0, _, _, Nat.zero_le _, rfl, ?_, ?_, World.ownsRow_nil _ _ _ _, World.ownsRow_nil _ _ _ _, .inl rfl, .inl rfl, ((Below.refl _ _).alloc (Nat.le_refl _) _).alloc (by simp) _⟩
    · exact (NdBlk.new w _ _ _).below ((Below.refl _ _).alloc (Nat.le_refl _) _)
    · have := NdBlk.new (w.alloc (.cells #[.slice none 0 0, .slice none 0 0, .slice none 0 0] 43)) (.slice none 0 0) (.slice none 0 0) (.slice none 0 0)
      simpa using this
  case round =>
    obtain ⟨j, kv, vv, hj, rfl, hres, hbx, hrk, hrv, hap, hap', hb⟩ := hrel
    obtain ⟨pk, nk, ck, rfl⟩ := own_shape hrk
    obtain ⟨pv, nv, cv, rfl⟩ := own_shape hrv
    have HBX := Lib.hid hbx; have HRK := Lib.hid hrk; have HRV := Lib.hid hrv; have HB := Lib.hid hb; have HRS := Lib.hid hres
    by_cases hlt : j < n
    case neg =>
      obtain rfl : j = n := by omega
      have hmm : decide ((j : Int) < (j : Int)) = false := by simp
      obtain ⟨x0, x1, x2⟩ := hbx.cells
      obtain ⟨d0, d1, d2⟩ := hres.cells
      have f0 := hres.frozen 0; have f1 := hres.frozen 1; have f2 := hres.frozen 2
      have hlt1 := hres.lt
      clear hbx hrk hrv hb hres hap hap'
      have HT := Lib.hid (show l.take j = l from List.take_of_length_le (by rw [HN.out]; exact Nat.le_refl _))
      go_wp2_with fail
      have hbF : Below w.heap.size w (((wr.setCell ⟨w.heap.size, 0, none⟩ (.slice pk nk ck)).setCell ⟨w.heap.size, 1, none⟩ (.slice pv nv cv)).setCell ⟨w.heap.size, 2, none⟩ (.slice none 0 0)) := set_below (set_below (set_below HB.out 0 _) 1 _) 2 _
      have hlt2 : w.heap.size < w.heap.size + 1 + 1 := by omega
      have hkF := own_set (j := 2) (u := .slice none 0 0) (own_set (j := 1) (u := .slice pv nv cv) (own_set (j := 0) (u := .slice pk nk ck) HRK.out hlt2) hlt2) hlt2
      have hvF := own_set (j := 2) (u := .slice none 0 0) (own_set (j := 1) (u := .slice pv nv cv) (own_set (j := 0) (u := .slice pk nk ck) HRV.out hlt2) hlt2) hlt2
      obtain ⟨k0, k1, k2⟩ := (((HRS.out.set0 (.slice pk nk ck)).set1 (.slice pv nv cv)).set2 (.slice none 0 0)).cells
      obtain ⟨WF, hWF⟩ : ∃ W, ((wr.setCell ⟨w.heap.size, 0, none⟩ (.slice pk nk ck)).setCell ⟨w.heap.size, 1, none⟩ (.slice pv nv cv)).setCell ⟨w.heap.size, 2, none⟩ (.slice none 0 0) = W := ⟨_, rfl⟩
      rw [hWF] at hbF hkF hvF k0 k1 k2 ⊢
      refine bodyPost_ret (v := .agg #[.slice pk nk ck, .slice pv nv cv, .slice none 0 0]) (by simp [results, Try.results24, go_sem, k0, k1, k2]) rfl ?_
      rw [HT.out] at hkF hvF
      refine ⟨_, _, _, rfl, ?_, hbF⟩
      exact (leaf_at (W := WF) (B := w.heap.size + 1 + 1) (B0 := w.heap.size) HBD.out (by rw [HN.out]; exact hkF) (by rw [HN.out]; exact hvF) (by omega) (v := .slice none 0 0) (fun k hk => by simp [Value.ownBlock] at hk)).keep (mask_keeps fun _ _ hf hu => ⟨hf.1, hu⟩)
    case pos =>
      have hji : (j : Int) < (n : Int) := by omega
      have hwj := wrap_some hj (show n ≤ 1000000 by have := H4.out; omega)
      obtain ⟨s, hs⟩ : ∃ s, l[j]? = some s := ⟨_, List.getElem?_eq_getElem (by rw [HN.out]; exact hlt)⟩
      obtain ⟨g', o', rfl, e1, e2⟩ := HA.out j s hs
      have r1 := cell_stays hb e1; have r2 := cell_stays hb e2
      have HS := Lib.hid hs
      obtain ⟨x0, x1, x2⟩ := hbx.cells
      have x0b : (wr.alloc (.cells #[.int .i64 s.1] 3)).cell? ⟨w.heap.size + 1, 0, none⟩ = some (.slice pk nk ck) := cell_stays ((Below.refl _ _).alloc (Nat.le_refl _) _) x0
      obtain ⟨g1, c1, w2, ra1, bx1, bx2, ro1, bl1, oth1, kc1⟩ := push_key (W := wr.drew) s.1 hbx (World.ownsRow.drew hrk) (show j ≤ 1000000 by have := H4.out; omega)
      obtain ⟨rv1, ap1, ap2⟩ := oth1 _ _ _ (World.ownsRow.drew hrv) hap'
      have f0 := bx1.frozen 0
      have d0 := bx1.cells.1
      obtain ⟨w3, hw3⟩ : ∃ W, w2.setCell ⟨w.heap.size + 1, 0, none⟩ (.slice (some ⟨g1, 0, none⟩) (j + 1) c1) = W := ⟨_, rfl⟩
      rw [hw3] at bx2 ro1 bl1 rv1
      obtain ⟨g2, c2, w4, ra2, bx3, bx4, ro2, bl2, oth2, kc2⟩ := push_val (W := w3.drew) s.2 bx2 (World.ownsRow.drew rv1) (show j ≤ 1000000 by have := H4.out; omega)
      obtain ⟨rk2, ap3, ap4⟩ := oth2 _ _ _ (World.ownsRow.drew ro1) ap2
      have HBL := Lib.hid (show Below (w.heap.size + 1) wr w3 from (Below.refl _ _).drew.trans bl1)
      have HB8 := Lib.hid (show Below (w.heap.size + 1) w3 _ from (Below.refl _ _).drew.trans bl2)
      have HSZ := Lib.hid (show w.heap.size + 1 < wr.heap.size from hbx.lt)
      have HC2 := Lib.hid (show w3.cell? ⟨g', o' + j * 2 + 1, none⟩ = some (.int .i64 s.2) from by
        have hlt := World.block_lt_of_cell? _ _ e2
        exact (HBL.out.cell (by simp only at hlt ⊢; omega)).trans r2)
      obtain ⟨_, y1, _⟩ := bx2.cells
      obtain ⟨_, d1, _⟩ := bx3.cells
      have f1 := bx3.frozen 1
      have y1b : (w3.alloc (.cells #[.int .i64 s.2] 3)).cell? ⟨w.heap.size + 1, 1, none⟩ = some (.slice pv nv cv) := cell_stays ((Below.refl _ _).alloc (Nat.le_refl _) _) y1
      have HY := Lib.hid (And.intro y1 (And.intro d1 (And.intro f1 y1b)))
      have HRA := Lib.hid ra1; have HRA2 := Lib.hid ra2; have HX4 := Lib.hid bx4; have HRK4 := Lib.hid rk2; have HRV4 := Lib.hid ro2; have HAP4 := Lib.hid (And.intro ap3 ap4)
      clear ra1 ra2 bx1 bx2 bx3 bx4 ro1 ro2 bl1 bl2 oth1 oth2 kc1 kc2 rv1 rk2 ap1 ap2 ap3 ap4 hbx hrk hrv hap hap' hb hres hs e1 e2 y1 d1 f1 y1b r2
      go_upto_region 6 with fail
      have HW3 := Lib.hid hw3
      clear hw3
      go_region_law (refine step_append_run rfl _ _ _ rfl rfl rfl HRA.out ?_)
      all_goals
        rw [HW3.out]
        clear r1 x0 x1 x2 x0b f0 d0
        have r2 := HC2.out
        obtain ⟨y1, d1, f1, y1b⟩ := HY.out
        go_upto_region 7 with fail
        go_region_law (refine step_append_run rfl _ _ _ rfl rfl rfl HRA2.out ?_)
        all_goals
          clear r2 y1 d1 f1 y1b
          go_wp2_with fail
          go_roundw
          case rel =>
            refine ⟨j + 1, _, _, hlt, by go_num, HRS.out.low (HBL.out.trans HB8.out) (Nat.lt_succ_self _), HX4.out, ?_, ?_, HAP4.out.1, HAP4.out.2, HB.out.trans ((HBL.out.trans HB8.out).mono (Nat.le_succ _))⟩
            · rw [take_mapR _ HS.out]; exact HRK4.out
            · rw [take_mapR _ HS.out]; exact HRV4.out
          case measure => first | exact meas_step hlt | (have hm := meas_step hlt; rw [← hwj] at hm; exact hm)
theorem rofS_any (l : List PairD) (v1 : Value) (w : World) (h1 : PairsAt w v1 l) (h4 : l.length ≤ 4) (hbd : PBd l) : Calls Try.prog 24 #[v1] w (PlantPost w l) :=
  (rofL_any l v1 w h1 h4 hbd).mono fun _ _ ⟨a, b, c, he, hn, hb⟩ => ⟨_, a, b, c, he, grown_leaf h4, hn, hb⟩
end Go.Proofs.Ytpcmihgfcaelfaa
namespace Go.Proofs.Ytpcmihgfcaelfaa
open Go.RowKit

/-- where the pieces of two (the last one of two or three) begin -/
def stepT (n f : Nat) : Nat := if n - f = 3 then 3 else 2
/-- a list in pieces of two, the last one of two or three -/
def twoQ {α : Type} : List α → List (List α)
  | [] => []
  | [a] => [[a]]
  | [a, b] => [[a, b]]
  | [a, b, c] => [[a, b, c]]
  | a :: b :: r => [a, b] :: twoQ r
theorem twoQ_cat {α : Type} : ∀ l : List α, (twoQ l).flatten = l
  | [] => rfl
  | [a] => rfl
  | [a, b] => rfl
  | [a, b, c] => rfl
  | a :: b :: c :: d :: r => by
    have := twoQ_cat (c :: d :: r)
    simp only [twoQ, List.flatten_cons, this]; rfl
theorem twoQ_bd {α : Type} : ∀ l : List α, 2 ≤ l.length → ∀ p ∈ twoQ l, 2 ≤ p.length ∧ p.length ≤ 3
  | [], h => by simp at h
  | [a], h => by simp at h
  | [a, b], _ => fun p hp => by simp [twoQ] at hp; subst hp; simp
  | [a, b, c], _ => fun p hp => by simp [twoQ] at hp; subst hp; simp
  | a :: b :: c :: d :: r, _ => fun p hp => by
    simp only [twoQ, List.mem_cons] at hp
    rcases hp with rfl | hp
    · simp
    · exact twoQ_bd (c :: d :: r) (by simp) p hp
theorem twoQ_len {α : Type} : ∀ l : List α, 2 ≤ l.length → 2 * (twoQ l).length ≤ l.length ∧ 1 ≤ (twoQ l).length
  | [], h => by simp at h
  | [a], h => by simp at h
  | [a, b], _ => by simp [twoQ]
  | [a, b, c], _ => by simp [twoQ]
  | a :: b :: c :: d :: r, _ => by
    have := twoQ_len (c :: d :: r) (by simp)
    simp only [twoQ, List.length_cons] at this ⊢; omega
/-- the next piece -/
theorem twoQ_next {α : Type} {l : List α} {f : Nat} (h2 : f + 2 ≤ l.length) : twoQ (l.drop f) = (l.drop f).take (stepT l.length f) :: twoQ (l.drop (f + stepT l.length f)) ∧ (f + stepT l.length f = l.length ∨ f + stepT l.length f + 2 ≤ l.length ∨ f + stepT l.length f + 1 = l.length) := by
  obtain ⟨d, hd⟩ : ∃ d, l.drop f = d := ⟨_, rfl⟩
  have hl : d.length = l.length - f := by rw [← hd]; simp
  rw [← List.drop_drop, hd]
  match d, hl with
  | [], h => simp at h; omega
  | [a], h => simp at h; omega
  | [a, b], h =>
    have e : stepT l.length f = 2 := by unfold stepT; simp at h; rw [if_neg (by omega)]
    rw [e]; simp at h; exact ⟨rfl, by omega⟩
  | [a, b, c], h =>
    have e : stepT l.length f = 3 := by unfold stepT; simp at h; rw [if_pos (by omega)]
    rw [e]; simp at h; exact ⟨rfl, by omega⟩
  | a :: b :: c :: d :: r, h =>
    simp only [List.length_cons] at h
    have e : stepT l.length f = 2 := by unfold stepT; rw [if_neg (by omega)]
    rw [e]
    exact ⟨rfl, by omega⟩
theorem twoQ_ok {α : Type} {l : List α} (h : 2 ≤ l.length) : CutOk l (twoQ l) := by
  have := twoQ_len l h
  exact ⟨twoQ_cat l, ⟨this.2, by omega, fun _ => this.1⟩, fun p hp => by have := twoQ_bd l h p hp; omega⟩
theorem twoQ_low {α : Type} : ∀ l : List α, l.length ≤ 2 * (twoQ l).length + 1
  | [] => by simp
  | [a] => by simp [twoQ]
  | [a, b] => by simp [twoQ]
  | [a, b, c] => by simp [twoQ]
  | a :: b :: c :: d :: r => by
    have := twoQ_low (c :: d :: r)
    simp only [twoQ, List.length_cons] at this ⊢; omega
theorem twoQ_nil {α : Type} {l : List α} {f : Nat} (h : f = l.length) : twoQ (l.drop f) = [] := by
  subst h; rw [List.drop_length]; rfl
/-- the next piece and what is behind it -/
theorem twoQ_step {α : Type} {l : List α} {n f : Nat} (hn : l.length = n) (h2 : f + 2 ≤ n) : ∃ k, (k = 2 ∧ n - f ≠ 3 ∨ k = 3 ∧ n - f = 3) ∧ f + k ≤ n ∧ (f + k = n ∨ f + k + 2 ≤ n) ∧ twoQ (l.drop f) = (l.drop f).take k :: twoQ (l.drop (f + k)) := by
  subst hn
  have h := (twoQ_next h2).1
  by_cases h3 : l.length - f = 3
  · exact ⟨3, .inr ⟨rfl, h3⟩, by omega, by omega, by rw [h]; unfold stepT; rw [if_pos h3]⟩
  · exact ⟨2, .inl ⟨rfl, h3⟩, by omega, by omega, by rw [h]; unfold stepT; rw [if_neg h3]⟩
theorem pairs_sub {w : World} {g o n c f k : Nat} {l : List PairD} (h : ∀ i x, l[i]? = some x → ∃ g' o', some (⟨g, o, none⟩ : Addr) = some ⟨g', o', none⟩ ∧ w.cell? ⟨g', o' + i * 2, none⟩ = some (.int .i64 x.1) ∧ w.cell? ⟨g', o' + i * 2 + 1, none⟩ = some (.int .i64 x.2)) (hn : l.length = n) (hc : n ≤ c) (hc2 : c ≤ maxLen) (hk : f + k ≤ n) : PairsAt w (.slice (some ⟨g, o + f * 2, none⟩) k (c - f)) ((l.drop f).take k) := by
  have hl : ((l.drop f).take k).length = k := by rw [List.length_take, List.length_drop, hn]; omega
  refine ⟨_, c - f, by rw [hl], by rw [hl]; omega, by omega, fun i x hx => ?_⟩
  have hi : i < k := by have := (List.getElem?_eq_some_iff.1 hx).1; omega
  rw [List.getElem?_take, if_pos hi, List.getElem?_drop] at hx
  obtain ⟨g', o', e, e1, e2⟩ := h _ _ hx
  injection e with e; injection e with e e'
  subst e; subst e'
  refine ⟨g, o + f * 2, rfl, ?_, ?_⟩
  · rw [show o + f * 2 + i * 2 = o + (f + i) * 2 by omega]; exact e1
  · rw [show o + f * 2 + i * 2 + 1 = o + (f + i) * 2 + 1 by omega]; exact e2
theorem pbd_sub {l : List PairD} (h : PBd l) (f k : Nat) : PBd ((l.drop f).take k) := fun x hx => h x (List.mem_of_mem_drop (List.mem_of_mem_take hx))
theorem kid_sub {w : World} {g f k : Nat} {l : List NodeD} (h : ∀ j t, l[j]? = some t → KidAt w (some ⟨g, 0, none⟩) j t) : ∀ j t, ((l.drop f).take k)[j]? = some t → KidAt w (some ⟨g, f * 3, none⟩) j t := by
  intro j t hj
  rw [List.getElem?_take] at hj
  split at hj
  · rw [List.getElem?_drop] at hj
    obtain ⟨g', o', x, y, z, e, e1, e2, e3, e4⟩ := h _ _ hj
    injection e with e; injection e with e e'
    subst e; subst e'
    rw [Nat.zero_add, show (f + j) * 3 = f * 3 + j * 3 by omega] at e1 e2 e3
    exact ⟨g, f * 3, x, y, z, rfl, e1, e2, e3, e4⟩
  · simp at hj
theorem nds_empty {w : World} {B D : Nat} (hD : D ≤ w.heap.size) : OwnNds (w.alloc (.cells #[] 43)) B D (.slice (some ⟨w.heap.size, 0, none⟩) 0 0) [] := by
  refine ⟨[], rfl, ?_, fun x h => by simp at h⟩
  have := World.ownsRow_made w #[] 0 (base := D) (e := 43) (size := 3) hD (by unfold maxLen; omega) rfl
  simpa [ndRows] using this
def RofLf (w : World) (l : List PairD) (n : Nat) (v i : Value) (wr : World) : Prop :=
  ∃ (f : Nat) (L : List (List PairD)), f ≤ n ∧ i = .int .i64 f ∧ L ++ twoQ (l.drop f) = twoQ l ∧ (f = n ∨ f + 2 ≤ n) ∧ L.length ≤ f ∧ OwnNds wr (w.heap.size + 1) (w.heap.size + 1) v (L.map leafN) ∧ NdBlk wr w.heap.size (.slice none 0 0) (.slice none 0 0) (.slice none 0 0) ∧ Below w.heap.size w wr
def RofRel (w : World) (l : List PairD) (k : Nat) (v : Value) (wr : World) : Prop :=
  2 ≤ k ∧ k ≤ 1000000 ∧ ∃ (row : List NodeD) (d : Nat), row.length = k ∧ RowOk row l d ∧ OwnNds wr (w.heap.size + 1) (w.heap.size + 1) v row ∧ NdBlk wr w.heap.size (.slice none 0 0) (.slice none 0 0) (.slice none 0 0) ∧ Below w.heap.size w wr
def RofOv (w wq : World) (row : List NodeD) (m : Nat) (v i : Value) (wr : World) : Prop :=
  ∃ (f : Nat) (L : List (List NodeD)), f ≤ m ∧ i = .int .i64 f ∧ L ++ twoQ (row.drop f) = twoQ row ∧ (f = m ∨ f + 2 ≤ m) ∧ L.length ≤ f ∧ OwnNds wr (w.heap.size + 1) wq.heap.size v (L.map overN) ∧ Below wq.heap.size wq wr
theorem meas_from {n f k : Nat} (h : f + k ≤ n) (hk : 1 ≤ k) : n - (intOf (.int .i64 ((f + k : Nat) : Int))).toNat < n - (intOf (.int .i64 (f : Int))).toNat := by
  simp only [intOf]; omega
theorem sub_facts {n f k : Nat} (h : f + k ≤ n) (h2 : n ≤ 1000000) : wrap64 ((n : Int) - (f : Int)) = ((n - f : Nat) : Int) ∧ wrap64 ((f : Int) + (k : Int)) = ((f + k : Nat) : Int) := by
  constructor
  · unfold wrap64; omega
  · unfold wrap64; omega
set_option maxRecDepth 100000 in
set_option maxHeartbeats 8000000 in
theorem rofB_any (l : List PairD) (v1 : Value) (w : World) (h1 : PairsAt w v1 l) (h4 : 4 < l.length) (hlen : l.length ≤ 900000) (hbd : PBd l) : Calls Try.prog 24 #[v1] w (PlantPost w l) := by
  have HBD := Lib.hid hbd
  obtain ⟨p, c, rfl, a1, a2, ha⟩ := h1
  obtain ⟨g, o, rfl⟩ : ∃ g o, p = some ⟨g, o, none⟩ := by
    obtain ⟨g, o, e, _⟩ := ha 0 _ (List.getElem?_eq_getElem (by omega))
    exact ⟨g, o, e⟩
  obtain ⟨n, hn⟩ : ∃ n, l.length = n := ⟨_, rfl⟩
  rw [hn] at a1 h4 hlen; rw [hn]
  have HN := Lib.hid hn; have HA := Lib.hid ha; have HNB := Lib.hid (And.intro h4 hlen); have HC := Lib.hid (And.intro a1 a2)
  have h4i : ¬ (n : Int) ≤ 4 := by omega
  have hlc : (n : Int) ≤ 9223372036854775807 := by omega
  clear hn ha hlen hbd a1 a2
  go_enter Try.func24, Try.ntmps24
  go_wp2_with fail
  clear h4i h4
  go_loopw [5, 6] (fun v i wr => RofLf w l n v i wr) (fun _ i _ => n - (intOf i).toNat)
  case atStart =>
    refine ⟨0, [], Nat.zero_le _, rfl, by rw [List.drop_zero]; rfl, .inr (by have := HNB.out; omega), Nat.le_refl _, ?_, (NdBlk.new w _ _ _).below ((Below.refl _ _).alloc (Nat.le_refl _) _), ((Below.refl _ _).alloc (Nat.le_refl _) _).alloc (by simp) _⟩
    have := nds_empty (w := w.alloc (.cells #[.slice none 0 0, .slice none 0 0, .slice none 0 0] 43)) (B := w.heap.size + 1) (D := w.heap.size + 1) (by simp)
    simpa using this
  case round =>
    obtain ⟨f, L, hf, rfl, hcat, hend, hLf, hnd, hz, hb⟩ := hrel
    obtain ⟨nr, hnr⟩ : ∃ q, L.length = q := ⟨_, rfl⟩
    obtain ⟨pr, cr, rfl⟩ := hnd.shapeN (n := nr) (by rw [List.length_map]; exact hnr)
    have HCAT := Lib.hid hcat; have HND := Lib.hid hnd; have HZ := Lib.hid hz; have HB := Lib.hid hb; have HNR := Lib.hid (And.intro hnr hLf)
    clear hcat hnd hz hb hnr hLf
    by_cases hlt : f < n
    case pos =>
      obtain ⟨k, hk, hkn, hke, hstep⟩ := twoQ_step HN.out (show f + 2 ≤ n by omega)
      have hfi : (f : Int) < (n : Int) := by omega
      obtain ⟨hi, hhi⟩ : ∃ q, f + k = q := ⟨_, rfl⟩
      obtain ⟨w1, w2⟩ := sub_facts hkn (show n ≤ 1000000 by have := HNB.out; omega)
      rw [hhi] at w2
      have HK := Lib.hid hk; have HKE := Lib.hid (And.intro hkn (And.intro hke hhi)); have HSTEP := Lib.hid hstep
      have HPA := Lib.hid (pairs_sub (f := f) (k := k) (fun i x hx => by obtain ⟨g', o', e, e1, e2⟩ := HA.out i x hx; exact ⟨g', o', e, cell_stays HB.out e1, cell_stays HB.out e2⟩) HN.out HC.out.1 HC.out.2 hkn)
      have HPB := Lib.hid (pbd_sub HBD.out f k)
      have HPL := Lib.hid (show ((l.drop f).take k).length ≤ 4 by rw [List.length_take]; omega)
      obtain ⟨q, hq⟩ : ∃ q, (l.drop f).take k = q := ⟨_, rfl⟩
      rw [hq] at HPA HPB HPL HSTEP
      obtain ⟨s3, s1, s2, s4, s5, s6, s8, s9, s10⟩ := slice_facts hhi (show hi ≤ n by omega) HC.out.1 (show 1 ≤ k by omega)
      have S3 := Lib.hid s3
      have hk1 : 1 ≤ k := by omega
      have HM := Lib.hid (meas_from hkn hk1)
      rw [hhi] at HM
      clear hkn hke hstep hq hhi hend s3 hk1 w1
      rcases hk with ⟨rfl, h3⟩ | ⟨rfl, h3⟩
      all_goals
        first
        | (have hd3 : ((n : Int) - (f : Int) == 3) = false := by simp only [beq_eq_false_iff_ne, ne_eq]; omega
           have hw3 : wrap64 ((f : Int) + 2) = (hi : Int) := w2
           have hcc : (f : Int) + 2 ≤ (c : Int) := by have := HKE.out; omega)
        | (have hd3 : ((n : Int) - (f : Int) == 3) = true := by simp only [beq_iff_eq]; omega
           have hw3 : wrap64 ((f : Int) + 3) = (hi : Int) := w2
           have hcc : (f : Int) + 3 ≤ (c : Int) := by have := HKE.out; omega)
        go_wp2_with fail
        try rw [S3.out]
        refine (rofL_any q _ _ HPA.out HPL.out HPB.out).mono ?_
        rintro e w3 ⟨xa, xb, xc, rfl, hn3, hb3⟩
        obtain ⟨qa, na, ca, qb, nb, cb, qc, nc, cc, rfl, rfl, rfl⟩ := node_slices hn3
        have HN3 := Lib.hid hn3; have HB3 := Lib.hid hb3
        clear hn3 hb3
        obtain ⟨g6, c6, w6, hrun, hown6, hb6⟩ := nd_append w3 (w.heap.size + 1) (w.heap.size + 1) nr _ _ (leafN q) _ _ _ (HND.out.below HB3.out) (by rw [List.length_map]; exact HNR.out.1) (by have := HNR.out; have := HNB.out; omega) (Nat.le_trans HZ.out.lt HB3.out.size) (apart_own (fun k hk => (HND.out.block k hk).2) (Nat.le_of_lt HZ.out.lt |> fun h => by have := HZ.out.lt; omega) HN3.out)
        have HRUN := Lib.hid hrun; have HO6 := Lib.hid hown6; have HB6 := Lib.hid ((HB.out.trans (below_low HB3.out HB.out.size)).trans (hb6.mono (Nat.le_succ _)))
        have HZ6 := Lib.hid ((HZ.out.below HB3.out).low hb6 (Nat.lt_succ_self _))
        have HF6 := Lib.hid (show hi ≤ n ∧ (hi = n ∨ hi + 2 ≤ n) ∧ f + 1 ≤ hi by have := HKE.out; omega)
        clear hrun hown6 hb6 hd3 s1 s2 s4 s5 s6 s8 s9 s10
        go_wp2_with (at_builtin; refine Lib.wpList_append_run _ rfl _ _ _ _ rfl _ _ rfl rfl _ _ HRUN.out ?_)
        go_roundw
        case rel => exact ⟨hi, L ++ [q], HF6.out.1, by have hh := HKE.out.2.2; (first | (go_num; done) | (congr 1; omega)), by rw [← HCAT.out, HSTEP.out, HKE.out.2.2]; simp, HF6.out.2.1, by rw [List.length_append]; have h1 := HF6.out.2.2; have h2 := HNR.out.2; simp only [List.length_cons, List.length_nil]; omega, by rw [List.map_append]; exact HO6.out, HZ6.out, HB6.out⟩
        case measure => first | exact HM.out | (have hm := HM.out; first | (rw [← hw3] at hm; exact hm) | (rw [← HKE.out.2.2] at hm; push_cast at hm; exact hm))
    case neg =>
      obtain rfl : f = n := by omega
      have hmm : decide ((f : Int) < (f : Int)) = false := by simp
      have hL : L = twoQ l := by
        have := HCAT.out
        rw [twoQ_nil HN.out.symm, List.append_nil] at this; exact this
      have hlow := twoQ_low l
      rw [← hL, HNR.out.1, HN.out] at hlow
      have hok : RowOk ((twoQ l).map leafN) l 1 := leaf_rowG (by rw [HN.out]; have := HNB.out; omega) (by rw [HN.out]; have := HNB.out; omega) (twoQ_ok (by rw [HN.out]; have := HNB.out; omega))
      have HREL := Lib.hid (show RofRel w l nr (.slice pr nr cr) wr from ⟨by have := HNB.out; omega, by have := HNB.out; have h1 := HNR.out.2; rw [HNR.out.1] at h1; omega, _, _, by rw [List.length_map, ← hL]; exact HNR.out.1, hok, by rw [← hL]; exact HND.out, HZ.out, HB.out⟩)
      clear hL hlow hok hend
      go_wp2_with fail
      go_loopg [5] nr (fun k v wr => RofRel w l k v wr)
      case atStart => exact HREL.out
      case round =>
        obtain ⟨h2, hgk, row, d, hrl, hok, hnd, hz, hb⟩ := hrel
        obtain ⟨pr2, cr2, rfl, hs1, hs2, hs3⟩ := hnd.shape
        have HOK := Lib.hid hok; have HRL := Lib.hid hrl; have HGK := Lib.hid (And.intro h2 hgk); have HND3 := Lib.hid hnd; have HZ3 := Lib.hid hz; have HB3 := Lib.hid hb
        rw [hrl] at hs1 ⊢
        have HCP := Lib.hid (And.intro hs1 (And.intro hs2 hs3))
        clear hgk hok hnd hz hb HREL HB HND HZ hs1 hs2 hs3
        obtain ⟨g7, e7, _⟩ := HND3.out.kid (Nat.le_refl _) 0 _ (List.getElem?_eq_getElem (by rw [HRL.out]; omega))
        subst e7
        have HKID := Lib.hid (show ∀ j t, row[j]? = some t → KidAt (mask (OwnF (w.heap.size + 1) wr) wr) (some ⟨g7, 0, none⟩) j t from fun j t hj => by
          obtain ⟨g8, e8, h8⟩ := HND3.out.kid (Nat.le_refl _) j t hj
          injection e8 with e8; injection e8 with e8 e9
          subst e8; exact h8)
        obtain ⟨wo, hwo⟩ : ∃ W, W = wr := ⟨_, rfl⟩
        rw [← hwo] at HND3 HZ3 HB3 HCP HKID ⊢
        clear hwo
        by_cases h4 : gk ≤ 4
        case pos =>
          have h4i : ¬ (4 : Int) < (gk : Int) := by omega
          obtain ⟨d0, d1, d2⟩ := HZ3.out.cells
          have f0 := HZ3.out.frozen 0; have f1 := HZ3.out.frozen 1; have f2 := HZ3.out.frozen 2
          have hab := rabove_any row (w.heap.size + 1) wo.heap.size g7 0 cr2 wo (by rw [HRL.out]; omega) (by rw [HRL.out]; have := HGK.out; omega) HZ3.out.lt (Nat.le_refl _) HOK.out.keys (fun j t hj => kid_keep (HKID.out j t hj) (lt_keep (Below.refl _ _)))
          rw [HRL.out] at hab
          have HAB := Lib.hid hab
          have HGR := Lib.hid (show Grown l (overN row) from grown_row (over_rowG (L := [row]) HOK.out (by rw [HRL.out]; exact h2) ⟨by simp, ⟨by simp, by simp only [List.length_cons, List.length_nil]; rw [HRL.out]; omega, fun _ => by simp only [List.length_cons, List.length_nil]; rw [HRL.out]; omega⟩, fun p hp => by simp only [List.mem_cons, List.not_mem_nil, or_false] at hp; subst hp; rw [HRL.out]; exact ⟨by omega, h4, fun h => h⟩⟩) rfl)
          clear hab h4 d0 d1 d2 f0 f1 f2
          go_wp2_with fail
          refine HAB.out.mono ?_
          rintro e w3 ⟨xa, xb, xc, rfl, hn, hb3⟩
          have hn3 := hn (.slice none 0 0) (fun k hk => by simp [Value.ownBlock] at hk)
          obtain ⟨px, nx, cx, py, ny, cy, pz, nz, cz, rfl, rfl, rfl⟩ := node_slices hn3
          have HN7 := Lib.hid (show NodeAt (mask (OwnF (w.heap.size + 1) w3) w3) (overN row) (.slice px nx cx) (.slice py ny cy) (.slice pz nz cz) from hn3.keep (mask_keeps fun _ _ hf hu => ⟨hf.1, hu⟩))
          have HZ4 := Lib.hid (HZ3.out.below hb3); have HB4 := Lib.hid (btrans HB3.out hb3)
          obtain ⟨d0, d1, d2⟩ := HZ4.out.cells
          have f0 := HZ4.out.frozen 0; have f1 := HZ4.out.frozen 1; have f2 := HZ4.out.frozen 2
          clear hn hn3 hb3
          go_wp2_with fail
          have hlt1 : w.heap.size < w3.heap.size := HZ4.out.lt
          have hBF := set_below (set_below (set_below HB4.out 0 (.slice px nx cx)) 1 (.slice py ny cy)) 2 (.slice pz nz cz)
          have hNF := ((HN7.out.keep (own_keep (grown_set w3 w.heap.size 0 (.slice px nx cx)) (Nat.lt_succ_self _) (Nat.le_refl _))).keep (own_keep (grown_set _ w.heap.size 1 (.slice py ny cy)) (Nat.lt_succ_self _) (Nat.le_refl _))).keep (own_keep (grown_set _ w.heap.size 2 (.slice pz nz cz)) (Nat.lt_succ_self _) (Nat.le_succ _))
          obtain ⟨k0, k1, k2⟩ := (((HZ4.out.set0 (.slice px nx cx)).set1 (.slice py ny cy)).set2 (.slice pz nz cz)).cells
          obtain ⟨WF, hWF⟩ : ∃ W, ((w3.setCell ⟨w.heap.size, 0, none⟩ (.slice px nx cx)).setCell ⟨w.heap.size, 1, none⟩ (.slice py ny cy)).setCell ⟨w.heap.size, 2, none⟩ (.slice pz nz cz) = W := ⟨_, rfl⟩
          rw [hWF] at hBF hNF k0 k1 k2 ⊢
          refine bodyPost_ret (v := .agg #[.slice px nx cx, .slice py ny cy, .slice pz nz cz]) (by simp [results, Try.results24, go_sem, k0, k1, k2]) rfl ?_
          exact ⟨_, _, _, _, rfl, HGR.out, hNF, hBF⟩
        case neg =>
          have h4i : (4 : Int) < (gk : Int) := by omega
          have HG4 := Lib.hid (show 4 < gk by omega)
          have hlg : (gk : Int) ≤ 9223372036854775807 := by have := HGK.out; omega
          clear h4
          go_wp2_with fail
          clear h4i
          go_loopw [8, 9] (fun v i wr => RofOv w wo row gk v i wr) (fun _ i _ => gk - (intOf i).toNat)
          case atStart => exact ⟨0, [], Nat.zero_le _, rfl, by rw [List.drop_zero]; rfl, .inr (by have := HG4.out; omega), Nat.le_refl _, nds_empty (Nat.le_refl _), (Below.refl _ _).alloc (Nat.le_refl _) _⟩
          case round =>
            obtain ⟨f, L, hf, rfl, hcat, hend, hLf, hnd, hb⟩ := hrel
            obtain ⟨nr, hnr⟩ : ∃ q, L.length = q := ⟨_, rfl⟩
            obtain ⟨pr, cr, rfl⟩ := hnd.shapeN (n := nr) (by rw [List.length_map]; exact hnr)
            have HCAT := Lib.hid hcat; have HND := Lib.hid hnd; have HB := Lib.hid hb; have HNR := Lib.hid (And.intro hnr hLf)
            clear hcat hnd hb hnr hLf
            by_cases hlt : f < gk
            case pos =>
              obtain ⟨k, hk, hkn, hke, hstep⟩ := twoQ_step HRL.out (show f + 2 ≤ gk by omega)
              have hfi : (f : Int) < (gk : Int) := by omega
              obtain ⟨hi, hhi⟩ : ∃ q, f + k = q := ⟨_, rfl⟩
              obtain ⟨w1, w2⟩ := sub_facts hkn (show gk ≤ 1000000 by have := HGK.out; omega)
              rw [hhi] at w2
              have HKE := Lib.hid (And.intro hkn (And.intro hke hhi)); have HSTEP := Lib.hid hstep
              have HCC := Lib.hid (show gk ≤ cr2 from HCP.out.1)
              have HKS := Lib.hid (kid_sub (f := f) (k := k) (fun j t hj => kid_keep (HKID.out j t hj) (lt_keep HB.out)))
              have HQK := Lib.hid (show ∀ t ∈ (row.drop f).take k, 1 ≤ t.keys.length from fun t ht => HOK.out.keys t (List.mem_of_mem_drop (List.mem_of_mem_take ht)))
              have HPL := Lib.hid (show ((row.drop f).take k).length = k by rw [List.length_take, List.length_drop, HRL.out]; omega)
              obtain ⟨q, hq⟩ : ∃ q, (row.drop f).take k = q := ⟨_, rfl⟩
              rw [hq] at HKS HQK HPL HSTEP
              obtain ⟨s3, s1, s2, s4, s5, s6, s8, s9, s10⟩ := slice_facts hhi (show hi ≤ gk by omega) HCP.out.1 (show 1 ≤ k by omega)
              have S3 := Lib.hid s3
              have hk1 : 1 ≤ k := by omega
              have hk3 : k ≤ 3 := by omega
              have HM := Lib.hid (meas_from hkn hk1)
              rw [hhi] at HM
              have hab := rabove_any q (w.heap.size + 1) wo.heap.size g7 (f * 3) (cr2 - f) wr (by rw [HPL.out]; exact hk1) (by rw [HPL.out]; omega) HZ3.out.lt HB.out.size HQK.out HKS.out
              rw [HPL.out] at hab
              have HAB := Lib.hid hab
              clear hkn hke hstep hq hhi hend s3 hk1 w1 hk3 hab
              rcases hk with ⟨rfl, h3⟩ | ⟨rfl, h3⟩
              all_goals
                first
                | (have hd3 : ((gk : Int) - (f : Int) == 3) = false := by simp only [beq_eq_false_iff_ne, ne_eq]; omega
                   have hw3 : wrap64 ((f : Int) + 2) = (hi : Int) := w2
                   have hcc : (f : Int) + 2 ≤ (cr2 : Int) := by have := HKE.out; have := HCC.out; omega)
                | (have hd3 : ((gk : Int) - (f : Int) == 3) = true := by simp only [beq_iff_eq]; omega
                   have hw3 : wrap64 ((f : Int) + 3) = (hi : Int) := w2
                   have hcc : (f : Int) + 3 ≤ (cr2 : Int) := by have := HKE.out; have := HCC.out; omega)
                go_wp2_with fail
                try rw [S3.out]
                refine HAB.out.mono ?_
                rintro e w3 ⟨xa, xb, xc, rfl, hn, hb3⟩
                have hn3 := hn (.slice pr nr cr) (fun b hbk => HND.out.block b hbk)
                obtain ⟨qa, na, ca, qb, nb, cb, qc, nc, cc, rfl, rfl, rfl⟩ := node_slices hn3
                have HB3' := Lib.hid hb3
                obtain ⟨g6, c6, w6, hrun, hown6, hb6⟩ := nd_append w3 (w.heap.size + 1) wo.heap.size nr _ _ (overN q) _ _ _ (HND.out.below hb3) (by rw [List.length_map]; exact HNR.out.1) (by have h1 := HNR.out.2; rw [HNR.out.1] at h1; have := HGK.out; omega) (Nat.le_trans HB.out.size hb3.size) hn3
                have HRUN := Lib.hid hrun; have HO6 := Lib.hid hown6; have HB6 := Lib.hid ((HB.out.trans (below_low hb3 HB.out.size)).trans hb6)
                have HF6 := Lib.hid (show hi ≤ gk ∧ (hi = gk ∨ hi + 2 ≤ gk) ∧ f + 1 ≤ hi by have := HKE.out; omega)
                clear hrun hown6 hb6 hd3 s1 s2 s4 s5 s6 s8 s9 s10 hn hn3 hb3
                go_wp2_with (at_builtin; refine Lib.wpList_append_run _ rfl _ _ _ _ rfl _ _ rfl rfl _ _ HRUN.out ?_)
                go_roundw
                case rel => exact ⟨hi, L ++ [q], HF6.out.1, by have hh := HKE.out.2.2; (first | (go_num; done) | (congr 1; omega)), by rw [← HCAT.out, HSTEP.out, HKE.out.2.2]; simp, HF6.out.2.1, by rw [List.length_append]; have h1 := HF6.out.2.2; have h2 := HNR.out.2; simp only [List.length_cons, List.length_nil]; omega, by rw [List.map_append]; exact HO6.out, HB6.out⟩
                case measure => first | exact HM.out | (have hm := HM.out; first | (rw [← hw3] at hm; exact hm) | (rw [← HKE.out.2.2] at hm; push_cast at hm; exact hm))
            case neg =>
              obtain rfl : f = gk := by omega
              have hmm : decide ((f : Int) < (f : Int)) = false := by simp
              have hL : L = twoQ row := by
                have := HCAT.out
                rw [twoQ_nil HRL.out.symm, List.append_nil] at this; exact this
              have hlow := twoQ_low row
              have hup := (twoQ_len row (by rw [HRL.out]; exact HGK.out.1)).1
              rw [← hL, HNR.out.1, HRL.out] at hlow hup
              have hrr : RofRel w l nr (.slice pr nr cr) wr := ⟨by have := HG4.out; omega, by have := HGK.out; omega, (twoQ row).map overN, d + 1, by rw [List.length_map, ← hL]; exact HNR.out.1, over_rowG HOK.out (by rw [HRL.out]; exact HGK.out.1) (twoQ_ok (by rw [HRL.out]; exact HGK.out.1)), by rw [← hL]; exact HND.out.mono HZ3.out.lt, HZ3.out.low HB.out HZ3.out.lt, HB3.out.trans (below_low HB.out HB3.out.size)⟩
              have HRR := Lib.hid hrr
              have HLT := Lib.hid (show nr < f by have := HG4.out; omega)
              clear hL hlow hup hrr hend
              go_wp2_with fail
              go_roundg nr
              case measure => exact HLT.out
              case rel => exact HRR.out
/-- R16.Of of any pairs -/
theorem rof_any (l : List PairD) (v1 : Value) (w : World) (h1 : PairsAt w v1 l) (hlen : l.length ≤ 900000) (hbd : PBd l) : Calls Try.prog 24 #[v1] w (PlantPost w l) := by
  by_cases h : l.length ≤ 4
  · exact rofS_any l v1 w h1 h hbd
  · exact rofB_any l v1 w h1 (by omega) hlen hbd
end Go.Proofs.Ytpcmihgfcaelfaa
