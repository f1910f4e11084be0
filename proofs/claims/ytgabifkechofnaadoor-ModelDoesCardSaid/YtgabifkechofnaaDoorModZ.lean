/- The walk of the model's Do where there is no error (printed by tools/gen_modk.py). -/
import Derived.Test.YtgabifkechofnaaDoorModK
import Derived.Test.YtgabifkechofnaaDoorModT
import Derived.Deep.RegionWith
import Derived.RegionTactic
namespace Go.Proofs.YtgabifkechofnaaDoor
open Go.RowKit


set_option maxRecDepth 100000 in
set_option maxHeartbeats 20000000 in
theorem do_2 (m : List VolD) (vo de bl nn : Int) (tx : ByteArray) (v : Value) (w : World) (hm : ModelAt w v m) (hl : m.length ≤ 1000) (hbl : ∀ d ∈ m, d.blocks.length ≤ 50000) (hmay : mayL m = true) (hf : faultL m ⟨2, vo, de, bl, nn, tx⟩ = 0) (hp : Pow10 w) :
    Calls Tryd.prog 10 #[v, .agg #[.int .i64 2, .int .i64 vo, .int .i64 de, .int .i64 bl, .int .i64 nn, .string tx]] w (DoEnd m ⟨2, vo, de, bl, nn, tx⟩ w) := by
  have hdo : doL m ⟨2, vo, de, bl, nn, tx⟩ = (onL m vo fun d => ⟨d.id, nn, if nn < d.size then cutL d.blocks nn d.size else d.blocks⟩, .zero) := by unfold doL; rw [if_neg (by rw [hmay]; simp), if_neg (by rw [hf]; simp)]; rfl
  have HB0 := Lib.hid (dbox_below w ⟨2, vo, de, bl, nn, tx⟩); have HM := Lib.hid (hm.stays (dbox_below w ⟨2, vo, de, bl, nn, tx⟩)); have HDO := Lib.hid hdo; have HMAY := Lib.hid hmay; have HSZ := Lib.hid (may_sizes hmay); have HL := Lib.hid hl; have HBL := Lib.hid hbl; have HP := Lib.hid hp
  have HF := Lib.hid hf
  obtain ⟨p, c, rfl, _, _, _⟩ := hm
  clear hdo hmay hf hl hbl hp
  go_enter Tryd.func10, Tryd.ntmps10
  go_wp2_with fail
  refine (may_any m _ _ HM.out).mono ?_
  rintro e w1 ⟨rfl, hb⟩
  rw [HMAY.out]
  have k0 : w1.cell? ⟨w.heap.size, 0, none⟩ = some (.int .i64 2) := cell_stays hb (by simp)
  have k1 : w1.cell? ⟨w.heap.size, 1, none⟩ = some (.int .i64 vo) := cell_stays hb (by simp)
  have k2 : w1.cell? ⟨w.heap.size, 2, none⟩ = some (.int .i64 de) := cell_stays hb (by simp)
  have k3 : w1.cell? ⟨w.heap.size, 3, none⟩ = some (.int .i64 bl) := cell_stays hb (by simp)
  have k4 : w1.cell? ⟨w.heap.size, 4, none⟩ = some (.int .i64 nn) := cell_stays hb (by simp)
  have k5 : w1.cell? ⟨w.heap.size, 5, none⟩ = some (.string tx) := cell_stays hb (by simp)
  have HX := Lib.hid hb
  have HB1 := Lib.hid (btrans HB0.out hb); have HM1 := Lib.hid (HM.out.stays hb); clear hb
  go_wp2_with fail
  refine (fault_any m ⟨2, vo, de, bl, nn, tx⟩ _ _ HM1.out (fun d hd => (HSZ.out d hd).2)).mono ?_
  rintro e w2 ⟨rfl, hb⟩
  rw [HF.out]
  have HX2 := Lib.hid (btrans HX.out hb)
  have HB2 := Lib.hid (btrans HB1.out hb); have HM2 := Lib.hid (HM1.out.stays hb); clear hb k0 k1 k2 k3 k4 k5
  go_wp2_with fail
  refine (own_any m _ _ HM2.out HL.out (fun d hd => by have := HBL.out d hd; omega)).mono ?_
  rintro e w3 ⟨v', G, rfl, hown, hG, hb⟩
  have hX3 := btrans HX2.out hb
  have k1 : w3.cell? ⟨w.heap.size, 1, none⟩ = some (.int .i64 vo) := cell_stays hX3 (by simp)
  have HX3 := Lib.hid hX3
  have HB3 := Lib.hid (btrans HB2.out hb); have HOWN := Lib.hid hown; have HG := Lib.hid hG; clear hb hown hX3 hG
  go_wp2_with fail
  refine (find_any m vo _ _ HOWN.out.reads).mono ?_
  rintro e w4 ⟨rfl, hb⟩
  have hX4 := btrans HX3.out hb
  have k0 : w4.cell? ⟨w.heap.size, 0, none⟩ = some (.int .i64 2) := cell_stays hX4 (by simp)
  have k1' : w4.cell? ⟨w.heap.size, 1, none⟩ = some (.int .i64 vo) := cell_stays hX4 (by simp)
  have k2 : w4.cell? ⟨w.heap.size, 2, none⟩ = some (.int .i64 de) := cell_stays hX4 (by simp)
  have k3 : w4.cell? ⟨w.heap.size, 3, none⟩ = some (.int .i64 bl) := cell_stays hX4 (by simp)
  have k4 : w4.cell? ⟨w.heap.size, 4, none⟩ = some (.int .i64 nn) := cell_stays hX4 (by simp)
  have k5 : w4.cell? ⟨w.heap.size, 5, none⟩ = some (.string tx) := cell_stays hX4 (by simp)
  have hlt0 : w.heap.size < w4.heap.size := World.block_lt_of_cell? _ _ k0
  obtain ⟨hc0, hc1, hc2, hf0, hf1, hf2, hlt⟩ := keep3 (b := w.heap.size + 1) (by simp) hX4 (x := .int .i64 0) (y := .string ⟨#[]⟩) (z := .int .i64 0) (by simp) (by simp) (by simp) (by simp) (by simp) (by simp)
  have hBB : w.heap.size + 1 < w2.heap.size := by have := HX2.out.size; simp at this; omega
  have HX4 := Lib.hid hX4; have HBB := Lib.hid hBB
  have HB4 := Lib.hid (btrans HB3.out hb)
  have HOWN4 := Lib.hid (MOwn.below HOWN.out hb)
  clear hb hX4 k1 hBB
  obtain ⟨bvs, hok⟩ := HOWN4.out
  obtain ⟨i, d, hfi, hdi, _, _⟩ := found_of (x := ⟨2, vo, de, bl, nn, tx⟩) (show (1 : Int) ≤ 2 ∧ (2 : Int) ≤ 5 by decide) HF.out
  have hfi' : findL m vo = some i := hfi
  have hil : i < m.length := (List.getElem?_eq_some_iff.1 hdi).1
  rw [hfi']
  have hshape : ∃ g cap, v' = .slice (some ⟨g, 0, none⟩) m.length cap := by
    rcases ow_slice hok.row with ⟨_, h2, _⟩ | h
    · omega
    · exact h
  obtain ⟨g, cap, rfl⟩ := hshape
  have HON := Lib.hid (show onL m vo (fun d => ⟨d.id, nn, if nn < d.size then cutL d.blocks nn d.size else d.blocks⟩) = m.set i ⟨d.id, nn, if nn < d.size then cutL d.blocks nn d.size else d.blocks⟩ by unfold onL; rw [hfi']; simp only [hdi])
  obtain ⟨bv, hbv⟩ : ∃ b, bvs[i]? = some b := ⟨_, List.getElem?_eq_getElem (by rw [hok.len]; exact hil)⟩
  obtain ⟨bp, bc, e, _, _, hbin⟩ := hok.bv i d bv hdi hbv
  subst e
  have hbd := HBL.out d (List.mem_of_getElem? hdi)
  have hbx := (Below.refl w4.heap.size w4).alloc (Nat.le_refl _) (.cells #[.int .i64 0, .string ⟨#[]⟩, .int .i64 0] 29)
  have q2 : w4.cell? ⟨g, i * 3 + 2, none⟩ = some (.slice bp d.blocks.length bc) := by
    have hj : i * 3 + 2 < (volRows m bvs).flatten.length := by rw [flat_length (volRows_all _ _), volRows_len hok.len]; omega
    have h := ow_cell hok.row (i * 3 + 2) hj
    have h2 : (volRows m bvs).flatten[i * 3 + 2]? = some (.slice bp d.blocks.length bc) := by rw [flat_get (volRows_all _ _) (volRows_at hdi hbv) (by decide)]; rfl
    rw [List.getElem?_eq_getElem hj] at h2
    rw [Option.some.inj h2] at h
    exact h
  have q1 : w4.cell? ⟨g, i * 3 + 1, none⟩ = some (.int .i64 d.size) := by
    have hj : i * 3 + 1 < (volRows m bvs).flatten.length := by rw [flat_length (volRows_all _ _), volRows_len hok.len]; omega
    have h := ow_cell hok.row (i * 3 + 1) hj
    have h2 : (volRows m bvs).flatten[i * 3 + 1]? = some (.int .i64 d.size) := by rw [flat_get (volRows_all _ _) (volRows_at hdi hbv) (by decide)]; rfl
    rw [List.getElem?_eq_getElem hj] at h2
    rw [Option.some.inj h2] at h
    exact h
  have y1 := cell_stays hbx q1
  have y2 := cell_stays hbx q2
  have y4 := cell_stays hbx k4
  have hgB : w2.heap.size ≤ g ∧ g < w4.heap.size := hok.row.lt g rfl
  have hgG : g < G := hok.lo g rfl
  have hbk := hok.blk i d _ hil hdi hbv
  have hgne : some g ≠ Value.ownBlock (.slice bp d.blocks.length bc) := fun e => by have := (hbk.lt g e.symm).1; omega
  have hwne : some w.heap.size ≠ Value.ownBlock (.slice bp d.blocks.length bc) := fun e => by have := (hbk.lt _ e.symm).1; have := HG.out; have := HBB.out; omega
  have hwl : w.heap.size ≠ w4.heap.size := by omega
  have hgl : g ≠ w4.heap.size := by omega
  have hwg : g ≠ w.heap.size := by have := HBB.out; omega
  have HOK := Lib.hid hok; have HBX := Lib.hid hbx; have HBK := Lib.hid hbk; have HBD := Lib.hid hbd; have HDI := Lib.hid hdi; have HBV := Lib.hid hbv; have HIL := Lib.hid hil
  have HGNE := Lib.hid hgne; have HWNE := Lib.hid hwne; have HGB := Lib.hid hgB; have HGG := Lib.hid hgG
  have hiI : (i : Int) < (m.length : Int) := by omega
  have hi62 : (i : Int) ≤ 1000 := by have := HL.out; omega
  clear hok hbx hbk hbd hfi hfi' hdi hbv hil hbin q1 q2 k1' k2 k3 k4 k5 hgB hgG hgne hwne
  by_cases hc : nn < d.size
  · go_wp2_with fail
    go_quiet (fail)
    go_wp2_with fail
    go_region_with (first | (go_at_call 24; refine (without_any G d.blocks (.slice bp d.blocks.length bc) nn d.size _ (HBK.out.kept (row := none) (grown_of_below ((below_drewN' HBX.out _).trans (Below.refl _ _).drew) _) (Classical.or_iff_not_imp_left.2 fun h => h)) (by have := HBD.out; omega)).mono ?_; rintro e w5 ⟨nb, rfl, hnb, hg5⟩; obtain ⟨np, nc, rfl, hn1, hn2, hnin⟩ := blks_of_own hnb; have z2 : w5.cell? ⟨g, i * 3 + 2, none⟩ = some (.slice bp d.blocks.length bc) := hg5.cell (by simpa using y2) HGNE.out; have z1 : w5.cell? ⟨g, i * 3 + 1, none⟩ = some (.int .i64 d.size) := hg5.cell (by simpa using y1) HGNE.out; have zf1 : w5.frozen? ⟨g, i * 3 + 1, none⟩ = false := ow_free (HOK.out.row.kept (row := Value.ownBlock (.slice bp d.blocks.length bc)) (grown_trans (grown_of_below ((below_drewN' HBX.out _).trans (Below.refl _ _).drew) _) hg5) (.inr HGNE.out)) (i * 3 + 1); have zf : w5.frozen? ⟨g, i * 3 + 2, none⟩ = false := ow_free (HOK.out.row.kept (row := Value.ownBlock (.slice bp d.blocks.length bc)) (grown_trans (grown_of_below ((below_drewN' HBX.out _).trans (Below.refl _ _).drew) _) hg5) (.inr HGNE.out)) (i * 3 + 2)))
    all_goals
      have hg4 := grown_trans (grown_of_below ((below_drewN' HBX.out _).trans (Below.refl _ _).drew) (Value.ownBlock (.slice bp d.blocks.length bc))) hg5
      have HR := Lib.hid (OwnK.turn HOK.out HG.out HDI.out HBV.out hg4 hnb)
      have hbv1 : some (w.heap.size + 1) ≠ Value.ownBlock (.slice bp d.blocks.length bc) := fun e => by have h1 := (HBK.out.lt _ e.symm).1; have h2 := HBB.out; have h3 := HG.out; omega
      have hav : some w4.heap.size ≠ Value.ownBlock (.slice bp d.blocks.length bc) := fun e => by have h1 := (HBK.out.lt _ e.symm).2; omega
      obtain ⟨c0, c1, c2, e0, e1, e2, hlt5⟩ := far3 hg4 hbv1 hc0 hc1 hc2 hf0 hf1 hf2
      obtain ⟨a0, a1, a2, _, _, _, _⟩ := far3 (b := w4.heap.size) (x := .int .i64 0) (y := .string ⟨#[]⟩) (z := .int .i64 0) hg5 hav (by simp) (by simp) (by simp) (by simp) (by simp) (by simp)
      have hne : w4.heap.size ≠ w.heap.size + 1 := by omega
      have hne' : w.heap.size + 1 ≠ w4.heap.size := by omega
      have hgr : g ≠ w.heap.size + 1 := by have h1 := HGB.out; have h2 := HBB.out; omega
      have hgr' : w.heap.size + 1 ≠ g := fun e => hgr e.symm
      have hgl' : w4.heap.size ≠ g := fun e => hgl e.symm
      have HBL2 := Lib.hid (HB4.out.grown hg4 HB4.out.size (fun k e => by have h1 := (HBK.out.lt _ e).1; have h2 := HBB.out; have h3 := HG.out; omega))
      have HGW := Lib.hid (show w.heap.size ≤ g by have h1 := HGB.out; have h2 := HBB.out; omega)
      clear hc0 hc1 hc2 hf0 hf1 hf2 hg4 hbv1 hav hlt z2 zf hnb hnin hn1 hn2
      have x4 : w5.cell? ⟨w.heap.size, 4, none⟩ = some (.int .i64 nn) := hg5.cell (by simpa using y4) HWNE.out
      have hgw : g ≠ w.heap.size := hwg
      clear hg5 y1 y2 y4
      go_wp2_with fail
      go_region
      go_wp2_with fail
      refine bodyPost_ret (v := .tuple #[.slice (some ⟨g, 0, none⟩) m.length cap, .agg #[.int .i64 0, .string ⟨#[]⟩, .int .i64 0]]) (by simp [results, Tryd.results10, go_sem, c0, c1, c2]) rfl ⟨_, by rw [HDO.out]; rfl, ?_, ?_⟩
      · rw [HDO.out, HON.out]
        have hR := ROk.size HR.out (i := i) (d := ⟨d.id, d.size, cutL d.blocks nn d.size⟩) (List.getElem?_set_self HIL.out) nn
        rw [List.set_set] at hR
        simp only [if_pos hc]
        exact MFin.mono HB2.out.size (ROk.finN ((((hR.setBelow HBB.out _).setBelow HBB.out _).setBelow HBB.out _).drew) (List.length_set ..))
      · exact (((((HBL2.out.setCell HGW.out _).setCell HGW.out _).setCell (Nat.le_succ _) _).setCell (Nat.le_succ _) _).setCell (Nat.le_succ _) _).drew
  · have zf1 : (w4.alloc (.cells #[.int .i64 0, .string ⟨#[]⟩, .int .i64 0] 29)).frozen? ⟨g, i * 3 + 1, none⟩ = false := ow_free ((HOK.out.below HBX.out).row) (i * 3 + 1)
    have hgr : g ≠ w.heap.size + 1 := by have h1 := HGB.out; have h2 := HBB.out; omega
    have hgr' : w.heap.size + 1 ≠ g := fun e => hgr e.symm
    have hgl' : w4.heap.size ≠ g := fun e => hgl e.symm
    have hne : w4.heap.size ≠ w.heap.size + 1 := by omega
    have hne' : w.heap.size + 1 ≠ w4.heap.size := by omega
    have HGW := Lib.hid (show w.heap.size ≤ g by have h1 := HGB.out; have h2 := HBB.out; omega)
    go_wp2_with fail
    go_quiet (fail)
    go_wp2_with fail
    go_region
    go_wp2_with fail
    refine bodyPost_ret (v := .tuple #[.slice (some ⟨g, 0, none⟩) m.length cap, .agg #[.int .i64 0, .string ⟨#[]⟩, .int .i64 0]]) (by simp [results, Tryd.results10, go_sem, hc0, hc1, hc2, hlt]) rfl ⟨_, by rw [HDO.out]; rfl, ?_, ?_⟩
    · rw [HDO.out, HON.out]
      simp only [if_neg (show ¬ nn < d.size by omega)]
      refine MFin.mono HB2.out.size (ROk.finN (B := w2.heap.size) (G := G) (tv := 41) (tb := 56) (bvs := bvs) ?_ (List.length_set ..))
      repeat (first | refine ROk.drew ?_ | refine ROk.setBelow ?_ HBB.out _ | exact ROk.size ((HOK.out.rok HG.out).below (below_drewN' HBX.out _)) HDI.out nn)
    · repeat (first | exact HB4.out | refine Below.drew ?_ | refine Below.setCell ?_ (Nat.le_succ _) _ | refine Below.setCell ?_ HGW.out _ | refine below_drewN' ?_ _ | refine Below.alloc ?_ HB4.out.size _)
end Go.Proofs.YtgabifkechofnaaDoor
