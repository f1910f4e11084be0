/- The walk of the model's Do where there is no error (printed by tools/gen_modk.py). -/
import Derived.Test.YtgabifkechofnaaDoorModK
import Derived.RegionTactic
namespace Go.Proofs.YtgabifkechofnaaDoor
open Go.RowKit


set_option maxRecDepth 100000 in
set_option maxHeartbeats 2000000 in
theorem do_1 (m : List VolD) (vo de bl nn : Int) (tx : ByteArray) (v : Value) (w : World) (hm : ModelAt w v m) (hl : m.length ≤ 1000) (hbl : ∀ d ∈ m, d.blocks.length ≤ 50000) (hmay : mayL m = true) (hf : faultL m ⟨1, vo, de, bl, nn, tx⟩ = 0) (hp : Pow10 w) :
    Calls Tryd.prog 10 #[v, .agg #[.int .i64 1, .int .i64 vo, .int .i64 de, .int .i64 bl, .int .i64 nn, .string tx]] w (DoEnd m ⟨1, vo, de, bl, nn, tx⟩ w) := by
  have hdo : doL m ⟨1, vo, de, bl, nn, tx⟩ = (dropL m vo, .zero) := by unfold doL; rw [if_neg (by rw [hmay]; simp), if_neg (by rw [hf]; simp)]; rfl
  have HB0 := Lib.hid (dbox_below w ⟨1, vo, de, bl, nn, tx⟩); have HM := Lib.hid (hm.stays (dbox_below w ⟨1, vo, de, bl, nn, tx⟩)); have HDO := Lib.hid hdo; have HMAY := Lib.hid hmay; have HSZ := Lib.hid (may_sizes hmay); have HL := Lib.hid hl; have HBL := Lib.hid hbl; have HP := Lib.hid hp
  have HF := Lib.hid hf
  obtain ⟨p, c, rfl, _, _, _⟩ := hm
  clear hdo hmay hf hl hbl hp
  go_enter Tryd.func10, Tryd.ntmps10
  go_wp2_with fail
  refine (may_any m _ _ HM.out).mono ?_
  rintro e w1 ⟨rfl, hb⟩
  rw [HMAY.out]
  have k0 : w1.cell? ⟨w.heap.size, 0, none⟩ = some (.int .i64 1) := cell_stays hb (by simp)
  have k1 : w1.cell? ⟨w.heap.size, 1, none⟩ = some (.int .i64 vo) := cell_stays hb (by simp)
  have k2 : w1.cell? ⟨w.heap.size, 2, none⟩ = some (.int .i64 de) := cell_stays hb (by simp)
  have k3 : w1.cell? ⟨w.heap.size, 3, none⟩ = some (.int .i64 bl) := cell_stays hb (by simp)
  have k4 : w1.cell? ⟨w.heap.size, 4, none⟩ = some (.int .i64 nn) := cell_stays hb (by simp)
  have k5 : w1.cell? ⟨w.heap.size, 5, none⟩ = some (.string tx) := cell_stays hb (by simp)
  have HX := Lib.hid hb
  have HB1 := Lib.hid (btrans HB0.out hb); have HM1 := Lib.hid (HM.out.stays hb); clear hb
  go_wp2_with fail
  refine (fault_any m ⟨1, vo, de, bl, nn, tx⟩ _ _ HM1.out (fun d hd => (HSZ.out d hd).2)).mono ?_
  rintro e w2 ⟨rfl, hb⟩
  rw [HF.out]
  have HX2 := Lib.hid (btrans HX.out hb)
  have HB2 := Lib.hid (btrans HB1.out hb); have HM2 := Lib.hid (HM1.out.stays hb); clear hb k0 k1 k2 k3 k4 k5
  go_wp2_with fail
  refine (own_any m _ _ HM2.out HL.out (fun d hd => by have := HBL.out d hd; omega)).mono ?_
  rintro e w3 ⟨v', G, rfl, hown, hG, hb⟩
  have hX3 := btrans HX2.out hb
  have k1 : w3.cell? ⟨w.heap.size, 1, none⟩ = some (.int .i64 vo) := cell_stays hX3 (by simp)
  have HX3 := Lib.hid hX3
  have HB3 := Lib.hid (btrans HB2.out hb); have HOWN := Lib.hid hown; have HG := Lib.hid hG; clear hb hown hX3 hG
  go_wp2_with fail
  refine (find_any m vo _ _ HOWN.out.reads).mono ?_
  rintro e w4 ⟨rfl, hb⟩
  have hX4 := btrans HX3.out hb
  have k0 : w4.cell? ⟨w.heap.size, 0, none⟩ = some (.int .i64 1) := cell_stays hX4 (by simp)
  have k1' : w4.cell? ⟨w.heap.size, 1, none⟩ = some (.int .i64 vo) := cell_stays hX4 (by simp)
  have k2 : w4.cell? ⟨w.heap.size, 2, none⟩ = some (.int .i64 de) := cell_stays hX4 (by simp)
  have k3 : w4.cell? ⟨w.heap.size, 3, none⟩ = some (.int .i64 bl) := cell_stays hX4 (by simp)
  have k4 : w4.cell? ⟨w.heap.size, 4, none⟩ = some (.int .i64 nn) := cell_stays hX4 (by simp)
  have k5 : w4.cell? ⟨w.heap.size, 5, none⟩ = some (.string tx) := cell_stays hX4 (by simp)
  have hlt0 : w.heap.size < w4.heap.size := World.block_lt_of_cell? _ _ k0
  obtain ⟨hc0, hc1, hc2, hf0, hf1, hf2, hlt⟩ := keep3 (b := w.heap.size + 1) (by simp) hX4 (x := .int .i64 0) (y := .string ⟨#[]⟩) (z := .int .i64 0) (by simp) (by simp) (by simp) (by simp) (by simp) (by simp)
  have hBB : w.heap.size + 1 < w2.heap.size := by have := HX2.out.size; simp at this; omega
  have HX4 := Lib.hid hX4; have HBB := Lib.hid hBB
  have HB4 := Lib.hid (btrans HB3.out hb)
  have HOWN4 := Lib.hid (MOwn.below HOWN.out hb)
  clear hb hX4 k1 hBB
  obtain ⟨bvs, hok⟩ := HOWN4.out
  have hbx := (Below.refl w4.heap.size w4).alloc (Nat.le_refl _) (.cells #[.int .i64 0, .string ⟨#[]⟩, .int .i64 0] 29)
  have hok5 := hok.below hbx
  obtain ⟨i, d, hfi, hdi, _, _⟩ := found_of (x := ⟨1, vo, de, bl, nn, tx⟩) (show (1 : Int) ≤ 1 ∧ (1 : Int) ≤ 5 by decide) HF.out
  have hfi' : findL m vo = some i := hfi
  have hil : i < m.length := (List.getElem?_eq_some_iff.1 hdi).1
  rw [hfi']
  have hshape : ∃ g cap, v' = .slice (some ⟨g, 0, none⟩) m.length cap := by
    rcases ow_slice hok.row with ⟨_, h2, _⟩ | h
    · omega
    · exact h
  obtain ⟨g, cap, rfl⟩ := hshape
  have HDR := Lib.hid (show dropL m vo = m.take i ++ m.drop (i + 1) by unfold dropL; rw [hfi'])
  have HOK := Lib.hid hok; have HOK5 := Lib.hid hok5; have HBX := Lib.hid hbx; have HIL := Lib.hid hil
  have hi62 : (i : Int) ≤ 1000 := by have := HL.out; omega
  clear hok hok5 hbx hfi hfi' hdi hil
  go_wp2_with fail
  refine (deleteV_any w2.heap.size m.length i g cap (volRows m bvs).flatten _ HOK5.out.row (rows_one HOK.out.len HOK.out.bv) (by have := HL.out; omega) HIL.out).mono ?_
  rintro e w5 ⟨v5, rfl, hrow, hg⟩
  have hg4 := grown_trans (grown_of_below HBX.out (Value.ownBlock (.slice (some ⟨g, 0, none⟩) m.length cap))) hg
  have hbv : some (w.heap.size + 1) ≠ Value.ownBlock (.slice (some ⟨g, 0, none⟩) m.length cap) := fun e => by have h1 := (HOK.out.row.lt _ e.symm).1; have h2 := HBB.out; omega
  have hav : some w4.heap.size ≠ Value.ownBlock (.slice (some ⟨g, 0, none⟩) m.length cap) := fun e => by have h1 := (HOK.out.row.lt _ e.symm).2; omega
  obtain ⟨c0, c1, c2, e0, e1, e2, hlt5⟩ := far3 hg4 hbv hc0 hc1 hc2 hf0 hf1 hf2
  obtain ⟨a0, a1, a2, _, _, _, _⟩ := far3 (b := w4.heap.size) (x := .int .i64 0) (y := .string ⟨#[]⟩) (z := .int .i64 0) hg hav (by simp) (by simp) (by simp) (by simp) (by simp) (by simp)
  have hne : w4.heap.size ≠ w.heap.size + 1 := by omega
  have hne' : w.heap.size + 1 ≠ w4.heap.size := by omega
  have HMOD := Lib.hid (drop_fin HOK.out HG.out hg4 HIL.out hrow (b := w.heap.size + 1) HBB.out (.int .i64 0) (.string ⟨#[]⟩) (.int .i64 0))
  have HBL2 := Lib.hid (HB4.out.grown hg4 HB4.out.size (fun k e => by have h1 := (HOK.out.row.lt _ e).1; have h2 := HBB.out; omega))
  clear hc0 hc1 hc2 hf0 hf1 hf2 hrow hg hg4 hbv hav k0 k1' k2 k3 k4 k5 hlt
  go_wp2_with fail
  go_region
  go_wp2_with fail
  refine bodyPost_ret (v := .tuple #[v5, .agg #[.int .i64 0, .string ⟨#[]⟩, .int .i64 0]]) (by simp [results, Tryd.results10, go_sem, c0, c1, c2]) rfl ⟨_, by rw [HDO.out]; rfl, ?_, ?_⟩
  · rw [HDO.out]; show MFin _ _ _ _ _ (dropL m vo); rw [HDR.out]; exact (HMOD.out.below (Below.refl _ _).drew).mono HB2.out.size
  · exact (((HBL2.out.setCell (Nat.le_succ _) _).setCell (Nat.le_succ _) _).setCell (Nat.le_succ _) _).drew
end Go.Proofs.YtgabifkechofnaaDoor
