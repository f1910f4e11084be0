/- The walk of the model's Do where there is no error (printed by tools/gen_modk.py). -/
import Derived.Test.YtgabifkechofnaaDoorModK
import Derived.Test.YtgabifkechofnaaDoorModT
import Derived.RegionTactic
namespace Go.Proofs.YtgabifkechofnaaDoor
open Go.RowKit

theorem found6 {m : List VolD} {vo de bl nn : Int} {tx : ByteArray} (hf : faultL m ⟨6, vo, de, bl, nn, tx⟩ = 0) : ∃ i d, findL m vo = some i ∧ m[i]? = some d := by
  rw [faultL_6] at hf
  have hs : ¬ sizeL m vo < 0 := by
    intro h
    split at hf
    · cases hf
    · rw [if_pos (.inl h)] at hf; cases hf
  cases h : findL m vo with
  | none => rw [sizeL_none h] at hs; omega
  | some i => obtain ⟨d, hd, _⟩ := findL_lt h; exact ⟨i, d, rfl, hd⟩

set_option maxRecDepth 100000 in
set_option maxHeartbeats 2000000 in
theorem do_6 (m : List VolD) (vo de bl nn : Int) (tx : ByteArray) (v : Value) (w : World) (hm : ModelAt w v m) (hl : m.length ≤ 1000) (hbl : ∀ d ∈ m, d.blocks.length ≤ 50000) (hmay : mayL m = true) (hf : faultL m ⟨6, vo, de, bl, nn, tx⟩ = 0) (hp : Pow10 w) :
    Calls Tryd.prog 10 #[v, .agg #[.int .i64 6, .int .i64 vo, .int .i64 de, .int .i64 bl, .int .i64 nn, .string tx]] w (DoEnd m ⟨6, vo, de, bl, nn, tx⟩ w) := by
  have hdo : doL m ⟨6, vo, de, bl, nn, tx⟩ = (withL m ⟨de, (volL m vo).size, (volL m vo).blocks⟩, .zero) := by unfold doL; rw [if_neg (by rw [hmay]; simp), if_neg (by rw [hf]; simp)]; rfl
  have HB0 := Lib.hid (dbox_below w ⟨6, vo, de, bl, nn, tx⟩); have HM := Lib.hid (hm.stays (dbox_below w ⟨6, vo, de, bl, nn, tx⟩)); have HDO := Lib.hid hdo; have HMAY := Lib.hid hmay; have HSZ := Lib.hid (may_sizes hmay); have HL := Lib.hid hl; have HBL := Lib.hid hbl; have HP := Lib.hid hp
  have HF := Lib.hid hf
  obtain ⟨p, c, rfl, _, _, _⟩ := hm
  clear hdo hmay hf hl hbl hp
  go_enter Tryd.func10, Tryd.ntmps10
  go_wp2_with fail
  refine (may_any m _ _ HM.out).mono ?_
  rintro e w1 ⟨rfl, hb⟩
  rw [HMAY.out]
  have k0 : w1.cell? ⟨w.heap.size, 0, none⟩ = some (.int .i64 6) := cell_stays hb (by simp)
  have k1 : w1.cell? ⟨w.heap.size, 1, none⟩ = some (.int .i64 vo) := cell_stays hb (by simp)
  have k2 : w1.cell? ⟨w.heap.size, 2, none⟩ = some (.int .i64 de) := cell_stays hb (by simp)
  have k3 : w1.cell? ⟨w.heap.size, 3, none⟩ = some (.int .i64 bl) := cell_stays hb (by simp)
  have k4 : w1.cell? ⟨w.heap.size, 4, none⟩ = some (.int .i64 nn) := cell_stays hb (by simp)
  have k5 : w1.cell? ⟨w.heap.size, 5, none⟩ = some (.string tx) := cell_stays hb (by simp)
  have HX := Lib.hid hb
  have HB1 := Lib.hid (btrans HB0.out hb); have HM1 := Lib.hid (HM.out.stays hb); clear hb
  go_wp2_with fail
  refine (fault_any m ⟨6, vo, de, bl, nn, tx⟩ _ _ HM1.out (fun d hd => (HSZ.out d hd).2)).mono ?_
  rintro e w2 ⟨rfl, hb⟩
  rw [HF.out]
  have HX2 := Lib.hid (btrans HX.out hb)
  have HB2 := Lib.hid (btrans HB1.out hb); have HM2 := Lib.hid (HM1.out.stays hb); clear hb k0 k1 k2 k3 k4 k5
  go_wp2_with fail
  refine (own_any m _ _ HM2.out HL.out (fun d hd => by have := HBL.out d hd; omega)).mono ?_
  rintro e w3 ⟨v', G, rfl, hown, hG, hb⟩
  have hX3 := btrans HX2.out hb
  have k1 : w3.cell? ⟨w.heap.size, 1, none⟩ = some (.int .i64 vo) := cell_stays hX3 (by simp)
  have HX3 := Lib.hid hX3
  have HB3 := Lib.hid (btrans HB2.out hb); have HOWN := Lib.hid hown; have HG := Lib.hid hG; clear hb hown hX3 hG
  go_wp2_with fail
  refine (find_any m vo _ _ HOWN.out.reads).mono ?_
  rintro e w4 ⟨rfl, hb⟩
  have hX4 := btrans HX3.out hb
  have k0 : w4.cell? ⟨w.heap.size, 0, none⟩ = some (.int .i64 6) := cell_stays hX4 (by simp)
  have k1' : w4.cell? ⟨w.heap.size, 1, none⟩ = some (.int .i64 vo) := cell_stays hX4 (by simp)
  have k2 : w4.cell? ⟨w.heap.size, 2, none⟩ = some (.int .i64 de) := cell_stays hX4 (by simp)
  have k3 : w4.cell? ⟨w.heap.size, 3, none⟩ = some (.int .i64 bl) := cell_stays hX4 (by simp)
  have k4 : w4.cell? ⟨w.heap.size, 4, none⟩ = some (.int .i64 nn) := cell_stays hX4 (by simp)
  have k5 : w4.cell? ⟨w.heap.size, 5, none⟩ = some (.string tx) := cell_stays hX4 (by simp)
  have hlt0 : w.heap.size < w4.heap.size := World.block_lt_of_cell? _ _ k0
  obtain ⟨hc0, hc1, hc2, hf0, hf1, hf2, hlt⟩ := keep3 (b := w.heap.size + 1) (by simp) hX4 (x := .int .i64 0) (y := .string ⟨#[]⟩) (z := .int .i64 0) (by simp) (by simp) (by simp) (by simp) (by simp) (by simp)
  have hBB : w.heap.size + 1 < w2.heap.size := by have := HX2.out.size; simp at this; omega
  have HX4 := Lib.hid hX4; have HBB := Lib.hid hBB
  have HB4 := Lib.hid (btrans HB3.out hb)
  have HOWN4 := Lib.hid (MOwn.below HOWN.out hb)
  clear hb hX4 k1 hBB
  obtain ⟨bvs, hok⟩ := HOWN4.out
  obtain ⟨i, d, hfi, hdi⟩ := found6 HF.out
  have hil : i < m.length := (List.getElem?_eq_some_iff.1 hdi).1
  rw [hfi]
  have hshape : ∃ g cap, v' = .slice (some ⟨g, 0, none⟩) m.length cap := by
    rcases ow_slice hok.row with ⟨_, h2, _⟩ | h
    · omega
    · exact h
  obtain ⟨g, cap, rfl⟩ := hshape
  have HVL := Lib.hid (show (volL m vo).blocks = d.blocks ∧ (volL m vo).size = d.size by unfold volL; rw [hfi]; simp only [hdi]; exact ⟨rfl, rfl⟩)
  obtain ⟨bv, hbv⟩ : ∃ b, bvs[i]? = some b := ⟨_, List.getElem?_eq_getElem (by rw [hok.len]; exact hil)⟩
  obtain ⟨bp, bc, e, _, _, hbin⟩ := hok.bv i d bv hdi hbv
  subst e
  have hbd := HBL.out d (List.mem_of_getElem? hdi)
  have qq : ∀ r u, r < 3 → (volCs d (.slice bp d.blocks.length bc))[r]? = some u → w4.cell? ⟨g, i * 3 + r, none⟩ = some u := by
    intro r u hr hu
    have hj : i * 3 + r < (volRows m bvs).flatten.length := by rw [flat_length (volRows_all _ _), volRows_len hok.len]; omega
    have h := ow_cell hok.row (i * 3 + r) hj
    have h2 : (volRows m bvs).flatten[i * 3 + r]? = some u := by rw [flat_get (volRows_all _ _) (volRows_at hdi hbv) hr]; exact hu
    rw [List.getElem?_eq_getElem hj] at h2
    rw [Option.some.inj h2] at h
    exact h
  have hbx := (Below.refl w4.heap.size w4).alloc (Nat.le_refl _) (.cells #[.int .i64 0, .string ⟨#[]⟩, .int .i64 0] 29)
  have y0 : (w4.alloc (.cells #[.int .i64 0, .string ⟨#[]⟩, .int .i64 0] 29)).cell? ⟨g, i * 3, none⟩ = some (.int .i64 d.id) := cell_stays hbx (qq 0 _ (by decide) rfl)
  have y1 := cell_stays hbx (qq 1 _ (by decide) rfl)
  have y2 := cell_stays hbx (qq 2 _ (by decide) rfl)
  have z2 := cell_stays hbx k2
  have hgB : w2.heap.size ≤ g ∧ g < w4.heap.size := hok.row.lt g rfl
  have HOK := Lib.hid hok; have HBX := Lib.hid hbx; have HBIN := Lib.hid hbin; have HBD := Lib.hid hbd; have HGB := Lib.hid hgB
  have hiI : (i : Int) < (m.length : Int) := by omega
  have hi62 : (i : Int) ≤ 1000 := by have := HL.out; omega
  have hw1 : w.heap.size ≠ w4.heap.size + 1 := by omega
  have hw0 : w.heap.size ≠ w4.heap.size := by omega
  clear hok hbx hfi hdi hbv hil hbin qq k1' k2 k3 k4 k5 hgB
  go_wp2_with fail
  have hbw : Below w4.heap.size w4 ((w4.alloc (.cells #[.int .i64 0, .string ⟨#[]⟩, .int .i64 0] 29)).alloc (.cells #[.int .i64 de, .int .i64 d.size, .slice bp d.blocks.length bc] 41)) := HBX.out.alloc (by simp) _
  have HBW := Lib.hid hbw; clear hbw
  refine (cloneB_any bp d.blocks.length bc (blkRows d.blocks).flatten _ (HBIN.out.stays HBW.out).src (by have := HBD.out; omega)).mono ?_
  rintro e w5 ⟨u, rfl, hu, hb⟩
  obtain ⟨up, uc, hue, _⟩ := blks_of_own hu
  subst hue
  have hx0 : w5.cell? ⟨w4.heap.size + 1, 0, none⟩ = some (.int .i64 de) := cell_stays hb (by simp)
  have hx1 : w5.cell? ⟨w4.heap.size + 1, 1, none⟩ = some (.int .i64 d.size) := cell_stays hb (by simp)
  have hx2 : w5.cell? ⟨w4.heap.size + 1, 2, none⟩ = some (.slice bp d.blocks.length bc) := cell_stays hb (by simp)
  have hxf : w5.frozen? ⟨w4.heap.size + 1, 2, none⟩ = false := (hb.frozen (by simp)).trans (by simp)
  have hb4 : Below w4.heap.size w4 w5 := btrans HBW.out hb
  have hws : ((w4.alloc (.cells #[.int .i64 0, .string ⟨#[]⟩, .int .i64 0] 29)).alloc (.cells #[.int .i64 de, .int .i64 d.size, .slice bp d.blocks.length bc] 41)).heap.size = w4.heap.size + 2 := by simp
  rw [hws] at hu
  have HBS := Lib.hid (hb4.setCell (p := ⟨w4.heap.size + 1, 2, none⟩) (show w4.heap.size ≤ w4.heap.size + 1 by omega) (.slice up d.blocks.length uc))
  have HROW := Lib.hid ((HOK.out.below hb4).row.kept (grown_setCell w5 (w4.heap.size + 1) 2 (.slice up d.blocks.length uc)) (.inr fun e => by have h1 := HGB.out; have e' := Option.some.inj (show some g = some (w4.heap.size + 1) from e); omega))
  have HU := Lib.hid (ownsRow_setCell_below hu (a := ⟨w4.heap.size + 1, 2, none⟩) (show w4.heap.size + 1 < w4.heap.size + 2 by omega) (.slice up d.blocks.length uc))
  have a0 : w5.cell? ⟨w4.heap.size, 0, none⟩ = some (.int .i64 0) := cell_stays hb (by simp)
  have a1 : w5.cell? ⟨w4.heap.size, 1, none⟩ = some (.string ⟨#[]⟩) := cell_stays hb (by simp)
  have a2 : w5.cell? ⟨w4.heap.size, 2, none⟩ = some (.int .i64 0) := cell_stays hb (by simp)
  have f0 : w5.frozen? ⟨w4.heap.size, 0, none⟩ = false := (hb.frozen (by simp; omega)).trans (by simp)
  have f1 : w5.frozen? ⟨w4.heap.size, 1, none⟩ = false := (hb.frozen (by simp; omega)).trans (by simp)
  have f2 : w5.frozen? ⟨w4.heap.size, 2, none⟩ = false := (hb.frozen (by simp; omega)).trans (by simp)
  clear hu hb hb4 hws k0 y0 y1 y2 z2
  go_wp2_with fail
  refine (with_any w2.heap.size m bvs _ de d.size up d.blocks.length uc _ HOK.out.len HROW.out (rows_one HOK.out.len HOK.out.bv) HL.out (by have h1 := HBS.out.size; have h2 := HGB.out; omega)).mono ?_
  rintro e w6 ⟨v6, rfl, hrow, hg⟩
  have hg4 := grown_trans (grown_of_below HBS.out (some g)) hg
  have hbv1 : some (w.heap.size + 1) ≠ some g := fun e => by have h1 := HGB.out; have h2 := HBB.out; injection e with e; omega
  have hav : some w4.heap.size ≠ some g := fun e => by have h1 := HGB.out; injection e with e; omega
  obtain ⟨c0, c1, c2, e0, e1, e2, hlt5⟩ := far3 hg4 hbv1 hc0 hc1 hc2 hf0 hf1 hf2
  obtain ⟨b0, b1, b2, _, _, _, _⟩ := far3 (b := w4.heap.size) (x := .int .i64 0) (y := .string ⟨#[]⟩) (z := .int .i64 0) hg hav ((World.cell?_setCell_other _ _ _ _ (by simp)).trans a0) ((World.cell?_setCell_other _ _ _ _ (by simp)).trans a1) ((World.cell?_setCell_other _ _ _ _ (by simp)).trans a2) ((World.frozen?_setCell _ _ _ _).trans f0) ((World.frozen?_setCell _ _ _ _).trans f1) ((World.frozen?_setCell _ _ _ _).trans f2)
  have hne : w4.heap.size ≠ w.heap.size + 1 := by omega
  have hne' : w.heap.size + 1 ≠ w4.heap.size := by omega
  have HU6 := HU.out.kept hg (.inr fun e => by have h1 := HGB.out; have h2 := (HU.out.lt g e).1; omega)
  have HMOD := Lib.hid (with_fin HOK.out HG.out hg4 hrow (b := w.heap.size + 1) HBB.out (.int .i64 0) (.string ⟨#[]⟩) (.int .i64 0) (d := ⟨de, d.size, d.blocks⟩) (bv := .slice up d.blocks.length uc) (ow_mono (by have h1 := HGB.out; omega) (ownsRow_setCell_below (ownsRow_setCell_below (ownsRow_setCell_below HU6 (by show w.heap.size + 1 < _; omega) _) (by show w.heap.size + 1 < _; omega) _) (by show w.heap.size + 1 < _; omega) _)))
  have HBL2 := Lib.hid (HB4.out.grown hg4 HB4.out.size (fun k e => by have h1 := HGB.out; have h2 := HBB.out; injection e with e; omega))
  clear hc0 hc1 hc2 hf0 hf1 hf2 hrow hg hg4 hbv1 hav hlt HU6 a0 a1 a2 f0 f1 f2 hx0 hx1 hx2 hxf
  go_wp2_with fail
  go_region
  go_wp2_with fail
  refine bodyPost_ret (v := .tuple #[v6, .agg #[.int .i64 0, .string ⟨#[]⟩, .int .i64 0]]) (by simp [results, Tryd.results10, go_sem, c0, c1, c2]) rfl ⟨_, by rw [HDO.out]; rfl, ?_, ?_⟩
  · rw [HDO.out]; show MFin _ _ _ _ _ (withL m ⟨de, (volL m vo).size, (volL m vo).blocks⟩); rw [HVL.out.1, HVL.out.2]; exact (HMOD.out.below (Below.refl _ _).drew).mono HB2.out.size
  · exact (((HBL2.out.setCell (Nat.le_succ _) _).setCell (Nat.le_succ _) _).setCell (Nat.le_succ _) _).drew
end Go.Proofs.YtgabifkechofnaaDoor
