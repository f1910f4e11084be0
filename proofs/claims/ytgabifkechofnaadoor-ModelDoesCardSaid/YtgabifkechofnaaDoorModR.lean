/- The walk of the model's Do where there is no error (printed by tools/gen_modk.py). -/
import Derived.Test.YtgabifkechofnaaDoorModK
import Derived.Deep.RegionHeld3
import Derived.RegionTactic
namespace Go.Proofs.YtgabifkechofnaaDoor
open Go.RowKit


set_option maxRecDepth 100000 in
set_option maxHeartbeats 2000000 in
theorem do_3 (m : List VolD) (vo de bl nn : Int) (tx : ByteArray) (v : Value) (w : World) (hm : ModelAt w v m) (hl : m.length ≤ 1000) (hbl : ∀ d ∈ m, d.blocks.length ≤ 50000) (hmay : mayL m = true) (hf : faultL m ⟨3, vo, de, bl, nn, tx⟩ = 0) (hp : Pow10 w) :
    Calls Tryd.prog 10 #[v, .agg #[.int .i64 3, .int .i64 vo, .int .i64 de, .int .i64 bl, .int .i64 nn, .string tx]] w (DoEnd m ⟨3, vo, de, bl, nn, tx⟩ w) := by
  have hdo : doL m ⟨3, vo, de, bl, nn, tx⟩ = (m, ⟨0, textL (volL m vo).blocks bl, 0⟩) := by unfold doL; rw [if_neg (by rw [hmay]; simp), if_neg (by rw [hf]; simp)]; rfl
  have HB0 := Lib.hid (dbox_below w ⟨3, vo, de, bl, nn, tx⟩); have HM := Lib.hid (hm.stays (dbox_below w ⟨3, vo, de, bl, nn, tx⟩)); have HDO := Lib.hid hdo; have HMAY := Lib.hid hmay; have HSZ := Lib.hid (may_sizes hmay); have HL := Lib.hid hl; have HBL := Lib.hid hbl; have HP := Lib.hid hp
  have HF := Lib.hid hf
  obtain ⟨p, c, rfl, _, _, _⟩ := hm
  clear hdo hmay hf hl hbl hp
  go_enter Tryd.func10, Tryd.ntmps10
  go_wp2_with fail
  refine (may_any m _ _ HM.out).mono ?_
  rintro e w1 ⟨rfl, hb⟩
  rw [HMAY.out]
  have k0 : w1.cell? ⟨w.heap.size, 0, none⟩ = some (.int .i64 3) := cell_stays hb (by simp)
  have k1 : w1.cell? ⟨w.heap.size, 1, none⟩ = some (.int .i64 vo) := cell_stays hb (by simp)
  have k2 : w1.cell? ⟨w.heap.size, 2, none⟩ = some (.int .i64 de) := cell_stays hb (by simp)
  have k3 : w1.cell? ⟨w.heap.size, 3, none⟩ = some (.int .i64 bl) := cell_stays hb (by simp)
  have k4 : w1.cell? ⟨w.heap.size, 4, none⟩ = some (.int .i64 nn) := cell_stays hb (by simp)
  have k5 : w1.cell? ⟨w.heap.size, 5, none⟩ = some (.string tx) := cell_stays hb (by simp)
  have HX := Lib.hid hb
  have HB1 := Lib.hid (btrans HB0.out hb); have HM1 := Lib.hid (HM.out.stays hb); clear hb
  go_wp2_with fail
  refine (fault_any m ⟨3, vo, de, bl, nn, tx⟩ _ _ HM1.out (fun d hd => (HSZ.out d hd).2)).mono ?_
  rintro e w2 ⟨rfl, hb⟩
  rw [HF.out]
  have HX2 := Lib.hid (btrans HX.out hb)
  have HB2 := Lib.hid (btrans HB1.out hb); have HM2 := Lib.hid (HM1.out.stays hb); clear hb k0 k1 k2 k3 k4 k5
  go_wp2_with fail
  refine (own_any m _ _ HM2.out HL.out (fun d hd => by have := HBL.out d hd; omega)).mono ?_
  rintro e w3 ⟨v', G, rfl, hown, hG, hb⟩
  have hX3 := btrans HX2.out hb
  have k1 : w3.cell? ⟨w.heap.size, 1, none⟩ = some (.int .i64 vo) := cell_stays hX3 (by simp)
  have HX3 := Lib.hid hX3
  have HB3 := Lib.hid (btrans HB2.out hb); have HOWN := Lib.hid hown; have HG := Lib.hid hG; clear hb hown hX3 hG
  go_wp2_with fail
  refine (find_any m vo _ _ HOWN.out.reads).mono ?_
  rintro e w4 ⟨rfl, hb⟩
  have hX4 := btrans HX3.out hb
  have k0 : w4.cell? ⟨w.heap.size, 0, none⟩ = some (.int .i64 3) := cell_stays hX4 (by simp)
  have k1' : w4.cell? ⟨w.heap.size, 1, none⟩ = some (.int .i64 vo) := cell_stays hX4 (by simp)
  have k2 : w4.cell? ⟨w.heap.size, 2, none⟩ = some (.int .i64 de) := cell_stays hX4 (by simp)
  have k3 : w4.cell? ⟨w.heap.size, 3, none⟩ = some (.int .i64 bl) := cell_stays hX4 (by simp)
  have k4 : w4.cell? ⟨w.heap.size, 4, none⟩ = some (.int .i64 nn) := cell_stays hX4 (by simp)
  have k5 : w4.cell? ⟨w.heap.size, 5, none⟩ = some (.string tx) := cell_stays hX4 (by simp)
  have hlt0 : w.heap.size < w4.heap.size := World.block_lt_of_cell? _ _ k0
  obtain ⟨hc0, hc1, hc2, hf0, hf1, hf2, hlt⟩ := keep3 (b := w.heap.size + 1) (by simp) hX4 (x := .int .i64 0) (y := .string ⟨#[]⟩) (z := .int .i64 0) (by simp) (by simp) (by simp) (by simp) (by simp) (by simp)
  have hBB : w.heap.size + 1 < w2.heap.size := by have := HX2.out.size; simp at this; omega
  have HX4 := Lib.hid hX4; have HBB := Lib.hid hBB
  have HB4 := Lib.hid (btrans HB3.out hb)
  have HOWN4 := Lib.hid (MOwn.below HOWN.out hb)
  clear hb hX4 k1 hBB
  obtain ⟨i, d, hfi, hdi, _, _⟩ := found_of (x := ⟨3, vo, de, bl, nn, tx⟩) (show (1 : Int) ≤ 3 ∧ (3 : Int) ≤ 5 by decide) HF.out
  have hfi' : findL m vo = some i := hfi
  have hil : i < m.length := (List.getElem?_eq_some_iff.1 hdi).1
  rw [hfi']
  have HVL := Lib.hid (show (volL m vo).blocks = d.blocks by unfold volL; rw [hfi']; simp only [hdi]; rfl)
  obtain ⟨p', cc, hv, _, _, hvin⟩ := HOWN4.out.reads
  subst hv
  obtain ⟨g, o, bp, bc, hp', h0, h1, h2, q1, q2, hbin⟩ := hvin i d hdi
  subst hp'
  have hbd := HBL.out d (List.mem_of_getElem? hdi)
  have hbx := (Below.refl w4.heap.size w4).alloc (Nat.le_refl _) (.cells #[.int .i64 0, .string ⟨#[]⟩, .int .i64 0] 29)
  have y2 := cell_stays hbx h2
  have y3 := cell_stays hbx k3
  have hgl : g ≠ w4.heap.size := by have := World.block_lt_of_cell? _ _ h2; simp at this; omega
  have hwl : w.heap.size ≠ w4.heap.size := by omega
  have HBX := Lib.hid hbx; have HBIN := Lib.hid hbin; have HBD := Lib.hid hbd
  have hiI : (i : Int) < (m.length : Int) := by omega
  have hi62 : (i : Int) ≤ 1000 := by have := HL.out; omega
  clear hbx hfi hfi' hdi hil hvin hbin hbd h0 h1 h2 k1' k2 k3 k4 k5 q1 q2
  go_wp2_with fail
  go_region_held3 (fun w' => w'.cell? ⟨w.heap.size, 3, none⟩ = some (.int .i64 bl) ∧ w'.cell? ⟨g, o + i * 3 + 2, none⟩ = some (.slice bp d.blocks.length bc))
    (first | exact ⟨y3, y2⟩ | exact ⟨cell_stays hb5 (show _ ∧ _ by assumption).1, cell_stays hb5 (show _ ∧ _ by assumption).2⟩ | exact ⟨cell_stays hb5 y3, cell_stays hb5 y2⟩ | exact ⟨(World.cell?_setCell_far _ _ _ _ hwl.symm).trans (cell_stays hb5 y3), (World.cell?_setCell_far _ _ _ _ hgl.symm).trans (cell_stays hb5 y2)⟩)
    (first | (go_at_call 25; refine (text_any d.blocks bl bp bc _ (HBIN.out.stays (HBX.out.trans (Below.refl _ _).drew)) (by have := HBD.out; omega)).mono ?_; rintro e w5 ⟨rfl, hb5⟩; have a1 : w5.cell? ⟨w4.heap.size, 1, none⟩ = some (.string ⟨#[]⟩) := cell_stays hb5 (by simp); have g1 : w5.frozen? ⟨w4.heap.size, 1, none⟩ = false := (hb5.frozen (by simp)).trans (by simp)))
  have hbz : Below (w4.alloc (.cells #[.int .i64 0, .string ⟨#[]⟩, .int .i64 0] 29)).heap.size (w4.alloc (.cells #[.int .i64 0, .string ⟨#[]⟩, .int .i64 0] 29)) w5 := (Below.refl _ _).drew.trans hb5
  have a0 : w5.cell? ⟨w4.heap.size, 0, none⟩ = some (.int .i64 0) := cell_stays hbz (by simp)
  have a2 : w5.cell? ⟨w4.heap.size, 2, none⟩ = some (.int .i64 0) := cell_stays hbz (by simp)
  have hb4 : Below w4.heap.size w4 w5 := btrans HBX.out hbz
  have c0 := cell_stays hb4 hc0
  have c1 := cell_stays hb4 hc1
  have c2 := cell_stays hb4 hc2
  have e0 := (hb4.frozen (p := ⟨w.heap.size + 1, 0, none⟩) hlt).trans hf0
  have e1 := (hb4.frozen (p := ⟨w.heap.size + 1, 1, none⟩) hlt).trans hf1
  have e2 := (hb4.frozen (p := ⟨w.heap.size + 1, 2, none⟩) hlt).trans hf2
  have hlt5 : w.heap.size + 1 < w5.heap.size := World.block_lt_of_cell? _ _ c0
  have hne : w4.heap.size ≠ w.heap.size + 1 := by omega
  have hne' : w.heap.size + 1 ≠ w4.heap.size := by omega
  have HNN := Lib.hid ((MOwn.atN HOWN4.out).below hb4); have HBL2 := Lib.hid (btrans HB4.out hb4); have HLE := Lib.hid HB4.out.size
  clear hc0 hc1 hc2 hf0 hf1 hf2 hb4 hbz k0 hlt y2 y3 hgl hwl
  go_wp2_with fail
  go_region
  go_wp2_with fail
  refine bodyPost_ret (v := .tuple #[.slice (some ⟨g, o, none⟩) m.length cc, .agg #[.int .i64 0, .string (textL d.blocks bl), .int .i64 0]]) (by simp [results, Tryd.results10, go_sem, c0, c1, c2]) rfl ⟨_, by rw [HDO.out, HVL.out]; rfl, ?_, ?_⟩
  · rw [HDO.out]
    refine MFin.mono HB2.out.size (MOwn.fin HG.out (MOwnN.own (B := w2.heap.size) (G := G) (N := w4.heap.size) (tv := 41) (tb := 56) ?_))
    repeat (first | exact HNN.out | refine MOwnN.drew ?_ | refine MOwnN.setBelow ?_ HG.out HBB.out _ | refine MOwnN.setAbove ?_ (Nat.le_refl _) _ | refine MOwnN.alloc ?_ _)
  · repeat (first | exact HBL2.out | refine Below.drew ?_ | refine Below.setCell ?_ (Nat.le_succ _) _ | refine Below.setCell ?_ HLE.out _)
end Go.Proofs.YtgabifkechofnaaDoor
