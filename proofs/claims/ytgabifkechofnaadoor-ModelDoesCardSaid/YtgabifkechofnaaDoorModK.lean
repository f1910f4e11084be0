/- The walk of the model's Do where there is no error (printed by tools/gen_modk.py). -/
import Derived.Test.YtgabifkechofnaaDoorModL
import Derived.RegionTactic
namespace Go.Proofs.YtgabifkechofnaaDoor
open Go.RowKit

theorem keep3 {w W : World} {b : Nat} (hw : w.heap.size = b + 1) (hb : Below w.heap.size w W) {x y z : Value} (h0 : w.cell? ⟨b, 0, none⟩ = some x) (h1 : w.cell? ⟨b, 1, none⟩ = some y) (h2 : w.cell? ⟨b, 2, none⟩ = some z)
    (f0 : w.frozen? ⟨b, 0, none⟩ = false) (f1 : w.frozen? ⟨b, 1, none⟩ = false) (f2 : w.frozen? ⟨b, 2, none⟩ = false) :
    W.cell? ⟨b, 0, none⟩ = some x ∧ W.cell? ⟨b, 1, none⟩ = some y ∧ W.cell? ⟨b, 2, none⟩ = some z ∧ W.frozen? ⟨b, 0, none⟩ = false ∧ W.frozen? ⟨b, 1, none⟩ = false ∧ W.frozen? ⟨b, 2, none⟩ = false ∧ b < W.heap.size :=
  ⟨cell_stays hb h0, cell_stays hb h1, cell_stays hb h2, (hb.frozen (by show b < _; omega)).trans f0, (hb.frozen (by show b < _; omega)).trans f1, (hb.frozen (by show b < _; omega)).trans f2, World.block_lt_of_cell? _ _ (cell_stays hb h0)⟩

set_option maxRecDepth 100000 in
set_option maxHeartbeats 2000000 in
theorem do_7 (m : List VolD) (vo de bl nn : Int) (tx : ByteArray) (v : Value) (w : World) (hm : ModelAt w v m) (hl : m.length ≤ 1000) (hbl : ∀ d ∈ m, d.blocks.length ≤ 50000) (hmay : mayL m = true) (hf : faultL m ⟨7, vo, de, bl, nn, tx⟩ = 0) (hp : Pow10 w) :
    Calls Tryd.prog 10 #[v, .agg #[.int .i64 7, .int .i64 vo, .int .i64 de, .int .i64 bl, .int .i64 nn, .string tx]] w (DoEnd m ⟨7, vo, de, bl, nn, tx⟩ w) := by
  have hdo : doL m ⟨7, vo, de, bl, nn, tx⟩ = (m, .zero) := by unfold doL; rw [if_neg (by rw [hmay]; simp), if_neg (by rw [hf]; simp)]; rfl
  have HB0 := Lib.hid (dbox_below w ⟨7, vo, de, bl, nn, tx⟩); have HM := Lib.hid (hm.stays (dbox_below w ⟨7, vo, de, bl, nn, tx⟩)); have HDO := Lib.hid hdo; have HMAY := Lib.hid hmay; have HSZ := Lib.hid (may_sizes hmay); have HL := Lib.hid hl; have HBL := Lib.hid hbl; have HP := Lib.hid hp
  have HF := Lib.hid hf
  obtain ⟨p, c, rfl, _, _, _⟩ := hm
  clear hdo hmay hf hl hbl hp
  go_enter Tryd.func10, Tryd.ntmps10
  go_wp2_with fail
  refine (may_any m _ _ HM.out).mono ?_
  rintro e w1 ⟨rfl, hb⟩
  rw [HMAY.out]
  have k0 : w1.cell? ⟨w.heap.size, 0, none⟩ = some (.int .i64 7) := cell_stays hb (by simp)
  have k1 : w1.cell? ⟨w.heap.size, 1, none⟩ = some (.int .i64 vo) := cell_stays hb (by simp)
  have k2 : w1.cell? ⟨w.heap.size, 2, none⟩ = some (.int .i64 de) := cell_stays hb (by simp)
  have k3 : w1.cell? ⟨w.heap.size, 3, none⟩ = some (.int .i64 bl) := cell_stays hb (by simp)
  have k4 : w1.cell? ⟨w.heap.size, 4, none⟩ = some (.int .i64 nn) := cell_stays hb (by simp)
  have k5 : w1.cell? ⟨w.heap.size, 5, none⟩ = some (.string tx) := cell_stays hb (by simp)
  have HX := Lib.hid hb
  have HB1 := Lib.hid (btrans HB0.out hb); have HM1 := Lib.hid (HM.out.stays hb); clear hb
  go_wp2_with fail
  refine (fault_any m ⟨7, vo, de, bl, nn, tx⟩ _ _ HM1.out (fun d hd => (HSZ.out d hd).2)).mono ?_
  rintro e w2 ⟨rfl, hb⟩
  rw [HF.out]
  have HX2 := Lib.hid (btrans HX.out hb)
  have HB2 := Lib.hid (btrans HB1.out hb); have HM2 := Lib.hid (HM1.out.stays hb); clear hb k0 k1 k2 k3 k4 k5
  go_wp2_with fail
  refine (own_any m _ _ HM2.out HL.out (fun d hd => by have := HBL.out d hd; omega)).mono ?_
  rintro e w3 ⟨v', G, rfl, hown, hG, hb⟩
  have hX3 := btrans HX2.out hb
  have k1 : w3.cell? ⟨w.heap.size, 1, none⟩ = some (.int .i64 vo) := cell_stays hX3 (by simp)
  have HX3 := Lib.hid hX3
  have HB3 := Lib.hid (btrans HB2.out hb); have HOWN := Lib.hid hown; have HG := Lib.hid hG; clear hb hown hX3 hG
  go_wp2_with fail
  refine (find_any m vo _ _ HOWN.out.reads).mono ?_
  rintro e w4 ⟨rfl, hb⟩
  have hX4 := btrans HX3.out hb
  have k0 : w4.cell? ⟨w.heap.size, 0, none⟩ = some (.int .i64 7) := cell_stays hX4 (by simp)
  have k1' : w4.cell? ⟨w.heap.size, 1, none⟩ = some (.int .i64 vo) := cell_stays hX4 (by simp)
  have k2 : w4.cell? ⟨w.heap.size, 2, none⟩ = some (.int .i64 de) := cell_stays hX4 (by simp)
  have k3 : w4.cell? ⟨w.heap.size, 3, none⟩ = some (.int .i64 bl) := cell_stays hX4 (by simp)
  have k4 : w4.cell? ⟨w.heap.size, 4, none⟩ = some (.int .i64 nn) := cell_stays hX4 (by simp)
  have k5 : w4.cell? ⟨w.heap.size, 5, none⟩ = some (.string tx) := cell_stays hX4 (by simp)
  have hlt0 : w.heap.size < w4.heap.size := World.block_lt_of_cell? _ _ k0
  obtain ⟨hc0, hc1, hc2, hf0, hf1, hf2, hlt⟩ := keep3 (b := w.heap.size + 1) (by simp) hX4 (x := .int .i64 0) (y := .string ⟨#[]⟩) (z := .int .i64 0) (by simp) (by simp) (by simp) (by simp) (by simp) (by simp)
  have hBB : w.heap.size + 1 < w2.heap.size := by have := HX2.out.size; simp at this; omega
  have HX4 := Lib.hid hX4; have HBB := Lib.hid hBB
  have HB4 := Lib.hid (btrans HB3.out hb)
  have HOWN4 := Lib.hid (MOwn.below HOWN.out hb)
  clear hb hX4 k1 hBB
  have HNN := Lib.hid (MOwn.atN HOWN4.out); have HBL2 := HB4; have HLE := Lib.hid HB4.out.size; have HLE2 := Lib.hid (show w.heap.size ≤ (((w4.setCell ⟨w.heap.size + 1, 0, none⟩ (.int .i64 0)).setCell ⟨w.heap.size + 1, 1, none⟩ (.string ⟨#[]⟩)).setCell ⟨w.heap.size + 1, 2, none⟩ (.int .i64 0)).heap.size by simpa using HB4.out.size)
  go_wp2_with fail
  go_region
  go_wp2_with fail
  refine bodyPost_ret (v := .tuple #[v', .agg #[.int .i64 0, .string ⟨#[]⟩, .int .i64 0]]) (by simp [results, Tryd.results10, go_sem, hc0, hc1, hc2, hlt]) rfl ⟨_, by rw [HDO.out]; rfl, ?_, ?_⟩
  · rw [HDO.out]
    refine MFin.mono HB2.out.size (MOwn.fin HG.out (MOwnN.own (B := w2.heap.size) (G := G) (N := w4.heap.size) (tv := 41) (tb := 56) ?_))
    repeat (first | exact HNN.out | refine MOwnN.drew ?_ | refine MOwnN.setBelow ?_ HG.out HBB.out _ | refine MOwnN.setAbove ?_ (Nat.le_refl _) _ | refine MOwnN.alloc ?_ _)
  · repeat (first | exact HBL2.out | refine Below.drew ?_ | refine Below.setCell ?_ (Nat.le_succ _) _ | refine Below.setCell ?_ HLE.out _ | refine Below.alloc ?_ HLE2.out _)

set_option maxRecDepth 100000 in
set_option maxHeartbeats 2000000 in
theorem do_9 (m : List VolD) (vo de bl nn : Int) (tx : ByteArray) (v : Value) (w : World) (hm : ModelAt w v m) (hl : m.length ≤ 1000) (hbl : ∀ d ∈ m, d.blocks.length ≤ 50000) (hmay : mayL m = true) (hf : faultL m ⟨9, vo, de, bl, nn, tx⟩ = 0) (hp : Pow10 w) :
    Calls Tryd.prog 10 #[v, .agg #[.int .i64 9, .int .i64 vo, .int .i64 de, .int .i64 bl, .int .i64 nn, .string tx]] w (DoEnd m ⟨9, vo, de, bl, nn, tx⟩ w) := by
  have hdo : doL m ⟨9, vo, de, bl, nn, tx⟩ = (m, .zero) := by unfold doL; rw [if_neg (by rw [hmay]; simp), if_neg (by rw [hf]; simp)]; rfl
  have HB0 := Lib.hid (dbox_below w ⟨9, vo, de, bl, nn, tx⟩); have HM := Lib.hid (hm.stays (dbox_below w ⟨9, vo, de, bl, nn, tx⟩)); have HDO := Lib.hid hdo; have HMAY := Lib.hid hmay; have HSZ := Lib.hid (may_sizes hmay); have HL := Lib.hid hl; have HBL := Lib.hid hbl; have HP := Lib.hid hp
  have HF := Lib.hid hf
  obtain ⟨p, c, rfl, _, _, _⟩ := hm
  clear hdo hmay hf hl hbl hp
  go_enter Tryd.func10, Tryd.ntmps10
  go_wp2_with fail
  refine (may_any m _ _ HM.out).mono ?_
  rintro e w1 ⟨rfl, hb⟩
  rw [HMAY.out]
  have k0 : w1.cell? ⟨w.heap.size, 0, none⟩ = some (.int .i64 9) := cell_stays hb (by simp)
  have k1 : w1.cell? ⟨w.heap.size, 1, none⟩ = some (.int .i64 vo) := cell_stays hb (by simp)
  have k2 : w1.cell? ⟨w.heap.size, 2, none⟩ = some (.int .i64 de) := cell_stays hb (by simp)
  have k3 : w1.cell? ⟨w.heap.size, 3, none⟩ = some (.int .i64 bl) := cell_stays hb (by simp)
  have k4 : w1.cell? ⟨w.heap.size, 4, none⟩ = some (.int .i64 nn) := cell_stays hb (by simp)
  have k5 : w1.cell? ⟨w.heap.size, 5, none⟩ = some (.string tx) := cell_stays hb (by simp)
  have HX := Lib.hid hb
  have HB1 := Lib.hid (btrans HB0.out hb); have HM1 := Lib.hid (HM.out.stays hb); clear hb
  go_wp2_with fail
  refine (fault_any m ⟨9, vo, de, bl, nn, tx⟩ _ _ HM1.out (fun d hd => (HSZ.out d hd).2)).mono ?_
  rintro e w2 ⟨rfl, hb⟩
  rw [HF.out]
  have HX2 := Lib.hid (btrans HX.out hb)
  have HB2 := Lib.hid (btrans HB1.out hb); have HM2 := Lib.hid (HM1.out.stays hb); clear hb k0 k1 k2 k3 k4 k5
  go_wp2_with fail
  refine (own_any m _ _ HM2.out HL.out (fun d hd => by have := HBL.out d hd; omega)).mono ?_
  rintro e w3 ⟨v', G, rfl, hown, hG, hb⟩
  have hX3 := btrans HX2.out hb
  have k1 : w3.cell? ⟨w.heap.size, 1, none⟩ = some (.int .i64 vo) := cell_stays hX3 (by simp)
  have HX3 := Lib.hid hX3
  have HB3 := Lib.hid (btrans HB2.out hb); have HOWN := Lib.hid hown; have HG := Lib.hid hG; clear hb hown hX3 hG
  go_wp2_with fail
  refine (find_any m vo _ _ HOWN.out.reads).mono ?_
  rintro e w4 ⟨rfl, hb⟩
  have hX4 := btrans HX3.out hb
  have k0 : w4.cell? ⟨w.heap.size, 0, none⟩ = some (.int .i64 9) := cell_stays hX4 (by simp)
  have k1' : w4.cell? ⟨w.heap.size, 1, none⟩ = some (.int .i64 vo) := cell_stays hX4 (by simp)
  have k2 : w4.cell? ⟨w.heap.size, 2, none⟩ = some (.int .i64 de) := cell_stays hX4 (by simp)
  have k3 : w4.cell? ⟨w.heap.size, 3, none⟩ = some (.int .i64 bl) := cell_stays hX4 (by simp)
  have k4 : w4.cell? ⟨w.heap.size, 4, none⟩ = some (.int .i64 nn) := cell_stays hX4 (by simp)
  have k5 : w4.cell? ⟨w.heap.size, 5, none⟩ = some (.string tx) := cell_stays hX4 (by simp)
  have hlt0 : w.heap.size < w4.heap.size := World.block_lt_of_cell? _ _ k0
  obtain ⟨hc0, hc1, hc2, hf0, hf1, hf2, hlt⟩ := keep3 (b := w.heap.size + 1) (by simp) hX4 (x := .int .i64 0) (y := .string ⟨#[]⟩) (z := .int .i64 0) (by simp) (by simp) (by simp) (by simp) (by simp) (by simp)
  have hBB : w.heap.size + 1 < w2.heap.size := by have := HX2.out.size; simp at this; omega
  have HX4 := Lib.hid hX4; have HBB := Lib.hid hBB
  have HB4 := Lib.hid (btrans HB3.out hb)
  have HOWN4 := Lib.hid (MOwn.below HOWN.out hb)
  clear hb hX4 k1 hBB
  have HNN := Lib.hid (MOwn.atN HOWN4.out); have HBL2 := HB4; have HLE := Lib.hid HB4.out.size; have HLE2 := Lib.hid (show w.heap.size ≤ (((w4.setCell ⟨w.heap.size + 1, 0, none⟩ (.int .i64 0)).setCell ⟨w.heap.size + 1, 1, none⟩ (.string ⟨#[]⟩)).setCell ⟨w.heap.size + 1, 2, none⟩ (.int .i64 0)).heap.size by simpa using HB4.out.size)
  go_wp2_with fail
  go_region
  go_wp2_with fail
  refine bodyPost_ret (v := .tuple #[v', .agg #[.int .i64 0, .string ⟨#[]⟩, .int .i64 0]]) (by simp [results, Tryd.results10, go_sem, hc0, hc1, hc2, hlt]) rfl ⟨_, by rw [HDO.out]; rfl, ?_, ?_⟩
  · rw [HDO.out]
    refine MFin.mono HB2.out.size (MOwn.fin HG.out (MOwnN.own (B := w2.heap.size) (G := G) (N := w4.heap.size) (tv := 41) (tb := 56) ?_))
    repeat (first | exact HNN.out | refine MOwnN.drew ?_ | refine MOwnN.setBelow ?_ HG.out HBB.out _ | refine MOwnN.setAbove ?_ (Nat.le_refl _) _ | refine MOwnN.alloc ?_ _)
  · repeat (first | exact HBL2.out | refine Below.drew ?_ | refine Below.setCell ?_ (Nat.le_succ _) _ | refine Below.setCell ?_ HLE.out _ | refine Below.alloc ?_ HLE2.out _)

set_option maxRecDepth 100000 in
set_option maxHeartbeats 2000000 in
theorem do_8 (m : List VolD) (vo de bl nn : Int) (tx : ByteArray) (v : Value) (w : World) (hm : ModelAt w v m) (hl : m.length ≤ 1000) (hbl : ∀ d ∈ m, d.blocks.length ≤ 50000) (hmay : mayL m = true) (hf : faultL m ⟨8, vo, de, bl, nn, tx⟩ = 0) (hp : Pow10 w) :
    Calls Tryd.prog 10 #[v, .agg #[.int .i64 8, .int .i64 vo, .int .i64 de, .int .i64 bl, .int .i64 nn, .string tx]] w (DoEnd m ⟨8, vo, de, bl, nn, tx⟩ w) := by
  have hdo : doL m ⟨8, vo, de, bl, nn, tx⟩ = (m, ⟨0, statusB m, m.length⟩) := by unfold doL; rw [if_neg (by rw [hmay]; simp), if_neg (by rw [hf]; simp)]; rfl
  have HB0 := Lib.hid (dbox_below w ⟨8, vo, de, bl, nn, tx⟩); have HM := Lib.hid (hm.stays (dbox_below w ⟨8, vo, de, bl, nn, tx⟩)); have HDO := Lib.hid hdo; have HMAY := Lib.hid hmay; have HSZ := Lib.hid (may_sizes hmay); have HL := Lib.hid hl; have HBL := Lib.hid hbl; have HP := Lib.hid hp
  have HF := Lib.hid hf
  obtain ⟨p, c, rfl, _, _, _⟩ := hm
  clear hdo hmay hf hl hbl hp
  go_enter Tryd.func10, Tryd.ntmps10
  go_wp2_with fail
  refine (may_any m _ _ HM.out).mono ?_
  rintro e w1 ⟨rfl, hb⟩
  rw [HMAY.out]
  have k0 : w1.cell? ⟨w.heap.size, 0, none⟩ = some (.int .i64 8) := cell_stays hb (by simp)
  have k1 : w1.cell? ⟨w.heap.size, 1, none⟩ = some (.int .i64 vo) := cell_stays hb (by simp)
  have k2 : w1.cell? ⟨w.heap.size, 2, none⟩ = some (.int .i64 de) := cell_stays hb (by simp)
  have k3 : w1.cell? ⟨w.heap.size, 3, none⟩ = some (.int .i64 bl) := cell_stays hb (by simp)
  have k4 : w1.cell? ⟨w.heap.size, 4, none⟩ = some (.int .i64 nn) := cell_stays hb (by simp)
  have k5 : w1.cell? ⟨w.heap.size, 5, none⟩ = some (.string tx) := cell_stays hb (by simp)
  have HX := Lib.hid hb
  have HB1 := Lib.hid (btrans HB0.out hb); have HM1 := Lib.hid (HM.out.stays hb); clear hb
  go_wp2_with fail
  refine (fault_any m ⟨8, vo, de, bl, nn, tx⟩ _ _ HM1.out (fun d hd => (HSZ.out d hd).2)).mono ?_
  rintro e w2 ⟨rfl, hb⟩
  rw [HF.out]
  have HX2 := Lib.hid (btrans HX.out hb)
  have HB2 := Lib.hid (btrans HB1.out hb); have HM2 := Lib.hid (HM1.out.stays hb); clear hb k0 k1 k2 k3 k4 k5
  go_wp2_with fail
  refine (own_any m _ _ HM2.out HL.out (fun d hd => by have := HBL.out d hd; omega)).mono ?_
  rintro e w3 ⟨v', G, rfl, hown, hG, hb⟩
  have hX3 := btrans HX2.out hb
  have k1 : w3.cell? ⟨w.heap.size, 1, none⟩ = some (.int .i64 vo) := cell_stays hX3 (by simp)
  have HX3 := Lib.hid hX3
  have HB3 := Lib.hid (btrans HB2.out hb); have HOWN := Lib.hid hown; have HG := Lib.hid hG; clear hb hown hX3 hG
  go_wp2_with fail
  refine (find_any m vo _ _ HOWN.out.reads).mono ?_
  rintro e w4 ⟨rfl, hb⟩
  have hX4 := btrans HX3.out hb
  have k0 : w4.cell? ⟨w.heap.size, 0, none⟩ = some (.int .i64 8) := cell_stays hX4 (by simp)
  have k1' : w4.cell? ⟨w.heap.size, 1, none⟩ = some (.int .i64 vo) := cell_stays hX4 (by simp)
  have k2 : w4.cell? ⟨w.heap.size, 2, none⟩ = some (.int .i64 de) := cell_stays hX4 (by simp)
  have k3 : w4.cell? ⟨w.heap.size, 3, none⟩ = some (.int .i64 bl) := cell_stays hX4 (by simp)
  have k4 : w4.cell? ⟨w.heap.size, 4, none⟩ = some (.int .i64 nn) := cell_stays hX4 (by simp)
  have k5 : w4.cell? ⟨w.heap.size, 5, none⟩ = some (.string tx) := cell_stays hX4 (by simp)
  have hlt0 : w.heap.size < w4.heap.size := World.block_lt_of_cell? _ _ k0
  obtain ⟨hc0, hc1, hc2, hf0, hf1, hf2, hlt⟩ := keep3 (b := w.heap.size + 1) (by simp) hX4 (x := .int .i64 0) (y := .string ⟨#[]⟩) (z := .int .i64 0) (by simp) (by simp) (by simp) (by simp) (by simp) (by simp)
  have hBB : w.heap.size + 1 < w2.heap.size := by have := HX2.out.size; simp at this; omega
  have HX4 := Lib.hid hX4; have HBB := Lib.hid hBB
  have HB4 := Lib.hid (btrans HB3.out hb)
  have HOWN4 := Lib.hid (MOwn.below HOWN.out hb)
  clear hb hX4 k1 hBB
  obtain ⟨pp, cc, hv, _, _, hvin⟩ := HOWN4.out.reads
  subst hv
  have HVIN := Lib.hid hvin; clear hvin
  have hbx := (Below.refl w4.heap.size w4).alloc (Nat.le_refl _) (.cells #[.int .i64 0, .string ⟨#[]⟩, .int .i64 0] 29)
  have HBX := Lib.hid hbx; clear hbx
  go_wp2_with fail
  refine (status_any m pp cc _ (HVIN.out.stays HBX.out) HL.out HSZ.out (pow_stays HP.out (HB4.out.trans (HBX.out.mono HB4.out.size)))).mono ?_
  rintro e w5 ⟨rfl, hb⟩
  have a0 : w5.cell? ⟨w4.heap.size, 0, none⟩ = some (.int .i64 0) := cell_stays hb (by simp)
  have a1 : w5.cell? ⟨w4.heap.size, 1, none⟩ = some (.string ⟨#[]⟩) := cell_stays hb (by simp)
  have a2 : w5.cell? ⟨w4.heap.size, 2, none⟩ = some (.int .i64 0) := cell_stays hb (by simp)
  have g0 : w5.frozen? ⟨w4.heap.size, 1, none⟩ = false := (hb.frozen (by simp)).trans (by simp)
  have g1 : w5.frozen? ⟨w4.heap.size, 2, none⟩ = false := (hb.frozen (by simp)).trans (by simp)
  have hb4 : Below w4.heap.size w4 w5 := btrans HBX.out hb
  have c0 := cell_stays hb4 hc0
  have c1 := cell_stays hb4 hc1
  have c2 := cell_stays hb4 hc2
  have e0 := (hb4.frozen (p := ⟨w.heap.size + 1, 0, none⟩) hlt).trans hf0
  have e1 := (hb4.frozen (p := ⟨w.heap.size + 1, 1, none⟩) hlt).trans hf1
  have e2 := (hb4.frozen (p := ⟨w.heap.size + 1, 2, none⟩) hlt).trans hf2
  have hlt5 : w.heap.size + 1 < w5.heap.size := World.block_lt_of_cell? _ _ c0
  have hne : w4.heap.size ≠ w.heap.size + 1 := by omega
  have hne' : w.heap.size + 1 ≠ w4.heap.size := by omega
  have HNN := Lib.hid ((MOwn.atN HOWN4.out).below hb4); have HBL2 := Lib.hid (btrans HB4.out hb4); have HLE := Lib.hid HB4.out.size
  clear hc0 hc1 hc2 hf0 hf1 hf2 hb hb4 k0 k1' k2 k3 k4 k5 hlt
  go_wp2_with fail
  go_region
  go_wp2_with fail
  refine bodyPost_ret (v := .tuple #[.slice pp m.length cc, .agg #[.int .i64 0, .string (statusB m), .int .i64 m.length]]) (by simp [results, Tryd.results10, go_sem, c0, c1, c2]) rfl ⟨_, by rw [HDO.out]; rfl, ?_, ?_⟩
  · rw [HDO.out]
    refine MFin.mono HB2.out.size (MOwn.fin HG.out (MOwnN.own (B := w2.heap.size) (G := G) (N := w4.heap.size) (tv := 41) (tb := 56) ?_))
    repeat (first | exact HNN.out | refine MOwnN.drew ?_ | refine MOwnN.setBelow ?_ HG.out HBB.out _ | refine MOwnN.setAbove ?_ (Nat.le_refl _) _ | refine MOwnN.alloc ?_ _)
  · repeat (first | exact HBL2.out | refine Below.drew ?_ | refine Below.setCell ?_ (Nat.le_succ _) _ | refine Below.setCell ?_ HLE.out _)
end Go.Proofs.YtgabifkechofnaaDoor
