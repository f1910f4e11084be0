/- The walk of the model's Do. -/
import Derived.Test.YtgabifkechofnaaDoorModS
import Derived.Test.YtgabifkechofnaaDoorModI
import Derived.Test.YtgabifkechofnaaDoorModE
import Derived.Test.YtgabifkechofnaaDoorDeleteV
namespace Go.Proofs.YtgabifkechofnaaDoor
open Go.RowKit

structure AnsM where
  code : Int
  text : ByteArray
  n : Int
deriving DecidableEq
def AnsM.agg (a : AnsM) : Value := .agg #[.int .i64 a.code, .string a.text, .int .i64 a.n]
def AnsM.zero : AnsM := ⟨0, ⟨#[]⟩, 0⟩
def withL (m : List VolD) (d : VolD) : List VolD := m.take (posL m d.id) ++ d :: m.drop (posL m d.id)
def onL (m : List VolD) (id : Int) (f : VolD → VolD) : List VolD := match findL m id with | none => m | some i => match m[i]? with | none => m | some d => m.set i (f d)
def dropL (m : List VolD) (id : Int) : List VolD := match findL m id with | none => m | some i => m.take i ++ m.drop (i + 1)
def volL (m : List VolD) (id : Int) : VolD := match findL m id with | none => ⟨0, 0, []⟩ | some i => (m[i]?).getD ⟨0, 0, []⟩
def doL (m : List VolD) (x : OpD) : List VolD × AnsM :=
  if mayL m = false then ([], ⟨1, ⟨#[]⟩, 0⟩)
  else if faultL m x ≠ 0 then (m, ⟨faultL m x, ⟨#[]⟩, 0⟩)
  else if x.act = 0 then (withL m ⟨x.vol, x.n, []⟩, .zero)
  else if x.act = 1 then (dropL m x.vol, .zero)
  else if x.act = 2 then (onL m x.vol fun d => ⟨d.id, x.n, if x.n < d.size then cutL d.blocks x.n d.size else d.blocks⟩, .zero)
  else if x.act = 3 then (m, ⟨0, textL (volL m x.vol).blocks x.block, 0⟩)
  else if x.act = 4 then (onL m x.vol fun d => ⟨d.id, d.size, writtenL d.blocks ⟨x.block, x.text⟩⟩, .zero)
  else if x.act = 5 then (onL m x.vol fun d => ⟨d.id, d.size, cutL d.blocks x.block (x.block + x.n)⟩, .zero)
  else if x.act = 6 then (withL m ⟨x.dest, (volL m x.vol).size, (volL m x.vol).blocks⟩, .zero)
  else if x.act = 8 then (m, ⟨0, statusB m, m.length⟩)
  else (m, .zero)
def DoEnd (m : List VolD) (x : OpD) (w : World) (e : Ending) (w' : World) : Prop :=
  ∃ v', e = .returned (.tuple #[v', (doL m x).2.agg]) ∧ MFin w.heap.size 41 56 w' v' (doL m x).1 ∧ Below w.heap.size w w'
abbrev dbox (w : World) (x : OpD) : World := (w.alloc (.cells #[.int .i64 x.act, .int .i64 x.vol, .int .i64 x.dest, .int .i64 x.block, .int .i64 x.n, .string x.text] 24)).alloc (.cells #[.int .i64 0, .string ⟨#[]⟩, .int .i64 0] 29)
theorem dbox_below (w : World) (x : OpD) : Below w.heap.size w (dbox w x) := ((Below.refl _ _).alloc (Nat.le_refl _) _).alloc (by simp) _

theorem may_sizes {m : List VolD} (h : mayL m = true) : ∀ d ∈ m, (0 ≤ d.id ∧ d.id ≤ 1000) ∧ 0 ≤ d.size ∧ d.size ≤ 100000 := by
  intro d hd
  unfold mayL at h
  rw [Bool.and_eq_true] at h
  obtain ⟨i, hi⟩ := List.mem_iff_getElem?.1 hd
  have h1 := List.all_eq_true.1 h.2 i (List.mem_range.2 (List.getElem?_eq_some_iff.1 hi).1)
  unfold volOk at h1
  rw [hi] at h1
  simp only [Bool.and_eq_true, decide_eq_true_eq] at h1
  omega

theorem MOwn.below {B G : Nat} {tv tb : TypeId} {m : List VolD} {v : Value} {w w' : World} (h : MOwn B G tv tb m v w) (hb : Below w.heap.size w w') : MOwn B G tv tb m v w' := by
  obtain ⟨bvs, h⟩ := h
  exact ⟨bvs, h.below hb⟩
theorem MOwn.setBelow {B G : Nat} {tv tb : TypeId} {m : List VolD} {v : Value} {w : World} (h : MOwn B G tv tb m v w) (hG : B ≤ G) {a : Addr} (ha : a.block < B) (u : Value) : MOwn B G tv tb m v (w.setCell a u) := by
  obtain ⟨bvs, h⟩ := h
  exact ⟨bvs, h.len, ownsRow_setCell_below h.row ha u, h.lo, by simpa using h.hi, fun i d bv hi hd hb => ownsRow_setCell_below (h.blk i d bv hi hd hb) (by omega) u, h.far⟩
theorem MOwn.set3 {B G : Nat} {tv tb : TypeId} {m : List VolD} {v : Value} {w : World} (h : MOwn B G tv tb m v w) (hG : B ≤ G) {b : Nat} (ha : b < B) (x y z : Value) :
    MOwn B G tv tb m v (((w.setCell ⟨b, 0, none⟩ x).setCell ⟨b, 1, none⟩ y).setCell ⟨b, 2, none⟩ z) := ((h.setBelow hG ha x).setBelow hG ha y).setBelow hG ha z

/-- a model that is owned, all of its blocks below N -/
def MOwnN (B G N : Nat) (tv tb : TypeId) (m : List VolD) (v : Value) (w : World) : Prop :=
  ∃ bvs, OwnK B G tv tb m v m.length bvs w ∧ (∀ g, v.ownBlock = some g → g < N) ∧ ∀ (i : Nat) (bv : Value), i < m.length → bvs[i]? = some bv → ∀ g, bv.ownBlock = some g → g < N
theorem MOwn.atN {B G : Nat} {tv tb : TypeId} {m : List VolD} {v : Value} {w : World} (h : MOwn B G tv tb m v w) : MOwnN B G w.heap.size tv tb m v w := by
  obtain ⟨bvs, h⟩ := h
  exact ⟨bvs, h, fun g e => (h.row.lt g e).2, fun i bv hi hb g e => ((h.blk i _ bv hi (List.getElem?_eq_getElem hi) hb).lt g e).2⟩
theorem MOwnN.own {B G N : Nat} {tv tb : TypeId} {m : List VolD} {v : Value} {w : World} (h : MOwnN B G N tv tb m v w) : MOwn B G tv tb m v w := by
  obtain ⟨bvs, h, _⟩ := h; exact ⟨bvs, h⟩
theorem MOwnN.setBelow {B G N : Nat} {tv tb : TypeId} {m : List VolD} {v : Value} {w : World} (h : MOwnN B G N tv tb m v w) (hG : B ≤ G) {b i : Nat} (ha : b < B) (u : Value) : MOwnN B G N tv tb m v (w.setCell ⟨b, i, none⟩ u) := by
  obtain ⟨bvs, h, h2, h3⟩ := h
  exact ⟨bvs, ⟨h.len, ownsRow_setCell_below h.row ha u, h.lo, by simpa using h.hi, fun i d bv hi hd hb => ownsRow_setCell_below (h.blk i d bv hi hd hb) (by show b < G; omega) u, h.far⟩, h2, h3⟩
theorem MOwnN.setAbove {B G N : Nat} {tv tb : TypeId} {m : List VolD} {v : Value} {w : World} (h : MOwnN B G N tv tb m v w) {b i : Nat} (hb : N ≤ b) (u : Value) : MOwnN B G N tv tb m v (w.setCell ⟨b, i, none⟩ u) := by
  obtain ⟨bvs, h, h2, h3⟩ := h
  have kp : ∀ {B' : Nat} {e : TypeId} {k n : Nat} {v' : Value} {xs : List Value}, w.ownsRow B' e k v' n xs → (∀ g, v'.ownBlock = some g → g < N) → (w.setCell ⟨b, i, none⟩ u).ownsRow B' e k v' n xs := fun h4 h5 =>
    h4.kept (grown_setCell w b i u) (.inr fun e => by have := h5 b e; omega)
  exact ⟨bvs, ⟨h.len, kp h.row h2, h.lo, by simpa using h.hi, fun i d bv hi hd hb => kp (h.blk i d bv hi hd hb) (h3 i bv hi hb), h.far⟩, h2, h3⟩
theorem MOwnN.below {B G N : Nat} {tv tb : TypeId} {m : List VolD} {v : Value} {w w' : World} (h : MOwnN B G N tv tb m v w) (hb : Below w.heap.size w w') : MOwnN B G N tv tb m v w' := by
  obtain ⟨bvs, h, h2, h3⟩ := h
  exact ⟨bvs, h.below hb, h2, h3⟩
theorem MOwnN.drew {B G N : Nat} {tv tb : TypeId} {m : List VolD} {v : Value} {w : World} (h : MOwnN B G N tv tb m v w) : MOwnN B G N tv tb m v w.drew := h.below (Below.refl _ _).drew
theorem MOwnN.alloc {B G N : Nat} {tv tb : TypeId} {m : List VolD} {v : Value} {w : World} (h : MOwnN B G N tv tb m v w) (o : Obj) : MOwnN B G N tv tb m v (w.alloc o) := h.below ((Below.refl _ _).alloc (Nat.le_refl _) _)

set_option maxRecDepth 100000 in
set_option maxHeartbeats 1000000 in
theorem do_bad (m : List VolD) (x : OpD) (v : Value) (w : World) (hm : ModelAt w v m) (hmay : mayL m = false) :
    Calls Tryd.prog 10 #[v, x.agg] w (DoEnd m x w) := by
  have hdo : doL m x = ([], ⟨1, ⟨#[]⟩, 0⟩) := by unfold doL; rw [if_pos hmay]
  have HB0 := Lib.hid (dbox_below w x); have HM := Lib.hid (hm.stays (dbox_below w x)); have HDO := Lib.hid hdo; have HMAY := Lib.hid hmay
  obtain ⟨ac, vo, de, bl, nn, tx⟩ := x
  obtain ⟨p, c, rfl, _, _, _⟩ := hm
  clear hdo hmay
  simp only [OpD.agg]
  go_enter Tryd.func10, Tryd.ntmps10
  go_wp2_with fail
  refine (may_any m _ _ HM.out).mono ?_
  rintro e w1 ⟨rfl, hb⟩
  rw [HMAY.out]
  have hc0 : w1.cell? ⟨w.heap.size + 1, 0, none⟩ = some (.int .i64 0) := cell_stays hb (by simp)
  have hc1 : w1.cell? ⟨w.heap.size + 1, 1, none⟩ = some (.string ⟨#[]⟩) := cell_stays hb (by simp)
  have hc2 : w1.cell? ⟨w.heap.size + 1, 2, none⟩ = some (.int .i64 0) := cell_stays hb (by simp)
  have hlt : w.heap.size + 1 < w1.heap.size := World.block_lt_of_cell? _ _ hc0
  have hf0 : w1.frozen? ⟨w.heap.size + 1, 0, none⟩ = false := (hb.frozen (by simp)).trans (by simp)
  have hf1 : w1.frozen? ⟨w.heap.size + 1, 1, none⟩ = false := (hb.frozen (by simp)).trans (by simp)
  have hf2 : w1.frozen? ⟨w.heap.size + 1, 2, none⟩ = false := (hb.frozen (by simp)).trans (by simp)
  have HB1 := Lib.hid (btrans HB0.out hb); clear hb
  go_wp2_with fail
  refine bodyPost_ret (v := .tuple #[.slice none 0 0, .agg #[.int .i64 1, .string ⟨#[]⟩, .int .i64 0]]) (by simp [results, Tryd.results10, go_sem, hc0, hc1, hc2]) rfl ⟨_, by rw [HDO.out]; rfl, ?_, ?_⟩
  · rw [HDO.out]; exact ⟨[], rfl, World.ownsRow_nil _ _ _ _, fun i d bv hd => by simp at hd⟩
  · exact ((HB1.out.setCell (by simp) _).setCell (by simp) _).setCell (by simp) _

set_option maxRecDepth 100000 in
set_option maxHeartbeats 1000000 in
theorem do_fault (m : List VolD) (x : OpD) (v : Value) (w : World) (hm : ModelAt w v m) (hl : m.length ≤ 1000) (hbl : ∀ d ∈ m, d.blocks.length ≤ 50000) (hmay : mayL m = true) (hf : faultL m x ≠ 0) :
    Calls Tryd.prog 10 #[v, x.agg] w (DoEnd m x w) := by
  have hdo : doL m x = (m, ⟨faultL m x, ⟨#[]⟩, 0⟩) := by unfold doL; rw [if_neg (by rw [hmay]; simp), if_pos hf]
  have HB0 := Lib.hid (dbox_below w x); have HM := Lib.hid (hm.stays (dbox_below w x)); have HDO := Lib.hid hdo; have HMAY := Lib.hid hmay; have HSZ := Lib.hid (may_sizes hmay); have HL := Lib.hid hl; have HBL := Lib.hid hbl
  obtain ⟨F, hF⟩ : ∃ F, faultL m x = F := ⟨_, rfl⟩
  rw [hF] at hf hdo
  have HF := Lib.hid hF
  obtain ⟨ac, vo, de, bl, nn, tx⟩ := x
  obtain ⟨p, c, rfl, _, _, _⟩ := hm
  have hfb : (F != 0) = true := by simpa using hf
  clear hdo hmay hf hF hl hbl
  simp only [OpD.agg]
  go_enter Tryd.func10, Tryd.ntmps10
  go_wp2_with fail
  refine (may_any m _ _ HM.out).mono ?_
  rintro e w1 ⟨rfl, hb⟩
  rw [HMAY.out]
  have k0 : w1.cell? ⟨w.heap.size, 0, none⟩ = some (.int .i64 ac) := cell_stays hb (by simp)
  have k1 : w1.cell? ⟨w.heap.size, 1, none⟩ = some (.int .i64 vo) := cell_stays hb (by simp)
  have k2 : w1.cell? ⟨w.heap.size, 2, none⟩ = some (.int .i64 de) := cell_stays hb (by simp)
  have k3 : w1.cell? ⟨w.heap.size, 3, none⟩ = some (.int .i64 bl) := cell_stays hb (by simp)
  have k4 : w1.cell? ⟨w.heap.size, 4, none⟩ = some (.int .i64 nn) := cell_stays hb (by simp)
  have k5 : w1.cell? ⟨w.heap.size, 5, none⟩ = some (.string tx) := cell_stays hb (by simp)
  have HX := Lib.hid hb
  have HB1 := Lib.hid (btrans HB0.out hb); have HM1 := Lib.hid (HM.out.stays hb); clear hb
  go_wp2_with fail
  refine (fault_any m ⟨ac, vo, de, bl, nn, tx⟩ _ _ HM1.out (fun d hd => (HSZ.out d hd).2)).mono ?_
  rintro e w2 ⟨rfl, hb⟩
  rw [HF.out]
  have HX2 := Lib.hid (btrans HX.out hb)
  have HB2 := Lib.hid (btrans HB1.out hb); have HM2 := Lib.hid (HM1.out.stays hb); clear hb k0 k1 k2 k3 k4 k5
  go_wp2_with fail
  refine (own_any m _ _ HM2.out HL.out (fun d hd => by have := HBL.out d hd; omega)).mono ?_
  rintro e w3 ⟨v', G, rfl, hown, hG, hb⟩
  have hX3 := btrans HX2.out hb
  have hc0 : w3.cell? ⟨w.heap.size + 1, 0, none⟩ = some (.int .i64 0) := cell_stays hX3 (by simp)
  have hc1 : w3.cell? ⟨w.heap.size + 1, 1, none⟩ = some (.string ⟨#[]⟩) := cell_stays hX3 (by simp)
  have hc2 : w3.cell? ⟨w.heap.size + 1, 2, none⟩ = some (.int .i64 0) := cell_stays hX3 (by simp)
  have hlt : w.heap.size + 1 < w3.heap.size := World.block_lt_of_cell? _ _ hc0
  have hf0 : w3.frozen? ⟨w.heap.size + 1, 0, none⟩ = false := (hX3.frozen (by simp)).trans (by simp)
  have hf1 : w3.frozen? ⟨w.heap.size + 1, 1, none⟩ = false := (hX3.frozen (by simp)).trans (by simp)
  have hf2 : w3.frozen? ⟨w.heap.size + 1, 2, none⟩ = false := (hX3.frozen (by simp)).trans (by simp)
  have hlt2 := HX2.out.size
  have HR := Lib.hid (MOwn.fin hG (MOwn.set3 hown hG (b := w.heap.size + 1) (by simp at hlt2; omega) (.int .i64 F) (.string ⟨#[]⟩) (.int .i64 0)))
  have HB3 := Lib.hid (btrans HB2.out hb); clear hb hown hX3
  go_wp2_with fail
  refine bodyPost_ret (v := .tuple #[v', .agg #[.int .i64 F, .string ⟨#[]⟩, .int .i64 0]]) (by simp [results, Tryd.results10, go_sem, hc0, hc1, hc2]) rfl ⟨_, by rw [HDO.out, ← HF.out]; rfl, ?_, ?_⟩
  · rw [HDO.out]; exact HR.out.mono HB2.out.size
  · exact ((HB3.out.setCell (by simp) _).setCell (by simp) _).setCell (by simp) _
end Go.Proofs.YtgabifkechofnaaDoor
