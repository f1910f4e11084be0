/- The walks of the law's block, read and run. · The walks of the law's read and run. · The walk of the law's fixed calls. · Words for the walks of layer 19's laws: boxes of an act, what is read, a blank block. -/
import Derived.Test.YtgabifkechofnaaDoorModDo
import Derived.Test.YtgabifkechofnaaDoorMR1
import Derived.Laws.OwnMore
import Derived.Test.YtgabifkechofnaaDoorMX1
import Derived.Deep.RegionHeld3
namespace Go.Proofs.YtgabifkechofnaaDoor
open Go.RowKit

def blkB (c : UInt8) : ByteArray := ⟨(List.replicate 256 c).toArray⟩
def fillTo (c : UInt8) (k : Nat) : List UInt8 := List.replicate k c ++ List.replicate (256 - k) 0
theorem fillTo_len (c : UInt8) (k : Nat) (h : k ≤ 256) : (fillTo c k).length = 256 := by unfold fillTo; rw [List.length_append, List.length_replicate, List.length_replicate]; omega
theorem fillTo_set (c : UInt8) (k : Nat) (h : k < 256) : (bytesV (fillTo c k)).set k (.int .u8 (c.toNat : Nat)) = bytesV (fillTo c (k + 1)) := by
  unfold fillTo bytesV
  apply List.ext_getElem?
  intro i
  by_cases e : k = i
  · subst e
    rw [List.getElem?_set_self (by simp; omega), List.getElem?_map, List.getElem?_append_left (by simp), List.getElem?_replicate, if_pos (by omega)]; rfl
  · rw [List.getElem?_set_ne e, List.getElem?_map, List.getElem?_map]
    congr 1
    by_cases hi : i < k
    · rw [List.getElem?_append_left (by simpa using hi), List.getElem?_append_left (by simp; omega), List.getElem?_replicate, List.getElem?_replicate, if_pos hi, if_pos (by omega)]
    · rw [List.getElem?_append_right (by simp; omega), List.getElem?_append_right (by simp; omega), List.getElem?_replicate, List.getElem?_replicate]
      simp only [List.length_replicate]
      by_cases h2 : i < 256
      · rw [if_pos (by omega), if_pos (by omega)]
      · rw [if_neg (by omega), if_neg (by omega)]

theorem infoU8M : (Tryd.prog.info? 5).map (fun i => (i.zero, i.size, i.bytes)) = some (some (.int .u8 0), 1, 1) := by kernel_rfl
theorem zeros256 (c : UInt8) : (madeCells (Value.int .u8 0).cells (256 * 1)).toList = bytesV (fillTo c 0) := by
  have e1 : (madeCells (Value.int .u8 0).cells (256 * 1)).toList = List.replicate 256 (Value.int .u8 0) := by kernel_rfl
  have e2 : fillTo c 0 = List.replicate 256 0 := rfl
  rw [e1, e2]; unfold bytesV; rw [List.map_replicate]; rfl
theorem fill_all (c : UInt8) : fillTo c 256 = List.replicate 256 c := by unfold fillTo; rw [Nat.sub_self]; exact List.append_nil _
set_option maxRecDepth 100000 in
set_option maxHeartbeats 2000000 in
theorem block_any (c : UInt8) (n : Int) (hn : (c.toNat : Int) = n) (w : World) :
    Calls Tryd.prog 17 #[.int .u8 n] w fun e w' => e = .returned (.string (blkB c)) ∧ Below w.heap.size w w' := by
  have h0 : 0 ≤ n ∧ n ≤ 255 := by have := UInt8.toNat_lt c; omega
  obtain ⟨ha, hb⟩ := h0
  have HN := Lib.hid hn; clear hn
  obtain ⟨i0, hi, hz0, hz1, hz2⟩ := info_parts infoU8M
  obtain ⟨w1, hmk, hown0, hg0⟩ := run_make_full (P := Tryd.prog) w w.heap.size 36 5 i0 (.int .u8 0) 1 Tryd.underlying36 hi hz0 hz1 .i64 .i64 256 (by rw [hz2]; omega) (by unfold maxLen; omega) (Nat.le_refl _)
  rw [zeros256 c] at hown0
  have hmk' : (Instr.makeSlice 36 (.int .i64 256) (.int .i64 256)).run Tryd.prog w = .ok (.slice (some ⟨w.heap.size, 0, none⟩) 256 256) w1 := hmk
  clear hmk
  have hbel0 : Below w.heap.size w w1 := (Below.refl _ _).grown hg0 (Nat.le_refl _) (fun k e => by cases e)
  have HO := Lib.hid hown0; have HB := Lib.hid hbel0; clear hown0 hg0 hbel0
  go_enter Tryd.func17, Tryd.ntmps17
  go_wp2_with fail
  go_loopw [4] (fun i wr => ∃ k : Nat, k ≤ 256 ∧ i = .int .i64 k ∧ wr.ownsRow w.heap.size 5 1 (.slice (some ⟨w.heap.size, 0, none⟩) 256 256) 256 (bytesV (fillTo c k)) ∧ Below w.heap.size w wr) (fun i _ => 256 - (intOf i).toNat)
  case atStart => exact ⟨0, by omega, rfl, HO.out, HB.out⟩
  case round =>
    obtain ⟨k, hk, rfl, hown, hbw⟩ := hrel
    have HO2 := Lib.hid hown; have HB2 := Lib.hid hbw
    by_cases hlt : k < 256
    · have hki : (k : Int) < 256 := by omega
      have hlen : k < (bytesV (fillTo c k)).length := by rw [bytesV_length, fillTo_len c k hk]; exact hlt
      obtain ⟨u, hc⟩ : ∃ u, wr.cell? ⟨w.heap.size, k, none⟩ = some u := ⟨_, ow_cell hown k hlen⟩
      have hf := ow_free hown k
      clear hown hbw hlen
      go_wp2_with fail
      go_roundw
      case rel =>
        refine ⟨k + 1, by omega, by go_num, ?_, HB2.out.setCell (Nat.le_refl _) _⟩
        have := ow_set HO2.out k (.int .u8 n) (by rw [bytesV_length, fillTo_len c k hk]; exact hlt)
        rw [← HN.out, fillTo_set c k hlt] at this
        rw [← HN.out]; exact this
      case measure => simp [intOf]; omega
    · obtain rfl : k = 256 := by omega
      have hcv := ow_text (P := Tryd.prog) (src := 36) (dst := 9) (l := List.replicate 256 c) Tryd.underlying36 Tryd.underlying5 Tryd.underlying9 (g := w.heap.size) (cap := 256) (B := w.heap.size) (w := wr) (e := 5) (by rw [List.length_replicate]; rw [fill_all] at hown; exact hown)
      rw [List.length_replicate] at hcv
      clear hown hbw
      go_wp2_with fail
      go_ret
      exact ⟨rfl, HB2.out⟩
end Go.Proofs.YtgabifkechofnaaDoor
namespace Go.Proofs.YtgabifkechofnaaDoor
open Go.RowKit

def OpAt (b : Nat) (x : OpD) (w : World) : Prop := ∀ r u, x.cells[r]? = some u → w.cell? ⟨b, r, none⟩ = some u
set_option maxRecDepth 100000 in
set_option maxHeartbeats 2000000 in
theorem lread_any (m : List VolD) (x : OpD) (v : Value) (w : World) (hm : ModelAt w v m) (hl : m.length ≤ 1000) (hbl : ∀ d ∈ m, d.blocks.length ≤ 50000) (hp : Pow10 w) :
    Calls Tryd.prog 15 #[v, x.agg] w fun e w' => e = .returned (.tuple #[.string (doL m x).2.text, .int .i64 (doL m x).2.code]) ∧ Below w.heap.size w w' := by
  obtain ⟨ac, vo, de, bl, nn, tx⟩ := x
  have hbx := (Below.refl w.heap.size w).alloc (Nat.le_refl _) (.cells #[.int .i64 ac, .int .i64 vo, .int .i64 de, .int .i64 bl, .int .i64 nn, .string tx] 24)
  have HBX := Lib.hid hbx; have HM := Lib.hid (hm.stays hbx); have HL := Lib.hid hl; have HBL := Lib.hid hbl; have HP := Lib.hid (pow_stays hp hbx)
  obtain ⟨⟨co, te, nu⟩, ha⟩ : ∃ a, (doL m ⟨ac, vo, de, bl, nn, tx⟩).2 = a := ⟨_, rfl⟩
  have HA := Lib.hid ha
  obtain ⟨p, c, rfl, _, _, _⟩ := hm
  clear hbx hl hbl hp ha
  simp only [OpD.agg]
  go_enter Tryd.func15, Tryd.ntmps15
  go_wp2_with fail
  refine (do_any m ⟨ac, vo, de, bl, nn, tx⟩ _ _ HM.out HL.out HBL.out HP.out).mono ?_
  rintro e w1 ⟨v', rfl, _, hb⟩
  rw [HA.out]
  have HB := Lib.hid (btrans HBX.out hb); clear hb
  simp only [AnsM.agg]
  go_wp2_with fail
  go_quiet (fail)
  go_wp2_with fail
  go_ret2
  rw [HA.out]
  exact ⟨rfl, below_drewN' (HB.out.alloc HB.out.size _) _⟩

def runL (m : List VolD) (l : List OpD) : List VolD × AnsM := l.foldl (fun s x => doL s.1 x) (m, .zero)
theorem runL_snoc {m : List VolD} {l : List OpD} {k : Nat} {x : OpD} (h : l[k]? = some x) : runL m (l.take (k + 1)) = doL (runL m (l.take k)).1 x := by
  obtain ⟨hk, rfl⟩ := List.getElem?_eq_some_iff.1 h
  unfold runL
  rw [List.take_succ_eq_append_getElem hk, List.foldl_append]; rfl
/-- what is asked, as it lies behind an address -/
def OpsIn (w : World) (g : Nat) (l : List OpD) : Prop := ∀ i x, l[i]? = some x → ∀ r u, x.cells[r]? = some u → w.cell? ⟨g, i * 6 + r, none⟩ = some u
theorem OpsIn.stays {w w' : World} {g : Nat} {l : List OpD} (h : OpsIn w g l) (hb : Below w.heap.size w w') : OpsIn w' g l := fun i x hx r u hu => cell_stays hb (h i x hx r u hu)
/-- a model that stores into the two boxes do not turn -/
def MGood (w wr : World) (v : Value) (m : List VolD) : Prop := MFin (w.heap.size + 2) 41 56 wr v m ∨ ModelAt w v m
theorem MGood.reads {w wr : World} {v : Value} {m : List VolD} (h : MGood w wr v m) (hb : Below w.heap.size w wr) : ModelAt wr v m := by
  rcases h with h | h
  · exact h.reads
  · exact h.stays hb
theorem MGood.set {w wr : World} {v : Value} {m : List VolD} (h : MGood w wr v m) {a : Addr} (ha : a.block < w.heap.size + 2) (u : Value) : MGood w (wr.setCell a u) v m := by
  rcases h with h | h
  · exact .inl (h.setBelow ha u)
  · exact .inr h
theorem MGood.below {w wr w' : World} {v : Value} {m : List VolD} (h : MGood w wr v m) (hb : Below wr.heap.size wr w') : MGood w w' v m := by
  rcases h with h | h
  · exact .inl (h.below hb)
  · exact .inr h
def RunRel (m : List VolD) (l : List OpD) (w : World) (v i : Value) (wr : World) : Prop :=
  ∃ k : Nat, k ≤ l.length ∧ i = .int .i64 k ∧ MGood w wr v (runL m (l.take k)).1 ∧ FBox (w.heap.size + 1) (.int .i64 (runL m (l.take k)).2.code) (.string (runL m (l.take k)).2.text) (.int .i64 (runL m (l.take k)).2.n) wr ∧ FBox w.heap.size (.int .i64 0) (.string ⟨#[]⟩) (.int .i64 0) wr ∧ Below w.heap.size w wr
theorem FBox.set3 {b : Nat} {x y z x' y' z' : Value} {W : World} (h : FBox b x y z W) : FBox b x' y' z' (((W.setCell ⟨b, 0, none⟩ x').setCell ⟨b, 1, none⟩ y').setCell ⟨b, 2, none⟩ z') := by
  have h0 := h.c0; have h1 := h.c1; have h2 := h.c2; have f0 := h.f0; have f1 := h.f1; have f2 := h.f2
  have k0 := h.lt
  refine ⟨?_, ?_, ?_, by simpa using f0, by simpa using f1, by simpa using f2⟩
  · rw [World.cell?_setCell_other _ _ _ _ (by simp), World.cell?_setCell_other _ _ _ _ (by simp)]; exact World.cell?_setCell_same _ _ _ h0
  · rw [World.cell?_setCell_other _ _ _ _ (by simp)]; exact World.cell?_setCell_same _ _ _ ((World.cell?_setCell_other _ _ _ _ (by simp)).trans h1)
  · exact World.cell?_setCell_same _ _ _ ((World.cell?_setCell_other _ _ _ _ (by simp)).trans ((World.cell?_setCell_other _ _ _ _ (by simp)).trans h2))

set_option maxRecDepth 100000 in
set_option maxHeartbeats 4000000 in
theorem lrun_any (m : List VolD) (l : List OpD) (v : Value) (g : Nat) (w : World) (hm : ModelAt w v m) (hops : OpsIn w g l) (hll : l.length ≤ 1000)
    (hsm : ∀ k, k ≤ l.length → (runL m (l.take k)).1.length ≤ 1000 ∧ ∀ d ∈ (runL m (l.take k)).1, d.blocks.length ≤ 50000) (hp : Pow10 w) :
    Calls Tryd.prog 18 #[v, .slice (some ⟨g, 0, none⟩) l.length l.length] w fun e w' => ∃ v', e = .returned (.tuple #[v', (runL m l).2.agg]) ∧ ModelAt w' v' (runL m l).1 ∧ Below w.heap.size w w' := by
  have HM := Lib.hid hm; have HO := Lib.hid hops; have HS := Lib.hid hsm; have HP := Lib.hid hp
  have hlen : (l.length : Int) ≤ 1000 := by omega
  clear hm hops hsm hp hll
  go_enter Tryd.func18, Tryd.ntmps18
  go_wp2_with fail
  go_loopw [0, 7] (fun v i wr => RunRel m l w v i wr) (fun _ i _ => l.length - (intOf i).toNat)
  case atStart =>
    have b1 : Below w.heap.size w (w.alloc (.cells #[.int .i64 0, .string ⟨#[]⟩, .int .i64 0] 29)) := (Below.refl _ _).alloc (Nat.le_refl _) _
    have b2 := btrans b1 ((Below.refl _ _).alloc (Nat.le_refl _) (.cells #[.int .i64 0, .string ⟨#[]⟩, .int .i64 0] 29))
    exact ⟨0, Nat.zero_le _, rfl, .inr HM.out, FBox.new _ (by simp), (FBox.new _ rfl).below ((Below.refl _ _).alloc (Nat.le_refl _) _), b2⟩
  case round =>
    obtain ⟨k, hk, rfl, hmod, hbx, hres, hb⟩ := hrel
    have HMO := Lib.hid hmod; have HBX := Lib.hid hbx; have HRS := Lib.hid hres; have HB := Lib.hid hb
    obtain ⟨p, c, rfl, _, _, _⟩ := hmod.reads hb
    have x0 := hbx.c0; have x1 := hbx.c1; have x2 := hbx.c2; have f0 := hbx.f0; have f1 := hbx.f1; have f2 := hbx.f2
    have hlt1 := hbx.lt
    clear hbx hmod hb
    by_cases hlt : k < l.length
    case neg =>
      obtain rfl : k = l.length := by omega
      have r0 := hres.c0; have r1 := hres.c1; have r2 := hres.c2; have s0 := hres.f0; have s1 := hres.f1; have s2 := hres.f2
      clear hres
      go_wp2_with fail
      go_region
      go_wp2_with fail
      have hlr := HRS.out.lt
      refine bodyPost_ret (v := .tuple #[.slice p (runL m (l.take l.length)).1.length c, (runL m (l.take l.length)).2.agg]) (by simp [results, Tryd.results18, go_sem, r0, r1, r2, AnsM.agg]) rfl ⟨_, by rw [List.take_length], ?_, ?_⟩
      · have hg := (((HMO.out.set (a := ⟨w.heap.size, 0, none⟩) (by show w.heap.size < w.heap.size + 2; omega) (.int .i64 (runL m (l.take l.length)).2.code)).set (a := ⟨w.heap.size, 1, none⟩) (by show w.heap.size < w.heap.size + 2; omega) (.string (runL m (l.take l.length)).2.text)).set (a := ⟨w.heap.size, 2, none⟩) (by show w.heap.size < w.heap.size + 2; omega) (.int .i64 (runL m (l.take l.length)).2.n)).below ((Below.refl _ _).drew)
        have hr := hg.reads ((((HB.out.setCell (Nat.le_refl _) _).setCell (Nat.le_refl _) _).setCell (Nat.le_refl _) _).drew)
        simp only [List.take_length] at hr ⊢
        exact hr
      · exact (((HB.out.setCell (Nat.le_refl _) _).setCell (Nat.le_refl _) _).setCell (Nat.le_refl _) _).drew
    clear hres
    have hki : (k : Int) < (l.length : Int) := by omega
    obtain ⟨⟨ac, vo, de, bl, nn, tx⟩, hx⟩ : ∃ x, l[k]? = some x := ⟨_, List.getElem?_eq_getElem hlt⟩
    have hcc := HO.out.stays HB.out k _ hx
    have q0 : wr.cell? ⟨g, k * 6, none⟩ = some (.int .i64 ac) := hcc 0 _ rfl
    have q1 := hcc 1 _ rfl
    have q2 := hcc 2 _ rfl
    have q3 := hcc 3 _ rfl
    have q4 := hcc 4 _ rfl
    have q5 := hcc 5 _ rfl
    have HSN := Lib.hid (runL_snoc (m := m) hx)
    have HMR := Lib.hid (HMO.out.reads HB.out)
    have HSK := Lib.hid (HS.out k hk)
    clear hcc hx
    go_wp2_with fail
    refine (do_any _ ⟨ac, vo, de, bl, nn, tx⟩ _ _ HMR.out HSK.out.1 HSK.out.2 (pow_stays HP.out HB.out)).mono ?_
    rintro e w1 ⟨v', rfl, hfin, hb⟩
    rw [← HSN.out]
    rw [← HSN.out] at hfin
    obtain ⟨⟨co, te, nu⟩, ha⟩ : ∃ a, (runL m (l.take (k + 1))).2 = a := ⟨_, rfl⟩
    rw [ha]
    have HA := Lib.hid ha; have HFI := Lib.hid (MFin.mono (show w.heap.size + 2 ≤ wr.heap.size by omega) hfin); have HX1 := Lib.hid (HBX.out.below hb); have HR1 := Lib.hid (HRS.out.below hb)
    have HB1 := Lib.hid (HB.out.trans (hb.mono HB.out.size))
    clear ha hfin x0 x1 x2 f0 f1 f2 q0 q1 q2 q3 q4 q5
    have x0 := HX1.out.c0; have x1 := HX1.out.c1; have x2 := HX1.out.c2; have f0 := HX1.out.f0; have f1 := HX1.out.f1; have f2 := HX1.out.f2
    have hlt2 := HX1.out.lt
    have hne : w1.heap.size ≠ w.heap.size + 1 := by omega
    clear hb
    simp only [AnsM.agg]
    go_wp2_with fail
    go_roundw
    case rel =>
      refine ⟨k + 1, by omega, by go_num, ?_, ?_, ?_, ?_⟩
      · refine .inl ?_
        repeat (first | exact HFI.out | (refine MFin.setBelow ?_ (show w.heap.size + 1 < w.heap.size + 2 by omega) _) | refine MFin.below ?_ ((Below.refl _ _).alloc (Nat.le_refl _) _))
      · rw [HA.out]
        first | exact (HX1.out.below ((Below.refl _ _).alloc (Nat.le_refl _) _)).set3 | exact HX1.out.set3.below ((Below.refl _ _).alloc (Nat.le_refl _) _)
      · repeat (first | exact HR1.out | (refine FBox.far ?_ (show w.heap.size + 1 ≠ w.heap.size by omega) _) | refine FBox.below ?_ ((Below.refl _ _).alloc (Nat.le_refl _) _))
      · repeat (first | exact HB1.out | (refine Below.setCell ?_ (show w.heap.size ≤ w.heap.size + 1 by omega) _) | refine Below.alloc ?_ (by simpa using HB1.out.size) _)
    case measure => simp [intOf]; omega
end Go.Proofs.YtgabifkechofnaaDoor
namespace Go.Proofs.YtgabifkechofnaaDoor
open Go.RowKit

theorem fold_fst (l : List OpD) (m : List VolD) (a b : AnsM) : (l.foldl (fun s x => doL s.1 x) (m, a)).1 = (l.foldl (fun s x => doL s.1 x) (m, b)).1 := by
  cases l with
  | nil => rfl
  | cons x l => rfl
theorem runL_ok : ∀ (l : List OpD) (m : List VolD) (n : Nat), MayP m → (∀ d ∈ m, d.blocks.length ≤ n) → MayP (runL m l).1 ∧ ∀ d ∈ (runL m l).1, d.blocks.length ≤ n + l.length
  | [], m, n, hm, hb => ⟨hm, fun d hd => by have := hb d hd; simp; omega⟩
  | x :: l, m, n, hm, hb => by
    have h := runL_ok l (doL m x).1 (n + 1) (doL_may hm x) (doL_len hm x n hb)
    have e : (runL m (x :: l)).1 = (runL (doL m x).1 l).1 := by
      unfold runL; rw [List.foldl_cons]; exact fold_fst l _ _ _
    rw [e]
    exact ⟨h.1, fun d hd => by have := h.2 d hd; simp only [List.length_cons]; omega⟩
def fixOps : List OpD := [⟨0, 1, 0, 0, 4, ⟨#[]⟩⟩, ⟨4, 1, 0, 2, 0, blkB 7⟩, ⟨6, 1, 2, 0, 0, ⟨#[]⟩⟩, ⟨4, 1, 0, 2, 0, blkB 8⟩]
def fixM : List VolD := [⟨1, 4, [⟨2, blkB 8⟩]⟩, ⟨2, 4, [⟨2, blkB 7⟩]⟩]
theorem fix_run : runL [] fixOps = (fixM, .zero) := by kernel_rfl
theorem fix_b : (doL fixM ⟨3, 2, 0, 2, 0, ⟨#[]⟩⟩).2 = ⟨0, blkB 7, 0⟩ := by kernel_rfl
theorem fix_c : (doL fixM ⟨3, 1, 0, 2, 0, ⟨#[]⟩⟩).2 = ⟨0, blkB 8, 0⟩ := by kernel_rfl
theorem fix_d : (doL fixM ⟨3, 1, 0, 4, 0, ⟨#[]⟩⟩).2 = ⟨191, ⟨#[]⟩, 0⟩ := by kernel_rfl
theorem fix_e : (doL fixM ⟨8, 0, 0, 0, 0, ⟨#[]⟩⟩).2 = ⟨0, ⟨#[49, 58, 52, 58, 49, 32, 50, 58, 52, 58, 49]⟩, 2⟩ := by kernel_rfl
theorem fix_may : mayL fixM = true := by kernel_rfl
theorem fix_no : mayL [⟨0, 0, []⟩] = false := by kernel_rfl
theorem OpsIn.new (w : World) (l : List OpD) (T : TypeId) : OpsIn (w.alloc (.cells (l.map OpD.cells).flatten.toArray T)) w.heap.size l := by
  intro i x hx r u hu
  rw [World.cell?_alloc_at _ _ _ _ rfl]
  have hr : r < 6 := (List.getElem?_eq_some_iff.1 hu).1
  have hall : AllLen 6 (l.map OpD.cells) := by
    intro c hc
    obtain ⟨y, _, rfl⟩ := List.mem_map.1 hc
    rfl
  have h2 : (l.map OpD.cells)[i]? = some x.cells := by rw [List.getElem?_map, hx]; rfl
  show (l.map OpD.cells).flatten.toArray[i * 6 + r]? = some u
  rw [List.getElem?_toArray, flat_get hall h2 hr]; exact hu
theorem model_nil (w : World) : ModelAt w (.slice none 0 0) [] := ⟨none, 0, rfl, Nat.le_refl _, Nat.zero_le _, fun i d hd => by simp at hd⟩
theorem model_zero (w : World) : ModelAt (w.alloc (.cells #[.int .i64 0, .int .i64 0, .slice none 0 0] 41)) (.slice (some ⟨w.heap.size, 0, none⟩) 1 1) [⟨0, 0, []⟩] := by
  refine ⟨_, 1, rfl, Nat.le_refl _, by unfold maxLen; omega, fun i d hd => ?_⟩
  cases i with
  | succ i => simp at hd
  | zero =>
    simp only [List.getElem?_cons_zero, Option.some.injEq] at hd
    subst hd
    refine ⟨_, _, none, 0, rfl, ?_, ?_, ?_, Nat.le_refl _, Nat.zero_le _, fun i d hd => by simp at hd⟩
    · rw [World.cell?_alloc_at _ _ _ _ rfl]; rfl
    · rw [World.cell?_alloc_at _ _ _ _ rfl]; rfl
    · rw [World.cell?_alloc_at _ _ _ _ rfl]; rfl
theorem run_small : ∀ k, k ≤ fixOps.length → (runL [] (fixOps.take k)).1.length ≤ 1000 ∧ ∀ d ∈ (runL [] (fixOps.take k)).1, d.blocks.length ≤ 50000 := by
  intro k hk
  have hm : MayP [] := ⟨Nat.zero_le _, List.Pairwise.nil, fun d hd => by simp at hd⟩
  have h := runL_ok (fixOps.take k) [] 0 hm (fun d hd => by simp at hd)
  refine ⟨by have := h.1.len; omega, fun d hd => ?_⟩
  have := h.2 d hd
  have e4 : fixOps.length = 4 := rfl
  rw [List.length_take, e4] at this
  omega
theorem fix_small : fixM.length ≤ 1000 ∧ ∀ d ∈ fixM, d.blocks.length ≤ 50000 := by
  have h := run_small 4 (by decide)
  have e : fixOps.take 4 = fixOps := rfl
  rw [e, fix_run] at h; exact h

/-- what the law's last statement holds of the world -/
def FxS (w : World) (v : Value) (b3 b5 b7 b9 b11 : Nat) (w' : World) : Prop :=
  ModelAt w' v fixM ∧ Below w.heap.size w w' ∧ w'.cell? ⟨b3, 0, none⟩ = some (.int .i64 0) ∧ w'.cell? ⟨b5, 1, none⟩ = some (.string (blkB 7)) ∧ w'.cell? ⟨b7, 1, none⟩ = some (.string (blkB 8)) ∧ w'.cell? ⟨b9, 0, none⟩ = some (.int .i64 191) ∧ w'.cell? ⟨b11, 1, none⟩ = some (.string ⟨#[49, 58, 52, 58, 49, 32, 50, 58, 52, 58, 49]⟩) ∧ w'.cell? ⟨b11, 2, none⟩ = some (.int .i64 2)
theorem FxS.next {w : World} {v : Value} {b3 b5 b7 b9 b11 : Nat} {W W' : World} (h : FxS w v b3 b5 b7 b9 b11 W) (hb : Below W.heap.size W W') : FxS w v b3 b5 b7 b9 b11 W' := by
  obtain ⟨h1, h2, h3, h4, h5, h6, h7, h8⟩ := h
  exact ⟨h1.stays hb, h2.trans (hb.mono h2.size), cell_stays hb h3, cell_stays hb h4, cell_stays hb h5, cell_stays hb h6, cell_stays hb h7, cell_stays hb h8⟩

set_option maxRecDepth 100000 in
set_option maxHeartbeats 8000000 in
theorem fixed_any (w : World) (hp : Pow10 w) : Calls Tryd.prog 9 #[] w fun e w' => e = .returned (.bool true) ∧ Below w.heap.size w w' := by
  have HP := Lib.hid hp; clear hp
  go_enter Tryd.func9, Tryd.ntmps9
  go_wp2_with fail
  refine (block_any 7 7 rfl _).mono ?_
  rintro e w1 ⟨rfl, hb⟩
  have HB1 := Lib.hid hb; clear hb
  go_wp2_with fail
  refine (block_any 8 8 rfl _).mono ?_
  rintro e w2 ⟨rfl, hb⟩
  have HB2 := Lib.hid (btrans HB1.out hb); clear hb
  go_wp2_with fail
  have hbox := (Below.refl w2.heap.size w2).alloc (Nat.le_refl _) (.cells (fixOps.map OpD.cells).flatten.toArray 24)
  have HBX := Lib.hid hbox; have HB3 := Lib.hid (btrans HB2.out hbox); clear hbox
  refine (lrun_any [] fixOps (.slice none 0 0) w2.heap.size _ (model_nil _) (OpsIn.new _ fixOps _) (by decide) run_small (pow_stays HP.out HB3.out)).mono ?_
  rintro e w3 ⟨v', rfl, hm, hb⟩
  rw [fix_run] at hm ⊢
  simp only [AnsM.agg, AnsM.zero] at hm ⊢
  have HM := Lib.hid hm; have HB4 := Lib.hid (btrans HB3.out hb); clear hb
  obtain ⟨p, c, rfl, _, _, _⟩ := hm
  have hb := HB4.out.alloc HB4.out.size (.cells #[.int .i64 0, .string ⟨#[]⟩, .int .i64 0] 29)
  have HB5 := Lib.hid hb; clear hb
  have HM5 := Lib.hid (HM.out.stays ((Below.refl w3.heap.size w3).alloc (Nat.le_refl _) (.cells #[.int .i64 0, .string ⟨#[]⟩, .int .i64 0] 29)))
  go_wp2_with fail
  refine (do_any fixM ⟨3, 2, 0, 2, 0, ⟨#[]⟩⟩ _ _ HM5.out fix_small.1 fix_small.2 (pow_stays HP.out HB5.out)).mono ?_
  rintro e w4 ⟨vw4, rfl, _, hb⟩
  rw [fix_b]
  simp only [AnsM.agg]
  have HB60 := Lib.hid (btrans HB5.out hb); have HM60 := Lib.hid (HM5.out.stays hb)
  have HXw4 := Lib.hid hb; clear hb
  have HB6 := Lib.hid (HB60.out.alloc HB60.out.size (.cells #[.int .i64 0, .string (blkB 7), .int .i64 0] 29)); have HM6 := Lib.hid (HM60.out.stays ((Below.refl w4.heap.size w4).alloc (Nat.le_refl _) (.cells #[.int .i64 0, .string (blkB 7), .int .i64 0] 29)))
  go_wp2_with fail
  refine (do_any fixM ⟨3, 1, 0, 2, 0, ⟨#[]⟩⟩ _ _ HM6.out fix_small.1 fix_small.2 (pow_stays HP.out HB6.out)).mono ?_
  rintro e w5 ⟨vw5, rfl, _, hb⟩
  rw [fix_c]
  simp only [AnsM.agg]
  have HB70 := Lib.hid (btrans HB6.out hb); have HM70 := Lib.hid (HM6.out.stays hb)
  have HXw5 := Lib.hid hb; clear hb
  have HB7 := Lib.hid (HB70.out.alloc HB70.out.size (.cells #[.int .i64 0, .string (blkB 8), .int .i64 0] 29)); have HM7 := Lib.hid (HM70.out.stays ((Below.refl w5.heap.size w5).alloc (Nat.le_refl _) (.cells #[.int .i64 0, .string (blkB 8), .int .i64 0] 29)))
  go_wp2_with fail
  refine (do_any fixM ⟨3, 1, 0, 4, 0, ⟨#[]⟩⟩ _ _ HM7.out fix_small.1 fix_small.2 (pow_stays HP.out HB7.out)).mono ?_
  rintro e w6 ⟨vw6, rfl, _, hb⟩
  rw [fix_d]
  simp only [AnsM.agg]
  have HB80 := Lib.hid (btrans HB7.out hb); have HM80 := Lib.hid (HM7.out.stays hb)
  have HXw6 := Lib.hid hb; clear hb
  have HB8 := Lib.hid (HB80.out.alloc HB80.out.size (.cells #[.int .i64 191, .string (⟨#[]⟩), .int .i64 0] 29)); have HM8 := Lib.hid (HM80.out.stays ((Below.refl w6.heap.size w6).alloc (Nat.le_refl _) (.cells #[.int .i64 191, .string (⟨#[]⟩), .int .i64 0] 29)))
  go_wp2_with fail
  refine (do_any fixM ⟨8, 0, 0, 0, 0, ⟨#[]⟩⟩ _ _ HM8.out fix_small.1 fix_small.2 (pow_stays HP.out HB8.out)).mono ?_
  rintro e w7 ⟨vw7, rfl, _, hb⟩
  rw [fix_e]
  simp only [AnsM.agg]
  have HB90 := Lib.hid (btrans HB8.out hb); have HM90 := Lib.hid (HM8.out.stays hb)
  have HXw7 := Lib.hid hb; clear hb
  have HB9 := Lib.hid (HB90.out.alloc HB90.out.size (.cells #[.int .i64 0, .string (⟨#[49, 58, 52, 58, 49, 32, 50, 58, 52, 58, 49]⟩), .int .i64 2] 29)); have HM9 := Lib.hid (HM90.out.stays ((Below.refl w7.heap.size w7).alloc (Nat.le_refl _) (.cells #[.int .i64 0, .string (⟨#[49, 58, 52, 58, 49, 32, 50, 58, 52, 58, 49]⟩), .int .i64 2] 29)))
  have k3 : w7.cell? ⟨w3.heap.size, 0, none⟩ = some (.int .i64 0) := cell_stays HXw7.out (cell_stays ((Below.refl _ _).alloc (Nat.le_refl _) _) (cell_stays HXw6.out (cell_stays ((Below.refl _ _).alloc (Nat.le_refl _) _) (cell_stays HXw5.out (cell_stays ((Below.refl _ _).alloc (Nat.le_refl _) _) (cell_stays HXw4.out (by simp)))))))
  have k4 : w7.cell? ⟨w4.heap.size, 1, none⟩ = some (.string (blkB 7)) := cell_stays HXw7.out (cell_stays ((Below.refl _ _).alloc (Nat.le_refl _) _) (cell_stays HXw6.out (cell_stays ((Below.refl _ _).alloc (Nat.le_refl _) _) (cell_stays HXw5.out (by simp)))))
  have k5 : w7.cell? ⟨w5.heap.size, 1, none⟩ = some (.string (blkB 8)) := cell_stays HXw7.out (cell_stays ((Below.refl _ _).alloc (Nat.le_refl _) _) (cell_stays HXw6.out (by simp)))
  have k6 : w7.cell? ⟨w6.heap.size, 0, none⟩ = some (.int .i64 191) := cell_stays HXw7.out (by simp)
  have hal := (Below.refl w7.heap.size w7).alloc (Nat.le_refl _) (.cells #[.int .i64 0, .string ⟨#[49, 58, 52, 58, 49, 32, 50, 58, 52, 58, 49]⟩, .int .i64 2] 29)
  have HF := Lib.hid (show FxS w (.slice p fixM.length c) w3.heap.size w4.heap.size w5.heap.size w6.heap.size w7.heap.size (w7.alloc (.cells #[.int .i64 0, .string ⟨#[49, 58, 52, 58, 49, 32, 50, 58, 52, 58, 49]⟩, .int .i64 2] 29)) from
    ⟨HM9.out, HB9.out, cell_stays hal k3, cell_stays hal k4, cell_stays hal k5, cell_stays hal k6, by simp, by simp⟩)
  clear k3 k4 k5 k6 hal
  go_wp2_with fail
  go_region_held3 (fun w' => ModelAt w' (.slice p fixM.length c) fixM ∧ Below w.heap.size w w' ∧ w'.cell? ⟨w3.heap.size, 0, none⟩ = some (.int .i64 0) ∧ w'.cell? ⟨w4.heap.size, 1, none⟩ = some (.string (blkB 7)) ∧ w'.cell? ⟨w5.heap.size, 1, none⟩ = some (.string (blkB 8)) ∧ w'.cell? ⟨w6.heap.size, 0, none⟩ = some (.int .i64 191) ∧ w'.cell? ⟨w7.heap.size, 1, none⟩ = some (.string ⟨#[49, 58, 52, 58, 49, 32, 50, 58, 52, 58, 49]⟩) ∧ w'.cell? ⟨w7.heap.size, 2, none⟩ = some (.int .i64 2))
    (first | exact HF.out.next (Below.refl _ _).drew | (refine FxS.next ?_ (show Below _ _ _ by assumption); assumption) | (refine FxS.next ?_ ((Below.refl _ _).alloc (Nat.le_refl _) _); assumption))
    (first
      | (go_at_call 17; (with_reducible refine (block_any 7 7 rfl _).mono ?_); rintro e w8 ⟨rfl, hb⟩)
      | (go_at_call 17; (with_reducible refine (block_any 8 8 rfl _).mono ?_); rintro e w8 ⟨rfl, hb⟩)
      | (go_at_call 12; (with_reducible refine (may_any fixM _ _ (show ModelAt _ _ fixM ∧ _ by assumption).1).mono ?_); rw [fix_may]; rintro e w8 ⟨rfl, hb⟩)
      | (go_at_call 12; (with_reducible refine (may_any [⟨0, 0, []⟩] _ _ (model_zero _)).mono ?_); rw [fix_no]; rintro e w8 ⟨rfl, hb⟩))
  go_wp2_with fail
  go_ret
  exact ⟨rfl, (show ModelAt _ _ fixM ∧ Below _ _ _ ∧ _ by assumption).2.1⟩
end Go.Proofs.YtgabifkechofnaaDoor
namespace Go.Proofs.YtgabifkechofnaaDoor
open Go.RowKit

theorem smallP {m : List VolD} (h : smallB m = true) : m.length ≤ 1000 ∧ ∀ d ∈ m, d.blocks.length ≤ 60 := by
  unfold smallB at h
  rw [Bool.and_eq_true, List.all_eq_true, decide_eq_true_eq] at h
  exact ⟨by omega, fun d hd => by simpa using h.1 d hd⟩
theorem mayLen {m : List VolD} (h : MayP m) : m.length ≤ 1000 := Nat.le_trans h.len (by omega)
theorem lread3 (m : List VolD) (hmp : MayP m) (vo de bl nn : Int) (tx : ByteArray) (v : Value) (w : World) (hm : ModelAt w v m) (hbl : ∀ d ∈ m, d.blocks.length ≤ 50000) (hp : Pow10 w) :
    Calls Tryd.prog 15 #[v, .agg #[.int .i64 3, .int .i64 vo, .int .i64 de, .int .i64 bl, .int .i64 nn, .string tx]] w fun e w' => e = .returned (.tuple #[.string (rd m vo bl).2, .int .i64 (rd m vo bl).1]) ∧ Below w.heap.size w w' :=
  (lread_any m ⟨3, vo, de, bl, nn, tx⟩ v w hm (mayLen hmp) hbl hp).mono fun e w' ⟨h1, h2⟩ => ⟨by rw [h1, doL_read hmp], h2⟩
/-- the six cells of an act, which may be written -/
structure OBox (b : Nat) (x : OpD) (W : World) : Prop where
  c : ∀ r u, x.cells[r]? = some u → W.cell? ⟨b, r, none⟩ = some u
  f : ∀ r, r < 6 → W.frozen? ⟨b, r, none⟩ = false
theorem OBox.lt {b : Nat} {x : OpD} {W : World} (h : OBox b x W) : b < W.heap.size := World.block_lt_of_cell? W _ (h.c 0 _ rfl)
theorem OBox.below {b : Nat} {x : OpD} {W W' : World} (h : OBox b x W) (hb : Below W.heap.size W W') : OBox b x W' :=
  ⟨fun r u hu => cell_stays hb (h.c r u hu), fun r hr => (hb.frozen (p := ⟨b, r, none⟩) h.lt).trans (h.f r hr)⟩
theorem OBox.far {b : Nat} {x : OpD} {W : World} (h : OBox b x W) {p : Addr} (hp : p.block ≠ b) (u : Value) : OBox b x (W.setCell p u) :=
  ⟨fun r v hv => (World.cell?_setCell_far _ _ _ _ hp).trans (h.c r v hv), fun r hr => (World.frozen?_setCell _ _ _ _).trans (h.f r hr)⟩
theorem OBox.set {b : Nat} {x y : OpD} {W : World} (h : OBox b x W) (k : Nat) (z : Value) (hy : y.cells = x.cells.set k z) : OBox b y (W.setCell ⟨b, k, none⟩ z) := by
  refine ⟨fun r u hu => ?_, fun r hr => (World.frozen?_setCell _ _ _ _).trans (h.f r hr)⟩
  rw [hy] at hu
  by_cases e : k = r
  · subst e
    have hk : k < x.cells.length := by have := (List.getElem?_eq_some_iff.1 hu).1; rwa [List.length_set] at this
    rw [List.getElem?_set_self hk] at hu
    cases hu
    exact World.cell?_setCell_same _ _ _ (h.c k _ (List.getElem?_eq_getElem hk))
  · rw [List.getElem?_set_ne e] at hu
    exact (World.cell?_setCell_other _ _ _ _ (fun hh => e (by injection hh))).trans (h.c r u hu)
theorem OBox.new {b : Nat} (x : OpD) {W : World} (t : TypeId) (hb : W.heap.size = b) : OBox b x (W.alloc (.cells #[.int .i64 x.act, .int .i64 x.vol, .int .i64 x.dest, .int .i64 x.block, .int .i64 x.n, .string x.text] t)) := by
  subst hb
  refine ⟨fun r u hu => ?_, fun r hr => by simp⟩
  rw [World.cell?_alloc_at _ _ _ _ rfl]
  show (x.cells.toArray)[r]? = some u
  rw [List.getElem?_toArray]; exact hu
/-- a block of bytes 0, made on the spot -/
theorem blank_make (W : World) : ∃ W', (Instr.makeSlice 36 (.int .i64 256) (.int .i64 256)).run Tryd.prog W = .ok (.slice (some ⟨W.heap.size, 0, none⟩) 256 256) W' ∧
    (convert 36 9 (.slice (some ⟨W.heap.size, 0, none⟩) 256 256)).run Tryd.prog W' = .ok (.string blankB) W' ∧ Below W.heap.size W W' := by
  obtain ⟨i0, hi, hz0, hz1, hz2⟩ := info_parts infoU8M
  obtain ⟨w1, hmk, hown0, hg0⟩ := run_make_full (P := Tryd.prog) W W.heap.size 36 5 i0 (.int .u8 0) 1 Tryd.underlying36 hi hz0 hz1 .i64 .i64 256 (by rw [hz2]; omega) (by unfold maxLen; omega) (Nat.le_refl _)
  rw [zeros256 0] at hown0
  have hcv := ow_text (P := Tryd.prog) (src := 36) (dst := 9) (l := List.replicate 256 0) Tryd.underlying36 Tryd.underlying5 Tryd.underlying9 (g := W.heap.size) (cap := 256) (B := W.heap.size) (w := w1) (e := 5) (by rw [List.length_replicate]; exact hown0)
  rw [List.length_replicate] at hcv
  exact ⟨w1, hmk, hcv, (Below.refl _ _).grown hg0 (Nat.le_refl _) (fun k e => by cases e)⟩
end Go.Proofs.YtgabifkechofnaaDoor
