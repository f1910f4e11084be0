/- The walks of the reference's Blank, Read and Status. · What the model does, act by act, in the reference's words. No program in sight. · The walk of the reference's Do: it is the model's. Printed by gen_mrdo.py. · The walk of the reference's Do, act 0. Printed by gen_mrdo.py. · The walk of the reference's Do, act 1. Printed by gen_mrdo.py. · The walk of the reference's Do, act 2. Printed by gen_mrdo.py. · The walk of the reference's Do, act 3. Printed by gen_mrdo.py. · The walk of the reference's Do, act 4. Printed by gen_mrdo.py. · The walk of the reference's Do, act 5. Printed by gen_mrdo.py. · The walk of the reference's Do, act 6. Printed by gen_mrdo.py. · The walk of the reference's Do, act 7. Printed by gen_mrdo.py. · The walk of the reference's Do, act 8. Printed by gen_mrdo.py. · The walk of the reference's Do, act 9. Printed by gen_mrdo.py. · The walk of the reference's Do, of every act. -/
import Derived.Test.YtgabifkechofnaaDoorML1
import Derived.Test.YtgabifkechofnaaDoorDigits
import Derived.Deep.QuietTactic
import Derived.BigQuiet
import Derived.Test.YtgabifkechofnaaDoorMX1
import Derived.Test.YtgabifkechofnaaDoorMR1
import Derived.Test.YtgabifkechofnaaDoorMRW
import Derived.Deep.Cut
namespace Go.Proofs.YtgabifkechofnaaDoor
open Go.RowKit

theorem rblank_any (w : World) : Calls Tryd.prog 48 #[] w fun e w' => e = .returned (.string blankB) ∧ Below w.heap.size w w' := by
  obtain ⟨W9, hmk, hcv, hb9⟩ := blank_make w
  have HB := Lib.hid hb9; clear hb9
  go_enter Tryd.func48, Tryd.ntmps48
  go_wp2_with fail
  go_ret
  exact ⟨rfl, HB.out⟩

set_option maxRecDepth 100000 in
set_option maxHeartbeats 2000000 in
theorem rread_any (d : VolD) (at_ : Int) (dp : Option Addr) (dc : Nat) (w : World) (hin : BlksIn w dp d.blocks) (hl : d.blocks.length ≤ 100000) :
    Calls Tryd.prog 33 #[.agg #[.int .i64 d.id, .int .i64 d.size, .slice dp d.blocks.length dc], .int .i64 at_] w fun e w' => e = .returned (.string (textL d.blocks at_)) ∧ Below w.heap.size w w' := by
  have hlen : (d.blocks.length : Int) ≤ 100000 := by omega
  obtain ⟨id, sz, bl⟩ := d
  have hb1 : Below w.heap.size w (w.alloc (.cells #[.int .i64 id, .int .i64 sz, .slice dp bl.length dc] 41)) := (Below.refl _ _).alloc (Nat.le_refl _) _
  have HIN := Lib.hid (hin.stays hb1); have HB := Lib.hid hb1
  clear hin hb1 hl
  simp only at HIN hlen ⊢
  go_enter Tryd.func33, Tryd.ntmps33
  go_wp2_with fail
  go_loop [5] (fun i => ∃ k : Nat, k ≤ bl.length ∧ i = .int .i64 k ∧ (∀ j, j < k → ∀ d, bl[j]? = some d → d.pos ≠ at_)) (fun i => bl.length - (intOf i).toNat)
  case atStart => exact ⟨0, Nat.zero_le _, rfl, fun j hj => by omega⟩
  case round =>
    obtain ⟨k, hk, rfl, hno⟩ := hrel
    have HNO := Lib.hid hno
    clear hno
    by_cases hlt : k < bl.length
    · have hki : (k : Int) < (bl.length : Int) := by omega
      obtain ⟨b, hb⟩ : ∃ b, bl[k]? = some b := ⟨_, List.getElem?_eq_getElem hlt⟩
      obtain ⟨g, o, rfl, h0, h1⟩ := HIN.out k b hb
      have HD := Lib.hid hb; clear hb
      by_cases he : b.pos = at_
      · have hbe : (b.pos == at_) = true := by simpa using he
        have HE := Lib.hid he; clear he
        go_wp2_with fail
        go_ret
        exact ⟨ret_str (textL_some HD.out HE.out HNO.out).symm, HB.out⟩
      · have hbe : (b.pos == at_) = false := by simpa using he
        have HE := Lib.hid he; clear he
        go_wp2_with fail
        go_round
        case rel =>
          refine ⟨k + 1, by omega, by go_num, fun j hj d hd => ?_⟩
          by_cases e : j = k
          · subst e; rw [HD.out] at hd; cases hd; exact HE.out
          · exact HNO.out j (by omega) d hd
        case measure => simp [intOf]; omega
    · obtain rfl : k = bl.length := by omega
      have HT := Lib.hid (textL_none HNO.out)
      go_wp2_with fail
      refine (rblank_any _).mono ?_
      rintro e w2 ⟨rfl, hb2⟩
      have HB2 := Lib.hid (btrans HB.out hb2); clear hb2
      go_wp2_with fail
      go_ret
      exact ⟨ret_str HT.out.symm, HB2.out⟩

theorem tail_snoc (l : List (List UInt8)) (x s : List UInt8) : Lib.joinTail s (l ++ [x]) = Lib.joinTail s l ++ (s ++ x) := by unfold Lib.joinTail; simp
theorem join_snoc (l : List (List UInt8)) (x s : List UInt8) : Lib.join (l ++ [x]) s = match l with | [] => x | _ :: _ => Lib.join l s ++ s ++ x := by
  cases l with
  | nil => exact Lib.join_one x s
  | cons a l => rw [List.cons_append, Lib.join_cons, tail_snoc, Lib.join_cons]; simp
theorem status_snoc {m : List VolD} {k : Nat} {d : VolD} (hd : m[k]? = some d) : statusB (m.take (k + 1)) = if k = 0 then wordB d else statusB (m.take k) ++ ⟨#[32]⟩ ++ wordB d := by
  obtain ⟨hk, rfl⟩ := List.getElem?_eq_some_iff.1 hd
  unfold statusB
  rw [List.take_succ_eq_append_getElem hk, List.map_append, List.map_append, List.map_singleton, List.map_singleton, join_snoc]
  by_cases h : k = 0
  · subst h; simp
  · rw [if_neg h]
    cases hT : m.take k with
    | nil => have hl := congrArg List.length hT; rw [List.length_take, List.length_nil] at hl; omega
    | cons a r =>
      simp only [List.map_cons]
      apply ByteArray.ext
      simp
theorem signed_b (n : Int) (h1 : -9223372036854775808 ≤ n) (h2 : n ≤ 9223372036854775807) (w : World) : Calls Tryd.prog 49 #[.int .i64 n] w fun e w' => e = .returned (.string (itoaB n)) ∧ w = w' := signed_any n h1 h2 w
theorem status_size (m : List VolD) (h : ∀ d ∈ m, (itoaB d.id).size ≤ 21 ∧ (itoaB d.size).size ≤ 21 ∧ (itoaB d.blocks.length).size ≤ 21) : (statusB m).size ≤ m.length * 101 := by
  have := join_len ((m.map wordB).map fun x => x.data.toList) (fun x hx => by
    rw [List.map_map, List.mem_map] at hx
    obtain ⟨d, hd, rfl⟩ := hx
    obtain ⟨h1, h2, h3⟩ := h d hd
    show ((wordB d).data.toList).length ≤ 100
    have e1 : ((wordB d).data.toList).length = (wordB d).size := by rw [Array.length_toList]; rfl
    have e2 : (⟨#[58]⟩ : ByteArray).size = 1 := rfl
    rw [e1]; unfold wordB
    simp only [ByteArray.size_append]
    omega)
  rw [List.length_map, List.length_map] at this
  show (Lib.join _ [32]).toArray.size ≤ _
  simpa using this
def SStRel (m : List VolD) (w : World) (s i : Value) (wr : World) : Prop :=
  ∃ k : Nat, k ≤ m.length ∧ i = .int .i64 k ∧ s = .string (statusB (m.take k)) ∧ ∃ n, w.drewN n = wr

set_option maxRecDepth 100000 in
set_option maxHeartbeats 2000000 in
theorem rstatus_any (m : List VolD) (v : Value) (w : World) (hm : ModelAt w v m) (hl : m.length ≤ 1000) (hbd : ∀ d ∈ m, (0 ≤ d.id ∧ d.id ≤ 1000) ∧ 0 ≤ d.size ∧ d.size ≤ 100000) (hbl : ∀ d ∈ m, d.blocks.length ≤ 50000) :
    Calls Tryd.prog 35 #[v] w fun e w' => e = .returned (.string (statusB m)) ∧ Below w.heap.size w w' := by
  have HM := Lib.hid hm; have HBD := Lib.hid hbd; have HBL := Lib.hid hbl
  obtain ⟨p, c, rfl, _, _, _⟩ := hm
  have hlen : (m.length : Int) ≤ 1000 := by omega
  clear hbd hl hbl
  go_enter Tryd.func35, Tryd.ntmps35
  go_wp2_with fail
  go_loopw [3, 4] (fun s i wr => SStRel m w s i wr) (fun _ i _ => m.length - (intOf i).toNat)
  case atStart => exact ⟨0, Nat.zero_le _, rfl, rfl, 0, rfl⟩
  case round =>
    obtain ⟨k, hk, rfl, rfl, n, hwr⟩ := hrel
    have HTK := Lib.hid (List.take_length (l := m))
    have HB := Lib.hid (show Below w.heap.size w wr by rw [← hwr]; exact below_drewN' (Below.refl _ _) _)
    have HW := Lib.hid hwr; clear hwr
    by_cases hlt : k < m.length
    case neg =>
      obtain rfl : k = m.length := by omega
      go_wp2_with fail
      go_ret
      exact ⟨ret_str (by rw [HTK.out]), HB.out⟩
    have hki : (k : Int) < (m.length : Int) := by omega
    obtain ⟨d, hd⟩ : ∃ d, m[k]? = some d := ⟨_, List.getElem?_eq_getElem hlt⟩
    obtain ⟨p', c', hp', _, _, hel⟩ := HM.out.stays HB.out
    cases hp'
    obtain ⟨g, o, bp, bc, rfl, e0, e1, e2, _, _, _⟩ := hel k d hd
    have hmem := List.mem_of_getElem? hd
    obtain ⟨⟨i0, i1⟩, z0, z1⟩ := HBD.out d hmem
    have hb1 : (d.blocks.length : Int) ≤ 50000 := by have := HBL.out d hmem; omega
    have HS := Lib.hid (status_snoc hd)
    have s1 := itoaB_size d.id (by omega) (by omega)
    have s2 := itoaB_size d.size (by omega) (by omega)
    have s3 := itoaB_size d.blocks.length (by omega) (by omega)
    have hSz := status_size (m.take k) (fun d hd => by
      have hd' := List.mem_of_mem_take hd
      obtain ⟨⟨i0, i1⟩, z0, z1⟩ := HBD.out d hd'
      have hb1 : (d.blocks.length : Int) ≤ 50000 := by have := HBL.out d hd'; omega
      exact ⟨itoaB_size _ (by omega) (by omega), itoaB_size _ (by omega) (by omega), itoaB_size _ (by omega) (by omega)⟩)
    rw [List.length_take] at hSz
    obtain ⟨S, hS⟩ : ∃ S, statusB (m.take k) = S := ⟨_, rfl⟩
    rw [hS] at hSz ⊢
    have HSE := Lib.hid hS; clear hS
    have f1 : ¬ 9223372036854775807 < (itoaB d.id).size + 1 := by omega
    have f2 : ¬ 9223372036854775807 < (itoaB d.id).size + 1 + (itoaB d.size).size := by omega
    have f3 : ¬ 9223372036854775807 < (itoaB d.id).size + 1 + (itoaB d.size).size + 1 := by omega
    have f4 : ¬ 9223372036854775807 < (itoaB d.id).size + 1 + (itoaB d.size).size + 1 + (itoaB d.blocks.length).size := by omega
    have f5 : ¬ 9223372036854775807 < S.size + ((itoaB d.id).size + 1 + (itoaB d.size).size + 1 + (itoaB d.blocks.length).size) := by omega
    have f6 : ¬ 9223372036854775807 < S.size + 1 := by omega
    have f7 : ¬ 9223372036854775807 < S.size + 1 + ((itoaB d.id).size + 1 + (itoaB d.size).size + 1 + (itoaB d.blocks.length).size) := by omega
    have hk00 : (0 : Int) ≤ (k : Int) := by omega
    clear hel hd hmem
    have hk0 : k = 0 ∨ (k ≠ 0 ∧ (0 : Int) < (k : Int)) := by omega
    rcases hk0 with h0 | ⟨h0, h1⟩
    · have H0 := Lib.hid h0; have hn : ¬ (0 : Int) < (k : Int) := by omega
      clear h0
      go_wp2_with fail
      go_quiet ((go_at_call 49; exact quiet_left (signed_b _ (by omega) (by omega) _)))
      go_wp2_with fail
      go_roundw
      case rel =>
        refine ⟨k + 1, by omega, by go_num, ?_, ?_⟩
        · rw [HS.out, if_pos H0.out]
          have e : S = ⟨#[]⟩ := by rw [← HSE.out, H0.out]; rfl
          rw [e]; exact congrArg Value.string (by unfold wordB; apply ByteArray.ext; simp)
        · obtain hw := HW.out; rw [← hw]; exact ⟨_, (World.drewN_drewN _ _ _).symm⟩
      case measure => simp [intOf]; omega
    · have H0 := Lib.hid h0
      clear h0
      go_wp2_with fail
      go_quiet ((go_at_call 49; exact quiet_left (signed_b _ (by omega) (by omega) _)))
      go_wp2_with fail
      go_roundw
      case rel =>
        refine ⟨k + 1, by omega, by go_num, ?_, ?_⟩
        · rw [HS.out, if_neg H0.out]
          exact congrArg Value.string (by rw [HSE.out]; unfold wordB; apply ByteArray.ext; simp)
        · obtain hw := HW.out; rw [← hw]; exact ⟨_, (World.drewN_drewN _ _ _).symm⟩
      case measure => simp [intOf]; omega
end Go.Proofs.YtgabifkechofnaaDoor
namespace Go.Proofs.YtgabifkechofnaaDoor
open Go.RowKit

theorem done0 {m : List VolD} (hm : MayP m) {vo de bl nn : Int} {tx : ByteArray} (hf : faultL m ⟨0, vo, de, bl, nn, tx⟩ = 0) : (doL m ⟨0, vo, de, bl, nn, tx⟩).1 = putG VolD.id m ⟨vo, nn, []⟩ := by
  have hd := (doL_done hm hf).1
  generalize (doL m ⟨0, vo, de, bl, nn, tx⟩).1 = N at hd ⊢
  cases hd with
  | made h => rfl
  | gone h => exact no_act h (by simp)
  | sized h => exact no_act h (by simp)
  | cut h => exact no_act h (by simp)
  | wrote h => exact no_act h (by simp)
  | snap h => exact no_act h (by simp)
  | asked h => exact absurd h (by simp)
theorem done1 {m : List VolD} (hm : MayP m) {vo de bl nn : Int} {tx : ByteArray} (hf : faultL m ⟨1, vo, de, bl, nn, tx⟩ = 0) : (doL m ⟨1, vo, de, bl, nn, tx⟩).1 = woL m vo := by
  have hd := (doL_done hm hf).1
  generalize (doL m ⟨1, vo, de, bl, nn, tx⟩).1 = N at hd ⊢
  cases hd with
  | gone h => rfl
  | made h => exact no_act h (by simp)
  | sized h => exact no_act h (by simp)
  | cut h => exact no_act h (by simp)
  | wrote h => exact no_act h (by simp)
  | snap h => exact no_act h (by simp)
  | asked h => exact absurd h (by simp)
theorem ans_of {m : List VolD} {x : OpD} (hm : MayP m) (hf : faultL m x = 0) (ha : x.act ≠ 3 ∧ x.act ≠ 8) : (doL m x).2 = .zero := by
  unfold doL
  rw [if_neg (by rw [(may_iff m).2 hm]; simp), if_neg (by simpa using hf)]
  repeat' split
  all_goals first | rfl | (exfalso; omega)
theorem does7 {m : List VolD} {x : OpD} (hm : MayP m) (hf : faultL m x = 0) (ha : x.act = 7 ∨ x.act = 9) : doL m x = (m, .zero) := by
  unfold doL
  rw [if_neg (by rw [(may_iff m).2 hm]; simp), if_neg (by simpa using hf)]
  repeat' split
  all_goals first | rfl | (exfalso; omega)
theorem does8 {m : List VolD} {x : OpD} (hm : MayP m) (hf : faultL m x = 0) (ha : x.act = 8) : doL m x = (m, ⟨0, statusB m, m.length⟩) := by
  unfold doL
  rw [if_neg (by rw [(may_iff m).2 hm]; simp), if_neg (by simpa using hf)]
  repeat' split
  all_goals first | rfl | (exfalso; omega)
theorem cut_past {d : VolD} (h : VolP d) (lo : Int) : cutL d.blocks lo 100000 = if lo < d.size then cutL d.blocks lo d.size else d.blocks := by
  have hs := h.size
  split
  · unfold cutL
    refine List.filter_congr fun b hb => ?_
    have := h.blk b hb
    unfold inB
    have e : decide (b.pos < 100000) = decide (b.pos < d.size) := by rw [decide_eq_decide]; omega
    simp only [e]
  · unfold cutL
    refine List.filter_eq_self.2 fun b hb => ?_
    have := h.blk b hb
    unfold inB
    simp; omega
theorem write_put {d : VolD} (h : VolP d) (at_ : Int) (s : ByteArray) : cutL d.blocks at_ 100000 ++ [(⟨at_, s⟩ : BlkD)] ++ cutL d.blocks 0 (at_ + 1) = putG BlkD.pos d.blocks ⟨at_, s⟩ := by
  have hs := h.size
  unfold putG cutL
  have e1 : (d.blocks.filter fun b => !inB at_ 100000 b) = d.blocks.filter fun b => decide (b.pos < at_) := by
    refine List.filter_congr fun b hb => ?_
    have := h.blk b hb
    unfold inB
    rw [Bool.eq_iff_iff]; simp; omega
  have e2 : (d.blocks.filter fun b => !inB 0 (at_ + 1) b) = d.blocks.filter fun b => decide (at_ < b.pos) := by
    refine List.filter_congr fun b hb => ?_
    have := h.blk b hb
    unfold inB
    rw [Bool.eq_iff_iff]; simp; omega
  rw [e1, e2]; simp
theorem does3 {m : List VolD} (hm : MayP m) {vo de bl nn : Int} {tx : ByteArray} {d : VolD} (hg : getV m vo = some d) (hf : faultL m ⟨3, vo, de, bl, nn, tx⟩ = 0) : doL m ⟨3, vo, de, bl, nn, tx⟩ = (m, ⟨0, textL d.blocks bl, 0⟩) := by
  have h1 := doL_code hm ⟨3, vo, de, bl, nn, tx⟩
  have h2 := doL_read hm vo de bl nn tx
  rw [hf, h2, hg] at h1
  rw [h2, hg]
  unfold readC at h1 ⊢
  simp only at h1 ⊢
  split at h1
  · simp at h1
  · rename_i h; rw [if_neg h]
end Go.Proofs.YtgabifkechofnaaDoor
namespace Go.Proofs.YtgabifkechofnaaDoor
open Go.RowKit

/-- a volume's blocks lie in memory, and not in block b -/
def BvFar (b : Nat) (W : World) (d : VolD) (bv : Value) : Prop :=
  ∃ p c, bv = .slice p d.blocks.length c ∧ d.blocks.length ≤ c ∧ c ≤ maxLen ∧ ∀ i e, d.blocks[i]? = some e → ∃ g o, p = some ⟨g, o, none⟩ ∧ g ≠ b ∧ W.cell? ⟨g, o + i * 2, none⟩ = some (.int .i64 e.pos) ∧ W.cell? ⟨g, o + i * 2 + 1, none⟩ = some (.string e.text)
theorem far_of_elder {b c : Nat} {w W : World} {p : Option Addr} {d : VolD} (hb : Below w.heap.size w W) (hw : w.heap.size ≤ b) (h1 : d.blocks.length ≤ c) (h2 : c ≤ maxLen) (h : BlksIn w p d.blocks) : BvFar b W d (.slice p d.blocks.length c) := by
  refine ⟨p, c, rfl, h1, h2, fun i e he => ?_⟩
  obtain ⟨g, o, e1, e2, e3⟩ := h i e he
  exact ⟨g, o, e1, by have : g < w.heap.size := World.block_lt_of_cell? w _ e2; omega, cell_stays hb e2, cell_stays hb e3⟩
theorem far_of_row {b B : Nat} {W : World} {d : VolD} {bv : Value} (hB : b < B) (h : W.ownsRow B 56 2 bv d.blocks.length (blkRows d.blocks).flatten) : BvFar b W d bv := by
  obtain ⟨p, c, hv, h1, h2, hin⟩ := blks_of_own h
  subst hv
  refine ⟨p, c, rfl, h1, h2, fun i e he => ?_⟩
  obtain ⟨g, o, e1, e2, e3⟩ := hin i e he
  subst e1
  exact ⟨g, o, rfl, by have := (h.lt g rfl).1; omega, e2, e3⟩
theorem volsQ_far {b : Nat} {w W : World} {v : Value} {m : List VolD} (h : ModelAt w v m) (hb : Below w.heap.size w W) (hw : w.heap.size ≤ b) : VolsQ (BvFar b W) W v m := by
  obtain ⟨p, c, h1, _, h3, h4⟩ := h
  refine ⟨p, c, h1, h3, fun i d hd => ?_⟩
  obtain ⟨g, o, bp, bc, e0, e1, e2, e3, e4, e5, e6⟩ := h4 i d hd
  exact ⟨g, o, bp, bc, e0, cell_stays hb e1, cell_stays hb e2, cell_stays hb e3, far_of_elder hb hw e4 e5 e6⟩
theorem FBox.set1 {b : Nat} {x y z : Value} {W : World} (h : FBox b x y z W) (u : Value) : FBox b x u z (W.setCell ⟨b, 1, none⟩ u) :=
  ⟨(World.cell?_setCell_other W ⟨b, 1, none⟩ ⟨b, 0, none⟩ u (by simp)).trans h.c0, World.cell?_setCell_same W ⟨b, 1, none⟩ u h.c1, (World.cell?_setCell_other W ⟨b, 1, none⟩ ⟨b, 2, none⟩ u (by simp)).trans h.c2, (World.frozen?_setCell _ _ _ _).trans h.f0, (World.frozen?_setCell _ _ _ _).trans h.f1, (World.frozen?_setCell _ _ _ _).trans h.f2⟩
theorem vrow_slice {B : Nat} {Q : VolD → Value → Prop} {w : World} {v : Value} {out : List VolD} (h : VRow B Q v out w) : ∃ p c, v = .slice p out.length c := by
  obtain ⟨bvs, _, h2, _⟩ := h
  rcases ow_slice h2 with ⟨h1, h2, _⟩ | ⟨g, cap, h1⟩
  · exact ⟨none, 0, by rw [h1, h2]⟩
  · exact ⟨_, cap, h1⟩
theorem vrow_end {B b : Nat} {W w5 : World} {v x y z : Value} {out : List VolD} (h : VRow B (BvFar b W) v out w5) (hb : Below W.heap.size W w5) (hB : b < B) :
    ModelAt (((w5.setCell ⟨b, 0, none⟩ x).setCell ⟨b, 1, none⟩ y).setCell ⟨b, 2, none⟩ z) v out := by
  have h2 := ((h.setBelow (a := ⟨b, 0, none⟩) hB x).setBelow (a := ⟨b, 1, none⟩) hB y).setBelow (a := ⟨b, 2, none⟩) hB z
  refine h2.reads fun d bv hq => ?_
  obtain ⟨p, c, h1, h3, h4, h5⟩ := hq
  refine ⟨p, c, h1, h3, h4, fun i e he => ?_⟩
  obtain ⟨g, o, e1, hg, e2, e3⟩ := h5 i e he
  have far : ∀ q u, w5.cell? ⟨g, q, none⟩ = some u → (((w5.setCell ⟨b, 0, none⟩ x).setCell ⟨b, 1, none⟩ y).setCell ⟨b, 2, none⟩ z).cell? ⟨g, q, none⟩ = some u := fun q u hu => by
    rw [World.cell?_setCell_far _ _ _ _ (by show b ≠ g; omega), World.cell?_setCell_far _ _ _ _ (by show b ≠ g; omega), World.cell?_setCell_far _ _ _ _ (by show b ≠ g; omega)]; exact hu
  exact ⟨g, o, e1, far _ _ (cell_stays hb e2), far _ _ (cell_stays hb e3)⟩
theorem model_end {b : Nat} {w w5 : World} {v x y z : Value} {m : List VolD} (h : ModelAt w v m) (hb : Below w.heap.size w w5) (hw : w.heap.size ≤ b) :
    ModelAt (((w5.setCell ⟨b, 0, none⟩ x).setCell ⟨b, 1, none⟩ y).setCell ⟨b, 2, none⟩ z) v m := by
  obtain ⟨p, c, h1, h2, h3, h4⟩ := h
  have far : ∀ g q u, w.cell? ⟨g, q, none⟩ = some u → (((w5.setCell ⟨b, 0, none⟩ x).setCell ⟨b, 1, none⟩ y).setCell ⟨b, 2, none⟩ z).cell? ⟨g, q, none⟩ = some u := fun g q u hu => by
    have hg : g < w.heap.size := World.block_lt_of_cell? w _ hu
    rw [World.cell?_setCell_far _ _ _ _ (by show b ≠ g; omega), World.cell?_setCell_far _ _ _ _ (by show b ≠ g; omega), World.cell?_setCell_far _ _ _ _ (by show b ≠ g; omega)]; exact cell_stays hb hu
  refine ⟨p, c, h1, h2, h3, fun i d hd => ?_⟩
  obtain ⟨g, o, bp, bc, e0, e1, e2, e3, e4, e5, e6⟩ := h4 i d hd
  refine ⟨g, o, bp, bc, e0, far _ _ _ e1, far _ _ _ e2, far _ _ _ e3, e4, e5, fun j e he => ?_⟩
  obtain ⟨g2, o2, q1, q2, q3⟩ := e6 j e he
  exact ⟨g2, o2, q1, far _ _ _ q2, far _ _ _ q3⟩
theorem below_end {b : Nat} {w w5 : World} {x y z : Value} (hb : Below w.heap.size w w5) (hw : w.heap.size ≤ b) : Below w.heap.size w (((w5.setCell ⟨b, 0, none⟩ x).setCell ⟨b, 1, none⟩ y).setCell ⟨b, 2, none⟩ z) :=
  ((hb.setCell (p := ⟨b, 0, none⟩) hw _).setCell (p := ⟨b, 1, none⟩) hw _).setCell (p := ⟨b, 2, none⟩) hw _
def RDoEnd (m : List VolD) (x : OpD) (w : World) (e : Ending) (w' : World) : Prop :=
  ∃ v', e = .returned (.tuple #[v', (doL m x).2.agg]) ∧ ModelAt w' v' (doL m x).1 ∧ Below w.heap.size w w'

set_option maxRecDepth 100000 in
set_option maxHeartbeats 4000000 in
theorem rdo_bad (m : List VolD) (ac vo de bl nn : Int) (tx : ByteArray) (v : Value) (w : World) (hm : ModelAt w v m) (hy : mayL m = false) :
    Calls Tryd.prog 11 #[v, .agg #[.int .i64 ac, .int .i64 vo, .int .i64 de, .int .i64 bl, .int .i64 nn, .string tx]] w (RDoEnd m ⟨ac, vo, de, bl, nn, tx⟩ w) := by
  have HB0 := Lib.hid (show Below w.heap.size w ((w.alloc (.cells #[.int .i64 ac, .int .i64 vo, .int .i64 de, .int .i64 bl, .int .i64 nn, .string tx] 24)).alloc (.cells #[.int .i64 0, .string ⟨#[]⟩, .int .i64 0] 29)) from ((Below.refl w.heap.size w).alloc (Nat.le_refl _) _).alloc (by simp) _)
  have HX0 := Lib.hid (show OBox w.heap.size ⟨ac, vo, de, bl, nn, tx⟩ ((w.alloc (.cells #[.int .i64 ac, .int .i64 vo, .int .i64 de, .int .i64 bl, .int .i64 nn, .string tx] 24)).alloc (.cells #[.int .i64 0, .string ⟨#[]⟩, .int .i64 0] 29)) from (OBox.new ⟨ac, vo, de, bl, nn, tx⟩ _ rfl).below ((Below.refl _ _).alloc (Nat.le_refl _) _))
  have HR0 := Lib.hid (show FBox (w.heap.size + 1) (.int .i64 0) (.string ⟨#[]⟩) (.int .i64 0) ((w.alloc (.cells #[.int .i64 ac, .int .i64 vo, .int .i64 de, .int .i64 bl, .int .i64 nn, .string tx] 24)).alloc (.cells #[.int .i64 0, .string ⟨#[]⟩, .int .i64 0] 29)) from FBox.new _ (by simp))
  have HM := Lib.hid hm
  obtain ⟨p, c, rfl, hc1, hc2, hel⟩ := hm
  have HEL := Lib.hid hel
  clear hel hc1 hc2
  have HY := Lib.hid hy; clear hy
  go_enter Tryd.func11, Tryd.ntmps11
  go_wp2_with fail
  refine (rmay_any m _ _ (HM.out.stays HB0.out)).mono ?_
  rintro e w1 ⟨rfl, hb⟩
  rw [HY.out]
  have HB1 := Lib.hid (btrans HB0.out hb); have HX1 := Lib.hid (HX0.out.below hb); have HR1 := Lib.hid (HR0.out.below hb)
  clear hb
  have r0 := HR1.out.c0; have r1 := HR1.out.c1; have r2 := HR1.out.c2; have s0 := HR1.out.f0; have s1 := HR1.out.f1; have s2 := HR1.out.f2
  have hlr := HR1.out.lt
  go_wp2_with fail
  refine bodyPost_ret (v := .tuple #[.slice none 0 0, .agg #[.int .i64 1, .string ⟨#[]⟩, .int .i64 0]]) (by simp [results, Tryd.results11, go_sem, r0, r1, r2]) rfl ⟨_, by rw [doL_bad HY.out]; rfl, ?_, ?_⟩
  · rw [doL_bad HY.out]; exact ⟨none, 0, rfl, Nat.le_refl _, Nat.zero_le _, fun i d hd => by simp at hd⟩
  · exact below_end HB1.out (Nat.le_succ _)

set_option maxRecDepth 100000 in
set_option maxHeartbeats 4000000 in
theorem rdo_fault (m : List VolD) (ac vo de bl nn : Int) (tx : ByteArray) (v : Value) (w : World) (hm : ModelAt w v m) (hmp : MayP m) (hf : faultL m ⟨ac, vo, de, bl, nn, tx⟩ ≠ 0) :
    Calls Tryd.prog 11 #[v, .agg #[.int .i64 ac, .int .i64 vo, .int .i64 de, .int .i64 bl, .int .i64 nn, .string tx]] w (RDoEnd m ⟨ac, vo, de, bl, nn, tx⟩ w) := by
  have HB0 := Lib.hid (show Below w.heap.size w ((w.alloc (.cells #[.int .i64 ac, .int .i64 vo, .int .i64 de, .int .i64 bl, .int .i64 nn, .string tx] 24)).alloc (.cells #[.int .i64 0, .string ⟨#[]⟩, .int .i64 0] 29)) from ((Below.refl w.heap.size w).alloc (Nat.le_refl _) _).alloc (by simp) _)
  have HX0 := Lib.hid (show OBox w.heap.size ⟨ac, vo, de, bl, nn, tx⟩ ((w.alloc (.cells #[.int .i64 ac, .int .i64 vo, .int .i64 de, .int .i64 bl, .int .i64 nn, .string tx] 24)).alloc (.cells #[.int .i64 0, .string ⟨#[]⟩, .int .i64 0] 29)) from (OBox.new ⟨ac, vo, de, bl, nn, tx⟩ _ rfl).below ((Below.refl _ _).alloc (Nat.le_refl _) _))
  have HR0 := Lib.hid (show FBox (w.heap.size + 1) (.int .i64 0) (.string ⟨#[]⟩) (.int .i64 0) ((w.alloc (.cells #[.int .i64 ac, .int .i64 vo, .int .i64 de, .int .i64 bl, .int .i64 nn, .string tx] 24)).alloc (.cells #[.int .i64 0, .string ⟨#[]⟩, .int .i64 0] 29)) from FBox.new _ (by simp))
  have HM := Lib.hid hm
  obtain ⟨p, c, rfl, hc1, hc2, hel⟩ := hm
  have HEL := Lib.hid hel
  clear hel hc1 hc2
  have HY := Lib.hid ((may_iff m).2 hmp); have HMP := Lib.hid hmp; have HF := Lib.hid hf; clear hf hmp
  go_enter Tryd.func11, Tryd.ntmps11
  go_wp2_with fail
  refine (rmay_any m _ _ (HM.out.stays HB0.out)).mono ?_
  rintro e w1 ⟨rfl, hb⟩
  rw [HY.out]
  have HB1 := Lib.hid (btrans HB0.out hb); have HX1 := Lib.hid (HX0.out.below hb); have HR1 := Lib.hid (HR0.out.below hb)
  clear hb
  have x0 := HX1.out.c 0 _ rfl
  have x1 := HX1.out.c 1 _ rfl
  have x2 := HX1.out.c 2 _ rfl
  have x3 := HX1.out.c 3 _ rfl
  have x4 := HX1.out.c 4 _ rfl
  have x5 := HX1.out.c 5 _ rfl
  go_wp2_with fail
  refine (wrong_any m ⟨ac, vo, de, bl, nn, tx⟩ _ _ (HM.out.stays HB1.out) HMP.out).mono ?_
  rintro e w2 ⟨rfl, hb⟩
  have HB2 := Lib.hid (btrans HB1.out hb); have HX2 := Lib.hid (HX1.out.below hb); have HR2 := Lib.hid (HR1.out.below hb)
  clear hb
  clear x0 x1 x2 x3 x4 x5
  obtain ⟨C, hC⟩ : ∃ C, faultL m ⟨ac, vo, de, bl, nn, tx⟩ = C := ⟨_, rfl⟩
  rw [hC]
  have hne : (C != 0) = true := by rw [← hC]; simpa using HF.out
  have HC := Lib.hid hC; clear hC
  have r0 := HR2.out.c0; have r1 := HR2.out.c1; have r2 := HR2.out.c2; have s0 := HR2.out.f0; have s1 := HR2.out.f1; have s2 := HR2.out.f2
  have hlr := HR2.out.lt
  go_wp2_with fail
  refine bodyPost_ret (v := .tuple #[.slice p m.length c, .agg #[.int .i64 C, .string ⟨#[]⟩, .int .i64 0]]) (by simp [results, Tryd.results11, go_sem, r0, r1, r2]) rfl ⟨_, by rw [doL_fault HMP.out HF.out, HC.out]; rfl, ?_, ?_⟩
  · rw [doL_fault HMP.out HF.out]; exact model_end HM.out HB2.out (Nat.le_succ _)
  · exact below_end HB2.out (Nat.le_succ _)
end Go.Proofs.YtgabifkechofnaaDoor
namespace Go.Proofs.YtgabifkechofnaaDoor
open Go.RowKit

set_option maxRecDepth 100000 in
set_option maxHeartbeats 8000000 in
theorem rdo_0 (m : List VolD) (vo de bl nn : Int) (tx : ByteArray) (v : Value) (w : World) (hm : ModelAt w v m) (hmp : MayP m) (hbl : ∀ d ∈ m, d.blocks.length ≤ 50000) (hf : faultL m ⟨0, vo, de, bl, nn, tx⟩ = 0) :
    Calls Tryd.prog 11 #[v, .agg #[.int .i64 0, .int .i64 vo, .int .i64 de, .int .i64 bl, .int .i64 nn, .string tx]] w (RDoEnd m ⟨0, vo, de, bl, nn, tx⟩ w) := by
  have HB0 := Lib.hid (show Below w.heap.size w ((w.alloc (.cells #[.int .i64 0, .int .i64 vo, .int .i64 de, .int .i64 bl, .int .i64 nn, .string tx] 24)).alloc (.cells #[.int .i64 0, .string ⟨#[]⟩, .int .i64 0] 29)) from ((Below.refl w.heap.size w).alloc (Nat.le_refl _) _).alloc (by simp) _)
  have HX0 := Lib.hid (show OBox w.heap.size ⟨0, vo, de, bl, nn, tx⟩ ((w.alloc (.cells #[.int .i64 0, .int .i64 vo, .int .i64 de, .int .i64 bl, .int .i64 nn, .string tx] 24)).alloc (.cells #[.int .i64 0, .string ⟨#[]⟩, .int .i64 0] 29)) from (OBox.new ⟨0, vo, de, bl, nn, tx⟩ _ rfl).below ((Below.refl _ _).alloc (Nat.le_refl _) _))
  have HR0 := Lib.hid (show FBox (w.heap.size + 1) (.int .i64 0) (.string ⟨#[]⟩) (.int .i64 0) ((w.alloc (.cells #[.int .i64 0, .int .i64 vo, .int .i64 de, .int .i64 bl, .int .i64 nn, .string tx] 24)).alloc (.cells #[.int .i64 0, .string ⟨#[]⟩, .int .i64 0] 29)) from FBox.new _ (by simp))
  have HM := Lib.hid hm
  obtain ⟨p, c, rfl, hc1, hc2, hel⟩ := hm
  have HEL := Lib.hid hel
  clear hel hc1 hc2
  have HY := Lib.hid ((may_iff m).2 hmp); have HMP := Lib.hid hmp; have HF := Lib.hid hf; have HBL := Lib.hid hbl; clear hf hbl
  have hm64 : (m.length : Int) ≤ 64 := by have := hmp.len; omega
  clear hmp
  go_enter Tryd.func11, Tryd.ntmps11
  go_wp2_with fail
  refine (rmay_any m _ _ (HM.out.stays HB0.out)).mono ?_
  rintro e w1 ⟨rfl, hb⟩
  rw [HY.out]
  have HB1 := Lib.hid (btrans HB0.out hb); have HX1 := Lib.hid (HX0.out.below hb); have HR1 := Lib.hid (HR0.out.below hb)
  clear hb
  have x0 := HX1.out.c 0 _ rfl
  have x1 := HX1.out.c 1 _ rfl
  have x2 := HX1.out.c 2 _ rfl
  have x3 := HX1.out.c 3 _ rfl
  have x4 := HX1.out.c 4 _ rfl
  have x5 := HX1.out.c 5 _ rfl
  go_wp2_with fail
  refine (wrong_any m ⟨0, vo, de, bl, nn, tx⟩ _ _ (HM.out.stays HB1.out) HMP.out).mono ?_
  rintro e w2 ⟨rfl, hb⟩
  have HB2 := Lib.hid (btrans HB1.out hb); have HX2 := Lib.hid (HX1.out.below hb); have HR2 := Lib.hid (HR1.out.below hb)
  clear hb
  clear x0 x1 x2 x3 x4 x5
  rw [HF.out]
  have x0 := HX2.out.c 0 _ rfl
  have x1 := HX2.out.c 1 _ rfl
  have x2 := HX2.out.c 2 _ rfl
  have x3 := HX2.out.c 3 _ rfl
  have x4 := HX2.out.c 4 _ rfl
  have x5 := HX2.out.c 5 _ rfl
  have hlx := HX2.out.lt; have hlr2 := HR2.out.lt
  go_wp2_with fail
  have hfs := find_size HMP.out vo
  rcases hfs with ⟨hfi, _⟩ | ⟨i, d, hfi, hdi, _⟩
  · have HFI := Lib.hid hfi; clear hfi
    refine (rfind_any m vo _ _ (HM.out.stays ((HB2.out.alloc HB2.out.size _ : Below w.heap.size w (w2.alloc (.cells #[.int .i64 0, .int .i64 0, .slice none 0 0] 41)))))).mono ?_
    rintro e _ ⟨rfl, rfl⟩
    rw [HFI.out]
    go_wp2_with fail
    have HB3 := Lib.hid (show Below w.heap.size w (w2.alloc (.cells #[.int .i64 0, .int .i64 0, .slice none 0 0] 41)) from HB2.out.alloc HB2.out.size _)
    have hal3 : Below w2.heap.size w2 (w2.alloc (.cells #[.int .i64 0, .int .i64 0, .slice none 0 0] 41)) := (Below.refl _ _).alloc (Nat.le_refl _) _
    have HX3 := Lib.hid (HX2.out.below hal3); have HR3 := Lib.hid (HR2.out.below hal3)
    clear hal3
    refine (rwith_any (BvFar (w.heap.size + 1) _) m ⟨vo, nn, []⟩ none 0 _ _ (volsQ_far HM.out HB3.out (Nat.le_succ _)) (by omega) HMP.out.rise ⟨none, 0, rfl, Nat.zero_le _, Nat.zero_le _, fun i e he => by simp at he⟩).mono ?_
    rintro e w5 ⟨v5, rfl, hrow, hb⟩
    have HRW := Lib.hid hrow; have HBW := Lib.hid hb
    obtain ⟨pv, cv, hv5⟩ := vrow_slice hrow
    subst hv5
    have HB5 := Lib.hid (btrans HB3.out hb); have HR5 := Lib.hid (HR3.out.below hb)
    clear hb hrow
    have r0 := HR5.out.c0; have r1 := HR5.out.c1; have r2 := HR5.out.c2; have s0 := HR5.out.f0; have s1 := HR5.out.f1; have s2 := HR5.out.f2
    have hlr := HR5.out.lt
    go_wp2_with fail
    refine bodyPost_ret (v := .tuple #[.slice pv (putG VolD.id m ⟨vo, nn, []⟩).length cv, .agg #[.int .i64 0, .string ⟨#[]⟩, .int .i64 0]]) (by simp [results, Tryd.results11, go_sem, r0, r1, r2]) rfl ⟨_, by rw [ans_of HMP.out HF.out (show (0 : Int) ≠ 3 ∧ (0 : Int) ≠ 8 by decide)]; rfl, ?_, ?_⟩
    · rw [done0 HMP.out HF.out]; exact vrow_end HRW.out HBW.out (by have := HR3.out.lt; omega)
    · exact below_end HB5.out (Nat.le_succ _)
  · have HFI := Lib.hid hfi
    obtain ⟨g, o, bp, bc, hpe, e0, e1, e2, hbc1, hbc2, hbin⟩ := HEL.out i d hdi
    have hi64 : (i : Int) < (m.length : Int) := by have := (List.getElem?_eq_some_iff.1 hdi).1; omega
    subst hpe
    have E0 := cell_stays HB2.out e0; have E1 := cell_stays HB2.out e1; have E2 := cell_stays HB2.out e2
    have g0 := World.block_lt_of_cell? _ _ E0
    clear hfi hdi hbin hbc1 hbc2 e0 e1 e2
    refine (rfind_any m vo _ _ (HM.out.stays ((HB2.out.alloc HB2.out.size _ : Below w.heap.size w (w2.alloc (.cells #[.int .i64 0, .int .i64 0, .slice none 0 0] 41)))))).mono ?_
    rintro e _ ⟨rfl, rfl⟩
    rw [HFI.out]
    go_wp2_with fail
    refine (rfind_any m vo _ _ (HM.out.stays ((HB2.out.alloc HB2.out.size _ : Below w.heap.size w (w2.alloc (.cells #[.int .i64 0, .int .i64 0, .slice none 0 0] 41)))))).mono ?_
    rintro e _ ⟨rfl, rfl⟩
    rw [HFI.out]
    go_wp2_with fail
    have HB3 := Lib.hid (show Below w.heap.size w (w2.alloc (.cells #[.int .i64 d.id, .int .i64 d.size, .slice bp d.blocks.length bc] 41)) from HB2.out.alloc HB2.out.size _)
    have hal3 : Below w2.heap.size w2 (w2.alloc (.cells #[.int .i64 d.id, .int .i64 d.size, .slice bp d.blocks.length bc] 41)) := (Below.refl _ _).alloc (Nat.le_refl _) _
    have HX3 := Lib.hid (HX2.out.below hal3); have HR3 := Lib.hid (HR2.out.below hal3)
    clear hal3
    refine (rwith_any (BvFar (w.heap.size + 1) _) m ⟨vo, nn, []⟩ none 0 _ _ (volsQ_far HM.out HB3.out (Nat.le_succ _)) (by omega) HMP.out.rise ⟨none, 0, rfl, Nat.zero_le _, Nat.zero_le _, fun i e he => by simp at he⟩).mono ?_
    rintro e w5 ⟨v5, rfl, hrow, hb⟩
    have HRW := Lib.hid hrow; have HBW := Lib.hid hb
    obtain ⟨pv, cv, hv5⟩ := vrow_slice hrow
    subst hv5
    have HB5 := Lib.hid (btrans HB3.out hb); have HR5 := Lib.hid (HR3.out.below hb)
    clear hb hrow
    have r0 := HR5.out.c0; have r1 := HR5.out.c1; have r2 := HR5.out.c2; have s0 := HR5.out.f0; have s1 := HR5.out.f1; have s2 := HR5.out.f2
    have hlr := HR5.out.lt
    go_wp2_with fail
    refine bodyPost_ret (v := .tuple #[.slice pv (putG VolD.id m ⟨vo, nn, []⟩).length cv, .agg #[.int .i64 0, .string ⟨#[]⟩, .int .i64 0]]) (by simp [results, Tryd.results11, go_sem, r0, r1, r2]) rfl ⟨_, by rw [ans_of HMP.out HF.out (show (0 : Int) ≠ 3 ∧ (0 : Int) ≠ 8 by decide)]; rfl, ?_, ?_⟩
    · rw [done0 HMP.out HF.out]; exact vrow_end HRW.out HBW.out (by have := HR3.out.lt; omega)
    · exact below_end HB5.out (Nat.le_succ _)
end Go.Proofs.YtgabifkechofnaaDoor
namespace Go.Proofs.YtgabifkechofnaaDoor
open Go.RowKit

set_option maxRecDepth 100000 in
set_option maxHeartbeats 8000000 in
theorem rdo_1 (m : List VolD) (vo de bl nn : Int) (tx : ByteArray) (v : Value) (w : World) (hm : ModelAt w v m) (hmp : MayP m) (hbl : ∀ d ∈ m, d.blocks.length ≤ 50000) (hf : faultL m ⟨1, vo, de, bl, nn, tx⟩ = 0) :
    Calls Tryd.prog 11 #[v, .agg #[.int .i64 1, .int .i64 vo, .int .i64 de, .int .i64 bl, .int .i64 nn, .string tx]] w (RDoEnd m ⟨1, vo, de, bl, nn, tx⟩ w) := by
  obtain ⟨d, hg⟩ : ∃ d, getV m vo = some d := by
    have h0 : faultOfL (sizeL m vo) ⟨1, vo, de, bl, nn, tx⟩ = 0 := by rw [← faultL_of (x := ⟨1, vo, de, bl, nn, tx⟩) (show (1 : Int) ≤ 1 ∧ (1 : Int) ≤ 5 by decide)]; exact hf
    obtain ⟨d, hd, _⟩ := size_some hmp (faultOf_neg h0)
    exact ⟨d, hd⟩
  obtain ⟨i, hfl, hdi, hdid⟩ := find_some hg
  have HFI := Lib.hid (show findI m vo = (i : Int) by unfold findI; rw [hfl])
  have hvp := hmp.vol d (look_mem hg).1
  have hblk : d.blocks.length ≤ 50000 := hbl d (look_mem hg).1
  have hi64 : (i : Int) < (m.length : Int) := by have := (List.getElem?_eq_some_iff.1 hdi).1; omega
  have HVP := Lib.hid hvp; have HDI := Lib.hid hdi; have HG := Lib.hid hg; have HID := Lib.hid hdid
  clear hfl hvp hdi hg hdid
  have HB0 := Lib.hid (show Below w.heap.size w ((w.alloc (.cells #[.int .i64 1, .int .i64 vo, .int .i64 de, .int .i64 bl, .int .i64 nn, .string tx] 24)).alloc (.cells #[.int .i64 0, .string ⟨#[]⟩, .int .i64 0] 29)) from ((Below.refl w.heap.size w).alloc (Nat.le_refl _) _).alloc (by simp) _)
  have HX0 := Lib.hid (show OBox w.heap.size ⟨1, vo, de, bl, nn, tx⟩ ((w.alloc (.cells #[.int .i64 1, .int .i64 vo, .int .i64 de, .int .i64 bl, .int .i64 nn, .string tx] 24)).alloc (.cells #[.int .i64 0, .string ⟨#[]⟩, .int .i64 0] 29)) from (OBox.new ⟨1, vo, de, bl, nn, tx⟩ _ rfl).below ((Below.refl _ _).alloc (Nat.le_refl _) _))
  have HR0 := Lib.hid (show FBox (w.heap.size + 1) (.int .i64 0) (.string ⟨#[]⟩) (.int .i64 0) ((w.alloc (.cells #[.int .i64 1, .int .i64 vo, .int .i64 de, .int .i64 bl, .int .i64 nn, .string tx] 24)).alloc (.cells #[.int .i64 0, .string ⟨#[]⟩, .int .i64 0] 29)) from FBox.new _ (by simp))
  have HM := Lib.hid hm
  obtain ⟨p, c, rfl, hc1, hc2, hel⟩ := hm
  have HEL := Lib.hid hel
  clear hel hc1 hc2
  have HY := Lib.hid ((may_iff m).2 hmp); have HMP := Lib.hid hmp; have HF := Lib.hid hf; have HBL := Lib.hid hbl; clear hf hbl
  have hm64 : (m.length : Int) ≤ 64 := by have := hmp.len; omega
  obtain ⟨g, o, bp, bc, hpe, e0, e1, e2, hbc1, hbc2, hbin⟩ := HEL.out i d HDI.out
  subst hpe
  have HBI := Lib.hid hbin; have HBC := Lib.hid (And.intro hbc1 hbc2)
  have HE := Lib.hid (And.intro e0 (And.intro e1 e2))
  clear hbin hbc1 hbc2 e0 e1 e2
  clear hmp
  go_enter Tryd.func11, Tryd.ntmps11
  go_wp2_with fail
  refine (rmay_any m _ _ (HM.out.stays HB0.out)).mono ?_
  rintro e w1 ⟨rfl, hb⟩
  rw [HY.out]
  have HB1 := Lib.hid (btrans HB0.out hb); have HX1 := Lib.hid (HX0.out.below hb); have HR1 := Lib.hid (HR0.out.below hb)
  clear hb
  have x0 := HX1.out.c 0 _ rfl
  have x1 := HX1.out.c 1 _ rfl
  have x2 := HX1.out.c 2 _ rfl
  have x3 := HX1.out.c 3 _ rfl
  have x4 := HX1.out.c 4 _ rfl
  have x5 := HX1.out.c 5 _ rfl
  go_wp2_with fail
  refine (wrong_any m ⟨1, vo, de, bl, nn, tx⟩ _ _ (HM.out.stays HB1.out) HMP.out).mono ?_
  rintro e w2 ⟨rfl, hb⟩
  have HB2 := Lib.hid (btrans HB1.out hb); have HX2 := Lib.hid (HX1.out.below hb); have HR2 := Lib.hid (HR1.out.below hb)
  clear hb
  clear x0 x1 x2 x3 x4 x5
  rw [HF.out]
  have x0 := HX2.out.c 0 _ rfl
  have x1 := HX2.out.c 1 _ rfl
  have x2 := HX2.out.c 2 _ rfl
  have x3 := HX2.out.c 3 _ rfl
  have x4 := HX2.out.c 4 _ rfl
  have x5 := HX2.out.c 5 _ rfl
  have hlx := HX2.out.lt; have hlr2 := HR2.out.lt
  go_wp2_with fail
  have E0 := cell_stays HB2.out HE.out.1; have E1 := cell_stays HB2.out HE.out.2.1; have E2 := cell_stays HB2.out HE.out.2.2
  have g0 := World.block_lt_of_cell? _ _ E0
  refine (rfind_any m vo _ _ (HM.out.stays ((HB2.out.alloc HB2.out.size _ : Below w.heap.size w (w2.alloc (.cells #[.int .i64 0, .int .i64 0, .slice none 0 0] 41)))))).mono ?_
  rintro e _ ⟨rfl, rfl⟩
  rw [HFI.out]
  go_wp2_with fail
  refine (rfind_any m vo _ _ (HM.out.stays ((HB2.out.alloc HB2.out.size _ : Below w.heap.size w (w2.alloc (.cells #[.int .i64 0, .int .i64 0, .slice none 0 0] 41)))))).mono ?_
  rintro e _ ⟨rfl, rfl⟩
  rw [HFI.out]
  go_wp2_with fail
  have HB3 := Lib.hid (show Below w.heap.size w (w2.alloc (.cells #[.int .i64 d.id, .int .i64 d.size, .slice bp d.blocks.length bc] 41)) from HB2.out.alloc HB2.out.size _)
  have hal3 : Below w2.heap.size w2 (w2.alloc (.cells #[.int .i64 d.id, .int .i64 d.size, .slice bp d.blocks.length bc] 41)) := (Below.refl _ _).alloc (Nat.le_refl _) _
  have HX3 := Lib.hid (HX2.out.below hal3); have HR3 := Lib.hid (HR2.out.below hal3)
  clear hal3
  refine (rwithout_any (BvFar (w.heap.size + 1) _) m vo _ _ (volsQ_far HM.out HB3.out (Nat.le_succ _)) (by omega)).mono ?_
  rintro e w5 ⟨v5, rfl, hrow, hb⟩
  have HRW := Lib.hid hrow; have HBW := Lib.hid hb
  obtain ⟨pv, cv, hv5⟩ := vrow_slice hrow
  subst hv5
  have HB5 := Lib.hid (btrans HB3.out hb); have HR5 := Lib.hid (HR3.out.below hb)
  clear hb hrow
  have r0 := HR5.out.c0; have r1 := HR5.out.c1; have r2 := HR5.out.c2; have s0 := HR5.out.f0; have s1 := HR5.out.f1; have s2 := HR5.out.f2
  have hlr := HR5.out.lt
  go_wp2_with fail
  refine bodyPost_ret (v := .tuple #[.slice pv (woL m vo).length cv, .agg #[.int .i64 0, .string ⟨#[]⟩, .int .i64 0]]) (by simp [results, Tryd.results11, go_sem, r0, r1, r2]) rfl ⟨_, by rw [ans_of HMP.out HF.out (show (1 : Int) ≠ 3 ∧ (1 : Int) ≠ 8 by decide)]; rfl, ?_, ?_⟩
  · rw [done1 HMP.out HF.out]; exact vrow_end HRW.out HBW.out HR3.out.lt
  · exact below_end HB5.out (Nat.le_succ _)
end Go.Proofs.YtgabifkechofnaaDoor
namespace Go.Proofs.YtgabifkechofnaaDoor
open Go.RowKit

set_option maxRecDepth 100000 in
set_option maxHeartbeats 8000000 in
theorem rdo_2 (m : List VolD) (vo de bl nn : Int) (tx : ByteArray) (v : Value) (w : World) (hm : ModelAt w v m) (hmp : MayP m) (hbl : ∀ d ∈ m, d.blocks.length ≤ 50000) (hf : faultL m ⟨2, vo, de, bl, nn, tx⟩ = 0) :
    Calls Tryd.prog 11 #[v, .agg #[.int .i64 2, .int .i64 vo, .int .i64 de, .int .i64 bl, .int .i64 nn, .string tx]] w (RDoEnd m ⟨2, vo, de, bl, nn, tx⟩ w) := by
  obtain ⟨d, hg, hs1, hD⟩ := done2 hmp hf
  obtain ⟨i, hfl, hdi, hdid⟩ := find_some hg
  have HFI := Lib.hid (show findI m vo = (i : Int) by unfold findI; rw [hfl])
  have hvp := hmp.vol d (look_mem hg).1
  have hblk : d.blocks.length ≤ 50000 := hbl d (look_mem hg).1
  have hi64 : (i : Int) < (m.length : Int) := by have := (List.getElem?_eq_some_iff.1 hdi).1; omega
  have HVP := Lib.hid hvp; have HDI := Lib.hid hdi; have HG := Lib.hid hg; have HID := Lib.hid hdid
  have HD := Lib.hid hD
  clear hfl hvp hD hdi hg hdid
  have HB0 := Lib.hid (show Below w.heap.size w ((w.alloc (.cells #[.int .i64 2, .int .i64 vo, .int .i64 de, .int .i64 bl, .int .i64 nn, .string tx] 24)).alloc (.cells #[.int .i64 0, .string ⟨#[]⟩, .int .i64 0] 29)) from ((Below.refl w.heap.size w).alloc (Nat.le_refl _) _).alloc (by simp) _)
  have HX0 := Lib.hid (show OBox w.heap.size ⟨2, vo, de, bl, nn, tx⟩ ((w.alloc (.cells #[.int .i64 2, .int .i64 vo, .int .i64 de, .int .i64 bl, .int .i64 nn, .string tx] 24)).alloc (.cells #[.int .i64 0, .string ⟨#[]⟩, .int .i64 0] 29)) from (OBox.new ⟨2, vo, de, bl, nn, tx⟩ _ rfl).below ((Below.refl _ _).alloc (Nat.le_refl _) _))
  have HR0 := Lib.hid (show FBox (w.heap.size + 1) (.int .i64 0) (.string ⟨#[]⟩) (.int .i64 0) ((w.alloc (.cells #[.int .i64 2, .int .i64 vo, .int .i64 de, .int .i64 bl, .int .i64 nn, .string tx] 24)).alloc (.cells #[.int .i64 0, .string ⟨#[]⟩, .int .i64 0] 29)) from FBox.new _ (by simp))
  have HM := Lib.hid hm
  obtain ⟨p, c, rfl, hc1, hc2, hel⟩ := hm
  have HEL := Lib.hid hel
  clear hel hc1 hc2
  have HY := Lib.hid ((may_iff m).2 hmp); have HMP := Lib.hid hmp; have HF := Lib.hid hf; have HBL := Lib.hid hbl; clear hf hbl
  have hm64 : (m.length : Int) ≤ 64 := by have := hmp.len; omega
  obtain ⟨g, o, bp, bc, hpe, e0, e1, e2, hbc1, hbc2, hbin⟩ := HEL.out i d HDI.out
  subst hpe
  have HBI := Lib.hid hbin; have HBC := Lib.hid (And.intro hbc1 hbc2)
  have HE := Lib.hid (And.intro e0 (And.intro e1 e2))
  clear hbin hbc1 hbc2 e0 e1 e2
  clear hmp
  go_enter Tryd.func11, Tryd.ntmps11
  go_wp2_with fail
  refine (rmay_any m _ _ (HM.out.stays HB0.out)).mono ?_
  rintro e w1 ⟨rfl, hb⟩
  rw [HY.out]
  have HB1 := Lib.hid (btrans HB0.out hb); have HX1 := Lib.hid (HX0.out.below hb); have HR1 := Lib.hid (HR0.out.below hb)
  clear hb
  have x0 := HX1.out.c 0 _ rfl
  have x1 := HX1.out.c 1 _ rfl
  have x2 := HX1.out.c 2 _ rfl
  have x3 := HX1.out.c 3 _ rfl
  have x4 := HX1.out.c 4 _ rfl
  have x5 := HX1.out.c 5 _ rfl
  go_wp2_with fail
  refine (wrong_any m ⟨2, vo, de, bl, nn, tx⟩ _ _ (HM.out.stays HB1.out) HMP.out).mono ?_
  rintro e w2 ⟨rfl, hb⟩
  have HB2 := Lib.hid (btrans HB1.out hb); have HX2 := Lib.hid (HX1.out.below hb); have HR2 := Lib.hid (HR1.out.below hb)
  clear hb
  clear x0 x1 x2 x3 x4 x5
  rw [HF.out]
  have x0 := HX2.out.c 0 _ rfl
  have x1 := HX2.out.c 1 _ rfl
  have x2 := HX2.out.c 2 _ rfl
  have x3 := HX2.out.c 3 _ rfl
  have x4 := HX2.out.c 4 _ rfl
  have x5 := HX2.out.c 5 _ rfl
  have hlx := HX2.out.lt; have hlr2 := HR2.out.lt
  go_wp2_with fail
  have E0 := cell_stays HB2.out HE.out.1; have E1 := cell_stays HB2.out HE.out.2.1; have E2 := cell_stays HB2.out HE.out.2.2
  have g0 := World.block_lt_of_cell? _ _ E0
  refine (rfind_any m vo _ _ (HM.out.stays ((HB2.out.alloc HB2.out.size _ : Below w.heap.size w (w2.alloc (.cells #[.int .i64 0, .int .i64 0, .slice none 0 0] 41)))))).mono ?_
  rintro e _ ⟨rfl, rfl⟩
  rw [HFI.out]
  go_wp2_with fail
  refine (rfind_any m vo _ _ (HM.out.stays ((HB2.out.alloc HB2.out.size _ : Below w.heap.size w (w2.alloc (.cells #[.int .i64 0, .int .i64 0, .slice none 0 0] 41)))))).mono ?_
  rintro e _ ⟨rfl, rfl⟩
  rw [HFI.out]
  go_wp2_with fail
  have HB3 := Lib.hid (show Below w.heap.size w (w2.alloc (.cells #[.int .i64 d.id, .int .i64 d.size, .slice bp d.blocks.length bc] 41)) from HB2.out.alloc HB2.out.size _)
  have hal3 : Below w2.heap.size w2 (w2.alloc (.cells #[.int .i64 d.id, .int .i64 d.size, .slice bp d.blocks.length bc] 41)) := (Below.refl _ _).alloc (Nat.le_refl _) _
  have HX3 := Lib.hid (HX2.out.below hal3); have HR3 := Lib.hid (HR2.out.below hal3)
  clear hal3
  have HV3 := Lib.hid (show FBox w2.heap.size (.int .i64 d.id) (.int .i64 d.size) (.slice bp d.blocks.length bc) (w2.alloc (.cells #[.int .i64 d.id, .int .i64 d.size, .slice bp d.blocks.length bc] 41)) from FBox.new _ rfl)
  refine (rcut_any d nn 100000 bp bc _ (HBI.out.stays HB3.out) (by omega)).mono ?_
  rintro e w4 ⟨bv, rfl, hrow, hb⟩
  obtain ⟨pb, cb, hbv, _, _, _⟩ := blks_of_own hrow
  subst hbv
  have HB4 := Lib.hid (btrans HB3.out hb); have HR4 := Lib.hid (HR3.out.below hb); have HX4 := Lib.hid (HX3.out.below hb); have HV4 := Lib.hid (HV3.out.below hb)
  have HRO := Lib.hid hrow
  have v0 := HV4.out.c0; have v1 := HV4.out.c1; have v2 := HV4.out.c2; have vf0 := HV4.out.f0; have vf1 := HV4.out.f1; have vf2 := HV4.out.f2
  have hlv := HV4.out.lt; have hlx := HX2.out.lt
  clear hb hrow
  clear x0 x1 x2 x3 x4 x5
  have x0 := HX4.out.c 0 _ rfl
  have x1 := HX4.out.c 1 _ rfl
  have x2 := HX4.out.c 2 _ rfl
  have x3 := HX4.out.c 3 _ rfl
  have x4 := HX4.out.c 4 _ rfl
  have x5 := HX4.out.c 5 _ rfl
  go_upto_region 17 with fail
  obtain ⟨W6, hW6⟩ : ∃ W6, ((((w4.setCell ⟨w2.heap.size, 0, none⟩ (.int .i64 d.id)).setCell ⟨w2.heap.size, 1, none⟩ (.int .i64 d.size)).setCell ⟨w2.heap.size, 2, none⟩ (.slice pb (cutL d.blocks nn 100000).length cb)).setCell ⟨w2.heap.size, 1, none⟩ (.int .i64 nn)) = W6 := ⟨_, rfl⟩
  rw [hW6]
  have hs2 : w.heap.size ≤ w2.heap.size := HB2.out.size
  have hne2 : w2.heap.size ≠ w.heap.size + 1 := by omega
  have hlt3 : w2.heap.size < (w2.alloc (.cells #[.int .i64 d.id, .int .i64 d.size, .slice bp d.blocks.length bc] 41)).heap.size := by simp
  have HB6 := Lib.hid (show Below w.heap.size w W6 by rw [← hW6]; exact (((HB4.out.setCell (p := ⟨w2.heap.size, 0, none⟩) hs2 _).setCell (p := ⟨w2.heap.size, 1, none⟩) hs2 _).setCell (p := ⟨w2.heap.size, 2, none⟩) hs2 _).setCell (p := ⟨w2.heap.size, 1, none⟩) hs2 _)
  have HR6 := Lib.hid (show FBox (w.heap.size + 1) (.int .i64 0) (.string ⟨#[]⟩) (.int .i64 0) W6 by rw [← hW6]; exact (((HR4.out.far (p := ⟨w2.heap.size, 0, none⟩) hne2 _).far (p := ⟨w2.heap.size, 1, none⟩) hne2 _).far (p := ⟨w2.heap.size, 2, none⟩) hne2 _).far (p := ⟨w2.heap.size, 1, none⟩) hne2 _)
  have HV6 := Lib.hid (show FBox w2.heap.size (.int .i64 d.id) (.int .i64 nn) (.slice pb (cutL d.blocks nn 100000).length cb) W6 by rw [← hW6]; exact HV4.out.three.set1 _)
  have HFR := Lib.hid (far_of_row (b := w.heap.size + 1) (d := ⟨d.id, nn, cutL d.blocks nn 100000⟩) HR3.out.lt (show W6.ownsRow _ _ 2 _ _ _ by rw [← hW6]; exact ownsRow_setCell_below (ownsRow_setCell_below (ownsRow_setCell_below (ownsRow_setCell_below HRO.out (a := ⟨w2.heap.size, 0, none⟩) hlt3 _) (a := ⟨w2.heap.size, 1, none⟩) hlt3 _) (a := ⟨w2.heap.size, 2, none⟩) hlt3 _) (a := ⟨w2.heap.size, 1, none⟩) hlt3 _))
  clear hW6 v0 v1 v2 vf0 vf1 vf2 hlt3
  clear x0 x1 x2 x3 x4 x5
  have v0 := HV6.out.c0; have v1 := HV6.out.c1; have v2 := HV6.out.c2
  have hlv6 := HV6.out.lt
  go_wp2_with fail
  refine (rwith_any (BvFar (w.heap.size + 1) _) m ⟨d.id, nn, cutL d.blocks nn 100000⟩ pb cb _ _ (volsQ_far HM.out HB6.out (Nat.le_succ _)) (by omega) HMP.out.rise HFR.out).mono ?_
  rintro e w5 ⟨v5, rfl, hrow, hb⟩
  have HRW := Lib.hid hrow; have HBW := Lib.hid hb
  obtain ⟨pv, cv, hv5⟩ := vrow_slice hrow
  subst hv5
  have HB5 := Lib.hid (btrans HB6.out hb); have HR5 := Lib.hid (HR6.out.below hb)
  clear hb hrow
  have r0 := HR5.out.c0; have r1 := HR5.out.c1; have r2 := HR5.out.c2; have s0 := HR5.out.f0; have s1 := HR5.out.f1; have s2 := HR5.out.f2
  have hlr := HR5.out.lt
  go_wp2_with fail
  refine bodyPost_ret (v := .tuple #[.slice pv (putG VolD.id m ⟨d.id, nn, cutL d.blocks nn 100000⟩).length cv, .agg #[.int .i64 0, .string ⟨#[]⟩, .int .i64 0]]) (by simp [results, Tryd.results11, go_sem, r0, r1, r2]) rfl ⟨_, by rw [ans_of HMP.out HF.out (show (2 : Int) ≠ 3 ∧ (2 : Int) ≠ 8 by decide)]; rfl, ?_, ?_⟩
  · rw [HD.out, ← cut_past HVP.out]; exact vrow_end HRW.out HBW.out (by have := HR6.out.lt; omega)
  · exact below_end HB5.out (Nat.le_succ _)
end Go.Proofs.YtgabifkechofnaaDoor
namespace Go.Proofs.YtgabifkechofnaaDoor
open Go.RowKit

set_option maxRecDepth 100000 in
set_option maxHeartbeats 8000000 in
theorem rdo_3 (m : List VolD) (vo de bl nn : Int) (tx : ByteArray) (v : Value) (w : World) (hm : ModelAt w v m) (hmp : MayP m) (hbl : ∀ d ∈ m, d.blocks.length ≤ 50000) (hf : faultL m ⟨3, vo, de, bl, nn, tx⟩ = 0) :
    Calls Tryd.prog 11 #[v, .agg #[.int .i64 3, .int .i64 vo, .int .i64 de, .int .i64 bl, .int .i64 nn, .string tx]] w (RDoEnd m ⟨3, vo, de, bl, nn, tx⟩ w) := by
  obtain ⟨d, hg⟩ : ∃ d, getV m vo = some d := by
    have h0 : faultOfL (sizeL m vo) ⟨3, vo, de, bl, nn, tx⟩ = 0 := by rw [← faultL_of (x := ⟨3, vo, de, bl, nn, tx⟩) (show (1 : Int) ≤ 3 ∧ (3 : Int) ≤ 5 by decide)]; exact hf
    obtain ⟨d, hd, _⟩ := size_some hmp (faultOf_neg h0)
    exact ⟨d, hd⟩
  obtain ⟨i, hfl, hdi, hdid⟩ := find_some hg
  have HFI := Lib.hid (show findI m vo = (i : Int) by unfold findI; rw [hfl])
  have hvp := hmp.vol d (look_mem hg).1
  have hblk : d.blocks.length ≤ 50000 := hbl d (look_mem hg).1
  have hi64 : (i : Int) < (m.length : Int) := by have := (List.getElem?_eq_some_iff.1 hdi).1; omega
  have HVP := Lib.hid hvp; have HDI := Lib.hid hdi; have HG := Lib.hid hg; have HID := Lib.hid hdid
  clear hfl hvp hdi hg hdid
  have HB0 := Lib.hid (show Below w.heap.size w ((w.alloc (.cells #[.int .i64 3, .int .i64 vo, .int .i64 de, .int .i64 bl, .int .i64 nn, .string tx] 24)).alloc (.cells #[.int .i64 0, .string ⟨#[]⟩, .int .i64 0] 29)) from ((Below.refl w.heap.size w).alloc (Nat.le_refl _) _).alloc (by simp) _)
  have HX0 := Lib.hid (show OBox w.heap.size ⟨3, vo, de, bl, nn, tx⟩ ((w.alloc (.cells #[.int .i64 3, .int .i64 vo, .int .i64 de, .int .i64 bl, .int .i64 nn, .string tx] 24)).alloc (.cells #[.int .i64 0, .string ⟨#[]⟩, .int .i64 0] 29)) from (OBox.new ⟨3, vo, de, bl, nn, tx⟩ _ rfl).below ((Below.refl _ _).alloc (Nat.le_refl _) _))
  have HR0 := Lib.hid (show FBox (w.heap.size + 1) (.int .i64 0) (.string ⟨#[]⟩) (.int .i64 0) ((w.alloc (.cells #[.int .i64 3, .int .i64 vo, .int .i64 de, .int .i64 bl, .int .i64 nn, .string tx] 24)).alloc (.cells #[.int .i64 0, .string ⟨#[]⟩, .int .i64 0] 29)) from FBox.new _ (by simp))
  have HM := Lib.hid hm
  obtain ⟨p, c, rfl, hc1, hc2, hel⟩ := hm
  have HEL := Lib.hid hel
  clear hel hc1 hc2
  have HY := Lib.hid ((may_iff m).2 hmp); have HMP := Lib.hid hmp; have HF := Lib.hid hf; have HBL := Lib.hid hbl; clear hf hbl
  have hm64 : (m.length : Int) ≤ 64 := by have := hmp.len; omega
  obtain ⟨g, o, bp, bc, hpe, e0, e1, e2, hbc1, hbc2, hbin⟩ := HEL.out i d HDI.out
  subst hpe
  have HBI := Lib.hid hbin; have HBC := Lib.hid (And.intro hbc1 hbc2)
  have HE := Lib.hid (And.intro e0 (And.intro e1 e2))
  clear hbin hbc1 hbc2 e0 e1 e2
  clear hmp
  go_enter Tryd.func11, Tryd.ntmps11
  go_wp2_with fail
  refine (rmay_any m _ _ (HM.out.stays HB0.out)).mono ?_
  rintro e w1 ⟨rfl, hb⟩
  rw [HY.out]
  have HB1 := Lib.hid (btrans HB0.out hb); have HX1 := Lib.hid (HX0.out.below hb); have HR1 := Lib.hid (HR0.out.below hb)
  clear hb
  have x0 := HX1.out.c 0 _ rfl
  have x1 := HX1.out.c 1 _ rfl
  have x2 := HX1.out.c 2 _ rfl
  have x3 := HX1.out.c 3 _ rfl
  have x4 := HX1.out.c 4 _ rfl
  have x5 := HX1.out.c 5 _ rfl
  go_wp2_with fail
  refine (wrong_any m ⟨3, vo, de, bl, nn, tx⟩ _ _ (HM.out.stays HB1.out) HMP.out).mono ?_
  rintro e w2 ⟨rfl, hb⟩
  have HB2 := Lib.hid (btrans HB1.out hb); have HX2 := Lib.hid (HX1.out.below hb); have HR2 := Lib.hid (HR1.out.below hb)
  clear hb
  clear x0 x1 x2 x3 x4 x5
  rw [HF.out]
  have x0 := HX2.out.c 0 _ rfl
  have x1 := HX2.out.c 1 _ rfl
  have x2 := HX2.out.c 2 _ rfl
  have x3 := HX2.out.c 3 _ rfl
  have x4 := HX2.out.c 4 _ rfl
  have x5 := HX2.out.c 5 _ rfl
  have hlx := HX2.out.lt; have hlr2 := HR2.out.lt
  go_wp2_with fail
  have E0 := cell_stays HB2.out HE.out.1; have E1 := cell_stays HB2.out HE.out.2.1; have E2 := cell_stays HB2.out HE.out.2.2
  have g0 := World.block_lt_of_cell? _ _ E0
  refine (rfind_any m vo _ _ (HM.out.stays ((HB2.out.alloc HB2.out.size _ : Below w.heap.size w (w2.alloc (.cells #[.int .i64 0, .int .i64 0, .slice none 0 0] 41)))))).mono ?_
  rintro e _ ⟨rfl, rfl⟩
  rw [HFI.out]
  go_wp2_with fail
  refine (rfind_any m vo _ _ (HM.out.stays ((HB2.out.alloc HB2.out.size _ : Below w.heap.size w (w2.alloc (.cells #[.int .i64 0, .int .i64 0, .slice none 0 0] 41)))))).mono ?_
  rintro e _ ⟨rfl, rfl⟩
  rw [HFI.out]
  go_wp2_with fail
  have HB3 := Lib.hid (show Below w.heap.size w (w2.alloc (.cells #[.int .i64 d.id, .int .i64 d.size, .slice bp d.blocks.length bc] 41)) from HB2.out.alloc HB2.out.size _)
  have hal3 : Below w2.heap.size w2 (w2.alloc (.cells #[.int .i64 d.id, .int .i64 d.size, .slice bp d.blocks.length bc] 41)) := (Below.refl _ _).alloc (Nat.le_refl _) _
  have HX3 := Lib.hid (HX2.out.below hal3); have HR3 := Lib.hid (HR2.out.below hal3)
  clear hal3
  refine (rread_any d bl bp bc _ (HBI.out.stays HB3.out) (by omega)).mono ?_
  rintro e w5 ⟨rfl, hb⟩
  have HB5 := Lib.hid (btrans HB3.out hb); have HR5 := Lib.hid (HR3.out.below hb)
  clear hb
  have r0 := HR5.out.c0; have r1 := HR5.out.c1; have r2 := HR5.out.c2; have s0 := HR5.out.f0; have s1 := HR5.out.f1; have s2 := HR5.out.f2
  have hlr := HR5.out.lt
  go_wp2_with fail
  refine bodyPost_ret (v := .tuple #[.slice (some ⟨g, o, none⟩) m.length c, .agg #[.int .i64 0, .string (textL d.blocks bl), .int .i64 0]]) (by simp [results, Tryd.results11, go_sem, r0, r1, r2]) rfl ⟨_, by rw [does3 HMP.out HG.out HF.out]; rfl, ?_, ?_⟩
  · rw [does3 HMP.out HG.out HF.out]; exact model_end HM.out HB5.out (Nat.le_succ _)
  · exact below_end HB5.out (Nat.le_succ _)
end Go.Proofs.YtgabifkechofnaaDoor
namespace Go.Proofs.YtgabifkechofnaaDoor
open Go.RowKit

set_option maxRecDepth 100000 in
set_option maxHeartbeats 8000000 in
theorem rdo_4 (m : List VolD) (vo de bl nn : Int) (tx : ByteArray) (v : Value) (w : World) (hm : ModelAt w v m) (hmp : MayP m) (hbl : ∀ d ∈ m, d.blocks.length ≤ 50000) (hf : faultL m ⟨4, vo, de, bl, nn, tx⟩ = 0) :
    Calls Tryd.prog 11 #[v, .agg #[.int .i64 4, .int .i64 vo, .int .i64 de, .int .i64 bl, .int .i64 nn, .string tx]] w (RDoEnd m ⟨4, vo, de, bl, nn, tx⟩ w) := by
  obtain ⟨d, hg, ht, hs1, hD⟩ := done4 hmp hf
  obtain ⟨i, hfl, hdi, hdid⟩ := find_some hg
  have HFI := Lib.hid (show findI m vo = (i : Int) by unfold findI; rw [hfl])
  have hvp := hmp.vol d (look_mem hg).1
  have hblk : d.blocks.length ≤ 50000 := hbl d (look_mem hg).1
  have hi64 : (i : Int) < (m.length : Int) := by have := (List.getElem?_eq_some_iff.1 hdi).1; omega
  have HVP := Lib.hid hvp; have HDI := Lib.hid hdi; have HG := Lib.hid hg; have HID := Lib.hid hdid
  have HD := Lib.hid hD
  have HS1 := Lib.hid hs1
  clear hfl hvp hD hdi hg hdid
  have HB0 := Lib.hid (show Below w.heap.size w ((w.alloc (.cells #[.int .i64 4, .int .i64 vo, .int .i64 de, .int .i64 bl, .int .i64 nn, .string tx] 24)).alloc (.cells #[.int .i64 0, .string ⟨#[]⟩, .int .i64 0] 29)) from ((Below.refl w.heap.size w).alloc (Nat.le_refl _) _).alloc (by simp) _)
  have HX0 := Lib.hid (show OBox w.heap.size ⟨4, vo, de, bl, nn, tx⟩ ((w.alloc (.cells #[.int .i64 4, .int .i64 vo, .int .i64 de, .int .i64 bl, .int .i64 nn, .string tx] 24)).alloc (.cells #[.int .i64 0, .string ⟨#[]⟩, .int .i64 0] 29)) from (OBox.new ⟨4, vo, de, bl, nn, tx⟩ _ rfl).below ((Below.refl _ _).alloc (Nat.le_refl _) _))
  have HR0 := Lib.hid (show FBox (w.heap.size + 1) (.int .i64 0) (.string ⟨#[]⟩) (.int .i64 0) ((w.alloc (.cells #[.int .i64 4, .int .i64 vo, .int .i64 de, .int .i64 bl, .int .i64 nn, .string tx] 24)).alloc (.cells #[.int .i64 0, .string ⟨#[]⟩, .int .i64 0] 29)) from FBox.new _ (by simp))
  have HM := Lib.hid hm
  obtain ⟨p, c, rfl, hc1, hc2, hel⟩ := hm
  have HEL := Lib.hid hel
  clear hel hc1 hc2
  have HY := Lib.hid ((may_iff m).2 hmp); have HMP := Lib.hid hmp; have HF := Lib.hid hf; have HBL := Lib.hid hbl; clear hf hbl
  have hm64 : (m.length : Int) ≤ 64 := by have := hmp.len; omega
  obtain ⟨g, o, bp, bc, hpe, e0, e1, e2, hbc1, hbc2, hbin⟩ := HEL.out i d HDI.out
  subst hpe
  have HBI := Lib.hid hbin; have HBC := Lib.hid (And.intro hbc1 hbc2)
  have HE := Lib.hid (And.intro e0 (And.intro e1 e2))
  clear hbin hbc1 hbc2 e0 e1 e2
  clear hmp
  go_enter Tryd.func11, Tryd.ntmps11
  go_wp2_with fail
  refine (rmay_any m _ _ (HM.out.stays HB0.out)).mono ?_
  rintro e w1 ⟨rfl, hb⟩
  rw [HY.out]
  have HB1 := Lib.hid (btrans HB0.out hb); have HX1 := Lib.hid (HX0.out.below hb); have HR1 := Lib.hid (HR0.out.below hb)
  clear hb
  have x0 := HX1.out.c 0 _ rfl
  have x1 := HX1.out.c 1 _ rfl
  have x2 := HX1.out.c 2 _ rfl
  have x3 := HX1.out.c 3 _ rfl
  have x4 := HX1.out.c 4 _ rfl
  have x5 := HX1.out.c 5 _ rfl
  go_wp2_with fail
  refine (wrong_any m ⟨4, vo, de, bl, nn, tx⟩ _ _ (HM.out.stays HB1.out) HMP.out).mono ?_
  rintro e w2 ⟨rfl, hb⟩
  have HB2 := Lib.hid (btrans HB1.out hb); have HX2 := Lib.hid (HX1.out.below hb); have HR2 := Lib.hid (HR1.out.below hb)
  clear hb
  clear x0 x1 x2 x3 x4 x5
  rw [HF.out]
  have x0 := HX2.out.c 0 _ rfl
  have x1 := HX2.out.c 1 _ rfl
  have x2 := HX2.out.c 2 _ rfl
  have x3 := HX2.out.c 3 _ rfl
  have x4 := HX2.out.c 4 _ rfl
  have x5 := HX2.out.c 5 _ rfl
  have hlx := HX2.out.lt; have hlr2 := HR2.out.lt
  go_wp2_with fail
  have E0 := cell_stays HB2.out HE.out.1; have E1 := cell_stays HB2.out HE.out.2.1; have E2 := cell_stays HB2.out HE.out.2.2
  have g0 := World.block_lt_of_cell? _ _ E0
  refine (rfind_any m vo _ _ (HM.out.stays ((HB2.out.alloc HB2.out.size _ : Below w.heap.size w (w2.alloc (.cells #[.int .i64 0, .int .i64 0, .slice none 0 0] 41)))))).mono ?_
  rintro e _ ⟨rfl, rfl⟩
  rw [HFI.out]
  go_wp2_with fail
  refine (rfind_any m vo _ _ (HM.out.stays ((HB2.out.alloc HB2.out.size _ : Below w.heap.size w (w2.alloc (.cells #[.int .i64 0, .int .i64 0, .slice none 0 0] 41)))))).mono ?_
  rintro e _ ⟨rfl, rfl⟩
  rw [HFI.out]
  go_wp2_with fail
  have HB3 := Lib.hid (show Below w.heap.size w (w2.alloc (.cells #[.int .i64 d.id, .int .i64 d.size, .slice bp d.blocks.length bc] 41)) from HB2.out.alloc HB2.out.size _)
  have hal3 : Below w2.heap.size w2 (w2.alloc (.cells #[.int .i64 d.id, .int .i64 d.size, .slice bp d.blocks.length bc] 41)) := (Below.refl _ _).alloc (Nat.le_refl _) _
  have HX3 := Lib.hid (HX2.out.below hal3); have HR3 := Lib.hid (HR2.out.below hal3)
  clear hal3
  have hb2 := HS1.out
  have hsz := HVP.out.size
  refine (rwrite_any d bl tx bp bc _ (HBI.out.stays HB3.out) (by omega) (by omega)).mono ?_
  rintro e w4 ⟨bv, rfl, hrow, hb⟩
  obtain ⟨LL, hLL⟩ : ∃ LL, cutL d.blocks bl 100000 ++ [(⟨bl, tx⟩ : BlkD)] ++ cutL d.blocks 0 (bl + 1) = LL := ⟨_, rfl⟩
  rw [hLL] at hrow
  have HLL := Lib.hid hLL
  clear hLL
  obtain ⟨pb, cb, hbv, _, _, _⟩ := blks_of_own hrow
  subst hbv
  have HB4 := Lib.hid (btrans HB3.out hb); have HR4 := Lib.hid (HR3.out.below hb)
  have HFR := Lib.hid (far_of_row (b := w.heap.size + 1) (d := ⟨d.id, d.size, LL⟩) HR3.out.lt hrow)
  clear hb hrow
  go_wp2_with fail
  refine (rwith_any (BvFar (w.heap.size + 1) _) m ⟨d.id, d.size, LL⟩ pb cb _ _ (volsQ_far HM.out HB4.out (Nat.le_succ _)) (by omega) HMP.out.rise HFR.out).mono ?_
  rintro e w5 ⟨v5, rfl, hrow, hb⟩
  have HRW := Lib.hid hrow; have HBW := Lib.hid hb
  obtain ⟨pv, cv, hv5⟩ := vrow_slice hrow
  subst hv5
  have HB5 := Lib.hid (btrans HB4.out hb); have HR5 := Lib.hid (HR4.out.below hb)
  clear hb hrow
  have r0 := HR5.out.c0; have r1 := HR5.out.c1; have r2 := HR5.out.c2; have s0 := HR5.out.f0; have s1 := HR5.out.f1; have s2 := HR5.out.f2
  have hlr := HR5.out.lt
  go_wp2_with fail
  refine bodyPost_ret (v := .tuple #[.slice pv (putG VolD.id m ⟨d.id, d.size, LL⟩).length cv, .agg #[.int .i64 0, .string ⟨#[]⟩, .int .i64 0]]) (by simp [results, Tryd.results11, go_sem, r0, r1, r2]) rfl ⟨_, by rw [ans_of HMP.out HF.out (show (4 : Int) ≠ 3 ∧ (4 : Int) ≠ 8 by decide)]; rfl, ?_, ?_⟩
  · rw [HD.out, ← write_put HVP.out, HLL.out]; exact vrow_end HRW.out HBW.out (by have := HR4.out.lt; omega)
  · exact below_end HB5.out (Nat.le_succ _)
end Go.Proofs.YtgabifkechofnaaDoor
namespace Go.Proofs.YtgabifkechofnaaDoor
open Go.RowKit

set_option maxRecDepth 100000 in
set_option maxHeartbeats 8000000 in
theorem rdo_5 (m : List VolD) (vo de bl nn : Int) (tx : ByteArray) (v : Value) (w : World) (hm : ModelAt w v m) (hmp : MayP m) (hbl : ∀ d ∈ m, d.blocks.length ≤ 50000) (hf : faultL m ⟨5, vo, de, bl, nn, tx⟩ = 0) :
    Calls Tryd.prog 11 #[v, .agg #[.int .i64 5, .int .i64 vo, .int .i64 de, .int .i64 bl, .int .i64 nn, .string tx]] w (RDoEnd m ⟨5, vo, de, bl, nn, tx⟩ w) := by
  obtain ⟨d, hg, hs1, hD⟩ := done5 hmp hf
  obtain ⟨i, hfl, hdi, hdid⟩ := find_some hg
  have HFI := Lib.hid (show findI m vo = (i : Int) by unfold findI; rw [hfl])
  have hvp := hmp.vol d (look_mem hg).1
  have hblk : d.blocks.length ≤ 50000 := hbl d (look_mem hg).1
  have hi64 : (i : Int) < (m.length : Int) := by have := (List.getElem?_eq_some_iff.1 hdi).1; omega
  have HVP := Lib.hid hvp; have HDI := Lib.hid hdi; have HG := Lib.hid hg; have HID := Lib.hid hdid
  have HD := Lib.hid hD
  have hsz := hvp.size.2; have hwr : IntKind.i64.wrap (bl + nn) = bl + nn := IntWalk.i64_in _ (by omega)
  clear hfl hvp hD hdi hg hdid
  have HB0 := Lib.hid (show Below w.heap.size w ((w.alloc (.cells #[.int .i64 5, .int .i64 vo, .int .i64 de, .int .i64 bl, .int .i64 nn, .string tx] 24)).alloc (.cells #[.int .i64 0, .string ⟨#[]⟩, .int .i64 0] 29)) from ((Below.refl w.heap.size w).alloc (Nat.le_refl _) _).alloc (by simp) _)
  have HX0 := Lib.hid (show OBox w.heap.size ⟨5, vo, de, bl, nn, tx⟩ ((w.alloc (.cells #[.int .i64 5, .int .i64 vo, .int .i64 de, .int .i64 bl, .int .i64 nn, .string tx] 24)).alloc (.cells #[.int .i64 0, .string ⟨#[]⟩, .int .i64 0] 29)) from (OBox.new ⟨5, vo, de, bl, nn, tx⟩ _ rfl).below ((Below.refl _ _).alloc (Nat.le_refl _) _))
  have HR0 := Lib.hid (show FBox (w.heap.size + 1) (.int .i64 0) (.string ⟨#[]⟩) (.int .i64 0) ((w.alloc (.cells #[.int .i64 5, .int .i64 vo, .int .i64 de, .int .i64 bl, .int .i64 nn, .string tx] 24)).alloc (.cells #[.int .i64 0, .string ⟨#[]⟩, .int .i64 0] 29)) from FBox.new _ (by simp))
  have HM := Lib.hid hm
  obtain ⟨p, c, rfl, hc1, hc2, hel⟩ := hm
  have HEL := Lib.hid hel
  clear hel hc1 hc2
  have HY := Lib.hid ((may_iff m).2 hmp); have HMP := Lib.hid hmp; have HF := Lib.hid hf; have HBL := Lib.hid hbl; clear hf hbl
  have hm64 : (m.length : Int) ≤ 64 := by have := hmp.len; omega
  obtain ⟨g, o, bp, bc, hpe, e0, e1, e2, hbc1, hbc2, hbin⟩ := HEL.out i d HDI.out
  subst hpe
  have HBI := Lib.hid hbin; have HBC := Lib.hid (And.intro hbc1 hbc2)
  have HE := Lib.hid (And.intro e0 (And.intro e1 e2))
  clear hbin hbc1 hbc2 e0 e1 e2
  clear hmp
  go_enter Tryd.func11, Tryd.ntmps11
  go_wp2_with fail
  refine (rmay_any m _ _ (HM.out.stays HB0.out)).mono ?_
  rintro e w1 ⟨rfl, hb⟩
  rw [HY.out]
  have HB1 := Lib.hid (btrans HB0.out hb); have HX1 := Lib.hid (HX0.out.below hb); have HR1 := Lib.hid (HR0.out.below hb)
  clear hb
  have x0 := HX1.out.c 0 _ rfl
  have x1 := HX1.out.c 1 _ rfl
  have x2 := HX1.out.c 2 _ rfl
  have x3 := HX1.out.c 3 _ rfl
  have x4 := HX1.out.c 4 _ rfl
  have x5 := HX1.out.c 5 _ rfl
  go_wp2_with fail
  refine (wrong_any m ⟨5, vo, de, bl, nn, tx⟩ _ _ (HM.out.stays HB1.out) HMP.out).mono ?_
  rintro e w2 ⟨rfl, hb⟩
  have HB2 := Lib.hid (btrans HB1.out hb); have HX2 := Lib.hid (HX1.out.below hb); have HR2 := Lib.hid (HR1.out.below hb)
  clear hb
  clear x0 x1 x2 x3 x4 x5
  rw [HF.out]
  have x0 := HX2.out.c 0 _ rfl
  have x1 := HX2.out.c 1 _ rfl
  have x2 := HX2.out.c 2 _ rfl
  have x3 := HX2.out.c 3 _ rfl
  have x4 := HX2.out.c 4 _ rfl
  have x5 := HX2.out.c 5 _ rfl
  have hlx := HX2.out.lt; have hlr2 := HR2.out.lt
  go_wp2_with fail
  have E0 := cell_stays HB2.out HE.out.1; have E1 := cell_stays HB2.out HE.out.2.1; have E2 := cell_stays HB2.out HE.out.2.2
  have g0 := World.block_lt_of_cell? _ _ E0
  refine (rfind_any m vo _ _ (HM.out.stays ((HB2.out.alloc HB2.out.size _ : Below w.heap.size w (w2.alloc (.cells #[.int .i64 0, .int .i64 0, .slice none 0 0] 41)))))).mono ?_
  rintro e _ ⟨rfl, rfl⟩
  rw [HFI.out]
  go_wp2_with fail
  refine (rfind_any m vo _ _ (HM.out.stays ((HB2.out.alloc HB2.out.size _ : Below w.heap.size w (w2.alloc (.cells #[.int .i64 0, .int .i64 0, .slice none 0 0] 41)))))).mono ?_
  rintro e _ ⟨rfl, rfl⟩
  rw [HFI.out]
  go_wp2_with fail
  have HB3 := Lib.hid (show Below w.heap.size w (w2.alloc (.cells #[.int .i64 d.id, .int .i64 d.size, .slice bp d.blocks.length bc] 41)) from HB2.out.alloc HB2.out.size _)
  have hal3 : Below w2.heap.size w2 (w2.alloc (.cells #[.int .i64 d.id, .int .i64 d.size, .slice bp d.blocks.length bc] 41)) := (Below.refl _ _).alloc (Nat.le_refl _) _
  have HX3 := Lib.hid (HX2.out.below hal3); have HR3 := Lib.hid (HR2.out.below hal3)
  clear hal3
  refine (rcut_any d bl (bl + nn) bp bc _ (HBI.out.stays HB3.out) (by omega)).mono ?_
  rintro e w4 ⟨bv, rfl, hrow, hb⟩
  obtain ⟨LL, hLL⟩ : ∃ LL, cutL d.blocks bl (bl + nn) = LL := ⟨_, rfl⟩
  rw [hLL] at hrow
  have HLL := Lib.hid hLL
  clear hLL
  obtain ⟨pb, cb, hbv, _, _, _⟩ := blks_of_own hrow
  subst hbv
  have HB4 := Lib.hid (btrans HB3.out hb); have HR4 := Lib.hid (HR3.out.below hb)
  have HFR := Lib.hid (far_of_row (b := w.heap.size + 1) (d := ⟨d.id, d.size, LL⟩) HR3.out.lt hrow)
  clear hb hrow
  go_wp2_with fail
  refine (rwith_any (BvFar (w.heap.size + 1) _) m ⟨d.id, d.size, LL⟩ pb cb _ _ (volsQ_far HM.out HB4.out (Nat.le_succ _)) (by omega) HMP.out.rise HFR.out).mono ?_
  rintro e w5 ⟨v5, rfl, hrow, hb⟩
  have HRW := Lib.hid hrow; have HBW := Lib.hid hb
  obtain ⟨pv, cv, hv5⟩ := vrow_slice hrow
  subst hv5
  have HB5 := Lib.hid (btrans HB4.out hb); have HR5 := Lib.hid (HR4.out.below hb)
  clear hb hrow
  have r0 := HR5.out.c0; have r1 := HR5.out.c1; have r2 := HR5.out.c2; have s0 := HR5.out.f0; have s1 := HR5.out.f1; have s2 := HR5.out.f2
  have hlr := HR5.out.lt
  go_wp2_with fail
  refine bodyPost_ret (v := .tuple #[.slice pv (putG VolD.id m ⟨d.id, d.size, LL⟩).length cv, .agg #[.int .i64 0, .string ⟨#[]⟩, .int .i64 0]]) (by simp [results, Tryd.results11, go_sem, r0, r1, r2]) rfl ⟨_, by rw [ans_of HMP.out HF.out (show (5 : Int) ≠ 3 ∧ (5 : Int) ≠ 8 by decide)]; rfl, ?_, ?_⟩
  · rw [HD.out, HLL.out]; exact vrow_end HRW.out HBW.out (by have := HR4.out.lt; omega)
  · exact below_end HB5.out (Nat.le_succ _)
end Go.Proofs.YtgabifkechofnaaDoor
namespace Go.Proofs.YtgabifkechofnaaDoor
open Go.RowKit

set_option maxRecDepth 100000 in
set_option maxHeartbeats 8000000 in
theorem rdo_6 (m : List VolD) (vo de bl nn : Int) (tx : ByteArray) (v : Value) (w : World) (hm : ModelAt w v m) (hmp : MayP m) (hbl : ∀ d ∈ m, d.blocks.length ≤ 50000) (hf : faultL m ⟨6, vo, de, bl, nn, tx⟩ = 0) :
    Calls Tryd.prog 11 #[v, .agg #[.int .i64 6, .int .i64 vo, .int .i64 de, .int .i64 bl, .int .i64 nn, .string tx]] w (RDoEnd m ⟨6, vo, de, bl, nn, tx⟩ w) := by
  obtain ⟨d, hg, hn, hD⟩ := done6 hmp hf
  obtain ⟨i, hfl, hdi, hdid⟩ := find_some hg
  have HFI := Lib.hid (show findI m vo = (i : Int) by unfold findI; rw [hfl])
  have hvp := hmp.vol d (look_mem hg).1
  have hblk : d.blocks.length ≤ 50000 := hbl d (look_mem hg).1
  have hi64 : (i : Int) < (m.length : Int) := by have := (List.getElem?_eq_some_iff.1 hdi).1; omega
  have HVP := Lib.hid hvp; have HDI := Lib.hid hdi; have HG := Lib.hid hg; have HID := Lib.hid hdid
  have HD := Lib.hid hD
  clear hfl hvp hD hdi hg hdid
  have HB0 := Lib.hid (show Below w.heap.size w ((w.alloc (.cells #[.int .i64 6, .int .i64 vo, .int .i64 de, .int .i64 bl, .int .i64 nn, .string tx] 24)).alloc (.cells #[.int .i64 0, .string ⟨#[]⟩, .int .i64 0] 29)) from ((Below.refl w.heap.size w).alloc (Nat.le_refl _) _).alloc (by simp) _)
  have HX0 := Lib.hid (show OBox w.heap.size ⟨6, vo, de, bl, nn, tx⟩ ((w.alloc (.cells #[.int .i64 6, .int .i64 vo, .int .i64 de, .int .i64 bl, .int .i64 nn, .string tx] 24)).alloc (.cells #[.int .i64 0, .string ⟨#[]⟩, .int .i64 0] 29)) from (OBox.new ⟨6, vo, de, bl, nn, tx⟩ _ rfl).below ((Below.refl _ _).alloc (Nat.le_refl _) _))
  have HR0 := Lib.hid (show FBox (w.heap.size + 1) (.int .i64 0) (.string ⟨#[]⟩) (.int .i64 0) ((w.alloc (.cells #[.int .i64 6, .int .i64 vo, .int .i64 de, .int .i64 bl, .int .i64 nn, .string tx] 24)).alloc (.cells #[.int .i64 0, .string ⟨#[]⟩, .int .i64 0] 29)) from FBox.new _ (by simp))
  have HM := Lib.hid hm
  obtain ⟨p, c, rfl, hc1, hc2, hel⟩ := hm
  have HEL := Lib.hid hel
  clear hel hc1 hc2
  have HY := Lib.hid ((may_iff m).2 hmp); have HMP := Lib.hid hmp; have HF := Lib.hid hf; have HBL := Lib.hid hbl; clear hf hbl
  have hm64 : (m.length : Int) ≤ 64 := by have := hmp.len; omega
  obtain ⟨g, o, bp, bc, hpe, e0, e1, e2, hbc1, hbc2, hbin⟩ := HEL.out i d HDI.out
  subst hpe
  have HBI := Lib.hid hbin; have HBC := Lib.hid (And.intro hbc1 hbc2)
  have HE := Lib.hid (And.intro e0 (And.intro e1 e2))
  clear hbin hbc1 hbc2 e0 e1 e2
  clear hmp
  go_enter Tryd.func11, Tryd.ntmps11
  go_wp2_with fail
  refine (rmay_any m _ _ (HM.out.stays HB0.out)).mono ?_
  rintro e w1 ⟨rfl, hb⟩
  rw [HY.out]
  have HB1 := Lib.hid (btrans HB0.out hb); have HX1 := Lib.hid (HX0.out.below hb); have HR1 := Lib.hid (HR0.out.below hb)
  clear hb
  have x0 := HX1.out.c 0 _ rfl
  have x1 := HX1.out.c 1 _ rfl
  have x2 := HX1.out.c 2 _ rfl
  have x3 := HX1.out.c 3 _ rfl
  have x4 := HX1.out.c 4 _ rfl
  have x5 := HX1.out.c 5 _ rfl
  go_wp2_with fail
  refine (wrong_any m ⟨6, vo, de, bl, nn, tx⟩ _ _ (HM.out.stays HB1.out) HMP.out).mono ?_
  rintro e w2 ⟨rfl, hb⟩
  have HB2 := Lib.hid (btrans HB1.out hb); have HX2 := Lib.hid (HX1.out.below hb); have HR2 := Lib.hid (HR1.out.below hb)
  clear hb
  clear x0 x1 x2 x3 x4 x5
  rw [HF.out]
  have x0 := HX2.out.c 0 _ rfl
  have x1 := HX2.out.c 1 _ rfl
  have x2 := HX2.out.c 2 _ rfl
  have x3 := HX2.out.c 3 _ rfl
  have x4 := HX2.out.c 4 _ rfl
  have x5 := HX2.out.c 5 _ rfl
  have hlx := HX2.out.lt; have hlr2 := HR2.out.lt
  go_wp2_with fail
  have E0 := cell_stays HB2.out HE.out.1; have E1 := cell_stays HB2.out HE.out.2.1; have E2 := cell_stays HB2.out HE.out.2.2
  have g0 := World.block_lt_of_cell? _ _ E0
  refine (rfind_any m vo _ _ (HM.out.stays ((HB2.out.alloc HB2.out.size _ : Below w.heap.size w (w2.alloc (.cells #[.int .i64 0, .int .i64 0, .slice none 0 0] 41)))))).mono ?_
  rintro e _ ⟨rfl, rfl⟩
  rw [HFI.out]
  go_wp2_with fail
  refine (rfind_any m vo _ _ (HM.out.stays ((HB2.out.alloc HB2.out.size _ : Below w.heap.size w (w2.alloc (.cells #[.int .i64 0, .int .i64 0, .slice none 0 0] 41)))))).mono ?_
  rintro e _ ⟨rfl, rfl⟩
  rw [HFI.out]
  go_wp2_with fail
  have HB3 := Lib.hid (show Below w.heap.size w (w2.alloc (.cells #[.int .i64 de, .int .i64 d.size, .slice bp d.blocks.length bc] 41)) from HB2.out.alloc HB2.out.size _)
  have hal3 : Below w2.heap.size w2 (w2.alloc (.cells #[.int .i64 de, .int .i64 d.size, .slice bp d.blocks.length bc] 41)) := (Below.refl _ _).alloc (Nat.le_refl _) _
  have HX3 := Lib.hid (HX2.out.below hal3); have HR3 := Lib.hid (HR2.out.below hal3)
  clear hal3
  refine (rwith_any (BvFar (w.heap.size + 1) _) m ⟨de, d.size, d.blocks⟩ bp bc _ _ (volsQ_far HM.out HB3.out (Nat.le_succ _)) (by omega) HMP.out.rise (far_of_elder HB3.out (Nat.le_succ _) HBC.out.1 HBC.out.2 HBI.out)).mono ?_
  rintro e w5 ⟨v5, rfl, hrow, hb⟩
  have HRW := Lib.hid hrow; have HBW := Lib.hid hb
  obtain ⟨pv, cv, hv5⟩ := vrow_slice hrow
  subst hv5
  have HB5 := Lib.hid (btrans HB3.out hb); have HR5 := Lib.hid (HR3.out.below hb)
  clear hb hrow
  have r0 := HR5.out.c0; have r1 := HR5.out.c1; have r2 := HR5.out.c2; have s0 := HR5.out.f0; have s1 := HR5.out.f1; have s2 := HR5.out.f2
  have hlr := HR5.out.lt
  go_wp2_with fail
  refine bodyPost_ret (v := .tuple #[.slice pv (putG VolD.id m ⟨de, d.size, d.blocks⟩).length cv, .agg #[.int .i64 0, .string ⟨#[]⟩, .int .i64 0]]) (by simp [results, Tryd.results11, go_sem, r0, r1, r2]) rfl ⟨_, by rw [ans_of HMP.out HF.out (show (6 : Int) ≠ 3 ∧ (6 : Int) ≠ 8 by decide)]; rfl, ?_, ?_⟩
  · rw [HD.out]; exact vrow_end HRW.out HBW.out (by have := HR3.out.lt; omega)
  · exact below_end HB5.out (Nat.le_succ _)
end Go.Proofs.YtgabifkechofnaaDoor
namespace Go.Proofs.YtgabifkechofnaaDoor
open Go.RowKit

set_option maxRecDepth 100000 in
set_option maxHeartbeats 8000000 in
theorem rdo_7 (m : List VolD) (vo de bl nn : Int) (tx : ByteArray) (v : Value) (w : World) (hm : ModelAt w v m) (hmp : MayP m) (hbl : ∀ d ∈ m, d.blocks.length ≤ 50000) (hf : faultL m ⟨7, vo, de, bl, nn, tx⟩ = 0) :
    Calls Tryd.prog 11 #[v, .agg #[.int .i64 7, .int .i64 vo, .int .i64 de, .int .i64 bl, .int .i64 nn, .string tx]] w (RDoEnd m ⟨7, vo, de, bl, nn, tx⟩ w) := by
  have HB0 := Lib.hid (show Below w.heap.size w ((w.alloc (.cells #[.int .i64 7, .int .i64 vo, .int .i64 de, .int .i64 bl, .int .i64 nn, .string tx] 24)).alloc (.cells #[.int .i64 0, .string ⟨#[]⟩, .int .i64 0] 29)) from ((Below.refl w.heap.size w).alloc (Nat.le_refl _) _).alloc (by simp) _)
  have HX0 := Lib.hid (show OBox w.heap.size ⟨7, vo, de, bl, nn, tx⟩ ((w.alloc (.cells #[.int .i64 7, .int .i64 vo, .int .i64 de, .int .i64 bl, .int .i64 nn, .string tx] 24)).alloc (.cells #[.int .i64 0, .string ⟨#[]⟩, .int .i64 0] 29)) from (OBox.new ⟨7, vo, de, bl, nn, tx⟩ _ rfl).below ((Below.refl _ _).alloc (Nat.le_refl _) _))
  have HR0 := Lib.hid (show FBox (w.heap.size + 1) (.int .i64 0) (.string ⟨#[]⟩) (.int .i64 0) ((w.alloc (.cells #[.int .i64 7, .int .i64 vo, .int .i64 de, .int .i64 bl, .int .i64 nn, .string tx] 24)).alloc (.cells #[.int .i64 0, .string ⟨#[]⟩, .int .i64 0] 29)) from FBox.new _ (by simp))
  have HM := Lib.hid hm
  obtain ⟨p, c, rfl, hc1, hc2, hel⟩ := hm
  have HEL := Lib.hid hel
  clear hel hc1 hc2
  have HY := Lib.hid ((may_iff m).2 hmp); have HMP := Lib.hid hmp; have HF := Lib.hid hf; have HBL := Lib.hid hbl; clear hf hbl
  have hm64 : (m.length : Int) ≤ 64 := by have := hmp.len; omega
  clear hmp
  go_enter Tryd.func11, Tryd.ntmps11
  go_wp2_with fail
  refine (rmay_any m _ _ (HM.out.stays HB0.out)).mono ?_
  rintro e w1 ⟨rfl, hb⟩
  rw [HY.out]
  have HB1 := Lib.hid (btrans HB0.out hb); have HX1 := Lib.hid (HX0.out.below hb); have HR1 := Lib.hid (HR0.out.below hb)
  clear hb
  have x0 := HX1.out.c 0 _ rfl
  have x1 := HX1.out.c 1 _ rfl
  have x2 := HX1.out.c 2 _ rfl
  have x3 := HX1.out.c 3 _ rfl
  have x4 := HX1.out.c 4 _ rfl
  have x5 := HX1.out.c 5 _ rfl
  go_wp2_with fail
  refine (wrong_any m ⟨7, vo, de, bl, nn, tx⟩ _ _ (HM.out.stays HB1.out) HMP.out).mono ?_
  rintro e w2 ⟨rfl, hb⟩
  have HB2 := Lib.hid (btrans HB1.out hb); have HX2 := Lib.hid (HX1.out.below hb); have HR2 := Lib.hid (HR1.out.below hb)
  clear hb
  clear x0 x1 x2 x3 x4 x5
  rw [HF.out]
  have x0 := HX2.out.c 0 _ rfl
  have x1 := HX2.out.c 1 _ rfl
  have x2 := HX2.out.c 2 _ rfl
  have x3 := HX2.out.c 3 _ rfl
  have x4 := HX2.out.c 4 _ rfl
  have x5 := HX2.out.c 5 _ rfl
  have hlx := HX2.out.lt; have hlr2 := HR2.out.lt
  go_wp2_with fail
  have hfs := find_size HMP.out vo
  rcases hfs with ⟨hfi, _⟩ | ⟨i, d, hfi, hdi, _⟩
  · have HFI := Lib.hid hfi; clear hfi
    refine (rfind_any m vo _ _ (HM.out.stays ((HB2.out.alloc HB2.out.size _ : Below w.heap.size w (w2.alloc (.cells #[.int .i64 0, .int .i64 0, .slice none 0 0] 41)))))).mono ?_
    rintro e _ ⟨rfl, rfl⟩
    rw [HFI.out]
    have r0 := HR2.out.c0; have r1 := HR2.out.c1; have r2 := HR2.out.c2; have s0 := HR2.out.f0; have s1 := HR2.out.f1; have s2 := HR2.out.f2
    have hlr := HR2.out.lt
    go_wp2_with fail
    refine bodyPost_ret (v := .tuple #[.slice p m.length c, .agg #[.int .i64 0, .string ⟨#[]⟩, .int .i64 0]]) (by simp [results, Tryd.results11, go_sem, r0, r1, r2, hlr]) rfl ⟨_, by rw [does7 HMP.out HF.out (show (7 : Int) = 7 ∨ (7 : Int) = 9 by decide)]; rfl, ?_, ?_⟩
    · rw [does7 HMP.out HF.out (show (7 : Int) = 7 ∨ (7 : Int) = 9 by decide)]; exact (model_end HM.out HB2.out (Nat.le_succ _)).stays ((Below.refl _ _).alloc (Nat.le_refl _) _)
    · exact (below_end HB2.out (Nat.le_succ _)).alloc (by simp; exact HB2.out.size) _
  · have HFI := Lib.hid hfi
    obtain ⟨g, o, bp, bc, hpe, e0, e1, e2, hbc1, hbc2, hbin⟩ := HEL.out i d hdi
    have hi64 : (i : Int) < (m.length : Int) := by have := (List.getElem?_eq_some_iff.1 hdi).1; omega
    subst hpe
    have E0 := cell_stays HB2.out e0; have E1 := cell_stays HB2.out e1; have E2 := cell_stays HB2.out e2
    have g0 := World.block_lt_of_cell? _ _ E0
    clear hfi hdi hbin hbc1 hbc2 e0 e1 e2
    refine (rfind_any m vo _ _ (HM.out.stays ((HB2.out.alloc HB2.out.size _ : Below w.heap.size w (w2.alloc (.cells #[.int .i64 0, .int .i64 0, .slice none 0 0] 41)))))).mono ?_
    rintro e _ ⟨rfl, rfl⟩
    rw [HFI.out]
    go_wp2_with fail
    refine (rfind_any m vo _ _ (HM.out.stays ((HB2.out.alloc HB2.out.size _ : Below w.heap.size w (w2.alloc (.cells #[.int .i64 0, .int .i64 0, .slice none 0 0] 41)))))).mono ?_
    rintro e _ ⟨rfl, rfl⟩
    rw [HFI.out]
    have r0 := HR2.out.c0; have r1 := HR2.out.c1; have r2 := HR2.out.c2; have s0 := HR2.out.f0; have s1 := HR2.out.f1; have s2 := HR2.out.f2
    have hlr := HR2.out.lt
    go_wp2_with fail
    refine bodyPost_ret (v := .tuple #[.slice (some ⟨g, o, none⟩) m.length c, .agg #[.int .i64 0, .string ⟨#[]⟩, .int .i64 0]]) (by simp [results, Tryd.results11, go_sem, r0, r1, r2, hlr]) rfl ⟨_, by rw [does7 HMP.out HF.out (show (7 : Int) = 7 ∨ (7 : Int) = 9 by decide)]; rfl, ?_, ?_⟩
    · rw [does7 HMP.out HF.out (show (7 : Int) = 7 ∨ (7 : Int) = 9 by decide)]; exact (model_end HM.out HB2.out (Nat.le_succ _)).stays ((Below.refl _ _).alloc (Nat.le_refl _) _)
    · exact (below_end HB2.out (Nat.le_succ _)).alloc (by simp; exact HB2.out.size) _
end Go.Proofs.YtgabifkechofnaaDoor
namespace Go.Proofs.YtgabifkechofnaaDoor
open Go.RowKit

set_option maxRecDepth 100000 in
set_option maxHeartbeats 8000000 in
theorem rdo_8 (m : List VolD) (vo de bl nn : Int) (tx : ByteArray) (v : Value) (w : World) (hm : ModelAt w v m) (hmp : MayP m) (hbl : ∀ d ∈ m, d.blocks.length ≤ 50000) (hf : faultL m ⟨8, vo, de, bl, nn, tx⟩ = 0) :
    Calls Tryd.prog 11 #[v, .agg #[.int .i64 8, .int .i64 vo, .int .i64 de, .int .i64 bl, .int .i64 nn, .string tx]] w (RDoEnd m ⟨8, vo, de, bl, nn, tx⟩ w) := by
  have HB0 := Lib.hid (show Below w.heap.size w ((w.alloc (.cells #[.int .i64 8, .int .i64 vo, .int .i64 de, .int .i64 bl, .int .i64 nn, .string tx] 24)).alloc (.cells #[.int .i64 0, .string ⟨#[]⟩, .int .i64 0] 29)) from ((Below.refl w.heap.size w).alloc (Nat.le_refl _) _).alloc (by simp) _)
  have HX0 := Lib.hid (show OBox w.heap.size ⟨8, vo, de, bl, nn, tx⟩ ((w.alloc (.cells #[.int .i64 8, .int .i64 vo, .int .i64 de, .int .i64 bl, .int .i64 nn, .string tx] 24)).alloc (.cells #[.int .i64 0, .string ⟨#[]⟩, .int .i64 0] 29)) from (OBox.new ⟨8, vo, de, bl, nn, tx⟩ _ rfl).below ((Below.refl _ _).alloc (Nat.le_refl _) _))
  have HR0 := Lib.hid (show FBox (w.heap.size + 1) (.int .i64 0) (.string ⟨#[]⟩) (.int .i64 0) ((w.alloc (.cells #[.int .i64 8, .int .i64 vo, .int .i64 de, .int .i64 bl, .int .i64 nn, .string tx] 24)).alloc (.cells #[.int .i64 0, .string ⟨#[]⟩, .int .i64 0] 29)) from FBox.new _ (by simp))
  have HM := Lib.hid hm
  obtain ⟨p, c, rfl, hc1, hc2, hel⟩ := hm
  have HEL := Lib.hid hel
  clear hel hc1 hc2
  have HY := Lib.hid ((may_iff m).2 hmp); have HMP := Lib.hid hmp; have HF := Lib.hid hf; have HBL := Lib.hid hbl; clear hf hbl
  have hm64 : (m.length : Int) ≤ 64 := by have := hmp.len; omega
  clear hmp
  go_enter Tryd.func11, Tryd.ntmps11
  go_wp2_with fail
  refine (rmay_any m _ _ (HM.out.stays HB0.out)).mono ?_
  rintro e w1 ⟨rfl, hb⟩
  rw [HY.out]
  have HB1 := Lib.hid (btrans HB0.out hb); have HX1 := Lib.hid (HX0.out.below hb); have HR1 := Lib.hid (HR0.out.below hb)
  clear hb
  have x0 := HX1.out.c 0 _ rfl
  have x1 := HX1.out.c 1 _ rfl
  have x2 := HX1.out.c 2 _ rfl
  have x3 := HX1.out.c 3 _ rfl
  have x4 := HX1.out.c 4 _ rfl
  have x5 := HX1.out.c 5 _ rfl
  go_wp2_with fail
  refine (wrong_any m ⟨8, vo, de, bl, nn, tx⟩ _ _ (HM.out.stays HB1.out) HMP.out).mono ?_
  rintro e w2 ⟨rfl, hb⟩
  have HB2 := Lib.hid (btrans HB1.out hb); have HX2 := Lib.hid (HX1.out.below hb); have HR2 := Lib.hid (HR1.out.below hb)
  clear hb
  clear x0 x1 x2 x3 x4 x5
  rw [HF.out]
  have x0 := HX2.out.c 0 _ rfl
  have x1 := HX2.out.c 1 _ rfl
  have x2 := HX2.out.c 2 _ rfl
  have x3 := HX2.out.c 3 _ rfl
  have x4 := HX2.out.c 4 _ rfl
  have x5 := HX2.out.c 5 _ rfl
  have hlx := HX2.out.lt; have hlr2 := HR2.out.lt
  go_wp2_with fail
  have hfs := find_size HMP.out vo
  rcases hfs with ⟨hfi, _⟩ | ⟨i, d, hfi, hdi, _⟩
  · have HFI := Lib.hid hfi; clear hfi
    refine (rfind_any m vo _ _ (HM.out.stays ((HB2.out.alloc HB2.out.size _ : Below w.heap.size w (w2.alloc (.cells #[.int .i64 0, .int .i64 0, .slice none 0 0] 41)))))).mono ?_
    rintro e _ ⟨rfl, rfl⟩
    rw [HFI.out]
    go_wp2_with fail
    have HB3 := Lib.hid (show Below w.heap.size w (w2.alloc (.cells #[.int .i64 0, .int .i64 0, .slice none 0 0] 41)) from HB2.out.alloc HB2.out.size _)
    have hal3 : Below w2.heap.size w2 (w2.alloc (.cells #[.int .i64 0, .int .i64 0, .slice none 0 0] 41)) := (Below.refl _ _).alloc (Nat.le_refl _) _
    have HX3 := Lib.hid (HX2.out.below hal3); have HR3 := Lib.hid (HR2.out.below hal3)
    clear hal3
    refine (rstatus_any m _ _ (HM.out.stays HB3.out) (by omega) (may_sizes HY.out) HBL.out).mono ?_
    rintro e w5 ⟨rfl, hb⟩
    have HB5 := Lib.hid (btrans HB3.out hb); have HR5 := Lib.hid (HR3.out.below hb)
    clear hb
    have r0 := HR5.out.c0; have r1 := HR5.out.c1; have r2 := HR5.out.c2; have s0 := HR5.out.f0; have s1 := HR5.out.f1; have s2 := HR5.out.f2
    have hlr := HR5.out.lt
    go_wp2_with fail
    refine bodyPost_ret (v := .tuple #[.slice p m.length c, .agg #[.int .i64 0, .string (statusB m), .int .i64 m.length]]) (by simp [results, Tryd.results11, go_sem, r0, r1, r2]) rfl ⟨_, by rw [does8 HMP.out HF.out rfl]; rfl, ?_, ?_⟩
    · rw [does8 HMP.out HF.out rfl]; exact model_end HM.out HB5.out (Nat.le_succ _)
    · exact below_end HB5.out (Nat.le_succ _)
  · have HFI := Lib.hid hfi
    obtain ⟨g, o, bp, bc, hpe, e0, e1, e2, hbc1, hbc2, hbin⟩ := HEL.out i d hdi
    have hi64 : (i : Int) < (m.length : Int) := by have := (List.getElem?_eq_some_iff.1 hdi).1; omega
    subst hpe
    have E0 := cell_stays HB2.out e0; have E1 := cell_stays HB2.out e1; have E2 := cell_stays HB2.out e2
    have g0 := World.block_lt_of_cell? _ _ E0
    clear hfi hdi hbin hbc1 hbc2 e0 e1 e2
    refine (rfind_any m vo _ _ (HM.out.stays ((HB2.out.alloc HB2.out.size _ : Below w.heap.size w (w2.alloc (.cells #[.int .i64 0, .int .i64 0, .slice none 0 0] 41)))))).mono ?_
    rintro e _ ⟨rfl, rfl⟩
    rw [HFI.out]
    go_wp2_with fail
    refine (rfind_any m vo _ _ (HM.out.stays ((HB2.out.alloc HB2.out.size _ : Below w.heap.size w (w2.alloc (.cells #[.int .i64 0, .int .i64 0, .slice none 0 0] 41)))))).mono ?_
    rintro e _ ⟨rfl, rfl⟩
    rw [HFI.out]
    go_wp2_with fail
    have HB3 := Lib.hid (show Below w.heap.size w (w2.alloc (.cells #[.int .i64 d.id, .int .i64 d.size, .slice bp d.blocks.length bc] 41)) from HB2.out.alloc HB2.out.size _)
    have hal3 : Below w2.heap.size w2 (w2.alloc (.cells #[.int .i64 d.id, .int .i64 d.size, .slice bp d.blocks.length bc] 41)) := (Below.refl _ _).alloc (Nat.le_refl _) _
    have HX3 := Lib.hid (HX2.out.below hal3); have HR3 := Lib.hid (HR2.out.below hal3)
    clear hal3
    refine (rstatus_any m _ _ (HM.out.stays HB3.out) (by omega) (may_sizes HY.out) HBL.out).mono ?_
    rintro e w5 ⟨rfl, hb⟩
    have HB5 := Lib.hid (btrans HB3.out hb); have HR5 := Lib.hid (HR3.out.below hb)
    clear hb
    have r0 := HR5.out.c0; have r1 := HR5.out.c1; have r2 := HR5.out.c2; have s0 := HR5.out.f0; have s1 := HR5.out.f1; have s2 := HR5.out.f2
    have hlr := HR5.out.lt
    go_wp2_with fail
    refine bodyPost_ret (v := .tuple #[.slice (some ⟨g, o, none⟩) m.length c, .agg #[.int .i64 0, .string (statusB m), .int .i64 m.length]]) (by simp [results, Tryd.results11, go_sem, r0, r1, r2]) rfl ⟨_, by rw [does8 HMP.out HF.out rfl]; rfl, ?_, ?_⟩
    · rw [does8 HMP.out HF.out rfl]; exact model_end HM.out HB5.out (Nat.le_succ _)
    · exact below_end HB5.out (Nat.le_succ _)
end Go.Proofs.YtgabifkechofnaaDoor
namespace Go.Proofs.YtgabifkechofnaaDoor
open Go.RowKit

set_option maxRecDepth 100000 in
set_option maxHeartbeats 8000000 in
theorem rdo_9 (m : List VolD) (vo de bl nn : Int) (tx : ByteArray) (v : Value) (w : World) (hm : ModelAt w v m) (hmp : MayP m) (hbl : ∀ d ∈ m, d.blocks.length ≤ 50000) (hf : faultL m ⟨9, vo, de, bl, nn, tx⟩ = 0) :
    Calls Tryd.prog 11 #[v, .agg #[.int .i64 9, .int .i64 vo, .int .i64 de, .int .i64 bl, .int .i64 nn, .string tx]] w (RDoEnd m ⟨9, vo, de, bl, nn, tx⟩ w) := by
  have HB0 := Lib.hid (show Below w.heap.size w ((w.alloc (.cells #[.int .i64 9, .int .i64 vo, .int .i64 de, .int .i64 bl, .int .i64 nn, .string tx] 24)).alloc (.cells #[.int .i64 0, .string ⟨#[]⟩, .int .i64 0] 29)) from ((Below.refl w.heap.size w).alloc (Nat.le_refl _) _).alloc (by simp) _)
  have HX0 := Lib.hid (show OBox w.heap.size ⟨9, vo, de, bl, nn, tx⟩ ((w.alloc (.cells #[.int .i64 9, .int .i64 vo, .int .i64 de, .int .i64 bl, .int .i64 nn, .string tx] 24)).alloc (.cells #[.int .i64 0, .string ⟨#[]⟩, .int .i64 0] 29)) from (OBox.new ⟨9, vo, de, bl, nn, tx⟩ _ rfl).below ((Below.refl _ _).alloc (Nat.le_refl _) _))
  have HR0 := Lib.hid (show FBox (w.heap.size + 1) (.int .i64 0) (.string ⟨#[]⟩) (.int .i64 0) ((w.alloc (.cells #[.int .i64 9, .int .i64 vo, .int .i64 de, .int .i64 bl, .int .i64 nn, .string tx] 24)).alloc (.cells #[.int .i64 0, .string ⟨#[]⟩, .int .i64 0] 29)) from FBox.new _ (by simp))
  have HM := Lib.hid hm
  obtain ⟨p, c, rfl, hc1, hc2, hel⟩ := hm
  have HEL := Lib.hid hel
  clear hel hc1 hc2
  have HY := Lib.hid ((may_iff m).2 hmp); have HMP := Lib.hid hmp; have HF := Lib.hid hf; have HBL := Lib.hid hbl; clear hf hbl
  have hm64 : (m.length : Int) ≤ 64 := by have := hmp.len; omega
  clear hmp
  go_enter Tryd.func11, Tryd.ntmps11
  go_wp2_with fail
  refine (rmay_any m _ _ (HM.out.stays HB0.out)).mono ?_
  rintro e w1 ⟨rfl, hb⟩
  rw [HY.out]
  have HB1 := Lib.hid (btrans HB0.out hb); have HX1 := Lib.hid (HX0.out.below hb); have HR1 := Lib.hid (HR0.out.below hb)
  clear hb
  have x0 := HX1.out.c 0 _ rfl
  have x1 := HX1.out.c 1 _ rfl
  have x2 := HX1.out.c 2 _ rfl
  have x3 := HX1.out.c 3 _ rfl
  have x4 := HX1.out.c 4 _ rfl
  have x5 := HX1.out.c 5 _ rfl
  go_wp2_with fail
  refine (wrong_any m ⟨9, vo, de, bl, nn, tx⟩ _ _ (HM.out.stays HB1.out) HMP.out).mono ?_
  rintro e w2 ⟨rfl, hb⟩
  have HB2 := Lib.hid (btrans HB1.out hb); have HX2 := Lib.hid (HX1.out.below hb); have HR2 := Lib.hid (HR1.out.below hb)
  clear hb
  clear x0 x1 x2 x3 x4 x5
  rw [HF.out]
  have x0 := HX2.out.c 0 _ rfl
  have x1 := HX2.out.c 1 _ rfl
  have x2 := HX2.out.c 2 _ rfl
  have x3 := HX2.out.c 3 _ rfl
  have x4 := HX2.out.c 4 _ rfl
  have x5 := HX2.out.c 5 _ rfl
  have hlx := HX2.out.lt; have hlr2 := HR2.out.lt
  go_wp2_with fail
  have hfs := find_size HMP.out vo
  rcases hfs with ⟨hfi, _⟩ | ⟨i, d, hfi, hdi, _⟩
  · have HFI := Lib.hid hfi; clear hfi
    refine (rfind_any m vo _ _ (HM.out.stays ((HB2.out.alloc HB2.out.size _ : Below w.heap.size w (w2.alloc (.cells #[.int .i64 0, .int .i64 0, .slice none 0 0] 41)))))).mono ?_
    rintro e _ ⟨rfl, rfl⟩
    rw [HFI.out]
    have r0 := HR2.out.c0; have r1 := HR2.out.c1; have r2 := HR2.out.c2; have s0 := HR2.out.f0; have s1 := HR2.out.f1; have s2 := HR2.out.f2
    have hlr := HR2.out.lt
    go_wp2_with fail
    refine bodyPost_ret (v := .tuple #[.slice p m.length c, .agg #[.int .i64 0, .string ⟨#[]⟩, .int .i64 0]]) (by simp [results, Tryd.results11, go_sem, r0, r1, r2, hlr]) rfl ⟨_, by rw [does7 HMP.out HF.out (show (9 : Int) = 7 ∨ (9 : Int) = 9 by decide)]; rfl, ?_, ?_⟩
    · rw [does7 HMP.out HF.out (show (9 : Int) = 7 ∨ (9 : Int) = 9 by decide)]; exact (model_end HM.out HB2.out (Nat.le_succ _)).stays ((Below.refl _ _).alloc (Nat.le_refl _) _)
    · exact (below_end HB2.out (Nat.le_succ _)).alloc (by simp; exact HB2.out.size) _
  · have HFI := Lib.hid hfi
    obtain ⟨g, o, bp, bc, hpe, e0, e1, e2, hbc1, hbc2, hbin⟩ := HEL.out i d hdi
    have hi64 : (i : Int) < (m.length : Int) := by have := (List.getElem?_eq_some_iff.1 hdi).1; omega
    subst hpe
    have E0 := cell_stays HB2.out e0; have E1 := cell_stays HB2.out e1; have E2 := cell_stays HB2.out e2
    have g0 := World.block_lt_of_cell? _ _ E0
    clear hfi hdi hbin hbc1 hbc2 e0 e1 e2
    refine (rfind_any m vo _ _ (HM.out.stays ((HB2.out.alloc HB2.out.size _ : Below w.heap.size w (w2.alloc (.cells #[.int .i64 0, .int .i64 0, .slice none 0 0] 41)))))).mono ?_
    rintro e _ ⟨rfl, rfl⟩
    rw [HFI.out]
    go_wp2_with fail
    refine (rfind_any m vo _ _ (HM.out.stays ((HB2.out.alloc HB2.out.size _ : Below w.heap.size w (w2.alloc (.cells #[.int .i64 0, .int .i64 0, .slice none 0 0] 41)))))).mono ?_
    rintro e _ ⟨rfl, rfl⟩
    rw [HFI.out]
    have r0 := HR2.out.c0; have r1 := HR2.out.c1; have r2 := HR2.out.c2; have s0 := HR2.out.f0; have s1 := HR2.out.f1; have s2 := HR2.out.f2
    have hlr := HR2.out.lt
    go_wp2_with fail
    refine bodyPost_ret (v := .tuple #[.slice (some ⟨g, o, none⟩) m.length c, .agg #[.int .i64 0, .string ⟨#[]⟩, .int .i64 0]]) (by simp [results, Tryd.results11, go_sem, r0, r1, r2, hlr]) rfl ⟨_, by rw [does7 HMP.out HF.out (show (9 : Int) = 7 ∨ (9 : Int) = 9 by decide)]; rfl, ?_, ?_⟩
    · rw [does7 HMP.out HF.out (show (9 : Int) = 7 ∨ (9 : Int) = 9 by decide)]; exact (model_end HM.out HB2.out (Nat.le_succ _)).stays ((Below.refl _ _).alloc (Nat.le_refl _) _)
    · exact (below_end HB2.out (Nat.le_succ _)).alloc (by simp; exact HB2.out.size) _
end Go.Proofs.YtgabifkechofnaaDoor
namespace Go.Proofs.YtgabifkechofnaaDoor
open Go.RowKit

theorem rdo_any (m : List VolD) (x : OpD) (v : Value) (w : World) (hm : ModelAt w v m) (hbl : ∀ d ∈ m, d.blocks.length ≤ 50000) :
    Calls Tryd.prog 11 #[v, x.agg] w (RDoEnd m x w) := by
  obtain ⟨ac, vo, de, bl, nn, tx⟩ := x
  simp only [OpD.agg]
  by_cases hmay : mayL m = true
  case neg => exact rdo_bad m ac vo de bl nn tx v w hm (by simpa using hmay)
  have hmp := (may_iff m).1 hmay
  by_cases hf : faultL m ⟨ac, vo, de, bl, nn, tx⟩ = 0
  case neg => exact rdo_fault m ac vo de bl nn tx v w hm hmp hf
  have hac := fault_cases hf
  simp only at hac
  have h10 : ac = 0 ∨ ac = 1 ∨ ac = 2 ∨ ac = 3 ∨ ac = 4 ∨ ac = 5 ∨ ac = 6 ∨ ac = 7 ∨ ac = 8 ∨ ac = 9 := by omega
  rcases h10 with rfl | rfl | rfl | rfl | rfl | rfl | rfl | rfl | rfl | rfl
  · exact rdo_0 m vo de bl nn tx v w hm hmp hbl hf
  · exact rdo_1 m vo de bl nn tx v w hm hmp hbl hf
  · exact rdo_2 m vo de bl nn tx v w hm hmp hbl hf
  · exact rdo_3 m vo de bl nn tx v w hm hmp hbl hf
  · exact rdo_4 m vo de bl nn tx v w hm hmp hbl hf
  · exact rdo_5 m vo de bl nn tx v w hm hmp hbl hf
  · exact rdo_6 m vo de bl nn tx v w hm hmp hbl hf
  · exact rdo_7 m vo de bl nn tx v w hm hmp hbl hf
  · exact rdo_8 m vo de bl nn tx v w hm hmp hbl hf
  · exact rdo_9 m vo de bl nn tx v w hm hmp hbl hf
end Go.Proofs.YtgabifkechofnaaDoor
