/- The walks of the law's block, read and run. -/
import Derived.Test.YtgabifkechofnaaDoorModDo
import Derived.Test.YtgabifkechofnaaDoorModRC
import Derived.Laws.OwnMore
namespace Go.Proofs.YtgabifkechofnaaDoor
open Go.RowKit

def blkB (c : UInt8) : ByteArray := ⟨(List.replicate 256 c).toArray⟩
def fillTo (c : UInt8) (k : Nat) : List UInt8 := List.replicate k c ++ List.replicate (256 - k) 0
theorem fillTo_len (c : UInt8) (k : Nat) (h : k ≤ 256) : (fillTo c k).length = 256 := by unfold fillTo; rw [List.length_append, List.length_replicate, List.length_replicate]; omega
theorem fillTo_set (c : UInt8) (k : Nat) (h : k < 256) : (bytesV (fillTo c k)).set k (.int .u8 (c.toNat : Nat)) = bytesV (fillTo c (k + 1)) := by
  unfold fillTo bytesV
  apply List.ext_getElem?
  intro i
  by_cases e : k = i
  · subst e
    rw [List.getElem?_set_self (by simp; omega), List.getElem?_map, List.getElem?_append_left (by simp), List.getElem?_replicate, if_pos (by omega)]; rfl
  · rw [List.getElem?_set_ne e, List.getElem?_map, List.getElem?_map]
    congr 1
    by_cases hi : i < k
    · rw [List.getElem?_append_left (by simpa using hi), List.getElem?_append_left (by simp; omega), List.getElem?_replicate, List.getElem?_replicate, if_pos hi, if_pos (by omega)]
    · rw [List.getElem?_append_right (by simp; omega), List.getElem?_append_right (by simp; omega), List.getElem?_replicate, List.getElem?_replicate]
      simp only [List.length_replicate]
      by_cases h2 : i < 256
      · rw [if_pos (by omega), if_pos (by omega)]
      · rw [if_neg (by omega), if_neg (by omega)]

theorem infoU8M : (Tryd.prog.info? 5).map (fun i => (i.zero, i.size, i.bytes)) = some (some (.int .u8 0), 1, 1) := by kernel_rfl
theorem zeros256 (c : UInt8) : (madeCells (Value.int .u8 0).cells (256 * 1)).toList = bytesV (fillTo c 0) := by
  have e1 : (madeCells (Value.int .u8 0).cells (256 * 1)).toList = List.replicate 256 (Value.int .u8 0) := by kernel_rfl
  have e2 : fillTo c 0 = List.replicate 256 0 := rfl
  rw [e1, e2]; unfold bytesV; rw [List.map_replicate]; rfl
theorem fill_all (c : UInt8) : fillTo c 256 = List.replicate 256 c := by unfold fillTo; rw [Nat.sub_self]; exact List.append_nil _
set_option maxRecDepth 100000 in
set_option maxHeartbeats 2000000 in
theorem block_any (c : UInt8) (n : Int) (hn : (c.toNat : Int) = n) (w : World) :
    Calls Tryd.prog 17 #[.int .u8 n] w fun e w' => e = .returned (.string (blkB c)) ∧ Below w.heap.size w w' := by
  have h0 : 0 ≤ n ∧ n ≤ 255 := by have := UInt8.toNat_lt c; omega
  obtain ⟨ha, hb⟩ := h0
  have HN := Lib.hid hn; clear hn
  obtain ⟨i0, hi, hz0, hz1, hz2⟩ := info_parts infoU8M
  obtain ⟨w1, hmk, hown0, hg0⟩ := run_make_full (P := Tryd.prog) w w.heap.size 36 5 i0 (.int .u8 0) 1 Tryd.underlying36 hi hz0 hz1 .i64 .i64 256 (by rw [hz2]; omega) (by unfold maxLen; omega) (Nat.le_refl _)
  rw [zeros256 c] at hown0
  have hmk' : (Instr.makeSlice 36 (.int .i64 256) (.int .i64 256)).run Tryd.prog w = .ok (.slice (some ⟨w.heap.size, 0, none⟩) 256 256) w1 := hmk
  clear hmk
  have hbel0 : Below w.heap.size w w1 := (Below.refl _ _).grown hg0 (Nat.le_refl _) (fun k e => by cases e)
  have HO := Lib.hid hown0; have HB := Lib.hid hbel0; clear hown0 hg0 hbel0
  go_enter Tryd.func17, Tryd.ntmps17
  go_wp2_with fail
  go_loopw [4] (fun i wr => ∃ k : Nat, k ≤ 256 ∧ i = .int .i64 k ∧ wr.ownsRow w.heap.size 5 1 (.slice (some ⟨w.heap.size, 0, none⟩) 256 256) 256 (bytesV (fillTo c k)) ∧ Below w.heap.size w wr) (fun i _ => 256 - (intOf i).toNat)
  case atStart => exact ⟨0, by omega, rfl, HO.out, HB.out⟩
  case round =>
    obtain ⟨k, hk, rfl, hown, hbw⟩ := hrel
    have HO2 := Lib.hid hown; have HB2 := Lib.hid hbw
    by_cases hlt : k < 256
    · have hki : (k : Int) < 256 := by omega
      have hlen : k < (bytesV (fillTo c k)).length := by rw [bytesV_length, fillTo_len c k hk]; exact hlt
      obtain ⟨u, hc⟩ : ∃ u, wr.cell? ⟨w.heap.size, k, none⟩ = some u := ⟨_, ow_cell hown k hlen⟩
      have hf := ow_free hown k
      clear hown hbw hlen
      go_wp2_with fail
      go_roundw
      case rel =>
        refine ⟨k + 1, by omega, by go_num, ?_, HB2.out.setCell (Nat.le_refl _) _⟩
        have := ow_set HO2.out k (.int .u8 n) (by rw [bytesV_length, fillTo_len c k hk]; exact hlt)
        rw [← HN.out, fillTo_set c k hlt] at this
        rw [← HN.out]; exact this
      case measure => simp [intOf]; omega
    · obtain rfl : k = 256 := by omega
      have hcv := ow_text (P := Tryd.prog) (src := 36) (dst := 9) (l := List.replicate 256 c) Tryd.underlying36 Tryd.underlying5 Tryd.underlying9 (g := w.heap.size) (cap := 256) (B := w.heap.size) (w := wr) (e := 5) (by rw [List.length_replicate]; rw [fill_all] at hown; exact hown)
      rw [List.length_replicate] at hcv
      clear hown hbw
      go_wp2_with fail
      go_ret
      exact ⟨rfl, HB2.out⟩
end Go.Proofs.YtgabifkechofnaaDoor
