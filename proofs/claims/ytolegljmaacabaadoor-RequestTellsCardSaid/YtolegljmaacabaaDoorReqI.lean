/- The walks of a sum's digits of base 16: the document's Hex, and the library's FormatUint. -/
import Derived.Test.YtolegljmaacabaaDoorReqB
import Derived.Test.YtolegljmaacabaaDoorHexP
import Derived.Laws.BitsAllLaws
namespace Go.Proofs.YtolegljmaacabaaDoor
open Go.RowKit

def hexT (k n : Nat) : ByteArray := ⟨(hexN k n).toArray⟩
theorem hexT_step (k n : Nat) : (⟨#[hexC (n / 16 ^ k % 16)]⟩ : ByteArray) ++ hexT k n = hexT (k + 1) n := by
  apply Go.WideShapes.bytes_inj
  rw [ByteArray.data_append, Array.toList_append]
  unfold hexT
  simp [hexN]
theorem hex_cut (d : Nat) (h : d < 16) : hexS.extract d (d + 1) = ⟨#[hexC d]⟩ := by
  have key : ∀ d : Fin 16, hexS.extract d.1 (d.1 + 1) = ⟨#[hexC d.1]⟩ := by decide +kernel
  exact key ⟨d, h⟩
theorem hexT_size (k n : Nat) : (hexT k n).size = k := by
  show (hexN k n).toArray.size = k
  rw [List.size_toArray, hexN_length]

theorem rhex_any (n : Nat) (hn : n < 4294967296) (w : World) : Calls Tryd.prog 26 #[.int .u32 n] w fun e w' => e = .returned (.string (hexT 8 n)) ∧ w = w' := by
  go_enter Tryd.func26, Tryd.ntmps26
  go_wp2_with fail
  go_loop [0, 3, 4] (fun v t i => ∃ k : Nat, k ≤ 8 ∧ v = .int .u32 (n / 16 ^ k : Nat) ∧ t = .string (hexT k n) ∧ i = .int .i64 k) (fun _ _ i => 8 - (intOf i).toNat)
  case atStart => exact ⟨0, by omega, by simp, rfl, rfl⟩
  case round =>
    obtain ⟨k, hk, rfl, rfl, rfl⟩ := hrel
    have hm : n / 16 ^ k < 4294967296 := Nat.lt_of_le_of_lt (Nat.div_le_self _ _) hn
    have hst := hexT_step k n
    have hdv := div_pow_step n k
    have HST := Lib.hid hst; have HDV := Lib.hid hdv; clear hst hdv
    have hdl : n / 16 ^ k % 16 < 16 := Nat.mod_lt _ (by decide)
    have hcut := hex_cut (n / 16 ^ k % 16) hdl
    by_cases hlt : k < 8
    · have e1 : (k : Int) < 8 := by omega
      generalize hm2 : n / 16 ^ k = m at *
      generalize hd2 : m % 16 = d at *
      have e3 : ((m : Int) % 16) = (d : Int) := by omega
      have hcut' : (⟨#[48, 49, 50, 51, 52, 53, 54, 55, 56, 57, 97, 98, 99, 100, 101, 102]⟩ : ByteArray).extract d (d + 1) = ⟨#[hexC d]⟩ := hcut
      have hs1 : ((⟨#[48, 49, 50, 51, 52, 53, 54, 55, 56, 57, 97, 98, 99, 100, 101, 102]⟩ : ByteArray).extract d (d + 1)).size = 1 := by rw [hcut']; rfl
      have hs2 := hexT_size k n
      have HCUT := Lib.hid hcut'
      clear hcut hcut'
      go_wp2_with fail
      refine ⟨⟨k + 1, by omega, ?_, ?_, by go_num⟩, by simp [intOf]; omega⟩
      · rw [← HDV.out]; simp
      · rw [HCUT.out, ← HST.out]
    · obtain rfl : k = 8 := by omega
      go_wp2_with fail
      go_ret
      exact ⟨rfl, rfl⟩

theorem pow2_any (w : World) : Calls Tryd.prog 67 #[.int .i64 16] w fun e w' => e = .returned (.bool true) ∧ w = w' := by
  go_enter Tryd.func67, Tryd.ntmps67
  go_wp2_with fail
  go_ret
  exact ⟨rfl, rfl⟩
/-- one place of a table of the library: the number of zeros behind 16 -/
def Tz4 (W : World) : Prop := W.cell? ⟨5, 15, none⟩ = some (.int .u8 4)
theorem tz64_any (w : World) (h : Tz4 w) : Calls Tryd.prog 74 #[.int .u64 16] w fun e w' => e = .returned (.int .i64 4) ∧ w = w' := by
  unfold Tz4 at h
  have f1 : IntKind.u64.wrap (-16) = 18446744073709551600 := by decide +kernel
  have f2 : bits .and .u64 16 18446744073709551600 = 16 := by decide +kernel
  go_enter Tryd.func74, Tryd.ntmps74
  go_wp2_with fail
  go_ret
  exact ⟨rfl, rfl⟩
theorem tz_any (w : World) (h : Tz4 w) : Calls Tryd.prog 68 #[.int .u64 16] w fun e w' => e = .returned (.int .i64 4) ∧ w = w' := by
  have H := Lib.hid h; clear h
  go_enter Tryd.func68, Tryd.ntmps68
  go_wp2_with fail
  refine (tz64_any _ H.out).mono ?_
  rintro e w' ⟨rfl, rfl⟩
  go_wp2_with fail
  go_ret
  exact ⟨rfl, rfl⟩

def digs : ByteArray := ⟨#[48, 49, 50, 51, 52, 53, 54, 55, 56, 57, 97, 98, 99, 100, 101, 102, 103, 104, 105, 106, 107, 108, 109, 110, 111, 112, 113, 114, 115, 116, 117, 118, 119, 120, 121, 122]⟩
theorem digs_at (d : Nat) (h : d < 16) (h2 : d < digs.size) : digs[d] = hexC d := by
  have e : ∀ d : Fin 16, digs.data.toList[d.1]? = some (hexC d.1) := by decide +kernel
  have := e ⟨d, h⟩
  have h3 : digs.data.toList[d]? = some digs[d] := by rw [List.getElem?_eq_getElem (by simpa using h2)]; rfl
  rw [h3] at this
  exact Option.some.inj this
theorem cell_lt {W : World} {b i : Nat} {v : Value} (h : W.cell? ⟨b, i, none⟩ = some v) : b < W.heap.size := by
  apply Classical.byContradiction; intro hb
  simp [World.cell?, Array.getElem?_eq_none (show W.heap.size ≤ b by omega)] at h
def bufV (k n : Nat) : Array Value := (List.replicate (65 - k) (Value.int .u8 0) ++ bytesV (hexN k n)).toArray
def BufAt (W : World) (b k n : Nat) : Prop := W.heap[b]? = some (.cells (bufV k n) 103 (0, 0))
theorem bufV_size (k n : Nat) (h : k ≤ 65) : (bufV k n).size = 65 := by simp [bufV, bytesV_length, hexN_length]; omega
theorem BufAt.cell {W : World} {b k n i : Nat} (h : BufAt W b k n) (hi : i + 1 + k = 65) : W.cell? ⟨b, i, none⟩ = some (.int .u8 0) := by
  have e : (bufV k n)[i]? = some (.int .u8 0) := by
    unfold bufV
    rw [List.getElem?_toArray, List.getElem?_append_left (by simp; omega), List.getElem?_replicate, if_pos (by omega)]
  simp [World.cell?, show W.heap[b]? = _ from h, e]
theorem BufAt.free {W : World} {b k n : Nat} (i : Nat) (h : BufAt W b k n) : W.frozen? ⟨b, i, none⟩ = false := by
  simp [World.frozen?, show W.heap[b]? = _ from h]
theorem bufV_set (k n i : Nat) (hi : i + 1 + k = 65) : (bufV k n).set! i (.int .u8 ((hexC (n / 16 ^ k % 16)).toNat : Nat)) = bufV (k + 1) n := by
  unfold bufV
  apply Array.toList_inj.1
  rw [Array.set!_eq_setIfInBounds, Array.toList_setIfInBounds]
  rw [show 65 - k = i + 1 by omega, show 65 - (k + 1) = i by omega]
  simp only [hexN, bytesV, List.map_cons]
  rw [List.replicate_succ', List.append_assoc, List.set_append_right _ _ (by simp)]
  simp
theorem BufAt.set {W : World} {b k n i : Nat} (h : BufAt W b k n) (hi : i + 1 + k = 65) : BufAt (W.setCell ⟨b, i, none⟩ (.int .u8 ((hexC (n / 16 ^ k % 16)).toNat : Nat))) b (k + 1) n := by
  obtain ⟨hlt, hg⟩ := Array.getElem?_eq_some_iff.1 h
  unfold BufAt
  show (W.heap.modify b _)[b]? = _
  rw [Array.getElem?_eq_getElem (by rw [Array.size_modify]; exact hlt), Array.getElem_modify_self, hg, ← bufV_set k n i hi]
  simp
theorem BufAt.text {W : World} {b k n i : Nat} (h : BufAt W b k n) (hi : i + k = 65) : (convert 40 9 (.slice (some ⟨b, i, none⟩) k k)).run Tryd.prog W = .ok (.string (hexT k n)) W := by
  have h2 := run_convert_bytes_back (P := Tryd.prog) W 40 9 5 ⟨b, i, none⟩ k (hexN k n) Tryd.underlying40 Tryd.underlying5 Tryd.underlying9 (fun j hj => by
    rw [ow_at']
    have hj' : j < k := by rwa [hexN_length] at hj
    have e : (bufV k n)[i + j]? = some (.int .u8 ((hexN k n)[j]).toNat) := by
      unfold bufV
      rw [List.getElem?_toArray, List.getElem?_append_right (by simp; omega), List.length_replicate, show i + j - (65 - k) = j by omega, List.getElem?_eq_getElem (by rw [bytesV_length]; exact hj)]
      simp [bytesV]
    simp [World.cell?, show W.heap[b]? = _ from h, e])
  rw [hexN_length] at h2; exact h2

set_option maxRecDepth 100000 in
theorem slice65 (b i k : Nat) (h : i + k = 65) (hk : 1 ≤ k) (W : World) : (Instr.sliceAt 103 (.pointer (some ⟨b, 0, none⟩)) (some (.int .i64 (i : Nat))) none none).run Tryd.prog W = .ok (.slice (some ⟨b, i, none⟩) k k) W := by
  have ha : Tryd.prog.arrayLen 103 = 65 := by kernel_rfl
  have hel : Tryd.prog.elem 103 = 5 := by kernel_rfl
  have hs : ∀ W, (sizeOf 5).run Tryd.prog W = .ok 1 W := fun W => by kernel_rfl
  rw [run_sliceAt_array_l W 103 ⟨b, 0, none⟩ (by rw [ha, hel]; exact Tryd.underlying103) .i64 (i : Nat) (by omega) (by rw [ha]; omega), hel, hs]
  show Result.ok (slicedAt ⟨b, 0, none⟩ ((i : Nat) : Int).toNat (Tryd.prog.arrayLen 103) (Tryd.prog.arrayLen 103) 1) W = _
  rw [ha]
  unfold slicedAt
  rw [if_neg (by simp; omega), ow_at]
  congr 3
  · simp
  · simp; omega
  · simp; omega
def FbEnd (n : Nat) (w : World) (e : Ending) (w' : World) : Prop := ∃ k, 1 ≤ k ∧ k ≤ 8 ∧ n / 16 ^ k = 0 ∧ e = .returned (.tuple #[.slice none 0 0, .string (hexT k n)]) ∧ Below w.heap.size w w'
def FbRel (n : Nat) (w : World) (u i : Value) (wr : World) : Prop :=
  ∃ k j : Nat, j + k = 65 ∧ k ≤ 7 ∧ u = .int .u64 (n / 16 ^ k : Nat) ∧ i = .int .i64 j ∧ BufAt wr w.heap.size k n ∧ Below w.heap.size w wr
set_option maxRecDepth 100000 in
theorem fbits_any (n : Nat) (hn : n < 4294967296) (w : World) (h : Tz4 w) : Calls Tryd.prog 59 #[.slice none 0 0, .int .u64 n, .int .i64 16, .bool false, .bool false] w (FbEnd n w) := by
  have H := Lib.hid h; clear h
  go_enter Tryd.func59, Tryd.ntmps59
  go_wp2_with fail
  refine (pow2_any _).mono ?_
  rintro e w' ⟨rfl, rfl⟩
  go_wp2_with fail
  refine (tz_any _ (by unfold Tz4; exact (World.cell?_alloc_past _ _ _ (by have := H.out; unfold Tz4 at this; exact cell_lt this)).trans H.out)).mono ?_
  rintro e w' ⟨rfl, rfl⟩
  clear H
  go_wp2_with fail
  go_loopw [1, 13] (fun u i wr => FbRel n w u i wr) (fun _ i _ => (intOf i).toNat)
  case atStart => exact ⟨0, 65, rfl, by omega, by simp, rfl, by have h := World.alloc_heap_new w (.cells (bufV 0 n) 103); exact h, (Below.refl _ _).alloc (Nat.le_refl _) _⟩
  case round =>
    obtain ⟨k, j, hjk, hk7, rfl, rfl, hbuf, hbel⟩ := hrel
    have HB := Lib.hid hbel; have HU := Lib.hid hbuf
    clear hbel hbuf
    obtain ⟨i, rfl⟩ : ∃ i, j = i + 1 := ⟨j - 1, by omega⟩
    have hc := HU.out.cell (show i + 1 + k = 65 by omega)
    have hf := HU.out.free i
    have hset := HU.out.set (show i + 1 + k = 65 by omega)
    have hm : n / 16 ^ k < 4294967296 := Nat.lt_of_le_of_lt (Nat.div_le_self _ _) hn
    have hdv := div_pow_step n k
    have hz := @hex_zero n hn k
    obtain ⟨m, hm2⟩ : ∃ m, m = n / 16 ^ k := ⟨_, rfl⟩
    rw [← hm2] at hset hm hdv hz ⊢
    have HSET := Lib.hid hset; have HDV := Lib.hid hdv; have HM2 := Lib.hid hm2
    clear hset hdv hm2
    by_cases hge : 16 ≤ m
    · have hk := hz hge
      clear hz
      have e1 : decide ((16 : Int) ≤ (m : Int)) = true := by simp; omega
      have e2 : bits .and .u64 (m : Int) 15 = ((m % 16 : Nat) : Int) := by
        have := u64_and_nat m 15 (by omega) (by omega)
        rw [show (15 : Int) = ((15 : Nat) : Int) from rfl, this, show (15 : Nat) = 2 ^ 4 - 1 from rfl, Nat.and_two_pow_sub_one_eq_mod]
      have hd16 : m % 16 < 16 := Nat.mod_lt _ (by decide)
      obtain ⟨d, hd2⟩ : ∃ d, d = m % 16 := ⟨_, rfl⟩
      rw [← hd2] at e2 hd16 HSET
      clear hd2
      have hdg := digs_at d hd16
      have HDG := Lib.hid hdg
      clear hdg
      go_wp2_with fail
      refine ⟨⟨k + 1, i, by omega, by omega, by rw [← HDV.out]; simp, rfl, ?_, HB.out.setCell (p := ⟨w.heap.size, i, none⟩) (Nat.le_refl _) _⟩, by simp [intOf]⟩
      rw [← HDG.out] at HSET
      exact HSET.out
    · have e1 : decide ((16 : Int) ≤ (m : Int)) = false := by simp; omega
      have hd16 : m < 16 := by omega
      have hfin : n / 16 ^ (k + 1) = 0 := by rw [← HDV.out]; omega
      have HFIN := Lib.hid hfin
      clear hz hfin
      have hmod : m % 16 = m := Nat.mod_eq_of_lt hd16
      rw [hmod] at HSET
      have htext := (HSET.out).text (show i + (k + 1) = 65 by omega)
      have hdg := digs_at m hd16
      have hsl := slice65 w.heap.size i (k + 1) (by omega) (by omega)
      have hdg2 : (⟨#[48, 49, 50, 51, 52, 53, 54, 55, 56, 57, 97, 98, 99, 100, 101, 102, 103, 104, 105, 106, 107, 108, 109, 110, 111, 112, 113, 114, 115, 116, 117, 118, 119, 120, 121, 122]⟩ : ByteArray)[m]'(by show m < 36; omega) = hexC m := hdg _
      clear hmod hdg
      go_wp2_with fail
      refine bodyPost_ret (v := .tuple #[.slice none 0 0, .string (hexT (k + 1) n)]) (by simp [results, Tryd.results59, go_sem]) rfl ?_
      exact ⟨k + 1, by omega, by omega, HFIN.out, rfl, HB.out.setCell (p := ⟨w.heap.size, i, none⟩) (Nat.le_refl _) _⟩

def FmtEnd (n : Nat) (w : World) (e : Ending) (w' : World) : Prop := ∃ k, 1 ≤ k ∧ k ≤ 8 ∧ n / 16 ^ k = 0 ∧ e = .returned (.string (hexT k n)) ∧ Below w.heap.size w w'
theorem ifmt_any (n : Nat) (hn : n < 4294967296) (w : World) (h : Tz4 w) : Calls Tryd.prog 43 #[.int .u64 n, .int .i64 16] w (FmtEnd n w) := by
  have H := Lib.hid h; clear h
  go_enter Tryd.func43, Tryd.ntmps43
  go_wp2_with fail
  refine (fbits_any n hn _ H.out).mono ?_
  rintro e w' ⟨k, h1, h8, hz, rfl, hb⟩
  have HZ := Lib.hid hz; have HB := Lib.hid hb
  clear hz hb
  go_wp2_with fail
  go_ret
  exact ⟨k, h1, h8, HZ.out, rfl, HB.out⟩
theorem fmt_any (n : Nat) (hn : n < 4294967296) (w : World) (h : Tz4 w) : Calls Tryd.prog 24 #[.int .u64 n, .int .i64 16] w (FmtEnd n w) := by
  have H := Lib.hid h; clear h
  go_enter Tryd.func24, Tryd.ntmps24
  go_wp2_with fail
  refine (ifmt_any n hn _ H.out).mono ?_
  rintro e w' ⟨k, h1, h8, hz, rfl, hb⟩
  have HZ := Lib.hid hz; have HB := Lib.hid hb
  clear hz hb
  go_wp2_with fail
  go_ret
  exact ⟨k, h1, h8, HZ.out, rfl, HB.out⟩
end Go.Proofs.YtolegljmaacabaaDoor
