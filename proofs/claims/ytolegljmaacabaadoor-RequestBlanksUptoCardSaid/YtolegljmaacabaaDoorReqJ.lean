/- The walks of request.Show and of the document's: any answer, shown alike. -/
import Derived.Test.YtolegljmaacabaaDoorReqI
import Derived.Test.YtolegljmaacabaaDoorCrc
import Derived.Test.YtolegljmaacabaaDoorDigits
import Derived.Test.YtolegljmaacabaaDoorShelf
import Derived.Lib.ItoaLen
import Derived.Lib.SmallJoins
namespace Go.Proofs.YtolegljmaacabaaDoor
open Go.RowKit Go.Sort Go.Lib

abbrev Pow10 (w : World) : Prop := Lib.TabIs Tryd.prog w "internal/strconv.uint64pow10" .u64 Lib.pow10Tab
theorem pow_stays {w w' : World} (h : Pow10 w) (hb : Below w.heap.size w w') : Pow10 w' :=
  Joins.tab_stays (g := 0) (by kernel_rfl) h hb (Nat.le_refl _)
/-- the places of the library's tables that are read -/
def Tabs (W : World) : Prop := Pow10 W ∧ Tz4 W
theorem Tabs.stays {W w' : World} (h : Tabs W) (hb : Below W.heap.size W w') : Tabs w' :=
  ⟨pow_stays h.1 hb, by have := h.2; unfold Tz4 at this ⊢; exact (hb.cell (p := ⟨5, 15, none⟩) (cell_lt this)).trans this⟩

def itoaB (n : Int) : ByteArray := ⟨(Lib.itoa n).toArray⟩
theorem itoaB_size (n : Int) (h0 : -9223372036854775808 ≤ n) (h1 : n ≤ 9223372036854775807) : (itoaB n).size ≤ 21 := by
  have := Lib.itoa_length_le n h0 h1
  show (Lib.itoa n).toArray.size ≤ 21
  simpa using this
theorem itoa_call (n : Int) (h0 : -9223372036854775808 ≤ n) (h1 : n ≤ 9223372036854775807) (w : World) (hp : Pow10 w) :
    Calls Tryd.prog 23 #[.int .i64 n] w fun e w' => e = .returned (.string (itoaB n)) ∧ Below w.heap.size w w' := by
  refine (Tryd.strconv_Itoa n h0 h1 w hp).mono ?_
  rintro e w' ⟨rfl, k, os, rfl⟩
  exact ⟨rfl, (below_drewN' (Below.refl _ _) k).trans (below_grow (w.drewN k) os)⟩
def zerosB (k : Nat) : ByteArray := ⟨(List.replicate k 48).toArray⟩
theorem zerosB_size (k : Nat) : (zerosB k).size = k := by
  show (List.replicate k (48 : UInt8)).toArray.size = k
  simp
theorem rep_call (c : Nat) (h : c ≤ 8) (w : World) : Calls Tryd.prog 20 #[.string ⟨#[48]⟩, .int .i64 c] w fun e w' => e = .returned (.string (zerosB c)) ∧ Below w.heap.size w w' := by
  refine (Tryd.strings_Repeat ⟨#[48]⟩ c w (by omega) ?_).mono ?_
  · show 1 * c ≤ _; omega
  · rintro e w' ⟨rfl, hb⟩
    exact ⟨by rw [show (⟨#[48]⟩ : ByteArray).data.toList = [48] from rfl, repeatL_one]; rfl, hb⟩
theorem rep_at (k : Nat) (h : k ≤ 8) (w : World) : Calls Tryd.prog 20 #[.string ⟨#[48]⟩, .int .i64 (8 - (k : Int))] w fun e w' => e = .returned (.string (zerosB (8 - k))) ∧ Below w.heap.size w w' := by
  rw [show (8 : Int) - (k : Int) = ((8 - k : Nat) : Int) by omega]
  exact rep_call _ (by omega) w
theorem hexT_pad {k n : Nat} (h8 : k ≤ 8) (hz : n / 16 ^ k = 0) : zerosB (8 - k) ++ hexT k n = hexT 8 n := by
  apply Go.WideShapes.bytes_inj
  rw [ByteArray.data_append, Array.toList_append]
  have := hexN_pad k n hz (8 - k)
  rw [show 8 - k + k = 8 by omega] at this
  simp [hexT, zerosB, this]

def okB : ByteArray := ⟨#[111, 107, 32]⟩
def errB : ByteArray := ⟨#[101, 114, 114, 111, 114, 32]⟩
def showB (d code : Int) (t : ByteArray) (n : Int) : ByteArray :=
  if code = 0 then if d = 3 then okB ++ hexT 8 (crcSum t.data.toList)
    else if d = 8 then if t.data.toList = [] then okB ++ itoaB n else okB ++ itoaB n ++ ⟨#[32]⟩ ++ t
    else ⟨#[111, 107]⟩
  else errB ++ itoaB code
theorem ba_assoc (a b c : ByteArray) : a ++ b ++ c = a ++ (b ++ c) := by
  apply Go.WideShapes.bytes_inj
  simp [ByteArray.data_append]
def ansV (code : Int) (t : ByteArray) (n : Int) : Value := .agg #[.int .i64 code, .string t, .int .i64 n]
def SEnd (d code : Int) (t : ByteArray) (n : Int) (w : World) (e : Ending) (w' : World) : Prop := e = .returned (.string (showB d code t n)) ∧ Below w.heap.size w w'

set_option maxRecDepth 100000 in
set_option maxHeartbeats 1000000 in
theorem show_any (d code n : Int) (t : ByteArray) (ht : t.size ≤ 1000000) (hc0 : -9223372036854775808 ≤ code) (hc1 : code ≤ 9223372036854775807) (h0 : -9223372036854775808 ≤ n) (h1 : n ≤ 9223372036854775807) (w : World) (hT : Tabs w) :
    Calls Tryd.prog 15 #[.int .i64 d, ansV code t n] w (SEnd d code t n w) := by
  have hb0 : Below w.heap.size w (w.alloc (.cells #[.int .i64 code, .string t, .int .i64 n] 24)) := (Below.refl _ _).alloc (Nat.le_refl _) _
  have HT := Lib.hid (hT.stays hb0)
  have HB0 := Lib.hid hb0
  have hs1 := itoaB_size code hc0 hc1
  have hs2 := itoaB_size n h0 h1
  clear hT hb0
  unfold ansV
  by_cases hcz : code = 0
  · subst hcz
    have c0 : ((0 : Int) != 0) = false := rfl
    by_cases h3 : d = 3
    · have hres : showB d 0 t n = okB ++ hexT 8 (crcSum t.data.toList) := by unfold showB; rw [if_pos rfl, if_pos h3]
      have HR := Lib.hid hres
      have c3 : (d == 3) = true := by rw [beq_iff_eq]; exact h3
      have hcr : crcSum t.data.toList < 4294967296 := by unfold crcSum; omega
      clear hres h3
      go_enter Tryd.func15, Tryd.ntmps15
      go_wp2_with fail
      refine (crcSum_any t (by unfold maxLen; omega) _).mono ?_
      rintro e w' ⟨rfl, rfl⟩
      generalize hm : crcSum t.data.toList = m at *
      have HM := Lib.hid hm; clear hm
      go_wp2_with fail
      refine (fmt_any m hcr _ HT.out.2).mono ?_
      rintro e w1 ⟨k, hk1, hk8, hz, rfl, hb⟩
      have HB := Lib.hid hb; have HZ := Lib.hid hz; clear hb hz
      have hsz := hexT_size k m
      go_wp2_with fail
      refine (rep_at k hk8 _).mono ?_
      rintro e w2 ⟨rfl, hb2⟩
      have HB2 := Lib.hid hb2; clear hb2
      have hsz2 := zerosB_size (8 - k)
      go_wp2_with fail
      go_ret
      refine ⟨?_, (HB0.out.trans (HB.out.mono HB0.out.size)).trans (HB2.out.mono (Nat.le_trans HB0.out.size HB.out.size))⟩
      rw [HR.out, ← hexT_pad hk8 HZ.out, ← ba_assoc]; rfl
    · have c3 : (d == 3) = false := by rw [beq_eq_false_iff_ne]; exact h3
      by_cases h8 : d = 8
      · have c8 : (d == 8) = true := by rw [beq_iff_eq]; exact h8
        by_cases hte : t.data.toList = []
        · have hres : showB d 0 t n = okB ++ itoaB n := by unfold showB; rw [if_pos rfl, if_neg h3, if_pos h8, if_pos hte]
          have HR := Lib.hid hres
          have hne : (t.toList != []) = false := by rw [ByteArray.toList_eq, hte]; rfl
          have hne2 : t.toList.isEmpty = true := by rw [ByteArray.toList_eq, hte]; rfl
          clear hres h3 h8 hte
          go_enter Tryd.func15, Tryd.ntmps15
          go_wp2_with fail
          refine (itoa_call n h0 h1 _ HT.out.1).mono ?_
          rintro e w1 ⟨rfl, hb⟩
          have hbx : w1.cell? ⟨w.heap.size, 1, none⟩ = some (.string t) := (hb.cell (p := ⟨w.heap.size, 1, none⟩) (by simp)).trans (by rw [World.cell?_alloc_at _ _ _ _ rfl]; rfl)
          have HB := Lib.hid hb; clear hb
          go_wp2_with fail
          go_ret
          exact ⟨by rw [HR.out]; rfl, HB0.out.trans (HB.out.mono HB0.out.size)⟩
        · have hres : showB d 0 t n = okB ++ itoaB n ++ ⟨#[32]⟩ ++ t := by unfold showB; rw [if_pos rfl, if_neg h3, if_pos h8, if_neg hte]
          have HR := Lib.hid hres
          have hne2 : t.toList.isEmpty = false := by rw [ByteArray.toList_eq]; simpa using hte
          clear hres h3 h8 hte
          go_enter Tryd.func15, Tryd.ntmps15
          go_wp2_with fail
          refine (itoa_call n h0 h1 _ HT.out.1).mono ?_
          rintro e w1 ⟨rfl, hb⟩
          have hbx : w1.cell? ⟨w.heap.size, 1, none⟩ = some (.string t) := (hb.cell (p := ⟨w.heap.size, 1, none⟩) (by simp)).trans (by rw [World.cell?_alloc_at _ _ _ _ rfl]; rfl)
          have HB := Lib.hid hb; clear hb
          go_wp2_with fail
          go_ret
          exact ⟨by rw [HR.out, ba_assoc, ba_assoc]; rfl, HB0.out.trans (HB.out.mono HB0.out.size)⟩
      · have c8 : (d == 8) = false := by rw [beq_eq_false_iff_ne]; exact h8
        have hres : showB d 0 t n = ⟨#[111, 107]⟩ := by unfold showB; rw [if_pos rfl, if_neg h3, if_neg h8]
        have HR := Lib.hid hres
        clear hres h3 h8
        go_enter Tryd.func15, Tryd.ntmps15
        go_wp2_with fail
        go_ret
        exact ⟨by rw [HR.out]; rfl, HB0.out⟩
  · have hres : showB d code t n = errB ++ itoaB code := by unfold showB; rw [if_neg hcz]
    have HR := Lib.hid hres
    have c0 : (code != 0) = true := by rw [bne_iff_ne]; exact hcz
    clear hres hcz
    go_enter Tryd.func15, Tryd.ntmps15
    go_wp2_with fail
    refine (itoa_call code hc0 hc1 _ HT.out.1).mono ?_
    rintro e w' ⟨rfl, hb⟩
    have HB := Lib.hid hb; clear hb
    go_wp2_with fail
    go_ret
    exact ⟨by rw [HR.out]; rfl, HB0.out.trans (HB.out.mono HB0.out.size)⟩

set_option maxRecDepth 100000 in
set_option maxHeartbeats 1000000 in
theorem rshow_any (d code n : Int) (t : ByteArray) (ht : t.size ≤ 1000000) (hc0 : -9223372036854775808 ≤ code) (hc1 : code ≤ 9223372036854775807) (h0 : -9223372036854775808 ≤ n) (h1 : n ≤ 9223372036854775807) (w : World) :
    Calls Tryd.prog 16 #[.int .i64 d, ansV code t n] w (SEnd d code t n w) := by
  have hb0 : Below w.heap.size w (w.alloc (.cells #[.int .i64 code, .string t, .int .i64 n] 24)) := (Below.refl _ _).alloc (Nat.le_refl _) _
  have HB0 := Lib.hid hb0
  have hs1 := itoaB_size code hc0 hc1
  have hs2 := itoaB_size n h0 h1
  have hg1 := signed_any code hc0 hc1
  have hg2 := signed_any n h0 h1
  rw [show (⟨(Lib.itoa code).toArray⟩ : ByteArray) = itoaB code from rfl] at hg1
  rw [show (⟨(Lib.itoa n).toArray⟩ : ByteArray) = itoaB n from rfl] at hg2
  have HG1 := Lib.hid hg1; have HG2 := Lib.hid hg2
  clear hb0 hg1 hg2
  unfold ansV
  by_cases hcz : code = 0
  · subst hcz
    have c0 : ((0 : Int) != 0) = false := rfl
    by_cases h3 : d = 3
    · have hres : showB d 0 t n = okB ++ hexT 8 (crcSum t.data.toList) := by unfold showB; rw [if_pos rfl, if_pos h3]
      have HR := Lib.hid hres
      have c3 : (d == 3) = true := by rw [beq_iff_eq]; exact h3
      have hcr : crcSum t.data.toList < 4294967296 := by unfold crcSum; omega
      clear hres h3
      go_enter Tryd.func16, Tryd.ntmps16
      go_wp2_with fail
      refine (rcrcSum_any t (by unfold maxLen; omega) _).mono ?_
      rintro e w' ⟨rfl, rfl⟩
      generalize hm : crcSum t.data.toList = m at *
      have HM := Lib.hid hm; clear hm
      go_wp2_with fail
      refine (rhex_any m hcr _).mono ?_
      rintro e w' ⟨rfl, rfl⟩
      have hsz := hexT_size 8 m
      go_wp2_with fail
      go_ret
      exact ⟨by rw [HR.out]; rfl, HB0.out⟩
    · have c3 : (d == 3) = false := by rw [beq_eq_false_iff_ne]; exact h3
      by_cases h8 : d = 8
      · have c8 : (d == 8) = true := by rw [beq_iff_eq]; exact h8
        by_cases hte : t.data.toList = []
        · have hres : showB d 0 t n = okB ++ itoaB n := by unfold showB; rw [if_pos rfl, if_neg h3, if_pos h8, if_pos hte]
          have HR := Lib.hid hres
          have hne2 : t.toList.isEmpty = true := by rw [ByteArray.toList_eq, hte]; rfl
          clear hres h3 h8 hte
          go_enter Tryd.func16, Tryd.ntmps16
          go_wp2_with fail
          refine (HG2.out _).mono ?_
          rintro e w' ⟨rfl, rfl⟩
          go_wp2_with fail
          go_ret
          exact ⟨by rw [HR.out]; rfl, HB0.out⟩
        · have hres : showB d 0 t n = okB ++ itoaB n ++ ⟨#[32]⟩ ++ t := by unfold showB; rw [if_pos rfl, if_neg h3, if_pos h8, if_neg hte]
          have HR := Lib.hid hres
          have hne2 : t.toList.isEmpty = false := by rw [ByteArray.toList_eq]; simpa using hte
          clear hres h3 h8 hte
          go_enter Tryd.func16, Tryd.ntmps16
          go_wp2_with fail
          go_quiet (exact quiet_left (HG2.out _))
          go_wp2_with fail
          go_ret
          exact ⟨by rw [HR.out]; rfl, below_drewN' HB0.out _⟩
      · have c8 : (d == 8) = false := by rw [beq_eq_false_iff_ne]; exact h8
        have hres : showB d 0 t n = ⟨#[111, 107]⟩ := by unfold showB; rw [if_pos rfl, if_neg h3, if_neg h8]
        have HR := Lib.hid hres
        clear hres h3 h8
        go_enter Tryd.func16, Tryd.ntmps16
        go_wp2_with fail
        go_ret
        exact ⟨by rw [HR.out]; rfl, HB0.out⟩
  · have hres : showB d code t n = errB ++ itoaB code := by unfold showB; rw [if_neg hcz]
    have HR := Lib.hid hres
    have c0 : (code != 0) = true := by rw [bne_iff_ne]; exact hcz
    clear hres hcz
    go_enter Tryd.func16, Tryd.ntmps16
    go_wp2_with fail
    refine (HG1.out _).mono ?_
    rintro e w' ⟨rfl, rfl⟩
    go_wp2_with fail
    go_ret
    exact ⟨by rw [HR.out]; rfl, HB0.out⟩
end Go.Proofs.YtolegljmaacabaaDoor
