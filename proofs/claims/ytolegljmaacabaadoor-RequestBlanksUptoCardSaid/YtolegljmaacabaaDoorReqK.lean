/- The calls whose answers the document fixes. -/
import Derived.Test.YtolegljmaacabaaDoorReqD
import Derived.Test.YtolegljmaacabaaDoorReqG
import Derived.Test.YtolegljmaacabaaDoorReqJ
namespace Go.Proofs.YtolegljmaacabaaDoor
open Go.RowKit

theorem fx1 : parseL (wordsL [32, 119, 114, 105, 116, 101, 32, 49, 32, 32, 50, 32, 97]) = some { OpD.zero with act := 4, vol := 1, block := 2, text := ⟨(rep256 97).toArray⟩ } := by kernel_rfl
theorem fx2 : parseL (wordsL [119, 114, 105, 116, 101, 32, 49, 32, 48, 50, 32, 97]) = none := by kernel_rfl
theorem fx3 : parseL (wordsL []) = none := by kernel_rfl
theorem fx4 : (fillL [114, 48]).isSome = true ∧ ((fillL [114, 48]).getD []).length = 256 := by
  constructor
  · kernel_rfl
  · kernel_rfl
theorem fx5 : crcSum [49, 50, 51, 52, 53, 54, 55, 56, 57] = 0xcbf43926 := by kernel_rfl
theorem fx6 : wordsL [32, 97, 32, 32, 98] = [[97], [98]] := by kernel_rfl

def t97 : ByteArray := ⟨(rep256 97).toArray⟩
theorem p1_any (w : World) : Calls Tryd.prog 8 #[.string ⟨#[32, 119, 114, 105, 116, 101, 32, 49, 32, 32, 50, 32, 97]⟩] w fun e w' => e = .returned (.tuple #[.agg #[.int .i64 4, .int .i64 1, .int .i64 0, .int .i64 2, .int .i64 0, .string t97], .bool true]) ∧ Below w.heap.size w w' := by
  refine (parse_any ⟨#[32, 119, 114, 105, 116, 101, 32, 49, 32, 32, 50, 32, 97]⟩ (by decide) _).mono ?_
  rintro e w1 ⟨rfl, hb1⟩
  exact ⟨by rw [fx1]; rfl, hb1⟩
theorem p2_any (w : World) : Calls Tryd.prog 8 #[.string ⟨#[119, 114, 105, 116, 101, 32, 49, 32, 48, 50, 32, 97]⟩] w fun e w' => e = .returned (.tuple #[.agg #[.int .i64 0, .int .i64 0, .int .i64 0, .int .i64 0, .int .i64 0, .string ⟨#[]⟩], .bool false]) ∧ Below w.heap.size w w' := by
  refine (parse_any ⟨#[119, 114, 105, 116, 101, 32, 49, 32, 48, 50, 32, 97]⟩ (by decide) _).mono ?_
  rintro e w1 ⟨rfl, hb1⟩
  exact ⟨by rw [fx2]; rfl, hb1⟩
theorem p3_any (w : World) : Calls Tryd.prog 8 #[.string ⟨#[]⟩] w fun e w' => e = .returned (.tuple #[.agg #[.int .i64 0, .int .i64 0, .int .i64 0, .int .i64 0, .int .i64 0, .string ⟨#[]⟩], .bool false]) ∧ Below w.heap.size w w' := by
  refine (parse_any ⟨#[]⟩ (by decide) _).mono ?_
  rintro e w1 ⟨rfl, hb1⟩
  exact ⟨by rw [fx3]; rfl, hb1⟩

def fR0 : ByteArray := ⟨((fillL [114, 48]).getD []).toArray⟩
theorem fR0_size : fR0.size = 256 := by show ((fillL [114, 48]).getD []).toArray.size = 256; rw [List.size_toArray]; exact fx4.2
theorem f1_any (w : World) : Calls Tryd.prog 10 #[.string ⟨#[114, 48]⟩] w fun e w' => e = .returned (.tuple #[.string fR0, .bool true]) ∧ Below w.heap.size w w' := by
  refine (fill_any ⟨#[114, 48]⟩ (by decide) _).mono ?_
  rintro e w1 ⟨rfl, hb1⟩
  exact ⟨by rw [show (fillL (⟨#[114, 48]⟩ : ByteArray).data.toList).isSome = true from fx4.1]; rfl, hb1⟩
theorem s1_any (w : World) (hT : Tabs w) : Calls Tryd.prog 15 #[.int .i64 3, .agg #[.int .i64 0, .string ⟨#[49, 50, 51, 52, 53, 54, 55, 56, 57]⟩, .int .i64 0]] w fun e w' => e = .returned (.string ⟨#[111, 107, 32, 99, 98, 102, 52, 51, 57, 50, 54]⟩) ∧ Below w.heap.size w w' := by
  refine (show_any 3 0 0 ⟨#[49, 50, 51, 52, 53, 54, 55, 56, 57]⟩ (by decide) (by decide) (by decide) (by decide) (by decide) w hT).mono ?_
  rintro e w1 ⟨rfl, hb1⟩
  exact ⟨by rw [show showB 3 0 ⟨#[49, 50, 51, 52, 53, 54, 55, 56, 57]⟩ 0 = ⟨#[111, 107, 32, 99, 98, 102, 52, 51, 57, 50, 54]⟩ by kernel_rfl], hb1⟩
theorem ia230 : itoaB 230 = ⟨#[50, 51, 48]⟩ := by
  unfold itoaB Lib.itoa; simp [Lib.decDigits]
theorem ia1 : itoaB 1 = ⟨#[49]⟩ := by
  unfold itoaB Lib.itoa; simp [Lib.decDigits]
theorem s2_any (w : World) (hT : Tabs w) : Calls Tryd.prog 15 #[.int .i64 7, .agg #[.int .i64 230, .string ⟨#[]⟩, .int .i64 0]] w fun e w' => e = .returned (.string ⟨#[101, 114, 114, 111, 114, 32, 50, 51, 48]⟩) ∧ Below w.heap.size w w' := by
  refine (show_any 7 230 0 ⟨#[]⟩ (by decide) (by decide) (by decide) (by decide) (by decide) w hT).mono ?_
  rintro e w1 ⟨rfl, hb1⟩
  exact ⟨by rw [show showB 7 230 ⟨#[]⟩ 0 = errB ++ itoaB 230 from rfl, ia230]; rfl, hb1⟩
theorem s3_any (w : World) (hT : Tabs w) : Calls Tryd.prog 15 #[.int .i64 8, .agg #[.int .i64 0, .string ⟨#[49, 58, 50, 58, 48]⟩, .int .i64 1]] w fun e w' => e = .returned (.string ⟨#[111, 107, 32, 49, 32, 49, 58, 50, 58, 48]⟩) ∧ Below w.heap.size w w' := by
  refine (show_any 8 0 1 ⟨#[49, 58, 50, 58, 48]⟩ (by decide) (by decide) (by decide) (by decide) (by decide) w hT).mono ?_
  rintro e w1 ⟨rfl, hb1⟩
  exact ⟨by rw [show showB 8 0 ⟨#[49, 58, 50, 58, 48]⟩ 1 = okB ++ itoaB 1 ++ ⟨#[32]⟩ ++ ⟨#[49, 58, 50, 58, 48]⟩ from rfl, ia1]; rfl, hb1⟩
theorem w1_any (w : World) : Calls Tryd.prog 13 #[.string ⟨#[32, 97, 32, 32, 98]⟩] w fun e w' => ∃ g cap, e = .returned (.slice (some ⟨g, 0, none⟩) 2 cap) ∧ w'.cell? ⟨g, 0, none⟩ = some (.string ⟨#[97]⟩) ∧ w'.cell? ⟨g, 1, none⟩ = some (.string ⟨#[98]⟩) ∧ g < w'.heap.size ∧ Below w.heap.size w w' := by
  refine (words_any ⟨#[32, 97, 32, 32, 98]⟩ (by decide) w).mono ?_
  rintro e w' ⟨v, ws, rfl, hws, hown, hb⟩
  rw [show wordsL (⟨#[32, 97, 32, 32, 98]⟩ : ByteArray).data.toList = [[97], [98]] from fx6] at hws
  obtain ⟨a, b, rfl⟩ : ∃ a b, ws = [a, b] := by
    match ws, (show ws.length = 2 by have := congrArg List.length hws; simpa using this) with
    | [a, b], _ => exact ⟨a, b, rfl⟩
  have ha : a.data.toList = [97] := (List.cons.inj hws).1
  have hb' : b.data.toList = [98] := (List.cons.inj (List.cons.inj hws).2).1
  obtain rfl : a = ⟨#[97]⟩ := Go.WideShapes.bytes_inj ha
  obtain rfl : b = ⟨#[98]⟩ := Go.WideShapes.bytes_inj hb'
  obtain ⟨g, cap, rfl⟩ := ownsRow_succ (k := 1) hown
  exact ⟨g, cap, rfl, ow_cell hown 0 (by simp [strsV]), ow_cell hown 1 (by simp [strsV]), (ow_cap hown).2.2.2, hb⟩
def box1 (W : World) (b : Nat) : Prop := W.heap[b]? = some (.cells #[.int .i64 4, .int .i64 1, .int .i64 0, .int .i64 2, .int .i64 0, .string t97] 27 (0, 0))
set_option maxRecDepth 100000 in
set_option maxHeartbeats 2000000 in
theorem fixed_any (w : World) (hT : Tabs w) : Calls Tryd.prog 7 #[] w fun e w' => e = .returned (.bool true) ∧ Below w.heap.size w w' := by
  have HT := Lib.hid hT; clear hT
  go_enter Tryd.func7, Tryd.ntmps7
  go_wp2_with fail
  refine (p1_any _).mono ?_
  rintro e w1 ⟨rfl, hb1⟩
  have HB1 := Lib.hid hb1; clear hb1
  go_wp2_with fail
  refine (p2_any _).mono ?_
  rintro e w2 ⟨rfl, hb2⟩
  have HB2 := Lib.hid hb2; clear hb2
  go_wp2_with fail
  refine (p3_any _).mono ?_
  rintro e w3 ⟨rfl, hb3⟩
  have HB3 := Lib.hid hb3; clear hb3
  go_wp2_with fail
  refine (f1_any _).mono ?_
  rintro e w4 ⟨rfl, hb4⟩
  have hbx2 : box1 w2 w1.heap.size := (HB2.out.block _ (by simp)).trans (World.alloc_heap_new w1 _)
  have hbx3 : box1 w3 w1.heap.size := (HB3.out.block _ (by have := (Array.getElem?_eq_some_iff.1 hbx2).1; simp; omega)).trans ((Below.heap_alloc w2 _ _ (Array.getElem?_eq_some_iff.1 hbx2).1).trans hbx2)
  have hbx4 : box1 w4 w1.heap.size := (hb4.block _ (by have := (Array.getElem?_eq_some_iff.1 hbx3).1; simp; omega)).trans ((Below.heap_alloc w3 _ _ (Array.getElem?_eq_some_iff.1 hbx3).1).trans hbx3)
  have a2 := btrans (HB1.out.alloc HB1.out.size _) HB2.out
  have a3 := btrans (a2.alloc a2.size _) HB3.out
  have ha1 := btrans (a3.alloc a3.size _) hb4
  clear a2 a3
  have HA := Lib.hid ha1; have HT4 := Lib.hid (HT.out.stays ha1); have HBX := Lib.hid hbx4
  clear hb4 hbx2 hbx3 ha1 hbx4
  have x0 : w4.cell? ⟨w1.heap.size, 0, none⟩ = some (.int .i64 4) := by simp [World.cell?, show w4.heap[w1.heap.size]? = _ from HBX.out]
  have x1 : w4.cell? ⟨w1.heap.size, 1, none⟩ = some (.int .i64 1) := by simp [World.cell?, show w4.heap[w1.heap.size]? = _ from HBX.out]
  have x3 : w4.cell? ⟨w1.heap.size, 3, none⟩ = some (.int .i64 2) := by simp [World.cell?, show w4.heap[w1.heap.size]? = _ from HBX.out]
  have x5 : w4.cell? ⟨w1.heap.size, 5, none⟩ = some (.string t97) := by simp [World.cell?, show w4.heap[w1.heap.size]? = _ from HBX.out]
  have q1 : t97.size = 256 := by show (rep256 97).toArray.size = 256; rw [List.size_toArray]; kernel_rfl
  have q2 : t97[255]'(by rw [q1]; decide) = 97 := by kernel_rfl
  have q3 := fR0_size
  go_wp2_with fail
  clear x0 x1 x3 x5 q1 q2 q3
  refine (s1_any _ HT4.out).mono ?_
  rintro e w5 ⟨rfl, hb5⟩
  have HA5 := Lib.hid (btrans HA.out hb5); have HT5 := Lib.hid (HT4.out.stays hb5); clear hb5
  go_wp2_with fail
  refine (s2_any _ HT5.out).mono ?_
  rintro e w6 ⟨rfl, hb6⟩
  have HA6 := Lib.hid (btrans HA5.out hb6); have HT6 := Lib.hid (HT5.out.stays hb6); clear hb6
  go_wp2_with fail
  refine (s3_any _ HT6.out).mono ?_
  rintro e w7 ⟨rfl, hb7⟩
  have HA7 := Lib.hid (btrans HA6.out hb7); have HT7 := Lib.hid (HT6.out.stays hb7); clear hb7
  go_wp2_with fail
  refine (w1_any _).mono ?_
  rintro e w8 ⟨g, cap, rfl, hg0, hg1, hgl, hb8⟩
  have HA8 := Lib.hid (btrans HA7.out hb8); clear hb8
  go_wp2_with fail
  refine (texts_any 2 2 cap 2 (some ⟨g, 0, none⟩) (some ⟨w8.heap.size, 0, none⟩) (fun k => if k = 0 then ⟨#[97]⟩ else ⟨#[98]⟩) (fun k => if k = 0 then ⟨#[97]⟩ else ⟨#[98]⟩) (by decide) (by decide) _ ?_ ?_).mono ?_
  · intro k hk
    refine ⟨g, 0, rfl, ?_⟩
    rw [World.cell?_alloc_past _ _ _ hgl]
    match k, hk with
    | 0, _ => exact hg0
    | 1, _ => exact hg1
  · intro k hk
    refine ⟨w8.heap.size, 0, rfl, ?_⟩
    match k, hk with
    | 0, _ => rw [World.cell?_alloc_at _ _ _ _ rfl]; rfl
    | 1, _ => rw [World.cell?_alloc_at _ _ _ _ rfl]; rfl
  · rintro e w9 ⟨rfl, q, rfl⟩
    rw [textsEq_yes (fun _ _ => rfl)]
    go_wp2_with fail
    go_ret
    exact ⟨rfl, below_drewN' (HA8.out.alloc HA8.out.size _) _⟩
end Go.Proofs.YtolegljmaacabaaDoor
