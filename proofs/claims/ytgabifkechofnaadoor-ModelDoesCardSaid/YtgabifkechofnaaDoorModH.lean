/- The walks of slices.IndexFunc, slices.DeleteFunc at blocks, of the model's without, and of slices.Delete at volumes. -/
import Derived.Test.YtgabifkechofnaaDoorModF
namespace Go.Proofs.YtgabifkechofnaaDoor
open Go.RowKit

theorem ret_bool {a b : Bool} (h : a = b) : Ending.returned (.bool a) = .returned (.bool b) := by rw [h]
def inB (lo hi : Int) (b : BlkD) : Bool := decide (lo ≤ b.pos) && decide (b.pos < hi)
abbrev cutF (a b : Nat) : Value := .func (.func 43) #[] #[.pointer (some ⟨a, 0, none⟩), .pointer (some ⟨b, 0, none⟩)]

set_option maxRecDepth 100000 in
theorem cut1_any (lo hi pos : Int) (text : ByteArray) (a b : Nat) (w : World) (ha : w.cell? ⟨a, 0, none⟩ = some (.int .i64 lo)) (hb : w.cell? ⟨b, 0, none⟩ = some (.int .i64 hi)) :
    Calls Tryd.prog 43 #[.agg #[.int .i64 pos, .string text], .pointer (some ⟨a, 0, none⟩), .pointer (some ⟨b, 0, none⟩)] w fun e w' => e = .returned (.bool (inB lo hi ⟨pos, text⟩)) ∧ Below w.heap.size w w' := by
  have hal := World.block_lt_of_cell? w _ ha
  have hbl := World.block_lt_of_cell? w _ hb
  have ha2 : (w.alloc (.cells #[.int .i64 pos, .string text] 56)).cell? ⟨a, 0, none⟩ = some (.int .i64 lo) := by rw [World.cell?_alloc_past _ _ _ hal]; exact ha
  have hb2 : (w.alloc (.cells #[.int .i64 pos, .string text] 56)).cell? ⟨b, 0, none⟩ = some (.int .i64 hi) := by rw [World.cell?_alloc_past _ _ _ hbl]; exact hb
  go_enter Tryd.func43, Tryd.ntmps43
  go_wp2_with fail
  all_goals
    go_ret
    refine ⟨ret_bool ?_, (Below.refl _ _).alloc (Nat.le_refl _) _⟩
    unfold inB
    first | rfl | (simp [*]; done) | (simp; omega)

def firstIn (l : List BlkD) (lo hi : Int) : Nat := (l.takeWhile fun d => !inB lo hi d).length
def IdxEnd (l : List BlkD) (lo hi : Int) (w : World) (e : Ending) (w' : World) : Prop := e = .returned (.int .i64 (if firstIn l lo hi < l.length then (firstIn l lo hi : Int) else -1)) ∧ Below w.heap.size w w'
set_option maxRecDepth 100000 in
set_option maxHeartbeats 1000000 in
theorem indexFunc_any (l : List BlkD) (p : Option Addr) (c : Nat) (lo hi : Int) (a b : Nat) (w : World) (hin : BlksIn w p l) (hn : l.length ≤ 100000) (ha : w.cell? ⟨a, 0, none⟩ = some (.int .i64 lo)) (hb : w.cell? ⟨b, 0, none⟩ = some (.int .i64 hi)) :
    Calls Tryd.prog 52 #[.slice p l.length c, cutF a b] w (IdxEnd l lo hi w) := by
  have HIN := Lib.hid hin; have HA := Lib.hid ha; have HBc := Lib.hid hb; clear hin ha hb
  have hlen : (l.length : Int) ≤ 4611686018427387904 := by omega
  clear hn
  go_enter Tryd.func52, Tryd.ntmps52
  go_wp2_with fail
  go_loopw [8] (fun i wr => ∃ k : Nat, k ≤ l.length ∧ i = .int .i64 k ∧ (∀ j, j < k → ∀ d, l[j]? = some d → (!inB lo hi d) = true) ∧ Below w.heap.size w wr) (fun i _ => l.length - (intOf i).toNat)
  case atStart => exact ⟨0, Nat.zero_le _, rfl, fun j hj => by omega, Below.refl _ _⟩
  case round =>
    obtain ⟨k, hk, rfl, hno, hb⟩ := hrel
    have HNO := Lib.hid hno; have HB := Lib.hid hb
    clear hno hb
    by_cases hlt : k < l.length
    · have hki : (k : Int) < (l.length : Int) := by omega
      obtain ⟨d, hd⟩ : ∃ d, l[k]? = some d := ⟨_, List.getElem?_eq_getElem hlt⟩
      obtain ⟨g, o, rfl, h0, h1⟩ := HIN.out.stays HB.out k d hd
      have HD := Lib.hid hd; clear hd
      go_wp2_with fail
      refine (cut1_any lo hi d.pos d.text a b _ (cell_stays HB.out HA.out) (cell_stays HB.out HBc.out)).mono ?_
      rintro e w1 ⟨rfl, hb⟩
      have HB1 := Lib.hid (btrans HB.out hb); clear hb
      cases hbe : inB lo hi d with
      | true =>
        have HF := Lib.hid (tw_len (fun d => !inB lo hi d) l k HNO.out (.inr ⟨d, HD.out, by rw [hbe]; rfl⟩))
        have HLT := Lib.hid hlt
        clear hbe
        go_wp2_with fail
        go_ret
        exact ⟨ret_int (by unfold firstIn; rw [HF.out, if_pos HLT.out]), HB1.out⟩
      | false =>
        have HE := Lib.hid hbe
        clear hbe
        go_wp2_with fail
        go_roundw
        case rel =>
          refine ⟨k + 1, by omega, by go_num, fun j hj d' hd' => ?_, HB1.out⟩
          by_cases e : j = k
          · subst e; rw [HD.out] at hd'; cases hd'; rw [HE.out]; rfl
          · exact HNO.out j (by omega) d' hd'
        case measure => simp [intOf]; omega
    · obtain rfl : k = l.length := by omega
      have HF := Lib.hid (tw_len (fun d => !inB lo hi d) l l.length HNO.out (.inl rfl))
      go_wp2_with fail
      go_ret
      exact ⟨ret_int (by unfold firstIn; rw [HF.out, if_neg (Nat.lt_irrefl _)]), HB.out⟩
end Go.Proofs.YtgabifkechofnaaDoor
