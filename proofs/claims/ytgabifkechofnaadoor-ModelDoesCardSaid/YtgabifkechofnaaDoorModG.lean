/- The walk of the model's text: what a block reads as. -/
import Derived.Test.YtgabifkechofnaaDoorModF
import Derived.Test.YtgabifkechofnaaDoorShelf
namespace Go.Proofs.YtgabifkechofnaaDoor
open Go.RowKit

theorem ret_str {a b : ByteArray} (h : a = b) : Ending.returned (.string a) = .returned (.string b) := by rw [h]
def blankB : ByteArray := ⟨(List.replicate 256 0).toArray⟩
def textL (l : List BlkD) (pos : Int) : ByteArray := match l.find? fun b => b.pos == pos with | none => blankB | some b => b.text
theorem textL_some {l : List BlkD} {pos : Int} {k : Nat} {d : BlkD} (hd : l[k]? = some d) (he : d.pos = pos) (h : ∀ j, j < k → ∀ d, l[j]? = some d → d.pos ≠ pos) : textL l pos = d.text := by
  have : l.find? (fun b => b.pos == pos) = some d := by
    rw [List.find?_eq_some_iff_getElem]
    obtain ⟨hk, rfl⟩ := List.getElem?_eq_some_iff.1 hd
    exact ⟨by simpa using he, k, hk, rfl, fun j hj => by simpa using h j hj _ (List.getElem?_eq_getElem (by omega))⟩
  unfold textL; rw [this]
theorem textL_none {l : List BlkD} {pos : Int} (h : ∀ j, j < l.length → ∀ d, l[j]? = some d → d.pos ≠ pos) : textL l pos = blankB := by
  have : l.find? (fun b => b.pos == pos) = none := by
    rw [List.find?_eq_none]
    intro x hx
    obtain ⟨i, hi, rfl⟩ := List.mem_iff_getElem.1 hx
    simpa using h i hi _ (List.getElem?_eq_getElem hi)
  unfold textL; rw [this]

theorem repeatL_oneM (b : UInt8) : ∀ c, Lib.repeatL [b] c = List.replicate c b
  | 0 => rfl
  | c + 1 => by show [b] ++ _ = _; rw [repeatL_oneM b c]; rfl

theorem rep_call (w : World) : Calls Tryd.prog 44 #[.string ⟨#[0]⟩, .int .i64 256] w fun e w' => e = .returned (.string blankB) ∧ Below w.heap.size w w' := by
  refine (Tryd.strings_Repeat ⟨#[0]⟩ 256 w (by omega) ?_).mono ?_
  · show 1 * 256 ≤ _; omega
  · rintro e w' ⟨rfl, hb⟩
    exact ⟨by rw [show (⟨#[0]⟩ : ByteArray).data.toList = [0] from rfl, repeatL_oneM]; rfl, hb⟩

set_option maxRecDepth 100000 in
set_option maxHeartbeats 1000000 in
theorem text_any (l : List BlkD) (pos : Int) (p : Option Addr) (c : Nat) (w : World) (hin : BlksIn w p l) (hn : l.length ≤ 100000) :
    Calls Tryd.prog 25 #[.slice p l.length c, .int .i64 pos] w fun e w' => e = .returned (.string (textL l pos)) ∧ Below w.heap.size w w' := by
  have HIN := Lib.hid hin; clear hin
  have hlen : (l.length : Int) ≤ 4611686018427387904 := by omega
  clear hn
  go_enter Tryd.func25, Tryd.ntmps25
  go_wp2_with fail
  go_loopw [9] (fun i wr => ∃ k : Nat, k ≤ l.length ∧ i = .int .i64 k ∧ (∀ j, j < k → ∀ d, l[j]? = some d → d.pos ≠ pos) ∧ Below w.heap.size w wr) (fun i _ => l.length - (intOf i).toNat)
  case atStart => exact ⟨0, Nat.zero_le _, rfl, fun j hj => by omega, Below.refl _ _⟩
  case round =>
    obtain ⟨k, hk, rfl, hno, hb⟩ := hrel
    have HNO := Lib.hid hno; have HB := Lib.hid hb
    clear hno hb
    by_cases hlt : k < l.length
    · have hki : (k : Int) < (l.length : Int) := by omega
      obtain ⟨d, hd⟩ : ∃ d, l[k]? = some d := ⟨_, List.getElem?_eq_getElem hlt⟩
      obtain ⟨g, o, rfl, h0, h1⟩ := HIN.out.stays HB.out k d hd
      have HD := Lib.hid hd; clear hd
      by_cases he : d.pos = pos
      · have hbe : (d.pos == pos) = true := by simpa using he
        have HE := Lib.hid (textL_some HD.out he HNO.out); clear he
        go_wp2_with fail
        go_ret
        exact ⟨ret_str HE.out.symm, HB.out.alloc HB.out.size _⟩
      · have hbe : (d.pos == pos) = false := by simpa using he
        have HE := Lib.hid he; clear he
        go_wp2_with fail
        go_roundw
        case rel =>
          refine ⟨k + 1, by omega, by go_num, fun j hj d' hd' => ?_, HB.out.alloc HB.out.size _⟩
          by_cases e : j = k
          · subst e; rw [HD.out] at hd'; cases hd'; exact HE.out
          · exact HNO.out j (by omega) d' hd'
        case measure => simp [intOf]; omega
    · obtain rfl : k = l.length := by omega
      have HE := Lib.hid (textL_none HNO.out)
      go_wp2_with fail
      refine (rep_call _).mono ?_
      rintro e w1 ⟨rfl, hb⟩
      have HB1 := Lib.hid (btrans HB.out hb); clear hb
      go_wp2_with fail
      go_ret
      exact ⟨ret_str HE.out.symm, HB1.out⟩
end Go.Proofs.YtgabifkechofnaaDoor
