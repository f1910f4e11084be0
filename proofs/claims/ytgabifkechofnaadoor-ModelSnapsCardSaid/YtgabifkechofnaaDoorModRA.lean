/- The walks of the reference's small functions: ID, Size, Find, Small, Blank, Read. -/
import Derived.Test.YtgabifkechofnaaDoorModG
import Derived.Test.YtgabifkechofnaaDoorModL
namespace Go.Proofs.YtgabifkechofnaaDoor
open Go.RowKit

theorem rid_any (n : Int) (w : World) : Calls Tryd.prog 36 #[.int .i64 n] w fun e w' => e = .returned (.bool (decide (1 ≤ n) && decide (n ≤ 1000))) ∧ w = w' := by
  go_enter Tryd.func36, Tryd.ntmps36
  go_wp2_with fail
  all_goals
    go_ret
    exact ⟨ret_bool (by simp_all <;> omega), rfl⟩
theorem rsize_any (n : Int) (w : World) : Calls Tryd.prog 37 #[.int .i64 n] w fun e w' => e = .returned (.bool (decide (0 ≤ n) && decide (n ≤ 100000))) ∧ w = w' := by
  go_enter Tryd.func37, Tryd.ntmps37
  go_wp2_with fail
  all_goals
    go_ret
    exact ⟨ret_bool (by simp_all <;> omega), rfl⟩

def findI (m : List VolD) (id : Int) : Int := match findL m id with | none => -1 | some i => (i : Int)
theorem rfind_any (m : List VolD) (id : Int) (v : Value) (w : World) (hm : ModelAt w v m) :
    Calls Tryd.prog 16 #[v, .int .i64 id] w fun e w' => e = .returned (.int .i64 (findI m id)) ∧ w = w' := by
  obtain ⟨p, c, rfl, hc1, hc2, hel⟩ := hm
  have HEL := Lib.hid hel; clear hel
  have hlen : m.length ≤ 9223372036854775807 := by unfold maxLen at hc2; omega
  clear hc1 hc2
  go_enter Tryd.func16, Tryd.ntmps16
  go_wp2_with fail
  go_loop [5] (fun i => ∃ k : Nat, k ≤ m.length ∧ i = .int .i64 k ∧ (∀ j, j < k → ∀ d, m[j]? = some d → d.id ≠ id)) (fun i => m.length - (intOf i).toNat)
  case atStart => exact ⟨0, Nat.zero_le _, rfl, fun j hj => by omega⟩
  case round =>
    obtain ⟨k, hk, rfl, hno⟩ := hrel
    have HNO := Lib.hid hno
    clear hno
    by_cases hlt : k < m.length
    · have hki : (k : Int) < (m.length : Int) := by omega
      obtain ⟨g, o, bp, bc, rfl, h0, h1, h2, _⟩ := HEL.out k _ (List.getElem?_eq_getElem hlt)
      have hd := List.getElem?_eq_getElem hlt
      have HD := Lib.hid hd; clear hd
      by_cases he : m[k].id = id
      · have hbe : (m[k].id == id) = true := by simpa using he
        have HE := Lib.hid he; clear he
        go_wp2_with fail
        go_ret
        exact ⟨ret_int (by unfold findI; rw [findL_some HD.out HE.out HNO.out]), rfl⟩
      · have hbe : (m[k].id == id) = false := by simpa using he
        have HE := Lib.hid he; clear he
        go_wp2_with fail
        go_round
        case rel =>
          refine ⟨k + 1, by omega, by go_num, fun j hj d hd => ?_⟩
          by_cases e : j = k
          · subst e; rw [HD.out] at hd; cases hd; exact HE.out
          · exact HNO.out j (by omega) d hd
        case measure => simp [intOf]; omega
    · obtain rfl : k = m.length := by omega
      go_wp2_with fail
      go_ret
      exact ⟨ret_int (by unfold findI; rw [findL_none HNO.out]), rfl⟩

def smallB (m : List VolD) : Bool := (m.all fun d => decide (d.blocks.length ≤ 60)) && decide (m.length ≤ 70)
theorem small_any (m : List VolD) (v : Value) (w : World) (hm : ModelAt w v m) :
    Calls Tryd.prog 8 #[v] w fun e w' => e = .returned (.bool (smallB m)) ∧ w = w' := by
  obtain ⟨p, c, rfl, hc1, hc2, hel⟩ := hm
  have HEL := Lib.hid hel; clear hel
  have hlen : m.length ≤ 9223372036854775807 := by unfold maxLen at hc2; omega
  clear hc1 hc2
  go_enter Tryd.func8, Tryd.ntmps8
  go_wp2_with fail
  go_loop [3] (fun i => ∃ k : Nat, k ≤ m.length ∧ i = .int .i64 k ∧ (∀ j, j < k → ∀ d, m[j]? = some d → d.blocks.length ≤ 60)) (fun i => m.length - (intOf i).toNat)
  case atStart => exact ⟨0, Nat.zero_le _, rfl, fun j hj => by omega⟩
  case round =>
    obtain ⟨k, hk, rfl, hno⟩ := hrel
    have HNO := Lib.hid hno
    clear hno
    by_cases hlt : k < m.length
    · have hki : (k : Int) < (m.length : Int) := by omega
      obtain ⟨d, hd⟩ : ∃ d, m[k]? = some d := ⟨_, List.getElem?_eq_getElem hlt⟩
      obtain ⟨g, o, bp, bc, rfl, h0, h1, h2, hb1, hb2, _⟩ := HEL.out k d hd
      have hbl : (d.blocks.length : Int) ≤ 9223372036854775807 := by unfold maxLen at hb2; omega
      have HD := Lib.hid hd; clear hd
      by_cases he : 60 < d.blocks.length
      · have hbe : (60 : Int) < (d.blocks.length : Int) := by omega
        go_wp2_with fail
        go_ret
        refine ⟨ret_bool ?_, rfl⟩
        unfold smallB
        rw [eq_comm, Bool.and_eq_false_iff]; left
        rw [List.all_eq_false]
        exact ⟨d, List.mem_of_getElem? HD.out, by simpa using he⟩
      · have hbe : ¬ (60 : Int) < (d.blocks.length : Int) := by omega
        go_wp2_with fail
        go_round
        case rel =>
          refine ⟨k + 1, by omega, by go_num, fun j hj d' hd' => ?_⟩
          by_cases e : j = k
          · subst e; rw [HD.out] at hd'; cases hd'; omega
          · exact HNO.out j (by omega) d' hd'
        case measure => simp [intOf]; omega
    · obtain rfl : k = m.length := by omega
      go_wp2_with fail
      go_ret
      refine ⟨ret_bool ?_, rfl⟩
      unfold smallB
      rw [List.all_eq_true.2 (fun d hd => by
        obtain ⟨j, hj⟩ := List.mem_iff_getElem?.1 hd
        exact decide_eq_true (HNO.out j (List.getElem?_eq_some_iff.1 hj).1 d hj)), Bool.true_and]
      exact decide_eq_decide.2 (by omega)
end Go.Proofs.YtgabifkechofnaaDoor
