/- The walks of request.number and of the reference's Number: which texts are numbers, and their values; the world is left as it was. -/
import Derived.Test.YtolegljmaacabaaDoorCrc
import Derived.Test.YtolegljmaacabaaDoorNumP
import Derived.Test.YtolegljmaacabaaDoorDigits
namespace Go.Proofs.YtolegljmaacabaaDoor
open Go.RowKit

def numV (l : List UInt8) : Nat := if numB l then valL l else 0

theorem numB_yes {s : ByteArray} (h1 : 1 ≤ s.size) (h9 : s.size ≤ 9) (hz : ¬ (1 < s.size ∧ s.data.toList.head? = some 48)) (hd : ∀ b ∈ s.data.toList, dig b = true) : numB s.data.toList = true := by
  unfold numB
  rw [List.all_eq_true.2 hd]
  have hl : s.data.toList.length = s.size := by simp
  rw [hl]
  by_cases a : 1 < s.size
  · have b : ¬ s.data.toList.head? = some 48 := fun b => hz ⟨a, b⟩
    simp only [h1, h9, decide_true, Bool.true_and, Bool.not_eq_true']
    simp [b]
  · simp [h1, h9, a]
theorem numB_len {s : ByteArray} (h : s.size < 1 ∨ 9 < s.size) : numB s.data.toList = false := by
  have hl : s.data.toList.length = s.size := by simp
  unfold numB; rw [hl]
  rcases h with h | h
  · simp [show ¬ 1 ≤ s.size by omega]
  · simp [show ¬ s.size ≤ 9 by omega]
theorem numB_zero {s : ByteArray} (h : 1 < s.size) (h0 : s.data.toList.head? = some 48) : numB s.data.toList = false := by
  have hl : s.data.toList.length = s.size := by simp
  unfold numB; rw [hl]; simp [h, h0]
theorem numB_dig {s : ByteArray} (k : Nat) (hk : k < s.size) (h : dig s[k] = false) : numB s.data.toList = false := by
  have : s.data.toList.all dig = false := by
    rw [List.all_eq_false]
    refine ⟨s[k], ?_, by simp [h]⟩
    have : s[k] = s.data.toList[k]'(by simpa using hk) := rfl
    rw [this]; exact List.getElem_mem _
  unfold numB; rw [this]; simp
theorem head_at {s : ByteArray} (h : 0 < s.size) : s.data.toList.head? = some s[0] := by
  rw [List.head?_eq_getElem?, List.getElem?_eq_getElem (by simpa using h)]; rfl

def NRel (s : ByteArray) (n i : Value) : Prop := ∃ k : Nat, k ≤ s.size ∧ i = .int .i64 k ∧ n = .int .i64 (valL (s.data.toList.take k) : Nat) ∧ ∀ b ∈ s.data.toList.take k, dig b = true

theorem nrel_step {s : ByteArray} {k : Nat} (hk : k < s.size) (hd : dig s[k] = true) (h : ∀ b ∈ s.data.toList.take k, dig b = true) :
    NRel s (.int .i64 ((10 * valL (s.data.toList.take k) + (s[k].toNat - 48) : Nat))) (.int .i64 ((k : Int) + 1)) := by
  refine ⟨k + 1, hk, by go_num, by rw [take_snoc s k hk, valL_snoc], ?_⟩
  rw [take_snoc s k hk]
  intro b hb
  rcases List.mem_append.1 hb with hb | hb
  · exact h b hb
  · rw [List.mem_singleton.1 hb]; exact hd

def NEnd (s : ByteArray) (w : World) (e : Ending) (w' : World) : Prop := e = .returned (.tuple #[.int .i64 (numV s.data.toList : Nat), .bool (numB s.data.toList)]) ∧ w = w'

set_option maxHeartbeats 800000 in
theorem number_any (s : ByteArray) (hs : s.size ≤ maxLen) (w : World) : Calls Tryd.prog 21 #[.string s] w (NEnd s w) := by
  unfold maxLen at hs
  have hno : numB s.data.toList = false → NEnd s w (.returned (.tuple #[.int .i64 0, .bool false])) w := by
    intro h; unfold NEnd numV; rw [h]; exact ⟨rfl, rfl⟩
  have HNO := Lib.hid hno; clear hno
  by_cases hl : s.size < 1 ∨ 9 < s.size
  · have HL := Lib.hid (HNO.out (numB_len hl))
    rcases hl with hl | hl
    all_goals
      go_enter Tryd.func21, Tryd.ntmps21
      go_wp2
      go_ret2
      exact HL.out
  · have h1 : 1 ≤ s.size := by omega
    have h9 : s.size ≤ 9 := by omega
    have p0 : 0 < s.size := h1
    clear hl
    have hh := head_at p0
    have HH := Lib.hid hh; clear hh
    by_cases hz : 1 < s.size ∧ s[0] = 48
    · obtain ⟨z1, z2⟩ := hz
      have HL := Lib.hid (HNO.out (numB_zero z1 (by rw [HH.out, z2])))
      have z3 : ((s[0].toNat : Int) == 48) = true := by rw [z2]; rfl
      clear z2
      go_enter Tryd.func21, Tryd.ntmps21
      go_wp2
      go_ret2
      exact HL.out
    · have hz' : ¬ (1 < s.size ∧ s.data.toList.head? = some 48) := by
        rintro ⟨a, b⟩
        rw [HH.out] at b
        exact hz ⟨a, Option.some.inj b⟩
      have HZ := Lib.hid hz'; clear hz'
      have hcase : ((s[0].toNat : Int) == 48) = false ∨ (((s[0].toNat : Int) == 48) = true ∧ s.size = 1) := by
        by_cases a : s[0] = 48
        · exact .inr ⟨by rw [a]; rfl, by have : ¬ 1 < s.size := fun b => hz ⟨b, a⟩
                                         omega⟩
        · refine .inl ?_
          rw [beq_eq_false_iff_ne]
          intro e
          exact a (UInt8.toNat_inj.1 (by simpa using (Int.ofNat.inj e)))
      clear hz
      rcases hcase with hc | ⟨hc, hc1⟩
      all_goals
        try have d1 : decide ((1 : Int) < (s.size : Int)) = false := by simp; omega
        have d2 : decide ((s.size : Int) < 1) = false := by simp; omega
        have d3 : decide ((9 : Int) < (s.size : Int)) = false := by simp; omega
        go_enter Tryd.func21, Tryd.ntmps21
        go_wp2_with fail
        go_loop [4, 5, 26] (fun n _ i => NRel s n i) (fun _ _ i => s.size - (intOf i).toNat)
        case atStart => exact ⟨0, Nat.zero_le _, rfl, rfl, by simp⟩
        case round =>
          obtain ⟨k, hk, rfl, rfl, hd⟩ := hrel
          have hv := valL_lt hd (by rw [List.length_take]; omega)
          by_cases hlt : k < s.size
          · have e2 : decide ((k : Int) < (s.size : Int)) = true := by simp; omega
            by_cases hdk : dig s[k] = true
            · have hst := nrel_step hlt hdk hd
              have HST := Lib.hid hst; clear hst hd
              obtain ⟨b1, b2⟩ := (dig_iff _).1 hdk
              have b3 : (48 : Int) ≤ (s[k].toNat : Int) := by omega
              have b4 : (s[k].toNat : Int) ≤ 57 := by omega
              clear hdk
              generalize valL (s.data.toList.take k) = v at *
              go_wp2
              refine ⟨?_, by simp [intOf]; omega⟩
              have := HST.out
              rw [show ((10 * v + (s[k].toNat - 48) : Nat) : Int) = (v : Int) * 10 + ((s[k].toNat : Int) - 48) by omega] at this
              exact this
            · have hb : (s[k].toNat : Int) < 48 ∨ (57 : Int) < (s[k].toNat : Int) := by
                have : ¬ (48 ≤ s[k].toNat ∧ s[k].toNat ≤ 57) := fun h => hdk ((dig_iff _).2 h)
                omega
              have HL := Lib.hid (HNO.out (numB_dig k hlt (by simpa using hdk)))
              clear hdk hd
              rcases hb with hb | hb
              all_goals
                go_wp2
                go_ret2
                exact HL.out
          · obtain rfl : k = s.size := by omega
            rw [take_all s] at hd hv ⊢
            have hy := numB_yes h1 h9 HZ.out hd
            have hfin : NEnd s w (.returned (.tuple #[.int .i64 (valL s.data.toList : Nat), .bool true])) w := by
              unfold NEnd numV; rw [hy]; exact ⟨rfl, rfl⟩
            have HF := Lib.hid hfin; clear hfin hy hd
            generalize valL s.data.toList = v at *
            go_wp2
            go_ret2
            exact HF.out

def NEndR (s : ByteArray) (w : World) (e : Ending) (w' : World) : Prop := ∃ n : Nat, (numB s.data.toList = true → n = valL s.data.toList) ∧ n < 1000000000 ∧ e = .returned (.tuple #[.int .i64 n, .bool (numB s.data.toList)]) ∧ w = w'

set_option maxHeartbeats 800000 in
theorem rnumber_any (s : ByteArray) (hs : s.size ≤ maxLen) (w : World) : Calls Tryd.prog 19 #[.string s] w (NEndR s w) := by
  unfold maxLen at hs
  have hno : numB s.data.toList = false → NEndR s w (.returned (.tuple #[.int .i64 0, .bool false])) w := by
    intro h; unfold NEndR; rw [h]; exact ⟨0, (fun h => absurd h (by simp)), by omega, rfl, rfl⟩
  have HNO := Lib.hid hno; clear hno
  by_cases hl : s.size < 1 ∨ 9 < s.size
  · have HL := Lib.hid (HNO.out (numB_len hl))
    rcases hl with hl | hl
    all_goals
      go_enter Tryd.func19, Tryd.ntmps19
      go_wp2
      go_ret2
      exact HL.out
  · have h1 : 1 ≤ s.size := by omega
    have h9 : s.size ≤ 9 := by omega
    clear hl
    have d2 : decide ((s.size : Int) < 1) = false := by simp; omega
    have d3 : decide ((9 : Int) < (s.size : Int)) = false := by simp; omega
    go_enter Tryd.func19, Tryd.ntmps19
    go_wp2_with fail
    go_loop [4, 5] (fun n i => NRel s n i) (fun _ i => s.size - (intOf i).toNat)
    case atStart => exact ⟨0, Nat.zero_le _, rfl, rfl, by simp⟩
    case round =>
      obtain ⟨k, hk, rfl, rfl, hd⟩ := hrel
      have hv := valL_lt hd (by rw [List.length_take]; omega)
      by_cases hlt : k < s.size
      · have e2 : decide ((k : Int) < (s.size : Int)) = true := by simp; omega
        by_cases hdk : dig s[k] = true
        · have hst := nrel_step hlt hdk hd
          have HST := Lib.hid hst; clear hst hd
          obtain ⟨b1, b2⟩ := (dig_iff _).1 hdk
          have b3 : (48 : Int) ≤ (s[k].toNat : Int) := by omega
          have b4 : (s[k].toNat : Int) ≤ 57 := by omega
          clear hdk
          generalize valL (s.data.toList.take k) = v at *
          go_wp2
          refine ⟨?_, by simp [intOf]; omega⟩
          have := HST.out
          rw [show ((10 * v + (s[k].toNat - 48) : Nat) : Int) = 10 * (v : Int) + ((s[k].toNat : Int) - 48) by omega] at this
          exact this
        · have hb : (s[k].toNat : Int) < 48 ∨ (57 : Int) < (s[k].toNat : Int) := by
            have : ¬ (48 ≤ s[k].toNat ∧ s[k].toNat ≤ 57) := fun h => hdk ((dig_iff _).2 h)
            omega
          have HL := Lib.hid (HNO.out (numB_dig k hlt (by simpa using hdk)))
          clear hdk hd
          rcases hb with hb | hb
          all_goals
            go_wp2
            go_ret2
            exact HL.out
      · obtain rfl : k = s.size := by omega
        rw [take_all s] at hd hv ⊢
        have hi := itoa_iff hd (by simpa using h1) (by simpa using h9)
        have hfin : ∀ b : Bool, (b = true ↔ Lib.itoa (valL s.data.toList : Nat) = s.data.toList) → NEndR s w (.returned (.tuple #[.int .i64 (valL s.data.toList : Nat), .bool b])) w := by
          intro b hb
          have : b = numB s.data.toList := by
            rw [Bool.eq_iff_iff, hb, hi]
          rw [this]
          exact ⟨_, fun _ => rfl, hv, rfl, rfl⟩
        have hc := fun w => signed_any (valL s.data.toList : Nat) (by omega) (by omega) w
        have HF := Lib.hid hfin; have HC := Lib.hid hc; clear hfin hi hd hc
        generalize Lib.itoa (valL s.data.toList : Nat) = t at *
        generalize valL s.data.toList = v at *
        go_wp2_with fail
        refine (HC.out _).mono ?_
        rintro e w' ⟨rfl, rfl⟩
        go_wp2_with fail
        go_ret2
        exact HF.out _ (by simp [ByteArray.toList_eq])
end Go.Proofs.YtolegljmaacabaaDoor
