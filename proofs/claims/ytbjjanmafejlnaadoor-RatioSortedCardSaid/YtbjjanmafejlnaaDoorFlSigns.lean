/- Plain facts on a float's text: it is never empty, its first byte tells the sign, and a dot stands ahead of its last three digits. No program in sight. -/
import Derived.Test.YtbjjanmafejlnaaDoorFlText
namespace Go.Proofs.YtbjjanmafejlnaaDoor.Fl
open Go Ieee

theorem decDigits_range : ∀ n : Nat, ∀ b ∈ Lib.decDigits n, 48 ≤ b.toNat ∧ b.toNat ≤ 57 := by
  intro n
  induction n using Nat.strongRecOn with
  | ind n ih =>
    intro b hb
    rw [Lib.decDigits] at hb
    split at hb
    · simp only [List.mem_singleton] at hb
      subst hb
      rw [UInt8.toNat_ofNat']; omega
    · simp only [List.mem_append, List.mem_singleton] at hb
      rcases hb with hb | rfl
      · exact ih (n / 10) (by omega) b hb
      · rw [UInt8.toNat_ofNat']; omega
theorem decDigits_pos (n : Nat) : 1 ≤ (Lib.decDigits n).length := by rw [Lib.decDigits]; split <;> simp
theorem pad4_range (n : Nat) : ∀ b ∈ pad4 (Lib.decDigits n), 48 ≤ b.toNat ∧ b.toNat ≤ 57 := by
  intro b hb
  unfold pad4 at hb
  simp only [List.mem_append, List.mem_replicate] at hb
  rcases hb with ⟨_, rfl⟩ | hb
  · decide
  · exact decDigits_range n b hb

/-- the sign and the digits of a number that is not too great -/
theorem body_head (n : Nat) : ∃ b rest, dotted (pad4 (Lib.decDigits n)) = b :: rest ∧ b.toNat ≠ 45 := by
  have hl := pad4_len (Lib.decDigits n)
  have hr := pad4_range n
  generalize pad4 (Lib.decDigits n) = l at *
  cases l with
  | nil => simp at hl; omega
  | cons b r =>
    refine ⟨b, ((b :: r).take ((b :: r).length - 3)).tail ++ 46 :: (b :: r).drop ((b :: r).length - 3), ?_, ?_⟩
    · unfold dotted
      have : (b :: r).length - 3 = ((b :: r).length - 4) + 1 := by simp at hl ⊢; omega
      rw [this]; simp
    · have := hr b (by simp); omega
theorem body_dot (sg : List UInt8) (n : Nat) : ∃ h : (sg ++ dotted (pad4 (Lib.decDigits n))).length - 4 < (sg ++ dotted (pad4 (Lib.decDigits n))).length,
    5 ≤ (sg ++ dotted (pad4 (Lib.decDigits n))).length ∧ (sg ++ dotted (pad4 (Lib.decDigits n)))[(sg ++ dotted (pad4 (Lib.decDigits n))).length - 4] = 46 := by
  have hl := pad4_len (Lib.decDigits n)
  generalize pad4 (Lib.decDigits n) = l at *
  have hd := dotted_len l
  refine ⟨by simp; omega, by simp; omega, ?_⟩
  rw [List.getElem_append_right (by simp; omega)]
  unfold dotted
  rw [List.getElem_append_right (by simp; omega)]
  rw [List.getElem_cons]
  split
  · rfl
  · rename_i h; exfalso; apply h; simp; omega

theorem head_sign (x : Nat) (h6 : kind x ≠ 6) : ∃ b rest, textL x = b :: rest ∧ ((b.toNat = 45) ↔ lessF x 0 = true) := by
  by_cases h5 : kind x = 5
  · refine ⟨105, [110, 102], by unfold textL; rw [if_neg h6, if_pos h5], ?_⟩
    rw [less_iff, h5, show kind 0 = 3 from by decide]; simp
  by_cases h0 : kind x = 0
  · refine ⟨45, [105, 110, 102], by unfold textL; rw [if_neg h6, if_neg h5, if_pos h0], ?_⟩
    rw [less_iff, h0, show kind 0 = 3 from by decide]; simp
  have hnum := kind_num h6 h5 h0
  have hless := less_zero x hnum
  obtain ⟨s, m, p, hd⟩ := hnum
  obtain ⟨g1, g2⟩ := big_sign hd
  rw [hless]
  by_cases hb : geBig x = true
  · refine ⟨98, [105, 103], by unfold textL; rw [if_neg h6, if_neg h5, if_neg h0, if_pos hb], ?_⟩
    rw [g1 hb]; decide
  by_cases hb2 : leMbig x = true
  · refine ⟨45, [98, 105, 103], by unfold textL; rw [if_neg h6, if_neg h5, if_neg h0, if_neg hb, if_pos hb2], ?_⟩
    rw [g2 hb2]; simp
  have ht : textL x = (if minusF x then [45] else []) ++ dotted (pad4 (Lib.decDigits (amount x))) := by
    unfold textL; rw [if_neg h6, if_neg h5, if_neg h0, if_neg hb, if_neg hb2]
  obtain ⟨b, rest, hbr, hne⟩ := body_head (amount x)
  rw [ht, hbr]
  cases minusF x
  · exact ⟨b, rest, rfl, by simp [hne]⟩
  · exact ⟨45, b :: rest, rfl, by simp⟩

def ge1000 (x : Nat) : Bool := ord x 4652007308841189376 == some .gt || ord x 4652007308841189376 == some .eq
def leM1000 (x : Nat) : Bool := ord x 13875379345695965184 == some .lt || ord x 13875379345695965184 == some .eq
theorem DM1000 : D 13875379345695965184 = .number true 8796093022208000 (-43) := by decide
theorem small_text (x : Nat) (h6 : kind x ≠ 6) (h1 : ge1000 x = false) (h2 : leM1000 x = false) : ∃ sg n, textL x = sg ++ dotted (pad4 (Lib.decDigits n)) ∧ sg.length ≤ 1 ∧ n < 2 ^ 64 := by
  have e1 : ge1000 x = (Datum.order (D x) (D 4652007308841189376) == some .gt || Datum.order (D x) (D 4652007308841189376) == some .eq) := rfl
  have e2 : leM1000 x = (Datum.order (D x) (D 13875379345695965184) == some .lt || Datum.order (D x) (D 13875379345695965184) == some .eq) := rfl
  rw [e1, D1000] at h1
  rw [e2, DM1000] at h2
  rcases hd : D x with ⟨s, m, p⟩ | s | ⟨s, m⟩
  · have hp := (read_place hd).1
    rw [hd, order_num _ _ _ _ _ _ hp (by omega), cmp_gt', cmp_eq', val_num, val_num] at h1
    rw [hd, order_num _ _ _ _ _ _ hp (by omega), cmp_lt', cmp_eq', val_num, val_num] at h2
    have h5 : kind x ≠ 5 := by unfold kind; rw [hd]; have := kd_num_ge s m p; omega
    have h0 : kind x ≠ 0 := by unfold kind; rw [hd]; have := kd_num_ge s m p; omega
    have hb : geBig x = false := by
      have e : geBig x = (Datum.order (D x) (D 4696837146684686336) == some .gt || Datum.order (D x) (D 4696837146684686336) == some .eq) := rfl
      rw [e, hd, Dbig, order_num _ _ _ _ _ _ hp (by omega), cmp_gt', cmp_eq', val_num, val_num]
      have hc : mval 8796093022208000 (-43) < mval 8589934592000000 (-33) := by decide +kernel
      generalize mval 8796093022208000 (-43) = u at *
      generalize mval 8589934592000000 (-33) = v at *
      cases s <;> simp at h1 ⊢ <;> omega
    have hb2 : leMbig x = false := by
      have e : leMbig x = (Datum.order (D x) (D 13920209183539462144) == some .lt || Datum.order (D x) (D 13920209183539462144) == some .eq) := rfl
      rw [e, hd, Dmbig, order_num _ _ _ _ _ _ hp (by omega), cmp_lt', cmp_eq', val_num, val_num]
      have hc : mval 8796093022208000 (-43) < mval 8589934592000000 (-33) := by decide +kernel
      generalize mval 8796093022208000 (-43) = u at *
      generalize mval 8589934592000000 (-33) = v at *
      cases s <;> simp at h2 ⊢ <;> omega
    obtain ⟨_, _, t, k, q, f1, f2, f3⟩ := num_facts hd hb hb2
    have hbd := floorD_bound f1 f2 f3
    exact ⟨(if minusF x then [45] else []), amount x, by unfold textL; rw [if_neg h6, if_neg h5, if_neg h0, hb, hb2]; rfl, by split <;> simp, by unfold amount; omega⟩
  · exfalso; rw [hd] at h1 h2; cases s <;> simp [Datum.order] at h1 h2
  · exfalso; apply h6; unfold kind; rw [hd]; rfl
end Go.Proofs.YtbjjanmafejlnaaDoor.Fl
