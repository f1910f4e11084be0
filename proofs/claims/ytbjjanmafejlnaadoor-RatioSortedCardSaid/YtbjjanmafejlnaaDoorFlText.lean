/- Plain facts on float64: what the text of a float is, digit by digit (P1.3), and that the numbers on the way are not too great. No program in sight. -/
import Derived.Test.YtbjjanmafejlnaaDoorFlPart
import Derived.Lib.ItoaNum
namespace Go.Proofs.YtbjjanmafejlnaaDoor.Fl
open Go Ieee

def yOf (x : Nat) : Nat := (Ieee.double.mul x 4652007308841189376).getD 0
def zOf (x : Nat) : Nat := (Ieee.double.add (yOf x) 4602678819172646912).getD 0
def amount (x : Nat) : Nat := (floorD (D (zOf x))).natAbs
def pad4 (l : List UInt8) : List UInt8 := List.replicate (4 - l.length) 48 ++ l
def dotted (l : List UInt8) : List UInt8 := l.take (l.length - 3) ++ 46 :: l.drop (l.length - 3)
def geBig (x : Nat) : Bool := ord x 4696837146684686336 == some .gt || ord x 4696837146684686336 == some .eq
def leMbig (x : Nat) : Bool := ord x 13920209183539462144 == some .lt || ord x 13920209183539462144 == some .eq
def textL (x : Nat) : List UInt8 :=
  if kind x = 6 then [110, 97, 110] else if kind x = 5 then [105, 110, 102] else if kind x = 0 then [45, 105, 110, 102]
  else if geBig x then [98, 105, 103] else if leMbig x then [45, 98, 105, 103]
  else (if minusF x then [45] else []) ++ dotted (pad4 (Lib.decDigits (amount x)))

theorem kind_num {x : Nat} (h6 : kind x ≠ 6) (h5 : kind x ≠ 5) (h0 : kind x ≠ 0) : ∃ s m p, D x = .number s m p := by
  unfold kind at h6 h5 h0
  rcases hd : D x with ⟨s, m, p⟩ | s | ⟨s, m⟩
  · exact ⟨s, m, p, rfl⟩
  · rw [hd] at h5 h0; cases s <;> simp [kd] at h5 h0
  · rw [hd] at h6; simp [kd] at h6

theorem big_mval : mval 8589934592000000 (-33) < 2 ^ 20 * U := by rw [U_eq]; decide +kernel

theorem num_facts {x : Nat} {s : Bool} {m : Nat} {p : Int} (hd : D x = .number s m p) (h1 : geBig x = false) (h2 : leMbig x = false) :
    Ieee.double.mul x 4652007308841189376 = some (yOf x) ∧ Ieee.double.add (yOf x) 4602678819172646912 = some (zOf x) ∧
    ∃ t k q, D (zOf x) = .number t k q ∧ -1074 ≤ q ∧ mval k q ≤ 2 ^ 33 * U := by
  have hp := (read_place hd).1
  have g1 : (Datum.order (D x) (D 4696837146684686336) == some .gt || Datum.order (D x) (D 4696837146684686336) == some .eq) = false := h1
  have g2 : (Datum.order (D x) (D 13920209183539462144) == some .lt || Datum.order (D x) (D 13920209183539462144) == some .eq) = false := h2
  rw [hd, Dbig, order_num _ _ _ _ _ _ hp (by omega), cmp_gt', cmp_eq', val_num, val_num] at g1
  rw [hd, Dmbig, order_num _ _ _ _ _ _ hp (by omega), cmp_lt', cmp_eq', val_num, val_num] at g2
  have hb := big_mval
  have hm : mval m p < 2 ^ 20 * U := by
    generalize mval 8589934592000000 (-33) = b at *
    cases s <;> simp at g1 g2 <;> omega
  obtain ⟨y, z, t, k, q, e1, e2, e3, e4, e5⟩ := times_half x hd (fun h0 => by have := place_of_mval h0 hp hm; omega)
  have ey : yOf x = y := by unfold yOf; rw [e1]; rfl
  have ez : zOf x = z := by unfold zOf; rw [ey, e2]; rfl
  rw [ey, ez]
  exact ⟨e1, e2, t, k, q, e3, e4, e5⟩

theorem floorD_bound {d : Datum} {t : Bool} {k : Nat} {q : Int} (hd : d = .number t k q) (hq : -1074 ≤ q) (hb : mval k q ≤ 2 ^ 33 * U) : -8589934593 ≤ floorD d ∧ floorD d ≤ 8589934593 := by
  subst hd
  have h3 := low_le hq hb
  have hcut : Toward.down.cut t (k <<< q.toNat) (-q).toNat ≤ 2 ^ 33 + 1 := by
    rw [cut_down]; have := Bool.toNat_le (t && (k <<< q.toNat) % 2 ^ (-q).toNat != 0); omega
  have := signed_le t (Toward.down.cut t (k <<< q.toNat) (-q).toNat)
  show -8589934593 ≤ signed t (Toward.down.cut t (k <<< q.toNat) (-q).toNat) 0 ∧ signed t (Toward.down.cut t (k <<< q.toNat) (-q).toNat) 0 ≤ 8589934593
  omega
theorem truncD_bound {d : Datum} {t : Bool} {k : Nat} {q : Int} (hd : d = .number t k q) (hq : -1074 ≤ q) (hb : mval k q ≤ 2 ^ 33 * U) : -8589934593 ≤ truncD d ∧ truncD d ≤ 8589934593 := by
  subst hd
  have h3 := low_le hq hb
  have := signed_le t ((k <<< q.toNat) / 2 ^ (-q).toNat)
  show -8589934593 ≤ signed t (Toward.zero.cut t (k <<< q.toNat) (-q).toNat) 0 ∧ signed t (Toward.zero.cut t (k <<< q.toNat) (-q).toNat) 0 ≤ 8589934593
  rw [cut_zero]
  omega
theorem pad4_len (l : List UInt8) : (pad4 l).length = max 4 l.length := by unfold pad4; simp; omega
theorem dotted_eq (l : List UInt8) : dotted l = l.take (l.length - 3) ++ [46] ++ l.drop (l.length - 3) := by unfold dotted; simp
theorem dotted_len (l : List UInt8) : (dotted l).length = l.length + 1 := by unfold dotted; simp; omega
theorem less_zero (x : Nat) (h : ∃ s m p, D x = .number s m p) : lessF x 0 = minusF x := by
  obtain ⟨s, m, p, hd⟩ := h
  rw [less_iff]
  have e : kind 0 = 3 := by decide
  have e2 : val (D 0) = 0 := by decide
  have hm : minusF x = match D x with | .number s m _ => s | .infinity s => s | .nan .. => false := rfl
  rw [e, e2, hm]; unfold kind; rw [hd]; dsimp only
  rcases val_sign s m p with ⟨h, hv⟩ | ⟨h, h', hv⟩ | ⟨h, h', hv⟩
  · rw [val_kind, hv]; cases s <;> simp
  · rw [val_kind, if_pos hv]; subst h'; simp
  · rw [val_kind, if_neg (by omega), if_pos hv]; subst h'; simp
theorem sub_num (x : Nat) {s : Bool} {m : Nat} {p : Int} (hd : D x = .number s m p) : Ieee.double.sub x x = some 0 := by
  unfold Format.sub; show Option.map _ ((D x).sum (D x).opposite) = _
  rw [hd]
  simp only [Datum.opposite, Datum.sum]
  have e : signed s m (p - min p p).toNat + signed (!s) m (p - min p p).toNat = 0 := by
    cases s <;> simp [signed] <;> omega
  rw [e]
  cases s <;> rfl
theorem sub_inf (x : Nat) {s : Bool} (hd : D x = .infinity s) : Ieee.double.sub x x = none := by
  unfold Format.sub; show Option.map _ ((D x).sum (D x).opposite) = _
  rw [hd]; cases s <;> rfl
theorem nan_neq (r : Nat) (h : ∃ s f, D r = .nan s f) : (ord r 0 != some .eq) = true := by
  obtain ⟨s, f, h⟩ := h
  show (Datum.order (D r) _ != _) = true
  rw [h]; rfl
theorem kind_inf {x : Nat} (h : kind x = 5 ∨ kind x = 0) : ∃ s, D x = .infinity s ∧ minusF x = s ∧ kind x = (if s then 0 else 5) ∧ (geBig x || leMbig x) = true := by
  unfold kind at *
  have hm : minusF x = match D x with | .number s m _ => s | .infinity s => s | .nan .. => false := rfl
  have hg : (geBig x || leMbig x) = ((Datum.order (D x) (D 4696837146684686336) == some .gt || Datum.order (D x) (D 4696837146684686336) == some .eq) || (Datum.order (D x) (D 13920209183539462144) == some .lt || Datum.order (D x) (D 13920209183539462144) == some .eq)) := rfl
  rw [hm, hg, Dbig, Dmbig]
  rcases hd : D x with ⟨s, m, p⟩ | s | ⟨s, m⟩
  · rw [hd] at h; have := kd_num_ge s m p; omega
  · exact ⟨s, rfl, rfl, by cases s <;> rfl, by cases s <;> rfl⟩
  · rw [hd] at h; simp [kd] at h
theorem big_sign {x : Nat} {s : Bool} {m : Nat} {p : Int} (hd : D x = .number s m p) : (geBig x = true → minusF x = false) ∧ (leMbig x = true → minusF x = true) := by
  have hp := (read_place hd).1
  have hm : minusF x = match D x with | .number s m _ => s | .infinity s => s | .nan .. => false := rfl
  have hg : geBig x = (Datum.order (D x) (D 4696837146684686336) == some .gt || Datum.order (D x) (D 4696837146684686336) == some .eq) := rfl
  have hl : leMbig x = (Datum.order (D x) (D 13920209183539462144) == some .lt || Datum.order (D x) (D 13920209183539462144) == some .eq) := rfl
  rw [hm, hg, hl, hd, Dbig, Dmbig, order_num _ _ _ _ _ _ hp (by omega), order_num _ _ _ _ _ _ hp (by omega), cmp_gt', cmp_eq', cmp_lt', cmp_eq', val_num, val_num, val_num]
  dsimp only
  have h0 : 0 < mval 8589934592000000 (-33) := Nat.mul_pos (by omega) (Nat.two_pow_pos _)
  generalize mval 8589934592000000 (-33) = b at *
  cases s <;> simp <;> omega
theorem none_kind (x : Nat) : noneF x = true ↔ kind x = 6 := by rw [noneF_iff]; simp
theorem none_kind' (x : Nat) (h : kind x ≠ 6) : noneF x = false := by rw [noneF_iff]; simpa using h
end Go.Proofs.YtbjjanmafejlnaaDoor.Fl
