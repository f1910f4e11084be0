/- The walks of the model's with, written, text. -/
import Derived.Test.YtgabifkechofnaaDoorModD
import Derived.Test.YtgabifkechofnaaDoorInsertV
import Derived.Test.YtgabifkechofnaaDoorInsertB
namespace Go.Proofs.YtgabifkechofnaaDoor
open Go.RowKit

theorem tw_len {α : Type} (p : α → Bool) : ∀ (l : List α) (k : Nat), (∀ j, j < k → ∀ d, l[j]? = some d → p d = true) → (k = l.length ∨ ∃ d, l[k]? = some d ∧ p d = false) → (l.takeWhile p).length = k
  | [], k, _, h => by rcases h with h | ⟨d, h, _⟩
                      · simpa using h.symm
                      · simp at h
  | a :: l, 0, _, h => by
    rcases h with h | ⟨d, h, hp⟩
    · simp at h
    · simp only [List.getElem?_cons_zero, Option.some.injEq] at h
      subst h; rw [List.takeWhile_cons_of_neg (by simp [hp])]; rfl
  | a :: l, k + 1, h1, h2 => by
    rw [List.takeWhile_cons_of_pos (h1 0 (by omega) a rfl), List.length_cons, tw_len p l k (fun j hj d hd => h1 (j + 1) (by omega) d (by simpa using hd)) (by
      rcases h2 with h2 | ⟨d, h2, hp⟩
      · exact .inl (by simpa using h2)
      · exact .inr ⟨d, by simpa using h2, hp⟩)]
def posL (m : List VolD) (id : Int) : Nat := (m.takeWhile fun d => decide (d.id < id)).length
def posB (l : List BlkD) (pos : Int) : Nat := (l.takeWhile fun d => decide (d.pos < pos)).length

set_option maxRecDepth 100000 in
set_option maxHeartbeats 1000000 in
theorem with_any (B : Nat) (m : List VolD) (bvs : List Value) (v : Value) (id size : Int) (bp : Option Addr) (bl bc : Nat) (w : World) (hlb : bvs.length = m.length) (hown : w.ownsRow B 41 3 v m.length (volRows m bvs).flatten) (hone : ∀ u ∈ (volRows m bvs).flatten, u.oneCell' = true) (hn : m.length ≤ 1000) (hB : B ≤ w.heap.size) :
    Calls Tryd.prog 22 #[v, .agg #[.int .i64 id, .int .i64 size, .slice bp bl bc]] w
      (InsEndV B m.length v ((volRows m bvs).flatten.take (posL m id * 3) ++ [.int .i64 id, .int .i64 size, .slice bp bl bc] ++ (volRows m bvs).flatten.drop (posL m id * 3)) w) := by
  obtain ⟨p, c, hv, h1, h2, hsrc⟩ := ow_src hown hone
  subst hv
  have hcl : ∀ k d, m[k]? = some d → ∃ g, p = some ⟨g, 0, none⟩ ∧ w.cell? ⟨g, k * 3, none⟩ = some (.int .i64 d.id) := by
    intro k d hd
    have hk := (List.getElem?_eq_some_iff.1 hd).1
    obtain ⟨bv, hbv⟩ : ∃ b, bvs[k]? = some b := ⟨_, List.getElem?_eq_getElem (by rw [hlb]; exact hk)⟩
    rcases ow_slice hown with ⟨_, h3, _⟩ | ⟨g, cap, h3⟩
    · omega
    · injection h3 with a b
      subst a
      refine ⟨g, rfl, ?_⟩
      have := hsrc.2.2.2 _ rfl (k * 3 + 0) _ (by rw [flat_get (volRows_all _ _) (volRows_at hd hbv) (by decide)]; rfl)
      rwa [ow_at] at this
  have hlen : (m.length : Int) ≤ 1000 := by omega
  have HO := Lib.hid hown; have HONE := Lib.hid hone; have HB := Lib.hid hB; have HCL := Lib.hid hcl
  have HBX := Lib.hid ((Below.refl w.heap.size w).alloc (Nat.le_refl _) (.cells #[.int .i64 id, .int .i64 size, .slice bp bl bc] 41))
  clear hlb hown hone hB hcl h1 h2 hsrc hn
  go_enter Tryd.func22, Tryd.ntmps22
  go_wp2_with fail
  go_loopw [5] (fun i wr => ∃ k : Nat, k ≤ m.length ∧ i = .int .i64 k ∧ (∀ j, j < k → ∀ d, m[j]? = some d → decide (d.id < id) = true) ∧ ∃ q, wr = (w.alloc (.cells #[.int .i64 id, .int .i64 size, .slice bp bl bc] 41)).drewN q) (fun i _ => m.length - (intOf i).toNat)
  case atStart => exact ⟨0, Nat.zero_le _, rfl, fun j hj => by omega, 0, rfl⟩
  case round =>
    obtain ⟨k, hk, rfl, hlow, q, rfl⟩ := hrel
    have HLOW := Lib.hid hlow; clear hlow
    by_cases hlt : k < m.length
    · have hki : (k : Int) < (m.length : Int) := by omega
      have hkd : decide (k < m.length) = true := by simp; omega
      obtain ⟨d, hd⟩ : ∃ d, m[k]? = some d := ⟨_, List.getElem?_eq_getElem hlt⟩
      obtain ⟨g, rfl, hc⟩ := HCL.out k d hd
      have hc2 := cell_stays HBX.out hc
      have HD := Lib.hid hd; clear hd hc
      by_cases hid : d.id < id
      · have HID := Lib.hid hid
        go_wp2_with fail
        go_quiet (fail)
        go_wp2_with fail
        go_roundw
        case rel =>
          refine ⟨k + 1, by omega, by go_num, fun j hj d' hd' => ?_, _, by first | exact rfl | exact World.drewN_drewN _ _ _⟩
          by_cases e : j = k
          · subst e; rw [HD.out] at hd'; cases hd'; simpa using HID.out
          · exact HLOW.out j (by omega) d' hd'
        case measure => simp [intOf]; omega
      · have HP := Lib.hid (tw_len (fun d : VolD => decide (d.id < id)) m k HLOW.out (.inr ⟨d, HD.out, by simpa using hid⟩))
        go_wp2_with fail
        go_quiet (fail)
        go_wp2_with fail
        refine (insertV_any B m.length k _ _ (volRows m bvs).flatten [.int .i64 id, .int .i64 size, .slice bp bl bc] _ ?_ ?_ ?_ rfl ?_ HONE.out (by omega) ?_ (by omega)).mono ?_
        · exact HO.out.kept (row := none) (grown_of_below (by first | exact (below_drewN' HBX.out _).alloc (below_drewN' HBX.out _).size _ | exact below_drewN' (HBX.out.alloc HBX.out.size _) _ | exact HBX.out.alloc HBX.out.size _) _) (Classical.or_iff_not_imp_left.2 fun h => h)
        · exact new_at (by simp)
        · intro e
          have h3 := (HO.out.lt _ e).2
          omega
        · intro u hu
          simp only [List.mem_cons, List.not_mem_nil, or_false] at hu
          rcases hu with rfl | rfl | rfl <;> rfl
        · exact Nat.le_trans HB.out (by simp; omega)
        · rintro e w2 ⟨v', rfl, hown, hg⟩
          have HW := Lib.hid hown; have HG := Lib.hid (grown_trans (grown_of_below (by first | exact (below_drewN' HBX.out _).alloc (below_drewN' HBX.out _).size _ | exact below_drewN' (HBX.out.alloc HBX.out.size _) _ | exact HBX.out.alloc HBX.out.size _) _) hg)
          clear hown hg
          go_wp2_with fail
          go_ret
          exact ⟨v', rfl, by unfold posL; rw [HP.out]; exact HW.out, HG.out⟩
    · obtain rfl : k = m.length := by omega
      have hkd : decide (m.length < m.length) = false := by simp
      have HP := Lib.hid (tw_len (fun d : VolD => decide (d.id < id)) m m.length HLOW.out (.inl rfl))
      go_wp2_with fail
      go_quiet (fail)
      go_wp2_with fail
      refine (insertV_any B m.length m.length _ _ (volRows m bvs).flatten [.int .i64 id, .int .i64 size, .slice bp bl bc] _ ?_ ?_ ?_ rfl ?_ HONE.out (by omega) ?_ (by omega)).mono ?_
      · exact HO.out.kept (row := none) (grown_of_below (by first | exact (below_drewN' HBX.out _).alloc (below_drewN' HBX.out _).size _ | exact below_drewN' (HBX.out.alloc HBX.out.size _) _ | exact HBX.out.alloc HBX.out.size _) _) (Classical.or_iff_not_imp_left.2 fun h => h)
      · exact new_at (by simp)
      · intro e
        have h3 := (HO.out.lt _ e).2
        omega
      · intro u hu
        simp only [List.mem_cons, List.not_mem_nil, or_false] at hu
        rcases hu with rfl | rfl | rfl <;> rfl
      · exact Nat.le_trans HB.out (by simp; omega)
      · rintro e w2 ⟨v', rfl, hown, hg⟩
        have HW := Lib.hid hown; have HG := Lib.hid (grown_trans (grown_of_below (by first | exact (below_drewN' HBX.out _).alloc (below_drewN' HBX.out _).size _ | exact below_drewN' (HBX.out.alloc HBX.out.size _) _ | exact HBX.out.alloc HBX.out.size _) _) hg)
        clear hown hg
        go_wp2_with fail
        go_ret
        exact ⟨v', rfl, by unfold posL; rw [HP.out]; exact HW.out, HG.out⟩
end Go.Proofs.YtgabifkechofnaaDoor
