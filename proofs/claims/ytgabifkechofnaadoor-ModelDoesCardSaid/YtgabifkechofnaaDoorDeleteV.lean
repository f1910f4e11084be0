/- slices.Delete of one element at rows of 3 cells that the call owns: the row without it; nothing else is turned. -/
import Derived.Test.YtgabifkechofnaaDoorVec
import Derived.Test.YtgabifkechofnaaDoorCloneV
import Derived.Deep.RegionLaw
namespace Go.Proofs.YtgabifkechofnaaDoor
open Go.RowKit

def RmEndV (B n : Nat) (v : Value) (ys : List Value) (w : World) (e : Ending) (w' : World) : Prop :=
  ∃ v', e = .returned v' ∧ w'.ownsRow B 41 3 v' (n - 1) ys ∧ w.grownBy w' v.ownBlock
abbrev zV : Value := .agg #[.int .i64 0, .int .i64 0, .slice none 0 0]

set_option maxRecDepth 100000 in
set_option maxHeartbeats 1000000 in
theorem deleteV_any (B n i g cap : Nat) (xs : List Value) (w : World) (hown : w.ownsRow B 41 3 (.slice (some ⟨g, 0, none⟩) n cap) n xs) (hx1 : ∀ u ∈ xs, u.oneCell' = true) (hn : n ≤ 1000000) (hi : i < n) :
    Calls Tryd.prog 23 #[.slice (some ⟨g, 0, none⟩) n cap, .int .i64 i, .int .i64 ((i : Int) + 1)] w (RmEndV B n (.slice (some ⟨g, 0, none⟩) n cap) (xs.take (i * 3) ++ xs.drop ((i + 1) * 3)) w) := by
  obtain ⟨cur, hg, hBg, hnc, hcm, hsz, htake⟩ := own_block hown
  obtain ⟨i0, hi0, hz0, hz1, hz2⟩ := info_parts infoV
  have hxl := hown.1
  have hcl : cur.toList.length = cap * 3 := by simp [hsz]
  have hdl : (xs.drop ((i + 1) * 3)).length = (n - (i + 1)) * 3 := by rw [List.length_drop, hxl]; omega
  have hcells : ∀ j u, xs[j]? = some u → w.cell? ⟨g, j, none⟩ = some u := fun j u hu => by have := hown.cells (g := g) rfl j u hu; rwa [ow_at] at this
  obtain ⟨A, hA⟩ : ∃ A : Array Value, (cur.toList.take (i * i0.size) ++ xs.drop ((i + 1) * 3) ++ cur.toList.drop (i * i0.size + (xs.drop ((i + 1) * 3)).length)).toArray = A := ⟨_, rfl⟩
  have hAs : A.size = cap * 3 := by
    rw [← hA, hz1, List.size_toArray, List.length_append, List.length_append, List.length_take, hdl, List.length_drop, hcl]; omega
  have hAt : A.toList.take ((n - 1) * 3) = xs.take (i * 3) ++ xs.drop ((i + 1) * 3) := by
    have e1 : cur.toList.take (i * 3) = xs.take (i * 3) := by rw [← htake, List.take_take]; congr 1; omega
    have e2 : (xs.take (i * 3) ++ xs.drop ((i + 1) * 3)).length = (n - 1) * 3 := by rw [List.length_append, List.length_take, hxl, hdl]; omega
    rw [← hA, hz1, e1, List.toList_toArray, List.take_append_of_le_length (by omega), List.take_of_length_le (by omega)]
  have hap : ∀ (ad : Addr) (ty : TypeId) (W : World) (cc : Nat), W.heap = w.heap → (n - (i + 1) = 0 ∨ ad = ⟨g, (i + 1) * 3, none⟩) →
      (Builtin.append_ #[22, 22] ty #[.slice (some ⟨g, 0, none⟩) i cap, .slice (some ad) (n - (i + 1)) cc]).run Tryd.prog W = .ok (.slice (some ⟨g, 0, none⟩) (n - 1) cap) (W.setRow g A) := by
    intro ad ty W cc hW had
    have h := run_append_room (P := Tryd.prog) W 22 ty 41 i0 Tryd.underlying22 hi0 g i cap cur (by rw [hW]; exact hg) ad (n - (i + 1)) cc (xs.drop ((i + 1) * 3)) (by rw [hz1]; exact hdl)
      (fun j u hu => by
        rcases had with h0 | rfl
        · have : (xs.drop ((i + 1) * 3)).length = 0 := by rw [hdl, h0, Nat.zero_mul]
          rw [List.eq_nil_of_length_eq_zero this] at hu; simp at hu
        · rw [ow_at']
          have := hcells ((i + 1) * 3 + j) u (by rwa [List.getElem?_drop] at hu)
          simp only [World.cell?, hW] at this ⊢; exact this) (fun v hv => hx1 v (List.mem_of_mem_drop hv)) (by omega) (by rw [hz1, hsz, hdl]; omega)
    rw [hA, show i + (n - (i + 1)) = n - 1 by omega] at h
    exact h
  have hzs : (zV).cells.size = 3 := rfl
  have hzl : (Builtin.zeroCells zV.cells 1).toList.length = 3 := by rw [Array.length_toList, size_zeroCells, hzs]
  obtain ⟨A2, hA2⟩ : ∃ A2 : Array Value, (A.toList.take ((n - 1) * 3) ++ (Builtin.zeroCells zV.cells 1).toList ++ A.toList.drop ((n - 1) * 3 + (Builtin.zeroCells zV.cells 1).toList.length)).toArray = A2 := ⟨_, rfl⟩
  have hA2s : A2.size = cap * 3 := by
    have : A.toList.length = cap * 3 := by simp [hAs]
    rw [← hA2, List.size_toArray, List.length_append, List.length_append, List.length_take, List.length_drop, hzl, this]; omega
  have hA2t : A2.toList.take ((n - 1) * 3) = xs.take (i * 3) ++ xs.drop ((i + 1) * 3) := by
    have : A.toList.length = cap * 3 := by simp [hAs]
    rw [← hA2, List.toList_toArray, List.append_assoc, List.take_append_of_le_length (by rw [List.length_take, this]; omega), List.take_take, Nat.min_self, hAt]
  have hone : ∀ u ∈ (Builtin.zeroCells zV.cells 1).toList, u.oneCell' = true := List.all_eq_true.1 (show ((Builtin.zeroCells zV.cells 1).toList.all fun u => u.oneCell') = true by kernel_rfl)
  have hcr : ∀ (W : World), W.heap = (w.setRow g A).heap → ∀ ty cc, (Builtin.clear_ #[22] ty #[.slice (some ⟨g, (n - 1) * 3, none⟩) 1 cc]).run Tryd.prog W = .ok (.tuple #[]) (W.setRow g A2) := by
    intro W hW ty cc
    have h := run_clear_k (P := Tryd.prog) W 22 ty 41 zV g ((n - 1) * 3) 1 cc A 41 Tryd.underlying22 (fun w => by simp [zeroValue, typeInfo, hi0, hz0]) (by rw [hW]; exact setRow_heap _ _ _ _ _ _ hg) (by omega) (by rw [hzs, hAs]; omega) hone
    rw [hA2] at h; exact h
  have HCR := Lib.hid hcr; have HA2S := Lib.hid hA2s; have HA2T := Lib.hid hA2t; have HG := Lib.hid hg
  have hxlen := Lib.hid (show (xs.take (i * 3) ++ xs.drop ((i + 1) * 3)).length = (n - 1) * 3 by rw [List.length_append, List.length_take, hxl, hdl]; omega)
  have hFIN := Lib.hid (And.intro hBg (And.intro (show n - 1 ≤ cap by omega) hcm))
  have hc63 : cap ≤ 9223372036854775807 := by unfold maxLen at hcm; omega
  have hnj : ¬ ((i : Int) = (i : Int) + 1) := by omega
  have hi62 : (i : Int) + 1 ≤ (n : Int) := by omega
  have hn62 : (n : Int) ≤ 4611686018427387904 := by omega
  have hncI : (n : Int) ≤ (cap : Int) := by omega
  have hn1 : ¬ (cap = n - 1) := by omega
  have hn1n : ((n - 1 : Nat) : Int) ≤ (n : Int) := by omega
  have hn0 : (0 : Int) ≤ ((n - 1 : Nat) : Int) := by omega
  have h11 : n - (n - 1) = 1 := by omega
  have hci : ¬ (cap = i) := by omega
  have hic : i ≤ cap := by omega
  have hicI : (i : Int) ≤ (cap : Int) := by omega
  have hi0' : (0 : Int) ≤ (i : Int) := by omega
  have hi10 : (0 : Int) ≤ (i : Int) + 1 := by omega
  have hAP := Lib.hid hap
  have hnM : (n : Int) ≤ 1000000 := by omega
  have HNM := Lib.hid hnM
  clear hnM hap hcr hA2s hA2t hA2 hone hzl hzs hAt hAs hA hcells hdl hcl hi0 hz0 hz1 hz2 hxl hg hBg hcm hsz htake hn hx1 hown
  by_cases hjc : cap = i + 1
  · obtain rfl : cap = n := by omega
    have hap2 := hAP.out ⟨g, 0, none⟩ 22 w.drew 0 rfl (.inl (by omega))
    rw [show cap - (i + 1) = 0 by omega] at hap2
    have hjn : (i : Int) + 1 = (cap : Int) := by omega
    have hjnn : ¬ ((i : Int) = (cap : Int)) := by omega
    clear hi62 hi10 hnj hjc
    go_enter Tryd.func23, Tryd.ntmps23
    go_wp2_with fail
    go_region_law (refine step_append_runM rfl (.tmp 22) (.tmp 25) 22 22 rfl _ _ (by simp [Act.eval, Act.put]) (by simp [Act.eval, Act.put]) hap2 ?_)
    go_wp2_with fail
    rw [HCR.out (w.drew.setRow g A) rfl]
    go_wp2_with fail
    go_ret
    refine ⟨.slice (some ⟨g, 0, none⟩) (cap - 1) cap, rfl, ⟨hxlen.out, .inr ⟨g, cap, A2, rfl, hFIN.out.1, ?_, hFIN.out.2.1, hFIN.out.2.2, HA2S.out, HA2T.out⟩⟩, ?_⟩
    · exact setRow_heap _ _ _ _ _ _ (setRow_heap _ _ _ _ _ _ HG.out)
    · exact grown_trans (grown_trans (grown_drew (grown_refl w _) 1) (grown_setRow _ g _)) (grown_setRow _ g _)
  · have hap2 := hAP.out ⟨g, (i + 1) * 3, none⟩ 22 w.drew (cap - (i + 1)) rfl (.inr rfl)
    go_enter Tryd.func23, Tryd.ntmps23
    go_wp2_with fail
    go_region_law (refine step_append_runM rfl (.tmp 22) (.tmp 25) 22 22 rfl _ _ (by simp [Act.eval, Act.put]) (by simp [Act.eval, Act.put]) hap2 ?_)
    go_wp2_with fail
    rw [HCR.out (w.drew.setRow g A) rfl]
    go_wp2_with fail
    go_ret
    refine ⟨.slice (some ⟨g, 0, none⟩) (n - 1) cap, rfl, ⟨hxlen.out, .inr ⟨g, cap, A2, rfl, hFIN.out.1, ?_, hFIN.out.2.1, hFIN.out.2.2, HA2S.out, HA2T.out⟩⟩, ?_⟩
    · exact setRow_heap _ _ _ _ _ _ (setRow_heap _ _ _ _ _ _ HG.out)
    · exact grown_trans (grown_trans (grown_drew (grown_refl w _) 1) (grown_setRow _ g _)) (grown_setRow _ g _)
end Go.Proofs.YtgabifkechofnaaDoor
