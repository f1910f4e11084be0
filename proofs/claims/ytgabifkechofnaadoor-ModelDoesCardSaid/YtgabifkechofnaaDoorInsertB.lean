/- slices.Insert of one element at rows of 2 cells that the call owns: the row with the element at its place; nothing else is turned. -/
import Derived.Test.YtgabifkechofnaaDoorVec
import Derived.Test.YtgabifkechofnaaDoorCloneB
import Derived.Deep.RegionLaw
namespace Go.Proofs.YtgabifkechofnaaDoor
open Go.RowKit

def InsEndB (B n : Nat) (v : Value) (ys : List Value) (w : World) (e : Ending) (w' : World) : Prop :=
  ∃ v', e = .returned v' ∧ w'.ownsRow B 56 2 v' (n + 1) ys ∧ w.grownBy w' v.ownBlock

set_option maxRecDepth 100000 in
set_option maxHeartbeats 1000000 in
theorem insertB_end (B n nb : Nat) (v : Value) (xs news : List Value) (w : World) (hown : w.ownsRow B 56 2 v n xs) (hnew : w.heap[nb]? = some (.cells news.toArray 56 (0, 0))) (hnl : news.length = 2) (h1 : ∀ u ∈ news, u.oneCell' = true) (hn : n ≤ 1000000) (hB : B ≤ w.heap.size) :
    Calls Tryd.prog 45 #[v, .int .i64 n, .slice (some ⟨nb, 0, none⟩) 1 1] w (InsEndB B n v (xs ++ news) w) := by
  have hx : ∀ j u, news[j]? = some u → w.cell? ((⟨nb, 0, none⟩ : Addr).add j) = some u := by
    intro j u hu; rw [ow_at]; simp [World.cell?, hnew, hu]
  have HX := Lib.hid hx; have HN := Lib.hid hn; have HO := Lib.hid hown; have H1 := Lib.hid h1; have HL := Lib.hid hnl; have HB := Lib.hid hB
  have hshape := ow_slice hown
  have hcapn : ∀ g cap, v = .slice (some ⟨g, 0, none⟩) n cap → n ≤ cap ∧ cap ≤ 9223372036854775807 := by
    intro g cap e; subst e
    obtain ⟨_, _, _, h4, h5, _⟩ := own_block hown
    unfold maxLen at h5
    exact ⟨h4, by omega⟩
  obtain ⟨i0, hi, hz0, hz1, hz2⟩ := info_parts infoB
  have hn63 : n ≤ 9223372036854775807 := by omega
  clear hx hown h1 hnl hnew hB hn
  rcases hshape with ⟨rfl, rfl, rfl⟩ | ⟨g, cap, rfl⟩
  · go_enter Tryd.func45, Tryd.ntmps45
    go_wp2_with (at_builtin; refine wpList_append_own _ rfl _ _ 39 rfl B 56 i0 (.agg #[.int .i64 0, .string ⟨#[]⟩]) 2 24 Tryd.underlying39 hi hz0 hz1 hz2 rfl (by decide) _ 0 [] rfl HO.out ⟨nb, 0, none⟩ 1 1 news rfl HL.out HX.out H1.out ?_ ?_ HB.out ?_)
    · unfold maxLen; omega
    · omega
    · intro v' w1 hown hg _
      have HO1 := Lib.hid hown; have HG := Lib.hid hg; clear hown hg
      go_wp2_with fail
      go_ret
      exact ⟨v', rfl, HO1.out, HG.out⟩
  · obtain ⟨c1, c2⟩ := hcapn g cap rfl
    have hnn : (n : Int) ≤ (n : Int) := Int.le_refl _
    clear hcapn
    by_cases hcn : n = cap
    · subst hcn
      go_enter Tryd.func45, Tryd.ntmps45
      go_wp2_with (at_builtin; refine wpList_append_own _ rfl _ _ 39 rfl B 56 i0 (.agg #[.int .i64 0, .string ⟨#[]⟩]) 2 24 Tryd.underlying39 hi hz0 hz1 hz2 rfl (by decide) _ n xs rfl HO.out ⟨nb, 0, none⟩ 1 1 news rfl HL.out HX.out H1.out ?_ ?_ HB.out ?_)
      · have := HN.out; unfold maxLen; omega
      · have := HN.out; omega
      · intro v' w1 hown hg _
        have HO1 := Lib.hid hown; have HG := Lib.hid hg; clear hown hg
        go_wp2_with fail
        go_ret
        exact ⟨v', rfl, HO1.out, HG.out⟩
    · go_enter Tryd.func45, Tryd.ntmps45
      go_wp2_with (at_builtin; refine wpList_append_own _ rfl _ _ 39 rfl B 56 i0 (.agg #[.int .i64 0, .string ⟨#[]⟩]) 2 24 Tryd.underlying39 hi hz0 hz1 hz2 rfl (by decide) _ n xs rfl HO.out ⟨nb, 0, none⟩ 1 1 news rfl HL.out HX.out H1.out ?_ ?_ HB.out ?_)
      · have := HN.out; unfold maxLen; omega
      · have := HN.out; omega
      · intro v' w1 hown hg _
        have HO1 := Lib.hid hown; have HG := Lib.hid hg; clear hown hg
        go_wp2_with fail
        go_ret
        exact ⟨v', rfl, HO1.out, HG.out⟩

set_option maxRecDepth 100000 in
set_option maxHeartbeats 1000000 in
/-- there is no room: a new row -/
theorem insertB_grow (B n i nb g cap : Nat) (xs news : List Value) (w : World) (hown : w.ownsRow B 56 2 (.slice (some ⟨g, 0, none⟩) n cap) n xs) (hnew : w.heap[nb]? = some (.cells news.toArray 56 (0, 0))) (hnl : news.length = 2) (h1 : ∀ u ∈ news, u.oneCell' = true) (hx1 : ∀ u ∈ xs, u.oneCell' = true) (hn : n ≤ 1000000) (hB : B ≤ w.heap.size) (hi : i < n) (hc : cap < n + 1) :
    Calls Tryd.prog 45 #[.slice (some ⟨g, 0, none⟩) n cap, .int .i64 i, .slice (some ⟨nb, 0, none⟩) 1 1] w (InsEndB B n (.slice (some ⟨g, 0, none⟩) n cap) (xs.take (i * 2) ++ news ++ xs.drop (i * 2)) w) := by
  obtain ⟨cur, hg, hBg, hnc, _, hsz, htake⟩ := own_block hown
  obtain ⟨i0, hi0, hz0, hz1, hz2⟩ := info_parts infoB
  have hszI : (Tryd.prog.info? 56).map (·.size) = some 2 := by rw [hi0]; simp [hz1]
  obtain rfl : n = cap := by omega
  have hxl := hown.1
  have hcells : ∀ j u, xs[j]? = some u → w.cell? ⟨g, j, none⟩ = some u := fun j u hu => by have := hown.cells (g := g) rfl j u hu; rwa [ow_at] at this
  have hkk : (n : Int) + 1 - (i : Int) = ((n + 1 - i : Nat) : Int) := by omega
  have hik : i + (n + 1 - i) = n + 1 := by omega
  have hgw : g < w.heap.size := (Array.getElem?_eq_some_iff.1 hg).1
  have hnw : nb < w.heap.size := (Array.getElem?_eq_some_iff.1 hnew).1
  have hold : (Builtin.firstCells i0.size i (.slice (some ⟨g, 0, none⟩) i n)).run Tryd.prog w.drew = .ok (xs.take (i * 2)).toArray w.drew := by
    rw [hz1]
    exact run_firstCells_some w.drew 2 i ⟨g, 0, none⟩ i n (xs.take (i * 2)) (by rw [List.length_take, hxl]; omega) (fun j v hj => by
      rw [ow_at]
      rw [List.getElem?_take] at hj
      split at hj
      · exact hcells j v hj
      · cases hj)
  obtain ⟨G, hG⟩ : ∃ G, G = grownCap w (n + 1) n 56 := ⟨_, rfl⟩
  obtain ⟨ROW, hROW⟩ : ∃ ROW : Array Value, ROW = (xs.take (i * 2)).toArray ++ Builtin.zeroCells (.agg #[.int .i64 0, .string ⟨#[]⟩] : Value).cells (n + 1 - i) ++ Builtin.zeroCells (.agg #[.int .i64 0, .string ⟨#[]⟩] : Value).cells (G - (n + 1)) := ⟨_, rfl⟩
  have hrz : ∀ ty, (Builtin.append_ #[39, 3] ty #[.slice (some ⟨g, 0, none⟩) i n, .int .i64 ((n : Int) + 1 - (i : Int))]).run Tryd.prog w =
      .ok (.slice (some ⟨w.heap.size, 0, none⟩) (n + 1) G) (w.drew.alloc (.cells ROW 56)) := fun ty => by
    have h := Lib.run_append_grow_zeros w 39 3 ty 56 i0 _ .i64 .i64 Tryd.underlying39 Tryd.underlying3 hi0 hz0 (some ⟨g, 0, none⟩) i n (xs.take (i * 2)) hold (n + 1 - i) (by omega) (by rw [hz1]; decide) (by omega) (by omega) (by rw [hz2]; omega) (by rw [hz2, hik]; exact growslice_fits (by omega) (by omega))
    rw [hik, ← hG, ← hROW] at h
    rw [hkk]
    exact h
  have hGn : n + 1 ≤ G := by rw [hG]; exact grownCap_ge w _ _ _
  have hG63 : G ≤ maxLen := by rw [hG]; exact grownCap_le_maxLen w (n + 1) n 56 (by unfold maxLen; omega)
  have hRl : ROW.size = G * 2 := by
    have hz : (.agg #[.int .i64 0, .string ⟨#[]⟩] : Value).cells.size = 2 := rfl
    rw [hROW, Array.size_append, Array.size_append, size_zeroCells, size_zeroCells, hz, List.size_toArray, List.length_take, hxl]
    omega
  have hRt : ROW.toList.take (i * 2) = xs.take (i * 2) := by
    rw [hROW, Array.append_assoc, Array.toList_append, List.take_append_of_le_length (by simp [hxl]; omega)]
    simp only [List.take_take, Nat.min_self]
  obtain ⟨A2, hA2⟩ : ∃ A2 : Array Value, A2 = (ROW.toList.take (i * 2) ++ news ++ ROW.toList.drop (i * 2 + news.length)).toArray := ⟨_, rfl⟩
  have hA2s : A2.size = G * 2 := by
    have : ROW.toList.length = G * 2 := by simp [hRl]
    rw [hA2, List.size_toArray, List.length_append, List.length_append, List.length_take, List.length_drop, this, hnl]; omega
  have hA2t : A2.toList.take ((i + 1) * 2) = xs.take (i * 2) ++ news := by
    have : (xs.take (i * 2) ++ news).length = (i + 1) * 2 := by rw [List.length_append, List.length_take, hxl, hnl]; omega
    rw [hA2, hRt, List.toList_toArray, List.take_append_of_le_length (by omega), List.take_of_length_le (by omega)]
  obtain ⟨A3, hA3⟩ : ∃ A3 : Array Value, A3 = (A2.toList.take ((i + 1) * 2) ++ xs.drop (i * 2) ++ A2.toList.drop ((i + 1) * 2 + (xs.drop (i * 2)).length)).toArray := ⟨_, rfl⟩
  have hdl : (xs.drop (i * 2)).length = (n - i) * 2 := by rw [List.length_drop, hxl]; omega
  have hA3s : A3.size = G * 2 := by
    have : A2.toList.length = G * 2 := by simp [hA2s]
    rw [hA3, List.size_toArray, List.length_append, List.length_append, List.length_take, hdl, List.length_drop, this]; omega
  have hA3t : A3.toList.take ((n + 1) * 2) = xs.take (i * 2) ++ news ++ xs.drop (i * 2) := by
    have : (xs.take (i * 2) ++ news ++ xs.drop (i * 2)).length = (n + 1) * 2 := by rw [List.length_append, List.length_append, List.length_take, hxl, hnl, hdl]; omega
    rw [hA3, hA2t, List.toList_toArray, List.take_append_of_le_length (by omega), List.take_of_length_le (by omega)]
  have hcpA : ∀ W : World, W.heap = (w.alloc (.cells ROW 56)).heap → ∀ ty dc, (Builtin.copy_ #[39, 39] ty #[.slice (some ⟨w.heap.size, i * 2, none⟩) (n + 1 - i) dc, .slice (some ⟨nb, 0, none⟩) 1 1]).run Tryd.prog W = .ok (goInt 1) (W.setRow w.heap.size A2) := by
    intro W hW ty dc
    have := run_copy_k (P := Tryd.prog) W 39 39 ty 56 2 w.heap.size (i * 2) (n + 1 - i) dc ⟨nb, 0, none⟩ 1 1 1 ROW 56 news Tryd.underlying39 hszI (by rw [hW]; exact World.alloc_heap_new w _) (by simp only [Nat.min_def]; split <;> omega) (by omega)
      (fun j v hj => by rw [ow_at]; simp only [World.cell?, hW]; rw [Below.heap_alloc w _ _ hnw, hnew]; simpa using hj) (by rw [hRl, hnl]; omega) h1
    rw [← hA2] at this
    exact this
  have hcpB : ∀ W : World, W.heap = ((w.alloc (.cells ROW 56)).setRow w.heap.size A2).heap → ∀ ty dc sc, (Builtin.copy_ #[39, 39] ty #[.slice (some ⟨w.heap.size, (i + 1) * 2, none⟩) (n - i) dc, .slice (some ⟨g, i * 2, none⟩) (n - i) sc]).run Tryd.prog W = .ok (goInt (n - i : Nat)) (W.setRow w.heap.size A3) := by
    intro W hW ty dc sc
    have := run_copy_k (P := Tryd.prog) W 39 39 ty 56 2 w.heap.size ((i + 1) * 2) (n - i) dc ⟨g, i * 2, none⟩ (n - i) sc (n - i) A2 56 (xs.drop (i * 2)) Tryd.underlying39 hszI (by rw [hW]; exact setRow_heap _ _ _ _ _ _ (World.alloc_heap_new w _)) (by simp only [Nat.min_def]; split <;> omega) hdl
      (fun j v hj => by
        rw [ow_at']; simp only [World.cell?, hW]
        rw [setRow_other _ _ _ _ (by omega), Below.heap_alloc w _ _ hgw]
        have := hcells (i * 2 + j) v (by rwa [List.getElem?_drop] at hj)
        simpa [World.cell?] using this) (by rw [hA2s, hdl]; omega) (fun v hv => hx1 v (List.mem_of_mem_drop hv))
    rw [← hA3] at this
    exact this
  have HRZ := Lib.hid hrz; have HCA := Lib.hid hcpA; have HCB := Lib.hid hcpB; have HA3S := Lib.hid hA3s; have HA3T := Lib.hid hA3t; have HGM := Lib.hid hG63
  have hG63' : G ≤ 9223372036854775807 := by unfold maxLen at hG63; omega
  have hFIN := Lib.hid (show B ≤ w.heap.size ∧ g < w.heap.size ∧ n + 1 ≤ G from ⟨hB, hgw, hGn⟩)
  have hxlen := Lib.hid (show (xs.take (i * 2) ++ news ++ xs.drop (i * 2)).length = (n + 1) * 2 by rw [List.length_append, List.length_append, List.length_take, hxl, hnl, hdl]; omega)
  have hGi : ¬ (G = i) := by omega
  have hGim : ¬ (G = i + 1) := by omega
  have hci : ¬ (n = i) := by omega
  have hin : i ≤ n := by omega
  have hii : (i : Int) < (n : Int) := by omega
  have hz2 : ¬ ((i : Int) = (n : Int)) := by omega
  have hz3 : (n : Int) < (n : Int) + 1 := by omega
  have hn62 : (n : Int) ≤ 4611686018427387904 := by omega
  clear hcpA hcpB hrz hA3s hA3t hA3 hA2 hA2s hA2t hROW hRl hRt hold hcells hG hG63 hx1 h1 hnl hown hnew hg hxl hdl hi0 hz0 hz1 hz2 hszI hsz htake hik hkk hn hB hBg hgw hnw hGn hc
  go_enter Tryd.func45, Tryd.ntmps45
  go_wp2_with (at_builtin; refine Lib.wpList_append_run _ rfl _ _ _ _ rfl _ _ rfl rfl _ _ (HRZ.out _) ?_)
  rw [HCA.out (w.alloc (.cells ROW 56)).drew rfl]
  go_wp2_with fail
  have hB2 := HCB.out ((w.alloc (.cells ROW 56)).drew.setRow w.heap.size A2).drew rfl
  go_region
  go_wp2_with fail
  go_ret
  refine ⟨.slice (some ⟨w.heap.size, 0, none⟩) (n + 1) G, rfl, ⟨hxlen.out, .inr ⟨w.heap.size, G, A3, rfl, hFIN.out.1, ?_, hFIN.out.2.2, HGM.out, HA3S.out, HA3T.out⟩⟩, ?_⟩
  · exact setRow_heap _ _ _ _ _ _ (setRow_heap _ _ _ _ _ _ (World.alloc_heap_new w _))
  · exact grown_of_below (below_setRow ((below_setRow (((Below.refl w.heap.size w).alloc (Nat.le_refl _) (.cells ROW 56)).drew) (Nat.le_refl _) _).drew) (Nat.le_refl _) _) _

set_option maxRecDepth 100000 in
set_option maxHeartbeats 1000000 in
/-- there is room: in place -/
theorem insertB_shift (B n i nb g cap : Nat) (xs news : List Value) (w : World) (hown : w.ownsRow B 56 2 (.slice (some ⟨g, 0, none⟩) n cap) n xs) (hnew : w.heap[nb]? = some (.cells news.toArray 56 (0, 0))) (hne : nb ≠ g) (hnl : news.length = 2) (h1 : ∀ u ∈ news, u.oneCell' = true) (hx1 : ∀ u ∈ xs, u.oneCell' = true) (hn : n ≤ 1000000) (hi : i < n) (hc : n + 1 ≤ cap) :
    Calls Tryd.prog 45 #[.slice (some ⟨g, 0, none⟩) n cap, .int .i64 i, .slice (some ⟨nb, 0, none⟩) 1 1] w (InsEndB B n (.slice (some ⟨g, 0, none⟩) n cap) (xs.take (i * 2) ++ news ++ xs.drop (i * 2)) w) := by
  obtain ⟨cur, hg, hBg, hnc, hcm, hsz, htake⟩ := own_block hown
  obtain ⟨i0, hi0, hz0, hz1, hz2⟩ := info_parts infoB
  have hszI : (Tryd.prog.info? 56).map (·.size) = some 2 := by rw [hi0]; simp [hz1]
  have hxl := hown.1
  have hcells : ∀ j u, xs[j]? = some u → w.cell? ⟨g, j, none⟩ = some u := fun j u hu => by have := hown.cells (g := g) rfl j u hu; rwa [ow_at] at this
  have hdl : (xs.drop (i * 2)).length = (n - i) * 2 := by rw [List.length_drop, hxl]; omega
  obtain ⟨A2, hA2⟩ : ∃ A2 : Array Value, A2 = (cur.toList.take ((i + 1) * 2) ++ xs.drop (i * 2) ++ cur.toList.drop ((i + 1) * 2 + (xs.drop (i * 2)).length)).toArray := ⟨_, rfl⟩
  have hcl : cur.toList.length = cap * 2 := by simp [hsz]
  have hA2s : A2.size = cap * 2 := by
    rw [hA2, List.size_toArray, List.length_append, List.length_append, List.length_take, hdl, List.length_drop, hcl]; omega
  obtain ⟨A3, hA3⟩ : ∃ A3 : Array Value, A3 = (A2.toList.take (i * 2) ++ news ++ A2.toList.drop (i * 2 + news.length)).toArray := ⟨_, rfl⟩
  have hA3s : A3.size = cap * 2 := by
    have : A2.toList.length = cap * 2 := by simp [hA2s]
    rw [hA3, List.size_toArray, List.length_append, List.length_append, List.length_take, List.length_drop, this, hnl]; omega
  have hA2t : A2.toList.take (i * 2) = xs.take (i * 2) := by
    rw [hA2, List.toList_toArray, List.append_assoc, List.take_append_of_le_length (by rw [List.length_take, hcl]; omega), List.take_take, ← htake, List.take_take]
    congr 1; omega
  have hA2d : (A2.toList.drop (i * 2 + news.length)).take ((n - i) * 2) = xs.drop (i * 2) := by
    have e : i * 2 + news.length = (i + 1) * 2 := by rw [hnl]; omega
    rw [hA2, List.toList_toArray, List.append_assoc, e, List.drop_append_of_le_length (by rw [List.length_take, hcl]; omega)]
    rw [List.drop_of_length_le (by rw [List.length_take]; omega), List.nil_append, List.take_append_of_le_length (by omega), List.take_of_length_le (by omega)]
  have hA3t : A3.toList.take ((n + 1) * 2) = xs.take (i * 2) ++ news ++ xs.drop (i * 2) := by
    rw [hA3, List.toList_toArray, hA2t, List.take_append, ← hA2d]
    have e2 : (xs.take (i * 2) ++ news).length = (i + 1) * 2 := by rw [List.length_append, List.length_take, hxl, hnl]; omega
    rw [List.take_of_length_le (by omega), e2]
    congr 2; omega
  have hcpA : ∀ W : World, W.heap = w.heap → ∀ ty dc sc, (Builtin.copy_ #[39, 39] ty #[.slice (some ⟨g, (i + 1) * 2, none⟩) (n - i) dc, .slice (some ⟨g, i * 2, none⟩) (n + 1 - i) sc]).run Tryd.prog W = .ok (goInt (n - i : Nat)) (W.setRow g A2) := by
    intro W hW ty dc sc
    have := run_copy_k (P := Tryd.prog) W 39 39 ty 56 2 g ((i + 1) * 2) (n - i) dc ⟨g, i * 2, none⟩ (n + 1 - i) sc (n - i) cur 56 (xs.drop (i * 2)) Tryd.underlying39 hszI (by rw [hW]; exact hg) (by simp only [Nat.min_def]; split <;> omega) hdl
      (fun j v hj => by
        rw [ow_at']; simp only [World.cell?, hW]
        have := hcells (i * 2 + j) v (by rwa [List.getElem?_drop] at hj)
        simpa [World.cell?] using this) (by rw [hsz, hdl]; omega) (fun v hv => hx1 v (List.mem_of_mem_drop hv))
    rw [← hA2] at this
    exact this
  have hcpB : ∀ W : World, W.heap = (w.setRow g A2).heap → ∀ ty dc, (Builtin.copy_ #[39, 39] ty #[.slice (some ⟨g, i * 2, none⟩) (n + 1 - i) dc, .slice (some ⟨nb, 0, none⟩) 1 1]).run Tryd.prog W = .ok (goInt 1) (W.setRow g A3) := by
    intro W hW ty dc
    have := run_copy_k (P := Tryd.prog) W 39 39 ty 56 2 g (i * 2) (n + 1 - i) dc ⟨nb, 0, none⟩ 1 1 1 A2 56 news Tryd.underlying39 hszI (by rw [hW]; exact setRow_heap _ _ _ _ _ _ hg) (by simp only [Nat.min_def]; split <;> omega) (by omega)
      (fun j v hj => by rw [ow_at]; simp only [World.cell?, hW]; rw [setRow_other _ _ _ _ hne, hnew]; simpa using hj) (by rw [hA2s, hnl]; omega) h1
    rw [← hA3] at this
    exact this
  have hnsz : news.toArray.size = 2 := by rw [List.size_toArray]; exact hnl
  have hov : ∀ lb cb, (callFunc 59 #[.slice (some ⟨nb, 0, none⟩) 1 1, .slice (some ⟨g, (i + 1) * 2, none⟩) lb cb]).run Tryd.prog w = .ok (.value (.bool false)) w := fun lb cb => by
    rw [run_callFunc_extern Tryd.func59 (by kernel_rfl) (by kernel_rfl) (by kernel_rfl) (e := Extern.SlicesOverlaps.overlaps #[39, 39] #[4]) (by kernel_rfl),
      Lib.run_overlaps_apart w 39 4 56 Tryd.underlying39 2 (fun w => by simp [sizeOf, typeInfo, hi0, hz1]) ⟨nb, 0, none⟩ ⟨g, (i + 1) * 2, none⟩ 1 1 lb cb hne 56 56 2 (cap * 2) (by simp [World.shape?, hnew, hnl]) (by simp [World.shape?, hg, hsz]) (by omega) (by simp [World.frozen?, hnew]) (by simp [World.frozen?, hnew])]
    rfl
  have hA := hcpA w.drew rfl
  have HCB := Lib.hid hcpB; have HA3S := Lib.hid hA3s; have HA3T := Lib.hid hA3t; have HG := Lib.hid hg
  have hxlen := Lib.hid (show (xs.take (i * 2) ++ news ++ xs.drop (i * 2)).length = (n + 1) * 2 by rw [List.length_append, List.length_append, List.length_take, hxl, hnl, hdl]; omega)
  have hFIN := Lib.hid (And.intro hBg (And.intro hc hcm))
  have hz2 : ¬ ((i : Int) = (n : Int)) := by omega
  have hz3 : ¬ (cap : Int) < (n : Int) + 1 := by omega
  have hn62 : (n : Int) ≤ 4611686018427387904 := by omega
  have hc63 : cap ≤ 9223372036854775807 := by unfold maxLen at hcm; omega
  have hGi : ¬ (cap = i) := by omega
  have hGim : ¬ (cap = i + 1) := by omega
  have hin : i ≤ n := by omega
  have hii : (i : Int) < (n : Int) := by omega
  have hcc : (n : Int) + 1 ≤ (cap : Int) := by omega
  clear hcpA hcpB hA3s hA3t hA3 hA2 hA2s hA2t hA2d hcells hx1 h1 hnl hown hnew hg hxl hdl hi0 hz0 hz1 hz2 hszI hsz htake hn hBg hc hcl hcm hnsz hne
  go_enter Tryd.func45, Tryd.ntmps45
  go_wp2_with (simp only [hov])
  go_region
  go_wp2_with fail
  rw [HCB.out (w.drew.setRow g A2) rfl]
  go_wp2_with fail
  go_ret
  refine ⟨.slice (some ⟨g, 0, none⟩) (n + 1) cap, rfl, ⟨hxlen.out, .inr ⟨g, cap, A3, rfl, hFIN.out.1, ?_, hFIN.out.2.1, hFIN.out.2.2, HA3S.out, HA3T.out⟩⟩, ?_⟩
  · exact setRow_heap _ _ _ _ _ _ (setRow_heap _ _ _ _ _ _ HG.out)
  · exact grown_trans (grown_trans (grown_drew (grown_refl w _) 1) (grown_setRow _ g _)) (grown_setRow _ g _)

/-- one element more, at its place -/
theorem insertB_any (B n i nb : Nat) (v : Value) (xs news : List Value) (w : World) (hown : w.ownsRow B 56 2 v n xs) (hnew : w.heap[nb]? = some (.cells news.toArray 56 (0, 0))) (hne : v.ownBlock ≠ some nb) (hnl : news.length = 2) (h1 : ∀ u ∈ news, u.oneCell' = true) (hx1 : ∀ u ∈ xs, u.oneCell' = true) (hn : n ≤ 1000000) (hB : B ≤ w.heap.size) (hi : i ≤ n) :
    Calls Tryd.prog 45 #[v, .int .i64 i, .slice (some ⟨nb, 0, none⟩) 1 1] w (InsEndB B n v (xs.take (i * 2) ++ news ++ xs.drop (i * 2)) w) := by
  by_cases hin : i = n
  · subst hin
    have e1 : xs.take (i * 2) = xs := List.take_of_length_le (by rw [hown.1]; exact Nat.le_refl _)
    have e2 : xs.drop (i * 2) = [] := List.drop_of_length_le (by rw [hown.1]; exact Nat.le_refl _)
    rw [e1, e2, List.append_nil]
    exact insertB_end B i nb v xs news w hown hnew hnl h1 hn hB
  · rcases ow_slice hown with ⟨_, hn0, _⟩ | ⟨g, cap, rfl⟩
    · omega
    · by_cases hc : n + 1 ≤ cap
      · exact insertB_shift B n i nb g cap xs news w hown hnew (fun e => hne (by rw [e]; rfl)) hnl h1 hx1 hn (by omega) hc
      · exact insertB_grow B n i nb g cap xs news w hown hnew hnl h1 hx1 hn hB (by omega) (by omega)
end Go.Proofs.YtgabifkechofnaaDoor
