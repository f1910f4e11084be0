/- The walk of the model's written. -/
import Derived.Test.YtgabifkechofnaaDoorModE
namespace Go.Proofs.YtgabifkechofnaaDoor
open Go.RowKit

def hitB (l : List BlkD) (pos : Int) : Bool := match l[posB l pos]? with | none => false | some d => decide (d.pos = pos)
def writtenL (l : List BlkD) (b : BlkD) : List BlkD := if hitB l b.pos then l.set (posB l b.pos) b else l.take (posB l b.pos) ++ b :: l.drop (posB l b.pos)
def WrEnd (G : Nat) (l : List BlkD) (b : BlkD) (v : Value) (w : World) (e : Ending) (w' : World) : Prop :=
  ∃ v', e = .returned v' ∧ w'.ownsRow G 56 2 v' (writtenL l b).length (blkRows (writtenL l b)).flatten ∧ w.grownBy w' v.ownBlock
theorem wr_insert {l : List BlkD} {b : BlkD} {k : Nat} (hp : posB l b.pos = k) (hh : hitB l b.pos = false) :
    writtenL l b = l.take k ++ b :: l.drop k := by unfold writtenL; rw [hh, hp]; rfl
theorem wr_rows {l : List BlkD} {b : BlkD} {k : Nat} (hp : posB l b.pos = k) (hh : hitB l b.pos = false) :
    (blkRows l).flatten.take (k * 2) ++ [Value.int .i64 b.pos, .string b.text] ++ (blkRows l).flatten.drop (k * 2) = (blkRows (writtenL l b)).flatten := by
  rw [wr_insert hp hh, flat_take k (blkRows_all l), flat_drop k (blkRows_all l)]
  unfold blkRows
  rw [List.map_append, List.map_cons, List.flatten_append, List.flatten_cons, List.map_take, List.map_drop, List.append_assoc]; rfl
theorem wr_len {l : List BlkD} {b : BlkD} {k : Nat} (hp : posB l b.pos = k) (hh : hitB l b.pos = false) (hk : k ≤ l.length) : l.length + 1 = (writtenL l b).length := by
  rw [wr_insert hp hh, List.length_append, List.length_cons, List.length_take, List.length_drop]; omega
theorem wr_set {l : List BlkD} {b : BlkD} {k : Nat} (hp : posB l b.pos = k) (hh : hitB l b.pos = true) : writtenL l b = l.set k b := by unfold writtenL; rw [hh, hp]; rfl
theorem wr_rows_set {l : List BlkD} {b d : BlkD} {k : Nat} (hp : posB l b.pos = k) (hh : hitB l b.pos = true) (hd : l[k]? = some d) :
    ((blkRows l).flatten.set (k * 2 + 0) (Value.int .i64 b.pos)).set (k * 2 + 1) (.string b.text) = (blkRows (writtenL l b)).flatten := by
  have hk := (List.getElem?_eq_some_iff.1 hd).1
  rw [flat_set _ (blkRows_all l) (blkRows_at hd) (by decide), wr_set hp hh]
  have hall : AllLen 2 ((blkRows l).set k ((blkCs d).set 0 (Value.int .i64 b.pos))) := by
    intro x hx
    rcases List.mem_or_eq_of_mem_set hx with h | h
    · exact blkRows_all l x h
    · subst h; rfl
  rw [flat_set _ hall (List.getElem?_set_self (by unfold blkRows; rw [List.length_map]; exact hk)) (by decide), List.set_set]
  congr 1
  unfold blkRows
  rw [List.map_set]; rfl

set_option maxRecDepth 100000 in
set_option maxHeartbeats 1000000 in
theorem written_any (G : Nat) (l : List BlkD) (b : BlkD) (v : Value) (w : World) (hown : w.ownsRow G 56 2 v l.length (blkRows l).flatten) (hn : l.length ≤ 100000) (hG : G ≤ w.heap.size) :
    Calls Tryd.prog 26 #[v, .agg #[.int .i64 b.pos, .string b.text]] w (WrEnd G l b v w) := by
  obtain ⟨p, c, hv, h1, h2, hin⟩ := blks_of_own hown
  subst hv
  obtain ⟨pos, text⟩ := b
  have hlen : (l.length : Int) ≤ 4611686018427387904 := by omega
  have HO := Lib.hid hown; have HG := Lib.hid hG; have HIN := Lib.hid hin; have HN := Lib.hid hn
  have HBX := Lib.hid ((Below.refl w.heap.size w).alloc (Nat.le_refl _) (.cells #[.int .i64 pos, .string text] 56))
  clear hown hG hin h1 h2 hn
  go_enter Tryd.func26, Tryd.ntmps26
  go_wp2_with fail
  go_loopw [5] (fun i wr => ∃ k : Nat, k ≤ l.length ∧ i = .int .i64 k ∧ (∀ j, j < k → ∀ d, l[j]? = some d → decide (d.pos < pos) = true) ∧ ∃ q, wr = (w.alloc (.cells #[.int .i64 pos, .string text] 56)).drewN q) (fun i _ => l.length - (intOf i).toNat)
  case atStart => exact ⟨0, Nat.zero_le _, rfl, fun j hj => by omega, 0, rfl⟩
  case round =>
    obtain ⟨k, hk, rfl, hlow, q, rfl⟩ := hrel
    have HLOW := Lib.hid hlow; clear hlow
    by_cases hlt : k < l.length
    · have hki : (k : Int) < (l.length : Int) := by omega
      have hkd : decide (k < l.length) = true := by simp; omega
      obtain ⟨d, hd⟩ : ∃ d, l[k]? = some d := ⟨_, List.getElem?_eq_getElem hlt⟩
      obtain ⟨g, o, rfl, hc, hct⟩ := HIN.out k d hd
      obtain rfl : o = 0 := by
        rcases ow_slice HO.out with ⟨h3, _⟩ | ⟨g', cap', h3⟩
        · cases h3
        · injection h3 with a; injection a with a; injection a
      rw [Nat.zero_add] at hc hct
      have hc2 := cell_stays HBX.out hc
      have hct2 := cell_stays HBX.out hct
      have HD := Lib.hid hd; clear hd
      by_cases hid : d.pos < pos
      · have HID := Lib.hid hid
        clear hc hct
        go_wp2_with fail
        go_quiet (fail)
        go_wp2_with fail
        go_roundw
        case rel =>
          refine ⟨k + 1, by omega, by go_num, fun j hj d' hd' => ?_, _, by first | exact rfl | exact World.drewN_drewN _ _ _⟩
          by_cases e : j = k
          · subst e; rw [HD.out] at hd'; cases hd'; simpa using HID.out
          · exact HLOW.out j (by omega) d' hd'
        case measure => simp [intOf]; omega
      · have HP := Lib.hid (show posB l pos = k from tw_len (fun d : BlkD => decide (d.pos < pos)) l k HLOW.out (.inr ⟨d, HD.out, by simpa using hid⟩))
        by_cases heq : d.pos = pos
        · have hbe : (d.pos == pos) = true := by simpa using heq
          have HH := Lib.hid (show hitB l pos = true by unfold hitB; rw [HP.out, HD.out]; simpa using heq)
          have hf1 : (w.alloc (.cells #[.int .i64 pos, .string text] 56)).frozen? ⟨g, k * 2, none⟩ = false := (HBX.out.frozen (World.block_lt_of_cell? w _ hc)).trans (ow_free HO.out _)
          have hf2 : (w.alloc (.cells #[.int .i64 pos, .string text] 56)).frozen? ⟨g, k * 2 + 1, none⟩ = false := (HBX.out.frozen (World.block_lt_of_cell? w _ hct)).trans (ow_free HO.out _)
          have hgw : w.heap.size ≠ g := by have := World.block_lt_of_cell? w _ hc; simp at this; omega
          clear hc hct heq
          go_wp2_with fail
          go_quiet (fail)
          go_wp2_with fail
          go_quiet (fail)
          go_wp2_with fail
          go_ret
          have hbw : Below w.heap.size w ((w.alloc (.cells #[.int .i64 pos, .string text] 56)).drewN 0) := below_drewN' HBX.out 0
          have hrow := HO.out.kept (row := none) (grown_of_below HBX.out none) (Classical.or_iff_not_imp_left.2 fun h => h)
          have hxl : (blkRows l).flatten.length = l.length * 2 := hrow.1
          have hs1 := ow_set hrow (k * 2 + 0) (.int .i64 pos) (by omega)
          have hs2 := ow_set hs1 (k * 2 + 1) (.string text) (by rw [List.length_set]; omega)
          rw [wr_rows_set (b := ⟨pos, text⟩) HP.out HH.out HD.out] at hs2
          have hl2 : (writtenL l ⟨pos, text⟩).length = l.length := by rw [wr_set (b := ⟨pos, text⟩) HP.out HH.out, List.length_set]
          refine ⟨_, rfl, by rw [hl2]; exact hs2, ?_⟩
          exact grown_trans (grown_trans (grown_of_below (by first | exact below_drewN' HBX.out _ | exact HBX.out) _) (grown_setCell _ g _ _)) (grown_setCell _ g _ _)
        · have hbe : (d.pos == pos) = false := by simpa using heq
          have HH := Lib.hid (show hitB l pos = false by unfold hitB; rw [HP.out, HD.out]; simpa using heq)
          clear hc hct heq
          go_wp2_with fail
          go_quiet (fail)
          go_wp2_with fail
          go_quiet (fail)
          go_wp2_with fail
          refine (insertB_any G l.length k _ _ (blkRows l).flatten [.int .i64 pos, .string text] _ ?_ ?_ ?_ rfl ?_ (blkRows_one l) (by have := HN.out; omega) ?_ (by omega)).mono ?_
          · exact HO.out.kept (row := none) (grown_of_below (by first | exact (below_drewN' HBX.out _).alloc (below_drewN' HBX.out _).size _ | exact below_drewN' (HBX.out.alloc HBX.out.size _) _ | exact HBX.out.alloc HBX.out.size _ | exact below_drewN' HBX.out _) _) (Classical.or_iff_not_imp_left.2 fun h => h)
          · exact new_at (by simp)
          · intro e
            have h3 := (HO.out.lt _ e).2
            omega
          · intro u hu
            simp only [List.mem_cons, List.not_mem_nil, or_false] at hu
            rcases hu with rfl | rfl <;> rfl
          · exact Nat.le_trans HG.out (by simp; omega)
          · rintro e w2 ⟨v', rfl, hown, hg⟩
            rw [wr_rows (b := ⟨pos, text⟩) HP.out HH.out, wr_len (b := ⟨pos, text⟩) HP.out HH.out (by omega)] at hown
            have HW := Lib.hid hown; have HGR := Lib.hid (grown_trans (grown_of_below (by first | exact (below_drewN' HBX.out _).alloc (below_drewN' HBX.out _).size _ | exact below_drewN' (HBX.out.alloc HBX.out.size _) _ | exact HBX.out.alloc HBX.out.size _ | exact below_drewN' HBX.out _) _) hg)
            clear hown hg
            go_wp2_with fail
            go_ret
            exact ⟨v', rfl, HW.out, HGR.out⟩
    · obtain rfl : k = l.length := by omega
      have hkd : decide (l.length < l.length) = false := by simp
      have HP := Lib.hid (show posB l pos = l.length from tw_len (fun d : BlkD => decide (d.pos < pos)) l l.length HLOW.out (.inl rfl))
      have HH := Lib.hid (show hitB l pos = false by unfold hitB; rw [HP.out, List.getElem?_eq_none (Nat.le_refl _)])
      go_wp2_with fail
      go_quiet (fail)
      go_wp2_with fail
      go_quiet (fail)
      go_wp2_with fail
      refine (insertB_any G l.length l.length _ _ (blkRows l).flatten [.int .i64 pos, .string text] _ ?_ ?_ ?_ rfl ?_ (blkRows_one l) (by have := HN.out; omega) ?_ (by omega)).mono ?_
      · exact HO.out.kept (row := none) (grown_of_below (by first | exact (below_drewN' HBX.out _).alloc (below_drewN' HBX.out _).size _ | exact below_drewN' (HBX.out.alloc HBX.out.size _) _ | exact HBX.out.alloc HBX.out.size _ | exact below_drewN' HBX.out _) _) (Classical.or_iff_not_imp_left.2 fun h => h)
      · exact new_at (by simp)
      · intro e
        have h3 := (HO.out.lt _ e).2
        omega
      · intro u hu
        simp only [List.mem_cons, List.not_mem_nil, or_false] at hu
        rcases hu with rfl | rfl <;> rfl
      · exact Nat.le_trans HG.out (by simp; omega)
      · rintro e w2 ⟨v', rfl, hown, hg⟩
        rw [wr_rows (b := ⟨pos, text⟩) HP.out HH.out, wr_len (b := ⟨pos, text⟩) HP.out HH.out (by omega)] at hown
        have HW := Lib.hid hown; have HGR := Lib.hid (grown_trans (grown_of_below (by first | exact (below_drewN' HBX.out _).alloc (below_drewN' HBX.out _).size _ | exact below_drewN' (HBX.out.alloc HBX.out.size _) _ | exact HBX.out.alloc HBX.out.size _ | exact below_drewN' HBX.out _) _) hg)
        clear hown hg
        go_wp2_with fail
        go_ret
        exact ⟨v', rfl, HW.out, HGR.out⟩
end Go.Proofs.YtgabifkechofnaaDoor
