/- The law's own: a volume with a block. · What the document fixes: plain. · Reading what was told; what the document fixes. -/
import Derived.Test.YtpcmihgfcaelfaaIN
namespace Go.Proofs.Ytpcmihgfcaelfaa
open Go.RowKit

theorem ints_one (W : World) (B : Nat) (x : Int) (hB : B ≤ W.heap.size) : (W.alloc (.cells #[.int .i64 x] 3)).ownsRow B 3 1 (.slice (some ⟨W.heap.size, 0, none⟩) 1 1) 1 (intVs [x]) := by
  exact ⟨by simp [intVs], .inr ⟨W.heap.size, 1, #[.int .i64 x], rfl, hB, World.alloc_heap_new W _, Nat.le_refl _, by unfold maxLen; omega, rfl, by simp [intVs]⟩⟩
def oneD (id : Int) : VoD := ⟨id, 4, leafN [(2, 3)]⟩
set_option maxRecDepth 100000 in
set_option maxHeartbeats 4000000 in
theorem one_any (id : Int) (w : World) : Calls Try.prog 28 #[.int .i64 id] w fun e w' => ∃ a b c, e = .returned (.agg #[.int .i64 id, .int .i64 4, a, b, c]) ∧ NodeAt w' (leafN [(2, 3)]) a b c ∧ Below w.heap.size w w' := by
  go_enter Try.func28, Try.ntmps28
  go_wp2_with fail
  obtain ⟨WA, hWA⟩ : ∃ W, w.alloc (.cells #[.int .i64 id, .int .i64 4, .slice (some ⟨w.heap.size + 1, 0, none⟩) 1 1, .slice (some ⟨w.heap.size + 1 + 1, 0, none⟩) 1 1, .slice none 0 0] 45) = W := ⟨_, rfl⟩
  have hsA : WA.heap.size = w.heap.size + 1 := by rw [← hWA]; simp
  have hxA : VlBlk WA w.heap.size (.int .i64 id) (.int .i64 4) (.slice (some ⟨w.heap.size + 1, 0, none⟩) 1 1) (.slice (some ⟨w.heap.size + 1 + 1, 0, none⟩) 1 1) (.slice none 0 0) := by rw [← hWA]; exact VlBlk.new _ _ _ _ _ _
  have hbA : Below w.heap.size w WA := by rw [← hWA]; exact (Below.refl _ _).alloc (Nat.le_refl _) _
  rw [hWA]
  obtain ⟨WB, hWB⟩ : ∃ W, WA.alloc (.cells #[.int .i64 2] 3) = W := ⟨_, rfl⟩
  have hsB : WB.heap.size = w.heap.size + 1 + 1 := by rw [← hWB]; simp [hsA]
  have hoB : WB.ownsRow (w.heap.size + 1) 3 1 (.slice (some ⟨w.heap.size + 1, 0, none⟩) 1 1) 1 (intVs [2]) := by have := ints_one WA (w.heap.size + 1) 2 (by omega); rw [hWB, hsA] at this; exact this
  have hbB : Below WA.heap.size WA WB := by rw [← hWB]; exact (Below.refl _ _).alloc (Nat.le_refl _) _
  rw [hWB]
  obtain ⟨WC, hWC⟩ : ∃ W, WB.alloc (.cells #[.int .i64 3] 3) = W := ⟨_, rfl⟩
  have hoC : WC.ownsRow (w.heap.size + 1) 3 1 (.slice (some ⟨w.heap.size + 1 + 1, 0, none⟩) 1 1) 1 (intVs [3]) := by have := ints_one WB (w.heap.size + 1) 3 (by omega); rw [hWC, hsB] at this; exact this
  have hbC : Below WB.heap.size WB WC := by rw [← hWC]; exact (Below.refl _ _).alloc (Nat.le_refl _) _
  rw [hWC]
  have hoB' := own_belowP hoB hbC
  obtain ⟨k0, k1, k2, k3, k4⟩ := ((hxA.low hbB hxA.lt).low hbC (by omega)).cells
  refine bodyPost_ret (v := .agg #[.int .i64 id, .int .i64 4, .slice (some ⟨w.heap.size + 1, 0, none⟩) 1 1, .slice (some ⟨w.heap.size + 1 + 1, 0, none⟩) 1 1, .slice none 0 0]) (by simp [results, Try.results28, go_sem, k0, k1, k2, k3, k4]) rfl ?_
  refine ⟨_, _, _, rfl, ?_, btrans (btrans hbA hbB) hbC⟩
  exact (leaf_at (p := [(2, 3)]) (W := WC) (B := w.heap.size + 1) (B0 := 0) (fun x hx => by simp only [List.mem_cons, List.not_mem_nil, or_false] at hx; subst hx; unfold i64B; omega) hoB' hoC (Nat.zero_le _) (v := .slice none 0 0) (fun k hk => by simp [Value.ownBlock] at hk)).keep (fun _ _ hv => (mask_cell.1 hv).2)
end Go.Proofs.Ytpcmihgfcaelfaa
namespace Go.Proofs.Ytpcmihgfcaelfaa
open Go.RowKit

noncomputable def twoV : List VoD := [oneD 1, oneD 2]
theorem two_small : SmallTrees twoV := fun d hd => by
  unfold twoV at hd
  simp only [List.mem_cons, List.not_mem_nil, or_false] at hd
  rcases hd with rfl | rfl <;> (unfold SmallTree; decide)
theorem two_may : mayVB twoV = true := by
  refine mayVB_iff.2 ⟨fun d hd => ?_, fun i a b ha hb => ?_, by decide⟩
  · unfold twoV at hd
    simp only [List.mem_cons, List.not_mem_nil, or_false] at hd
    rcases hd with rfl | rfl <;> decide
  · unfold twoV at ha hb
    rcases i with _ | _ | i
    · simp only [List.getElem?_cons_zero, List.getElem?_cons_succ, Option.some.injEq, Nat.zero_add] at ha hb
      subst ha; subst hb; decide
    · simp at hb
    · simp at hb
theorem two_rvs : rvs twoV = [(1, 4, [(2, 3)]), (2, 4, [(2, 3)])] := by decide
theorem nums1 {n : Nat} (h : n < 128) : numS (n : Int) = [UInt8.ofNat n] := by
  unfold numS; rw [if_pos (by omega), Int.toNat_natCast, numL_small h]
theorem two_text : textV twoV = [2, 4, 1, 4, 2, 3, 4, 2, 4, 2, 3] := by
  rw [textV_rv two_may, two_rvs]
  have h1 := nums1 (n := 1) (by omega); have h2 := nums1 (n := 2) (by omega); have h3 := nums1 (n := 3) (by omega); have h4 := nums1 (n := 4) (by omega)
  unfold textR intsS intsG numsR
  simp only [List.map_cons, List.map_nil, List.flatten_cons, List.flatten_nil, flatP, List.length_cons, List.length_nil, List.all_cons, List.all_nil]
  rw [if_pos (by decide), if_pos (by decide)]
  rw [show ((0 + 1 + 1 : Nat) : Int) = ((2 : Nat) : Int) from rfl, show ((0 + 1 + 1 + 1 + 1 : Nat) : Int) = ((4 : Nat) : Int) from rfl, show (1 : Int) = ((1 : Nat) : Int) from rfl, show (2 : Int) = ((2 : Nat) : Int) from rfl, show (3 : Int) = ((3 : Nat) : Int) from rfl, show (4 : Int) = ((4 : Nat) : Int) from rfl, h1, h2, h3, h4]
  rfl
theorem nil_text : textV [] = [0] := by
  have hm : mayVB [] = true := mayVB_iff.2 ⟨fun d hd => by simp at hd, fun i a b ha => by simp at ha, by decide⟩
  rw [textV_rv hm]
  have h0 := nums1 (n := 0) (by omega)
  show numS ((0 : Nat) : Int) ++ textR [] = [0]
  rw [h0]; rfl
theorem read_one : readQ [1] = none := by
  have hd : takeD [1] 0 = some (1, 1) := by
    have := takeD_num [] [] (n := 1) ⟨by omega, by omega⟩
    have h1 := nums1 (n := 1) (by omega)
    rw [show (1 : Int) = ((1 : Nat) : Int) from rfl, h1] at this
    exact this
  rw [readQ_go hd (by decide)]
  show (match readG [1] 1 1 with | none => none | some y => if y.2 = ([1] : List UInt8).length then some y.1 else none) = none
  have e : readG [1] 1 1 = none := by
    unfold readG
    rw [takeI_none (by unfold takeD; rw [if_neg (by decide)])]
  rw [e]
theorem two_tabs : tablesQ twoV 2 = some [[(0, 1, 2, true)], []] := by
  have h := tablesQ_go (l := twoV) (n := 2) (by omega) (by omega) two_may
  have hc : countsV twoV = [(3, 2)] := by
    unfold countsV; rw [if_pos two_may]; decide
  rw [hc] at h
  rw [show (2 : Int) = ((2 : Nat) : Int) from rfl, h]
  decide
end Go.Proofs.Ytpcmihgfcaelfaa
namespace Go.Proofs.Ytpcmihgfcaelfaa
open Go.RowKit

theorem ba_list (l : List UInt8) : (⟨l.toArray⟩ : ByteArray).data.toList = l := rfl
/-- volumes that may be are read back -/
theorem read_back (l : List VoD) (h : mayVB l = true) (h2 : SmallTrees l) (h3 : (textV l).length ≤ 1000000) (w : World) : Calls Try.prog 10 #[.string ⟨(textV l).toArray⟩] w fun e w' => ∃ v x, e = .returned (.tuple #[v, .bool true]) ∧ VolsAt w' v x ∧ RvAll x (rvs l) ∧ mayVB x = true ∧ Below w.heap.size w w' := by
  have hq : readQ (⟨(textV l).toArray⟩ : ByteArray).data.toList = some (rvs l) := readQ_textV h h2
  refine (pRead_any ⟨(textV l).toArray⟩ (by rw [ba_size]; exact h3) (fun L hL => by rw [hq] at hL; injection hL with hL; rw [← hL]; exact rvs_few h2) w).mono ?_
  intro e w' he
  unfold PreadPost at he
  rw [hq] at he
  obtain ⟨x, hx, hb, ⟨hm, v, rfl, hv⟩ | ⟨hm, _⟩⟩ := he
  · exact ⟨v, x, rfl, hv, hx, hm, hb⟩
  · rw [rv_may hx h] at hm; exact absurd hm (by simp)
theorem read_nil (w : World) (l : List VoD) (h : mayVB l = false) : Calls Try.prog 10 #[.string ⟨(textV l).toArray⟩] w fun e w' => e = .returned (.tuple #[.slice none 0 0, .bool false]) ∧ Below w.heap.size w w' := by
  have hq : readQ (⟨(textV l).toArray⟩ : ByteArray).data.toList = none := by rw [ba_list, textV_no h, readQ_empty]
  refine (pRead_any ⟨(textV l).toArray⟩ (by rw [ba_size, textV_no h]; simp) (fun L hL => by rw [hq] at hL; cases hL) w).mono ?_
  intro e w' he
  unfold PreadPost at he
  rw [hq] at he
  exact he
/-- reading a short text -/
theorem read_text (s : ByteArray) (h : s.size ≤ 2000) (w : World) : Calls Try.prog 10 #[.string s] w fun e w' => Below w.heap.size w w' ∧ (e = .returned (.tuple #[.slice none 0 0, .bool false]) ∨ ∃ v x, e = .returned (.tuple #[v, .bool true]) ∧ VolsAt w' v x ∧ SmallTrees x ∧ mayVB x = true ∧ textV x = s.data.toList) := by
  have hl : s.data.toList.length = s.size := by simp
  refine (pRead_any s (by omega) (fun L hL v hv => by have := readQ_few hL v hv; omega) w).mono ?_
  intro e w' he
  unfold PreadPost at he
  cases hq : readQ s.data.toList with
  | none => rw [hq] at he; exact ⟨he.2, .inl he.1⟩
  | some L =>
    rw [hq] at he
    obtain ⟨x, hx, hb, ⟨hm, v, rfl, hv⟩ | ⟨hm, rfl⟩⟩ := he
    · exact ⟨hb, .inr ⟨v, x, rfl, hv, hx.small (fun v hv => by have := readQ_few hq v hv; omega), hm, text_read hq hx hm⟩⟩
    · exact ⟨hb, .inl rfl⟩
theorem two_row (W : World) {a b c a' b' c' : Value} (h : NodeAt W (leafN [(2, 3)]) a b c) (h' : NodeAt W (leafN [(2, 3)]) a' b' c') : VolsAt (W.alloc (.cells #[.int .i64 1, .int .i64 4, a, b, c, .int .i64 2, .int .i64 4, a', b', c'] 45)) (.slice (some ⟨W.heap.size, 0, none⟩) 2 2) twoV := by
  have hk : Keeps W (W.alloc (.cells #[.int .i64 1, .int .i64 4, a, b, c, .int .i64 2, .int .i64 4, a', b', c'] 45)) := keeps_below ((Below.refl _ _).alloc (Nat.le_refl _) _)
  refine ⟨_, 2, rfl, by unfold twoV; simp, by unfold maxLen; omega, fun i d hd => ?_⟩
  unfold twoV at hd
  rcases i with _ | _ | i
  · simp only [List.getElem?_cons_zero, Option.some.injEq] at hd
    subst hd
    exact ⟨show i64B (1 : Int) by (unfold i64B; omega), show i64B (4 : Int) by (unfold i64B; omega), W.heap.size, 0, a, b, c, rfl, by simp [oneD], by simp [oneD], by simp, by simp, by simp, h.keep hk⟩
  · simp only [List.getElem?_cons_zero, List.getElem?_cons_succ, Nat.zero_add, Option.some.injEq] at hd
    subst hd
    exact ⟨show i64B (2 : Int) by (unfold i64B; omega), show i64B (4 : Int) by (unfold i64B; omega), W.heap.size, 0, a', b', c', rfl, by simp [oneD], by simp [oneD], by simp, by simp, by simp, h'.keep hk⟩
  · simp at hd
theorem use_row (W : World) : UsesAt (W.alloc (.cells #[.int .i64 0, .int .i64 1, .int .i64 2, .bool true] 37)) (.slice (some ⟨W.heap.size, 0, none⟩) 1 1) [(0, 1, 2, true)] := by
  refine ⟨_, 1, rfl, by simp, by unfold maxLen; omega, fun i x hx => ?_⟩
  rcases i with _ | i
  · simp only [List.getElem?_cons_zero, Option.some.injEq] at hx
    subst hx
    exact ⟨W.heap.size, 0, rfl, by simp, by simp, by simp, by simp⟩
  · simp at hx
theorem vols_nil (W : World) : VolsAt W (.slice none 0 0) [] := ⟨none, 0, rfl, Nat.le_refl _, by unfold maxLen; omega, fun i d hd => by simp at hd⟩
set_option maxRecDepth 100000 in
set_option maxHeartbeats 4000000 in
theorem fixed_any (w : World) : Calls Try.prog 9 #[] w fun e w' => e = .returned (.bool true) ∧ Below w.heap.size w w' := by
  go_enter Try.func9, Try.ntmps9
  go_wp2_with fail
  refine (one_any 1 _).mono ?_
  rintro e w1 ⟨a, b, c, rfl, hn, hb⟩
  have HN1 := Lib.hid hn; have HB1 := Lib.hid hb
  obtain ⟨pa, na, ca, pb, nb, cb, pc, nc, cc, rfl, rfl, rfl⟩ := node_slices hn
  clear hn hb
  go_wp2_with fail
  refine (one_any 2 _).mono ?_
  rintro e w2 ⟨a, b, c, rfl, hn, hb⟩
  have HN2 := Lib.hid hn; have HB2 := Lib.hid (btrans HB1.out hb); have HN1' := Lib.hid (HN1.out.keep (keeps_below hb))
  obtain ⟨qa, ma, da, qb, mb, db, qc, mc, dc, rfl, rfl, rfl⟩ := node_slices hn
  clear hn hb
  have HV := Lib.hid (two_row w2 HN1'.out HN2.out)
  obtain ⟨W3, hW3⟩ : ∃ W, w2.alloc (.cells #[.int .i64 1, .int .i64 4, .slice pa na ca, .slice pb nb cb, .slice pc nc cc, .int .i64 2, .int .i64 4, .slice qa ma da, .slice qb mb db, .slice qc mc dc] 45) = W := ⟨_, rfl⟩
  have HB3 := Lib.hid (show Below w.heap.size w W3 by rw [← hW3]; exact HB2.out.alloc HB2.out.size _)
  rw [hW3] at HV
  go_upto_region 2 with fail
  clear hW3
  go_wp2_with fail
  refine (pText_any twoV _ _ HV.out two_small).mono ?_
  rintro e w4 ⟨rfl, hb⟩
  have HB4 := Lib.hid (btrans HB3.out hb); have HV4 := Lib.hid (HV.out.keep (keeps_below hb))
  clear hb
  go_wp2_with fail
  refine (read_back twoV two_may two_small (by rw [two_text]; decide) _).mono ?_
  rintro e w5 ⟨vm, x, rfl, hv, hx, hm, hb⟩
  have HB5 := Lib.hid (btrans HB4.out hb); have HV5 := Lib.hid (HV4.out.keep (keeps_below hb)); have HM5 := Lib.hid hv
  have HX := Lib.hid (And.intro hx hm)
  clear hb hv hx hm
  go_wp2_with fail
  refine (pTabs_any twoV 2 _ _ HV5.out two_small).mono ?_
  intro e w6 he
  unfold PtabPost at he
  rw [two_tabs] at he
  obtain ⟨vt, rfl, ⟨pt, ct, rfl, t1, t2, hel⟩, hb⟩ := he
  obtain ⟨gt, ot, ut, rfl, hc, hu⟩ := hel 0 _ rfl
  simp only [List.length_cons, List.length_nil, Nat.zero_add, Nat.add_zero, Nat.reduceAdd] at t1 hc ⊢
  have HB6 := Lib.hid (btrans HB5.out hb); have HV6 := Lib.hid (HV5.out.keep (keeps_below hb)); have HM6 := Lib.hid (HM5.out.keep (keeps_below hb)); have HC6 := Lib.hid hc; have HU6 := Lib.hid hu
  clear hb hel hc hu t1 t2
  go_wp2_with fail
  refine (pRead_any ⟨#[1]⟩ (by decide) (fun L hL => by rw [show readQ (⟨#[1]⟩ : ByteArray).data.toList = none from read_one] at hL; cases hL) _).mono ?_
  intro e w7 he
  unfold PreadPost at he
  rw [show readQ (⟨#[1]⟩ : ByteArray).data.toList = none from read_one] at he
  obtain ⟨rfl, hb⟩ := he
  have HB7 := Lib.hid (btrans HB6.out hb); have HV7 := Lib.hid (HV6.out.keep (keeps_below hb)); have HM7 := Lib.hid (HM6.out.keep (keeps_below hb)); have HC7 := Lib.hid (cell_stays hb HC6.out); have HU7 := Lib.hid (HU6.out.keep (keeps_below hb))
  clear hb
  go_wp2_with fail
  refine (pText_any [] _ _ (vols_nil _) (fun d hd => by simp at hd)).mono ?_
  rintro e w8 ⟨rfl, hb⟩
  rw [nil_text]
  have HB8 := Lib.hid (btrans HB7.out hb); have HV8 := Lib.hid (HV7.out.keep (keeps_below hb)); have HM8 := Lib.hid (HM7.out.keep (keeps_below hb)); have HC8 := Lib.hid (cell_stays hb HC7.out); have HU8 := Lib.hid (HU7.out.keep (keeps_below hb))
  clear hb
  go_wp2_with fail
  refine (pText_any twoV _ _ HV8.out two_small).mono ?_
  rintro e w9 ⟨rfl, hb⟩
  rw [two_text]
  have HB9 := Lib.hid (btrans HB8.out hb); have HV9 := Lib.hid (HV8.out.keep (keeps_below hb)); have HM9 := Lib.hid (HM8.out.keep (keeps_below hb)); have HC9 := Lib.hid (cell_stays hb HC8.out); have HU9 := Lib.hid (HU8.out.keep (keeps_below hb))
  clear hb
  go_wp2_with fail
  refine (rsame18_any twoV x _ _ _ HV9.out HM9.out two_small (HX.out.1.small (rvs_few two_small))).mono ?_
  rintro e wa ⟨rfl, hb⟩
  rw [same_rvs.2 (rvs_of HX.out.1).symm]
  have hc := cell_stays hb HC9.out
  have HBa := Lib.hid (btrans HB9.out hb); have HUa := Lib.hid (HU9.out.keep (keeps_below hb))
  clear hb
  go_wp2_with fail
  have hba : Below wa.heap.size wa (wa.alloc (.cells #[.int .i64 0, .int .i64 1, .int .i64 2, .bool true] 37)) := (Below.refl _ _).alloc (Nat.le_refl _) _
  refine (rsame14_any [(0, 1, 2, true)] [(0, 1, 2, true)] _ _ _ (HUa.out.keep (keeps_below hba)) (use_row wa)).mono ?_
  rintro e wb ⟨rfl, hb⟩
  rw [show sameT [(0, 1, 2, true)] [(0, 1, 2, true)] = true by unfold sameT; simp]
  have HBb := Lib.hid (btrans (btrans HBa.out hba) hb)
  clear hb hba hc
  go_wp2_with fail
  go_ret
  exact ⟨rfl, HBb.out⟩
end Go.Proofs.Ytpcmihgfcaelfaa
