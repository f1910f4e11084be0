/- The walk of slices.DeleteFunc at blocks, and of the model's without. -/
import Derived.Test.YtgabifkechofnaaDoorModH
namespace Go.Proofs.YtgabifkechofnaaDoor
open Go.RowKit

def cutL (l : List BlkD) (lo hi : Int) : List BlkD := l.filter fun d => !inB lo hi d
def DelEnd (G : Nat) (l : List BlkD) (lo hi : Int) (v : Value) (w : World) (e : Ending) (w' : World) : Prop :=
  ∃ v', e = .returned v' ∧ w'.ownsRow G 56 2 v' (cutL l lo hi).length (blkRows (cutL l lo hi)).flatten ∧ w.grownBy w' v.ownBlock
theorem first_spec (p : BlkD → Bool) : ∀ (l : List BlkD), (∀ d ∈ l.takeWhile p, p d = true) ∧ ((l.takeWhile p).length < l.length → ∃ d, l[(l.takeWhile p).length]? = some d ∧ p d = false)
  | [] => ⟨by simp, by simp⟩
  | a :: l => by
    cases h : p a with
    | true =>
      have ih := first_spec p l
      rw [List.takeWhile_cons_of_pos h]
      refine ⟨fun d hd => ?_, fun hl => ?_⟩
      · rcases List.mem_cons.1 hd with rfl | hd
        · exact h
        · exact ih.1 d hd
      · obtain ⟨d, h1, h2⟩ := ih.2 (by simpa using hl)
        exact ⟨d, by simpa using h1, h2⟩
    | false =>
      rw [List.takeWhile_cons_of_neg (by simp [h])]
      exact ⟨by simp, fun _ => ⟨a, rfl, h⟩⟩
theorem cut_none {l : List BlkD} {lo hi : Int} (h : ¬ firstIn l lo hi < l.length) : cutL l lo hi = l := by
  unfold firstIn at h
  have hs := first_spec (fun d => !inB lo hi d) l
  have hle : (l.takeWhile fun d => !inB lo hi d).length ≤ l.length := List.Sublist.length_le (List.takeWhile_sublist _)
  have he : l.takeWhile (fun d => !inB lo hi d) = l := List.Sublist.eq_of_length (List.takeWhile_sublist _) (by omega)
  unfold cutL
  rw [List.filter_eq_self]
  intro d hd
  rw [← he] at hd
  exact hs.1 d hd
theorem cut_first {l : List BlkD} {lo hi : Int} (h : firstIn l lo hi < l.length) : ∃ d, l[firstIn l lo hi]? = some d ∧ inB lo hi d = true ∧ cutL (l.take (firstIn l lo hi + 1)) lo hi = l.take (firstIn l lo hi) := by
  have hs := first_spec (fun d => !inB lo hi d) l
  obtain ⟨d, h1, h2⟩ := hs.2 h
  have h2' : inB lo hi d = true := by simpa using h2
  refine ⟨d, h1, h2', ?_⟩
  obtain ⟨hk, hx⟩ := List.getElem?_eq_some_iff.1 h1
  have htk : l.take (firstIn l lo hi) = l.takeWhile (fun d => !inB lo hi d) := by
    unfold firstIn
    exact (List.prefix_iff_eq_take.1 (List.takeWhile_prefix _)).symm
  have e1 : l.take (firstIn l lo hi + 1) = l.take (firstIn l lo hi) ++ [d] := by
    have hx' : l[firstIn l lo hi]'h = d := hx
    rw [List.take_succ_eq_append_getElem h, hx']
  unfold cutL
  rw [e1, List.filter_append, htk, List.filter_eq_self.2 hs.1]
  simp [h2']
def DfRel (G : Nat) (l : List BlkD) (lo hi : Int) (g cap : Nat) (w : World) (i j : Value) (wr : World) : Prop :=
  ∃ (jn : Nat) (mid : List BlkD), firstIn l lo hi < jn ∧ jn ≤ l.length ∧ j = .int .i64 (jn : Nat) ∧ i = .int .i64 ((cutL (l.take jn) lo hi).length : Nat) ∧ (cutL (l.take jn) lo hi).length + mid.length = jn ∧ 1 ≤ mid.length ∧
    wr.ownsRow G 56 2 (.slice (some ⟨g, 0, none⟩) l.length cap) l.length (blkRows (cutL (l.take jn) lo hi ++ mid ++ l.drop jn)).flatten ∧ w.grownBy wr (some g)

abbrev zB : Value := .agg #[.int .i64 0, .string ⟨#[]⟩]
theorem zB_one (n : Nat) : ∀ u ∈ (Builtin.zeroCells zB.cells n).toList, u.oneCell' = true := by
  intro u hu
  unfold Builtin.zeroCells at hu
  rw [Array.toList_map] at hu
  obtain ⟨i, _, rfl⟩ := List.mem_map.1 hu
  have h2 : i % zB.cells.size = 0 ∨ i % zB.cells.size = 1 := by
    have : zB.cells.size = 2 := rfl
    rw [this]; omega
  rcases h2 with h | h <;> rw [h] <;> rfl
theorem cut_snoc {l : List BlkD} {lo hi : Int} {jn : Nat} {d : BlkD} (hd : l[jn]? = some d) : cutL (l.take (jn + 1)) lo hi = cutL (l.take jn) lo hi ++ if inB lo hi d then [] else [d] := by
  obtain ⟨hk, hx⟩ := List.getElem?_eq_some_iff.1 hd
  unfold cutL
  rw [List.take_succ_eq_append_getElem hk, List.filter_append, hx]
  cases h : inB lo hi d <;> simp [h]
theorem row_get {w : World} {G : Nat} {e : TypeId} {g c n : Nat} {R : List BlkD} (h : w.ownsRow G e 2 (.slice (some ⟨g, 0, none⟩) n c) n (blkRows R).flatten) {i : Nat} {d : BlkD} (hd : R[i]? = some d) :
    w.cell? ⟨g, i * 2, none⟩ = some (.int .i64 d.pos) ∧ w.cell? ⟨g, i * 2 + 1, none⟩ = some (.string d.text) := by
  have h0 := h.cells (g := g) rfl (i * 2 + 0) _ (by rw [flat_get (blkRows_all _) (blkRows_at hd) (by decide)]; rfl)
  have h1 := h.cells (g := g) rfl (i * 2 + 1) _ (by rw [flat_get (blkRows_all _) (blkRows_at hd) (by decide)]; rfl)
  rw [ow_at] at h0 h1
  exact ⟨h0, h1⟩
theorem row_set {w : World} {G : Nat} {e : TypeId} {g c n : Nat} {R : List BlkD} (h : w.ownsRow G e 2 (.slice (some ⟨g, 0, none⟩) n c) n (blkRows R).flatten) (i : Nat) (d0 d : BlkD) (hd : R[i]? = some d0) :
    ((w.setCell ⟨g, i * 2, none⟩ (.int .i64 d.pos)).setCell ⟨g, i * 2 + 1, none⟩ (.string d.text)).ownsRow G e 2 (.slice (some ⟨g, 0, none⟩) n c) n (blkRows (R.set i d)).flatten := by
  have hk := (List.getElem?_eq_some_iff.1 hd).1
  have hxl : (blkRows R).flatten.length = R.length * 2 := by rw [flat_length (blkRows_all R)]; simp [blkRows]
  have h1 := ow_set (ow_set h (i * 2 + 0) (.int .i64 d.pos) (by omega)) (i * 2 + 1) (.string d.text) (by rw [List.length_set]; omega)
  rw [flat_set _ (blkRows_all R) (blkRows_at hd) (by decide)] at h1
  have hall : AllLen 2 ((blkRows R).set i ((blkCs d0).set 0 (Value.int .i64 d.pos))) := by
    intro x hx
    rcases List.mem_or_eq_of_mem_set hx with h | h
    · exact blkRows_all R x h
    · subst h; rfl
  rw [flat_set _ hall (List.getElem?_set_self (by unfold blkRows; rw [List.length_map]; exact hk)) (by decide), List.set_set] at h1
  have e1 : blkRows (R.set i d) = (blkRows R).set i (((blkCs d0).set 0 (Value.int .i64 d.pos)).set 1 (.string d.text)) := by unfold blkRows; rw [List.map_set]; rfl
  rw [e1]; exact h1

set_option maxRecDepth 100000 in
set_option maxHeartbeats 1000000 in
theorem deleteFunc_any (G : Nat) (l : List BlkD) (v : Value) (lo hi : Int) (a b : Nat) (w : World) (hown : w.ownsRow G 56 2 v l.length (blkRows l).flatten) (hn : l.length ≤ 100000)
    (ha : w.cell? ⟨a, 0, none⟩ = some (.int .i64 lo)) (hb : w.cell? ⟨b, 0, none⟩ = some (.int .i64 hi)) (hav : v.ownBlock ≠ some a) (hbv : v.ownBlock ≠ some b) :
    Calls Tryd.prog 42 #[v, cutF a b] w (DelEnd G l lo hi v w) := by
  obtain ⟨p, c, hv, h1, h2, hin⟩ := blks_of_own hown
  have HO := Lib.hid hown; have HIN := Lib.hid hin; have HN := Lib.hid hn; have HA := Lib.hid ha; have HB := Lib.hid hb; have HAV := Lib.hid hav; have HBV := Lib.hid hbv
  have hlen : (l.length : Int) ≤ 4611686018427387904 := by omega
  subst hv
  clear hown hin hn ha hb hav hbv h1 h2
  go_enter Tryd.func42, Tryd.ntmps42
  go_wp2_with fail
  refine (indexFunc_any l p c lo hi a b _ HIN.out HN.out HA.out HB.out).mono ?_
  rintro e w1 ⟨rfl, hb⟩
  by_cases hf : firstIn l lo hi < l.length
  · rw [if_pos hf]
    have hgr := grown_of_below hb (Value.ownBlock (.slice p l.length c))
    have hshape : ∃ g, p = some ⟨g, 0, none⟩ := by
      rcases ow_slice HO.out with ⟨_, h3, _⟩ | ⟨g, cap, h3⟩
      · omega
      · exact ⟨g, by injection h3⟩
    obtain ⟨g, rfl⟩ := hshape
    obtain ⟨d0, hd0, hin0, hcut0⟩ := cut_first hf
    have hnm : ((firstIn l lo hi : Nat) : Int) ≠ -1 := by omega
    have hfl : ((firstIn l lo hi : Nat) : Int) ≤ 4611686018427387904 := by omega
    have hown1 := HO.out.kept (row := none) (grown_of_below hb none) (Classical.or_iff_not_imp_left.2 fun h => h)
    have hstart : DfRel G l lo hi g c w (.int .i64 (firstIn l lo hi : Nat)) (.int .i64 ((firstIn l lo hi + 1 : Nat) : Nat)) w1 := by
      have hk : (l.take (firstIn l lo hi)).length = firstIn l lo hi := by rw [List.length_take]; omega
      refine ⟨firstIn l lo hi + 1, [d0], by omega, by omega, rfl, by rw [hcut0, hk], by rw [hcut0, hk]; rfl, Nat.le_refl _, ?_, hgr⟩
      have e1 : cutL (l.take (firstIn l lo hi + 1)) lo hi ++ [d0] ++ l.drop (firstIn l lo hi + 1) = l := by
        obtain ⟨hk2, hx⟩ := List.getElem?_eq_some_iff.1 hd0
        rw [hcut0]
        conv => rhs; rw [← List.take_append_drop (firstIn l lo hi) l, List.drop_eq_getElem_cons hk2, hx]
        simp
      rw [e1]; exact hown1
    have HST := Lib.hid hstart
    obtain ⟨f, hfe⟩ : ∃ f, firstIn l lo hi = f := ⟨_, rfl⟩
    rw [hfe] at hnm hfl ⊢
    have HFE := Lib.hid hfe
    clear hgr hown1 hstart hd0 hin0 hcut0 hfe hf hb
    have hnm2 : ((f : Int) == -1) = false := by rw [beq_eq_false_iff_ne]; exact hnm
    clear hnm
    go_wp2_with fail
    go_loopw [5, 6] (fun i j wr => DfRel G l lo hi g c w i j wr) (fun _ j _ => l.length - (intOf j).toNat)
    case atStart => have h := HST.out; rw [HFE.out] at h; exact h
    case round =>
      obtain ⟨jn, mid, hfj, hjn, rfl, rfl, hlen2, hm1, hrow, hgr⟩ := hrel
      obtain ⟨F, hF⟩ : ∃ F, cutL (l.take jn) lo hi = F := ⟨_, rfl⟩
      rw [hF] at hlen2 hrow
      have HF := Lib.hid hF; have HROW := Lib.hid hrow; have HGR := Lib.hid hgr; have HFJ := Lib.hid hfj; have HL2 := Lib.hid hlen2
      rw [hF]
      have hFl : (F.length : Int) ≤ 4611686018427387904 := by omega
      have hFn : (F.length : Int) < (l.length : Int) := by omega
      clear hF hrow hgr hfj
      by_cases hlt : jn < l.length
      · have hki : (jn : Int) < (l.length : Int) := by omega
        obtain ⟨d, hd⟩ : ∃ d, l[jn]? = some d := ⟨_, List.getElem?_eq_getElem hlt⟩
        have hR : (F ++ mid ++ l.drop jn)[jn]? = some d := by
          rw [List.getElem?_append_right (by rw [List.length_append]; omega), List.length_append, hlen2, Nat.sub_self, List.getElem?_drop, Nat.add_zero]; exact hd
        obtain ⟨y0, y1⟩ := row_get HROW.out hR
        have ha1 : wr.cell? ⟨a, 0, none⟩ = some (.int .i64 lo) := HGR.out.cell HA.out (fun e => HAV.out e.symm)
        have hb1 : wr.cell? ⟨b, 0, none⟩ = some (.int .i64 hi) := HGR.out.cell HB.out (fun e => HBV.out e.symm)
        have hbx := Below.alloc (Below.refl wr.heap.size wr) (Nat.le_refl _) (.cells #[.int .i64 d.pos, .string d.text] 56)
        have HA1 := Lib.hid (cell_stays hbx ha1); have HB1 := Lib.hid (cell_stays hbx hb1); have HBX := Lib.hid hbx
        have HD := Lib.hid hd; have HM1 := Lib.hid hm1
        clear ha1 hb1 hbx hd hR hm1 hlen2
        go_wp2_with fail
        refine (cut1_any lo hi d.pos d.text a b _ HA1.out HB1.out).mono ?_
        rintro e w2 ⟨rfl, hb⟩
        have z0 : w2.cell? ⟨wr.heap.size, 0, none⟩ = some (.int .i64 d.pos) := cell_stays hb (by simp)
        have z1 : w2.cell? ⟨wr.heap.size, 1, none⟩ = some (.string d.text) := cell_stays hb (by simp)
        have HBW := Lib.hid (btrans HBX.out hb)
        have HROW2 := Lib.hid (HROW.out.kept (row := none) (grown_of_below HBW.out none) (Classical.or_iff_not_imp_left.2 fun h => h))
        clear hb y0 y1
        cases hbe : inB lo hi d with
        | true =>
          have HE := Lib.hid hbe
          clear hbe
          go_wp2_with fail
          go_roundw
          case rel =>
            refine ⟨jn + 1, mid ++ [d], by have := HFJ.out; omega, by omega, by go_num, by rw [cut_snoc HD.out, HF.out, HE.out]; simp, by rw [cut_snoc HD.out, HF.out, HE.out]; simp; have := HL2.out; omega, by simp, ?_, grown_trans HGR.out (grown_of_below HBW.out _)⟩
            have e1 : cutL (l.take (jn + 1)) lo hi ++ (mid ++ [d]) ++ l.drop (jn + 1) = F ++ mid ++ l.drop jn := by
              obtain ⟨hk2, hx⟩ := List.getElem?_eq_some_iff.1 HD.out
              rw [cut_snoc HD.out, HF.out, HE.out, List.drop_eq_getElem_cons hk2, hx]; simp
            rw [e1]; exact HROW2.out
          case measure => simp [intOf]; omega
        | false =>
          have HE := Lib.hid hbe
          clear hbe
          obtain ⟨x, mid', rfl⟩ : ∃ x r, mid = x :: r := by
            cases mid with
            | nil => have := HM1.out; simp at this
            | cons x r => exact ⟨x, r, rfl⟩
          have hRi : (F ++ (x :: mid') ++ l.drop jn)[F.length]? = some x := by simp
          obtain ⟨y0, y1⟩ := row_get HROW2.out hRi
          have hf0 := ow_free HROW2.out (F.length * 2)
          have hf1 := ow_free HROW2.out (F.length * 2 + 1)
          have HRI := Lib.hid hRi; clear hRi
          go_wp2_with fail
          go_roundw
          case rel =>
            refine ⟨jn + 1, mid' ++ [d], by have := HFJ.out; omega, by omega, by go_num, by rw [cut_snoc HD.out, HF.out, HE.out]; simp, by rw [cut_snoc HD.out, HF.out, HE.out]; have := HL2.out; simp at this ⊢; omega, by simp, ?_, grown_trans (grown_trans (grown_trans HGR.out (grown_of_below HBW.out _)) (grown_setCell _ g _ _)) (grown_setCell _ g _ _)⟩
            have e1 : cutL (l.take (jn + 1)) lo hi ++ (mid' ++ [d]) ++ l.drop (jn + 1) = (F ++ (x :: mid') ++ l.drop jn).set F.length d := by
              obtain ⟨hk2, hx⟩ := List.getElem?_eq_some_iff.1 HD.out
              rw [cut_snoc HD.out, HF.out, HE.out, List.drop_eq_getElem_cons hk2, hx, List.append_assoc F (x :: mid'), List.set_append_right _ _ (Nat.le_refl _), Nat.sub_self]
              simp
            rw [e1]; exact row_set HROW2.out F.length x d HRI.out
          case measure => simp [intOf]; omega
      · obtain rfl : jn = l.length := by omega
        obtain ⟨cur, hcur, hcsz, hnc, hclr⟩ := ow_cleared HROW.out F.length (by omega)
        have hm1' : 1 ≤ mid.length := hm1
        obtain ⟨i0, hi0, hz0, hz1, hz2⟩ := info_parts infoB
        have hzl : (Builtin.zeroCells zB.cells (l.length - F.length)).toList.length = (l.length - F.length) * 2 := by rw [Array.length_toList, size_zeroCells]; rfl
        have hrun := run_clear_k (P := Tryd.prog) wr 39 0 56 zB g (F.length * 2) (l.length - F.length) (c - F.length) cur 56 Tryd.underlying39 (fun w => by simp [zeroValue, typeInfo, hi0, hz0, zB]) hcur (by omega) (by
          have : zB.cells.size = 2 := rfl
          rw [this, hcsz]; omega) (zB_one _)
        have hfin := hclr _ hzl wr rfl
        obtain ⟨A, hAe⟩ : ∃ A : Array Value, (cur.toList.take (F.length * 2) ++ (Builtin.zeroCells zB.cells (l.length - F.length)).toList ++ cur.toList.drop (F.length * 2 + (Builtin.zeroCells zB.cells (l.length - F.length)).toList.length)).toArray = A := ⟨_, rfl⟩
        rw [hAe] at hrun hfin
        have hgfin := grown_trans HGR.out (grown_setRow wr g A)
        have htk : (blkRows (F ++ mid ++ l.drop l.length)).flatten.take (F.length * 2) = (blkRows F).flatten := by
          rw [flat_take _ (blkRows_all _)]
          unfold blkRows
          rw [← List.map_take, List.append_assoc, List.take_append_of_le_length (Nat.le_refl _), List.take_length]
        rw [htk] at hfin
        have HFIN := Lib.hid hfin; have HGF := Lib.hid hgfin; have HRUN := Lib.hid hrun
        have hFc : ¬ (c = F.length) := by omega
        have hFcc : (F.length : Int) ≤ (c : Int) := by omega
        clear hAe hcur hcsz hclr hi0 hz0 hz1 hz2 hzl hrun hfin hgfin htk hm1'
        go_wp2_with fail
        rw [HRUN.out]
        go_wp2_with fail
        go_ret
        exact ⟨_, rfl, by
          have e1 : cutL l lo hi = F := by rw [← HF.out, List.take_length]
          rw [e1]; exact HFIN.out, HGF.out⟩
  · rw [if_neg hf]
    have HC := Lib.hid (cut_none hf)
    have HBW := Lib.hid hb
    clear hf hb
    go_wp2_with fail
    go_ret
    exact ⟨_, rfl, by rw [HC.out]; exact HO.out.kept (row := none) (grown_of_below HBW.out none) (Classical.or_iff_not_imp_left.2 fun h => h), grown_of_below HBW.out _⟩

set_option maxRecDepth 100000 in
set_option maxHeartbeats 1000000 in
theorem without_any (G : Nat) (l : List BlkD) (v : Value) (lo hi : Int) (w : World) (hown : w.ownsRow G 56 2 v l.length (blkRows l).flatten) (hn : l.length ≤ 100000) :
    Calls Tryd.prog 24 #[v, .int .i64 lo, .int .i64 hi] w (DelEnd G l lo hi v w) := by
  have hmf := makeFunc_runM
  have HO := Lib.hid hown; have HN := Lib.hid hn
  have hbx : Below w.heap.size w ((w.alloc (.cells #[.int .i64 lo] 3)).alloc (.cells #[.int .i64 hi] 3)) := ((Below.refl w.heap.size w).alloc (Nat.le_refl _) _).alloc (by simp) _
  have HBX := Lib.hid hbx
  obtain ⟨p, c, hv, _⟩ := blks_of_own hown
  subst hv
  clear hown hn hbx
  go_enter Tryd.func24, Tryd.ntmps24
  go_wp2_with fail
  refine (deleteFunc_any G l _ lo hi w.heap.size (w.heap.size + 1) _ (HO.out.kept (row := none) (grown_of_below HBX.out none) (Classical.or_iff_not_imp_left.2 fun h => h)) HN.out (by simp) (by simp) (fun e => by have := (HO.out.lt _ e).2; omega) (fun e => by have := (HO.out.lt _ e).2; omega)).mono ?_
  rintro e w1 ⟨v', rfl, hown, hg⟩
  have HO1 := Lib.hid hown; have HG := Lib.hid (grown_trans (grown_of_below HBX.out _) hg); clear hown hg
  go_wp2_with fail
  go_ret
  exact ⟨v', rfl, HO1.out, HG.out⟩
end Go.Proofs.YtgabifkechofnaaDoor
