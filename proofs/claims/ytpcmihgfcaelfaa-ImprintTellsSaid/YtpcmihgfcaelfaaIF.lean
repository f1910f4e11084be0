/- The walk of the program's checker of trees: a leaf. · The walk of the program's checker of trees: a node; May. · The walks of slices.Index at ints and of the program's Get of the greatest key. · A range over a function whose iterator makes memory of its own between the rounds and reads it again: the law. The blocks that are the iterator's are named (M); a round keeps them. No program in sight. -/
import Derived.Test.YtpcmihgfcaelfaaIE
import Derived.Deep.Cut
import Derived.Deep.CutRange
import Derived.Deep.LoopGhost
import Derived.RangeFuncWrites
import Derived.RangeFuncBox
import Derived.RangeFuncLeaves
import Derived.Maps.AppendAt
import Derived.OwnWalkIn
namespace Go.Proofs.Ytpcmihgfcaelfaa
open Go.RowKit

/-- the checker in memory -/
def CkAt (w : World) (c : Nat) (s : CkS) : Prop := w.heap[c]? = some (.cells #[.int .i64 s.1, .bool s.2.1, .int .i64 s.2.2] 112 (0, 0))
theorem CkAt.lt {w : World} {c : Nat} {s : CkS} (h : CkAt w c s) : c < w.heap.size := (Array.getElem?_eq_some_iff.1 h).1
theorem CkAt.c0 {w : World} {c : Nat} {s : CkS} (h : CkAt w c s) : w.cell? ⟨c, 0, none⟩ = some (.int .i64 s.1) := by unfold CkAt at h; simp [World.cell?, h]
theorem CkAt.c1 {w : World} {c : Nat} {s : CkS} (h : CkAt w c s) : w.cell? ⟨c, 1, none⟩ = some (.bool s.2.1) := by unfold CkAt at h; simp [World.cell?, h]
theorem CkAt.c2 {w : World} {c : Nat} {s : CkS} (h : CkAt w c s) : w.cell? ⟨c, 2, none⟩ = some (.int .i64 s.2.2) := by unfold CkAt at h; simp [World.cell?, h]
theorem CkAt.fr {w : World} {c : Nat} {s : CkS} (h : CkAt w c s) (j : Nat) : w.frozen? ⟨c, j, none⟩ = false := by unfold CkAt at h; simp [World.frozen?, h]
theorem CkAt.set0 {w : World} {c : Nat} {s : CkS} (h : CkAt w c s) (d : Int) : CkAt (w.setCell ⟨c, 0, none⟩ (.int .i64 d)) c (d, s.2) := by
  unfold CkAt at h ⊢; rw [setCell_eq_setRow w c 0 _ _ _ _ h, setRow_heap w c _ _ _ _ h]; rfl
theorem CkAt.set1 {w : World} {c : Nat} {s : CkS} (h : CkAt w c s) (b : Bool) : CkAt (w.setCell ⟨c, 1, none⟩ (.bool b)) c (s.1, (b, s.2.2)) := by
  unfold CkAt at h ⊢; rw [setCell_eq_setRow w c 1 _ _ _ _ h, setRow_heap w c _ _ _ _ h]; rfl
theorem CkAt.set2 {w : World} {c : Nat} {s : CkS} (h : CkAt w c s) (k : Int) : CkAt (w.setCell ⟨c, 2, none⟩ (.int .i64 k)) c (s.1, (s.2.1, k)) := by
  unfold CkAt at h ⊢; rw [setCell_eq_setRow w c 2 _ _ _ _ h, setRow_heap w c _ _ _ _ h]; rfl
theorem CkAt.grown {w w' : World} {c : Nat} {s : CkS} {row : Option Nat} (h : CkAt w c s) (hg : w.grownBy w' row) (hne : some c ≠ row) : CkAt w' c s := by
  unfold CkAt at h ⊢; rw [hg.block c (Array.getElem?_eq_some_iff.1 h).1 hne]; exact h
theorem grown_set (w : World) (c j : Nat) (v : Value) : w.grownBy (w.setCell ⟨c, j, none⟩ v) (some c) := by
  refine ⟨rfl, rfl, rfl, by simp, fun k hk hne => ?_⟩
  have : k ≠ c := fun e => hne (by rw [e])
  exact Below.heap_setCell _ _ _ k this
theorem drew_grown (w : World) (row : Option Nat) : w.grownBy w.drew row := ⟨rfl, rfl, rfl, Nat.le_refl _, fun _ _ _ => rfl⟩
theorem grown_drewN (w : World) (q : Nat) (row : Option Nat) : w.grownBy (w.drewN q) row := ⟨rfl, rfl, rfl, Nat.le_refl _, fun _ _ _ => rfl⟩
theorem grown_below {w w' : World} {c : Nat} (h : w.grownBy w' (some c)) (hc : c ≤ w.heap.size) : Below c w w' := ⟨h.os, h.tape, h.output, h.size, fun k hk => h.block k (by omega) (fun e => by injection e with e; omega)⟩
abbrev offC (c : Nat) : Nat → Prop := fun b => b ≠ c
theorem node_grown {w w' : World} {c : Nat} {t : NodeD} {x y z : Value} (h : NodeAt (mask (offC c) w) t x y z) (hg : w.grownBy w' (some c)) : NodeAt (mask (offC c) w') t x y z :=
  h.keep (mask_keeps fun a v hf hv => ⟨hf, hg.cell hv (fun e => hf (by injection e))⟩)

/-- what the checker leaves, if it goes on -/
def CkPost (o : Option CkS) (c : Nat) (w w' : World) : Prop := (∀ s', o = some s' → CkAt w' c s') ∧ w.grownBy w' (some c)
theorem CkPost.no {c : Nat} {w w' : World} (h : w.grownBy w' (some c)) : CkPost none c w w' := ⟨fun _ h => (by cases h), h⟩
theorem CkPost.yes {c : Nat} {w w' : World} {s : CkS} (hs : CkAt w' c s) (h : w.grownBy w' (some c)) : CkPost (some s) c w w' := ⟨fun _ h => (by cases h; exact hs), h⟩
theorem masked {w : World} {c : Nat} {a : Addr} {v : Value} (h : (mask (offC c) w).cell? a = some v) : a.block ≠ c ∧ w.cell? a = some v := mask_cell.1 h
set_option maxRecDepth 100000 in
set_option maxHeartbeats 4000000 in
theorem leaf_any (ks vs : List Int) (kids : List NodeD) (x y z : Value) (c : Nat) (s : CkS) (depth : Int) (w : World) (hn : NodeAt (mask (offC c) w) (.mk ks vs kids) x y z) (hc : CkAt w c s) :
    Calls Try.prog 92 #[.pointer (some ⟨c, 0, none⟩), .agg #[x, y, z], .int .i64 depth] w fun e w' => e = .returned (.bool (leafS ks vs depth s).isSome) ∧ CkPost (leafS ks vs depth s) c w w' := by
  obtain ⟨⟨pa, ca, rfl, a1, a2, ha⟩, ⟨pb, cb, rfl, b1, b2, _⟩, ⟨pc, cc, rfl, _, _, _⟩⟩ := nodeAt_iff.1 hn
  simp only [NodeD.keys, NodeD.vals, NodeD.kids] at a1 b1 ha ⊢
  obtain ⟨K, hK⟩ : ∃ K, ks.length = K := ⟨_, rfl⟩
  obtain ⟨M, hM⟩ : ∃ M, vs.length = M := ⟨_, rfl⟩
  obtain ⟨N, hN⟩ : ∃ N, kids.length = N := ⟨_, rfl⟩
  rw [hK] at a1 ⊢; rw [hM] at b1 ⊢; rw [hN]
  have hla : (K : Int) ≤ 9223372036854775807 := by unfold maxLen at a2; omega
  have hlb : (M : Int) ≤ 9223372036854775807 := by unfold maxLen at b2; omega
  have HKL := Lib.hid hK; have HML := Lib.hid hM; have HAK := Lib.hid ha; have HC := Lib.hid hc
  have hclt := hc.lt
  have hcn : c ≠ w.heap.size := by omega
  have hL : leafS ks vs depth s = if M = K ∧ (s.1 = 0 ∨ s.1 = depth) then (keysS ks s.2).map fun q => (depth, q) else none := by unfold leafS; rw [hK, hM]
  have HL := Lib.hid hL
  have hg0 : w.grownBy (w.alloc (.cells #[.slice pa K ca, .slice pb M cb, .slice pc N cc] 43)) (some c) := World.grownBy_alloc _ _ _
  have HG0 := Lib.hid hg0
  have HC0 := Lib.hid (hc.grown (World.grownBy_alloc w (.cells #[.slice pa K ca, .slice pb M cb, .slice pc N cc] 43) none) (by simp))
  clear hn ha a1 a2 b1 b2 hK hM hN hL hg0 hc
  by_cases hv : M = K
  case neg =>
    have hne : ((M : Int) != (K : Int)) = true := by rw [bne_iff_ne]; omega
    have HF := Lib.hid (show leafS ks vs depth s = none by rw [HL.out, if_neg (fun h => hv h.1)])
    clear hv
    go_enter Try.func92, Try.ntmps92
    go_wp2_with fail
    go_ret
    exact ⟨retB (by rw [HF.out]; rfl), by rw [HF.out]; exact CkPost.no HG0.out⟩
  have hne : ((M : Int) != (K : Int)) = false := by rw [hv]; simp
  have q0 := HC0.out.c0
  have qf := HC0.out.fr 0
  by_cases hs : s.1 = 0 ∨ s.1 = depth
  case neg =>
    have HF := Lib.hid (show leafS ks vs depth s = none by rw [HL.out, if_neg (fun h => hs h.2)])
    have hz : (s.1 == 0) = false := by rw [beq_eq_false_iff_ne]; exact fun h => hs (.inl h)
    have hz2 : (s.1 != depth) = true := by rw [bne_iff_ne]; exact fun h => hs (.inr h)
    clear hv hs
    go_enter Try.func92, Try.ntmps92
    go_wp2_with fail
    go_ret
    exact ⟨retB (by rw [HF.out]; rfl), by rw [HF.out]; exact CkPost.no HG0.out⟩
  have HF := Lib.hid (show leafS ks vs depth s = (keysS ks s.2).map fun q => (depth, q) by rw [HL.out, if_pos ⟨hv, hs⟩])
  subst hv
  have hz2 : (depth != depth) = false := by simp
  have HS := Lib.hid hs
  clear hs
  have hor : (s.1 = 0) ∨ ((s.1 == 0) = false ∧ s.1 = depth) := by
    by_cases h0 : s.1 = 0
    · exact .inl h0
    · refine .inr ⟨by simpa using h0, ?_⟩
      rcases HS.out with h | h
      · exact absurd h h0
      · exact h
  have HX0 := Lib.hid (show NBox w.heap.size (.slice pa M ca) (.slice pb M cb) (.slice pc N cc) (w.alloc (.cells #[.slice pa M ca, .slice pb M cb, .slice pc N cc] 43)) from ⟨by simp, by simp, by simp⟩)
  obtain ⟨WA, hWA⟩ : ∃ W, w.alloc (.cells #[.slice pa M ca, .slice pb M cb, .slice pc N cc] 43) = W := ⟨_, rfl⟩
  rw [hWA] at HX0 HC0 HG0 q0 qf
  have HWA := Lib.hid hWA
  clear hWA hne
  obtain ⟨x0, x1, x2⟩ := HX0.out
  have hlx := World.block_lt_of_cell? _ _ x0
  have HOR := Lib.hid hor; clear hor
  go_enter Try.func92, Try.ntmps92
  go_upto_region 1 with fail
  rw [HWA.out]
  go_upto_if 20 with fail
  go_cut [] from 20 to 24 (fun wx => CkAt wx c (depth, s.2) ∧ w.grownBy wx (some c) ∧ NBox w.heap.size (.slice pa M ca) (.slice pb M cb) (.slice pc N cc) wx)
  case first =>
    rcases HOR.out with h0 | ⟨h0, h1⟩
    · have hz : (s.1 == 0) = true := by rw [h0]; rfl
      clear h0
      go_wp2_with fail
      go_meet
      case rel => exact ⟨HC0.out.set0 depth, HG0.out.trans (grown_set WA c 0 (.int .i64 depth)), HX0.out.grown (grown_set WA c 0 (.int .i64 depth)) (by intro e; injection e with e; omega)⟩
    · have HH := Lib.hid h1
      clear h1
      go_wp2_with fail
      go_meet
      case rel =>
        refine ⟨?_, HG0.out, HX0.out⟩
        have := HC0.out
        rw [show s = (depth, s.2) from Prod.ext HH.out rfl] at this
        exact this
  case rest =>
    obtain ⟨hc1, hg1, hx1⟩ := hcut
    have HC1 := Lib.hid hc1; have HG1 := Lib.hid hg1; have HX1 := Lib.hid hx1
    clear hc1 hg1 x0 x1 x2 hlx q0 qf HC0 HG0 HX0 HWA HOR
    obtain ⟨x0, x1, x2⟩ := hx1
    have hlx := World.block_lt_of_cell? _ _ x0
    have q0 := HC1.out.c0
    simp only at q0
    go_wp2_with fail
    go_loopw [34, 8] (fun i _ wr => ∃ (k : Nat) (st : KeyS), k ≤ M ∧ i = .int .i64 k ∧ keysS ks s.2 = keysS (ks.drop k) st ∧ CkAt wr c (depth, st) ∧ w.grownBy wr (some c)) (fun i _ _ => M - (intOf i).toNat)
    case atStart => exact ⟨0, s.2, Nat.zero_le _, rfl, by rw [List.drop_zero], HC1.out, HG1.out⟩
    case round =>
      clear x0 x1 x2 hlx q0
      obtain ⟨k, st, hk, rfl, hks, hck, hgr⟩ := hrel
      have HK := Lib.hid hks; have HCK := Lib.hid hck; have HGR := Lib.hid hgr
      clear hks hck hgr
      by_cases hlt : k < M
      case neg =>
        obtain rfl : k = M := by omega
        have HS := Lib.hid (show leafS ks vs depth s = some (depth, st) by rw [HF.out, HK.out, List.drop_of_length_le (by rw [HKL.out]; exact Nat.le_refl _)]; rfl)
        go_wp2_with fail
        go_ret
        exact ⟨retB (by rw [HS.out]; rfl), by rw [HS.out]; exact CkPost.yes HCK.out HGR.out⟩
      have hki : (k : Int) < (M : Int) := by omega
      obtain ⟨y, hy⟩ : ∃ y, ks[k]? = some y := ⟨_, List.getElem?_eq_getElem (by rw [HKL.out]; exact hlt)⟩
      obtain ⟨_, ga, oa, rfl, hya⟩ := HAK.out k y hy
      obtain ⟨hne, hya⟩ := masked hya
      have ry := HGR.out.cell hya (fun e => hne (by injection e))
      have hd : ks.drop k = y :: ks.drop (k + 1) := by
        obtain ⟨hk2, hx⟩ := List.getElem?_eq_some_iff.1 hy
        rw [List.drop_eq_getElem_cons hk2, hx]
      have HD := Lib.hid hd; have HNE := Lib.hid hne
      obtain ⟨bg, la⟩ := st
      have p1 := HCK.out.c1; have p2 := HCK.out.c2; have f1 := HCK.out.fr 1; have f2 := HCK.out.fr 2
      simp only at p1 p2
      clear hy hd hya hne
      by_cases hstop : bg = true ∧ y ≤ la
      · obtain ⟨rfl, hyl⟩ := hstop
        have HS := Lib.hid (show leafS ks vs depth s = none by rw [HF.out, HK.out, HD.out]; simp only [keysS]; rw [if_pos ⟨trivial, hyl⟩]; rfl)
        have hdb : decide (y ≤ la) = true := decide_eq_true hyl
        go_wp2_with fail
        go_ret
        exact ⟨retB (by rw [HS.out]; rfl), by rw [HS.out]; exact CkPost.no HGR.out⟩
      · have HS := Lib.hid (show keysS ks s.2 = keysS (ks.drop (k + 1)) (true, y) by rw [HK.out, HD.out]; simp only [keysS]; rw [if_neg hstop])
        have hb : bg = false ∨ (bg = true ∧ decide (y ≤ la) = false) := by
          cases bg
          · exact .inl rfl
          · exact .inr ⟨rfl, decide_eq_false (fun h => hstop ⟨rfl, h⟩)⟩
        clear hstop
        rcases hb with rfl | ⟨rfl, hdb⟩
        all_goals
          go_wp2_with fail
          go_roundw
          case rel => exact ⟨k + 1, (true, y), by omega, by go_num, HS.out, (HCK.out.set1 true).set2 y, (HGR.out.trans (grown_set _ c 1 _)).trans (grown_set _ c 2 _)⟩
          case measure => simp [intOf]; omega
end Go.Proofs.Ytpcmihgfcaelfaa
namespace Go.Proofs.Ytpcmihgfcaelfaa
open Go.RowKit

theorem kidsS_no {u : NodeD} {us : List NodeD} {y : Int} {ys : List Int} {depth : Int} {st : CkS} (h : u.keys.length = 0 ∨ u.keys.head? ≠ some y) : kidsS (u :: us) (y :: ys) depth st = none := by
  simp only [kidsS]; exact if_pos h
theorem kidsS_stop {u : NodeD} {us : List NodeD} {y : Int} {ys : List Int} {depth : Int} {st : CkS} (h : nodeS u (depth + 1) st = none) : kidsS (u :: us) (y :: ys) depth st = none := by
  simp only [kidsS]; rw [h]; split <;> rfl
theorem kidsS_on {u : NodeD} {us : List NodeD} {y : Int} {ys : List Int} {depth : Int} {st st' : CkS} (h1 : u.keys.length ≠ 0) (h2 : u.keys.head? = some y) (h : nodeS u (depth + 1) st = some st') : kidsS (u :: us) (y :: ys) depth st = kidsS us ys depth st' := by
  simp only [kidsS]; rw [h]; exact if_neg (by rintro (e | e); exact h1 e; exact e h2)
theorem box_grown {b c : Nat} {x y z : Value} {W W' : World} (h : NBox b x y z W) (hg : W.grownBy W' (some c)) (hne : b ≠ c) : NBox b x y z W' := h.grown hg (fun e => hne (by injection e))
set_option maxRecDepth 100000 in
set_option maxHeartbeats 8000000 in
theorem node_any (t : NodeD) : ∀ (x y z : Value) (c : Nat) (s : CkS) (depth : Int) (w : World), NodeAt (mask (offC c) w) t x y z → CkAt w c s → 1 ≤ depth → depth ≤ 41 →
    Calls Try.prog 76 #[.pointer (some ⟨c, 0, none⟩), .agg #[x, y, z], .int .i64 depth] w fun e w' => e = .returned (.bool (nodeS t depth s).isSome) ∧ CkPost (nodeS t depth s) c w w' := by
  induction t using NodeD.ind with
  | h ks vs kids ih =>
    intro x y z c s depth w hn hc hd1 hd2
    have HIH := Lib.hid ih; clear ih
    have HNN := Lib.hid hn
    obtain ⟨⟨pa, ca, rfl, a1, a2, ha⟩, ⟨pb, cb, rfl, b1, b2, _⟩, ⟨pc, cc, rfl, c1, c2, hk⟩⟩ := nodeAt_iff.1 hn
    simp only [NodeD.keys, NodeD.vals, NodeD.kids] at a1 b1 c1 ha hk HNN ⊢
    have HK := Lib.hid hk; have HAK := Lib.hid ha; clear hk hn ha
    obtain ⟨K, hK⟩ : ∃ K, ks.length = K := ⟨_, rfl⟩
    obtain ⟨M, hM⟩ : ∃ M, vs.length = M := ⟨_, rfl⟩
    obtain ⟨N, hN⟩ : ∃ N, kids.length = N := ⟨_, rfl⟩
    rw [hK] at a1 HNN ⊢; rw [hM] at b1 HNN ⊢; rw [hN] at c1 HNN ⊢
    have hla : (K : Int) ≤ 9223372036854775807 := by unfold maxLen at a2; omega
    have hlb : (M : Int) ≤ 9223372036854775807 := by unfold maxLen at b2; omega
    have hlc : (N : Int) ≤ 9223372036854775807 := by unfold maxLen at c2; omega
    have HKL := Lib.hid hK; have HML := Lib.hid hM; have HNL := Lib.hid hN
    have HS0 := Lib.hid (show nodeS (.mk ks vs kids) depth s = if depth > 40 ∨ K > 4 ∨ (depth > 1 ∧ K < 2) then none else if N = 0 then leafS ks vs depth s else if M ≠ 0 ∨ N ≠ K ∨ N < 2 then none else kidsS kids ks depth s by simp only [nodeS]; rw [hK, hM, hN])
    have hclt := hc.lt
    have hcn : c ≠ w.heap.size := by omega
    have hg0 : w.grownBy (w.alloc (.cells #[.slice pa K ca, .slice pb M cb, .slice pc N cc] 43)) (some c) := World.grownBy_alloc _ _ _
    have HG0 := Lib.hid hg0
    have HC0 := Lib.hid (hc.grown (World.grownBy_alloc w (.cells #[.slice pa K ca, .slice pb M cb, .slice pc N cc] 43) none) (by simp))
    have HN0 := Lib.hid (node_grown HNN.out hg0)
    clear a1 b1 c1 a2 b2 c2 hK hM hN hg0 hc
    by_cases hA : depth > 40 ∨ K > 4 ∨ (depth > 1 ∧ K < 2)
    · have HF := Lib.hid (show nodeS (.mk ks vs kids) depth s = none by rw [HS0.out, if_pos hA])
      have hcases : (decide (40 < depth) = true) ∨ (decide (40 < depth) = false ∧ decide (4 < K) = true) ∨ (decide (40 < depth) = false ∧ decide (4 < K) = false ∧ decide (1 < depth) = true ∧ decide (K < 2) = true) := by
        simp only [decide_eq_true_eq, decide_eq_false_iff_not]; omega
      clear hA
      rcases hcases with h1 | ⟨h1, h2⟩ | ⟨h1, h2, h3, h4⟩
      · go_enter Try.func76, Try.ntmps76
        go_wp2_with fail
        go_ret
        exact ⟨retB (by rw [HF.out]; rfl), by rw [HF.out]; exact CkPost.no HG0.out⟩
      · have h2' : (4 : Int) < (K : Int) := by simp only [decide_eq_true_eq] at h2; omega
        go_enter Try.func76, Try.ntmps76
        go_wp2_with fail
        go_ret
        exact ⟨retB (by rw [HF.out]; rfl), by rw [HF.out]; exact CkPost.no HG0.out⟩
      · have h2' : ¬ (4 : Int) < (K : Int) := by simp only [decide_eq_false_iff_not] at h2; omega
        have h4' : (K : Int) < 2 := by simp only [decide_eq_true_eq] at h4; omega
        go_enter Try.func76, Try.ntmps76
        go_wp2_with fail
        go_ret
        exact ⟨retB (by rw [HF.out]; rfl), by rw [HF.out]; exact CkPost.no HG0.out⟩
    have HS1 := Lib.hid (show nodeS (.mk ks vs kids) depth s = if N = 0 then leafS ks vs depth s else if M ≠ 0 ∨ N ≠ K ∨ N < 2 then none else kidsS kids ks depth s by rw [HS0.out, if_neg hA])
    have h1 : decide (40 < depth) = false := by rw [decide_eq_false_iff_not]; omega
    have h2' : ¬ (4 : Int) < (K : Int) := by omega
    have h3 : (decide (1 < depth) = false) ∨ (decide (1 < depth) = true ∧ ¬ (K : Int) < 2) := by
      by_cases h : 1 < depth
      · exact .inr ⟨decide_eq_true h, by omega⟩
      · exact .inl (decide_eq_false h)
    have hd40 : depth ≤ 40 := by omega
    have H3 := Lib.hid h3
    clear hA HS0 h3
    go_enter Try.func76, Try.ntmps76
    go_upto_region 1 with fail
    obtain ⟨WA, hWA⟩ : ∃ W, w.alloc (.cells #[.slice pa K ca, .slice pb M cb, .slice pc N cc] 43) = W := ⟨_, rfl⟩
    have HX0 := Lib.hid (show NBox w.heap.size (.slice pa K ca) (.slice pb M cb) (.slice pc N cc) WA by rw [← hWA]; exact ⟨by simp, by simp, by simp⟩)
    rw [hWA] at HC0 HG0 HN0 ⊢
    clear hWA
    obtain ⟨x0, x1, x2⟩ := HX0.out
    have hlx := World.block_lt_of_cell? _ _ x0
    go_cut [26] from 9 to 25 (fun v wx => v = .bool false ∧ wx = WA)
    case first =>
      rcases H3.out with h3 | ⟨h3, h4⟩
      all_goals
        go_wp2_with fail
        go_meet
        case rel => exact ⟨rfl, rfl⟩
    case rest =>
    obtain ⟨rfl, rfl⟩ := hcut
    have HBN := HX0
    by_cases hB : N = 0
    · have hz : ((N : Int) == 0) = true := by rw [hB]; rfl
      have HF := Lib.hid (show nodeS (.mk ks vs kids) depth s = leafS ks vs depth s by rw [HS1.out, if_pos hB])
      clear hB
      go_wp2_with fail
      refine (leaf_any ks vs kids _ _ _ c s depth _ HN0.out HC0.out).mono ?_
      rintro e w1 ⟨rfl, hp⟩
      have HP := Lib.hid hp; clear hp
      obtain ⟨Z, hZ⟩ : ∃ Z, (leafS ks vs depth s).isSome = Z := ⟨_, rfl⟩
      rw [hZ]
      have HZ := Lib.hid hZ; clear hZ
      go_wp2_with fail
      go_ret
      exact ⟨retB (by rw [HF.out]; exact HZ.out.symm), by rw [HF.out]; exact ⟨HP.out.1, HG0.out.trans HP.out.2⟩⟩
    have hz : ((N : Int) == 0) = false := by rw [beq_eq_false_iff_ne]; omega
    by_cases hC : M ≠ 0 ∨ N ≠ K ∨ N < 2
    · have HF := Lib.hid (show nodeS (.mk ks vs kids) depth s = none by rw [HS1.out, if_neg hB, if_pos hC])
      have hcases : ((M : Int) != 0) = true ∨ (((M : Int) != 0) = false ∧ ((N : Int) != (K : Int)) = true) ∨ (((M : Int) != 0) = false ∧ ((N : Int) != (K : Int)) = false ∧ (N : Int) < 2) := by
        simp only [bne_iff_ne, bne_eq_false_iff_eq, ne_eq]; omega
      clear hC hB
      rcases hcases with h1 | ⟨h1, h2⟩ | ⟨h1, h2, h3⟩
      all_goals
        go_wp2_with fail
        go_ret
        exact ⟨retB (by rw [HF.out]; rfl), by rw [HF.out]; exact CkPost.no HG0.out⟩
    have HF := Lib.hid (show nodeS (.mk ks vs kids) depth s = kidsS kids ks depth s by rw [HS1.out, if_neg hB, if_neg hC])
    have hm0 : ((M : Int) != 0) = false := by rw [bne_eq_false_iff_eq]; omega
    have hnk : ((N : Int) != (K : Int)) = false := by rw [bne_eq_false_iff_eq]; omega
    have hn2 : ¬ (N : Int) < 2 := by omega
    have hNK : N = K := by omega
    have HNK := Lib.hid hNK
    clear hB hC hNK HS1 h1 h2'
    go_wp2_with fail
    go_loopw [57, 7, 8] (fun i _ _ wr => ∃ (k : Nat) (st : CkS), k ≤ N ∧ i = .int .i64 k ∧ kidsS kids ks depth s = kidsS (kids.drop k) (ks.drop k) depth st ∧ CkAt wr c st ∧ NBox w.heap.size (.slice pa K ca) (.slice pb M cb) (.slice pc N cc) wr ∧ NodeAt (mask (offC c) wr) (.mk ks vs kids) (.slice pa K ca) (.slice pb M cb) (.slice pc N cc) ∧ w.grownBy wr (some c)) (fun i _ _ _ => N - (intOf i).toNat)
    case atStart => exact ⟨0, s, Nat.zero_le _, rfl, by rw [List.drop_zero, List.drop_zero], HC0.out, HX0.out, HN0.out, HG0.out⟩
    case round =>
      clear x0 x1 x2 hlx hz
      obtain ⟨k, st, hk, rfl, hks, hck, hbx, hnn, hgr⟩ := hrel
      have HKS := Lib.hid hks; have HCK := Lib.hid hck; have HGR := Lib.hid hgr; have HX := Lib.hid hbx; have HNR := Lib.hid hnn
      clear hks hck hgr hnn
      obtain ⟨x0, x1, x2⟩ := hbx
      have hlx := World.block_lt_of_cell? _ _ x0
      simp only at hlx
      by_cases hlt : k < N
      case neg =>
        obtain rfl : k = N := by omega
        have HS := Lib.hid (show nodeS (.mk ks vs kids) depth s = some st by rw [HF.out, HKS.out, List.drop_of_length_le (by rw [HNL.out]; exact Nat.le_refl _)]; simp only [kidsS])
        go_wp2_with fail
        go_ret
        exact ⟨retB (by rw [HS.out]; rfl), by rw [HS.out]; exact CkPost.yes HCK.out HGR.out⟩
      have hki : (k : Int) < (N : Int) := by omega
      have hkk : (k : Int) < (K : Int) := by have := HNK.out; omega
      obtain ⟨u, hu⟩ : ∃ u, kids[k]? = some u := ⟨_, List.getElem?_eq_getElem (by rw [HNL.out]; exact hlt)⟩
      obtain ⟨y, hy⟩ : ∃ y, ks[k]? = some y := ⟨_, List.getElem?_eq_getElem (by rw [HKL.out]; omega)⟩
      have hdk : kids.drop k = u :: kids.drop (k + 1) := by
        obtain ⟨hk2, hx⟩ := List.getElem?_eq_some_iff.1 hu
        rw [List.drop_eq_getElem_cons hk2, hx]
      have hdy : ks.drop k = y :: ks.drop (k + 1) := by
        obtain ⟨hk2, hx⟩ := List.getElem?_eq_some_iff.1 hy
        rw [List.drop_eq_getElem_cons hk2, hx]
      have hks2 := HKS.out
      rw [hdk, hdy] at hks2
      have HK2 := Lib.hid hks2
      obtain ⟨⟨p1, c1, hp1, _, _, hak⟩, _, p3, c3, hp3, _, _, hkk3⟩ := nodeAt_iff.1 HNR.out
      simp only [NodeD.keys, NodeD.kids] at hp1 hak hp3 hkk3
      obtain ⟨g, o, a, b, d, hpc, e1, e2, e3, e4⟩ := hkk3 k u hu
      injection hp3 with hp3 hpx1 hpx2
      rw [← hp3] at hpc; subst hpc
      obtain ⟨_, ga, oa, hpa, hya⟩ := hak k y hy
      injection hp1 with hp1 hpy1 hpy2
      rw [← hp1] at hpa; subst hpa
      obtain ⟨pu, nu, cu, pv, nv, cv, pw, nw, cw, rfl, rfl, rfl⟩ := node_slices e4
      obtain ⟨⟨pu', cu', hpu, hu1, hu2, huk⟩, _⟩ := nodeAt_iff.1 e4
      injection hpu with hpu1 hpu2 hpu3
      subst hpu1 hpu2 hpu3
      have r1 := (masked e1).2; have r2 := (masked e2).2; have r3 := (masked e3).2; have ry := (masked hya).2
      have hne_g := (masked e1).1; have hne_a := (masked hya).1
      simp only at hne_g hne_a
      have HNU := Lib.hid e4; have HM := Lib.hid (List.mem_of_getElem? hu)
      have HUK := Lib.hid huk
      have hglt := World.block_lt_of_cell? _ _ r1
      have halt := World.block_lt_of_cell? _ _ ry
      simp only at hglt halt
      obtain ⟨KU, hKU⟩ : ∃ KU, u.keys.length = KU := ⟨_, rfl⟩
      rw [hKU] at hu1 HNU r1
      have HKU := Lib.hid hKU
      have hkl : (KU : Int) ≤ 9223372036854775807 := by unfold maxLen at hu2; omega
      have HB1 := Lib.hid (show Below wr.heap.size wr (wr.alloc (.cells #[.slice pu KU cu, .slice pv nv cv, .slice pw nw cw] 43)) from (Below.refl _ _).alloc (Nat.le_refl _) _)
      have HY := Lib.hid hy
      obtain ⟨W1, hW1⟩ : ∃ W, wr.alloc (.cells #[.slice pu KU cu, .slice pv nv cv, .slice pw nw cw] 43) = W := ⟨_, rfl⟩
      have HXK := Lib.hid (show NBox wr.heap.size (.slice pu KU cu) (.slice pv nv cv) (.slice pw nw cw) W1 by rw [← hW1]; exact ⟨by simp, by simp, by simp⟩)
      have HGA := Lib.hid (show wr.grownBy W1 (some c) by rw [← hW1]; exact World.grownBy_alloc _ _ _)
      rw [hW1] at HB1
      have HW1 := Lib.hid hW1
      have s0 := cell_stays HB1.out x0; have sy := cell_stays HB1.out ry
      obtain ⟨k0, k1, k2⟩ := HXK.out
      have hcl2 := HCK.out.lt
      clear hpx1 hpx2 hpy1 hpy2
      clear hu hy hdk hdy hks2 hp1 hp3 hak hkk3 e1 e2 e3 e4 hya huk hKU hW1 hu1 hu2
      go_upto_region 10 with fail
      rw [HW1.out]
      clear r1 r2 r3 ry x0 x1 x2
      rcases Nat.eq_zero_or_pos KU with hz0 | hz0
      · have HS := Lib.hid (show nodeS (.mk ks vs kids) depth s = none by rw [HF.out, HK2.out, kidsS_no (Or.inl (by rw [HKU.out]; exact hz0))])
        have hzb : ((KU : Int) == 0) = true := by rw [hz0]; rfl
        clear hz0
        go_quiet (fail)
        go_wp2_with fail
        go_ret
        exact ⟨retB (by rw [HS.out]; rfl), by rw [HS.out]; exact CkPost.no ((HGR.out.trans HGA.out).trans (grown_drewN _ _ _))⟩
      have hzb : ((KU : Int) == 0) = false := by rw [beq_eq_false_iff_ne]; omega
      have hk0i : (0 : Int) < (KU : Int) := by omega
      obtain ⟨h, hh⟩ : ∃ h, u.keys[0]? = some h := ⟨_, List.getElem?_eq_getElem (by rw [HKU.out]; exact hz0)⟩
      obtain ⟨_, gh, oh, rfl, hhc⟩ := HUK.out 0 h hh
      simp only [Nat.add_zero] at hhc
      have sh := cell_stays HB1.out (masked hhc).2
      have hne_h := (masked hhc).1
      simp only at hne_h
      have HHH := Lib.hid (show u.keys.head? = some h by rw [List.head?_eq_getElem?]; exact hh)
      clear hh hhc
      by_cases hxe : h = y
      case neg =>
        have hxb : (h != y) = true := by rw [bne_iff_ne]; exact hxe
        have HS := Lib.hid (show nodeS (.mk ks vs kids) depth s = none by rw [HF.out, HK2.out, kidsS_no (Or.inr (by rw [HHH.out]; intro e; injection e with e; exact hxe e))])
        clear hxe
        go_quiet (fail)
        go_wp2_with fail
        go_ret
        exact ⟨retB (by rw [HS.out]; rfl), by rw [HS.out]; exact CkPost.no ((HGR.out.trans HGA.out).trans (grown_drewN _ _ _))⟩
      have hxb : (h != y) = false := by rw [hxe]; simp
      have HHY := Lib.hid (show u.keys.head? = some y by rw [HHH.out, hxe])
      have HNZ := Lib.hid (show u.keys.length ≠ 0 by rw [HKU.out]; omega)
      clear hxe
      have hwd : IntKind.i64.wrap (depth + 1) = depth + 1 := IntWalk.i64_in _ (by omega)
      have HGD := Lib.hid (show wr.grownBy W1.drew (some c) from HGA.out.trans (drew_grown _ _))
      have HND := Lib.hid (node_grown HNU.out HGD.out)
      have HCD := Lib.hid (show CkAt W1.drew c st from (HCK.out.grown (show wr.grownBy W1.drew none from by rw [← HW1.out]; exact (World.grownBy_alloc wr _ none).trans (drew_grown _ none)) (by simp)))
      obtain ⟨Z, hZ⟩ : ∃ Z, nodeS u (depth + 1) st = Z := ⟨_, rfl⟩
      have HZ := Lib.hid hZ
      obtain ⟨b, hb⟩ : ∃ b, Z.isSome = b := ⟨_, rfl⟩
      have HBB := Lib.hid hb
      have hneb : w.heap.size ≠ c := fun e => hcn e.symm
      have hk00 : (0 : Int) ≤ (k : Int) := by omega
      have hnek : wr.heap.size ≠ c := by omega
      clear hZ hb
      go_region_held3 (fun w' => w'.cell? ⟨wr.heap.size, 0, none⟩ = some (.slice (some ⟨gh, oh, none⟩) KU cu) ∧ w'.cell? ⟨wr.heap.size, 1, none⟩ = some (.slice pv nv cv) ∧ w'.cell? ⟨wr.heap.size, 2, none⟩ = some (.slice pw nw cw) ∧ w'.cell? ⟨w.heap.size, 0, none⟩ = some (.slice (some ⟨ga, oa, none⟩) K ca) ∧ w'.cell? ⟨gh, oh, none⟩ = some (.int .i64 h) ∧ w'.cell? ⟨ga, oa + k, none⟩ = some (.int .i64 y))
        (first | exact ⟨k0, k1, k2, s0, sh, sy⟩ | exact HSA.out)
        (((with_reducible refine (HIH.out u HM.out _ _ _ c st (depth + 1) _ HND.out HCD.out (by omega) (by omega)).mono ?_); rintro e w1 ⟨rfl, hp⟩; rw [HZ.out] at hp ⊢; rw [HBB.out]; have HP := Lib.hid hp; have HSA := Lib.hid (show _ ∧ _ ∧ _ ∧ _ ∧ _ ∧ _ from ⟨hp.2.cell (show W1.drew.cell? _ = _ from k0) (fun e => hnek (by injection e)), hp.2.cell (show W1.drew.cell? _ = _ from k1) (fun e => hnek (by injection e)), hp.2.cell (show W1.drew.cell? _ = _ from k2) (fun e => hnek (by injection e)), hp.2.cell (show W1.drew.cell? _ = _ from s0) (fun e => hneb (by injection e)), hp.2.cell (show W1.drew.cell? _ = _ from sh) (fun e => hne_h (by injection e)), hp.2.cell (show W1.drew.cell? _ = _ from sy) (fun e => hne_a (by injection e))⟩); clear hp))
      clear k0 k1 k2 s0 sh sy
      cases b with
      | false =>
        have HZN := Lib.hid (show Z = none by have := HBB.out; cases Z with | none => rfl | some z => exact absurd this (by simp))
        have HS := Lib.hid (show nodeS (.mk ks vs kids) depth s = none by rw [HF.out, HK2.out, kidsS_stop (by rw [HZ.out]; exact HZN.out)])
        go_wp2_with fail
        go_ret
        exact ⟨retB (by rw [HS.out]; rfl), by rw [HS.out]; exact CkPost.no ((HGR.out.trans HGD.out).trans HP.out.2)⟩
      | true =>
        obtain ⟨st', hst⟩ : ∃ st', Z = some st' := Option.isSome_iff_exists.1 HBB.out
        have HST := Lib.hid hst; clear hst
        have HS := Lib.hid (show kidsS kids ks depth s = kidsS (kids.drop (k + 1)) (ks.drop (k + 1)) depth st' by rw [HK2.out, kidsS_on HNZ.out HHY.out (by rw [HZ.out]; exact HST.out)])
        have HG2 := Lib.hid (HGD.out.trans HP.out.2)
        go_wp2_with fail
        go_roundw
        case rel =>
          exact ⟨k + 1, st', by omega, by go_num, HS.out, HP.out.1 st' HST.out, box_grown HX.out HG2.out hneb, node_grown HNR.out HG2.out, HGR.out.trans HG2.out⟩
        case measure => simp [intOf]; omega

set_option maxRecDepth 100000 in
theorem may_any (t : NodeD) (x y z : Value) (w : World) (hn : NodeAt w t x y z) : Calls Try.prog 65 #[.agg #[x, y, z]] w fun e w' => e = .returned (.bool (mayN t)) ∧ Below w.heap.size w w' := by
  obtain ⟨pu, nu, cu, pv, nv, cv, pw, nw, cw, rfl, rfl, rfl⟩ := node_slices hn
  have HN := Lib.hid hn; clear hn
  have HB0 := Lib.hid (show Below w.heap.size w (w.alloc (.cells #[.slice pu nu cu, .slice pv nv cv, .slice pw nw cw] 43)) from (Below.refl _ _).alloc (Nat.le_refl _) _)
  go_enter Try.func65, Try.ntmps65
  go_wp2_with fail
  obtain ⟨WA, hWA⟩ : ∃ W, w.alloc (.cells #[.slice pu nu cu, .slice pv nv cv, .slice pw nw cw] 43) = W := ⟨_, rfl⟩
  have hsz : WA.heap.size = w.heap.size + 1 := by rw [← hWA]; simp
  rw [hWA] at HB0 ⊢
  rw [← hsz]
  have HN1 := Lib.hid (show NodeAt (mask (offC WA.heap.size) (WA.alloc (.cells #[.int .i64 0, .bool false, .int .i64 0] 112))) t _ _ _ from HN.out.keep (fun a v hv => mask_cell.2 ⟨by have := World.block_lt_of_cell? _ _ hv; show a.block ≠ _; omega, cell_stays ((Below.refl _ _).alloc (Nat.le_refl _) _) (cell_stays HB0.out hv)⟩))
  have HC1 := Lib.hid (show CkAt (WA.alloc (.cells #[.int .i64 0, .bool false, .int .i64 0] 112)) WA.heap.size (0, (false, 0)) from World.alloc_heap_new _ _)
  refine (node_any t _ _ _ WA.heap.size (0, (false, 0)) 1 _ HN1.out HC1.out (by omega) (by omega)).mono ?_
  rintro e w1 ⟨rfl, hp⟩
  rw [nodeS_may]
  have HB1 := Lib.hid (show Below w.heap.size w w1 from (HB0.out.alloc HB0.out.size _).trans ((grown_below hp.2 (by simp)).mono (by omega)))
  clear hp hWA hsz
  go_wp2_with fail
  go_ret
  exact ⟨rfl, HB1.out⟩
end Go.Proofs.Ytpcmihgfcaelfaa
namespace Go.Proofs.Ytpcmihgfcaelfaa
open Go.RowKit

/-- the first place of a number, or none -/
def idxI : List Int → Int → Option Nat
  | [], _ => none
  | x :: l, v => if v = x then some 0 else (idxI l v).map (· + 1)
theorem idxI_some : ∀ {l : List Int} {v : Int} {i : Nat}, idxI l v = some i → l[i]? = some v
  | [], v, i, h => by simp [idxI] at h
  | x :: l, v, i, h => by
    simp only [idxI] at h
    split at h
    · rename_i e; cases h; rw [e]; rfl
    · cases hq : idxI l v with
      | none => rw [hq] at h; cases h
      | some j => rw [hq] at h; cases h; rw [List.getElem?_cons_succ]; exact idxI_some hq
theorem idxI_none : ∀ {l : List Int} {v : Int}, idxI l v = none → v ∉ l
  | [], v, _ => by simp
  | x :: l, v, h => by
    simp only [idxI] at h
    split at h
    · cases h
    · rename_i e
      cases hq : idxI l v with
      | none => have := idxI_none hq; simp [e, this]
      | some j => rw [hq] at h; cases h
theorem idxI_skip {l : List Int} {v : Int} {k : Nat} (h : ∀ (j : Nat), j < k → l[j]? ≠ some v) (hk : l[k]? = some v) : idxI l v = some k := by
  induction l generalizing k with
  | nil => simp at hk
  | cons x l ih =>
    simp only [idxI]
    cases k with
    | zero => simp only [List.getElem?_cons_zero, Option.some.injEq] at hk; rw [if_pos hk.symm]
    | succ k =>
      rw [List.getElem?_cons_succ] at hk
      rw [if_neg (fun e => h 0 (by omega) (by rw [e]; rfl)), ih (fun j hj => by have := h (j + 1) (by omega); rwa [List.getElem?_cons_succ] at this) hk]; rfl
theorem idxI_all {l : List Int} {v : Int} (h : ∀ (j : Nat), j < l.length → l[j]? ≠ some v) : idxI l v = none := by
  cases hq : idxI l v with
  | none => rfl
  | some i => have := idxI_some hq; exact absurd this (h i (List.getElem?_eq_some_iff.1 this).1)
def idxV (o : Option Nat) : Int := match o with | some i => i | none => -1
set_option maxRecDepth 100000 in
set_option maxHeartbeats 2000000 in
theorem index_any (l : List Int) (v : Int) (s : Value) (w : World) (hs : IntsAt w s l) : Calls Try.prog 81 #[s, .int .i64 v] w fun e w' => e = .returned (.int .i64 (idxV (idxI l v))) ∧ w = w' := by
  obtain ⟨p, c, rfl, h1, h2, h3⟩ := hs
  have HA := Lib.hid h3
  obtain ⟨N, hN⟩ : ∃ N, l.length = N := ⟨_, rfl⟩
  rw [hN] at h1 ⊢
  have hlc : (N : Int) ≤ 9223372036854775807 := by unfold maxLen at h2; omega
  have HN := Lib.hid hN
  clear h1 h2 h3 hN
  go_enter Try.func81, Try.ntmps81
  go_wp2_with fail
  go_loop [8, 5] (fun i _ => ∃ k : Nat, k ≤ N ∧ i = .int .i64 k ∧ ∀ (j : Nat), j < k → l[j]? ≠ some v) (fun i _ => N - (intOf i).toNat)
  case atStart => exact ⟨0, Nat.zero_le _, rfl, fun j hj => by omega⟩
  case round =>
    obtain ⟨k, hk, rfl, hall⟩ := hrel
    have HAL := Lib.hid hall
    clear hall
    by_cases hlt : k < N
    case neg =>
      obtain rfl : k = N := by omega
      have HF := Lib.hid (show idxI l v = none from idxI_all (fun j hj => HAL.out j (by rw [← HN.out]; exact hj)))
      go_wp2_with fail
      go_ret
      exact ⟨retI (by rw [HF.out]; rfl), rfl⟩
    have hki : (k : Int) < (N : Int) := by omega
    obtain ⟨x, hx⟩ : ∃ x, l[k]? = some x := ⟨_, List.getElem?_eq_getElem (by rw [HN.out]; omega)⟩
    obtain ⟨_, g, o, rfl, x1⟩ := HA.out k x hx
    have HX := Lib.hid hx
    clear hx
    by_cases he : v = x
    · have hb : (v == x) = true := by simpa using he
      have HF := Lib.hid (show idxI l v = some k from idxI_skip HAL.out (by rw [HX.out, he]))
      clear he
      go_wp2_with fail
      go_ret
      exact ⟨retI (by rw [HF.out]; rfl), rfl⟩
    · have hb : (v == x) = false := by simpa using he
      have HE := Lib.hid he
      clear he
      go_wp2_with fail
      go_round
      case rel =>
        refine ⟨k + 1, by omega, by go_num, fun j hj => ?_⟩
        by_cases e : j = k
        · subst e; rw [HX.out]; intro e; injection e with e; exact HE.out e.symm
        · exact HAL.out j (by omega)
      case measure => simp [intOf]; omega

/-- the last key of a tree that may be is in its last leaf -/
def MaxK : Int := 9223372036854775807
/-- where Get goes on: at a node whose keys are the last ones -/
def AtEnd (t u : NodeD) : Prop := sizedN u 0 = true ∧ ∃ pre, keysOf t = pre ++ keysOf u ∧ (pre = [] ∨ (keysOf u ≠ [] ∧ sizedN u 2 = true))
theorem sized_weak {u : NodeD} (h : sizedN u 2 = true) : sizedN u 0 = true := by
  cases u with
  | mk ks vs kids =>
    simp only [sizedN, Bool.and_eq_true, decide_eq_true_eq] at h ⊢
    exact ⟨⟨by omega, h.1.2⟩, h.2⟩
theorem keys_ne (u : NodeD) : ∀ d, deepN u d ≠ 0 → sizedN u 2 = true → keysOf u ≠ [] := by
  induction u using NodeD.ind with
  | h ks vs kids ih =>
    intro d hd hs
    simp only [sizedN, Bool.and_eq_true, decide_eq_true_eq] at hs
    cases kids with
    | nil =>
      simp only [List.length_nil, if_true, decide_eq_true_eq] at hs
      unfold keysOf; simp only [pairsN, pairsL, List.length_nil, if_true, List.append_nil]
      rw [List.map_fst_zip (by omega)]
      intro e; rw [e] at hs; simp at hs
    | cons k0 rest =>
      obtain ⟨⟨h1, h2⟩, h3⟩ := hs
      rw [if_neg (by simp)] at h3
      simp only [Bool.and_eq_true] at h3
      have h4 := (sizedL_iff _ _).1 h3.2 0 k0 rfl
      simp only [deepN, deepK] at hd
      split at hd
      · exact absurd rfl hd
      · split at hd
        · split at hd
          · exact absurd rfl hd
          · rename_i hne
            have := ih k0 (by simp) (d - 1) hne h4.1
            unfold keysOf at this ⊢
            simp only [pairsN, pairsL, List.map_append]
            intro e
            simp only [List.append_eq_nil_iff] at e
            exact this e.2.1
        · exact absurd rfl hd
theorem max_last {t u : NodeD} (hr : riseB (pairsN t) = true) (hb : PBd (pairsN t)) (h : AtEnd t u) : MaxK ∈ keysOf t ↔ MaxK ∈ keysOf u := by
  obtain ⟨_, pre, hk, hp⟩ := h
  constructor
  · intro hm
    rw [hk, List.mem_append] at hm
    rcases hm with hm | hm
    · rcases hp with rfl | ⟨hp, _⟩
      · simp at hm
      · exfalso
        obtain ⟨i, hi⟩ := List.mem_iff_getElem?.1 hm
        have hil := (List.getElem?_eq_some_iff.1 hi).1
        have hlen : (keysOf t).length = (pairsN t).length := by unfold keysOf; rw [List.length_map]
        have hul : 0 < (keysOf u).length := List.length_pos_iff.2 hp
        have hlt : i + 1 < (keysOf t).length := by rw [hk, List.length_append]; omega
        have h1 : (keysOf t)[i]? = some MaxK := by rw [hk, List.getElem?_append_left hil]; exact hi
        obtain ⟨x, hx⟩ : ∃ x, (pairsN t)[i]? = some x := ⟨_, List.getElem?_eq_getElem (by omega)⟩
        obtain ⟨y, hy⟩ : ∃ y, (pairsN t)[i + 1]? = some y := ⟨_, List.getElem?_eq_getElem (by omega)⟩
        have h2 := (riseB_iff _).1 hr i x y hx hy
        have h3 : x.1 = MaxK := by unfold keysOf at h1; rw [List.getElem?_map, hx] at h1; injection h1
        have h4 := (hb y (List.mem_of_getElem? hy)).1.2
        rw [h3] at h2; unfold MaxK at h2; omega
    · exact hm
  · intro hm; rw [hk, List.mem_append]; exact .inr hm

def maxB (t : NodeD) : Bool := mayN t && decide (MaxK ∈ keysOf t)
/-- what Get holds of the world in its loop -/
def GetAt (t : NodeD) (w wr : World) (k : Nat) : Prop :=
  ∃ (u : NodeD) (a b c : Value), AtEnd t u ∧ (∃ d, 0 ≤ d ∧ deepN u d ≠ 0) ∧ SizeOf.sizeOf u ≤ k ∧ NBox w.heap.size a b c wr ∧ NodeAt w u a b c ∧ Below w.heap.size w wr ∧ (∀ j, wr.frozen? ⟨w.heap.size, j, none⟩ = false)
theorem deep_kid {ks vs : List Int} {kids : List NodeD} {d : Int} {u : NodeD} (hd : 0 ≤ d) (h : deepN (.mk ks vs kids) d ≠ 0) (hu : u ∈ kids) : ∃ e, 0 ≤ e ∧ deepN u e ≠ 0 := by
  simp only [deepN] at h
  split at h
  · exact absurd rfl h
  · rename_i h0
    cases kids with
    | nil => simp at hu
    | cons t ts =>
      simp only [deepK, deepL_all] at h
      split at h
      · rename_i hall
        split at h
        · exact absurd rfl h
        · rename_i hne
          refine ⟨d - 1, by omega, ?_⟩
          rw [List.mem_cons] at hu
          rcases hu with rfl | hu
          · exact hne
          · rw [of_decide_eq_true (List.all_eq_true.1 hall u hu)]; exact hne
      · exact absurd rfl h
theorem atEnd_kid {t : NodeD} {ks vs : List Int} {kids : List NodeD} {d : Int} {u : NodeD} (h : AtEnd t (.mk ks vs kids)) (hd : 0 ≤ d) (hdd : deepN (.mk ks vs kids) d ≠ 0) (hu : kids[kids.length - 1]? = some u) (hk : kids.length ≠ 0) : AtEnd t u := by
  obtain ⟨hs, pre, hp, hor⟩ := h
  simp only [sizedN, Bool.and_eq_true, decide_eq_true_eq] at hs
  rw [if_neg hk] at hs
  simp only [Bool.and_eq_true, decide_eq_true_eq] at hs
  have hsu := ((sizedL_iff _ _).1 hs.2.2 _ u hu).1
  have hum := List.mem_of_getElem? hu
  obtain ⟨e, he, hde⟩ := deep_kid hd hdd hum
  refine ⟨sized_weak hsu, pre ++ keysL (kids.take (kids.length - 1)), ?_, .inr ⟨keys_ne u e hde hsu, hsu⟩⟩
  rw [hp, List.append_assoc]
  congr 1
  have h1 : kids = kids.take (kids.length - 1) ++ [u] := by
    obtain ⟨h2, h3⟩ := List.getElem?_eq_some_iff.1 hu
    have := List.take_succ_eq_append_getElem h2
    rw [h3, show kids.length - 1 + 1 = kids.length by omega, List.take_length] at this
    exact this
  unfold keysOf keysL
  simp only [pairsN]
  rw [if_neg hk, List.nil_append, ← List.map_append]
  congr 1
  conv => lhs; rw [h1]
  rw [pairsL_flat, pairsL_flat, List.map_append, List.flatten_append]; simp
theorem size_kid {ks vs : List Int} {kids : List NodeD} {u : NodeD} (hu : u ∈ kids) : SizeOf.sizeOf u < SizeOf.sizeOf (NodeD.mk ks vs kids) := by
  have := List.sizeOf_lt_of_mem hu
  simp; omega
theorem box_set {g : Nat} {x y z x' y' z' : Value} {w : World} (h0 : w.cell? ⟨g, 0, none⟩ = some x) (h1 : w.cell? ⟨g, 1, none⟩ = some y) (h2 : w.cell? ⟨g, 2, none⟩ = some z) : NBox g x' y' z' (((w.setCell ⟨g, 0, none⟩ x').setCell ⟨g, 1, none⟩ y').setCell ⟨g, 2, none⟩ z') := by
  refine ⟨?_, ?_, ?_⟩
  · rw [World.cell?_setCell_other _ _ _ _ (by simp), World.cell?_setCell_other _ _ _ _ (by simp), World.cell?_setCell_same' _ _ _ (by rw [h0]; rfl)]
  · rw [World.cell?_setCell_other _ _ _ _ (by simp), World.cell?_setCell_same' _ _ _ (by rw [World.cell?_setCell_other _ _ _ _ (by simp), h1]; rfl)]
  · rw [World.cell?_setCell_same' _ _ _ (by rw [World.cell?_setCell_other _ _ _ _ (by simp), World.cell?_setCell_other _ _ _ _ (by simp), h2]; rfl)]
def GetPost (t : NodeD) (w : World) (e : Ending) (w' : World) : Prop := ∃ v : Int, e = .returned (.tuple #[.int .i64 v, .bool (maxB t)]) ∧ Below w.heap.size w w'
set_option maxRecDepth 100000 in
set_option maxHeartbeats 4000000 in
theorem get_any (t : NodeD) (x y z : Value) (Q : Int) (HQ : Hid (Q = MaxK)) (w : World) (hn : NodeAt w t x y z) : Calls Try.prog 70 #[.agg #[x, y, z], .int .i64 Q] w (GetPost t w) := by
  obtain ⟨pu, nu, cu, pv, nv, cv, pw, nw, cw, rfl, rfl, rfl⟩ := node_slices hn
  have HN := Lib.hid hn; have HPB := Lib.hid (pairsN_bd _ hn); clear hn
  have HB0 := Lib.hid (show Below w.heap.size w (w.alloc (.cells #[.slice pu nu cu, .slice pv nv cv, .slice pw nw cw] 43)) from (Below.refl _ _).alloc (Nat.le_refl _) _)
  go_enter Try.func70, Try.ntmps70
  go_wp2_with fail
  refine (may_any t _ _ _ _ (HN.out.keep (keeps_below HB0.out))).mono ?_
  rintro e w1 ⟨rfl, hb⟩
  have HB1 := Lib.hid (btrans HB0.out hb)
  have HX1 := Lib.hid (show NBox w.heap.size (.slice pu nu cu) (.slice pv nv cv) (.slice pw nw cw) w1 from NBox.below ⟨by simp, by simp, by simp⟩ hb)
  have HFZ := Lib.hid (show ∀ j, w1.frozen? ⟨w.heap.size, j, none⟩ = false from fun j => (hb.frozen (p := ⟨w.heap.size, j, none⟩) (by simp)).trans (by simp))
  clear hb
  cases hm : mayN t with
  | false =>
    have HF := Lib.hid (show maxB t = false by unfold maxB; rw [hm]; rfl)
    clear hm
    go_wp2_with fail
    go_ret2
    exact ⟨0, by rw [HF.out]; rfl, HB1.out⟩
  | true =>
    have HM := Lib.hid (show deepN t 40 ≠ 0 ∧ sizedN t 0 = true ∧ riseB (pairsN t) = true by unfold mayN at hm; simpa [and_assoc] using hm)
    have HF := Lib.hid (show maxB t = decide (MaxK ∈ keysOf t) by unfold maxB; rw [hm]; rfl)
    clear hm
    go_wp2_with fail
    go_loopg [6] (SizeOf.sizeOf t) (fun k _ wr => GetAt t w wr k)
    case atStart => exact ⟨t, _, _, _, ⟨HM.out.2.1, [], rfl, .inl rfl⟩, ⟨40, by omega, HM.out.1⟩, Nat.le_refl _, HX1.out, HN.out, HB1.out, HFZ.out⟩
    case round =>
      obtain ⟨u, a, b, c, hat, hdd, hsz, hbx, hnu, hb, hfz⟩ := hrel
      have HAT := Lib.hid hat; have HDD := Lib.hid hdd; have HNU := Lib.hid hnu; have HB := Lib.hid hb; have HFR := Lib.hid hfz; have HSZ := Lib.hid hsz; have HX := Lib.hid hbx
      clear hat hdd hb hfz hsz hbx
      obtain ⟨ks, vs, kids⟩ := u
      obtain ⟨⟨pa, ca, rfl, a1, a2, ha⟩, ⟨pb, cb, rfl, b1, b2, hbv⟩, ⟨pc, cc, rfl, c1, c2, hk⟩⟩ := nodeAt_iff.1 hnu
      simp only [NodeD.keys, NodeD.vals, NodeD.kids] at a1 b1 c1 ha hbv hk HX
      have HK := Lib.hid hk; have HA := Lib.hid ha; have HV := Lib.hid hbv
      obtain ⟨K, hK⟩ : ∃ K, ks.length = K := ⟨_, rfl⟩
      obtain ⟨M, hM⟩ : ∃ M, vs.length = M := ⟨_, rfl⟩
      obtain ⟨N, hN⟩ : ∃ N, kids.length = N := ⟨_, rfl⟩
      rw [hK] at a1 HX; rw [hM] at b1 HX; rw [hN] at c1 HX
      have hla : (K : Int) ≤ 9223372036854775807 := by unfold maxLen at a2; omega
      have hlb : (M : Int) ≤ 9223372036854775807 := by unfold maxLen at b2; omega
      have hlc : (N : Int) ≤ 9223372036854775807 := by unfold maxLen at c2; omega
      have HKL := Lib.hid hK; have HML := Lib.hid hM; have HNL := Lib.hid hN
      have HIA := Lib.hid (show IntsAt wr (.slice pa K ca) ks from ⟨pa, ca, by rw [hK], by rw [hK]; exact a1, a2, HA.out.keep (keeps_below HB.out)⟩)
      have HSD := Lib.hid (show sizedN (.mk ks vs kids) 0 = true from HAT.out.1)
      have hsd := HSD.out
      simp only [sizedN, Bool.and_eq_true, decide_eq_true_eq] at hsd
      rw [hK, hM, hN] at hsd
      obtain ⟨x0, x1, x2⟩ := HX.out
      have hlx := World.block_lt_of_cell? _ _ x0
      simp only at hlx
      clear hnu hk ha hbv a1 a2 b1 b2 c1 c2 hK hM hN
      rcases Nat.eq_zero_or_pos N with hz | hz
      · have hmv : M = K := by
          have := hsd.2
          rw [if_pos hz] at this
          simpa using this
        have hg0 : decide (0 < N) = false := decide_eq_false (by omega)
        have hg1 : ¬ (0 : Int) < (N : Int) := by omega
        have HKE := Lib.hid (show keysOf (.mk ks vs kids) = ks by
          have h0 : kids = [] := List.eq_nil_of_length_eq_zero (by rw [HNL.out]; exact hz)
          subst h0
          unfold keysOf; simp only [pairsN, pairsL, List.length_nil, if_true, List.append_nil]
          exact List.map_fst_zip (by rw [HKL.out, HML.out]; omega))
        have HMX := Lib.hid (show maxB t = decide (MaxK ∈ ks) by
          rw [HF.out, ← HKE.out, decide_eq_decide]; exact max_last HM.out.2.2 HPB.out HAT.out)
        clear hsd
        go_wp2_with fail
        with_reducible refine (index_any ks Q (.slice pa K ca) wr HIA.out).mono ?_
        rintro e w2 ⟨rfl, rfl⟩
        cases hi : idxI ks Q with
        | none =>
          have HR := Lib.hid (show maxB t = false by rw [HMX.out, decide_eq_false_iff_not, ← HQ.out]; exact idxI_none hi)
          clear hi
          simp only [idxV]
          go_wp2_with fail
          go_ret2
          exact ⟨0, by rw [HR.out]; rfl, HB.out⟩
        | some i =>
          have hki := idxI_some hi
          have HR := Lib.hid (show maxB t = true by rw [HMX.out, decide_eq_true_eq, ← HQ.out]; exact List.mem_of_getElem? hki)
          have hik := (List.getElem?_eq_some_iff.1 hki).1
          rw [HKL.out] at hik
          have him : (i : Int) < (M : Int) := by omega
          have hi0 : ¬ (i : Int) < 0 := by omega
          obtain ⟨v, hv⟩ : ∃ v, vs[i]? = some v := ⟨_, List.getElem?_eq_getElem (by rw [HML.out]; omega)⟩
          obtain ⟨_, gb, ob, rfl, hvc⟩ := HV.out i v hv
          have rv := cell_stays HB.out hvc
          clear hi hki hv hvc hik hmv
          simp only [idxV]
          go_wp2_with fail
          go_ret2
          exact ⟨v, by rw [HR.out]; rfl, HB.out⟩
      · have hnz : ¬ N = 0 := by omega
        have hsd2 := hsd.2
        rw [if_neg hnz] at hsd2
        simp only [Bool.and_eq_true, decide_eq_true_eq] at hsd2
        have hNK : N = K := hsd2.1.2.1
        have hN2 : 2 ≤ K := hsd2.1.2.2
        have hg0 : decide (0 < N) = true := decide_eq_true hz
        have hg1 : (0 : Int) < (N : Int) := by omega
        obtain ⟨m, hm⟩ : ∃ m, N = m + 1 := ⟨N - 1, by omega⟩
        obtain ⟨u, hu⟩ : ∃ u, kids[m]? = some u := ⟨_, List.getElem?_eq_getElem (by rw [HNL.out]; omega)⟩
        obtain ⟨y, hy⟩ : ∃ y, ks[m]? = some y := ⟨_, List.getElem?_eq_getElem (by rw [HKL.out]; omega)⟩
        obtain ⟨g, o, a, b, d, rfl, e1, e2, e3, e4⟩ := HK.out m u hu
        obtain ⟨pu', nu', cu', pv', nv', cv', pw', nw', cw', rfl, rfl, rfl⟩ := node_slices e4
        obtain ⟨hyb, ga, oa, rfl, hya⟩ := HA.out m y hy
        have r1 := cell_stays HB.out e1; have r2 := cell_stays HB.out e2; have r3 := cell_stays HB.out e3; have ry := cell_stays HB.out hya
        have hgw := World.block_lt_of_cell? _ _ e1
        simp only at hgw
        have HUM := Lib.hid (List.mem_of_getElem? hu)
        have HKID := Lib.hid (atEnd_kid HAT.out HDD.out.choose_spec.1 HDD.out.choose_spec.2 (show kids[kids.length - 1]? = some u by rw [HNL.out, hm]; exact hu) (by rw [HNL.out]; exact hnz))
        have HDK := Lib.hid (deep_kid HDD.out.choose_spec.1 HDD.out.choose_spec.2 HUM.out)
        have HNU2 := Lib.hid e4
        have hw1 : IntKind.i64.wrap ((N : Int) - 1) = (m : Int) := by rw [IntKind.wrap_i64]; omega
        have hmi : (N : Int) - 1 = (m : Int) := by omega
        have hm0 : decide (0 < m) = true := decide_eq_true (by omega)
        have hm1 : (0 : Int) < (m : Int) := by omega
        have hmk : (m : Int) < (K : Int) := by omega
        have hmn : (m : Int) < (N : Int) := by omega
        have HMI := Lib.hid hmi; have HMM := Lib.hid hm; have HNK2 := Lib.hid hNK
        have hyq : decide (Q < y) = false := by rw [decide_eq_false_iff_not, HQ.out]; have := hyb.2; unfold MaxK; omega
        have hfr := fun j => HFR.out j
        have f0 := hfr 0; have f1 := hfr 1; have f2 := hfr 2
        clear hu hy e1 e2 e3 e4 hya hyb hsd hsd2 hnz hm hfr hmi hNK hz
        go_wp2_with fail
        go_loopw [6] (fun i w' => i = .int .i64 m ∧ wr = w') (fun _ _ => 0)
        case atStart => exact ⟨rfl, rfl⟩
        case round =>
          obtain ⟨rfl, rfl⟩ := hrel
          go_wp2_with fail
          go_roundg (SizeOf.sizeOf u)
          case measure =>
            have h1 := size_kid (ks := ks) (vs := vs) HUM.out
            have h2 := HSZ.out
            omega
          case rel =>
            refine ⟨u, _, _, _, HKID.out, HDK.out, Nat.le_refl _, box_set x0 x1 x2, HNU2.out, ((HB.out.setCell (Nat.le_refl _) _).setCell (Nat.le_refl _) _).setCell (Nat.le_refl _) _, fun j => ?_⟩
            rw [World.frozen?_setCell, World.frozen?_setCell, World.frozen?_setCell]; exact HFR.out j
end Go.Proofs.Ytpcmihgfcaelfaa
namespace Go.Proofs.Ytpcmihgfcaelfaa
open Go.RowKit

/-- an append whose run is known, in a round -/
theorem wpListIn_append_run {F : Fence} {n : Nat} {P : Program} (w : World) {ops : Array Oper} {rest : List Oper} {o : Oper} {a : Act} {Q : Exit → Act → World → Prop} (hg : o.guard = none) (s x : Operand) (t : TypeId)
    (hop : o.op = Op.call { callee := Callee.builtin Builtin.append, args := #[s, x], argTypes := #[t, t] }) (v u : Value) (hs : a.eval s = v) (hx : a.eval x = u) (v' : Value) (w' : World) (hrun : (Builtin.append_ #[t, t] o.type #[v, u]).run P w = .ok v' w')
    (h : wpListIn F n P ops Q rest (a.put o.dst v') w') : wpListIn F n P ops Q (o :: rest) a w := by
  refine wpListIn_plain hg fun K hK' => ?_
  unfold Oper.wpIn
  refine ⟨?_, ?_⟩
  · simp [Oper.about, hop, resolve, Target.leads, Sem.run_pure]
  · rw [Oper.semAt_plain F _ _ (by rw [hop]; intro c hc'; cases hc')]
    simp [execOp, hop, resolve, invoke, builtin, hs, hx, hrun, Result.andThen]
    exact hK' _ _ h
theorem room_wide (k : Nat) : Fence.wide.room k := fun d h => by cases h
theorem roundIn_any {m m' : Nat} {P : Program} {l : Nat} {f : FuncId} {tmps : Array Value} {assign body : Code} {w : World} {R : Ending → World → Prop}
    (h : RoundIn Fence.wide m P l f tmps assign body w R) : RoundIn Fence.wide m' P l f tmps assign body w R := ⟨h.1, fun c cs _ => h.2 c cs (room_wide _)⟩
theorem yieldAt_any {m : Nat} (m' : Nat) {P : Program} {l : Nat} {args : Array Value} {W : World} {R : Ending → World → Prop} (h : YieldAt Fence.wide m P l args W R) : YieldAt Fence.wide m' P l args W R := by
  obtain ⟨fn, tmps, assign, body, hy, hR⟩ := h
  exact ⟨fn, tmps, assign, body, hy, roundIn_any hR⟩
/-- the blocks of M lie as they lay -/
def Keep (M : Nat → Prop) (A B : World) : Prop := A.heap.size ≤ B.heap.size ∧ ∀ b, M b → b < A.heap.size → B.heap[b]? = A.heap[b]?
theorem Keep.refl (M : Nat → Prop) (A : World) : Keep M A A := ⟨Nat.le_refl _, fun _ _ _ => rfl⟩
theorem Keep.trans {M : Nat → Prop} {A B C : World} (h : Keep M A B) (k : Keep M B C) : Keep M A C := ⟨Nat.le_trans h.1 k.1, fun b hm hb => (k.2 b hm (Nat.lt_of_lt_of_le hb h.1)).trans (h.2 b hm hb)⟩
theorem Keep.less {M M' : Nat → Prop} {A B : World} (h : Keep M A B) (hm : ∀ b, M' b → M b) : Keep M' A B := ⟨h.1, fun b hb => h.2 b (hm b hb)⟩
theorem Keep.grown {M : Nat → Prop} {A B : World} {row : Option Nat} (h : A.grownBy B row) (hr : ∀ r, row = some r → ¬ M r) : Keep M A B := ⟨h.size, fun b hm hb => h.block b hb (fun e => hr b e.symm hm)⟩
theorem Keep.cell {M : Nat → Prop} {A B : World} (h : Keep M A B) {a : Addr} {v : Value} (hm : M a.block) (hc : A.cell? a = some v) : B.cell? a = some v := (World.cell?_of_block (h.2 a.block hm (World.block_lt_of_cell? A a hc))).trans hc
/-- what the iterator has made becomes its own -/
def New (M M' : Nat → Prop) (A B : World) : Prop := ∀ b, M' b → M b ∨ (A.heap.size ≤ b ∧ b < B.heap.size)

def SeqG {α : Type} (n : Nat) (P : Program) (g : Nat) (lb : Array Value) (encs : α → Array Value) (M₀ : Nat → Prop) (L : List α) (w : World) : Prop :=
  ∀ (l : Nat) (J : (Nat → Prop) → List α → World → Prop) (Jx : List α → World → Prop) (W : World), Below w.heap.size w W →
    (∀ M M' s A B, J M s A → A.grownBy B none → New M M' A B → J M' s B) → (∀ s A B, Jx s A → A.grownBy B none → Jx s B) →
    (∀ m M pre x W1, J M pre W1 → pre ++ [x] <+: L → YieldAt Fence.wide m P l (encs x) W1 fun e W' => (e = .returned (.bool true) ∧ J M (pre ++ [x]) W' ∧ Keep M W1 W') ∨ (e = .returned (.bool false) ∧ Jx (pre ++ [x]) W')) →
    J M₀ [] W → CallsIn Fence.wide n P g (#[.func (.yield l) #[] #[]] ++ lb) W fun e W' => (∃ v, e = .returned v) ∧ ((∃ M, J M L W') ∨ (∃ pre, pre <+: L ∧ Jx pre W'))

def postG {α : Type} (M : Nat → Prop) (B : Nat) (I : (Nat → Prop) → List α → World → Prop) (Ix : Code → List α → World → Prop) (xs : List α) (W : World) : Exit → Act → World → Prop
  | .normal, _, W' => KeepsFrom B W W' ∧ Keep M W W' ∧ I M xs W'
  | .ret, _, W' => KeepsFrom B W W' ∧ Ix .ret xs W'
  | .exit id, _, W' => KeepsFrom B W W' ∧ Ix (.exit id) xs W'
  | .goto t, _, W' => KeepsFrom B W W' ∧ Ix (.goto t) xs W'
  | .panic _, _, _ => False
  | .outgrown, _, _ => False

theorem wp_range_g {α : Type} {n : Nat} {P : Program} {g : Operand} {ps : Array Tmp} {assign body : Code} {Q : Exit → Act → World → Prop} {a : Act} {w : World}
    (h1 : 1 ≤ n) {gf : Nat} {lb : Array Value} (hg : a.eval g = .func (.func gf) #[] lb) (eg : ∀ args w, (callFunc gf args).run P w = .ok (.enter gf args) w)
    {encs : α → Array Value} {M₀ : Nat → Prop} {L : List α} (hseq : SeqG (n - 1) P gf lb encs M₀ L w) (hM : ∀ b, M₀ b → b < w.heap.size) (hps : ∀ x, (encs x).size = ps.size)
    (I : (Nat → Prop) → List α → World → Prop) (Ix : Code → List α → World → Prop)
    (hI1 : ∀ M M' s A B, I M s A → A.grownBy B none → New M M' A B → I M' s B) (hI2 : ∀ M s A B r o, I M s A → A.grownBy B (some r) → w.heap.size ≤ r → A.heap[r]? = some o → o.isCells = false → I M s B)
    (hX1 : ∀ c s A B, Ix c s A → A.grownBy B none → Ix c s B) (hX2 : ∀ c s A B r o, Ix c s A → A.grownBy B (some r) → w.heap.size ≤ r → A.heap[r]? = some o → o.isCells = false → Ix c s B)
    (h0 : I M₀ [] w) (Ax : (Nat → Prop) → α → Act → World → Prop) (hAx : ∀ M x a' A B r o, Ax M x a' A → A.grownBy B (some r) → w.heap.size ≤ r → A.heap[r]? = some o → o.isCells = false → Ax M x a' B)
    (hassign : ∀ (l : Nat) (M : Nat → Prop) (pre : List α) (x : α) (W : World) (K : Act → World → Prop), I M pre W → (∀ a' W', W.grownBy W' none → Ax M x a' W' → K a' W') →
      assign.wpIn (Fence.wide.inRound l) (n - 1 - 1) P (Exit.then K (fun _ _ _ => False)) { tmps := (ps.zip (encs x)).foldl (fun t (p, v) => t.setIfInBounds p v) a.tmps, defers := [] } W)
    (hbody : ∀ (l : Nat) (M : Nat → Prop) (pre : List α) (x : α) (a' : Act) (W : World), I M pre W → Ax M x a' W → pre ++ [x] <+: L → body.wpIn (Fence.wide.inRound l) (n - 1 - 1) P (postG M w.heap.size I Ix (pre ++ [x]) W) a' W)
    (hdone : ∀ (D : Nat) (M : Nat → Prop) (W : World), w.heap.size ≤ D → I M L W → W.heap[D]? = some (.deferred (some [])) → Q .normal { a with defers := { target := .collected D, args := #[] } :: a.defers } W)
    (hstop : ∀ (D : Nat) (c : Code) (pre : List α) (W : World), w.heap.size ≤ D → pre <+: L → Ix c pre W → W.heap[D]? = some (.deferred (some [])) → c.wpIn Fence.wide n P Q { a with defers := { target := .collected D, args := #[] } :: a.defers } W) :
    (Code.rangeFunc g ps assign body).wpIn Fence.wide n P Q a w := by
  refine wpIn_rangeFunc fun fn hfn => ?_
  obtain ⟨rec, hrec⟩ : ∃ rec : LoopState → Option Code → Loop, rec = fun st pe => { state := st, pending := pe, fn, tmps := a.tmps, params := ps, assign, body, defers := w.heap.size } := ⟨_, rfl⟩
  obtain ⟨W1, hW1⟩ : ∃ W1, (w.alloc (.deferred (some []))).alloc (.loop (rec .ready none)) = W1 := ⟨_, rfl⟩
  have hL1 : W1.heap[w.heap.size + 1]? = some (.loop (rec .ready none)) := by
    rw [← hW1]; have := World.alloc_heap_new (w.alloc (.deferred (some []))) (.loop (rec .ready none)); rwa [World.size_alloc] at this
  have hK1 : W1.heap[w.heap.size]? = some (.deferred (some [])) := by
    rw [← hW1]; exact (Below.heap_alloc _ _ _ (by simp)).trans (World.alloc_heap_new w _)
  have hgw : w.grownBy W1 none := by rw [← hW1]; exact (World.grownBy_alloc _ _ _).trans (World.grownBy_alloc _ _ _)
  have hI1' : I M₀ [] W1 := hI1 M₀ M₀ [] w W1 h0 hgw (fun b hb => .inl hb)
  have hB1 : Below w.heap.size w W1 := by rw [← hW1]; exact ((Below.refl _ w).alloc (Nat.le_refl _) _).alloc (by simp) _
  refine ⟨w.heap.size + 1, [{ target := .collected w.heap.size, args := #[] }], W1, { target := .fn (.func gf) lb, args := #[.func (.yield (w.heap.size + 1)) #[] #[]] }, W1, gf,
    #[.func (.yield (w.heap.size + 1)) #[] #[]] ++ lb, W1, ?_, ?_, fun _ _ => trivial, ?_, fun _ => h1, ?_⟩
  · rw [← hW1, hrec]; exact run_enterLoop_outer _ _ _ _ _
  · simp only [resolve, hg]
    simp [go_sem]
  · simp [invoke, go_sem, eg]
  refine (hseq (w.heap.size + 1)
    (fun M pre W => I M pre W ∧ W.heap[w.heap.size + 1]? = some (.loop (rec .ready none)) ∧ W.heap[w.heap.size]? = some (.deferred (some [])) ∧ ¬ M (w.heap.size + 1) ∧ ¬ M w.heap.size)
    (fun pre W => ∃ c, Ix c pre W ∧ W.heap[w.heap.size + 1]? = some (.loop (rec .done (some c))) ∧ W.heap[w.heap.size]? = some (.deferred (some [])))
    W1 hB1 ?_ ?_ ?_ ⟨hI1', hL1, hK1, fun h => by have := hM _ h; omega, fun h => by have := hM _ h; omega⟩).mono ?_
  · rintro M M' s A B ⟨k1, k2, k3, k4, k5⟩ hgr hn
    have lt2 := (Array.getElem?_eq_some_iff.1 k2).1
    have lt3 := (Array.getElem?_eq_some_iff.1 k3).1
    refine ⟨hI1 M M' s A B k1 hgr hn, (hgr.block _ lt2 (by simp)).trans k2, (hgr.block _ lt3 (by simp)).trans k3, fun h => ?_, fun h => ?_⟩
    · rcases hn _ h with h | h
      · exact k4 h
      · omega
    · rcases hn _ h with h | h
      · exact k5 h
      · omega
  · rintro s A B ⟨c, k1, k2, k3⟩ hgr
    have lt2 := (Array.getElem?_eq_some_iff.1 k2).1
    have lt3 := (Array.getElem?_eq_some_iff.1 k3).1
    exact ⟨c, hX1 c s A B k1 hgr, (hgr.block _ lt2 (by simp)).trans k2, (hgr.block _ lt3 (by simp)).trans k3⟩
  · rintro m M pre x W ⟨hi, hl, hk, hm1, hm2⟩ hlen
    refine yieldAt_any (m := n - 1 - 1) m ?_
    have hy := run_yield (P := P) (args := encs x) hl (by rw [hrec]; exact hps x)
    rw [hrec] at hy
    refine ⟨fn, _, assign, body, hy, roundIn_of_wpIn hfn (hassign _ M pre x W _ hi ?_)⟩
    clear hy
    intro a' Wa hga hax
    have hka : Keep M W Wa := Keep.grown hga (fun r e => by cases e)
    have hia : I M pre Wa := hI1 M M pre W Wa hi hga (fun b hb => .inl hb)
    have hl' : Wa.heap[w.heap.size + 1]? = some (.loop (rec .ready none)) := (hga.block _ (Array.getElem?_eq_some_iff.1 hl).1 (by simp)).trans hl
    have hk' : Wa.heap[w.heap.size]? = some (.deferred (some [])) := (hga.block _ (Array.getElem?_eq_some_iff.1 hk).1 (by simp)).trans hk
    have hlt : w.heap.size + 1 < Wa.heap.size := (Array.getElem?_eq_some_iff.1 hl').1
    refine ⟨_, run_beginRound hl' (by rw [hrec]), ?_⟩
    have hgp : Wa.grownBy (Wa.putObj (w.heap.size + 1) (.loop { rec .ready none with state := .busy })) (some (w.heap.size + 1)) := grownBy_putObj' _ _ _
    have hl2 : (Wa.putObj (w.heap.size + 1) (.loop { rec .ready none with state := .busy })).heap[w.heap.size + 1]? = some (.loop { rec .ready none with state := .busy }) := World.putObj_heap_same hlt
    have hk2 : (Wa.putObj (w.heap.size + 1) (.loop { rec .ready none with state := .busy })).heap[w.heap.size]? = some (.deferred (some [])) := (World.putObj_heap_other (by omega)).trans hk'
    have hkp : Keep M Wa (Wa.putObj (w.heap.size + 1) (.loop { rec .ready none with state := .busy })) := Keep.grown hgp (fun r e => by cases e; exact hm1)
    refine wpIn_mono (hbody _ M pre x a' _ (hI2 M pre Wa _ _ _ hia hgp (by omega) hl' rfl) (hAx M x a' Wa _ _ _ hax hgp (by omega) hl' rfl) hlen) ?_
    have fin : ∀ (jump : Option Code) (W3 : World), KeepsFrom w.heap.size (Wa.putObj (w.heap.size + 1) (.loop { rec .ready none with state := .busy })) W3 →
        (Instr.endRound (w.heap.size + 1) jump).run P W3 = .ok (.bool jump.isNone) (W3.putObj (w.heap.size + 1) (.loop (rec (if jump.isNone then .ready else .done) jump))) ∧
        W3.heap[w.heap.size + 1]? = some (.loop { rec .ready none with state := .busy }) ∧
        (W3.putObj (w.heap.size + 1) (.loop (rec (if jump.isNone then .ready else .done) jump))).heap[w.heap.size + 1]? = some (.loop (rec (if jump.isNone then .ready else .done) jump)) ∧
        (W3.putObj (w.heap.size + 1) (.loop (rec (if jump.isNone then .ready else .done) jump))).heap[w.heap.size]? = some (.deferred (some [])) := fun jump W3 hk3 => by
      have hl3 := hk3.same _ _ (by omega) hl2 rfl
      have := run_endRound (P := P) jump hl3
      rw [hrec] at this ⊢
      exact ⟨this, by rw [hrec] at hl3; exact hl3, World.putObj_heap_same (Array.getElem?_eq_some_iff.1 hl3).1, (World.putObj_heap_other (by omega)).trans (hk3.same _ _ (Nat.le_refl _) hk2 rfl)⟩
    rintro e a3 W3 hp
    cases e with
    | normal =>
      obtain ⟨hk3, hkp3, hi3⟩ := hp
      obtain ⟨hr, hl3, hl4, hk4⟩ := fin none W3 hk3
      have hge : W3.grownBy (W3.putObj (w.heap.size + 1) (.loop (rec .ready none))) (some (w.heap.size + 1)) := grownBy_putObj' _ _ _
      exact ⟨_, _, hr, .inl ⟨rfl, ⟨hI2 M _ W3 _ _ _ hi3 hge (by omega) hl3 rfl, hl4, hk4, hm1, hm2⟩, ((hka.trans hkp).trans hkp3).trans (Keep.grown hge (fun r e => by cases e; exact hm1))⟩⟩
    | ret =>
      obtain ⟨hk3, hi3⟩ := hp
      obtain ⟨hr, hl3, hl4, hk4⟩ := fin (some .ret) W3 hk3
      exact ⟨_, _, hr, .inr ⟨rfl, .ret, hX2 _ _ W3 _ _ _ hi3 (grownBy_putObj' _ _ _) (by omega) hl3 rfl, hl4, hk4⟩⟩
    | exit id =>
      obtain ⟨hk3, hi3⟩ := hp
      obtain ⟨hr, hl3, hl4, hk4⟩ := fin (some (.exit id)) W3 hk3
      exact ⟨_, _, hr, .inr ⟨rfl, .exit id, hX2 _ _ W3 _ _ _ hi3 (grownBy_putObj' _ _ _) (by omega) hl3 rfl, hl4, hk4⟩⟩
    | goto t =>
      obtain ⟨hk3, hi3⟩ := hp
      obtain ⟨hr, hl3, hl4, hk4⟩ := fin (some (.goto t)) W3 hk3
      exact ⟨_, _, hr, .inr ⟨rfl, .goto t, hX2 _ _ W3 _ _ _ hi3 (grownBy_putObj' _ _ _) (by omega) hl3 rfl, hl4, hk4⟩⟩
    | panic ch => exact hp.elim
    | outgrown => exact hp.elim
  · rintro e W2 ⟨⟨v, rfl⟩, (⟨M, hi, hl, hk, hm1, hm2⟩ | ⟨pre, hSp, c, hi, hl, hk⟩)⟩
    · exact ⟨none, _, by have := run_endLoop (P := P) hl (by rw [hrec]; simp); rw [hrec] at this; exact this, hdone _ M _ (Nat.le_refl _) (hI2 M _ W2 _ _ _ hi (grownBy_putObj' _ _ _) (by omega) hl rfl) ((World.putObj_heap_other (by omega)).trans hk)⟩
    · exact ⟨some c, _, by have := run_endLoop (P := P) hl (by rw [hrec]; simp); rw [hrec] at this; exact this, hstop _ c pre _ (Nat.le_refl _) hSp (hX2 _ _ W2 _ _ _ hi (grownBy_putObj' _ _ _) (by omega) hl rfl) ((World.putObj_heap_other (by omega)).trans hk)⟩
end Go.Proofs.Ytpcmihgfcaelfaa
