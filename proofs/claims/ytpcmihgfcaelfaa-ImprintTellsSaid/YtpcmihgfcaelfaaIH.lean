/- The walk of the volume's iterator over its pairs. · The walk of the program's may: may one volume be. · The walk of the program's May: may volumes be. · Small lemmas on worlds. · The walk of wire.TakeInts. · The walk of ossuaryref10.TakeInts. · The walk of imprint.shares. · The type of nodes. · Blocks of the call's own: plain. -/
import Derived.Test.YtpcmihgfcaelfaaIG
import Derived.Test.YtpcmihgfcaelfaaIC
import Derived.Test.YtpcmihgfcaelfaaIB
import Derived.Laws.OwnMore
import Derived.Test.YtpcmihgfcaelfaaIA
import Derived.Test.YtpcmihgfcaelfaaProg
import Derived.Test.YtpcmihgfcaelfaaIE
namespace Go.Proofs.Ytpcmihgfcaelfaa
open Go.RowKit Go.Shelf
attribute [local go_sem] Oper.semAt_some

def encQ (x : PairD) : Array Value := #[.int .i64 x.1, .int .i64 x.2]
theorem vpairs_any (x y z : Value) (f u : Int) (w : World) : Calls Try.prog 57 #[.agg #[x, y, z], .int .i64 f, .int .i64 u] w fun e w' => e = .returned (.func (.func 71) #[] #[.pointer (some ⟨w.heap.size, 0, none⟩), .pointer (some ⟨w.heap.size + 1, 0, none⟩), .pointer (some ⟨w.heap.size + 1 + 1, 0, none⟩)]) ∧
    w' = ((w.alloc (.cells #[x, y, z] 43)).alloc (.cells #[.int .i64 f] 3)).alloc (.cells #[.int .i64 u] 3) := by
  go_enter Try.func57, Try.ntmps57
  go_wp2_with fail
  go_ret
  exact ⟨rfl, rfl⟩
/-- the pairs of a row, told by their cells -/
theorem row_cell {w : World} {B g cap n : Nat} {l : List PairD} (h : w.ownsRow B 66 2 (.slice (some ⟨g, 0, none⟩) n cap) n (pairRows l).flatten) {i : Nat} {x : PairD} (hx : l[i]? = some x) : w.cell? ⟨g, i * 2, none⟩ = some (.int .i64 x.1) ∧ w.cell? ⟨g, i * 2 + 1, none⟩ = some (.int .i64 x.2) := by
  obtain ⟨h1, h2⟩ := pairs_cell l i x hx
  have hi := (List.getElem?_eq_some_iff.1 hx).1
  have hl := pairs_len l
  constructor
  · have := ow_cell h (i * 2) (by omega)
    rw [List.getElem?_eq_getElem (by omega)] at h1
    rw [this]; exact h1
  · have := ow_cell h (i * 2 + 1) (by omega)
    rw [List.getElem?_eq_getElem (by omega)] at h2
    rw [this]; exact h2
set_option maxRecDepth 100000 in
set_option maxHeartbeats 4000000 in
/-- the closure gives the volume's pairs between two keys -/
theorem vpairs_seq (n B : Nat) (M₀ : Nat → Prop) (t : NodeD) (f u : Int) (x y z : Value) (w : World) (hn : NodeAt (mask M₀ w) t x y z) (hlen : (pairsN t).length ≤ 900000) (hx : NBox B x y z w) (hf : w.cell? ⟨B + 1, 0, none⟩ = some (.int .i64 f)) (hu : w.cell? ⟨B + 1 + 1, 0, none⟩ = some (.int .i64 u)) :
    SeqG n Try.prog 71 #[.pointer (some ⟨B, 0, none⟩), .pointer (some ⟨B + 1, 0, none⟩), .pointer (some ⟨B + 1 + 1, 0, none⟩)] encQ M₀ (walkN t f u) w := by
  obtain ⟨L, hL⟩ : ∃ L, walkN t f u = L := ⟨_, rfl⟩
  rw [hL]
  have HLE := Lib.hid hL; clear hL
  intro l J Jx W hW hJ1 hJ2 hY h0
  obtain ⟨pu, nu, cu, pv, nv, cv, pw, nw, cw, rfl, rfl, rfl⟩ := node_slices hn
  obtain ⟨x0, x1, x2⟩ := hx.below hW
  have y1 := cell_stays hW hf
  have y2 := cell_stays hW hu
  have HWK := Lib.hid (walk_any t _ _ _ f u W ((hn.keep unmask).keep (keeps_below hW)) hlen)
  have H1 := Lib.hid hJ1; have HY := Lib.hid hY; have H0 := Lib.hid h0
  clear hn hx hf hu hW hJ1 hJ2 hY h0 hlen
  refine callsIn_of_wp Try.func71 rfl trivial ?_ rfl
  simp only [Try.ntmps71, List.size_toArray, List.length_cons, List.length_nil, Nat.reduceAdd, Nat.reduceSub, Array.replicate_succ, Array.replicate_zero, List.push_toArray, List.append_toArray, List.nil_append, List.cons_append]
  gi_wp2_with fail
  refine ⟨trivial, fun h => (by cases h), ?_⟩
  refine (callsIn_wide.2 HWK.out).mono ?_
  rintro e W2 ⟨v, rfl, hrow, hb⟩
  rw [HLE.out] at hrow
  have HJ := Lib.hid (show J (fun b => M₀ b ∨ (W.heap.size ≤ b ∧ b < W2.heap.size)) [] W2 from H1.out M₀ _ [] W W2 H0.out (grown_of_below hb none) (fun b hb => hb))
  have hvs : ∃ p cap, v = .slice p L.length cap ∧ L.length ≤ maxLen := by
    rcases ow_slice hrow with ⟨h1, h2, _⟩ | ⟨g, cap, h1⟩
    · exact ⟨none, 0, by rw [h1, h2], by unfold maxLen; omega⟩
    · rw [h1] at hrow; obtain ⟨_, _, _, h3, h4, _⟩ := own_block hrow; exact ⟨_, cap, h1, by omega⟩
  obtain ⟨p, cap, rfl, hlm⟩ := hvs
  obtain ⟨N, hN⟩ : ∃ N, L.length = N := ⟨_, rfl⟩
  have HROW := Lib.hid hrow; have HNL := Lib.hid hN
  rw [hN] at hlm ⊢
  rw [hN] at HROW
  have hlc : (N : Int) ≤ 9223372036854775807 := by unfold maxLen at hlm; omega
  clear hrow hb x0 x1 x2 y1 y2 hN hlm
  gi_wp2_with fail
  gi_loopw [12, 6] (fun i _ wr => ∃ k : Nat, k ≤ N ∧ i = .int .i64 k ∧ J (fun b => M₀ b ∨ (W.heap.size ≤ b ∧ b < W2.heap.size)) (L.take k) wr ∧ Keep (fun b => M₀ b ∨ (W.heap.size ≤ b ∧ b < W2.heap.size)) W2 wr) (fun i _ _ => N - (intOf i).toNat)
  case atStart => exact ⟨0, Nat.zero_le _, rfl, by rw [List.take_zero]; exact HJ.out, Keep.refl _ _⟩
  case round =>
    obtain ⟨k, hk, rfl, hj, hkp⟩ := hrel
    have HJ2 := Lib.hid hj; have HKP := Lib.hid hkp
    clear hj hkp
    by_cases hlt : k < N
    case neg =>
      obtain rfl : k = N := by omega
      have HT := Lib.hid (show L.take k = L from List.take_of_length_le (by rw [HNL.out]; exact Nat.le_refl _))
      gi_wp2_with fail
      go_end0
      exact ⟨⟨_, rfl⟩, Or.inl ⟨_, by have := HJ2.out; rw [HT.out] at this; exact this⟩⟩
    have hki : (k : Int) < (N : Int) := by omega
    obtain ⟨x, hx⟩ : ∃ x, L[k]? = some x := ⟨_, List.getElem?_eq_getElem (by rw [HNL.out]; exact hlt)⟩
    rcases ow_slice HROW.out with ⟨_, h2, _⟩ | ⟨g, cap', h1⟩
    · omega
    injection h1 with h1 _ h3
    subst h1 h3
    obtain ⟨c0, c1⟩ := row_cell HROW.out hx
    have hgm : W.heap.size ≤ g ∧ g < W2.heap.size := HROW.out.lt g rfl
    have r0 := HKP.out.cell (.inr hgm) c0
    have r1 := HKP.out.cell (.inr hgm) c1
    have HZS := Lib.hid (take_snocV hx)
    have hg3 : wr.grownBy (wr.alloc (.cells #[.int .i64 x.1, .int .i64 x.2] 66)) none := World.grownBy_alloc _ _ _
    have HG3 := Lib.hid hg3
    have hj3 : J (fun b => M₀ b ∨ (W.heap.size ≤ b ∧ b < W2.heap.size)) (L.take k) (wr.alloc (.cells #[.int .i64 x.1, .int .i64 x.2] 66)) := H1.out _ _ _ wr _ HJ2.out hg3 (fun b hb => .inl hb)
    obtain ⟨fn, tmps, assign, body, hyy, hR⟩ := HY.out (n - 1) _ _ x _ hj3 (by rw [← HZS.out]; exact List.take_prefix _ _)
    simp only [encQ] at hyy
    clear hx c0 c1 hgm hg3 hj3
    gi_wp2_with fail
    refine ⟨fun h => (by cases h), ?_⟩
    refine hR.mono ?_
    rintro e W4 (⟨rfl, hj4, hk4⟩ | ⟨rfl, hx4⟩)
    · have HJ4 := Lib.hid hj4; have HK4 := Lib.hid ((HKP.out.trans (Keep.grown HG3.out (fun r e => by cases e))).trans hk4)
      clear hj4 hk4 r0 r1
      gi_wp2_with fail
      go_roundw
      case rel => exact ⟨k + 1, by omega, by go_num, by rw [HZS.out]; exact HJ4.out, HK4.out⟩
      case measure => simp [intOf]; omega
    · have HX4 := Lib.hid hx4
      clear hx4 r0 r1
      gi_wp2_with fail
      refine bodyPost_ret (results_none rfl _ _ _) rfl ?_
      exact ⟨⟨_, rfl⟩, Or.inr ⟨L.take (k + 1), List.take_prefix _ _, by rw [HZS.out]; exact HX4.out⟩⟩
end Go.Proofs.Ytpcmihgfcaelfaa
namespace Go.Proofs.Ytpcmihgfcaelfaa
open Go.RowKit Go.Shelf
attribute [local go_sem] Oper.semAt_some

def MinK : Int := -9223372036854775808
/-- right, as the program asks it -/
theorem right_split {d : VoD} {w : World} {a b c : Value} (hn : NodeAt w d.map a b c) (h : 1 ≤ d.id ∧ d.id ≤ 1000 ∧ 0 ≤ d.size ∧ d.size ≤ 100000) (hm : mayN d.map = true) :
    rightN d = (!maxB d.map && (walkN d.map MinK MaxK).all (pairOk d.size)) := by
  have hb := pairsN_bd _ hn
  have hw : walkN d.map MinK MaxK = (pairsN d.map).filter (fun x => decide (x.1 < MaxK)) := by
    unfold walkN walkP; rw [if_pos hm]
    apply List.filter_congr; intro x hx
    unfold inB; rw [decide_eq_true (show MinK ≤ x.1 from (hb x hx).1.1), Bool.true_and]
  have hmx : maxB d.map = decide (MaxK ∈ keysOf d.map) := by unfold maxB; rw [hm, Bool.true_and]
  unfold rightN
  rw [decide_eq_true h, hm, Bool.true_and, Bool.true_and, hw, hmx, Bool.eq_iff_iff]
  simp only [List.all_eq_true, Bool.and_eq_true, Bool.not_eq_true', decide_eq_false_iff_not, List.mem_filter, decide_eq_true_eq]
  constructor
  · intro hall
    refine ⟨fun hk => ?_, fun x hx => hall x hx.1⟩
    unfold keysOf at hk
    rw [List.mem_map] at hk
    obtain ⟨x, hx, he⟩ := hk
    have := hall x hx
    unfold pairOk at this
    simp only [Bool.and_eq_true, decide_eq_true_eq] at this
    unfold MaxK at he; omega
  · rintro ⟨hk, hall⟩ x hx
    refine hall x ⟨hx, ?_⟩
    have h1 := (hb x hx).1.2
    by_cases he : x.1 = MaxK
    · exact absurd (by unfold keysOf; rw [List.mem_map]; exact ⟨x, hx, he⟩) hk
    · unfold MaxK at *; omega
structure MInv (w : World) (S : Int) (M : Nat → Prop) (pre : List PairD) (W : World) : Prop where
  box : Boxed W (w.heap.size + 1) 4 (.bool false)
  sz : W.cell? ⟨w.heap.size, 1, none⟩ = some (.int .i64 S)
  m1 : ¬ M (w.heap.size + 1)
  ml : ∀ b, M b → b < W.heap.size
  below : Below w.heap.size w W
  all : ∀ x ∈ pre, pairOk S x = true
theorem MInv.kept {w : World} {S : Int} {M M' : Nat → Prop} {pre : List PairD} {A C : World} {row : Option Nat} (h : MInv w S M pre A) (hg : A.grownBy C row) (hr : ∀ r, row = some r → w.heap.size + 2 ≤ r) (hn : New M M' A C) : MInv w S M' pre C := by
  have hrb : ∀ b, b < w.heap.size + 2 → some b ≠ row := fun b hb e => by have := hr b e.symm; omega
  refine ⟨h.box.kept hg (hrb _ (by omega)), hg.cell h.sz (hrb _ (by show w.heap.size < _; omega)), fun hm => ?_, fun b hm => ?_, ?_, h.all⟩
  · rcases hn _ hm with hm | hm
    · exact h.m1 hm
    · have := h.box.lt; omega
  · rcases hn b hm with hm | hm
    · have := h.ml b hm; have := hg.size; omega
    · exact hm.2
  · exact ⟨hg.os.trans h.below.os, hg.tape.trans h.below.tape, hg.output.trans h.below.output, Nat.le_trans h.below.size hg.size, fun k hk => (hg.block k (by have := h.below.size; omega) (hrb k (by omega))).trans (h.below.block k hk)⟩
def MExit (w : World) (S : Int) (c : Code) (pre : List PairD) (W : World) : Prop := c = .ret ∧ Boxed W (w.heap.size + 1) 4 (.bool false) ∧ Below w.heap.size w W ∧ ∃ x ∈ pre, pairOk S x = false
/-- a tree of many pairs, yet not too many -/
def BigTree (t : NodeD) : Prop := (pairsN t).length ≤ 600000
theorem SmallTree.big {t : NodeD} (h : SmallTree t) : BigTree t := by unfold SmallTree at h; unfold BigTree; omega
set_option maxRecDepth 100000 in
set_option maxHeartbeats 4000000 in
theorem vmayB_any (d : VoD) (v : Value) (w : World) (hv : VolV w v d) (hlen : BigTree d.map) : Calls Try.prog 56 #[v] w fun e w' => e = .returned (.bool (rightN d)) ∧ Below w.heap.size w w' := by
  obtain ⟨a, b, c, rfl, _, _, hn⟩ := hv
  obtain ⟨pu, nu, cu, pv, nv, cv, pw, nw, cw, rfl, rfl, rfl⟩ := node_slices hn
  obtain ⟨I, hI⟩ : ∃ I, d.id = I := ⟨_, rfl⟩
  obtain ⟨S, hS⟩ : ∃ S, d.size = S := ⟨_, rfl⟩
  have HN := Lib.hid hn; have HLEN := Lib.hid hlen; have HIE := Lib.hid hI; have HSE := Lib.hid hS
  rw [hI, hS]
  clear hn hlen hI hS
  obtain ⟨WA, hWA⟩ : ∃ W, (w.alloc (.cells #[.int .i64 I, .int .i64 S, .slice pu nu cu, .slice pv nv cv, .slice pw nw cw] 45)).alloc (.cells #[.bool false] 4) = W := ⟨_, rfl⟩
  have HX0 := Lib.hid (show VBox w.heap.size (.int .i64 I) (.int .i64 S) (.slice pu nu cu) (.slice pv nv cv) (.slice pw nw cw) WA by rw [← hWA]; exact VBox.below (w := w.alloc (.cells #[.int .i64 I, .int .i64 S, .slice pu nu cu, .slice pv nv cv, .slice pw nw cw] 45)) ⟨by simp, by simp, by simp, by simp, by simp⟩ ((Below.refl _ _).alloc (Nat.le_refl _) _))
  have HR0 := Lib.hid (show Boxed WA (w.heap.size + 1) 4 (.bool false) by
    rw [← hWA]
    have := Boxed.new (w.alloc (.cells #[.int .i64 I, .int .i64 S, .slice pu nu cu, .slice pv nv cv, .slice pw nw cw] 45)) 4 (.bool false)
    rwa [World.size_alloc] at this)
  have HB0 := Lib.hid (show Below w.heap.size w WA by rw [← hWA]; exact ((Below.refl _ _).alloc (Nat.le_refl _) _).alloc (by simp) _)
  have HWA := Lib.hid hWA
  clear hWA
  rw [← callsIn_wide (n := 6)]
  refine callsIn_of_wp_marks Try.func56 rfl trivial ?_ rfl
  simp only [Try.ntmps56, List.size_toArray, List.length_cons, List.length_nil, Nat.reduceAdd, Nat.reduceSub, Array.replicate_succ, Array.replicate_zero, List.push_toArray, List.append_toArray, List.nil_append, List.cons_append]
  obtain ⟨x0, x1, x2, x3, x4⟩ := HX0.out
  have rc := HR0.out.cell; have rf := HR0.out.frozen
  by_cases hA : 1 ≤ I ∧ I ≤ 1000 ∧ 0 ≤ S ∧ S ≤ 100000
  case neg =>
    have HF := Lib.hid (show rightN d = false by unfold rightN; rw [HIE.out, HSE.out, decide_eq_false hA]; simp)
    have hc : (decide (I < 1) = true) ∨ (decide (I < 1) = false ∧ decide (1000 < I) = true) ∨ (decide (I < 1) = false ∧ decide (1000 < I) = false ∧ decide (S < 0) = true) ∨ (decide (I < 1) = false ∧ decide (1000 < I) = false ∧ decide (S < 0) = false ∧ decide (100000 < S) = true) := by
      simp only [decide_eq_true_eq, decide_eq_false_iff_not]; omega
    clear hA
    have hWA := HWA.out
    rcases hc with h1 | ⟨h1, h2⟩ | ⟨h1, h2, h3⟩ | ⟨h1, h2, h3, h4⟩
    all_goals
      gi_wp2_with fail
      have hb := HR0.out.set (.bool false)
      have hbc := hb.cell
      exact ⟨.bool false, by simp [results, Try.results56, go_sem, hbc], retB HF.out.symm, HB0.out.setCell (Nat.le_succ _) _⟩
  have h1 : decide (I < 1) = false := by simp only [decide_eq_false_iff_not]; omega
  have h2 : decide (1000 < I) = false := by simp only [decide_eq_false_iff_not]; omega
  have h3 : decide (S < 0) = false := by simp only [decide_eq_false_iff_not]; omega
  have h4 : decide (100000 < S) = false := by simp only [decide_eq_false_iff_not]; omega
  have HA := Lib.hid hA
  clear hA
  have hWA := HWA.out
  gi_wp2_with fail
  clear hWA h1 h2 h3 h4 HWA
  refine ⟨trivial, ?_⟩
  refine (callsIn_wide.2 (may_any d.map _ _ _ _ (HN.out.keep (keeps_below HB0.out)))).mono ?_
  rintro e w1 ⟨rfl, hb⟩
  have HX1 := Lib.hid (HX0.out.below hb); have HR1 := Lib.hid (show Boxed w1 (w.heap.size + 1) 4 (.bool false) from HR0.out.kept (grown_of_below hb none) (by simp)); have HB1 := Lib.hid (btrans HB0.out hb)
  clear hb x0 x1 x2 x3 x4 rc rf HX0 HR0 HB0
  obtain ⟨x0, x1, x2, x3, x4⟩ := HX1.out
  have rc := HR1.out.cell; have rf := HR1.out.frozen
  cases hm : mayN d.map with
  | false =>
    have HF := Lib.hid (show rightN d = false by unfold rightN; rw [hm]; simp)
    clear hm
    gi_wp2_with fail
    have hb := HR1.out.set (.bool false)
    have hbc := hb.cell
    exact ⟨.bool false, by simp [results, Try.results56, go_sem, hbc], retB HF.out.symm, HB1.out.setCell (Nat.le_succ _) _⟩
  | true =>
    have HRS := Lib.hid (right_split HN.out (by rw [HIE.out, HSE.out]; exact HA.out) hm)
    clear hm
    gi_wp2_with fail
    refine ⟨trivial, ?_⟩
    refine (callsIn_wide.2 (get_any d.map _ _ _ _ (show Hid (_ = MaxK) from rfl) _ (HN.out.keep (keeps_below HB1.out)))).mono ?_
    rintro e w2 ⟨gv, rfl, hb⟩
    have HX2 := Lib.hid (HX1.out.below hb); have HR2 := Lib.hid (show Boxed w2 (w.heap.size + 1) 4 (.bool false) from HR1.out.kept (grown_of_below hb none) (by simp)); have HB2 := Lib.hid (btrans HB1.out hb)
    clear hb x0 x1 x2 x3 x4 rc rf HX1 HR1 HB1
    obtain ⟨x0, x1, x2, x3, x4⟩ := HX2.out
    have rc := HR2.out.cell; have rf := HR2.out.frozen
    cases hx : maxB d.map with
    | true =>
      have HF := Lib.hid (show rightN d = false by rw [HRS.out, hx]; rfl)
      clear hx
      gi_wp2_with fail
      have hb := HR2.out.set (.bool false)
      have hbc := hb.cell
      exact ⟨.bool false, by simp [results, Try.results56, go_sem, hbc], retB HF.out.symm, HB2.out.setCell (Nat.le_succ _) _⟩
    | false =>
      have HF := Lib.hid (show rightN d = (walkN d.map MinK MaxK).all (pairOk S) by rw [HRS.out, hx, HSE.out]; rfl)
      clear hx
      gi_wp2_with fail
      refine ⟨trivial, ?_⟩
      refine (callsIn_wide.2 (vpairs_any _ _ _ MinK MaxK _)).mono ?_
      rintro e w' ⟨rfl, rfl⟩
      gi_wp2_with fail
      obtain ⟨W0, hW0⟩ : ∃ W, ((w2.alloc (.cells #[.slice pu nu cu, .slice pv nv cv, .slice pw nw cw] 43)).alloc (.cells #[.int .i64 MinK] 3)).alloc (.cells #[.int .i64 MaxK] 3) = W := ⟨_, rfl⟩
      have hb3 := box3 w2 (.slice pu nu cu) (.slice pv nv cv) (.slice pw nw cw) (.int .i64 MinK) (.int .i64 MaxK)
      have hb0 : Below w2.heap.size w2 W0 := by rw [← hW0]; exact (((Below.refl _ _).alloc (Nat.le_refl _) _).alloc (by simp) _).alloc (by simp; omega) _
      rw [hW0] at hb3 ⊢
      have HB3 := Lib.hid hb3; have HBW := Lib.hid (btrans HB2.out hb0); have HRW := Lib.hid (show Boxed W0 (w.heap.size + 1) 4 (.bool false) from HR2.out.kept (grown_of_below hb0 none) (by simp))
      have HSW := Lib.hid (show W0.cell? ⟨w.heap.size, 1, none⟩ = some (.int .i64 S) from cell_stays hb0 x1)
      have hs2 : w.heap.size + 2 ≤ W0.heap.size := by have := HRW.out.lt; omega
      have hseq := vpairs_seq 5 w2.heap.size (fun b => b < w.heap.size) d.map MinK MaxK _ _ _ W0 (HN.out.keep (fun q v hv => mask_cell.2 ⟨World.block_lt_of_cell? _ _ hv, cell_stays HBW.out hv⟩)) (by have := HLEN.out; unfold BigTree at this; omega) HB3.out.1 HB3.out.2.1 HB3.out.2.2
      clear hb3 hb0 hW0 x0 x1 x2 x3 x4 rc rf
      refine wp_range_g (n := 6) (gf := 71) (lb := #[.pointer (some ⟨w2.heap.size, 0, none⟩), .pointer (some ⟨w2.heap.size + 1, 0, none⟩), .pointer (some ⟨w2.heap.size + 1 + 1, 0, none⟩)]) (by omega) rfl (enters_of Try.func71 (by kernel_rfl) rfl) hseq ?hM (fun _ => rfl) (MInv w S)
        (MExit w S) ?i1 ?i2 ?x1 ?x2 ?start
        (fun _ x a' _ => a' = { tmps := #[.agg #[.int .i64 I, .int .i64 S, .slice pu nu cu, .slice pv nv cv, .slice pw nw cw], .pointer (some ⟨w.heap.size, 0, none⟩), .pointer (some ⟨w.heap.size + 1, 0, none⟩), .int .i64 gv, .bool false, .int .i64 x.1, .int .i64 x.2, undef, undef, .pointer (some ⟨w.heap.size, 0, none⟩), .int .i64 I, .bool false, .bool false, .pointer (some ⟨w.heap.size, 0, none⟩), .int .i64 I, .bool false, .bool false, .bool false, .pointer (some ⟨w.heap.size, 1, none⟩), .int .i64 S, .bool false, .bool false, .bool false, .pointer (some ⟨w.heap.size, 1, none⟩), .int .i64 S, .bool false, .bool false, .pointer (some ⟨w.heap.size, 2, none⟩), .agg #[.slice pu nu cu, .slice pv nv cv, .slice pw nw cw], .bool true, .bool false, .tuple #[.int .i64 gv, .bool false], .pointer (some ⟨w.heap.size, 2, none⟩), .agg #[.slice pu nu cu, .slice pv nv cv, .slice pw nw cw], .tuple #[.int .i64 gv, .bool false], .int .i64 gv, .bool false, .bool false, .pointer (some ⟨w.heap.size, 2, none⟩), .agg #[.slice pu nu cu, .slice pv nv cv, .slice pw nw cw], .func (.func 71) #[] #[.pointer (some ⟨w2.heap.size, 0, none⟩), .pointer (some ⟨w2.heap.size + 1, 0, none⟩), .pointer (some ⟨w2.heap.size + 1 + 1, 0, none⟩)], .int .i64 x.1, .int .i64 x.2, undef, undef, undef, undef, undef, undef, undef, undef, undef, undef, undef, undef, undef, undef, undef], defers := [] }) ?ax ?assign ?body ?done ?stop
      case hM => intro b hb; have := HBW.out.size; omega
      case i1 => exact fun M M' s A B h hg hn => h.kept hg (fun r e => by cases e) hn
      case i2 => exact fun M s A B r o h hg hr ho hc => h.kept hg (fun r' e => by cases e; omega) (fun b hb => .inl hb)
      case x1 =>
        rintro c s A B ⟨rfl, h1, h2, h3⟩ hg
        exact ⟨rfl, h1.kept hg (by simp), ⟨hg.os.trans h2.os, hg.tape.trans h2.tape, hg.output.trans h2.output, Nat.le_trans h2.size hg.size, fun k hk => (hg.block k (by have := h2.size; omega) (by simp)).trans (h2.block k hk)⟩, h3⟩
      case x2 =>
        rintro c s A B r o ⟨rfl, h1, h2, h3⟩ hg hr ho hc
        have hne : ∀ k, k < w.heap.size + 2 → some k ≠ some r := fun k hk e => by injection e with e; omega
        exact ⟨rfl, h1.kept hg (hne _ (by omega)), ⟨hg.os.trans h2.os, hg.tape.trans h2.tape, hg.output.trans h2.output, Nat.le_trans h2.size hg.size, fun k hk => (hg.block k (by have := h2.size; omega) (hne k (by omega))).trans (h2.block k hk)⟩, h3⟩
      case start => exact ⟨HRW.out, HSW.out, by omega, fun b hb => by have := HBW.out.size; omega, HBW.out, fun x hx => by simp at hx⟩
      case ax => exact fun M x a' A B r o h hg hr ho hc => h
      case assign =>
        intro l M pre x W K hi hK
        dsimp only [encQ]
        gi_wp2
        exact hK _ _ ⟨rfl, rfl, rfl, Nat.le_refl _, fun _ _ _ => rfl⟩ rfl
      case body =>
        rintro l M pre x a' W hi rfl hlen
        have HI := Lib.hid hi
        have cs := hi.sz; have rb := hi.box.cell; have rf := hi.box.frozen
        clear hi hseq
        by_cases hlo : x.1 < 0
        · have HP := Lib.hid (show pairOk S x = false by unfold pairOk; rw [decide_eq_false (by omega), Bool.and_false])
          have hdb : decide (x.1 < 0) = true := decide_eq_true hlo
          gi_wp2
          exact ⟨(KeepsOthers.setCell _ _ _).from _, rfl, HI.out.box.set _, HI.out.below.setCell (Nat.le_succ _) _, x, by simp, HP.out⟩
        · have hdb : decide (x.1 < 0) = false := decide_eq_false hlo
          by_cases hhi : S ≤ x.1
          · have HP := Lib.hid (show pairOk S x = false by unfold pairOk; rw [decide_eq_false (by omega), Bool.and_false])
            gi_wp2
            exact ⟨(KeepsOthers.setCell _ _ _).from _, rfl, HI.out.box.set _, HI.out.below.setCell (Nat.le_succ _) _, x, by simp, HP.out⟩
          · have hhj : ¬ S ≤ x.1 := hhi
            have hxm : x ∈ pairsN d.map := by
              have h1 : x ∈ walkN d.map MinK MaxK := hlen.subset (by simp)
              unfold walkN at h1
              split at h1
              · unfold walkP at h1; exact (List.mem_filter.1 h1).1
              · simp at h1
            have HXB := Lib.hid ((pairsN_bd _ HN.out) x hxm).2
            clear hxm
            gi_wp2_with fail
            refine ⟨trivial, ?_⟩
            refine (CallsIn.inRound l (callsIn_wide.2 (refof_any x.2 HXB.out.1 HXB.out.2 W))).mono ?_
            rintro e w3 ⟨rfl, hb⟩
            obtain ⟨⟨rc, rp, rs, rb'⟩, hrr⟩ : ∃ r, ofR x.2 = r := ⟨_, rfl⟩
            rw [hrr]; simp only [RefD.agg]
            obtain ⟨B2, hB2⟩ : ∃ b, ofB x.2 = b := ⟨_, rfl⟩
            rw [hB2]
            have hg4 : W.grownBy (w3.alloc (.cells #[.int .i64 rc, .int .i64 rp, .int .i64 rs, .bool rb'] 69)) none := (grown_of_below hb none).trans (World.grownBy_alloc _ _ _)
            have HI4 := Lib.hid (HI.out.kept (M' := M) hg4 (fun r e => by cases e) (fun b hb => .inl hb))
            have HG4 := Lib.hid hg4
            have HI3 := Lib.hid (HI.out.kept (M' := M) (grown_of_below hb none) (fun r e => by cases e) (fun b hb => .inl hb)); have HG3 := Lib.hid (grown_of_below hb none)
            have HP := Lib.hid (show pairOk S x = B2 by unfold pairOk; rw [hB2, decide_eq_true (by omega), Bool.and_true])
            have rb4 := HI4.out.box.cell; have rf4 := HI4.out.box.frozen
            have hlx : w.heap.size + 1 < w3.heap.size := by have := (HI.out.box.kept (grown_of_below hb none) (by simp)).lt; exact this
            clear hb hrr hB2 hg4 hlen cs rb rf
            cases B2 with
            | true =>
              gi_wp2_with fail
              refine ⟨KeepsFrom.of_grownBy HG4.out (fun j e => by cases e), Keep.grown HG4.out (fun r e => by cases e), HI4.out.box, HI4.out.sz, HI4.out.m1, HI4.out.ml, HI4.out.below, fun y hy => ?_⟩
              rw [List.mem_append, List.mem_singleton] at hy
              rcases hy with hy | rfl
              · exact HI4.out.all y hy
              · exact HP.out
            | false =>
              gi_wp2_with fail
              exact ⟨((KeepsFrom.of_grownBy HG3.out (fun j e => by cases e)).trans ((KeepsOthers.setCell _ _ _).from _)).trans ((KeepsOthers.alloc _ _).from _), rfl, (HI3.out.box.set _).alloc _, (HI3.out.below.setCell (Nat.le_succ _) _).alloc (by have := HI3.out.below.size; simpa using this) _, x, by simp, HP.out⟩
      case done =>
        rintro D M W hD hi hK
        have HI := Lib.hid hi
        have rb := hi.box.cell; have rf := hi.box.frozen
        have HR := Lib.hid (show rightN d = true by rw [HF.out, List.all_eq_true]; exact HI.out.all)
        clear hi hseq
        gi_wp2
        have hK2 : (W.setCell ⟨w.heap.size + 1, 0, none⟩ (.bool true)).heap[D]? = some (.deferred (some [])) := by
          rw [Below.heap_setCell _ _ _ D (by show D ≠ w.heap.size + 1; omega)]; exact hK
        refine ⟨by simp, .inl ⟨_, _, rfl, run_takeDeferred hK2, ?_⟩⟩
        have hb := (HI.out.box.set (.bool true)).kept (grownBy_putObj' _ D (.deferred none)) (by intro e; injection e with e; omega)
        have hbc := hb.cell
        exact ⟨.bool true, by simp [results, Try.results56, go_sem, hbc], retB HR.out.symm, (HI.out.below.setCell (p := ⟨w.heap.size + 1, 0, none⟩) (Nat.le_succ _) _).trans (belowK_b (w := w) (Nat.le_refl _) _ D _ _ (by omega) hK2 rfl rfl)⟩
      case stop =>
        rintro D c pre W hD hp ⟨rfl, h1, h2, x, hx, hno⟩ hK
        have HR := Lib.hid (show rightN d = false by rw [HF.out, List.all_eq_false]; exact ⟨x, hp.subset hx, by rw [hno]; simp⟩)
        have H1 := Lib.hid h1; have H2 := Lib.hid h2
        clear h1 h2 hseq hp hx hno
        gi_wp2
        refine ⟨by simp, .inl ⟨_, _, rfl, run_takeDeferred hK, ?_⟩⟩
        have hb := H1.out.kept (grownBy_putObj' _ D (.deferred none)) (by intro e; injection e with e; omega)
        have hbc := hb.cell
        exact ⟨.bool false, by simp [results, Try.results56, go_sem, hbc], retB HR.out.symm, H2.out.trans (belowK_b (w := w) (Nat.le_refl _) _ D _ _ (by omega) hK rfl rfl)⟩
theorem vmay_any (d : VoD) (v : Value) (w : World) (hv : VolV w v d) (hlen : SmallTree d.map) : Calls Try.prog 56 #[v] w fun e w' => e = .returned (.bool (rightN d)) ∧ Below w.heap.size w w' := vmayB_any d v w hv hlen.big
end Go.Proofs.Ytpcmihgfcaelfaa
namespace Go.Proofs.Ytpcmihgfcaelfaa
open Go.RowKit

theorem mayVB_len_no {l : List VoD} (h : 64 < l.length) : mayVB l = false := by
  rw [← Bool.not_eq_true, mayVB_iff]; rintro ⟨_, _, h3⟩; omega
def BigTrees (l : List VoD) : Prop := ∀ d ∈ l, BigTree d.map
set_option maxRecDepth 100000 in
set_option maxHeartbeats 4000000 in
theorem vMayB_any (x : List VoD) (v1 : Value) (w : World) (h1 : VolsAt w v1 x) (l1 : BigTrees x) : Calls Try.prog 33 #[v1] w fun e w' => e = .returned (.bool (mayVB x)) ∧ Below w.heap.size w w' := by
  obtain ⟨p, cp, rfl, a1, a2, ha⟩ := h1
  have HA := Lib.hid ha
  obtain ⟨N, hN⟩ : ∃ N, x.length = N := ⟨_, rfl⟩
  rw [hN] at a1; rw [hN]
  have hlc : (N : Int) ≤ 9223372036854775807 := by unfold maxLen at a2; omega
  have HN := Lib.hid hN; have HL1 := Lib.hid l1
  clear ha hN a1 a2 l1
  by_cases h64 : 64 < N
  · have HF := Lib.hid (mayVB_len_no (l := x) (by rw [HN.out]; exact h64))
    have h64i : (64 : Int) < (N : Int) := by omega
    clear h64
    go_enter Try.func33, Try.ntmps33
    go_wp2_with fail
    go_ret
    exact ⟨retB HF.out.symm, Below.refl _ _⟩
  have h64i : ¬ (64 : Int) < (N : Int) := by omega
  have H64 := Lib.hid h64
  clear h64
  go_enter Try.func33, Try.ntmps33
  go_wp2_with fail
  go_loopw [10, 3, 4] (fun i _ _ wr => ∃ k : Nat, k ≤ N ∧ i = .int .i64 k ∧ (∀ (j : Nat) a, j < k → x[j]? = some a → rightN a = true) ∧ (∀ (j : Nat) a b, j + 1 < k → x[j]? = some a → x[j + 1]? = some b → a.id < b.id) ∧ Below w.heap.size w wr) (fun i _ _ _ => N - (intOf i).toNat)
  case atStart => exact ⟨0, Nat.zero_le _, rfl, fun j a hj => by omega, fun j a b hj => by omega, Below.refl _ _⟩
  case round =>
    obtain ⟨k, hk, rfl, hall, hord, hb⟩ := hrel
    have HAL := Lib.hid hall; have HOR := Lib.hid hord; have HB := Lib.hid hb
    clear hall hb hord
    by_cases hlt : k < N
    case neg =>
      obtain rfl : k = N := by omega
      have HF := Lib.hid (show mayVB x = true by
        rw [mayVB_end (fun j a h => HAL.out j a (by have := (List.getElem?_eq_some_iff.1 h).1; have := HN.out; omega) h) (fun j a b ha hb => HOR.out j a b (by have := (List.getElem?_eq_some_iff.1 hb).1; have := HN.out; omega) ha hb), HN.out, decide_eq_true_eq]
        have := H64.out; omega)
      go_wp2_with fail
      go_ret
      exact ⟨retB HF.out.symm, HB.out⟩
    have hki : (k : Int) < (N : Int) := by omega
    obtain ⟨s, hs⟩ : ∃ s, x[k]? = some s := ⟨_, List.getElem?_eq_getElem (by rw [HN.out]; omega)⟩
    obtain ⟨i1, i2, g, o, a, b, c, rfl, e0, e1, e2, e3, e4, e5⟩ := HA.out k s hs
    obtain ⟨pa, na, ca, pb, nb, cb, pc, nc, cc, rfl, rfl, rfl⟩ := node_slices e5
    have HV := Lib.hid (show V5 g (o + k * 5) s.id s.size (.slice pa na ca) (.slice pb nb cb) (.slice pc nc cc) wr from V5.below ⟨e0, e1, e2, e3, e4⟩ HB.out)
    have HND := Lib.hid (And.intro i1 (And.intro i2 (e5.keep (keeps_below HB.out))))
    have HS := Lib.hid hs; have HM := Lib.hid (HL1.out s (List.mem_of_getElem? hs))
    clear hs e0 e1 e2 e3 e4 e5 i1 i2
    obtain ⟨SI, hSI⟩ : ∃ S, s.id = S := ⟨_, rfl⟩
    have HSE := Lib.hid hSI
    rw [hSI] at HV
    clear hSI
    obtain ⟨W1, hW1⟩ : ∃ W1, wr.alloc (.cells #[.int .i64 SI, .int .i64 s.size, .slice pa na ca, .slice pb nb cb, .slice pc nc cc] 45) = W1 := ⟨_, rfl⟩
    have hb1 : Below wr.heap.size wr W1 := by rw [← hW1]; exact (Below.refl _ _).alloc (Nat.le_refl _) _
    have HX1 := Lib.hid (show VBox wr.heap.size (.int .i64 SI) (.int .i64 s.size) (.slice pa na ca) (.slice pb nb cb) (.slice pc nc cc) W1 by rw [← hW1]; exact ⟨by simp, by simp, by simp, by simp, by simp⟩)
    have HB1 := Lib.hid hb1; have HBB := Lib.hid (btrans HB.out hb1)
    have HW1 := Lib.hid hW1
    clear hW1 hb1
    obtain ⟨r0, r1, r2, r3, r4⟩ := HV.out
    have htest : (k = 0 ∨ ∃ m t, k = m + 1 ∧ x[m]? = some t ∧ t.id < SI) ∨ (∃ m t, k = m + 1 ∧ x[m]? = some t ∧ ¬ t.id < SI) := by
      rcases Nat.eq_zero_or_pos k with h0 | h0
      · exact .inl (.inl h0)
      · obtain ⟨t, ht⟩ : ∃ t, x[k - 1]? = some t := ⟨_, List.getElem?_eq_getElem (by rw [HN.out]; omega)⟩
        by_cases h : t.id < SI
        · exact .inl (.inr ⟨k - 1, t, by omega, ht, h⟩)
        · exact .inr ⟨k - 1, t, by omega, ht, h⟩
    have HTE := Lib.hid htest; clear htest
    go_upto_region 6 with fail
    rw [HW1.out]
    clear r0 r1 r2 r3 r4
    obtain ⟨x0, x1, x2, x3, x4⟩ := HX1.out
    have hlx := World.block_lt_of_cell? _ _ x0
    rcases HTE.out with hgood | ⟨m, t, hm, ht, hno⟩
    case inr =>
      have HF := Lib.hid (mayVB_no_order ht (show x[m + 1]? = some s by rw [← hm]; exact HS.out) (by rw [HSE.out]; exact hno))
      obtain ⟨_, _, g', o', _, _, _, hp', f0, _⟩ := HA.out m t ht
      cases hp'
      have t0 := cell_stays HB1.out (cell_stays HB.out f0)
      have e5 : IntKind.i64.wrap ((k : Int) - 1) = (m : Int) := by rw [IntKind.wrap_i64]; omega
      have e6 : (m : Int) < (N : Int) := by omega
      have hg3 : decide (0 < k) = true := decide_eq_true (by omega)
      have hdi : SI ≤ t.id := by omega
      clear hm ht f0 hno
      go_quiet (fail)
      go_wp2_with fail
      go_ret
      exact ⟨retB HF.out.symm, below_drewN' HBB.out _⟩
    have HGD := Lib.hid hgood
    clear hgood
    go_cut [27] from 15 to 26 (fun v wx => v = .bool false ∧ ∃ q, wx = W1.drewN q)
    case first =>
      rcases HGD.out with h0 | ⟨m, t, hm, ht, hlt2⟩
      · subst h0
        have hg3 : decide (0 < 0) = false := rfl
        go_quiet (fail)
        go_wp2_with fail
        go_meet
        case rel => exact ⟨rfl, _, rfl⟩
      · obtain ⟨_, _, g', o', _, _, _, hp', f0, _⟩ := HA.out m t ht
        cases hp'
        have t0 := cell_stays HB1.out (cell_stays HB.out f0)
        have e5 : IntKind.i64.wrap ((k : Int) - 1) = (m : Int) := by rw [IntKind.wrap_i64]; omega
        have e6 : (m : Int) < (N : Int) := by omega
        have hg3 : decide (0 < k) = true := decide_eq_true (by omega)
        have hdi : decide (SI ≤ t.id) = false := decide_eq_false (by omega)
        clear hm ht f0 hlt2
        go_quiet (fail)
        go_wp2_with fail
        go_meet
        case rel => exact ⟨rfl, _, rfl⟩
    case rest =>
      obtain ⟨rfl, q, rfl⟩ := hcut
      have HXQ := Lib.hid (HX1.out.below (below_drewN' (Below.refl _ _) q)); have HBQ := Lib.hid (below_drewN' HBB.out q); have HBQ1 := Lib.hid (below_drewN' HB1.out q)
      clear x0 x1 x2 x3 x4 hlx
      obtain ⟨x0, x1, x2, x3, x4⟩ := HXQ.out
      have hlx := World.block_lt_of_cell? _ _ x0
      obtain ⟨WQ, hWQ⟩ : ∃ W, W1.drewN q = W := ⟨_, rfl⟩
      rw [hWQ] at HXQ HBQ HBQ1 x0 x1 x2 x3 x4 hlx ⊢
      clear hWQ
      go_wp2_with fail
      refine (vmayB_any s _ _ ⟨_, _, _, by rw [HSE.out], HND.out.1, HND.out.2.1, HND.out.2.2.keep (keeps_below HBQ1.out)⟩ HM.out).mono ?_
      rintro e w3 ⟨rfl, hb⟩
      have HB3 := Lib.hid (btrans HBQ.out hb)
      clear hb x0 x1 x2 x3 x4 hlx
      obtain ⟨bb, hbb⟩ : ∃ bb, rightN s = bb := ⟨_, rfl⟩
      rw [hbb]
      have HBE := Lib.hid hbb; clear hbb
      cases bb with
      | false =>
        have HF := Lib.hid (mayVB_no_right HS.out HBE.out)
        go_wp2_with fail
        go_ret
        exact ⟨retB HF.out.symm, HB3.out⟩
      | true =>
        go_wp2_with fail
        go_roundw
        case rel =>
          refine ⟨k + 1, by omega, by go_num, fun j a' hj hx' => ?_, fun j a' b' hj hx' hy' => ?_, HB3.out⟩
          · by_cases e : j = k
            · subst e; rw [HS.out] at hx'; cases hx'; exact HBE.out
            · exact HAL.out j a' (by omega) hx'
          · by_cases e : j + 1 = k
            · rcases HGD.out with h0 | ⟨m, t, hm, ht, hlt2⟩
              · omega
              · obtain rfl : j = m := by omega
                rw [ht] at hx'; rw [e, HS.out] at hy'; cases hx'; cases hy'; rw [HSE.out]; exact hlt2
            · exact HOR.out j a' b' (by omega) hx' hy'
        case measure => simp [intOf]; omega
theorem vMay_any (x : List VoD) (v1 : Value) (w : World) (h1 : VolsAt w v1 x) (l1 : SmallTrees x) : Calls Try.prog 33 #[v1] w fun e w' => e = .returned (.bool (mayVB x)) ∧ Below w.heap.size w w' := vMayB_any x v1 w h1 fun d hd => (l1 d hd).big
end Go.Proofs.Ytpcmihgfcaelfaa
namespace Go.Proofs.Ytpcmihgfcaelfaa
open Go.RowKit

theorem alloc_old {W : World} {o x : Obj} {k : Nat} (h : W.heap[k]? = some x) : (W.alloc o).heap[k]? = some x := ((World.grownBy_alloc W o none).block k (Array.getElem?_eq_some_iff.1 h).1 (by simp)).trans h
theorem blk_cells {W : World} {b : Nat} {T : TypeId} {u0 u1 u2 u3 u4 : Value} (h : W.heap[b]? = some (.cells #[u0, u1, u2, u3, u4] T (0, 0))) :
    W.cell? ⟨b, 0, none⟩ = some u0 ∧ W.cell? ⟨b, 1, none⟩ = some u1 ∧ W.cell? ⟨b, 2, none⟩ = some u2 ∧ W.cell? ⟨b, 3, none⟩ = some u3 ∧ W.cell? ⟨b, 4, none⟩ = some u4 := by
  simp [World.cell?, h]
theorem frozen_no {W : World} {b : Nat} {c : Array Value} {T : TypeId} (h : W.heap[b]? = some (.cells c T (0, 0))) (j : Nat) : W.frozen? ⟨b, j, none⟩ = false := by simp [World.frozen?, h]
theorem meas_step {R i : Nat} (h : i < R) : R - (intOf (.int .i64 ((i : Int) + 1))).toNat < R - (intOf (.int .i64 (i : Int))).toNat := by
  simp only [intOf]; omega
theorem btrans2 {w W W' : World} {B : Nat} (h : Below w.heap.size w W) (hb : Below B W W') (hB : w.heap.size ≤ B) : Below w.heap.size w W' := h.trans (hb.mono hB)
theorem below_row {B : Nat} {W0 A C : World} {row : Option Nat} (h : Below B W0 A) (hs : B ≤ A.heap.size) (hg : A.grownBy C row) (hr : ∀ b, b < B → some b ≠ row) : Below B W0 C :=
  ⟨hg.os.trans h.os, hg.tape.trans h.tape, hg.output.trans h.output, Nat.le_trans h.size hg.size, fun k hk => (hg.block k (by omega) (hr k hk)).trans (h.block k hk)⟩
theorem below_low {W W' : World} {B D : Nat} (h : Below D W W') (hD : B ≤ D) : Below B W W' := ⟨h.os, h.tape, h.output, h.size, fun k hk => h.block k (Nat.lt_of_lt_of_le hk hD)⟩
theorem walk_right {d : VoD} {S : Int} (h : rightN d = true) (hS : d.size = S) : walkN d.map 0 S = pairsN d.map := by
  unfold rightN at h
  simp only [Bool.and_eq_true, List.all_eq_true] at h
  obtain ⟨⟨_, h2⟩, h3⟩ := h
  unfold walkN walkP
  rw [if_pos h2, List.filter_eq_self]
  intro x hx
  have := h3 x hx
  unfold pairOk at this
  simp only [Bool.and_eq_true, decide_eq_true_eq] at this
  unfold inB
  rw [← hS, decide_eq_true (show 0 ≤ x.1 by omega), decide_eq_true (show x.1 < d.size by omega)]; rfl
end Go.Proofs.Ytpcmihgfcaelfaa
namespace Go.Proofs.Ytpcmihgfcaelfaa
open Go.RowKit

/-- so many numbers, one behind the other -/
def takeN (s : List UInt8) : Nat → Int → Option (List Int × Int)
  | 0, a => some ([], a)
  | k + 1, a => match takeD s a with
    | some x => (takeN s k x.2).map fun y => (x.1 :: y.1, y.2)
    | none => none
def takeI (s : List UInt8) (a : Int) : Option (List Int × Int) := match takeD s a with
  | some x => if x.1 > (s.length : Int) - x.2 then none else takeN s x.1.toNat x.2
  | none => none
def TakeIEnd (s : ByteArray) (a : Int) (w : World) (e : Ending) (w' : World) : Prop := match takeI s.data.toList a with
  | none => e = .returned (.tuple #[.slice none 0 0, .int .i64 0, .bool false]) ∧ Below w.heap.size w w'
  | some x => ∃ v, e = .returned (.tuple #[v, .int .i64 x.2, .bool true]) ∧ w'.ownsRow w.heap.size 3 1 v x.1.length (intVs x.1) ∧ Below w.heap.size w w'
theorem TakeIEnd.no {s : ByteArray} {a : Int} {w w' : World} (h : takeI s.data.toList a = none) (hb : Below w.heap.size w w') : TakeIEnd s a w (.returned (.tuple #[.slice none 0 0, .int .i64 0, .bool false])) w' := by
  unfold TakeIEnd; rw [h]; exact ⟨rfl, hb⟩
theorem TakeIEnd.yes {s : ByteArray} {a b : Int} {l : List Int} {v : Value} {w w' : World} (h : takeI s.data.toList a = some (l, b)) (ho : w'.ownsRow w.heap.size 3 1 v l.length (intVs l)) (hb : Below w.heap.size w w') : TakeIEnd s a w (.returned (.tuple #[v, .int .i64 b, .bool true])) w' := by
  unfold TakeIEnd; rw [h]; exact ⟨v, rfl, ho, hb⟩
theorem takeI_cut {s : List UInt8} {a : Int} {x : Int × Int} (h : takeD s a = some x) (h2 : ¬ x.1 > (s.length : Int) - x.2) : takeI s a = takeN s x.1.toNat x.2 := by
  unfold takeI; rw [h]; simp only; rw [if_neg h2]
theorem takeI_big {s : List UInt8} {a : Int} {x : Int × Int} (h : takeD s a = some x) (h2 : x.1 > (s.length : Int) - x.2) : takeI s a = none := by
  unfold takeI; rw [h]; simp only; rw [if_pos h2]
theorem takeI_none {s : List UInt8} {a : Int} (h : takeD s a = none) : takeI s a = none := by
  unfold takeI; rw [h]
/-- the rounds: so many numbers are taken -/
def TiRel (s : ByteArray) (w : World) (m b : Nat) (i at_ l : Value) (wr : World) : Prop :=
  ∃ (k : Nat) (c : Int) (pre : List Int), k ≤ m ∧ i = .int .i64 k ∧ at_ = .int .i64 c ∧ pre.length = k ∧ wr.ownsRow w.heap.size 3 1 l k (intVs pre) ∧ Below w.heap.size w wr ∧ takeN s.data.toList m b = (takeN s.data.toList (m - k) c).map fun y => (pre ++ y.1, y.2)
theorem takeN_next {s : List UInt8} {k m : Nat} {c : Int} (h : k < m) : takeN s (m - k) c = match takeD s c with
    | some x => (takeN s (m - (k + 1)) x.2).map fun y => (x.1 :: y.1, y.2)
    | none => none := by
  rw [show m - k = (m - (k + 1)) + 1 by omega, takeN]
theorem takeN_step {s : List UInt8} {k m : Nat} {c : Int} {pre : List Int} {x : Int × Int} {t : Option (List Int × Int)} (h : k < m) (hd : takeD s c = some x) (ht : t = (takeN s (m - k) c).map fun y => (pre ++ y.1, y.2)) : t = (takeN s (m - (k + 1)) x.2).map fun y => ((pre ++ [x.1]) ++ y.1, y.2) := by
  rw [ht, takeN_next h, hd]
  simp only [Option.map_map]
  congr 1
  funext y
  simp
set_option maxRecDepth 100000 in
set_option maxHeartbeats 4000000 in
theorem takeI_any (s : ByteArray) (hs : s.size ≤ 1000000) (a : Int) (w : World) : Calls Try.prog 31 #[.string s, .int .i64 a] w (TakeIEnd s a w) := by
  have hlen : s.data.toList.length = s.size := by simp
  have HC := Lib.hid (fun (b : Int) (w : World) => take_any s (by unfold maxLen; omega) b w)
  cases hd : takeD s.data.toList a with
  | none =>
    have HF := Lib.hid (takeI_none hd)
    have HR := Lib.hid (takeR_none hd)
    clear hd hlen hs
    go_enter Try.func31, Try.ntmps31
    go_wp2_with (go_at_call 30; (with_reducible refine (HC.out _ _).mono ?_); rintro e w' ⟨rfl, rfl⟩; rw [HR.out])
    refine take_ret (TakeIEnd.no HF.out (Below.refl _ _)) ?_
    simp [results, Try.results31, go_sem]
  | some x =>
    obtain ⟨m0, b0⟩ := x
    have hbd := takeD_bd hd
    rw [hlen] at hbd
    simp only at hbd
    obtain ⟨m, rfl⟩ : ∃ m : Nat, m0 = m := ⟨m0.toNat, by omega⟩
    obtain ⟨b, rfl⟩ : ∃ b : Nat, b0 = b := ⟨b0.toNat, by omega⟩
    have HR := Lib.hid (takeR_some hd)
    have hwd : wrap64 ((s.size : Int) - (b : Int)) = (s.size : Int) - (b : Int) := by unfold wrap64; omega
    by_cases hbig : (m : Int) > (s.size : Int) - (b : Int)
    · have HF := Lib.hid (takeI_big hd (by rw [hlen]; exact hbig))
      have c1 : decide ((s.size : Int) - (b : Int) < (m : Int)) = true := by simp only [decide_eq_true_eq]; omega
      clear hd hlen hs hbig hbd
      go_enter Try.func31, Try.ntmps31
      go_wp2_with (go_at_call 30; (with_reducible refine (HC.out _ _).mono ?_); rintro e w' ⟨rfl, rfl⟩; rw [HR.out])
      refine take_ret (TakeIEnd.no HF.out (Below.refl _ _)) ?_
      simp [results, Try.results31, go_sem]
    · have HT := Lib.hid (takeI_cut hd (by rw [hlen]; exact hbig))
      have c1 : decide ((s.size : Int) - (b : Int) < (m : Int)) = false := by simp only [decide_eq_false_iff_not]; omega
      have HB := Lib.hid (show m ≤ 1000000 ∧ b ≤ s.size by omega)
      clear hd hlen hs hbig hbd
      go_enter Try.func31, Try.ntmps31
      go_wp2_with (go_at_call 30; (with_reducible refine (HC.out _ _).mono ?_); rintro e w' ⟨rfl, rfl⟩; rw [HR.out])
      go_loopw [29, 1, 9] (fun i c l wr => TiRel s w m b i c l wr) (fun i _ _ _ => m - (intOf i).toNat)
      case atStart => exact ⟨0, b, [], Nat.zero_le _, rfl, rfl, rfl, World.ownsRow_nil _ _ _ _, Below.refl _ _, by simp⟩
      case round =>
        obtain ⟨k, c, pre, hk, rfl, rfl, hpl, hown, hb, hn⟩ := hrel
        have HOW := Lib.hid hown; have HBL := Lib.hid hb; have HN := Lib.hid hn; have HPL := Lib.hid hpl
        clear hown hb hn hpl hwd c1
        by_cases hlt : k < m
        case neg =>
          obtain rfl : k = m := by omega
          have hmm : decide ((k : Int) < (k : Int)) = false := by simp
          have HF := Lib.hid (TakeIEnd.yes (a := a) (l := pre) (b := c) (HT.out.trans (by rw [show ((k : Nat) : Int).toNat = k by omega, HN.out]; simp [takeN])) (by rw [HPL.out]; exact HOW.out) HBL.out)
          go_wp2_with fail
          refine take_ret HF.out ?_
          simp [results, Try.results31, go_sem]
        case pos =>
          have hki : decide ((k : Int) < (m : Int)) = true := by simp only [decide_eq_true_eq]; omega
          cases hd : takeD s.data.toList c with
          | none =>
            have HF := Lib.hid (TakeIEnd.no (a := a) (HT.out.trans (by rw [show ((m : Nat) : Int).toNat = m by omega, HN.out, takeN_next hlt, hd]; rfl)) HBL.out)
            have HR2 := Lib.hid (takeR_none hd)
            clear hd
            go_wp2_with (go_at_call 30; (with_reducible refine (HC.out _ _).mono ?_); rintro e w' ⟨rfl, rfl⟩; rw [HR2.out])
            refine take_ret HF.out ?_
            simp [results, Try.results31, go_sem]
          | some x =>
            have HR2 := Lib.hid (takeR_some hd)
            have HN2 := Lib.hid (takeN_step hlt hd HN.out)
            obtain ⟨x1, x2⟩ := x
            obtain ⟨g, cp, w2, hrun, hown2, hb2⟩ := int_append wr w.heap.size k _ pre x1 HOW.out (by have := HB.out; omega) HBL.out.size
            have HRUN := Lib.hid hrun; have HOW2 := Lib.hid hown2; have HB2 := Lib.hid (HBL.out.trans hb2)
            clear hd hrun hown2 hb2
            have hwk : wrap64 ((k : Int) + 1) = (k : Int) + 1 := by have := HB.out; unfold wrap64; omega
            go_wp2_with (first | (go_at_call 30; (with_reducible refine (HC.out _ _).mono ?_); rintro e w' ⟨rfl, rfl⟩; rw [HR2.out]) | (at_builtin; refine Lib.wpList_append_run _ rfl _ _ _ _ rfl _ _ rfl rfl _ _ HRUN.out ?_))
            go_roundw
            case rel => exact ⟨k + 1, x2, pre ++ [x1], by omega, by go_num, rfl, by rw [List.length_append, HPL.out]; rfl, HOW2.out, HB2.out, HN2.out⟩
            case measure => first | exact meas_step hlt | (have hm := meas_step hlt; rw [← hwk] at hm; exact hm)
end Go.Proofs.Ytpcmihgfcaelfaa
namespace Go.Proofs.Ytpcmihgfcaelfaa
open Go.RowKit

theorem ow_stay {w w' : World} {B : Nat} {e : TypeId} {k n : Nat} {v : Value} {xs : List Value} (h : w.ownsRow B e k v n xs) (hb : Below w.heap.size w w') : w'.ownsRow B e k v n xs :=
  h.kept (grown_of_below hb none) (by cases v.ownBlock <;> simp)
set_option maxRecDepth 100000 in
set_option maxHeartbeats 4000000 in
theorem takeIR_any (s : ByteArray) (hs : s.size ≤ 1000000) (a : Int) (w : World) : Calls Try.prog 35 #[.string s, .int .i64 a] w (TakeIEnd s a w) := by
  have hlen : s.data.toList.length = s.size := by simp
  have HC := Lib.hid (fun (b : Int) (w : World) => takeR_any s (by unfold maxLen; omega) b w)
  cases hd : takeD s.data.toList a with
  | none =>
    have HF := Lib.hid (takeI_none hd)
    have HR := Lib.hid (takeR_none hd)
    clear hd hlen hs
    go_enter Try.func35, Try.ntmps35
    go_wp2_with (go_at_call 34; (with_reducible refine (HC.out _ _).mono ?_); rintro e w' ⟨rfl, hbl⟩; rw [HR.out])
    refine take_ret (TakeIEnd.no HF.out hbl) ?_
    simp [results, Try.results35, go_sem]
  | some x =>
    obtain ⟨m0, b0⟩ := x
    have hbd := takeD_bd hd
    rw [hlen] at hbd
    simp only at hbd
    obtain ⟨m, rfl⟩ : ∃ m : Nat, m0 = m := ⟨m0.toNat, by omega⟩
    obtain ⟨b, rfl⟩ : ∃ b : Nat, b0 = b := ⟨b0.toNat, by omega⟩
    have HR := Lib.hid (takeR_some hd)
    have hwd : wrap64 ((s.size : Int) - (b : Int)) = (s.size : Int) - (b : Int) := by unfold wrap64; omega
    by_cases hbig : (m : Int) > (s.size : Int) - (b : Int)
    · have HF := Lib.hid (takeI_big hd (by rw [hlen]; exact hbig))
      have c1 : decide ((s.size : Int) - (b : Int) < (m : Int)) = true := by simp only [decide_eq_true_eq]; omega
      clear hd hlen hs hbig hbd
      go_enter Try.func35, Try.ntmps35
      go_wp2_with (go_at_call 34; (with_reducible refine (HC.out _ _).mono ?_); rintro e w' ⟨rfl, hbl⟩; rw [HR.out])
      refine take_ret (TakeIEnd.no HF.out hbl) ?_
      simp [results, Try.results35, go_sem]
    · have HT := Lib.hid (takeI_cut hd (by rw [hlen]; exact hbig))
      have c1 : decide ((s.size : Int) - (b : Int) < (m : Int)) = false := by simp only [decide_eq_false_iff_not]; omega
      have HB := Lib.hid (show m ≤ 1000000 ∧ b ≤ s.size by omega)
      clear hd hlen hs hbig hbd
      go_enter Try.func35, Try.ntmps35
      go_wp2_with (go_at_call 34; (with_reducible refine (HC.out _ _).mono ?_); rintro e w' ⟨rfl, hbl⟩; rw [HR.out])
      go_loopw [11, 8, 10] (fun i c l wr => TiRel s w m b i c l wr) (fun i _ _ _ => m - (intOf i).toNat)
      case atStart => exact ⟨0, b, [], Nat.zero_le _, rfl, rfl, rfl, by have := World.ownsRow_made w' #[] 0 (base := w.heap.size) (e := 3) (size := 1) hbl.size (by unfold maxLen; omega) rfl; simpa [intVs] using this, hbl.alloc hbl.size _, by simp⟩
      case round =>
        obtain ⟨k, c, pre, hk, rfl, rfl, hpl, hown, hb, hn⟩ := hrel
        have HOW := Lib.hid hown; have HBL := Lib.hid hb; have HN := Lib.hid hn; have HPL := Lib.hid hpl
        clear hown hb hn hpl hwd c1
        by_cases hlt : k < m
        case neg =>
          obtain rfl : k = m := by omega
          have hmm : decide ((k : Int) < (k : Int)) = false := by simp
          have HF := Lib.hid (TakeIEnd.yes (a := a) (l := pre) (b := c) (HT.out.trans (by rw [show ((k : Nat) : Int).toNat = k by omega, HN.out]; simp [takeN])) (by rw [HPL.out]; exact HOW.out) HBL.out)
          go_wp2_with fail
          refine take_ret HF.out ?_
          simp [results, Try.results35, go_sem]
        case pos =>
          have hki : decide ((k : Int) < (m : Int)) = true := by simp only [decide_eq_true_eq]; omega
          cases hd : takeD s.data.toList c with
          | none =>
            have HF := Lib.hid (HT.out.trans (by rw [show ((m : Nat) : Int).toNat = m by omega, HN.out, takeN_next hlt, hd]))
            have HR2 := Lib.hid (takeR_none hd)
            clear hd
            go_wp2_with (go_at_call 34; (with_reducible refine (HC.out _ _).mono ?_); rintro e w2 ⟨rfl, hbl2⟩; rw [HR2.out])
            refine take_ret (TakeIEnd.no HF.out (btrans2 HBL.out hbl2 HBL.out.size)) ?_
            simp [results, Try.results35, go_sem]
          | some x =>
            have HR2 := Lib.hid (takeR_some hd)
            have HN2 := Lib.hid (takeN_step hlt hd HN.out)
            obtain ⟨x1, x2⟩ := x
            clear hd
            have hwk : wrap64 ((k : Int) + 1) = (k : Int) + 1 := by have := HB.out; unfold wrap64; omega
            go_wp2_with (first | (go_at_call 34; (with_reducible refine (HC.out _ _).mono ?_); rintro e w2 ⟨rfl, hbl2⟩; rw [HR2.out]; obtain ⟨g, cp, w3, hrun, hown2, hb2⟩ := int_append w2 w.heap.size k _ pre x1 (ow_stay HOW.out hbl2) (by have := HB.out; omega) (Nat.le_trans HBL.out.size hbl2.size); have HRUN := Lib.hid hrun; have HOW2 := Lib.hid hown2; have HB2 := Lib.hid ((btrans2 HBL.out hbl2 HBL.out.size).trans hb2); clear hrun hown2 hb2) | (at_builtin; refine Lib.wpList_append_run _ rfl _ _ _ _ rfl _ _ rfl rfl _ _ HRUN.out ?_))
            go_roundw
            case rel => exact ⟨k + 1, x2, pre ++ [x1], by omega, by go_num, rfl, by rw [List.length_append, HPL.out]; rfl, HOW2.out, HB2.out, HN2.out⟩
            case measure => first | exact meas_step hlt | (have hm := meas_step hlt; rw [← hwk] at hm; exact hm)
end Go.Proofs.Ytpcmihgfcaelfaa
namespace Go.Proofs.Ytpcmihgfcaelfaa
open Go.RowKit

def shareK (n m k : Nat) : List Int := (List.range m).map fun i => if i < k then (shareN n m i : Int) else 0
theorem shareK_len (n m k : Nat) : (intVs (shareK n m k)).length = m := by unfold intVs shareK; simp
theorem shareK_zero (n m : Nat) : (madeCells (Value.int .i64 0).cells (m * 1)).toList = intVs (shareK n m 0) := by
  have e : (Value.int .i64 0).cells = #[Value.int .i64 0] := rfl
  rw [e, toList_madeCells_one, Nat.mul_one]
  unfold intVs shareK
  apply List.ext_getElem
  · simp
  · intro i h1 h2; simp
theorem shareK_end (n : Nat) : shareK n (manyQ n) (manyQ n) = sharesQ n := by
  unfold shareK sharesQ
  apply List.map_congr_left
  intro i hi
  rw [List.mem_range] at hi
  rw [if_pos hi]
theorem shareK_at {n m k i : Nat} (h : i < (intVs (shareK n m k)).length) : (intVs (shareK n m k))[i] = .int .i64 (if i < k then (shareN n m i : Int) else 0) := by simp [intVs, shareK]
theorem shareK_set {n m k : Nat} (_hk : k < m) : (intVs (shareK n m k)).set k (.int .i64 (shareN n m k : Nat)) = intVs (shareK n m (k + 1)) := by
  apply List.ext_getElem
  · rw [List.length_set, shareK_len, shareK_len]
  · intro i h1 h2
    rw [List.getElem_set, shareK_at h2]
    by_cases hi : k = i
    · subst hi; rw [if_pos rfl, if_pos (by omega)]
    · rw [if_neg hi, shareK_at]
      by_cases h3 : i < k
      · rw [if_pos h3, if_pos (by omega)]
      · rw [if_neg h3, if_neg (by omega)]
def ShRel (w : World) (n m : Nat) (i : Value) (wr : World) : Prop :=
  ∃ k : Nat, k ≤ m ∧ i = .int .i64 k ∧ wr.ownsRow w.heap.size 3 1 (.slice (some ⟨w.heap.size, 0, none⟩) m m) m (intVs (shareK n m k)) ∧ Below w.heap.size w wr
set_option maxRecDepth 100000 in
set_option maxHeartbeats 4000000 in
theorem shares_any (n : Nat) (h1 : 1 ≤ n) (h2 : n ≤ 1000000) (w : World) : Calls Try.prog 69 #[.int .i64 n] w fun e w' => ∃ v, e = .returned v ∧ w'.ownsRow w.heap.size 3 1 v (manyQ n) (intVs (sharesQ n)) ∧ Below w.heap.size w w' := by
  obtain ⟨m, hm⟩ : ∃ m, manyQ n = m := ⟨_, rfl⟩
  have hm1 : 1 ≤ m := by rw [← hm]; unfold manyQ; omega
  have hm2 : m ≤ 1000000 := by rw [← hm]; unfold manyQ; omega
  have hq : Int.tdiv (n + 4 - 1) 4 = (m : Int) := by
    rw [show (n : Int) + 4 - 1 = ((n + 3 : Nat) : Int) by omega, show (4 : Int) = ((4 : Nat) : Int) from rfl, ← Int.ofNat_tdiv, ← hm]; unfold manyQ; rfl
  have hw1 : wrap64 ((n : Int) + 4) = (n : Int) + 4 := by unfold wrap64; omega
  have hw2 : wrap64 ((n : Int) + 4 - 1) = (n : Int) + 4 - 1 := by unfold wrap64; omega
  obtain ⟨i0, hi, hz0, hz1, hz2⟩ := info_parts infoI
  obtain ⟨w1, hmk, hown0, hg0⟩ := run_make_full (P := Try.prog) w w.heap.size 40 3 i0 (.int .i64 0) 1 Try.underlying40 hi hz0 hz1 .i64 .i64 m (by rw [hz2]; omega) (by unfold maxLen; omega) (Nat.le_refl _)
  rw [shareK_zero n m] at hown0
  have hmk' : (Instr.makeSlice 40 (.int .i64 m) (.int .i64 m)).run Try.prog w = .ok (.slice (some ⟨w.heap.size, 0, none⟩) m m) w1 := hmk
  have HB1 := Lib.hid (show Below w.heap.size w w1 from (Below.refl _ _).grown hg0 (Nat.le_refl _) (fun k e => by cases e))
  have HO1 := Lib.hid hown0; have HM := Lib.hid hm; have HM2 := Lib.hid hm2
  clear hmk hown0 hg0 hm hi hz0 hz1 hz2
  go_enter Try.func69, Try.ntmps69
  go_wp2_with fail
  go_loopw [14] (fun i wr => ShRel w n m i wr) (fun i _ => m - (intOf i).toNat)
  case atStart => exact ⟨0, Nat.zero_le _, rfl, HO1.out, HB1.out⟩
  case round =>
    obtain ⟨k, hk, rfl, hown, hb⟩ := hrel
    have HOW := Lib.hid hown; have HB := Lib.hid hb
    clear hown hb HO1 HB1 hmk' hq hw1 hw2
    by_cases hlt : k < m
    case neg =>
      obtain rfl : k = m := by omega
      have hmm : decide ((k : Int) < (k : Int)) = false := by simp
      go_wp2_with fail
      refine take_ret (v := .slice (some ⟨w.heap.size, 0, none⟩) k k) ⟨_, rfl, ?_, HB.out⟩ ?_
      · have h := HOW.out
        have e := shareK_end n
        rw [HM.out] at e
        rw [e] at h
        rw [HM.out]; exact h
      · simp [results, Try.results69, go_sem]
    case pos =>
      have hki : (k : Int) < (m : Int) := by omega
      have hlen : k < (intVs (shareK n m k)).length := by rw [shareK_len]; exact hlt
      obtain ⟨u, hc⟩ : ∃ u, wr.cell? ⟨w.heap.size, k, none⟩ = some u := ⟨_, ow_cell HOW.out k hlen⟩
      have hf := ow_free HOW.out k
      have hm0 : ¬ m = 0 := by omega
      have hd : Int.tdiv (n : Int) (m : Int) = ((n / m : Nat) : Int) := by rw [← Int.ofNat_tdiv]
      have hr : Int.tmod (n : Int) (m : Int) = ((n % m : Nat) : Int) := by rw [← Int.ofNat_tmod]
      obtain ⟨d, hdd⟩ : ∃ d, n / m = d := ⟨_, rfl⟩
      obtain ⟨r, hrr⟩ : ∃ r, n % m = r := ⟨_, rfl⟩
      rw [hdd] at hd; rw [hrr] at hr
      have hd2 : d ≤ 1000000 := by rw [← hdd]; exact Nat.le_trans (Nat.div_le_self _ _) h2
      have HS := Lib.hid (show shareN n m k = d + if k < r then 1 else 0 by unfold shareN; rw [hdd, hrr])
      have HD2 := Lib.hid hd2
      clear hlen hdd hrr hd2
      have hwk : wrap64 ((k : Int) + 1) = (k : Int) + 1 := by have := HM2.out; unfold wrap64; omega
      by_cases hkr : k < r
      · have hkr2 : (k : Int) < (r : Int) := by omega
        have hkr3 : decide ((k : Int) < (r : Int)) = true := by simp only [decide_eq_true_eq]; omega
        go_wp2_with fail
        go_roundw
        case rel =>
          have e1 : wrap64 (d : Int) = (d : Int) := by have := HD2.out; unfold wrap64; omega
          have e2 : wrap64 ((d : Int) + 1) = ((shareN n m k : Nat) : Int) := by rw [HS.out, if_pos hkr]; have := HD2.out; unfold wrap64; push_cast; omega
          rw [e1, e2]
          have h := ow_set (ow_set HOW.out k (.int .i64 (d : Int)) (by rw [shareK_len]; exact hlt)) k (.int .i64 (shareN n m k : Nat)) (by rw [List.length_set, shareK_len]; exact hlt)
          rw [List.set_set, shareK_set hlt] at h
          exact ⟨k + 1, by omega, by go_num, h, (HB.out.setCell (Nat.le_refl _) _).setCell (Nat.le_refl _) _⟩
        case measure => first | exact meas_step hlt | (have hm := meas_step hlt; rw [← hwk] at hm; exact hm)
      · have hkr2 : ¬ (k : Int) < (r : Int) := by omega
        have hkr3 : decide ((k : Int) < (r : Int)) = false := by simp only [decide_eq_false_iff_not]; omega
        go_wp2_with fail
        go_roundw
        case rel =>
          have e1 : wrap64 (d : Int) = ((shareN n m k : Nat) : Int) := by rw [HS.out, if_neg hkr]; have := HD2.out; unfold wrap64; push_cast; omega
          rw [e1]
          have h := ow_set HOW.out k (.int .i64 (shareN n m k : Nat)) (by rw [shareK_len]; exact hlt)
          rw [shareK_set hlt] at h
          exact ⟨k + 1, by omega, by go_num, h, HB.out.setCell (Nat.le_refl _) _⟩
        case measure => first | exact meas_step hlt | (have hm := meas_step hlt; rw [← hwk] at hm; exact hm)
end Go.Proofs.Ytpcmihgfcaelfaa
namespace Go.Proofs.Ytpcmihgfcaelfaa
open Go.RowKit

theorem infoN : (Try.prog.info? 43).map (fun i => (i.zero, i.size, i.bytes)) = some (some (.agg #[.slice none 0 0, .slice none 0 0, .slice none 0 0]), 3, 72) := by kernel_rfl

end Go.Proofs.Ytpcmihgfcaelfaa
namespace Go.Proofs.Ytpcmihgfcaelfaa
open Go.RowKit

/-- a block of plain cells -/
def FreeB (w : World) (b : Nat) : Prop := ∃ c t, w.heap[b]? = some (.cells c t (0, 0))
def IntT (W : World) (q : Nat) : Prop := ∃ c, W.heap[q]? = some (.cells c 3 (0, 0))
/-- ints of own's making -/
def IntF (B : Nat) (W : World) : Nat → Prop := fun q => B ≤ q ∧ IntT W q
/-- where everything is done each node reads as it should -/
def OwnF (B : Nat) (W : World) : Nat → Prop := fun q => B ≤ q ∧ FreeB W q
theorem free_below {w W : World} {q : Nat} (h : FreeB w q) (hb : Below w.heap.size w W) : FreeB W q := by
  obtain ⟨c, t, hc⟩ := h
  exact ⟨c, t, (hb.block q (Array.getElem?_eq_some_iff.1 hc).1).trans hc⟩
theorem own_keep {W W' : World} {B B' b : Nat} (hg : W.grownBy W' (some b)) (hb : b < B) (hB : B' ≤ B) : Keeps (mask (OwnF B W) W) (mask (OwnF B' W') W') := mask_keeps fun a v hf hv => by
  have hne : some a.block ≠ some b := fun e => by injection e with e; have := hf.1; omega
  refine ⟨⟨by have := hf.1; omega, ?_⟩, hg.cell hv hne⟩
  obtain ⟨c, t, hc⟩ := hf.2
  exact ⟨c, t, (hg.block a.block (Array.getElem?_eq_some_iff.1 hc).1 hne).trans hc⟩
theorem set_below {w W : World} {B : Nat} (h : Below B w W) (j : Nat) (u : Value) : Below B w (W.setCell ⟨B, j, none⟩ u) :=
  have hg := grown_set W B j u
  ⟨hg.os.trans h.os, hg.tape.trans h.tape, hg.output.trans h.output, Nat.le_trans h.size hg.size, fun k hk => (Below.heap_setCell _ _ _ k (fun e => by simp only at e; omega)).trans (h.block k hk)⟩
def OwnF2 (B : Nat) (v : Value) (W : World) : Nat → Prop := fun b => OwnF B W b ∧ some b ≠ v.ownBlock
/-- another row than this one -/
def Apart (u v : Value) : Prop := u.ownBlock = none ∨ u.ownBlock ≠ v.ownBlock
/-- what an append onto v leaves of the other rows -/
def Others (W w2 : World) (v v' : Value) : Prop := ∀ (B' e' k' : Nat) (u : Value) (m : Nat) (ys : List Value), W.ownsRow B' e' k' u m ys → Apart u v → w2.ownsRow B' e' k' u m ys ∧ Apart u v' ∧ Apart v' u
theorem others_of {W W1 w2 : World} {v v' : Value} (ha : ∀ (B' e' k' : Nat) (u : Value) (m : Nat) (ys : List Value), W.ownsRow B' e' k' u m ys → W1.ownsRow B' e' k' u m ys) (hg : W1.grownBy w2 v.ownBlock) (hb : v'.ownBlock = v.ownBlock ∨ v'.ownBlock = some W1.heap.size) : Others W w2 v v' := by
  intro B' e' k' u m ys h hap
  have h1 := ha B' e' k' u m ys h
  have h2 : u.ownBlock = none ∨ u.ownBlock ≠ v'.ownBlock := by
    rcases hap with hap | hap
    · exact .inl hap
    · rcases hb with hb | hb
      · exact .inr (by rw [hb]; exact hap)
      · refine .inr fun e => ?_
        rw [hb] at e
        have := (h1.lt _ e).2; omega
  refine ⟨h1.kept hg hap, h2, ?_⟩
  rcases h2 with h2 | h2
  · rcases hb' : v'.ownBlock with _ | b
    · exact .inl hb'
    · exact .inr (by rw [hb', h2]; simp)
  · exact .inr fun e => h2 e.symm
/-- cloned ints -/
theorem ints_cloned {B : Nat} {W : World} {v : Value} {l : List Int} (hl : ∀ x ∈ l, i64B x) (h : W.ownsRow B 3 1 v l.length (intVs l)) : IntsAt (mask (IntF B W) W) v l := by
  rcases ow_slice h with ⟨hv, hn, _⟩ | ⟨g, cap, hv⟩
  · exact ⟨none, 0, by rw [hv, hn], by omega, by unfold maxLen; omega, fun i x hx => by rw [List.eq_nil_of_length_eq_zero hn] at hx; simp at hx⟩
  · subst hv
    obtain ⟨cur, hc, hb, h3, h4, _⟩ := own_block h
    refine ⟨_, cap, rfl, h3, h4, fun i x hx => ⟨hl x (List.mem_of_getElem? hx), g, 0, rfl, mask_cell.2 ⟨⟨hb, cur, hc⟩, ?_⟩⟩⟩
    have hi := (List.getElem?_eq_some_iff.1 hx).1
    have := ow_cell h i (by unfold intVs; rw [List.length_map]; exact hi)
    rw [Nat.zero_add, this]
    unfold intVs
    rw [List.getElem_map]
    obtain ⟨_, rfl⟩ := List.getElem?_eq_some_iff.1 hx
    rfl
theorem own_shape {w : World} {B : Nat} {e : TypeId} {k n : Nat} {v : Value} {xs : List Value} (h : w.ownsRow B e k v n xs) : ∃ p m c, v = .slice p m c := by
  rcases ow_slice h with ⟨h1, _⟩ | ⟨g, cap, h1⟩
  · exact ⟨_, _, _, h1⟩
  · exact ⟨_, _, _, h1⟩
theorem kids_src {w : World} {F : Nat → Prop} {g o : Nat} {l : List NodeD} (h : ∀ j t, l[j]? = some t → KidAt (mask F w) (some ⟨g, o, none⟩) j t) :
    ∃ xs : List Value, SrcAt w (some ⟨g, o, none⟩) l.length 3 xs ∧ ∀ j t, l[j]? = some t → ∃ x y z, xs[j * 3]? = some x ∧ xs[j * 3 + 1]? = some y ∧ xs[j * 3 + 2]? = some z ∧ NodeAt (mask F w) t x y z := by
  have hcell : ∀ i, i < l.length * 3 → ∃ u, w.cell? ⟨g, o + i, none⟩ = some u ∧ u.oneCell' = true := fun i hi => by
    obtain ⟨t, ht⟩ : ∃ t, l[i / 3]? = some t := ⟨_, List.getElem?_eq_getElem (by omega)⟩
    obtain ⟨g', o', x, y, z, e, e1, e2, e3, e4⟩ := h (i / 3) t ht
    injection e with e; injection e with e5 e6; subst e5 e6
    obtain ⟨pu, nu, cu, pv, nv, cv, pw, nw, cw, rfl, rfl, rfl⟩ := node_slices e4
    have hm : i % 3 = 0 ∨ i % 3 = 1 ∨ i % 3 = 2 := by omega
    rcases hm with hm | hm | hm
    · refine ⟨.slice pu nu cu, ?_, rfl⟩; rw [show o + i = o + i / 3 * 3 by omega]; exact (mask_cell.1 e1).2
    · refine ⟨.slice pv nv cv, ?_, rfl⟩; rw [show o + i = o + i / 3 * 3 + 1 by omega]; exact (mask_cell.1 e2).2
    · refine ⟨.slice pw nw cw, ?_, rfl⟩; rw [show o + i = o + i / 3 * 3 + 2 by omega]; exact (mask_cell.1 e3).2
  refine ⟨(List.range (l.length * 3)).map fun i => (w.cell? ⟨g, o + i, none⟩).getD undef, ⟨by simp, fun h => (by cases h), fun u hu => ?_, fun a ha j u hu => ?_⟩, fun j t ht => ?_⟩
  · rw [List.mem_map] at hu
    obtain ⟨i, hi, rfl⟩ := hu
    obtain ⟨u, h1, h2⟩ := hcell i (List.mem_range.1 hi)
    rw [h1]; exact h2
  · injection ha with ha; subst ha
    rw [List.getElem?_map] at hu
    by_cases hj : j < l.length * 3
    · rw [List.getElem?_range hj] at hu
      obtain ⟨u', h1, h2⟩ := hcell j hj
      simp only [Option.map_some, h1, Option.getD_some, Option.some.injEq] at hu
      subst hu
      rw [ow_at']; exact h1
    · rw [List.getElem?_eq_none (by simpa using hj)] at hu; cases hu
  · obtain ⟨g', o', x, y, z, e, e1, e2, e3, e4⟩ := h j t ht
    injection e with e; injection e with e5 e6; subst e5 e6
    have hj := (List.getElem?_eq_some_iff.1 ht).1
    refine ⟨x, y, z, ?_, ?_, ?_, e4⟩
    · rw [List.getElem?_map, List.getElem?_range (by omega), Option.map_some, (mask_cell.1 e1).2]; rfl
    · rw [List.getElem?_map, List.getElem?_range (by omega), Option.map_some, show o + (j * 3 + 1) = o + j * 3 + 1 by omega, (mask_cell.1 e2).2]; rfl
    · rw [List.getElem?_map, List.getElem?_range (by omega), Option.map_some, show o + (j * 3 + 2) = o + j * 3 + 2 by omega, (mask_cell.1 e3).2]; rfl
end Go.Proofs.Ytpcmihgfcaelfaa
