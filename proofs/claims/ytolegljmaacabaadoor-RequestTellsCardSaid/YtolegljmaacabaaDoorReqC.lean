/- The walk of strings.SplitSeq at one byte: it gives the parts of a text. -/
import Derived.Test.YtolegljmaacabaaDoorRangeSt
import Derived.Test.YtolegljmaacabaaDoorWordsP
import Derived.Test.YtolegljmaacabaaDoorShelf
import Derived.Test.YtolegljmaacabaaDoorOwn
import Derived.RangeFuncNested
import Derived.RangeFuncBound
import Derived.RangeFuncCalls
import Derived.Shelf.Abstract
import Derived.Shelf.RegionOpen
import Derived.OwnWalkIn
import Derived.TacticsInMore
import Derived.LoopNIn
import Derived.LoopIn
import Derived.Outline
namespace Go.Proofs.YtolegljmaacabaaDoor
open Go.RowKit Go.Shelf
attribute [local go_sem] Oper.semAt_some

theorem idx_any (s : ByteArray) (v : Int) (h : Lib.indexByte s.data.toList 32 = v) (w : World) : Calls Tryd.prog 54 #[.string s, .string ⟨#[32]⟩] w fun e w' => e = .returned (.int .i64 v) ∧ w = w' :=
  (Tryd.strings_Index_one s 32 w).mono fun _ _ ⟨h1, h2⟩ => ⟨by rw [h1, h], h2.symm⟩
def leftSt (b : Nat) (W : World) : Nat := match W.cell? ⟨b, 0, none⟩ with | some (.string s) => s.size | _ => 0
theorem leftSt_eq {b : Nat} {W : World} {s : ByteArray} (h : W.cell? ⟨b, 0, none⟩ = some (.string s)) : leftSt b W = s.size := by unfold leftSt; rw [h]

def SplitRel (b : Nat) (s : ByteArray) (J : List ByteArray → World → Prop) (wr : World) : Prop :=
  ∃ (pre : List ByteArray) (rest : ByteArray), wr.frozen? ⟨b, 0, none⟩ = false ∧ wr.cell? ⟨b, 0, none⟩ = some (.string rest) ∧ wr.cell? ⟨b + 1, 0, none⟩ = some (.string ⟨#[32]⟩) ∧ wr.cell? ⟨b + 2, 0, none⟩ = some (.int .i64 0) ∧
    J pre wr ∧ pre.map (fun x => x.data.toList) ++ splitL rest.data.toList = splitL s.data.toList ∧ rest.size ≤ s.size

set_option maxRecDepth 100000 in
set_option maxHeartbeats 1000000 in
theorem split_in (n : Nat) (b l : Nat) (s : ByteArray) (hs : s.size ≤ maxLen) (J : List ByteArray → World → Prop)
    (hJ : ∀ s A B row, J s A → A.grownBy B row → (∀ r, row = some r → r = b) → J s B)
    (hY : ∀ pre x W1, J pre W1 → pre.length < s.size + 1 → YieldAt Fence.wide (n - 1) Tryd.prog l #[.string x] W1 fun e W' => e = .returned (.bool true) ∧ J (pre ++ [x]) W' ∧ Span b (b + 3) W1 W')
    (W : World) (h0 : J [] W) (c0 : W.cell? ⟨b, 0, none⟩ = some (.string s)) (f0 : W.frozen? ⟨b, 0, none⟩ = false) (c1 : W.cell? ⟨b + 1, 0, none⟩ = some (.string ⟨#[32]⟩)) (c2 : W.cell? ⟨b + 2, 0, none⟩ = some (.int .i64 0)) :
    CallsIn Fence.wide n Tryd.prog 52 #[.func (.yield l) #[] #[], .pointer (some ⟨b + 1, 0, none⟩), .pointer (some ⟨b, 0, none⟩), .pointer (some ⟨b + 2, 0, none⟩)] W fun e W' => (∃ v, e = .returned v) ∧
      ∃ xs : List ByteArray, xs.map (fun x => x.data.toList) = splitL s.data.toList ∧ J xs W' := by
  unfold maxLen at hs
  refine callsIn_of_wp Tryd.func52 rfl trivial ?_ rfl
  simp only [Tryd.ntmps52, List.size_toArray, List.length_cons, List.length_nil, Nat.reduceAdd, Nat.reduceSub, Array.replicate_succ, Array.replicate_zero, List.push_toArray, List.append_toArray, List.nil_append, List.cons_append]
  gi_wp2_with fail
  gi_loopw [7, 8] (fun _ _ wr => SplitRel b s J wr) (fun _ _ wr => leftSt b wr)
  case atStart => exact ⟨[], s, f0, c0, c1, c2, h0, rfl, Nat.le_refl _⟩
  case round =>
    obtain ⟨pre, rest, f0, c0, c1, c2, hj, hsp, hrs⟩ := hrel
    have hlen : (pre.map fun x => x.data.toList).length + (splitL rest.data.toList).length = (splitL s.data.toList).length := by rw [← hsp, List.length_append]
    have hb1 := splitL_length s.data.toList
    have hb2 : 0 < (splitL rest.data.toList).length := List.length_pos_iff.2 (splitL_ne _)
    rw [List.length_map] at hlen
    have hsz : s.data.toList.length = s.size := by simp
    have hpl : pre.length < s.size + 1 := by omega
    clear hlen hb1 hb2 hsz
    rcases Int.lt_or_le (Lib.indexByte rest.data.toList 32) 0 with hi | hi
    · have hge := Lib.indexByte_ge rest.data.toList 32
      have hi1 : Lib.indexByte rest.data.toList 32 = -1 := by omega
      have hone := splitL_none hi1
      have hcall := idx_any rest (-1) hi1
      have HC := Lib.hid hcall; have HS := Lib.hid hsp; have HO := Lib.hid hone
      clear hcall hsp hone hge hi hi1
      obtain ⟨fn, tmps, assign, body, hy, hR⟩ := hY pre rest wr hj hpl
      gi_wp2_with fail
      refine ⟨trivial, fun h => by simp [Fence.wide] at h, ?_⟩
      refine (callsIn_wide.2 (HC.out _)).mono ?_
      rintro e w' ⟨rfl, rfl⟩
      gi_wp2_with fail
      refine ⟨fun h => by simp [Fence.wide] at h, ?_⟩
      refine hR.mono ?_
      rintro e W3 ⟨rfl, hJ3, hk3⟩
      gi_wp2_with fail
      go_end0
      exact ⟨⟨_, rfl⟩, pre ++ [rest], by rw [List.map_append, ← HS.out, HO.out]; rfl, hJ3⟩
    · obtain ⟨o, ho⟩ := Int.eq_ofNat_of_zero_le hi
      obtain ⟨holt, hsome⟩ := splitL_some ho
      have hcall := idx_any rest (o : Int) ho
      have hol : o < rest.size := by simpa using holt
      have hd : (rest.extract 0 o).data.toList = rest.data.toList.take o := by rw [Lib.extract_data]; simp
      have hd2 : (rest.extract (o + 1) rest.size).data.toList = rest.data.toList.drop (o + 1) := by rw [Lib.extract_data]; exact List.take_of_length_le (by simp)
      have HC := Lib.hid hcall; have HS := Lib.hid hsp; have HO := Lib.hid hsome; have HD := Lib.hid hd; have HD2 := Lib.hid hd2
      clear hcall hsp hsome hi ho holt hd hd2
      obtain ⟨fn, tmps, assign, body, hy, hR⟩ := hY pre (rest.extract 0 o) wr hj hpl
      gi_wp2_with fail
      refine ⟨trivial, fun h => by simp [Fence.wide] at h, ?_⟩
      refine (callsIn_wide.2 (HC.out _)).mono ?_
      rintro e w' ⟨rfl, rfl⟩
      gi_wp2_with fail
      refine ⟨fun h => by simp [Fence.wide] at h, ?_⟩
      refine hR.mono ?_
      rintro e W3 ⟨rfl, hJ3, hk3⟩
      have k0 := (hk3.cell (o := 0) (Nat.le_refl b) (by omega)).trans c0
      have k1 := (hk3.cell (b := b + 1) (o := 0) (by omega) (by omega)).trans c1
      have k2 := (hk3.cell (b := b + 2) (o := 0) (by omega) (by omega)).trans c2
      have kf := (hk3.frozen (o := 0) (Nat.le_refl b) (by omega)).trans f0
      gi_wp2_with fail
      have n0 := World.cell?_setCell_same' W3 ⟨b, 0, none⟩ (.string (rest.extract (o + 1) rest.size)) (by rw [k0]; rfl)
      have hsz : (rest.extract (o + 1) rest.size).size = rest.size - (o + 1) := by simp [ByteArray.size_extract]
      refine ⟨⟨pre ++ [rest.extract 0 o], rest.extract (o + 1) rest.size, ?_, n0, ?_, ?_, ?_, ?_, by omega⟩, ?_⟩
      · rw [World.frozen?_setCell]; exact kf
      · rw [World.cell?_setCell_other _ _ _ _ (by simp)]; exact k1
      · rw [World.cell?_setCell_other _ _ _ _ (by simp)]; exact k2
      · exact hJ _ _ _ (some b) hJ3 (grownBy_setCell' W3 b _) (fun r e => by cases e; rfl)
      · rw [List.map_append, ← HS.out, HO.out, ← HD2.out, ← HD.out]; simp
      · rw [leftSt_eq n0, leftSt_eq c0, hsz]; omega

theorem strs_map {xs ys : List ByteArray} : xs.map (fun x => x.data.toList) = ys.map (fun x => x.data.toList) → xs = ys := by
  intro h
  refine (List.map_inj_right (fun a b e => ?_)).1 h
  exact Go.WideShapes.bytes_inj e

/-- strings.SplitSeq(s, blank): the iterator; its three boxes -/
theorem seq_any (s : ByteArray) (w : World) : Calls Tryd.prog 22 #[.string s, .string ⟨#[32]⟩] w fun e w' =>
    e = .returned (.func (.func 52) #[] #[.pointer (some ⟨w.heap.size + 1, 0, none⟩), .pointer (some ⟨w.heap.size, 0, none⟩), .pointer (some ⟨w.heap.size + 2, 0, none⟩)]) ∧
    w' = ((w.alloc (.cells #[.string s] 9)).alloc (.cells #[.string ⟨#[32]⟩] 9)).alloc (.cells #[.int .i64 0] 3) := by
  have hmf : ∀ (fn : Fn) (first cap : Array Value) (w : World), (Instr.makeFunc fn first cap).run Tryd.prog w = .ok (.func fn first cap) w := fun _ _ _ _ => rfl
  go_enter Tryd.func22, Tryd.ntmps22
  go_wp2
  go_ret
  exact ⟨rfl, rfl⟩

theorem split_seq (n b : Nat) (s : ByteArray) (hs : s.size ≤ maxLen) (w : World) (hb : b + 2 < w.heap.size)
    (c0 : w.cell? ⟨b, 0, none⟩ = some (.string s)) (f0 : w.frozen? ⟨b, 0, none⟩ = false) (c1 : w.cell? ⟨b + 1, 0, none⟩ = some (.string ⟨#[32]⟩)) (c2 : w.cell? ⟨b + 2, 0, none⟩ = some (.int .i64 0)) :
    SeqSt n Tryd.prog 52 #[.pointer (some ⟨b + 1, 0, none⟩), .pointer (some ⟨b, 0, none⟩), .pointer (some ⟨b + 2, 0, none⟩)] (fun x : ByteArray => #[.string x]) b (b + 3) b
      (fun xs => xs.map (fun x => x.data.toList) = splitL s.data.toList) (s.size + 1) w := by
  intro l J W hW hJ hY h0
  exact split_in n b l s hs J hJ hY W h0 ((hW.cell (p := ⟨b, 0, none⟩) (show b < _ by omega)).trans c0) ((hW.frozen (p := ⟨b, 0, none⟩) (show b < _ by omega)).trans f0)
    ((hW.cell (p := ⟨b + 1, 0, none⟩) (show b + 1 < _ by omega)).trans c1) ((hW.cell (p := ⟨b + 2, 0, none⟩) (show b + 2 < _ by omega)).trans c2)

theorem infoStr : (Tryd.prog.info? 9).map (fun i => (i.zero, i.size, i.bytes)) = some (some (.string ⟨#[]⟩), 1, 16) := by kernel_rfl

/-- the parts that are words -/
def wordsB (xs : List ByteArray) : List ByteArray := xs.filter fun x => decide (x.data.toList ≠ [])
theorem wordsB_hit (pre : List ByteArray) {x : ByteArray} (h : x.data.toList ≠ []) : wordsB (pre ++ [x]) = wordsB pre ++ [x] := by simp [wordsB]; simpa using h
theorem wordsB_miss (pre : List ByteArray) {x : ByteArray} (h : x.data.toList = []) : wordsB (pre ++ [x]) = wordsB pre := by
  have : x = ⟨#[]⟩ := Go.WideShapes.bytes_inj (by rw [h])
  subst this; simp [wordsB]

def strsV (l : List ByteArray) : List Value := l.map Value.string

def WInv (w : World) (pre : List ByteArray) (W : World) : Prop :=
  ∃ v, Boxed W w.heap.size 33 v ∧ W.ownsRow (w.heap.size + 4) 9 1 v (wordsB pre).length (strsV (wordsB pre)) ∧ w.heap.size + 4 ≤ W.heap.size ∧ Below w.heap.size w W

theorem winv_own (w : World) (s : List ByteArray) (W W' : World) (row : Option Nat) (h : WInv w s W) (hg : W.grownBy W' row)
    (hr : ∀ r, row = some r → r = w.heap.size + 1 ∨ w.heap.size + 4 ≤ r ∧ ∃ o : Obj, W.heap[r]? = some o ∧ o.isCells = false) : WInv w s W' := by
  obtain ⟨v, h1, h2, h3, h4⟩ := h
  refine ⟨v, h1.kept hg (fun e => ?_), h2.kept hg ?_, Nat.le_trans h3 hg.size, h4.grown hg (by omega) (fun r e => by rcases hr r e with h | ⟨h, _⟩ <;> omega)⟩
  · rcases hr _ e.symm with h | ⟨h, _⟩ <;> omega
  · rcases h2.2 with ⟨rfl, _⟩ | ⟨g, cap, cur, rfl, hb, hgb, _⟩
    · exact .inl rfl
    · refine .inr fun e => ?_
      have e' : row = some g := by simpa [Value.ownBlock] using e.symm
      rcases hr g e' with h | ⟨_, o, ho, hc⟩
      · omega
      · rw [hgb] at ho; cases ho; cases hc

theorem winv_step {w W w1 : World} {pre : List ByteArray} {x : ByteArray} {v v' : Value} {o : Obj} (hx : x.data.toList ≠ [])
    (h1 : Boxed W w.heap.size 33 v) (h2 : W.ownsRow (w.heap.size + 4) 9 1 v (wordsB pre).length (strsV (wordsB pre))) (h3 : w.heap.size + 4 ≤ W.heap.size) (h4 : Below w.heap.size w W)
    (hown : w1.ownsRow (w.heap.size + 4) 9 1 v' ((wordsB pre).length + 1) (strsV (wordsB pre) ++ [.string x])) (hg : (W.alloc o).grownBy w1 v.ownBlock) :
    Boxed w1 w.heap.size 33 v ∧ KeepsFrom (w.heap.size + 4) W (w1.setCell ⟨w.heap.size, 0, none⟩ v') ∧ Span (w.heap.size + 1) (w.heap.size + 1 + 3) W (w1.setCell ⟨w.heap.size, 0, none⟩ v') ∧ WInv w (pre ++ [x]) (w1.setCell ⟨w.heap.size, 0, none⟩ v') := by
  obtain ⟨a1, a2, a3, a4, a5⟩ := h1.appended (by decide) (ow_mono (by omega) h2) (show w.heap.size ≤ W.heap.size by omega) (Nat.le_refl _) (ow_mono (by omega) hown) hg
  have hs1 := hg.size
  have hs2 := (grownBy_setCell' w1 w.heap.size v').size
  rw [World.size_alloc] at hs1
  refine ⟨a1, a4.from _, ?_, v', a2, ?_, by omega, h4.trans a5⟩
  · refine (Span.trans (Span.grown (World.grownBy_alloc W o none) (by omega) (fun r e => by cases e)) (Span.grown hg (by simp; omega) (fun r e => ?_))).trans (Span.grown (grownBy_setCell' w1 w.heap.size v') (by omega) (fun r e => ?_))
    · have := (h2.lt r e).1; omega
    · cases e; omega
  · rw [wordsB_hit pre hx]
    have hk := hown.kept (grownBy_setCell' w1 w.heap.size v') (.inr (fun e => by have := (hown.lt _ e).1; omega))
    simpa [strsV] using hk

def boxes (w : World) (s : ByteArray) : World := (((w.alloc (.cells #[.slice none 0 0] 33)).alloc (.cells #[.string s] 9)).alloc (.cells #[.string ⟨#[32]⟩] 9)).alloc (.cells #[.int .i64 0] 3)
theorem boxes_size (w : World) (s : ByteArray) : (boxes w s).heap.size = w.heap.size + 4 := by simp [boxes]
theorem boxes_0 (w : World) (s : ByteArray) : (boxes w s).cell? ⟨w.heap.size + 1, 0, none⟩ = some (.string s) ∧ (boxes w s).frozen? ⟨w.heap.size + 1, 0, none⟩ = false := by
  have h : Boxed (boxes w s) (w.heap.size + 1) 9 (.string s) := by
    have h0 := Boxed.new (w.alloc (.cells #[.slice none 0 0] 33)) 9 (.string s)
    rw [World.size_alloc] at h0
    exact (h0.alloc _).alloc _
  exact ⟨h.cell, h.frozen⟩
theorem boxes_1 (w : World) (s : ByteArray) : (boxes w s).cell? ⟨w.heap.size + 1 + 1, 0, none⟩ = some (.string ⟨#[32]⟩) := by
  have h0 := Boxed.new ((w.alloc (.cells #[.slice none 0 0] 33)).alloc (.cells #[.string s] 9)) 9 (.string ⟨#[32]⟩)
  rw [World.size_alloc, World.size_alloc] at h0
  exact (h0.alloc _).cell
theorem boxes_2 (w : World) (s : ByteArray) : (boxes w s).cell? ⟨w.heap.size + 1 + 2, 0, none⟩ = some (.int .i64 0) := by
  have h0 := Boxed.new (((w.alloc (.cells #[.slice none 0 0] 33)).alloc (.cells #[.string s] 9)).alloc (.cells #[.string ⟨#[32]⟩] 9)) 3 (.int .i64 0)
  rw [World.size_alloc, World.size_alloc, World.size_alloc] at h0
  exact h0.cell

set_option maxRecDepth 100000 in
set_option maxHeartbeats 2000000 in
theorem words_any (s : ByteArray) (hs : s.size ≤ 2000000) (w : World) : Calls Tryd.prog 13 #[.string s] w fun e W' =>
    ∃ v ws, e = .returned v ∧ (ws : List ByteArray).map (fun x => x.data.toList) = wordsL s.data.toList ∧ W'.ownsRow w.heap.size 9 1 v ws.length (strsV ws) ∧ Below w.heap.size w W' := by
  obtain ⟨i0, hi, hz0, hz1, hz2⟩ := info_parts infoStr
  rw [← callsIn_wide (n := 6)]
  refine callsIn_of_wp_marks Tryd.func13 rfl trivial ?_ rfl
  simp only [Tryd.ntmps13, List.size_toArray, List.length_cons, List.length_nil, Nat.reduceAdd, Nat.reduceSub, Array.replicate_succ, Array.replicate_zero, List.push_toArray, List.append_toArray, List.nil_append, List.cons_append]
  gi_wp2_with fail
  refine ⟨trivial, ?_⟩
  refine (callsIn_wide.2 (seq_any _ _)).mono ?_
  rintro e w' ⟨rfl, rfl⟩
  gi_wp2_with fail
  have hseq := split_seq 5 (w.heap.size + 1) s (by unfold maxLen; omega) ((((w.alloc (.cells #[.slice none 0 0] 33)).alloc (.cells #[.string s] 9)).alloc (.cells #[.string ⟨#[32]⟩] 9)).alloc (.cells #[.int .i64 0] 3)) (by simp) (boxes_0 w s).1 (boxes_0 w s).2 (boxes_1 w s) (boxes_2 w s)
  refine wp_range_st (n := 6) (gf := 52) (lb := #[.pointer (some ⟨w.heap.size + 1 + 1, 0, none⟩), .pointer (some ⟨w.heap.size + 1, 0, none⟩), .pointer (some ⟨w.heap.size + 1 + 2, 0, none⟩)]) rfl (enters_of Tryd.func52 (by kernel_rfl) rfl)
    hseq (by simp) (by simp) (fun _ => rfl) (WInv w) ?inv ?start (fun x => { tmps := #[.string s, undef, .slice none 0 0, .pointer (some ⟨w.heap.size, 0, none⟩), .string x, .string s, .func (.func 52) #[] #[.pointer (some ⟨w.heap.size + 1 + 1, 0, none⟩), .pointer (some ⟨w.heap.size + 1, 0, none⟩), .pointer (some ⟨w.heap.size + 1 + 2, 0, none⟩)], .string x, undef, undef, undef, undef, undef, undef, undef], defers := [] }) ?assign ?body ?done
  case inv => 
    intro s W W' row h hg hr
    exact winv_own w s W W' row h hg (fun r e => by rcases hr r e with h | ⟨h, h'⟩
                                                    · exact .inl h
                                                    · exact .inr ⟨by simpa using h, h'⟩)
  case start =>
    exact ⟨_, (((Boxed.new w _ _).alloc _).alloc _).alloc _, World.ownsRow_nil _ _ _ _, by simp, ((((Below.refl _ _).alloc (Nat.le_refl _) _).alloc (by simp) _).alloc (by simp; omega) _).alloc (by simp; omega) _⟩
  case assign =>
    intro l x W K hK
    gi_wp2
    exact hK
  case body =>
    rintro l pre x W ⟨v, h1, h2, h3, h4⟩ hlt
    have hB := boxes_size w s
    unfold boxes at hB
    rw [hB]
    clear hB hseq
    have hc := h1.cell
    have hpl : (wordsB pre).length ≤ pre.length := List.length_filter_le _ _
    by_cases hx : x.data.toList = []
    · have hx1 : x.toList = [] := by rw [ByteArray.toList_eq]; exact hx
      have hx2 : x.toList.isEmpty = true := by rw [hx1]; rfl
      have hfin : WInv w (pre ++ [x]) W := ⟨v, h1, by rw [wordsB_miss pre hx]; exact h2, h3, h4⟩
      have HF := Lib.hid hfin
      clear hfin hx hx1
      gi_wp2
      exact ⟨KeepsFrom.refl _ _, Span.refl _ _ _, HF.out⟩
    · have hx1 : x.toList ≠ [] := by rw [ByteArray.toList_eq]; exact hx
      have hx2 : x.toList.isEmpty = false := by simpa using hx1
      have hst := fun (v' : Value) (w1 : World) (o : Obj) => winv_step (v' := v') (w1 := w1) (o := o) hx h1 h2 h3 h4
      have HST := Lib.hid hst; have H2 := Lib.hid h2
      clear hst hx h2 hx1
      gi_wp2_with (gi_at_builtin; refine wpListIn_append_own _ rfl _ _ 33 rfl (w.heap.size + 4) 9 i0 (.string ⟨#[]⟩) 1 16 Tryd.underlying33 hi hz0 hz1 hz2 rfl (by decide) _ _ _ rfl (H2.out.alloc _) ⟨W.heap.size, 0, none⟩ 1 1 [.string x] rfl rfl (cell_one_new _ _ _) (by simp [Value.oneCell']) (by unfold maxLen; omega) (by omega) (by simp; omega) ?_; intro v' w1 hown' hgrow _; obtain ⟨g', cap', rfl⟩ := ownsRow_succ hown'; obtain ⟨hv1, hk, hsp, hw⟩ := HST.out _ w1 _ hown' hgrow; have hc1 := hv1.cell; have hf1 := hv1.frozen)
      exact ⟨hk, hsp, hw⟩
  case done =>
    rintro D xs W hD hS ⟨v, h1, h2, h3, h4⟩ hK
    have hc := h1.cell
    have hB := boxes_size w s
    unfold boxes at hB
    rw [hB] at hD
    have hw : (wordsB xs).map (fun x => x.data.toList) = wordsL s.data.toList := by
      unfold wordsL wordsB
      rw [← hS, List.filter_map]; rfl
    have HW := Lib.hid hw
    clear hw hS hB hseq
    gi_wp2
    refine ⟨by simp, .inl ⟨_, _, rfl, run_takeDeferred hK, ?_⟩⟩
    exact ⟨_, results_tmp rfl _ _ _, v, wordsB xs, rfl, HW.out, ow_mono (by omega) (ownsRow_putObj h2 _ hK rfl), h4.trans (belowK_b (w := w) (Nat.le_refl _) W D _ _ (by omega) hK rfl rfl)⟩
end Go.Proofs.YtolegljmaacabaaDoor
