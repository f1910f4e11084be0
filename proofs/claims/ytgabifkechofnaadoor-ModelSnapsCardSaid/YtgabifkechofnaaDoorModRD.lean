/- The walks of the reference's Without and With. -/
import Derived.Test.YtgabifkechofnaaDoorModRA
import Derived.Test.YtgabifkechofnaaDoorModV
namespace Go.Proofs.YtgabifkechofnaaDoor
open Go.RowKit

/-- a row of volumes that the call owns; their blocks lie where they lay in an elder world -/
def VRow (B : Nat) (w0 : World) (v : Value) (out : List VolD) (wr : World) : Prop :=
  ∃ bvs, bvs.length = out.length ∧ wr.ownsRow B 41 3 v out.length (volRows out bvs).flatten ∧ ∀ (i : Nat) (d : VolD) (bv : Value), out[i]? = some d → bvs[i]? = some bv → BvOk w0 d bv
theorem VRow.reads {B : Nat} {w0 wr : World} {v : Value} {out : List VolD} (h : VRow B w0 v out wr) (hb : Below w0.heap.size w0 wr) : ModelAt wr v out := by
  obtain ⟨bvs, h1, h2, h3⟩ := h
  exact model_of_rows h1 h2 fun i d bv hd he => (h3 i d bv hd he).stays hb
theorem VRow.nil {B : Nat} (w0 wr : World) (hB : B ≤ wr.heap.size) : VRow B w0 (.slice (some ⟨wr.heap.size, 0, none⟩) 0 0) [] (wr.alloc (.cells #[] 41)) :=
  ⟨[], rfl, World.ownsRow_made wr #[] 0 hB (by unfold maxLen; omega) rfl, fun i d bv hd => by simp at hd⟩
theorem VRow.below {B : Nat} {w0 wr w' : World} {v : Value} {out : List VolD} (h : VRow B w0 v out wr) (hb : Below wr.heap.size wr w') : VRow B w0 v out w' := by
  obtain ⟨bvs, h1, h2, h3⟩ := h
  exact ⟨bvs, h1, own_belowW h2 hb, h3⟩
theorem VRow.push {B : Nat} {w0 w1 : World} {v1 : Value} {out : List VolD} {bvs : List Value} {d : VolD} {bv : Value} (h1 : bvs.length = out.length) (h3 : ∀ (i : Nat) (d : VolD) (bv : Value), out[i]? = some d → bvs[i]? = some bv → BvOk w0 d bv)
    (ho : w1.ownsRow B 41 3 v1 (out.length + 1) ((volRows out bvs).flatten ++ [.int .i64 d.id, .int .i64 d.size, bv])) (hb : BvOk w0 d bv) : VRow B w0 v1 (out ++ [d]) w1 := by
  refine ⟨bvs ++ [bv], by simp [h1], ?_, fun i d' b' hd he => ?_⟩
  · have e : (volRows (out ++ [d]) (bvs ++ [bv])).flatten = (volRows out bvs).flatten ++ [.int .i64 d.id, .int .i64 d.size, bv] := by
      unfold volRows
      rw [List.zipWith_append h1.symm, List.flatten_append]; rfl
    rw [e, List.length_append]; exact ho
  · by_cases hi : i < out.length
    · rw [List.getElem?_append_left hi] at hd
      rw [List.getElem?_append_left (by omega)] at he
      exact h3 i d' b' hd he
    · rw [List.getElem?_append_right (by omega)] at hd
      rw [List.getElem?_append_right (by omega), h1] at he
      cases hj : i - out.length with
      | zero =>
        rw [hj] at hd he
        simp only [List.getElem?_cons_zero, Option.some.injEq] at hd he
        subst hd; subst he; exact hb
      | succ j => rw [hj] at hd; simp at hd
theorem new_three {W : World} {x y z : Value} : ∀ j u, [x, y, z][j]? = some u → (W.alloc (.cells #[x, y, z] 41)).cell? ((⟨W.heap.size, 0, none⟩ : Addr).add j) = some u := by
  intro j u hu
  rw [ow_at, World.cell?_alloc_at _ _ _ _ rfl]
  rcases j with _ | _ | _ | j
  · exact hu
  · exact hu
  · exact hu
  · simp at hu
theorem BvOk.slice {w : World} {d : VolD} {bp : Option Addr} {c : Nat} (h1 : d.blocks.length ≤ c) (h2 : c ≤ maxLen) (h3 : BlksIn w bp d.blocks) : BvOk w d (.slice bp d.blocks.length c) := ⟨bp, c, rfl, h1, h2, h3⟩

def woL (m : List VolD) (id : Int) : List VolD := m.filter fun d => !(d.id == id)
def WoRel (m : List VolD) (id : Int) (w : World) (v i : Value) (wr : World) : Prop :=
  ∃ (k : Nat) (vv : Value), vv = v ∧ k ≤ m.length ∧ i = .int .i64 k ∧ VRow w.heap.size w v (woL (m.take k) id) wr ∧ Below w.heap.size w wr
theorem wo_len (m : List VolD) (id : Int) (k : Nat) : (woL (m.take k) id).length ≤ k := Nat.le_trans (List.length_filter_le _ _) (List.length_take_le _ _)
theorem wo_snoc {m : List VolD} {id : Int} {k : Nat} {d : VolD} (hd : m[k]? = some d) : woL (m.take (k + 1)) id = woL (m.take k) id ++ if d.id = id then [] else [d] := by
  obtain ⟨hk, rfl⟩ := List.getElem?_eq_some_iff.1 hd
  unfold woL
  rw [List.take_succ_eq_append_getElem hk, List.filter_append]
  by_cases h : m[k].id = id
  · rw [if_pos h, List.filter_cons_of_neg (by simpa using h)]; rfl
  · rw [if_neg h, List.filter_cons_of_pos (by simpa using h)]; rfl

set_option maxRecDepth 100000 in
set_option maxHeartbeats 2000000 in
theorem rwithout_any (m : List VolD) (id : Int) (v : Value) (w : World) (hm : ModelAt w v m) (hl : m.length ≤ 1000) :
    Calls Tryd.prog 31 #[v, .int .i64 id] w fun e w' => ∃ v', e = .returned v' ∧ ModelAt w' v' (woL m id) ∧ Below w.heap.size w w' := by
  obtain ⟨p, c, rfl, _, _, hel⟩ := hm
  have HEL := Lib.hid hel; clear hel
  have hlen : (m.length : Int) ≤ 1000 := by omega
  obtain ⟨i0, hi, hz0, hz1, hz2⟩ := info_parts infoV
  have HL := Lib.hid hl; clear hl
  go_enter Tryd.func31, Tryd.ntmps31
  go_wp2_with fail
  go_loopw [5, 6] (fun v i wr => WoRel m id w v i wr) (fun _ i _ => m.length - (intOf i).toNat)
  case atStart => exact ⟨0, _, rfl, Nat.zero_le _, rfl, VRow.nil w w (Nat.le_refl _), (Below.refl _ _).alloc (Nat.le_refl _) _⟩
  case round =>
    obtain ⟨k, vv, hvv, hk, rfl, hrow, hb⟩ := hrel
    subst hvv
    have HR := Lib.hid hrow; have HB := Lib.hid hb
    clear hrow hb
    by_cases hlt : k < m.length
    case neg =>
      obtain rfl : k = m.length := by omega
      go_wp2_with fail
      go_ret
      refine ⟨_, rfl, ?_, HB.out⟩
      have := HR.out.reads HB.out
      rw [List.take_length] at this; exact this
    have hki : (k : Int) < (m.length : Int) := by omega
    obtain ⟨d, hd⟩ : ∃ d, m[k]? = some d := ⟨_, List.getElem?_eq_getElem hlt⟩
    obtain ⟨g, o, bp, bc, e0, g0, g1, g2, gb1, gb2, gbl⟩ := HEL.out k d hd
    have HBV := Lib.hid (BvOk.slice gb1 gb2 gbl)
    subst e0
    have h0 := cell_stays (Below.mono HB.out (Nat.le_refl _)) g0
    have h1 := cell_stays (Below.mono HB.out (Nat.le_refl _)) g1
    have h2 := cell_stays (Below.mono HB.out (Nat.le_refl _)) g2
    have HD := Lib.hid hd; clear hd gb1 gb2 gbl g0 g1 g2
    by_cases he : d.id = id
    · have hbe : (d.id != id) = false := by simpa using he
      have HS := Lib.hid (show woL (m.take (k + 1)) id = woL (m.take k) id by rw [wo_snoc HD.out, if_pos he, List.append_nil]); clear he
      go_wp2_with fail
      go_roundw
      case rel => exact ⟨k + 1, _, rfl, by omega, by go_num, by rw [HS.out]; exact HR.out, HB.out⟩
      case measure => simp [intOf]; omega
    · have hbe : (d.id != id) = true := by simpa using he
      have HS := Lib.hid (show woL (m.take (k + 1)) id = woL (m.take k) id ++ [d] by rw [wo_snoc HD.out, if_neg he]); clear he
      obtain ⟨bvs, hr1, hr2, hr3⟩ := HR.out
      have HR1 := Lib.hid hr1; have HR2 := Lib.hid hr2; have HR3 := Lib.hid hr3
      have hwl := wo_len m id k
      clear hr1 hr2 hr3
      go_wp2_with (at_builtin; refine wpList_append_own _ rfl _ _ 22 rfl w.heap.size 41 i0 (.agg #[.int .i64 0, .int .i64 0, .slice none 0 0]) 3 40 Tryd.underlying22 hi hz0 hz1 hz2 rfl (by decide) _ _ _ rfl (HR2.out.alloc _) ⟨wr.heap.size, 0, none⟩ 1 1 [.int .i64 d.id, .int .i64 d.size, .slice bp d.blocks.length bc] rfl rfl new_three (by simp [Value.oneCell']) (by unfold maxLen; omega) (by omega) (by have := HB.out.size; simp; omega) ?_; intro v1 w1 hown1 hgrow1 _)
      have HN := Lib.hid (VRow.push HR1.out HR3.out hown1 HBV.out)
      have HB1 := Lib.hid (ow_grown HB.out HB.out.size HR2.out hgrow1)
      clear hown1 hgrow1
      go_wp2_with fail
      go_roundw
      case rel => exact ⟨k + 1, _, rfl, by omega, by go_num, by rw [HS.out]; exact HN.out, HB1.out⟩
      case measure => simp [intOf]; omega

/-- what With has laid behind k rounds -/
def WiRel (m : List VolD) (x : VolD) (out : List VolD) (laid : Bool) (k : Nat) : Prop :=
  (laid = false ∧ (∀ d ∈ m.take k, d.id < x.id) ∧ out = m.take k) ∨ (laid = true ∧ (∃ j d, j < k ∧ m[j]? = some d ∧ x.id ≤ d.id) ∧ out = putG VolD.id (m.take k) x)
theorem put_low {l : List VolD} {x : VolD} (h : ∀ d ∈ l, d.id < x.id) : putG VolD.id l x = l ++ [x] := by
  unfold putG
  rw [List.filter_eq_self.2 (fun d hd => by simpa using h d hd), List.filter_eq_nil_iff.2 (fun d hd => by have := h d hd; simp; omega)]
theorem put_snoc {l : List VolD} {x d : VolD} : putG VolD.id (l ++ [d]) x = if d.id < x.id then putG VolD.id (l ++ [d]) x else putG VolD.id l x ++ if x.id < d.id then [d] else [] := by
  split
  · rfl
  · rename_i h
    unfold putG
    rw [List.filter_append, List.filter_append, List.filter_cons_of_neg (a := d) (by simpa using h), List.filter_nil, List.append_nil]
    split
    · rename_i h2; rw [List.filter_cons_of_pos (by simpa using h2)]; simp
    · rename_i h2; rw [List.filter_cons_of_neg (by simpa using h2)]; simp
theorem wi_len {m : List VolD} {x : VolD} {out : List VolD} {laid : Bool} {k : Nat} (h : WiRel m x out laid k) : out.length ≤ k + 1 := by
  rcases h with ⟨_, _, rfl⟩ | ⟨_, _, rfl⟩
  · rw [List.length_take]; omega
  · have := put_len_le VolD.id (m.take k) x; rw [List.length_take] at this; omega
theorem wi_end {m : List VolD} {x : VolD} {out : List VolD} {laid : Bool} (h : WiRel m x out laid m.length) : (if laid then out else out ++ [x]) = putG VolD.id m x := by
  rcases h with ⟨rfl, h, rfl⟩ | ⟨rfl, _, rfl⟩
  · rw [if_neg (by simp), List.take_length] at *; exact (put_low h).symm
  · rw [if_pos rfl, List.take_length]
theorem wi_a {m : List VolD} {x d : VolD} {out : List VolD} {k : Nat} (h : WiRel m x out false k) (hd : m[k]? = some d) (hlt : d.id < x.id) : WiRel m x (out ++ [d]) false (k + 1) := by
  obtain ⟨hk, e⟩ := List.getElem?_eq_some_iff.1 hd
  rcases h with ⟨_, h, rfl⟩ | ⟨h, _⟩
  · refine .inl ⟨rfl, ?_, by rw [List.take_succ_eq_append_getElem hk, e]⟩
    rw [List.take_succ_eq_append_getElem hk, e]
    intro y hy
    rcases List.mem_append.1 hy with hy | hy
    · exact h y hy
    · simp at hy; subst hy; exact hlt
  · cases h
theorem wi_b {m : List VolD} {x d : VolD} {out : List VolD} {k : Nat} (h : WiRel m x out false k) (hd : m[k]? = some d) (hge : x.id ≤ d.id) : WiRel m x (out ++ [x] ++ if x.id < d.id then [d] else []) true (k + 1) := by
  obtain ⟨hk, e⟩ := List.getElem?_eq_some_iff.1 hd
  rcases h with ⟨_, h, rfl⟩ | ⟨h, _⟩
  · refine .inr ⟨rfl, ⟨k, d, by omega, hd, hge⟩, ?_⟩
    rw [List.take_succ_eq_append_getElem hk, e, put_snoc, if_neg (show ¬ d.id < x.id by omega), put_low h]
  · cases h
theorem wi_c {m : List VolD} (hm : Rising VolD.id m) {x d : VolD} {out : List VolD} {k : Nat} (h : WiRel m x out true k) (hd : m[k]? = some d) : x.id < d.id ∧ WiRel m x (out ++ [d]) true (k + 1) := by
  obtain ⟨hk, e⟩ := List.getElem?_eq_some_iff.1 hd
  rcases h with ⟨h, _⟩ | ⟨_, ⟨j, y, hj, hy, hle⟩, rfl⟩
  · cases h
  · obtain ⟨hj2, e2⟩ := List.getElem?_eq_some_iff.1 hy
    have hlt : x.id < d.id := by have := List.pairwise_iff_getElem.1 hm j k hj2 hk hj; rw [e, e2] at this; omega
    refine ⟨hlt, .inr ⟨rfl, ⟨j, y, by omega, hy, hle⟩, ?_⟩⟩
    rw [List.take_succ_eq_append_getElem hk, e, put_snoc, if_neg (by omega), if_pos hlt]
/-- three cells of a box -/
def Box3 (b : Nat) (x y z : Value) (w : World) : Prop := w.cell? ⟨b, 0, none⟩ = some x ∧ w.cell? ⟨b, 1, none⟩ = some y ∧ w.cell? ⟨b, 2, none⟩ = some z
theorem Box3.below {b : Nat} {x y z : Value} {W W' : World} (h : Box3 b x y z W) (hb : Below W.heap.size W W') : Box3 b x y z W' := ⟨cell_stays hb h.1, cell_stays hb h.2.1, cell_stays hb h.2.2⟩
theorem Box3.grown {b : Nat} {x y z : Value} {W W' : World} {row : Option Nat} (h : Box3 b x y z W) (hg : W.grownBy W' row) (hne : some b ≠ row) : Box3 b x y z W' := ⟨hg.cell h.1 hne, hg.cell h.2.1 hne, hg.cell h.2.2 hne⟩
theorem step_box {w W w1 : World} {o : Obj} {vv : Value} {e : TypeId} {k n : Nat} {xs : List Value} {x y z : Value} (hb : Below w.heap.size w W) (ho : W.ownsRow (w.heap.size + 1) e k vv n xs) (hx : Box3 w.heap.size x y z W) (hg : (W.alloc o).grownBy w1 vv.ownBlock) :
    Below w.heap.size w w1 ∧ Box3 w.heap.size x y z w1 := by
  have hal := (Below.refl W.heap.size W).alloc (Nat.le_refl _) o
  exact ⟨(hb.trans (hal.mono hb.size)).grown hg (by have := hb.size; simp; omega) (fun k e => by have := (ho.lt k e).1; omega), (hx.below hal).grown hg (fun e => by have := (ho.lt _ e.symm).1; omega)⟩
def WithRel (m : List VolD) (x : VolD) (xv : Value) (w : World) (v l i : Value) (wr : World) : Prop :=
  ∃ (k : Nat) (vv : Value) (out : List VolD) (laid : Bool), vv = v ∧ k ≤ m.length ∧ i = .int .i64 k ∧ l = .bool laid ∧ WiRel m x out laid k ∧ VRow (w.heap.size + 1) w v out wr ∧ Below w.heap.size w wr ∧ Box3 w.heap.size (.int .i64 x.id) (.int .i64 x.size) xv wr

set_option maxRecDepth 100000 in
set_option maxHeartbeats 8000000 in
theorem rwith_any (m : List VolD) (x : VolD) (xp : Option Addr) (xc : Nat) (v : Value) (w : World) (hm : ModelAt w v m) (hl : m.length ≤ 1000) (hr : Rising VolD.id m) (hx1 : x.blocks.length ≤ xc) (hx2 : xc ≤ maxLen) (hx : BlksIn w xp x.blocks) :
    Calls Tryd.prog 30 #[v, .agg #[.int .i64 x.id, .int .i64 x.size, .slice xp x.blocks.length xc]] w fun e w' => ∃ v', e = .returned v' ∧ ModelAt w' v' (putG VolD.id m x) ∧ Below w.heap.size w w' := by
  obtain ⟨p, c, rfl, _, _, hel⟩ := hm
  have HEL := Lib.hid hel; clear hel
  have hlen : (m.length : Int) ≤ 1000 := by omega
  obtain ⟨i0, hi, hz0, hz1, hz2⟩ := info_parts infoV
  have HL := Lib.hid hl; have HRI := Lib.hid hr; have HXV := Lib.hid (BvOk.slice hx1 hx2 hx); clear hl hr hx1 hx2 hx
  obtain ⟨xid, xsz, xbl⟩ := x
  simp only at HXV ⊢
  go_enter Tryd.func30, Tryd.ntmps30
  go_wp2_with fail
  go_loopw [5, 6, 7] (fun v l i wr => WithRel m ⟨xid, xsz, xbl⟩ (.slice xp xbl.length xc) w v l i wr) (fun _ _ i _ => m.length - (intOf i).toNat)
  case atStart =>
    have hb2 : Below w.heap.size w ((w.alloc (.cells #[.int .i64 xid, .int .i64 xsz, .slice xp xbl.length xc] 41)).alloc (.cells #[] 41)) := ((Below.refl w.heap.size w).alloc (Nat.le_refl _) _).alloc (by simp) _
    have hn2 := VRow.nil (B := w.heap.size + 1) w (w.alloc (.cells #[.int .i64 xid, .int .i64 xsz, .slice xp xbl.length xc] 41)) (by simp)
    simp only [World.size_alloc] at hn2
    refine ⟨0, _, [], false, rfl, Nat.zero_le _, rfl, rfl, .inl ⟨rfl, by simp, by simp⟩, hn2, hb2, by simp, by simp, by simp⟩
  case round =>
    obtain ⟨k, vv, out, laid, hvv, hk, rfl, rfl, hwi, hrow, hb, hbox⟩ := hrel
    subst hvv
    have HW := Lib.hid hwi; have HR := Lib.hid hrow; have HB := Lib.hid hb; have HX := Lib.hid hbox
    have hol := wi_len hwi
    obtain ⟨q0, q1, q2⟩ := hbox
    clear hwi hrow hb
    by_cases hlt : k < m.length
    case neg =>
      obtain rfl : k = m.length := by omega
      cases laid with
      | true =>
        have HE := Lib.hid (show out = putG VolD.id m ⟨xid, xsz, xbl⟩ from wi_end HW.out)
        go_wp2_with fail
        go_ret
        exact ⟨_, rfl, by rw [← HE.out]; exact HR.out.reads HB.out, HB.out⟩
      | false =>
        have HE := Lib.hid (show out ++ [⟨xid, xsz, xbl⟩] = putG VolD.id m ⟨xid, xsz, xbl⟩ from wi_end HW.out)
        obtain ⟨bvs, hr1, hr2, hr3⟩ := HR.out
        have HR1 := Lib.hid hr1; have HR2 := Lib.hid hr2; have HR3 := Lib.hid hr3
        clear hr1 hr2 hr3
        go_wp2_with (at_builtin; refine wpList_append_own _ rfl _ _ 22 rfl (w.heap.size + 1) 41 i0 (.agg #[.int .i64 0, .int .i64 0, .slice none 0 0]) 3 40 Tryd.underlying22 hi hz0 hz1 hz2 rfl (by decide) _ _ _ rfl (HR2.out.alloc _) ⟨wr.heap.size, 0, none⟩ 1 1 [.int .i64 xid, .int .i64 xsz, .slice xp xbl.length xc] rfl rfl new_three (by simp [Value.oneCell']) (by unfold maxLen; omega) (by omega) (by have := HB.out.size; have := World.block_lt_of_cell? _ _ HX.out.1; simp; omega) ?_; intro v1 w1 hown1 hgrow1 _)
        have HN := Lib.hid (VRow.push (d := ⟨xid, xsz, xbl⟩) HR1.out HR3.out hown1 HXV.out)
        have HB1 := Lib.hid (step_box HB.out HR2.out HX.out hgrow1)
        clear hown1 hgrow1
        go_wp2_with fail
        go_ret
        exact ⟨_, rfl, by rw [← HE.out]; exact HN.out.reads HB1.out.1, HB1.out.1⟩
    have hki : (k : Int) < (m.length : Int) := by omega
    obtain ⟨d, hd⟩ : ∃ d, m[k]? = some d := ⟨_, List.getElem?_eq_getElem hlt⟩
    obtain ⟨g, o, bp, bc, e0, g0, g1, g2, gb1, gb2, gbl⟩ := HEL.out k d hd
    have HBV := Lib.hid (BvOk.slice gb1 gb2 gbl)
    subst e0
    have h0 := cell_stays HB.out g0
    have h1 := cell_stays HB.out g1
    have h2 := cell_stays HB.out g2
    have HG := Lib.hid (And.intro g0 (And.intro g1 g2))
    have HD := Lib.hid hd; clear hd gb1 gb2 gbl g0 g1 g2
    obtain ⟨bvs, hr1, hr2, hr3⟩ := HR.out
    have HR1 := Lib.hid hr1; have HR2 := Lib.hid hr2; have HR3 := Lib.hid hr3
    clear hr1 hr2 hr3
    have hdq : ∀ n, Below wr.heap.size wr (wr.drewN n) := fun n => below_drewN' (Below.refl _ _) n
    have HDQ := Lib.hid hdq; clear hdq
    cases laid with
    | true =>
      have hcc := wi_c HRI.out HW.out HD.out
      have hgt : xid < d.id := hcc.1
      have HC := Lib.hid hcc.2; clear hcc
      have hne : (d.id != xid) = true := by simp; omega
      go_wp2_with fail
      go_quiet (fail)
      go_wp2_with fail
      go_quiet (fail)
      go_wp2_with (at_builtin; refine wpList_append_own _ rfl (.tmp 39) (.tmp 44) 22 rfl (w.heap.size + 1) 41 i0 (.agg #[.int .i64 0, .int .i64 0, .slice none 0 0]) 3 40 Tryd.underlying22 hi hz0 hz1 hz2 rfl (by decide) _ _ _ rfl ((own_belowW HR2.out (HDQ.out _)).alloc _) ⟨wr.heap.size, 0, none⟩ 1 1 [.int .i64 d.id, .int .i64 d.size, .slice bp d.blocks.length bc] rfl rfl new_three (by simp [Value.oneCell']) (by unfold maxLen; omega) (by omega) (by have := (HB.out).size; have := World.block_lt_of_cell? _ _ (HX.out).1; simp at *; omega) ?_; intro v1 w1 hown1 hgrow1 _)
      have HN := Lib.hid (VRow.push (d := d) HR1.out HR3.out hown1 HBV.out)
      have HB1 := Lib.hid (step_box (HB.out.trans ((HDQ.out _).mono HB.out.size)) (own_belowW HR2.out (HDQ.out _)) (HX.out.below (HDQ.out _)) hgrow1)
      clear hown1 hgrow1
      go_wp2_with fail
      go_roundw
      case rel => exact ⟨k + 1, _, _, true, rfl, by omega, by go_num, rfl, HC.out, HN.out, HB1.out.1, HB1.out.2⟩
      case measure => simp [intOf]; omega
    | false =>
      by_cases hlow : d.id < xid
      · have hng : ¬ xid ≤ d.id := by omega
        have hne : (d.id != xid) = true := by simp; omega
        have HC := Lib.hid (wi_a HW.out HD.out hlow); clear hlow
        go_wp2_with fail
        go_quiet (fail)
        go_wp2_with fail
        go_quiet (fail)
        go_wp2_with (at_builtin; refine wpList_append_own _ rfl (.tmp 39) (.tmp 44) 22 rfl (w.heap.size + 1) 41 i0 (.agg #[.int .i64 0, .int .i64 0, .slice none 0 0]) 3 40 Tryd.underlying22 hi hz0 hz1 hz2 rfl (by decide) _ _ _ rfl ((own_belowW HR2.out (HDQ.out _)).alloc _) ⟨wr.heap.size, 0, none⟩ 1 1 [.int .i64 d.id, .int .i64 d.size, .slice bp d.blocks.length bc] rfl rfl new_three (by simp [Value.oneCell']) (by unfold maxLen; omega) (by omega) (by have := (HB.out).size; have := World.block_lt_of_cell? _ _ (HX.out).1; simp at *; omega) ?_; intro v1 w1 hown1 hgrow1 _)
        have HN := Lib.hid (VRow.push (d := d) HR1.out HR3.out hown1 HBV.out)
        have HB1 := Lib.hid (step_box (HB.out.trans ((HDQ.out _).mono HB.out.size)) (own_belowW HR2.out (HDQ.out _)) (HX.out.below (HDQ.out _)) hgrow1)
        clear hown1 hgrow1
        go_wp2_with fail
        go_roundw
        case rel => exact ⟨k + 1, _, _, false, rfl, by omega, by go_num, rfl, HC.out, HN.out, HB1.out.1, HB1.out.2⟩
        case measure => simp [intOf]; omega
      · have hge : xid ≤ d.id := by omega
        have HC := Lib.hid (wi_b HW.out HD.out hge); clear hlow
        go_wp2_with fail
        go_quiet (fail)
        go_wp2_with (at_builtin; refine wpList_append_own _ rfl (.tmp 27) (.tmp 29) 22 rfl (w.heap.size + 1) 41 i0 (.agg #[.int .i64 0, .int .i64 0, .slice none 0 0]) 3 40 Tryd.underlying22 hi hz0 hz1 hz2 rfl (by decide) _ _ _ rfl ((own_belowW HR2.out (HDQ.out _)).alloc _) ⟨wr.heap.size, 0, none⟩ 1 1 [.int .i64 xid, .int .i64 xsz, .slice xp xbl.length xc] rfl rfl new_three (by simp [Value.oneCell']) (by unfold maxLen; omega) (by omega) (by have := (HB.out).size; have := World.block_lt_of_cell? _ _ (HX.out).1; simp at *; omega) ?_; intro v1 w1 hown1 hgrow1 _)
        have HN := Lib.hid (VRow.push (d := ⟨xid, xsz, xbl⟩) HR1.out HR3.out hown1 HXV.out)
        have HB1 := Lib.hid (step_box (HB.out.trans ((HDQ.out _).mono HB.out.size)) (own_belowW HR2.out (HDQ.out _)) (HX.out.below (HDQ.out _)) hgrow1)
        clear hown1 hgrow1 q0 q1 q2 h0 h1 h2
        obtain ⟨q0, q1, q2⟩ := HB1.out.2
        have h0 := cell_stays HB1.out.1 HG.out.1
        have h1 := cell_stays HB1.out.1 HG.out.2.1
        have h2 := cell_stays HB1.out.1 HG.out.2.2
        have hol2 : (out ++ [(⟨xid, xsz, xbl⟩ : VolD)]).length ≤ k + 2 := by rw [List.length_append, List.length_singleton]; omega
        obtain ⟨bvs', hs1, hs2, hs3⟩ := HN.out
        have HS1 := Lib.hid hs1; have HS2 := Lib.hid hs2; have HS3 := Lib.hid hs3
        clear hs1 hs2 hs3
        by_cases hgt : xid < d.id
        · have hne : (d.id != xid) = true := by simp; omega
          have HC2 := Lib.hid (show WiRel m ⟨xid, xsz, xbl⟩ (out ++ [⟨xid, xsz, xbl⟩] ++ [d]) true (k + 1) by have := HC.out; rw [if_pos hgt] at this; exact this)
          clear hge hgt
          go_wp2_with fail
          go_quiet (fail)
          go_wp2_with (at_builtin; refine wpList_append_own _ rfl (.tmp 39) (.tmp 44) 22 rfl (w.heap.size + 1) 41 i0 (.agg #[.int .i64 0, .int .i64 0, .slice none 0 0]) 3 40 Tryd.underlying22 hi hz0 hz1 hz2 rfl (by decide) _ _ _ rfl ((own_belowW HS2.out (below_drewN' (Below.refl _ _) _)).alloc _) ⟨w1.heap.size, 0, none⟩ 1 1 [.int .i64 d.id, .int .i64 d.size, .slice bp d.blocks.length bc] rfl rfl new_three (by simp [Value.oneCell']) (by unfold maxLen; omega) (by omega) (by have := HB1.out.1.size; have := World.block_lt_of_cell? _ _ HB1.out.2.1; simp at *; omega) ?_; intro v2 w2 hown1 hgrow1 _)
          have HN2 := Lib.hid (VRow.push (d := d) HS1.out HS3.out hown1 HBV.out)
          have HB2 := Lib.hid (step_box (below_drewN' HB1.out.1 _) (own_belowW HS2.out (below_drewN' (Below.refl _ _) _)) (HB1.out.2.below (below_drewN' (Below.refl _ _) _)) hgrow1)
          clear hown1 hgrow1
          go_wp2_with fail
          go_roundw
          case rel => exact ⟨k + 1, _, _, true, rfl, by omega, by go_num, rfl, HC2.out, HN2.out, HB2.out.1, HB2.out.2⟩
          case measure => simp [intOf]; omega
        · have hne : (d.id != xid) = false := by simp; omega
          have HC2 := Lib.hid (show WiRel m ⟨xid, xsz, xbl⟩ (out ++ [⟨xid, xsz, xbl⟩]) true (k + 1) by have := HC.out; rw [if_neg hgt, List.append_nil] at this; exact this)
          clear hge hgt
          go_wp2_with fail
          go_quiet (fail)
          go_wp2_with fail
          go_roundw
          case rel => exact ⟨k + 1, _, _, true, rfl, by omega, by go_num, rfl, HC2.out, HN.out.below (below_drewN' (Below.refl _ _) _), below_drewN' HB1.out.1 _, HB1.out.2.below (below_drewN' (Below.refl _ _) _)⟩
          case measure => simp [intOf]; omega
end Go.Proofs.YtgabifkechofnaaDoor
