/- The walks of the reference's Cut, Blank and Read. -/
import Derived.Test.YtgabifkechofnaaDoorModRD
import Derived.Test.YtgabifkechofnaaDoorModI
import Derived.Deep.RegionLaw
import Derived.Deep.AppendLies
namespace Go.Proofs.YtgabifkechofnaaDoor
open Go.RowKit

theorem new_two {W : World} {x y : Value} : ∀ j u, [x, y][j]? = some u → (W.alloc (.cells #[x, y] 56)).cell? ((⟨W.heap.size, 0, none⟩ : Addr).add j) = some u := by
  intro j u hu
  rw [ow_at, World.cell?_alloc_at _ _ _ _ rfl]
  rcases j with _ | _ | j
  · exact hu
  · exact hu
  · simp at hu
theorem step_blk {ops : Array Oper} {o : Oper} {a : Act} {K : Act → World → Prop} {Q : Exit → Act → World → Prop} {E : Prop} {v : Value} {k B s1 s2 : Nat} {xs : List Value} {x y : Value} {W : World}
    (hg : o.guard = none) (ho : o.op = .call { callee := .builtin .append, args := #[.tmp s1, .tmp s2], argTypes := #[39, 39] })
    (hs : a.eval (.tmp s1) = v) (hx : a.eval (.tmp s2) = .slice (some ⟨W.heap.size, 0, none⟩) 1 1) (hx1 : x.oneCell' = true) (hy1 : y.oneCell' = true) (hown : W.ownsRow B 56 2 v k xs) (hk : k ≤ 1000000) (hB : B ≤ W.heap.size)
    (h : ∀ g cap w', w'.ownsRow B 56 2 (.slice (some ⟨g, 0, none⟩) (k + 1) cap) (k + 1) (xs ++ [x, y]) → (W.alloc (.cells #[x, y] 56)).grownBy w' v.ownBlock → K (a.put o.dst (.slice (some ⟨g, 0, none⟩) (k + 1) cap)) w') :
    if Region.wanted o (yielded ops a.tmps) = true then Oper.wp Tryd.prog o a (W.alloc (.cells #[x, y] 56)) K Q else E := by
  obtain ⟨i0, hi0, hz0, hz1, hz2⟩ := info_parts infoB
  exact step_append_lies _ hg (.tmp s1) (.tmp s2) 39 ho B 56 i0 (.agg #[.int .i64 0, .string ⟨#[]⟩]) 2 24 Tryd.underlying39 hi0 hz0 hz1 hz2 rfl (by decide) v k xs hs (World.ownsRow.alloc hown _) ⟨W.heap.size, 0, none⟩ 1 1 [x, y] hx rfl new_two (by intro u hu; simp only [List.mem_cons, List.not_mem_nil, or_false] at hu; rcases hu with rfl | rfl; exact hx1; exact hy1) Nat.one_pos
    (by unfold maxLen; omega) (by omega) (by simp; omega) (W.heap.size + 1) (by simp) (fun g cap w' h1 h2 _ _ => h g cap w' h1 h2)

theorem cut_snocR {l : List BlkD} {lo hi : Int} {k : Nat} {d : BlkD} (hd : l[k]? = some d) : cutL (l.take (k + 1)) lo hi = cutL (l.take k) lo hi ++ if lo ≤ d.pos ∧ d.pos < hi then [] else [d] := by
  rw [cut_snoc hd]
  by_cases h : lo ≤ d.pos ∧ d.pos < hi
  · rw [if_pos h, if_pos (by unfold inB; simp; omega)]
  · rw [if_neg h, if_neg (by unfold inB; simp; omega)]
theorem cut_len (l : List BlkD) (lo hi : Int) (k : Nat) : (cutL (l.take k) lo hi).length ≤ k := Nat.le_trans (List.length_filter_le _ _) (List.length_take_le _ _)
theorem blkRows_snoc (l : List BlkD) (d : BlkD) : (blkRows (l ++ [d])).flatten = (blkRows l).flatten ++ [.int .i64 d.pos, .string d.text] := by
  unfold blkRows; rw [List.map_append, List.flatten_append]; rfl

/-- three cells of a box that may be written -/
structure FBox (b : Nat) (x y z : Value) (w : World) : Prop where
  c0 : w.cell? ⟨b, 0, none⟩ = some x
  c1 : w.cell? ⟨b, 1, none⟩ = some y
  c2 : w.cell? ⟨b, 2, none⟩ = some z
  f0 : w.frozen? ⟨b, 0, none⟩ = false
  f1 : w.frozen? ⟨b, 1, none⟩ = false
  f2 : w.frozen? ⟨b, 2, none⟩ = false
theorem FBox.lt {b : Nat} {x y z : Value} {w : World} (h : FBox b x y z w) : b < w.heap.size := World.block_lt_of_cell? _ _ h.c0
theorem FBox.grown {b : Nat} {x y z : Value} {W W' : World} {row : Option Nat} (h : FBox b x y z W) (hg : W.grownBy W' row) (hne : some b ≠ row) : FBox b x y z W' := by
  have hb := hg.block b h.lt hne
  have fz : ∀ i, W'.frozen? ⟨b, i, none⟩ = W.frozen? ⟨b, i, none⟩ := fun i => World.frozen?_of_block (a := ⟨b, i, none⟩) hb
  exact ⟨hg.cell h.c0 hne, hg.cell h.c1 hne, hg.cell h.c2 hne, (fz 0).trans h.f0, (fz 1).trans h.f1, (fz 2).trans h.f2⟩
theorem FBox.below {b : Nat} {x y z : Value} {W W' : World} (h : FBox b x y z W) (hb : Below W.heap.size W W') : FBox b x y z W' := h.grown (grown_of_below hb none) (by simp)
theorem FBox.far {b : Nat} {x y z : Value} {W : World} (h : FBox b x y z W) {p : Addr} (hp : p.block ≠ b) (u : Value) : FBox b x y z (W.setCell p u) :=
  ⟨(World.cell?_setCell_far _ _ _ _ hp).trans h.c0, (World.cell?_setCell_far _ _ _ _ hp).trans h.c1, (World.cell?_setCell_far _ _ _ _ hp).trans h.c2, (World.frozen?_setCell _ _ _ _).trans h.f0, (World.frozen?_setCell _ _ _ _).trans h.f1, (World.frozen?_setCell _ _ _ _).trans h.f2⟩
theorem FBox.set2 {b : Nat} {x y z : Value} {W : World} (h : FBox b x y z W) (u : Value) : FBox b x y u (W.setCell ⟨b, 2, none⟩ u) :=
  ⟨(World.cell?_setCell_other W ⟨b, 2, none⟩ ⟨b, 0, none⟩ u (by simp)).trans h.c0, (World.cell?_setCell_other W ⟨b, 2, none⟩ ⟨b, 1, none⟩ u (by simp)).trans h.c1, World.cell?_setCell_same W ⟨b, 2, none⟩ u h.c2, (World.frozen?_setCell _ _ _ _).trans h.f0, (World.frozen?_setCell _ _ _ _).trans h.f1, (World.frozen?_setCell _ _ _ _).trans h.f2⟩
theorem FBox.new {b : Nat} {x y z : Value} {W : World} (t : TypeId) (hb : W.heap.size = b) : FBox b x y z (W.alloc (.cells #[x, y, z] t)) := by
  subst hb; exact ⟨by simp, by simp, by simp, by simp, by simp, by simp⟩
/-- what Cut holds: the volume's box, the result's, its own -/
structure CBox (d : VolD) (xv bv : Value) (w W : World) : Prop where
  own : FBox (w.heap.size + 1 + 1) (.int .i64 d.id) (.int .i64 d.size) bv W
  arg : FBox w.heap.size (.int .i64 d.id) (.int .i64 d.size) xv W
  res : FBox (w.heap.size + 1) (.int .i64 0) (.int .i64 0) (.slice none 0 0) W
  old : Below w.heap.size w W
theorem CBox.below {d : VolD} {xv bv : Value} {w W W' : World} (h : CBox d xv bv w W) (hb : Below W.heap.size W W') : CBox d xv bv w W' :=
  ⟨h.own.below hb, h.arg.below hb, h.res.below hb, h.old.trans (hb.mono h.old.size)⟩
theorem CBox.grown {d : VolD} {xv bv vv : Value} {w W W' : World} {o : Obj} {e : TypeId} {k n : Nat} {xs : List Value} (h : CBox d xv bv w W) (ho : W.ownsRow (w.heap.size + 3) e k vv n xs) (hg : (W.alloc o).grownBy W' vv.ownBlock) : CBox d xv bv w W' := by
  have ha := h.below ((Below.refl W.heap.size W).alloc (Nat.le_refl _) o)
  have hne : ∀ b, b < w.heap.size + 3 → some b ≠ vv.ownBlock := fun b hb e => by have := (ho.lt b e.symm).1; omega
  exact ⟨ha.own.grown hg (hne _ (by omega)), ha.arg.grown hg (hne _ (by omega)), ha.res.grown hg (hne _ (by omega)), ha.old.grown hg ha.old.size (fun k e => by have := (ho.lt k e).1; omega)⟩
theorem CBox.store {d : VolD} {xv bv : Value} {w W : World} (h : CBox d xv bv w W) (u : Value) : CBox d xv u w (W.setCell ⟨w.heap.size + 1 + 1, 2, none⟩ u) :=
  ⟨h.own.set2 u, h.arg.far (by show w.heap.size + 1 + 1 ≠ _; omega) u, h.res.far (by show w.heap.size + 1 + 1 ≠ _; omega) u, h.old.setCell (show w.heap.size ≤ w.heap.size + 1 + 1 by omega) u⟩
def CutRel (d : VolD) (lo hi : Int) (xv : Value) (w : World) (i : Value) (wr : World) : Prop :=
  ∃ (k : Nat) (bv : Value), k ≤ d.blocks.length ∧ i = .int .i64 k ∧ CBox d xv bv w wr ∧ wr.ownsRow (w.heap.size + 3) 56 2 bv (cutL (d.blocks.take k) lo hi).length (blkRows (cutL (d.blocks.take k) lo hi)).flatten

set_option maxRecDepth 100000 in
set_option maxHeartbeats 4000000 in
theorem rcut_any (d : VolD) (lo hi : Int) (dp : Option Addr) (dc : Nat) (w : World) (hin : BlksIn w dp d.blocks) (hl : d.blocks.length ≤ 100000) :
    Calls Tryd.prog 32 #[.agg #[.int .i64 d.id, .int .i64 d.size, .slice dp d.blocks.length dc], .int .i64 lo, .int .i64 hi] w fun e w' => ∃ bv, e = .returned (.agg #[.int .i64 d.id, .int .i64 d.size, bv]) ∧
      w'.ownsRow w.heap.size 56 2 bv (cutL d.blocks lo hi).length (blkRows (cutL d.blocks lo hi)).flatten ∧ Below w.heap.size w w' := by
  have HIN := Lib.hid hin; clear hin
  have hlen : (d.blocks.length : Int) ≤ 100000 := by omega
  have HL := Lib.hid hl; clear hl
  obtain ⟨id, sz, bl⟩ := d
  simp only at HIN hlen HL ⊢
  go_enter Tryd.func32, Tryd.ntmps32
  go_wp2_with fail
  go_loopw [8] (fun i wr => CutRel ⟨id, sz, bl⟩ lo hi (.slice dp bl.length dc) w i wr) (fun i _ => bl.length - (intOf i).toNat)
  case atStart =>
    have b1 : Below w.heap.size w (w.alloc (.cells #[.int .i64 id, .int .i64 sz, .slice dp bl.length dc] 41)) := (Below.refl _ _).alloc (Nat.le_refl _) _
    refine ⟨0, .slice none 0 0, Nat.zero_le _, rfl, ⟨FBox.new _ (by simp), ((FBox.new _ rfl).below ((Below.refl _ _).alloc (Nat.le_refl _) _)).below ((Below.refl _ _).alloc (Nat.le_refl _) _), (FBox.new _ (by simp)).below ((Below.refl _ _).alloc (Nat.le_refl _) _), btrans (btrans b1 ((Below.refl _ _).alloc (Nat.le_refl _) _)) ((Below.refl _ _).alloc (Nat.le_refl _) _)⟩, ?_⟩
    exact World.ownsRow_nil _ _ _ _
  case round =>
    obtain ⟨k, bv, hk', rfl, hbx, hown⟩ := hrel
    have hk : k ≤ bl.length := hk'; clear hk'
    have HX := Lib.hid hbx; have HO := Lib.hid hown
    have a2 := hbx.arg.c2
    have hok := cut_len bl lo hi k
    clear hbx hown
    by_cases hlt : k < bl.length
    case neg =>
      obtain rfl : k = bl.length := by omega
      have r0 := HX.out.res.c0; have r1 := HX.out.res.c1; have r2 := HX.out.res.c2; have s0 := HX.out.res.f0; have s1 := HX.out.res.f1; have s2 := HX.out.res.f2
      have o0 := HX.out.own.c0; have o1 := HX.out.own.c1; have o2 := HX.out.own.c2
      have hbv : ∃ pp cc, bv = .slice pp (cutL (bl.take bl.length) lo hi).length cc := by obtain ⟨pp, cc, e, _⟩ := blks_of_own HO.out; exact ⟨pp, cc, e⟩
      obtain ⟨pp, cc, rfl⟩ := hbv
      have hltr := HX.out.res.lt
      go_wp2_with fail
      refine bodyPost_ret (v := .agg #[.int .i64 id, .int .i64 sz, .slice pp (cutL (bl.take bl.length) lo hi).length cc]) (by simp [results, Tryd.results32, go_sem, r0, r1, r2]) rfl ⟨_, rfl, ?_, ?_⟩
      · have := HO.out
        rw [List.take_length] at this ⊢
        exact ow_mono (show w.heap.size ≤ w.heap.size + 3 by omega) (ownsRow_setCell_below (ownsRow_setCell_below (ownsRow_setCell_below this (by show w.heap.size + 1 < _; omega) _) (by show w.heap.size + 1 < _; omega) _) (by show w.heap.size + 1 < _; omega) _)
      · exact ((HX.out.old.setCell (by show w.heap.size ≤ w.heap.size + 1; omega) _).setCell (by show w.heap.size ≤ w.heap.size + 1; omega) _).setCell (by show w.heap.size ≤ w.heap.size + 1; omega) _
    have hki : (k : Int) < (bl.length : Int) := by omega
    obtain ⟨b, hb⟩ : ∃ b, bl[k]? = some b := ⟨_, List.getElem?_eq_getElem hlt⟩
    obtain ⟨g, o, rfl, g0, g1⟩ := HIN.out.stays HX.out.old k b hb
    have HD := Lib.hid hb; clear hb
    by_cases hcut : lo ≤ b.pos ∧ b.pos < hi
    · have n1 : ¬ b.pos < lo := by omega
      have n2 : ¬ hi ≤ b.pos := by omega
      have HS := Lib.hid (show cutL (bl.take (k + 1)) lo hi = cutL (bl.take k) lo hi by rw [cut_snocR HD.out, if_pos hcut, List.append_nil]); clear hcut
      go_wp2_with fail
      go_roundw
      case rel => exact ⟨k + 1, _, (show k + 1 ≤ bl.length by omega), by go_num, HX.out, by simp only [HS.out]; exact HO.out⟩
      case measure => simp [intOf]; omega
    · have HS := Lib.hid (show cutL (bl.take (k + 1)) lo hi = cutL (bl.take k) lo hi ++ [b] by rw [cut_snocR HD.out, if_neg hcut])
      have hor : b.pos < lo ∨ (¬ b.pos < lo ∧ hi ≤ b.pos) := by omega
      have o2 := HX.out.own.c2
      have HDR := Lib.hid (HX.out.below (Below.refl _ _).drew)
      have HODR := Lib.hid (own_belowW HO.out (Below.refl _ _).drew)
      have HK := Lib.hid (show (cutL (bl.take k) lo hi).length ≤ 1000000 by omega)
      have HBB := Lib.hid (show w.heap.size + 3 ≤ wr.drew.heap.size from HX.out.own.lt)
      have hne : wr.heap.size ≠ w.heap.size + 1 + 1 := by have := HX.out.own.lt; omega
      have hlt2 : w.heap.size + 1 + 1 < wr.heap.size := HX.out.own.lt
      clear hcut hok
      rcases hor with h1 | ⟨h1, h2⟩
      all_goals
        go_wp2_with fail
        go_region_law ((refine step_blk rfl rfl rfl rfl rfl rfl HODR.out HK.out HBB.out ?_; intro gg cap w1 hown1 hgrow1; have HB1 := Lib.hid (CBox.grown HDR.out HODR.out hgrow1); have p2 := HB1.out.own.c2; have p3 := HB1.out.own.f2; have HO1 := Lib.hid hown1; clear hown1 hgrow1))
        all_goals
          go_wp2_with fail
          go_roundw
          case rel =>
            refine ⟨k + 1, _, (show k + 1 ≤ bl.length by omega), by go_num, CBox.store HB1.out _, ?_⟩
            simp only [HS.out, blkRows_snoc, List.length_append, List.length_singleton]
            exact ownsRow_setCell_below HO1.out (by show w.heap.size + 1 + 1 < _; omega) _
          case measure => simp [intOf]; omega
end Go.Proofs.YtgabifkechofnaaDoor
