/- What an owned model reads as when a volume is put in, left out, or turned. No program in sight but for two types. -/
import Derived.Test.YtgabifkechofnaaDoorModJ
namespace Go.Proofs.YtgabifkechofnaaDoor
open Go.RowKit

def BvOk (w : World) (d : VolD) (bv : Value) : Prop := ∃ bp c, bv = .slice bp d.blocks.length c ∧ d.blocks.length ≤ c ∧ c ≤ maxLen ∧ BlksIn w bp d.blocks
theorem BvOk.one {w : World} {d : VolD} {bv : Value} (h : BvOk w d bv) : bv.oneCell' = true := by obtain ⟨_, _, rfl, _⟩ := h; rfl
theorem BvOk.stays {w w' : World} {d : VolD} {bv : Value} (h : BvOk w d bv) (hb : Below w.heap.size w w') : BvOk w' d bv := by
  obtain ⟨bp, c, h1, h2, h3, h4⟩ := h; exact ⟨bp, c, h1, h2, h3, h4.stays hb⟩
theorem rows_one {w : World} {m : List VolD} {bvs : List Value} (hl : bvs.length = m.length) (hb : ∀ (i : Nat) (d : VolD) (bv : Value), m[i]? = some d → bvs[i]? = some bv → BvOk w d bv) : ∀ u ∈ (volRows m bvs).flatten, u.oneCell' = true := by
  intro u hu
  obtain ⟨x, hx, hu⟩ := List.mem_flatten.1 hu
  obtain ⟨i, hi⟩ := List.mem_iff_getElem?.1 hx
  have hlt : i < m.length := by
    have := (List.getElem?_eq_some_iff.1 hi).1
    rwa [volRows_len hl] at this
  have hd := List.getElem?_eq_getElem hlt
  obtain ⟨bv, hbv⟩ : ∃ b, bvs[i]? = some b := ⟨_, List.getElem?_eq_getElem (by rw [hl]; exact hlt)⟩
  rw [volRows_at hd hbv] at hi
  cases hi
  simp only [volCs, List.mem_cons, List.not_mem_nil, or_false] at hu
  rcases hu with rfl | rfl | rfl
  · rfl
  · rfl
  · exact (hb i _ _ hd hbv).one
theorem model_of_rows {w : World} {B : Nat} {tv : TypeId} {v : Value} {m : List VolD} {bvs : List Value} (hl : bvs.length = m.length) (hrow : w.ownsRow B tv 3 v m.length (volRows m bvs).flatten)
    (hb : ∀ (i : Nat) (d : VolD) (bv : Value), m[i]? = some d → bvs[i]? = some bv → BvOk w d bv) : ModelAt w v m := by
  obtain ⟨p, c, hv, h1, h2, hs⟩ := ow_src hrow (rows_one hl hb)
  refine ⟨p, c, hv, h1, h2, fun i d hd => ?_⟩
  have hlt := (List.getElem?_eq_some_iff.1 hd).1
  obtain ⟨bv, hbv⟩ : ∃ bv, bvs[i]? = some bv := ⟨_, List.getElem?_eq_getElem (show i < bvs.length by rw [hl]; exact hlt)⟩
  obtain ⟨bp, bc, e, hb1, hb2, hbl⟩ := hb i d bv hd hbv
  subst hv
  rcases ow_slice hrow with ⟨_, hn, _⟩ | ⟨g, cap, hv⟩
  · omega
  · injection hv with a b
    subst a
    have get : ∀ r u, r < 3 → (volCs d bv)[r]? = some u → w.cell? ⟨g, i * 3 + r, none⟩ = some u := by
      intro r u hr hu
      have := hs.2.2.2 _ rfl (i * 3 + r) u (by rw [flat_get (volRows_all _ _) (volRows_at hd hbv) hr]; exact hu)
      rwa [ow_at] at this
    refine ⟨g, 0, bp, bc, rfl, ?_, ?_, ?_, hb1, hb2, hbl⟩
    · rw [Nat.zero_add]; exact get 0 _ (by decide) rfl
    · rw [Nat.zero_add]; exact get 1 _ (by decide) rfl
    · rw [Nat.zero_add, ← e]; exact get 2 _ (by decide) rfl
theorem OwnK.bv {B G : Nat} {tv tb : TypeId} {m : List VolD} {v : Value} {bvs : List Value} {w : World} (h : OwnK B G tv tb m v m.length bvs w) (i : Nat) (d : VolD) (bv : Value) (hd : m[i]? = some d) (hb : bvs[i]? = some bv) : BvOk w d bv :=
  blks_of_own (h.blk i d bv (List.getElem?_eq_some_iff.1 hd).1 hd hb)
/-- .. behind what turned the row of volumes alone -/
theorem OwnK.bvG {B G : Nat} {tv tb : TypeId} {m : List VolD} {v : Value} {bvs : List Value} {w w' : World} (h : OwnK B G tv tb m v m.length bvs w) (hg : w.grownBy w' v.ownBlock) (i : Nat) (d : VolD) (bv : Value) (hd : m[i]? = some d) (hb : bvs[i]? = some bv) : BvOk w' d bv := by
  have hi := (List.getElem?_eq_some_iff.1 hd).1
  have h1 := h.blk i d bv hi hd hb
  refine blks_of_own (h1.kept hg ?_)
  cases hq : bv.ownBlock with
  | none => exact .inl rfl
  | some q =>
    right; intro e
    have h2 := (h1.lt q hq).1
    have h3 := h.lo q e.symm
    omega
/-- .. the rows themselves -/
theorem OwnK.rowG {B G : Nat} {tv tb : TypeId} {m : List VolD} {v : Value} {bvs : List Value} {w w' : World} (h : OwnK B G tv tb m v m.length bvs w) (hg : w.grownBy w' v.ownBlock) (i : Nat) (d : VolD) (bv : Value) (hd : m[i]? = some d) (hb : bvs[i]? = some bv) : w'.ownsRow G tb 2 bv d.blocks.length (blkRows d.blocks).flatten := by
  have hi := (List.getElem?_eq_some_iff.1 hd).1
  have h1 := h.blk i d bv hi hd hb
  refine h1.kept hg ?_
  cases hq : bv.ownBlock with
  | none => exact .inl rfl
  | some q =>
    right; intro e
    have h2 := (h1.lt q hq).1
    have h3 := h.lo q e.symm
    omega
theorem MFin.reads {B : Nat} {tv tb : TypeId} {w : World} {v : Value} {m : List VolD} (h : MFin B tv tb w v m) : ModelAt w v m := by
  obtain ⟨bvs, h1, h2, h3⟩ := h
  exact model_of_rows h1 h2 fun i d bv hd hb => blks_of_own (h3 i d bv hd hb)
/-- a volume put at its place -/
theorem insert_rows {m : List VolD} {bvs : List Value} {d : VolD} {bv : Value} {k : Nat} (hl : bvs.length = m.length) :
    (volRows m bvs).flatten.take (k * 3) ++ [.int .i64 d.id, .int .i64 d.size, bv] ++ (volRows m bvs).flatten.drop (k * 3) = (volRows (m.take k ++ d :: m.drop k) (bvs.take k ++ bv :: bvs.drop k)).flatten := by
  rw [flat_take k (volRows_all _ _), flat_drop k (volRows_all _ _)]
  unfold volRows
  rw [List.zipWith_append (by rw [List.length_take, List.length_take, hl]), List.zipWith_cons_cons, List.take_zipWith, List.drop_zipWith, List.flatten_append, List.flatten_cons, List.append_assoc]
  rfl
theorem with_model {B G : Nat} {tv tb : TypeId} {m : List VolD} {v v' : Value} {bvs : List Value} {w w' : World} {d : VolD} {bv : Value} (h : OwnK B G tv tb m v m.length bvs w) (hG : B ≤ G) (hg : w.grownBy w' v.ownBlock)
    (hrow : w'.ownsRow B tv 3 v' (m.length + 1) ((volRows m bvs).flatten.take (posL m d.id * 3) ++ [.int .i64 d.id, .int .i64 d.size, bv] ++ (volRows m bvs).flatten.drop (posL m d.id * 3))) (hbv : w'.ownsRow B tb 2 bv d.blocks.length (blkRows d.blocks).flatten) (hk : posL m d.id ≤ m.length) : MFin B tv tb w' v' (withL m d) := by
  rw [insert_rows h.len] at hrow
  have hwl : (withL m d).length = m.length + 1 := by unfold withL; rw [List.length_append, List.length_cons, List.length_take, List.length_drop]; omega
  have hbl : (bvs.take (posL m d.id) ++ bv :: bvs.drop (posL m d.id)).length = (withL m d).length := by
    rw [hwl, List.length_append, List.length_cons, List.length_take, List.length_drop, h.len]; omega
  rw [← hwl] at hrow
  refine ⟨_, hbl, hrow, fun i d' b' hd hb => ?_⟩
  have e1 : (m.take (posL m d.id)).length = posL m d.id := by rw [List.length_take]; omega
  have e2 : (bvs.take (posL m d.id)).length = posL m d.id := by rw [List.length_take, h.len]; omega
  unfold withL at hd
  by_cases hi : i < posL m d.id
  · rw [List.getElem?_append_left (by omega), List.getElem?_take, if_pos hi] at hd
    rw [List.getElem?_append_left (by omega), List.getElem?_take, if_pos hi] at hb
    exact ow_mono hG (h.rowG hg i d' b' hd hb)
  · rw [List.getElem?_append_right (by omega), e1] at hd
    rw [List.getElem?_append_right (by omega), e2] at hb
    cases hj : i - posL m d.id with
    | zero =>
      rw [hj] at hd hb
      simp only [List.getElem?_cons_zero, Option.some.injEq] at hd hb
      subst hd; subst hb; exact hbv
    | succ j =>
      rw [hj] at hd hb
      simp only [List.getElem?_cons_succ, List.getElem?_drop] at hd hb
      exact ow_mono hG (h.rowG hg _ d' b' hd hb)
theorem posL_le (m : List VolD) (id : Int) : posL m id ≤ m.length := List.Sublist.length_le (List.takeWhile_sublist _)
theorem grown_setBoth {A C : World} {row : Option Nat} (h : A.grownBy C row) (a : Addr) (u : Value) : (A.setCell a u).grownBy (C.setCell a u) row := by
  refine ⟨h.os, h.tape, h.output, by simpa using h.size, fun k hk hne => ?_⟩
  have hk' : k < A.heap.size := by simpa using hk
  have hb := h.block k hk' hne
  by_cases e : k = a.block
  · subst e
    show (C.heap.modify a.block _)[a.block]? = (A.heap.modify a.block _)[a.block]?
    have hc : a.block < C.heap.size := Nat.lt_of_lt_of_le hk' h.size
    rw [Array.getElem?_eq_getElem hk', Array.getElem?_eq_getElem hc] at hb
    rw [Array.getElem?_eq_getElem (by rw [Array.size_modify]; exact hc), Array.getElem?_eq_getElem (by rw [Array.size_modify]; exact hk'), Array.getElem_modify_self, Array.getElem_modify_self, Option.some.inj hb]
  · rw [Below.heap_setCell C a u k e, Below.heap_setCell A a u k e]; exact hb
theorem OwnK.setBelow {B G : Nat} {tv tb : TypeId} {m : List VolD} {v : Value} {k : Nat} {bvs : List Value} {w : World} (h : OwnK B G tv tb m v k bvs w) (hG : B ≤ G) {a : Addr} (ha : a.block < B) (u : Value) : OwnK B G tv tb m v k bvs (w.setCell a u) :=
  ⟨h.len, ownsRow_setCell_below h.row ha u, h.lo, by simpa using h.hi, fun i d bv hi hd hb => ownsRow_setCell_below (h.blk i d bv hi hd hb) (by omega) u, h.far⟩
abbrev set3 (w : World) (b : Nat) (x y z : Value) : World := ((w.setCell ⟨b, 0, none⟩ x).setCell ⟨b, 1, none⟩ y).setCell ⟨b, 2, none⟩ z
/-- the cells of a row elsewhere, behind what turned the row of volumes alone -/
theorem far3 {w w' : World} {row : Option Nat} {b : Nat} {x y z : Value} (hg : w.grownBy w' row) (hne : some b ≠ row) (h0 : w.cell? ⟨b, 0, none⟩ = some x) (h1 : w.cell? ⟨b, 1, none⟩ = some y) (h2 : w.cell? ⟨b, 2, none⟩ = some z)
    (f0 : w.frozen? ⟨b, 0, none⟩ = false) (f1 : w.frozen? ⟨b, 1, none⟩ = false) (f2 : w.frozen? ⟨b, 2, none⟩ = false) :
    w'.cell? ⟨b, 0, none⟩ = some x ∧ w'.cell? ⟨b, 1, none⟩ = some y ∧ w'.cell? ⟨b, 2, none⟩ = some z ∧ w'.frozen? ⟨b, 0, none⟩ = false ∧ w'.frozen? ⟨b, 1, none⟩ = false ∧ w'.frozen? ⟨b, 2, none⟩ = false ∧ b < w'.heap.size := by
  have hb := hg.block b (World.block_lt_of_cell? _ _ h0) hne
  have fz : ∀ i, w'.frozen? ⟨b, i, none⟩ = w.frozen? ⟨b, i, none⟩ := fun i => World.frozen?_of_block (a := ⟨b, i, none⟩) hb
  exact ⟨hg.cell h0 hne, hg.cell h1 hne, hg.cell h2 hne, (fz 0).trans f0, (fz 1).trans f1, (fz 2).trans f2, World.block_lt_of_cell? _ _ (hg.cell h0 hne)⟩
theorem with_fin {B G : Nat} {tv tb : TypeId} {m : List VolD} {v v' : Value} {bvs : List Value} {w w' : World} {d : VolD} {bv : Value} (h : OwnK B G tv tb m v m.length bvs w) (hG : B ≤ G) (hg : w.grownBy w' v.ownBlock)
    (hrow : w'.ownsRow B tv 3 v' (m.length + 1) ((volRows m bvs).flatten.take (posL m d.id * 3) ++ [.int .i64 d.id, .int .i64 d.size, bv] ++ (volRows m bvs).flatten.drop (posL m d.id * 3))) {b : Nat} (hb : b < B) (x y z : Value)
    (hbv : (set3 w' b x y z).ownsRow B tb 2 bv d.blocks.length (blkRows d.blocks).flatten) : MFin B tv tb (set3 w' b x y z) v' (withL m d) :=
  with_model (((h.setBelow hG (a := ⟨b, 0, none⟩) hb x).setBelow hG (a := ⟨b, 1, none⟩) hb y).setBelow hG (a := ⟨b, 2, none⟩) hb z) hG (grown_setBoth (grown_setBoth (grown_setBoth hg _ x) _ y) _ z)
    (ownsRow_setCell_below (ownsRow_setCell_below (ownsRow_setCell_below hrow hb x) hb y) hb z) hbv (posL_le m d.id)
theorem drop_model {B G : Nat} {tv tb : TypeId} {m : List VolD} {v v' : Value} {bvs : List Value} {w w' : World} {i : Nat} (h : OwnK B G tv tb m v m.length bvs w) (hG : B ≤ G) (hg : w.grownBy w' v.ownBlock) (hi : i < m.length)
    (hrow : w'.ownsRow B tv 3 v' (m.length - 1) ((volRows m bvs).flatten.take (i * 3) ++ (volRows m bvs).flatten.drop ((i + 1) * 3))) : MFin B tv tb w' v' (m.take i ++ m.drop (i + 1)) := by
  have hr : (volRows m bvs).flatten.take (i * 3) ++ (volRows m bvs).flatten.drop ((i + 1) * 3) = (volRows (m.take i ++ m.drop (i + 1)) (bvs.take i ++ bvs.drop (i + 1))).flatten := by
    rw [flat_take i (volRows_all _ _), flat_drop (i + 1) (volRows_all _ _)]
    unfold volRows
    rw [List.zipWith_append (by rw [List.length_take, List.length_take, h.len]), List.take_zipWith, List.drop_zipWith, List.flatten_append]
  have hml : (m.take i ++ m.drop (i + 1)).length = m.length - 1 := by rw [List.length_append, List.length_take, List.length_drop]; omega
  have hbl : (bvs.take i ++ bvs.drop (i + 1)).length = (m.take i ++ m.drop (i + 1)).length := by rw [hml, List.length_append, List.length_take, List.length_drop, h.len]; omega
  rw [hr, ← hml] at hrow
  refine ⟨_, hbl, hrow, fun j d' b' hd hb => ?_⟩
  have e1 : (m.take i).length = i := by rw [List.length_take]; omega
  have e2 : (bvs.take i).length = i := by rw [List.length_take, h.len]; omega
  by_cases hj : j < i
  · rw [List.getElem?_append_left (by omega), List.getElem?_take, if_pos hj] at hd
    rw [List.getElem?_append_left (by omega), List.getElem?_take, if_pos hj] at hb
    exact ow_mono hG (h.rowG hg j d' b' hd hb)
  · rw [List.getElem?_append_right (by omega), e1, List.getElem?_drop] at hd
    rw [List.getElem?_append_right (by omega), e2, List.getElem?_drop] at hb
    exact ow_mono hG (h.rowG hg _ d' b' hd hb)
theorem drop_fin {B G : Nat} {tv tb : TypeId} {m : List VolD} {v v' : Value} {bvs : List Value} {w w' : World} {i : Nat} (h : OwnK B G tv tb m v m.length bvs w) (hG : B ≤ G) (hg : w.grownBy w' v.ownBlock) (hi : i < m.length)
    (hrow : w'.ownsRow B tv 3 v' (m.length - 1) ((volRows m bvs).flatten.take (i * 3) ++ (volRows m bvs).flatten.drop ((i + 1) * 3))) {b : Nat} (hb : b < B) (x y z : Value) : MFin B tv tb (set3 w' b x y z) v' (m.take i ++ m.drop (i + 1)) :=
  drop_model (((h.setBelow hG (a := ⟨b, 0, none⟩) hb x).setBelow hG (a := ⟨b, 1, none⟩) hb y).setBelow hG (a := ⟨b, 2, none⟩) hb z) hG (grown_setBoth (grown_setBoth (grown_setBoth hg _ x) _ y) _ z) hi
    (ownsRow_setCell_below (ownsRow_setCell_below (ownsRow_setCell_below hrow hb x) hb y) hb z)
/-- what is asked of a volume that there is -/
theorem found_of {m : List VolD} {x : OpD} (h15 : 1 ≤ x.act ∧ x.act ≤ 5) (hf : faultL m x = 0) : ∃ i d, findL m x.vol = some i ∧ m[i]? = some d ∧ 0 ≤ sizeL m x.vol ∧ sizeL m x.vol = d.size := by
  rw [faultL_of h15] at hf
  have hs : 0 ≤ sizeL m x.vol := by
    apply Classical.byContradiction; intro hn
    unfold faultOfL at hf
    split at hf
    · omega
    · split at hf
      · omega
      · rw [if_pos (by omega)] at hf; omega
  cases h : findL m x.vol with
  | none => rw [sizeL_none h] at hs; omega
  | some i =>
    obtain ⟨d, hd, _⟩ := findL_lt h
    exact ⟨i, d, rfl, hd, hs, sizeL_some h hd⟩
end Go.Proofs.YtgabifkechofnaaDoor
