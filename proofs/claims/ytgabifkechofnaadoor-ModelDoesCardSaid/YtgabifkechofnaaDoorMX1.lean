/- The model's laws on plain data: what may be stays so; what is read behind each act. No program in sight. · The model's laws on plain data: what each act leaves; what may be stays so. No program in sight. · The model's laws on plain data: errors, reads, snapshots, sizes. No program in sight. -/
import Derived.Test.YtgabifkechofnaaDoorModV
import Derived.Test.YtgabifkechofnaaDoorModT
namespace Go.Proofs.YtgabifkechofnaaDoor
open Go.RowKit

structure VolP (d : VolD) : Prop where
  id : 1 ≤ d.id ∧ d.id ≤ 1000
  size : 0 ≤ d.size ∧ d.size ≤ 100000
  rise : Rising BlkD.pos d.blocks
  blk : ∀ b ∈ d.blocks, 0 ≤ b.pos ∧ b.pos < d.size ∧ b.text.size = 256
structure MayP (m : List VolD) : Prop where
  len : m.length ≤ 64
  rise : Rising VolD.id m
  vol : ∀ d ∈ m, VolP d
abbrev getV (m : List VolD) (id : Int) : Option VolD := lookG VolD.id m id

theorem blkOk_inv {size : Int} {l : List BlkD} {k : Nat} {b : BlkD} (h : blkOk size l k = true) (hb : l[k]? = some b) : 0 ≤ b.pos ∧ b.pos < size ∧ b.text.size = 256 ∧ ∀ i q, k = i + 1 → l[i]? = some q → q.pos < b.pos := by
  unfold blkOk at h
  rw [hb] at h
  simp only [Bool.and_eq_true, decide_eq_true_eq] at h
  refine ⟨h.1.1.1, h.1.1.2, h.1.2, fun i q e hq => ?_⟩
  subst e
  have := h.2
  simp only [hq, decide_eq_true_eq] at this
  exact this
theorem volOk_inv {m : List VolD} {k : Nat} {d : VolD} (h : volOk m k = true) (hd : m[k]? = some d) : (1 ≤ d.id ∧ d.id ≤ 1000) ∧ (0 ≤ d.size ∧ d.size ≤ 100000) ∧ (∀ i q, k = i + 1 → m[i]? = some q → q.id < d.id) ∧ ∀ j, j < d.blocks.length → blkOk d.size d.blocks j = true := by
  unfold volOk at h
  rw [hd] at h
  simp only [Bool.and_eq_true, decide_eq_true_eq, List.all_eq_true] at h
  refine ⟨⟨h.1.1.1.1.1, h.1.1.1.1.2⟩, ⟨h.1.1.1.2, h.1.1.2⟩, fun i q e hq => ?_, fun j hj => h.2 j (List.mem_range.2 hj)⟩
  subst e
  have := h.1.2
  simp only [hq, decide_eq_true_eq] at this
  exact this
theorem may_iff (m : List VolD) : mayL m = true ↔ MayP m := by
  constructor
  · intro h
    unfold mayL at h
    rw [Bool.and_eq_true, decide_eq_true_eq, List.all_eq_true] at h
    have key : ∀ k d, m[k]? = some d → _ := fun k d hd => volOk_inv (h.2 k (List.mem_range.2 (List.getElem?_eq_some_iff.1 hd).1)) hd
    refine ⟨h.1, rising_of_next fun i a b ha hb => (key (i + 1) b hb).2.2.1 i a rfl ha, fun d hd => ?_⟩
    obtain ⟨k, hk⟩ := List.mem_iff_getElem?.1 hd
    obtain ⟨h1, h2, _, h4⟩ := key k d hk
    have kb : ∀ j b, d.blocks[j]? = some b → _ := fun j b hb => blkOk_inv (h4 j (List.getElem?_eq_some_iff.1 hb).1) hb
    refine ⟨h1, h2, rising_of_next fun i a b ha hb => (kb (i + 1) b hb).2.2.2 i a rfl ha, fun b hb => ?_⟩
    obtain ⟨j, hj⟩ := List.mem_iff_getElem?.1 hb
    have := kb j b hj
    exact ⟨this.1, this.2.1, this.2.2.1⟩
  · intro h
    refine mayL_good h.len fun k hk => ?_
    have hd := List.getElem?_eq_getElem hk
    have hv := h.vol _ (List.mem_of_getElem? hd)
    refine volOk_good hd hv.id.1 hv.id.2 hv.size.1 hv.size.2 (fun i q e hq => ?_) fun j hj => ?_
    · subst e; exact h.rise.next hq hd
    · have hb := List.getElem?_eq_getElem hj
      have h3 := hv.blk _ (List.mem_of_getElem? hb)
      refine blkOk_good hb h3.1 h3.2.1 h3.2.2 fun i q e hq => ?_
      subst e; exact hv.rise.next hq hb

theorem find_look (m : List VolD) (id : Int) : getV m id = (findL m id).bind (m[·]?) := by
  unfold getV lookG findL
  induction m with
  | nil => rfl
  | cons a m ih =>
    by_cases h : a.id = id
    · rw [List.find?_cons_of_pos (by simpa using h), List.findIdx?_cons, if_pos (by simpa using h)]; rfl
    · rw [List.find?_cons_of_neg (by simpa using h), List.findIdx?_cons, if_neg (by simpa using h), ih]
      cases List.findIdx? (fun v => v.id == id) m <;> rfl
theorem find_none {m : List VolD} {id : Int} (h : getV m id = none) : findL m id = none := by
  cases hf : findL m id with
  | none => rfl
  | some i => obtain ⟨d, hd, _⟩ := findL_lt hf; rw [find_look, hf, Option.bind_some, hd] at h; cases h
theorem find_some {m : List VolD} {id : Int} {d : VolD} (h : getV m id = some d) : ∃ i, findL m id = some i ∧ m[i]? = some d ∧ d.id = id := by
  cases hf : findL m id with
  | none => rw [find_look, hf] at h; cases h
  | some i => exact ⟨i, rfl, by rw [find_look, hf, Option.bind_some] at h; exact h, (look_mem h).2⟩
theorem sizeL_look (m : List VolD) (id : Int) : sizeL m id = match getV m id with | none => -1 | some d => d.size := by
  cases h : getV m id with
  | none => rw [sizeL_none (find_none h)]
  | some d => obtain ⟨i, h1, h2, _⟩ := find_some h; rw [sizeL_some h1 h2]
theorem volL_look (m : List VolD) (id : Int) : volL m id = (getV m id).getD ⟨0, 0, []⟩ := by
  unfold volL
  cases h : getV m id with
  | none => rw [find_none h]; rfl
  | some d => obtain ⟨i, h1, h2, _⟩ := find_some h; rw [h1]; simp only [h2]
theorem onL_put {m : List VolD} (hm : Rising VolD.id m) {id : Int} {d : VolD} (h : getV m id = some d) (f : VolD → VolD) (hf : (f d).id = d.id) : onL m id f = putG VolD.id m (f d) := by
  obtain ⟨i, h1, h2, _⟩ := find_some h
  unfold onL
  rw [h1]; simp only [h2]
  exact set_put hm _ i h2 hf.symm
theorem dropL_filter {m : List VolD} (hm : Rising VolD.id m) (id : Int) : dropL m id = m.filter fun d => !(d.id == id) := by
  unfold dropL
  cases h : getV m id with
  | none =>
    rw [find_none h]; symm; simp only; rw [List.filter_eq_self]
    intro d hd; have := look_none h d hd; simpa using this
  | some d =>
    obtain ⟨i, h1, h2, h3⟩ := find_some h
    rw [h1]; simp only
    obtain ⟨hi, e⟩ := List.getElem?_eq_some_iff.1 h2
    conv => rhs; rw [← List.take_append_drop i m, List.drop_eq_getElem_cons hi]
    rw [List.filter_append, List.filter_cons_of_neg (by rw [e]; simpa using h3)]
    have hp := List.pairwise_iff_getElem.1 hm
    congr 1
    · symm; rw [List.filter_eq_self]
      intro a ha
      obtain ⟨j, hj, rfl⟩ := List.mem_take_iff_getElem.1 ha
      have := hp j i (by omega) hi (by omega)
      rw [e] at this; simp; omega
    · symm; rw [List.filter_eq_self]
      intro a ha
      obtain ⟨j, hj, rfl⟩ := List.mem_drop_iff_getElem.1 ha
      have := hp i (i + 1 + j) hi (by omega) (by omega)
      rw [e] at this; simp; omega
theorem withL_put {m : List VolD} (hm : Rising VolD.id m) {d : VolD} (h : getV m d.id = none) : withL m d = putG VolD.id m d := ins_put hm d h
theorem hit_look {l : List BlkD} (hl : Rising BlkD.pos l) (pos : Int) : hitB l pos = (lookG BlkD.pos l pos).isSome := by
  have e1 : l[posB l pos]? = (l.filter fun d => !decide (d.pos < pos))[0]? := by
    rw [← dw_filter hl, ← drop_tw, List.getElem?_drop]; rfl
  unfold hitB
  rw [e1]
  cases h : lookG BlkD.pos l pos with
  | none =>
    cases hq : (l.filter fun d => !decide (d.pos < pos))[0]? with
    | none => rfl
    | some d => have h1 := look_none h d (List.mem_filter.1 (List.mem_of_getElem? hq)).1; simp only; rw [decide_eq_false h1]; rfl
  | some d =>
    obtain ⟨h1, h2⟩ := look_mem h
    have h3 : d ∈ l.filter fun d => !decide (d.pos < pos) := List.mem_filter.2 ⟨h1, by simp; omega⟩
    have hr : Rising BlkD.pos (l.filter fun d => !decide (d.pos < pos)) := hl.filter _
    have ha := fun a (ha : a ∈ l.filter fun d => !decide (d.pos < pos)) => (List.mem_filter.1 ha).2
    cases hf : l.filter fun d => !decide (d.pos < pos) with
    | nil => rw [hf] at h3; cases h3
    | cons a r =>
      rw [hf] at h3 hr ha
      rw [List.getElem?_cons_zero]
      have h4 := ha a (by simp)
      have h5 : a.pos = pos := by
        rcases List.mem_cons.1 h3 with rfl | h3
        · exact h2
        · have := (List.pairwise_cons.1 hr).1 d h3; simp at h4; omega
      simp only [h5, decide_true]; rfl
theorem written_put {l : List BlkD} (hl : Rising BlkD.pos l) (b : BlkD) : writtenL l b = putG BlkD.pos l b := by
  cases h : lookG BlkD.pos l b.pos with
  | none => unfold writtenL; rw [hit_look hl, h, if_neg (by simp)]; exact ins_put hl b h
  | some d =>
    have hh : hitB l b.pos = true := by rw [hit_look hl, h]; rfl
    have e := hh
    unfold hitB at e
    cases hq : l[posB l b.pos]? with
    | none => rw [hq] at e; cases e
    | some q =>
      rw [hq] at e
      unfold writtenL; rw [hh, if_pos rfl]
      exact set_put hl b _ hq (by simpa using e)
theorem text_look (l : List BlkD) (pos : Int) : textL l pos = match lookG BlkD.pos l pos with | none => blankB | some b => b.text := rfl
theorem text_put (l : List BlkD) (b : BlkD) (p : Int) : textL (putG BlkD.pos l b) p = if p = b.pos then b.text else textL l p := by
  rw [text_look, look_put]
  by_cases h : p = b.pos
  · rw [if_pos h, if_pos h]
  · rw [if_neg h, if_neg h]; rfl
theorem text_cut (l : List BlkD) (lo hi p : Int) : textL (cutL l lo hi) p = if lo ≤ p ∧ p < hi then blankB else textL l p := by
  rw [text_look]; unfold cutL
  by_cases h : lo ≤ p ∧ p < hi
  · rw [if_pos h, look_filter_out _ _ _ _ (fun y _ hy => by unfold inB; simp; omega)]
  · rw [if_neg h, look_filter _ _ _ _ (fun y _ hy => by unfold inB; simp; omega)]; rfl
end Go.Proofs.YtgabifkechofnaaDoor
namespace Go.Proofs.YtgabifkechofnaaDoor
open Go.RowKit

/-- what is read of a volume -/
def readC (o : Option VolD) (blk : Int) : Int × ByteArray :=
  match o with
  | none => (190, ⟨#[]⟩)
  | some d => if blk < 0 ∨ d.size ≤ blk then (191, ⟨#[]⟩) else (0, textL d.blocks blk)
theorem faultOf_neg {size : Int} {x : OpD} (h : faultOfL size x = 0) : 0 ≤ size := by
  apply Classical.byContradiction; intro hn
  unfold faultOfL at h
  split at h
  · cases h
  · split at h
    · cases h
    · rw [if_pos (by omega)] at h; cases h
theorem size_some {m : List VolD} (_hm : MayP m) {id : Int} (h : 0 ≤ sizeL m id) : ∃ d, getV m id = some d ∧ sizeL m id = d.size := by
  cases hg : getV m id with
  | none => rw [sizeL_look, hg] at h; exact absurd h (by decide)
  | some d => exact ⟨d, rfl, by rw [sizeL_look, hg]⟩
theorem size_of {m : List VolD} {id : Int} {d : VolD} (h : getV m id = some d) : sizeL m id = d.size := by rw [sizeL_look, h]
theorem size_no {m : List VolD} (hm : MayP m) {id : Int} (h : sizeL m id < 0) : getV m id = none := by
  cases hg : getV m id with
  | none => rfl
  | some d => rw [size_of hg] at h; have := (hm.vol d (look_mem hg).1).size.1; omega

theorem doL_bad {m : List VolD} (h : mayL m = false) (x : OpD) : doL m x = ([], ⟨1, ⟨#[]⟩, 0⟩) := by unfold doL; rw [if_pos h]
theorem doL_fault {m : List VolD} (hm : MayP m) {x : OpD} (h : faultL m x ≠ 0) : doL m x = (m, ⟨faultL m x, ⟨#[]⟩, 0⟩) := by
  unfold doL; rw [if_neg (by rw [(may_iff m).2 hm]; simp), if_pos h]
theorem doL_read {m : List VolD} (hm : MayP m) (vo de bl nn : Int) (tx : ByteArray) : doL m ⟨3, vo, de, bl, nn, tx⟩ = (m, ⟨(readC (getV m vo) bl).1, (readC (getV m vo) bl).2, 0⟩) := by
  have hf : faultL m ⟨3, vo, de, bl, nn, tx⟩ = (readC (getV m vo) bl).1 := by
    rw [faultL_of (x := ⟨3, vo, de, bl, nn, tx⟩) (show (1 : Int) ≤ 3 ∧ (3 : Int) ≤ 5 by decide)]
    unfold faultOfL readC
    rw [if_neg (fun h => absurd h.1 (by simp)), if_neg (fun h => absurd h.1 (by simp))]
    simp only
    cases hg : getV m vo with
    | none => rw [sizeL_look, hg]; rfl
    | some d =>
      have hs := (hm.vol d (look_mem hg).1).size.1
      rw [size_of hg, if_neg (by omega)]
      by_cases h : bl < 0 ∨ d.size ≤ bl
      · simp only [if_pos h]; rw [if_pos ⟨by simp, h⟩]
      · simp only [if_neg h]; rw [if_neg (fun hh => h hh.2), if_neg (fun hh => absurd hh.1 (by simp))]
  by_cases h0 : faultL m ⟨3, vo, de, bl, nn, tx⟩ = 0
  · have hx : doL m ⟨3, vo, de, bl, nn, tx⟩ = (m, ⟨0, textL (volL m vo).blocks bl, 0⟩) := by unfold doL; rw [if_neg (by rw [(may_iff m).2 hm]; simp), if_neg (by rw [h0]; simp)]; rfl
    rw [hx, volL_look]
    rw [hf] at h0
    unfold readC at h0 ⊢
    cases hg : getV m vo with
    | none => rw [hg] at h0; cases h0
    | some d =>
      rw [hg] at h0
      simp only at h0 ⊢
      split at h0
      · cases h0
      · rename_i h; rw [if_neg h]; rfl
  · rw [doL_fault hm h0, hf]
    rw [hf] at h0
    unfold readC at h0 ⊢
    cases hg : getV m vo with
    | none => rfl
    | some d =>
      rw [hg] at h0
      simp only at h0 ⊢
      split
      · rfl
      · rename_i h; rw [if_neg h] at h0; exact absurd rfl h0

/-- what stands behind what was asked without an error -/
inductive Done (m : List VolD) (x : OpD) : List VolD → Prop
  | made (h : x.act = 0) (hv : 1 ≤ x.vol ∧ x.vol ≤ 1000) (hs : 0 ≤ x.n ∧ x.n ≤ 100000) (hg : getV m x.vol = none) (hl : m.length < 64) : Done m x (putG VolD.id m ⟨x.vol, x.n, []⟩)
  | gone (h : x.act = 1) (d : VolD) (hg : getV m x.vol = some d) : Done m x (m.filter fun e => !(e.id == x.vol))
  | sized (h : x.act = 2) (d : VolD) (hg : getV m x.vol = some d) (hs : 0 ≤ x.n ∧ x.n ≤ 100000) : Done m x (putG VolD.id m ⟨d.id, x.n, if x.n < d.size then cutL d.blocks x.n d.size else d.blocks⟩)
  | wrote (h : x.act = 4) (d : VolD) (hg : getV m x.vol = some d) (ht : x.text.size = 256) (hb : 0 ≤ x.block ∧ x.block < d.size) : Done m x (putG VolD.id m ⟨d.id, d.size, putG BlkD.pos d.blocks ⟨x.block, x.text⟩⟩)
  | cut (h : x.act = 5) (d : VolD) (hg : getV m x.vol = some d) (hb : 0 ≤ x.block ∧ 0 ≤ x.n ∧ x.block + x.n ≤ d.size) : Done m x (putG VolD.id m ⟨d.id, d.size, cutL d.blocks x.block (x.block + x.n)⟩)
  | snap (h : x.act = 6) (d : VolD) (hg : getV m x.vol = some d) (ht : 1 ≤ x.dest ∧ x.dest ≤ 1000) (hn : getV m x.dest = none) (hl : m.length < 64) : Done m x (putG VolD.id m ⟨x.dest, d.size, d.blocks⟩)
  | asked (h : x.act = 3 ∨ x.act = 7 ∨ x.act = 8 ∨ x.act = 9) : Done m x m

theorem fault_cases {m : List VolD} {x : OpD} (h : faultL m x = 0) : 0 ≤ x.act ∧ x.act ≤ 9 := by
  apply Classical.byContradiction; intro hn
  rw [faultL_out (by omega)] at h; cases h
theorem doL_done {m : List VolD} (hm : MayP m) {x : OpD} (hf : faultL m x = 0) : Done m x (doL m x).1 ∧ (doL m x).2.code = 0 := by
  obtain ⟨ac, vo, de, bl, nn, tx⟩ := x
  have hac := fault_cases hf
  have hmay := (may_iff m).2 hm
  have h10 : ac = 0 ∨ ac = 1 ∨ ac = 2 ∨ ac = 3 ∨ ac = 4 ∨ ac = 5 ∨ ac = 6 ∨ ac = 7 ∨ ac = 8 ∨ ac = 9 := by simp only at hac; omega
  have key : ∀ r, (mayL m = true → faultL m ⟨ac, vo, de, bl, nn, tx⟩ = 0 → doL m ⟨ac, vo, de, bl, nn, tx⟩ = r) → doL m ⟨ac, vo, de, bl, nn, tx⟩ = r := fun r h => h hmay hf
  have of5 : 1 ≤ ac ∧ ac ≤ 5 → ∃ d, getV m vo = some d ∧ faultOfL d.size ⟨ac, vo, de, bl, nn, tx⟩ = 0 := fun h => by
    rw [faultL_of (x := ⟨ac, vo, de, bl, nn, tx⟩) h] at hf
    obtain ⟨d, hd, hs⟩ := size_some hm (faultOf_neg hf)
    exact ⟨d, hd, by rw [← hs]; exact hf⟩
  rcases h10 with rfl | rfl | rfl | rfl | rfl | rfl | rfl | rfl | rfl | rfl
  · have e : doL m ⟨0, vo, de, bl, nn, tx⟩ = (withL m ⟨vo, nn, []⟩, .zero) := by unfold doL; rw [if_neg (by rw [hmay]; simp), if_neg (by rw [hf]; simp)]; rfl
    rw [faultL_0] at hf
    by_cases h1 : vo < 1 ∨ 1000 < vo ∨ nn < 0 ∨ 100000 < nn
    · rw [if_pos h1] at hf; cases hf
    · rw [if_neg h1] at hf
      by_cases h2 : 0 ≤ sizeL m vo ∨ 64 ≤ m.length
      · rw [if_pos h2] at hf; cases hf
      · have hg := size_no hm (show sizeL m vo < 0 by omega)
        rw [e, withL_put hm.rise (d := ⟨vo, nn, []⟩) hg]
        exact ⟨.made rfl (by show 1 ≤ vo ∧ vo ≤ 1000; omega) (by show 0 ≤ nn ∧ nn ≤ 100000; omega) hg (by omega), rfl⟩
  · have e : doL m ⟨1, vo, de, bl, nn, tx⟩ = (dropL m vo, .zero) := by unfold doL; rw [if_neg (by rw [hmay]; simp), if_neg (by rw [hf]; simp)]; rfl
    obtain ⟨d, hd, _⟩ := of5 (by decide)
    rw [e, dropL_filter hm.rise]
    exact ⟨.gone rfl d hd, rfl⟩
  · have e : doL m ⟨2, vo, de, bl, nn, tx⟩ = (onL m vo fun d => ⟨d.id, nn, if nn < d.size then cutL d.blocks nn d.size else d.blocks⟩, .zero) := by unfold doL; rw [if_neg (by rw [hmay]; simp), if_neg (by rw [hf]; simp)]; rfl
    obtain ⟨d, hd, h5⟩ := of5 (by decide)
    rw [e, onL_put hm.rise hd _ rfl]
    refine ⟨.sized rfl d hd ?_, rfl⟩
    unfold faultOfL at h5
    by_cases h : nn < 0 ∨ 100000 < nn
    · rw [if_pos ⟨rfl, h⟩] at h5; cases h5
    · show 0 ≤ nn ∧ nn ≤ 100000; omega
  · rw [doL_read hm]
    refine ⟨.asked (.inl rfl), ?_⟩
    have e := hf
    by_cases h0 : (readC (getV m vo) bl).1 = 0
    · exact h0
    · exfalso
      have e2 := doL_read hm vo de bl nn tx
      have e3 : doL m ⟨3, vo, de, bl, nn, tx⟩ = (m, ⟨0, textL (volL m vo).blocks bl, 0⟩) := by unfold doL; rw [if_neg (by rw [hmay]; simp), if_neg (by rw [hf]; simp)]; rfl
      rw [e2] at e3
      injection e3 with _ e4
      injection e4 with e5
      exact h0 e5
  · have e : doL m ⟨4, vo, de, bl, nn, tx⟩ = (onL m vo fun d => ⟨d.id, d.size, writtenL d.blocks ⟨bl, tx⟩⟩, .zero) := by unfold doL; rw [if_neg (by rw [hmay]; simp), if_neg (by rw [hf]; simp)]; rfl
    obtain ⟨d, hd, h5⟩ := of5 (by decide)
    have hv := hm.vol d (look_mem hd).1
    rw [e, onL_put hm.rise hd _ rfl]
    simp only [written_put hv.rise]
    unfold faultOfL at h5
    rw [if_neg (fun h => absurd h.1 (by simp))] at h5
    by_cases ht : tx.size = 256
    · by_cases hb : bl < 0 ∨ d.size ≤ bl
      · rw [if_neg (fun h => h.2 ht), if_neg (by have := hv.size.1; omega), if_pos ⟨.inr rfl, hb⟩] at h5; cases h5
      · exact ⟨.wrote rfl d hd ht (by show 0 ≤ bl ∧ bl < d.size; omega), rfl⟩
    · rw [if_pos ⟨rfl, ht⟩] at h5; cases h5
  · have e : doL m ⟨5, vo, de, bl, nn, tx⟩ = (onL m vo fun d => ⟨d.id, d.size, cutL d.blocks bl (bl + nn)⟩, .zero) := by unfold doL; rw [if_neg (by rw [hmay]; simp), if_neg (by rw [hf]; simp)]; rfl
    obtain ⟨d, hd, h5⟩ := of5 (by decide)
    have hv := hm.vol d (look_mem hd).1
    rw [e, onL_put hm.rise hd _ rfl]
    unfold faultOfL at h5
    by_cases hb : bl < 0 ∨ nn < 0 ∨ d.size < bl ∨ d.size - bl < nn
    · rw [if_neg (fun h => absurd h.1 (by simp)), if_neg (fun h => absurd h.1 (by simp)), if_neg (by have := hv.size.1; omega), if_neg (fun h => absurd h.1 (by simp)), if_pos ⟨rfl, hb⟩] at h5; cases h5
    · exact ⟨.cut rfl d hd (by show 0 ≤ bl ∧ 0 ≤ nn ∧ bl + nn ≤ d.size; omega), rfl⟩
  · have e : doL m ⟨6, vo, de, bl, nn, tx⟩ = (withL m ⟨de, (volL m vo).size, (volL m vo).blocks⟩, .zero) := by unfold doL; rw [if_neg (by rw [hmay]; simp), if_neg (by rw [hf]; simp)]; rfl
    rw [faultL_6] at hf
    by_cases h1 : de < 1 ∨ 1000 < de
    · rw [if_pos h1] at hf; cases hf
    · rw [if_neg h1] at hf
      by_cases h2 : sizeL m vo < 0 ∨ 0 ≤ sizeL m de ∨ 64 ≤ m.length
      · rw [if_pos h2] at hf; cases hf
      · obtain ⟨d, hd, hs⟩ := size_some hm (show 0 ≤ sizeL m vo by omega)
        have hg := size_no hm (show sizeL m de < 0 by omega)
        rw [e, volL_look, hd]; simp only [Option.getD_some]; rw [withL_put hm.rise (d := ⟨de, d.size, d.blocks⟩) hg]
        exact ⟨.snap rfl d hd (by show 1 ≤ de ∧ de ≤ 1000; omega) hg (by omega), rfl⟩
  · have e : doL m ⟨7, vo, de, bl, nn, tx⟩ = (m, .zero) := by unfold doL; rw [if_neg (by rw [hmay]; simp), if_neg (by rw [hf]; simp)]; rfl
    rw [e]; exact ⟨.asked (.inr (.inl rfl)), rfl⟩
  · have e : doL m ⟨8, vo, de, bl, nn, tx⟩ = (m, ⟨0, statusB m, m.length⟩) := by unfold doL; rw [if_neg (by rw [hmay]; simp), if_neg (by rw [hf]; simp)]; rfl
    rw [e]; exact ⟨.asked (.inr (.inr (.inl rfl))), rfl⟩
  · have e : doL m ⟨9, vo, de, bl, nn, tx⟩ = (m, .zero) := by unfold doL; rw [if_neg (by rw [hmay]; simp), if_neg (by rw [hf]; simp)]; rfl
    rw [e]; exact ⟨.asked (.inr (.inr (.inr rfl))), rfl⟩

theorem cut_ok {d : VolD} (h : VolP d) (lo hi size : Int) (hs : ∀ b ∈ d.blocks, ¬ (lo ≤ b.pos ∧ b.pos < hi) → b.pos < size) (h1 : 0 ≤ size ∧ size ≤ 100000) : VolP ⟨d.id, size, cutL d.blocks lo hi⟩ :=
  ⟨h.id, h1, h.rise.filter _, fun b hb => by
    unfold cutL at hb
    obtain ⟨hb1, hb2⟩ := List.mem_filter.1 hb
    have := h.blk b hb1
    exact ⟨this.1, hs b hb1 (by unfold inB at hb2; simp at hb2; omega), this.2.2⟩⟩
theorem put_may {m : List VolD} (h : MayP m) {d e : VolD} (hg : getV m d.id = some e) (hd : VolP d) : MayP (putG VolD.id m d) :=
  ⟨Nat.le_trans (put_len_in hg) h.len, rising_put h.rise d, fun y hy => by
    rcases mem_put hy with rfl | hy
    · exact hd
    · exact h.vol y hy⟩
theorem add_may {m : List VolD} (h : MayP m) {d : VolD} (hl : m.length < 64) (hd : VolP d) : MayP (putG VolD.id m d) :=
  ⟨Nat.le_trans (put_len_le _ _ _) hl, rising_put h.rise d, fun y hy => by
    rcases mem_put hy with rfl | hy
    · exact hd
    · exact h.vol y hy⟩
theorem Done.may {m n : List VolD} {x : OpD} (hm : MayP m) (h : Done m x n) : MayP n := by
  cases h with
  | made h hv hs hg hl => exact add_may hm hl ⟨hv, hs, List.Pairwise.nil, fun b hb => by simp at hb⟩
  | gone h d hg => exact ⟨Nat.le_trans (List.length_filter_le _ _) hm.len, hm.rise.filter _, fun y hy => hm.vol y (List.mem_filter.1 hy).1⟩
  | sized h d hg hs =>
    have hv := hm.vol d (look_mem hg).1
    refine put_may hm (e := d) (by show getV m d.id = _; rw [(look_mem hg).2]; exact hg) ?_
    split
    · rename_i hlt
      exact cut_ok hv _ _ _ (fun b hb hn => by have := hv.blk b hb; omega) hs
    · rename_i hge
      exact ⟨hv.id, hs, hv.rise, fun b hb => by have := hv.blk b hb; exact ⟨this.1, by show b.pos < x.n; omega, this.2.2⟩⟩
  | wrote h d hg ht hb =>
    have hv := hm.vol d (look_mem hg).1
    refine put_may hm (e := d) (by show getV m d.id = _; rw [(look_mem hg).2]; exact hg) ⟨hv.id, hv.size, rising_put hv.rise _, fun b hb2 => ?_⟩
    rcases mem_put hb2 with rfl | hb2
    · exact ⟨hb.1, hb.2, ht⟩
    · exact hv.blk b hb2
  | cut h d hg hb =>
    have hv := hm.vol d (look_mem hg).1
    exact put_may hm (e := d) (by show getV m d.id = _; rw [(look_mem hg).2]; exact hg) (cut_ok hv _ _ _ (fun b hb2 _ => (hv.blk b hb2).2.1) hv.size)
  | snap h d hg ht hn hl =>
    have hv := hm.vol d (look_mem hg).1
    exact add_may hm hl ⟨ht, hv.size, hv.rise, hv.blk⟩
  | asked h => exact hm
theorem doL_may {m : List VolD} (hm : MayP m) (x : OpD) : MayP (doL m x).1 := by
  by_cases h : faultL m x = 0
  · exact (doL_done hm h).1.may hm
  · rw [doL_fault hm h]; exact hm
theorem doL_code {m : List VolD} (hm : MayP m) (x : OpD) : (doL m x).2.code = faultL m x := by
  by_cases h : faultL m x = 0
  · rw [(doL_done hm h).2, h]
  · rw [doL_fault hm h]
/-- how many blocks there are behind an act -/
theorem doL_len {m : List VolD} (hm : MayP m) (x : OpD) (n : Nat) (h : ∀ d ∈ m, d.blocks.length ≤ n) : ∀ d ∈ (doL m x).1, d.blocks.length ≤ n + 1 := by
  by_cases hf : faultL m x = 0
  · have hd := (doL_done hm hf).1
    generalize (doL m x).1 = N at hd ⊢
    cases hd with
    | made hh hv hs hg hl => intro y hy; rcases mem_put hy with rfl | hy; exact Nat.zero_le _; have := h y hy; omega
    | gone hh d hg => intro y hy; have := h y (List.mem_filter.1 hy).1; omega
    | sized hh d hg hs =>
      intro y hy
      have hdl := h d (look_mem hg).1
      rcases mem_put hy with rfl | hy
      · show (if _ then _ else _ : List BlkD).length ≤ _
        split
        · have := List.length_filter_le (fun b => !inB x.n d.size b) d.blocks
          show (List.filter _ _).length ≤ _; omega
        · omega
      · have := h y hy; omega
    | wrote hh d hg ht hb =>
      intro y hy
      have hdl := h d (look_mem hg).1
      rcases mem_put hy with rfl | hy
      · have := put_len_le BlkD.pos d.blocks ⟨x.block, x.text⟩; show (putG _ _ _).length ≤ _; omega
      · have := h y hy; omega
    | cut hh d hg hb =>
      intro y hy
      have hdl := h d (look_mem hg).1
      rcases mem_put hy with rfl | hy
      · have := List.length_filter_le (fun b => !inB x.block (x.block + x.n) b) d.blocks
        show (List.filter _ _).length ≤ _; omega
      · have := h y hy; omega
    | snap hh d hg ht hn hl =>
      intro y hy
      have hdl := h d (look_mem hg).1
      rcases mem_put hy with rfl | hy
      · show d.blocks.length ≤ _; omega
      · have := h y hy; omega
    | asked hh => intro y hy; have := h y hy; omega
  · rw [doL_fault hm hf]; intro d hd; have := h d hd; omega
end Go.Proofs.YtgabifkechofnaaDoor
namespace Go.Proofs.YtgabifkechofnaaDoor
open Go.RowKit

theorem no_act {a b : Int} {P : Prop} (h : a = b) (hn : a ≠ b) : P := absurd h hn
theorem done4 {m : List VolD} (hm : MayP m) {vo de bl nn : Int} {tx : ByteArray} (hf : faultL m ⟨4, vo, de, bl, nn, tx⟩ = 0) :
    ∃ d, getV m vo = some d ∧ tx.size = 256 ∧ (0 ≤ bl ∧ bl < d.size) ∧ (doL m ⟨4, vo, de, bl, nn, tx⟩).1 = putG VolD.id m ⟨d.id, d.size, putG BlkD.pos d.blocks ⟨bl, tx⟩⟩ := by
  have hd := (doL_done hm hf).1
  generalize (doL m ⟨4, vo, de, bl, nn, tx⟩).1 = N at hd ⊢
  cases hd with
  | wrote h d hg ht hb => exact ⟨d, hg, ht, hb, rfl⟩
  | made h => exact no_act h (by simp)
  | gone h => exact no_act h (by simp)
  | sized h => exact no_act h (by simp)
  | cut h => exact no_act h (by simp)
  | snap h => exact no_act h (by simp)
  | asked h => exact absurd h (by simp)
theorem done5 {m : List VolD} (hm : MayP m) {vo de bl nn : Int} {tx : ByteArray} (hf : faultL m ⟨5, vo, de, bl, nn, tx⟩ = 0) :
    ∃ d, getV m vo = some d ∧ (0 ≤ bl ∧ 0 ≤ nn ∧ bl + nn ≤ d.size) ∧ (doL m ⟨5, vo, de, bl, nn, tx⟩).1 = putG VolD.id m ⟨d.id, d.size, cutL d.blocks bl (bl + nn)⟩ := by
  have hd := (doL_done hm hf).1
  generalize (doL m ⟨5, vo, de, bl, nn, tx⟩).1 = N at hd ⊢
  cases hd with
  | cut h d hg hb => exact ⟨d, hg, hb, rfl⟩
  | made h => exact no_act h (by simp)
  | gone h => exact no_act h (by simp)
  | sized h => exact no_act h (by simp)
  | wrote h => exact no_act h (by simp)
  | snap h => exact no_act h (by simp)
  | asked h => exact absurd h (by simp)
theorem done2 {m : List VolD} (hm : MayP m) {vo de bl nn : Int} {tx : ByteArray} (hf : faultL m ⟨2, vo, de, bl, nn, tx⟩ = 0) :
    ∃ d, getV m vo = some d ∧ (0 ≤ nn ∧ nn ≤ 100000) ∧ (doL m ⟨2, vo, de, bl, nn, tx⟩).1 = putG VolD.id m ⟨d.id, nn, if nn < d.size then cutL d.blocks nn d.size else d.blocks⟩ := by
  have hd := (doL_done hm hf).1
  generalize (doL m ⟨2, vo, de, bl, nn, tx⟩).1 = N at hd ⊢
  cases hd with
  | sized h d hg hb => exact ⟨d, hg, hb, rfl⟩
  | made h => exact no_act h (by simp)
  | gone h => exact no_act h (by simp)
  | cut h => exact no_act h (by simp)
  | wrote h => exact no_act h (by simp)
  | snap h => exact no_act h (by simp)
  | asked h => exact absurd h (by simp)
theorem done6 {m : List VolD} (hm : MayP m) {vo de bl nn : Int} {tx : ByteArray} (hf : faultL m ⟨6, vo, de, bl, nn, tx⟩ = 0) :
    ∃ d, getV m vo = some d ∧ getV m de = none ∧ (doL m ⟨6, vo, de, bl, nn, tx⟩).1 = putG VolD.id m ⟨de, d.size, d.blocks⟩ := by
  have hd := (doL_done hm hf).1
  generalize (doL m ⟨6, vo, de, bl, nn, tx⟩).1 = N at hd ⊢
  cases hd with
  | snap h d hg ht hn hl => exact ⟨d, hg, hn, rfl⟩
  | made h => exact no_act h (by simp)
  | gone h => exact no_act h (by simp)
  | cut h => exact no_act h (by simp)
  | wrote h => exact no_act h (by simp)
  | sized h => exact no_act h (by simp)
  | asked h => exact absurd h (by simp)

/-- with an error, and by what only asks, nothing is changed -/
theorem errors_law {m : List VolD} (hm : MayP m) (x : OpD) :
    ((doL m x).2.code ≠ 0 → (doL m x).2.text = ⟨#[]⟩ ∧ (doL m x).2.n = 0 ∧ (doL m x).1 = m) ∧ mayL (doL m x).1 = true ∧ (x.act = 3 ∨ x.act = 7 ∨ x.act = 8 ∨ x.act = 9 → (doL m x).1 = m) := by
  refine ⟨fun h => ?_, (may_iff _).2 (doL_may hm x), fun h => ?_⟩
  · rw [doL_code hm] at h
    rw [doL_fault hm h]; exact ⟨rfl, rfl, rfl⟩
  · by_cases hf : faultL m x = 0
    · have hd := (doL_done hm hf).1
      generalize (doL m x).1 = N at hd ⊢
      cases hd with
      | asked => rfl
      | made h2 => rw [h2] at h; exact absurd h (by decide)
      | gone h2 => rw [h2] at h; exact absurd h (by decide)
      | sized h2 => rw [h2] at h; exact absurd h (by decide)
      | wrote h2 => rw [h2] at h; exact absurd h (by decide)
      | cut h2 => rw [h2] at h; exact absurd h (by decide)
      | snap h2 => rw [h2] at h; exact absurd h (by decide)
    · rw [doL_fault hm hf]

theorem read_of {d : VolD} {blk : Int} : readC (some d) blk = if blk < 0 ∨ d.size ≤ blk then (191, ⟨#[]⟩) else (0, textL d.blocks blk) := rfl
abbrev rd (m : List VolD) (vo blk : Int) : Int × ByteArray := readC (getV m vo) blk

theorem getV_put (m : List VolD) (d : VolD) (k : Int) : getV (putG VolD.id m d) k = if k = d.id then some d else getV m k := look_put VolD.id m d k
theorem disc1 {n : List VolD} {vo bl : Int} {d : VolD} (hg : getV n vo = some d) (h : 0 ≤ bl ∧ bl < d.size) : faultL n ⟨5, vo, 0, bl, 1, ⟨#[]⟩⟩ = 0 := by
  rw [faultL_of (x := ⟨5, vo, 0, bl, 1, ⟨#[]⟩⟩) (show (1 : Int) ≤ 5 ∧ (5 : Int) ≤ 5 by decide)]
  unfold faultOfL
  simp only
  rw [size_of hg, if_neg (fun h => absurd h.1 (by simp)), if_neg (fun h => absurd h.1 (by simp)), if_neg (by omega), if_neg (fun h => absurd h.1 (by simp)), if_neg (fun hh => by have := hh.2; omega)]

theorem reads_law {m : List VolD} (hm : MayP m) (vo de bl nn vy by_ : Int) (tx : ByteArray) (hf : faultL m ⟨4, vo, de, bl, nn, tx⟩ = 0) :
    let n := (doL m ⟨4, vo, de, bl, nn, tx⟩).1
    let o := (doL n ⟨5, vo, 0, bl, 1, ⟨#[]⟩⟩).1
    (rd m vy by_).1 = (rd n vy by_).1 ∧ (vo = vy ∧ bl = by_ → (rd n vy by_).2 = tx) ∧ (¬ (vo = vy ∧ bl = by_) → (rd n vy by_).2 = (rd m vy by_).2) ∧
    (doL n ⟨5, vo, 0, bl, 1, ⟨#[]⟩⟩).2.code = 0 ∧ (rd o vy by_).1 = (rd n vy by_).1 ∧ (vo = vy ∧ bl = by_ → (rd o vy by_).2 = blankB) ∧ (¬ (vo = vy ∧ bl = by_) → (rd o vy by_).2 = (rd n vy by_).2) := by
  intro n o
  obtain ⟨d, hg, ht, hb, hn⟩ := done4 hm hf
  have hid : d.id = vo := (look_mem hg).2
  have hmn : MayP n := doL_may hm _
  have gn : ∀ k, getV n k = if k = vo then some ⟨d.id, d.size, putG BlkD.pos d.blocks ⟨bl, tx⟩⟩ else getV m k := fun k => by
    show getV (doL m _).1 k = _
    rw [hn, getV_put, hid]
  have hgn : getV n vo = some ⟨d.id, d.size, putG BlkD.pos d.blocks ⟨bl, tx⟩⟩ := by rw [gn, if_pos rfl]
  have hf5 := disc1 hgn hb
  obtain ⟨d2, hg2, hb2, ho⟩ := done5 hmn hf5
  rw [hgn] at hg2
  cases hg2
  have go : ∀ k, getV o k = if k = vo then some ⟨d.id, d.size, cutL (putG BlkD.pos d.blocks ⟨bl, tx⟩) bl (bl + 1)⟩ else getV n k := fun k => by
    show getV (doL n _).1 k = _
    rw [ho, getV_put]
    show (if k = d.id then _ else _) = _
    rw [hid]
  refine ⟨?_, ?_, ?_, (doL_done hmn hf5).2, ?_, ?_, ?_⟩
  · unfold rd
    rw [gn]
    split
    · rename_i e; subst e; rw [hg, read_of, read_of]; simp only; split <;> rfl
    · rfl
  · rintro ⟨rfl, rfl⟩
    unfold rd
    rw [hgn, read_of, if_neg (by show ¬ (bl < 0 ∨ d.size ≤ bl); omega)]
    show textL (putG BlkD.pos d.blocks ⟨bl, tx⟩) bl = tx
    rw [text_put, if_pos rfl]
  · intro hne
    unfold rd
    rw [gn]
    split
    · rename_i e
      subst e
      rw [hg, read_of, read_of]; simp only
      split
      · rfl
      · show textL (putG BlkD.pos d.blocks ⟨bl, tx⟩) by_ = _
        rw [text_put, if_neg (fun e => hne ⟨rfl, e.symm⟩)]
    · rfl
  · unfold rd
    rw [go]
    split
    · rename_i e; subst e; rw [hgn, read_of, read_of]; simp only; split <;> rfl
    · rfl
  · rintro ⟨rfl, rfl⟩
    unfold rd
    rw [go, if_pos rfl, read_of, if_neg (by show ¬ (bl < 0 ∨ d.size ≤ bl); omega)]
    show textL (cutL _ bl (bl + 1)) bl = _
    rw [text_cut, if_pos (by omega)]
  · intro hne
    unfold rd
    rw [go]
    split
    · rename_i e
      subst e
      rw [hgn, read_of, read_of]; simp only
      split
      · rfl
      · show textL (cutL _ bl (bl + 1)) by_ = textL _ by_
        rw [text_cut, if_neg (fun e => hne ⟨rfl, by omega⟩)]
    · rfl

/-- what is not asked of a volume leaves it as it is -/
theorem doL_keeps {m : List VolD} (hm : MayP m) (y : OpD) (k : Int) (hk : k ≠ y.vol) (hs : ¬ (y.act = 6 ∧ y.dest = k)) : getV (doL m y).1 k = getV m k := by
  by_cases hf : faultL m y = 0
  · have hd := (doL_done hm hf).1
    generalize (doL m y).1 = N at hd ⊢
    cases hd with
    | asked => rfl
    | made h hv hz hg hl => rw [getV_put, if_neg hk]
    | gone h d hg => exact look_filter _ _ _ _ (fun e _ he => by simp; omega)
    | sized h d hg hz => rw [getV_put, if_neg (by show k ≠ d.id; rw [(look_mem hg).2]; exact hk)]
    | wrote h d hg ht hb => rw [getV_put, if_neg (by show k ≠ d.id; rw [(look_mem hg).2]; exact hk)]
    | cut h d hg hb => rw [getV_put, if_neg (by show k ≠ d.id; rw [(look_mem hg).2]; exact hk)]
    | snap h d hg ht hn hl => rw [getV_put, if_neg (fun e => hs ⟨h, e.symm⟩)]
  · rw [doL_fault hm hf]
theorem snaps_law {m : List VolD} (hm : MayP m) (vo to_ : Int) (a b : Int) (tx : ByteArray) (hf : faultL m ⟨6, vo, to_, a, b, tx⟩ = 0) :
    let n := (doL m ⟨6, vo, to_, a, b, tx⟩).1
    getV n to_ = (getV m vo).map (fun d => ⟨to_, d.size, d.blocks⟩) ∧ getV n vo = getV m vo ∧ vo ≠ to_ ∧
    (∀ blk, rd n to_ blk = rd m vo blk) ∧
    (∀ (ac de bl nn : Int) (ty : ByteArray), ¬ (ac = 6 ∧ de = to_) → getV (doL n ⟨ac, vo, de, bl, nn, ty⟩).1 to_ = getV n to_) ∧
    (∀ (ac de bl nn : Int) (ty : ByteArray), ac ≠ 0 → ¬ (ac = 6 ∧ de = to_) → getV (doL n ⟨ac, to_, de, bl, nn, ty⟩).1 vo = getV m vo) := by
  intro n
  obtain ⟨d, hg, hnone, hn⟩ := done6 hm hf
  have hmn : MayP n := doL_may hm _
  have hne : vo ≠ to_ := fun e => by rw [e, hnone] at hg; cases hg
  have gn : ∀ k, getV n k = if k = to_ then some ⟨to_, d.size, d.blocks⟩ else getV m k := fun k => by
    show getV (doL m _).1 k = _
    rw [hn, getV_put]
  have g1 : getV n to_ = some ⟨to_, d.size, d.blocks⟩ := by rw [gn, if_pos rfl]
  have g2 : getV n vo = getV m vo := by rw [gn, if_neg hne]
  refine ⟨by rw [g1, hg]; rfl, g2, hne, fun blk => ?_, fun ac de bl nn ty h => ?_, fun ac de bl nn ty h0 h => ?_⟩
  · unfold rd; rw [g1, hg]; rfl
  · exact doL_keeps hmn ⟨ac, vo, de, bl, nn, ty⟩ to_ (fun e => hne e.symm) h
  · rw [← g2]
    by_cases h6 : ac = 6 ∧ de = vo
    · obtain ⟨rfl, rfl⟩ := h6
      by_cases hf2 : faultL n ⟨6, to_, de, bl, nn, ty⟩ = 0
      · obtain ⟨d2, _, hno, _⟩ := done6 hmn hf2
        rw [g2, hg] at hno; cases hno
      · rw [doL_fault hmn hf2]
    · exact doL_keeps hmn ⟨ac, to_, de, bl, nn, ty⟩ vo hne h6

theorem sizes_law {m : List VolD} (hm : MayP m) (vo n at_ : Int) (d : VolD) (hg : getV m vo = some d) (hn : 0 ≤ n ∧ n ≤ 100000) :
    let a := (doL m ⟨2, vo, 0, 0, n, ⟨#[]⟩⟩).1
    let b := (doL a ⟨2, vo, 0, 0, d.size, ⟨#[]⟩⟩).1
    (rd m vo at_).1 = (rd b vo at_).1 ∧ (at_ < n → rd m vo at_ = rd b vo at_) ∧ (¬ at_ < n → (rd m vo at_).1 ≠ 0 ∨ (rd b vo at_).2 = blankB) := by
  intro a b
  have hv := hm.vol d (look_mem hg).1
  have hid : d.id = vo := (look_mem hg).2
  have f2 : ∀ {m : List VolD} {d : VolD} {s : Int}, MayP m → getV m vo = some d → 0 ≤ s ∧ s ≤ 100000 → faultL m ⟨2, vo, 0, 0, s, ⟨#[]⟩⟩ = 0 := by
    intro m d s hm hg hs
    rw [faultL_of (x := ⟨2, vo, 0, 0, s, ⟨#[]⟩⟩) (show (1 : Int) ≤ 2 ∧ (2 : Int) ≤ 5 by decide)]
    unfold faultOfL
    simp only
    have := (hm.vol d (look_mem hg).1).size.1
    rw [size_of hg, if_neg (fun h => by have := h.2; omega), if_neg (fun h => absurd h.1 (by simp)), if_neg (by omega), if_neg (fun h => absurd h (by simp)), if_neg (fun h => absurd h.1 (by simp))]
  have hma : MayP a := doL_may hm _
  obtain ⟨d1, hg1, _, ha⟩ := done2 hm (f2 hm hg hn)
  rw [hg] at hg1; cases hg1
  have ga : getV a vo = some ⟨d.id, n, if n < d.size then cutL d.blocks n d.size else d.blocks⟩ := by
    show getV (doL m _).1 vo = _
    rw [ha, getV_put]; exact if_pos hid.symm
  obtain ⟨d2, hg2, _, hb⟩ := done2 hma (f2 hma ga hv.size)
  rw [ga] at hg2; cases hg2
  have gb : getV b vo = some ⟨d.id, d.size, if d.size < n then cutL (if n < d.size then cutL d.blocks n d.size else d.blocks) d.size n else (if n < d.size then cutL d.blocks n d.size else d.blocks)⟩ := by
    show getV (doL a _).1 vo = _
    rw [hb, getV_put]; exact if_pos hid.symm
  have tb : ∀ p, p < d.size → textL (if d.size < n then cutL (if n < d.size then cutL d.blocks n d.size else d.blocks) d.size n else (if n < d.size then cutL d.blocks n d.size else d.blocks)) p = if n ≤ p then blankB else textL d.blocks p := by
    intro p hp
    by_cases h1 : d.size < n
    · rw [if_pos h1, if_neg (by omega), text_cut, if_neg (by omega), if_neg (by omega)]
    · rw [if_neg h1]
      by_cases h2 : n < d.size
      · rw [if_pos h2, text_cut]
        by_cases h3 : n ≤ p
        · rw [if_pos ⟨h3, hp⟩, if_pos h3]
        · rw [if_neg (fun h => h3 h.1), if_neg h3]
      · rw [if_neg h2, if_neg (by omega)]
  unfold rd
  rw [hg, gb, read_of, read_of]
  simp only
  refine ⟨?_, fun h => ?_, fun h => ?_⟩
  · split <;> rfl
  · split
    · rfl
    · rw [tb at_ (by omega), if_neg (by omega)]
  · split
    · exact .inl (by simp)
    · right; show textL _ at_ = _; rw [tb at_ (by omega), if_pos (by omega)]
end Go.Proofs.YtgabifkechofnaaDoor
