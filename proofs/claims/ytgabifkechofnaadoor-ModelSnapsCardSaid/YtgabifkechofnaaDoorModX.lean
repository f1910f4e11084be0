/- The model's laws on plain data: what may be stays so; what is read behind each act. No program in sight. -/
import Derived.Test.YtgabifkechofnaaDoorModV
import Derived.Test.YtgabifkechofnaaDoorModT
namespace Go.Proofs.YtgabifkechofnaaDoor
open Go.RowKit

structure VolP (d : VolD) : Prop where
  id : 1 ≤ d.id ∧ d.id ≤ 1000
  size : 0 ≤ d.size ∧ d.size ≤ 100000
  rise : Rising BlkD.pos d.blocks
  blk : ∀ b ∈ d.blocks, 0 ≤ b.pos ∧ b.pos < d.size ∧ b.text.size = 256
structure MayP (m : List VolD) : Prop where
  len : m.length ≤ 64
  rise : Rising VolD.id m
  vol : ∀ d ∈ m, VolP d
abbrev getV (m : List VolD) (id : Int) : Option VolD := lookG VolD.id m id

theorem blkOk_inv {size : Int} {l : List BlkD} {k : Nat} {b : BlkD} (h : blkOk size l k = true) (hb : l[k]? = some b) : 0 ≤ b.pos ∧ b.pos < size ∧ b.text.size = 256 ∧ ∀ i q, k = i + 1 → l[i]? = some q → q.pos < b.pos := by
  unfold blkOk at h
  rw [hb] at h
  simp only [Bool.and_eq_true, decide_eq_true_eq] at h
  refine ⟨h.1.1.1, h.1.1.2, h.1.2, fun i q e hq => ?_⟩
  subst e
  have := h.2
  simp only [hq, decide_eq_true_eq] at this
  exact this
theorem volOk_inv {m : List VolD} {k : Nat} {d : VolD} (h : volOk m k = true) (hd : m[k]? = some d) : (1 ≤ d.id ∧ d.id ≤ 1000) ∧ (0 ≤ d.size ∧ d.size ≤ 100000) ∧ (∀ i q, k = i + 1 → m[i]? = some q → q.id < d.id) ∧ ∀ j, j < d.blocks.length → blkOk d.size d.blocks j = true := by
  unfold volOk at h
  rw [hd] at h
  simp only [Bool.and_eq_true, decide_eq_true_eq, List.all_eq_true] at h
  refine ⟨⟨h.1.1.1.1.1, h.1.1.1.1.2⟩, ⟨h.1.1.1.2, h.1.1.2⟩, fun i q e hq => ?_, fun j hj => h.2 j (List.mem_range.2 hj)⟩
  subst e
  have := h.1.2
  simp only [hq, decide_eq_true_eq] at this
  exact this
theorem may_iff (m : List VolD) : mayL m = true ↔ MayP m := by
  constructor
  · intro h
    unfold mayL at h
    rw [Bool.and_eq_true, decide_eq_true_eq, List.all_eq_true] at h
    have key : ∀ k d, m[k]? = some d → _ := fun k d hd => volOk_inv (h.2 k (List.mem_range.2 (List.getElem?_eq_some_iff.1 hd).1)) hd
    refine ⟨h.1, rising_of_next fun i a b ha hb => (key (i + 1) b hb).2.2.1 i a rfl ha, fun d hd => ?_⟩
    obtain ⟨k, hk⟩ := List.mem_iff_getElem?.1 hd
    obtain ⟨h1, h2, _, h4⟩ := key k d hk
    have kb : ∀ j b, d.blocks[j]? = some b → _ := fun j b hb => blkOk_inv (h4 j (List.getElem?_eq_some_iff.1 hb).1) hb
    refine ⟨h1, h2, rising_of_next fun i a b ha hb => (kb (i + 1) b hb).2.2.2 i a rfl ha, fun b hb => ?_⟩
    obtain ⟨j, hj⟩ := List.mem_iff_getElem?.1 hb
    have := kb j b hj
    exact ⟨this.1, this.2.1, this.2.2.1⟩
  · intro h
    refine mayL_good h.len fun k hk => ?_
    have hd := List.getElem?_eq_getElem hk
    have hv := h.vol _ (List.mem_of_getElem? hd)
    refine volOk_good hd hv.id.1 hv.id.2 hv.size.1 hv.size.2 (fun i q e hq => ?_) fun j hj => ?_
    · subst e; exact h.rise.next hq hd
    · have hb := List.getElem?_eq_getElem hj
      have h3 := hv.blk _ (List.mem_of_getElem? hb)
      refine blkOk_good hb h3.1 h3.2.1 h3.2.2 fun i q e hq => ?_
      subst e; exact hv.rise.next hq hb

theorem find_look (m : List VolD) (id : Int) : getV m id = (findL m id).bind (m[·]?) := by
  unfold getV lookG findL
  induction m with
  | nil => rfl
  | cons a m ih =>
    by_cases h : a.id = id
    · rw [List.find?_cons_of_pos (by simpa using h), List.findIdx?_cons, if_pos (by simpa using h)]; rfl
    · rw [List.find?_cons_of_neg (by simpa using h), List.findIdx?_cons, if_neg (by simpa using h), ih]
      cases List.findIdx? (fun v => v.id == id) m <;> rfl
theorem find_none {m : List VolD} {id : Int} (h : getV m id = none) : findL m id = none := by
  cases hf : findL m id with
  | none => rfl
  | some i => obtain ⟨d, hd, _⟩ := findL_lt hf; rw [find_look, hf, Option.bind_some, hd] at h; cases h
theorem find_some {m : List VolD} {id : Int} {d : VolD} (h : getV m id = some d) : ∃ i, findL m id = some i ∧ m[i]? = some d ∧ d.id = id := by
  cases hf : findL m id with
  | none => rw [find_look, hf] at h; cases h
  | some i => exact ⟨i, rfl, by rw [find_look, hf, Option.bind_some] at h; exact h, (look_mem h).2⟩
theorem sizeL_look (m : List VolD) (id : Int) : sizeL m id = match getV m id with | none => -1 | some d => d.size := by
  cases h : getV m id with
  | none => rw [sizeL_none (find_none h)]
  | some d => obtain ⟨i, h1, h2, _⟩ := find_some h; rw [sizeL_some h1 h2]
theorem volL_look (m : List VolD) (id : Int) : volL m id = (getV m id).getD ⟨0, 0, []⟩ := by
  unfold volL
  cases h : getV m id with
  | none => rw [find_none h]; rfl
  | some d => obtain ⟨i, h1, h2, _⟩ := find_some h; rw [h1]; simp only [h2]
theorem onL_put {m : List VolD} (hm : Rising VolD.id m) {id : Int} {d : VolD} (h : getV m id = some d) (f : VolD → VolD) (hf : (f d).id = d.id) : onL m id f = putG VolD.id m (f d) := by
  obtain ⟨i, h1, h2, _⟩ := find_some h
  unfold onL
  rw [h1]; simp only [h2]
  exact set_put hm _ i h2 hf.symm
theorem dropL_filter {m : List VolD} (hm : Rising VolD.id m) (id : Int) : dropL m id = m.filter fun d => !(d.id == id) := by
  unfold dropL
  cases h : getV m id with
  | none =>
    rw [find_none h]; symm; simp only; rw [List.filter_eq_self]
    intro d hd; have := look_none h d hd; simpa using this
  | some d =>
    obtain ⟨i, h1, h2, h3⟩ := find_some h
    rw [h1]; simp only
    obtain ⟨hi, e⟩ := List.getElem?_eq_some_iff.1 h2
    conv => rhs; rw [← List.take_append_drop i m, List.drop_eq_getElem_cons hi]
    rw [List.filter_append, List.filter_cons_of_neg (by rw [e]; simpa using h3)]
    have hp := List.pairwise_iff_getElem.1 hm
    congr 1
    · symm; rw [List.filter_eq_self]
      intro a ha
      obtain ⟨j, hj, rfl⟩ := List.mem_take_iff_getElem.1 ha
      have := hp j i (by omega) hi (by omega)
      rw [e] at this; simp; omega
    · symm; rw [List.filter_eq_self]
      intro a ha
      obtain ⟨j, hj, rfl⟩ := List.mem_drop_iff_getElem.1 ha
      have := hp i (i + 1 + j) hi (by omega) (by omega)
      rw [e] at this; simp; omega
theorem withL_put {m : List VolD} (hm : Rising VolD.id m) {d : VolD} (h : getV m d.id = none) : withL m d = putG VolD.id m d := ins_put hm d h
theorem hit_look {l : List BlkD} (hl : Rising BlkD.pos l) (pos : Int) : hitB l pos = (lookG BlkD.pos l pos).isSome := by
  have e1 : l[posB l pos]? = (l.filter fun d => !decide (d.pos < pos))[0]? := by
    rw [← dw_filter hl, ← drop_tw, List.getElem?_drop]; rfl
  unfold hitB
  rw [e1]
  cases h : lookG BlkD.pos l pos with
  | none =>
    cases hq : (l.filter fun d => !decide (d.pos < pos))[0]? with
    | none => rfl
    | some d => have h1 := look_none h d (List.mem_filter.1 (List.mem_of_getElem? hq)).1; simp only; rw [decide_eq_false h1]; rfl
  | some d =>
    obtain ⟨h1, h2⟩ := look_mem h
    have h3 : d ∈ l.filter fun d => !decide (d.pos < pos) := List.mem_filter.2 ⟨h1, by simp; omega⟩
    have hr : Rising BlkD.pos (l.filter fun d => !decide (d.pos < pos)) := hl.filter _
    have ha := fun a (ha : a ∈ l.filter fun d => !decide (d.pos < pos)) => (List.mem_filter.1 ha).2
    cases hf : l.filter fun d => !decide (d.pos < pos) with
    | nil => rw [hf] at h3; cases h3
    | cons a r =>
      rw [hf] at h3 hr ha
      rw [List.getElem?_cons_zero]
      have h4 := ha a (by simp)
      have h5 : a.pos = pos := by
        rcases List.mem_cons.1 h3 with rfl | h3
        · exact h2
        · have := (List.pairwise_cons.1 hr).1 d h3; simp at h4; omega
      simp only [h5, decide_true]; rfl
theorem written_put {l : List BlkD} (hl : Rising BlkD.pos l) (b : BlkD) : writtenL l b = putG BlkD.pos l b := by
  cases h : lookG BlkD.pos l b.pos with
  | none => unfold writtenL; rw [hit_look hl, h, if_neg (by simp)]; exact ins_put hl b h
  | some d =>
    have hh : hitB l b.pos = true := by rw [hit_look hl, h]; rfl
    have e := hh
    unfold hitB at e
    cases hq : l[posB l b.pos]? with
    | none => rw [hq] at e; cases e
    | some q =>
      rw [hq] at e
      unfold writtenL; rw [hh, if_pos rfl]
      exact set_put hl b _ hq (by simpa using e)
theorem text_look (l : List BlkD) (pos : Int) : textL l pos = match lookG BlkD.pos l pos with | none => blankB | some b => b.text := rfl
theorem text_put (l : List BlkD) (b : BlkD) (p : Int) : textL (putG BlkD.pos l b) p = if p = b.pos then b.text else textL l p := by
  rw [text_look, look_put]
  by_cases h : p = b.pos
  · rw [if_pos h, if_pos h]
  · rw [if_neg h, if_neg h]; rfl
theorem text_cut (l : List BlkD) (lo hi p : Int) : textL (cutL l lo hi) p = if lo ≤ p ∧ p < hi then blankB else textL l p := by
  rw [text_look]; unfold cutL
  by_cases h : lo ≤ p ∧ p < hi
  · rw [if_pos h, look_filter_out _ _ _ _ (fun y _ hy => by unfold inB; simp; omega)]
  · rw [if_neg h, look_filter _ _ _ _ (fun y _ hy => by unfold inB; simp; omega)]; rfl
end Go.Proofs.YtgabifkechofnaaDoor
