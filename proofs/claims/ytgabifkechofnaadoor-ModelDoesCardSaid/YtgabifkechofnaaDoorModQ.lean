/- What the model answers, as plain functions on lists. No program in sight. -/
import Derived.Test.YtgabifkechofnaaDoorModP
namespace Go.Proofs.YtgabifkechofnaaDoor
open Go.RowKit

/-- may the j-th block stand there? -/
def blkOk (size : Int) (l : List BlkD) (j : Nat) : Bool :=
  match l[j]? with
  | none => true
  | some b => decide (0 ≤ b.pos) && decide (b.pos < size) && decide (b.text.size = 256) && (match j with | 0 => true | i + 1 => match l[i]? with | none => true | some q => decide (q.pos < b.pos))
/-- may the j-th volume stand there? -/
def volOk (m : List VolD) (j : Nat) : Bool :=
  match m[j]? with
  | none => true
  | some v => decide (1 ≤ v.id) && decide (v.id ≤ 1000) && decide (0 ≤ v.size) && decide (v.size ≤ 100000) && (match j with | 0 => true | i + 1 => match m[i]? with | none => true | some q => decide (q.id < v.id)) &&
      (List.range v.blocks.length).all (blkOk v.size v.blocks)
def mayL (m : List VolD) : Bool := decide (m.length ≤ 64) && (List.range m.length).all (volOk m)

theorem mayL_long {m : List VolD} (h : 64 < m.length) : mayL m = false := by unfold mayL; simp; omega
theorem mayL_bad {m : List VolD} (j : Nat) (hj : j < m.length) (h : volOk m j = false) : mayL m = false := by
  unfold mayL
  rw [Bool.and_eq_false_iff]; right
  rw [Bool.eq_false_iff]; intro ha
  rw [List.all_eq_true] at ha
  have := ha j (List.mem_range.2 hj)
  rw [h] at this; cases this
theorem mayL_good {m : List VolD} (hl : m.length ≤ 64) (h : ∀ j, j < m.length → volOk m j = true) : mayL m = true := by
  unfold mayL
  rw [decide_eq_true hl, Bool.true_and, List.all_eq_true]
  exact fun j hj => h j (List.mem_range.1 hj)
theorem volOk_bad {m : List VolD} {k : Nat} {v : VolD} (hv : m[k]? = some v) (h : v.id < 1 ∨ 1000 < v.id ∨ v.size < 0 ∨ 100000 < v.size) : volOk m k = false := by
  unfold volOk; rw [hv]; simp only
  rcases h with h | h | h | h
  · rw [decide_eq_false (show ¬ 1 ≤ v.id by omega)]; simp
  · rw [decide_eq_false (show ¬ v.id ≤ 1000 by omega)]; simp
  · rw [decide_eq_false (show ¬ 0 ≤ v.size by omega)]; simp
  · rw [decide_eq_false (show ¬ v.size ≤ 100000 by omega)]; simp
theorem volOk_order {m : List VolD} {k : Nat} {v q : VolD} (hv : m[k + 1]? = some v) (hq : m[k]? = some q) (h : v.id ≤ q.id) : volOk m (k + 1) = false := by
  unfold volOk; rw [hv]; simp only [hq]
  rw [decide_eq_false (show ¬ q.id < v.id by omega)]; simp
theorem volOk_blk {m : List VolD} {k : Nat} {v : VolD} (hv : m[k]? = some v) (j : Nat) (hj : j < v.blocks.length) (h : blkOk v.size v.blocks j = false) : volOk m k = false := by
  unfold volOk; rw [hv]; simp only
  rw [Bool.and_eq_false_iff]; right
  rw [Bool.eq_false_iff]; intro ha
  rw [List.all_eq_true] at ha
  have := ha j (List.mem_range.2 hj)
  rw [h] at this; cases this
theorem volOk_good {m : List VolD} {k : Nat} {v : VolD} (hv : m[k]? = some v) (h1 : 1 ≤ v.id) (h2 : v.id ≤ 1000) (h3 : 0 ≤ v.size) (h4 : v.size ≤ 100000) (ho : ∀ i q, k = i + 1 → m[i]? = some q → q.id < v.id) (hb : ∀ j, j < v.blocks.length → blkOk v.size v.blocks j = true) : volOk m k = true := by
  unfold volOk; rw [hv]; simp only
  rw [decide_eq_true h1, decide_eq_true h2, decide_eq_true h3, decide_eq_true h4, List.all_eq_true.2 (fun j hj => hb j (List.mem_range.1 hj))]
  cases k with
  | zero => rfl
  | succ i =>
    cases hq : m[i]? with
    | none => simp [hq]
    | some q => simp [hq, ho i q rfl hq]
theorem blkOk_bad {size : Int} {l : List BlkD} {k : Nat} {b : BlkD} (hb : l[k]? = some b) (h : b.pos < 0 ∨ size ≤ b.pos ∨ b.text.size ≠ 256) : blkOk size l k = false := by
  unfold blkOk; rw [hb]; simp only
  rcases h with h | h | h
  · rw [decide_eq_false (show ¬ 0 ≤ b.pos by omega)]; simp
  · rw [decide_eq_false (show ¬ b.pos < size by omega)]; simp
  · rw [decide_eq_false h]; simp
theorem blkOk_order {size : Int} {l : List BlkD} {k : Nat} {b q : BlkD} (hb : l[k + 1]? = some b) (hq : l[k]? = some q) (h : b.pos ≤ q.pos) : blkOk size l (k + 1) = false := by
  unfold blkOk; rw [hb]; simp only [hq]
  rw [decide_eq_false (show ¬ q.pos < b.pos by omega)]; simp
theorem blkOk_good {size : Int} {l : List BlkD} {k : Nat} {b : BlkD} (hb : l[k]? = some b) (h1 : 0 ≤ b.pos) (h2 : b.pos < size) (h3 : b.text.size = 256) (ho : ∀ i q, k = i + 1 → l[i]? = some q → q.pos < b.pos) : blkOk size l k = true := by
  unfold blkOk; rw [hb]; simp only
  rw [decide_eq_true h1, decide_eq_true h2, decide_eq_true h3]
  cases k with
  | zero => rfl
  | succ i =>
    cases hq : l[i]? with
    | none => simp [hq]
    | some q => simp [hq, ho i q rfl hq]
theorem findL_none {m : List VolD} {id : Int} (h : ∀ j, j < m.length → ∀ d, m[j]? = some d → d.id ≠ id) : findL m id = none := by
  unfold findL
  rw [List.findIdx?_eq_none_iff]
  intro v hv
  obtain ⟨i, hi, rfl⟩ := List.mem_iff_getElem.1 hv
  simpa using h i hi _ (List.getElem?_eq_getElem hi)
theorem findL_some {m : List VolD} {id : Int} {k : Nat} {d : VolD} (hd : m[k]? = some d) (he : d.id = id) (h : ∀ j, j < k → ∀ d, m[j]? = some d → d.id ≠ id) : findL m id = some k := by
  unfold findL
  obtain ⟨hk, rfl⟩ := List.getElem?_eq_some_iff.1 hd
  rw [List.findIdx?_eq_some_iff_getElem]
  exact ⟨hk, by simpa using he, fun j hj => by simpa using h j hj _ (List.getElem?_eq_getElem (by omega))⟩
end Go.Proofs.YtgabifkechofnaaDoor
