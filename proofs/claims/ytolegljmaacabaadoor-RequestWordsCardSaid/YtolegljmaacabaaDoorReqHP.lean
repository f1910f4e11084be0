/- What the document's parse finds, in plain Lean: the place of a word among the ten names; what its words tell. -/
import Derived.Test.YtolegljmaacabaaDoorReqF
import Derived.Test.YtolegljmaacabaaDoorWordsP
namespace Go.Proofs.YtolegljmaacabaaDoor
open Go.RowKit

def foldK : List WKind → List (List UInt8) → OpD → Option OpD
  | [], _, o => some o
  | _ :: _, [], _ => none
  | k :: ks, a :: r, o => if (applyK k o a).2 then foldK ks r (applyK k o a).1 else none
def parseL (ws : List (List UInt8)) : Option OpD :=
  match ws with
  | [] => none
  | c :: args => match shapeOf c with
    | none => none
    | some (d, ks) => if ks.length = args.length then foldK ks args { OpD.zero with act := d } else none

def set6 (W : World) (b : Nat) (o : OpD) : World :=
  (((((W.setCell ⟨b, 0, none⟩ (.int .i64 o.act)).setCell ⟨b, 1, none⟩ (.int .i64 o.vol)).setCell ⟨b, 2, none⟩ (.int .i64 o.dest)).setCell ⟨b, 3, none⟩ (.int .i64 o.block)).setCell ⟨b, 4, none⟩ (.int .i64 o.n)).setCell ⟨b, 5, none⟩ (.string o.text)
theorem set6_at {W : World} {b : Nat} {o : OpD} (h : OpAt W b o) (o' : OpD) : OpAt (set6 W b o') b o' := by
  have h1 := h.set (o' := { o with act := o'.act }) 0 _ rfl
  have h2 := h1.set (o' := { o with act := o'.act, vol := o'.vol }) 1 _ rfl
  have h3 := h2.set (o' := { o with act := o'.act, vol := o'.vol, dest := o'.dest }) 2 _ rfl
  have h4 := h3.set (o' := { o with act := o'.act, vol := o'.vol, dest := o'.dest, block := o'.block }) 3 _ rfl
  have h5 := h4.set (o' := { o with act := o'.act, vol := o'.vol, dest := o'.dest, block := o'.block, n := o'.n }) 4 _ rfl
  exact h5.set (o' := o') 5 _ rfl
theorem set6_below {W w : World} {b B : Nat} (h : Below B w W) (hb : B ≤ b) (o : OpD) : Below B w (set6 W b o) :=
  (((((h.setCell (p := ⟨b, 0, none⟩) hb _).setCell (p := ⟨b, 1, none⟩) hb _).setCell (p := ⟨b, 2, none⟩) hb _).setCell (p := ⟨b, 3, none⟩) hb _).setCell (p := ⟨b, 4, none⟩) hb _).setCell (p := ⟨b, 5, none⟩) hb _
def PEnd (s : ByteArray) (w : World) (e : Ending) (w' : World) : Prop :=
  e = .returned (.tuple #[((parseL (wordsL s.data.toList)).getD OpD.zero).agg, .bool (parseL (wordsL s.data.toList)).isSome]) ∧ Below w.heap.size w w'

theorem gtrans {A B C : World} {row : Option Nat} (h : A.grownBy B row) (k : B.grownBy C row) : A.grownBy C row :=
  ⟨k.os.trans h.os, k.tape.trans h.tape, k.output.trans h.output, Nat.le_trans h.size k.size, fun i hi hne => (k.block i (Nat.lt_of_lt_of_le hi h.size) hne).trans (h.block i hi hne)⟩
theorem gdrew {A B : World} {row : Option Nat} (h : A.drew.grownBy B row) : A.grownBy B row := ⟨h.os, h.tape, h.output, h.size, h.block⟩
theorem OpAt.alloc {W : World} {b : Nat} {o : OpD} (h : OpAt W b o) (x : Obj) : OpAt (W.alloc x) b o := (Below.heap_alloc W x b (Array.getElem?_eq_some_iff.1 h).1).trans h


theorem word_size {s c : ByteArray} {args : List ByteArray} (hs : s.size ≤ 2000000) (h : (c :: args).map (fun x => x.data.toList) = wordsL s.data.toList) (a : ByteArray) (ha : a ∈ c :: args) : a.size ≤ maxLen := by
  have h1 := wordsL_mem s.data.toList a.data.toList (by rw [← h]; exact List.mem_map.2 ⟨a, ha, rfl⟩)
  have h2 : a.size ≤ s.size := by simpa using h1
  unfold maxLen; omega
theorem word_count {s c : ByteArray} {args : List ByteArray} (h : (c :: args).map (fun x => x.data.toList) = wordsL s.data.toList) : args.length ≤ s.size := by
  have h1 := wordsL_length s.data.toList
  rw [← h] at h1
  have h2 : s.data.toList.length = s.size := by simp
  simp only [List.length_map, List.length_cons] at h1; omega


def nameL (i : Nat) : List UInt8 := ((shapeRows[i]?).map fun r => r.1).getD []
def kindsL (i : Nat) : List WKind := ((shapeRows[i]?).map fun r => r.2.2).getD []
def doAt (c : List UInt8) : Nat → Int
  | 0 => -1
  | k + 1 => if nameL k = c then k else doAt c k
theorem doAt_lt (c : List UInt8) : ∀ k, doAt c k = -1 ∨ ∃ d : Nat, d < k ∧ doAt c k = d
  | 0 => .inl rfl
  | k + 1 => by
    unfold doAt; split
    · exact .inr ⟨k, by omega, rfl⟩
    · rcases doAt_lt c k with h | ⟨d, h, e⟩
      · exact .inl h
      · exact .inr ⟨d, by omega, e⟩
theorem name_at (d : Nat) (h : d < 10) : shapeOf (nameL d) = some (d, kindsL d) ∧ doAt (nameL d) 10 = d := by
  match d, h with
  | 0, _ => exact ⟨rfl, by decide⟩
  | 1, _ => exact ⟨rfl, by decide⟩
  | 2, _ => exact ⟨rfl, by decide⟩
  | 3, _ => exact ⟨rfl, by decide⟩
  | 4, _ => exact ⟨rfl, by decide⟩
  | 5, _ => exact ⟨rfl, by decide⟩
  | 6, _ => exact ⟨rfl, by decide⟩
  | 7, _ => exact ⟨rfl, by decide⟩
  | 8, _ => exact ⟨rfl, by decide⟩
  | 9, _ => exact ⟨rfl, by decide⟩
theorem doAt_none (c : List UInt8) : ∀ k, (∀ i, i < k → nameL i ≠ c) → doAt c k = -1
  | 0, _ => rfl
  | k + 1, h => by
    rw [doAt, if_neg (h k (by omega))]; exact doAt_none c k fun i hi => h i (by omega)
theorem shapeOf_none (c : List UInt8) (h : ∀ i, i < 10 → nameL i ≠ c) : shapeOf c = none := by
  unfold shapeOf
  rw [Option.map_eq_none_iff, List.find?_eq_none]
  intro r hr
  have : ∃ i, i < 10 ∧ nameL i = r.1 := by
    obtain ⟨i, hi, e⟩ := List.mem_iff_getElem.1 hr
    refine ⟨i, by simpa [shapeRows] using hi, ?_⟩
    unfold nameL; rw [List.getElem?_eq_getElem hi, e]; rfl
  obtain ⟨i, hi, e⟩ := this
  have := h i hi
  rw [e] at this
  simpa using this
theorem do_found (c : List UInt8) : (shapeOf c = none ∧ doAt c 10 = -1) ∨ ∃ d : Nat, d < 10 ∧ c = nameL d ∧ shapeOf c = some (d, kindsL d) ∧ doAt c 10 = d := by
  by_cases h : ∃ d, d < 10 ∧ nameL d = c
  · obtain ⟨d, hd, rfl⟩ := h
    exact .inr ⟨d, hd, rfl, (name_at d hd).1, (name_at d hd).2⟩
  · have h' : ∀ i, i < 10 → nameL i ≠ c := fun i hi e => h ⟨i, hi, e⟩
    exact .inl ⟨shapeOf_none c h', doAt_none c 10 h'⟩
theorem foldK_none : ∀ (ks : List WKind) (ws : List (List UInt8)) (o : OpD) (k : Nat) (x : WKind) (a : List UInt8), ks[k]? = some x → x ≠ .fill → ws[k]? = some a → numB a = false → foldK ks ws o = none
  | [], _, _, k, x, a, h, _, _, _ => by simp at h
  | k0 :: ks, [], o, k, x, a, _, _, h, _ => by simp at h
  | k0 :: ks, w :: ws, o, 0, x, a, h1, h2, h3, h4 => by
    simp only [List.getElem?_cons_zero, Option.some.injEq] at h1 h3
    subst h1; subst h3
    rw [foldK, if_neg]
    cases k0 <;> simp_all [applyK]
  | k0 :: ks, w :: ws, o, k + 1, x, a, h1, h2, h3, h4 => by
    rw [foldK]
    split
    · exact foldK_none ks ws _ k x a (by simpa using h1) h2 (by simpa using h3) h4
    · rfl
def manyL (d : Nat) : Nat := (kindsL d).length
theorem parse_at {c : List UInt8} {args : List (List UInt8)} {d : Nat} (h : shapeOf c = some (d, kindsL d)) : parseL (c :: args) = if manyL d = args.length then foldK (kindsL d) args { OpD.zero with act := d } else none := by
  unfold parseL; simp only [h]; rfl
theorem kinds_fill {d k : Nat} {x : WKind} (h : (kindsL d)[k]? = some x) : x = .fill ↔ d = 4 ∧ k = 2 := by
  have hd : d < 10 := by
    apply Classical.byContradiction; intro hd
    unfold kindsL at h
    rw [List.getElem?_eq_none (show shapeRows.length ≤ d by simp [shapeRows]; omega)] at h; simp at h
  match d, hd with
  | 0, _ | 1, _ | 2, _ | 3, _ | 4, _ | 5, _ | 6, _ | 7, _ | 8, _ | 9, _ =>
    simp [kindsL, shapeRows] at h
    try (rcases k with _ | _ | _ | k <;> simp at h <;> subst h <;> simp)
theorem manyL_le (d : Nat) : manyL d ≤ 3 := by
  by_cases hd : d < 10
  · match d, hd with
    | 0, _ | 1, _ | 2, _ | 3, _ | 4, _ | 5, _ | 6, _ | 7, _ | 8, _ | 9, _ => decide
  · unfold manyL kindsL
    rw [List.getElem?_eq_none (show shapeRows.length ≤ d by simp [shapeRows]; omega)]; simp
/-- the numbers that were read when k words were, of the words as behind the d-th name -/
def valsL (ar : List ByteArray) (d k j : Nat) : Nat := if j < k ∧ ¬ (d = 4 ∧ j = 2) then numV ((ar[j]?.map fun a => a.data.toList).getD []) else 0
theorem vals_skip (ar : List ByteArray) {d k : Nat} (h : d = 4 ∧ k = 2) : valsL ar d (k + 1) = valsL ar d k := by
  funext j; unfold valsL
  obtain ⟨rfl, rfl⟩ := h
  by_cases h1 : j < 2
  · rw [if_pos ⟨by omega, by omega⟩, if_pos ⟨h1, by omega⟩]
  · rw [if_neg (by omega), if_neg (by omega)]
theorem vals_step (ar : List ByteArray) {d k : Nat} {a : ByteArray} (h : ¬ (d = 4 ∧ k = 2)) (ha : ar[k]? = some a) : valsL ar d (k + 1) = fun j => if j = k then numV a.data.toList else valsL ar d k j := by
  funext j; unfold valsL
  by_cases h1 : j = k
  · subst h1
    rw [if_pos ⟨by omega, h⟩, if_pos rfl, ha]; rfl
  · rw [if_neg h1]
    by_cases h2 : j < k ∧ ¬ (d = 4 ∧ j = 2)
    · rw [if_pos h2, if_pos ⟨by omega, h2.2⟩]
    · rw [if_neg h2, if_neg (fun h => h2 ⟨by omega, h.2⟩)]
/-- what is asked, as the numbers that were read say -/
def doneL (d : Nat) (v : Nat → Nat) (text : ByteArray) : OpD :=
  match d with
  | 0 | 2 => { OpD.zero with act := d, vol := (v 0 : Nat), n := (v 1 : Nat) }
  | 1 => { OpD.zero with act := d, vol := (v 0 : Nat) }
  | 3 => { OpD.zero with act := d, vol := (v 0 : Nat), block := (v 1 : Nat) }
  | 4 => { OpD.zero with act := d, vol := (v 0 : Nat), block := (v 1 : Nat), text := text }
  | 5 => { OpD.zero with act := d, vol := (v 0 : Nat), block := (v 1 : Nat), n := (v 2 : Nat) }
  | 6 => { OpD.zero with act := d, vol := (v 0 : Nat), dest := (v 1 : Nat) }
  | 9 => { OpD.zero with act := d, n := (v 0 : Nat) }
  | _ => { OpD.zero with act := d }
theorem done0 {d : Nat} (v : Nat → Nat) (text : ByteArray) (h : d = 0) : doneL d v text = { OpD.zero with act := d, vol := (v 0 : Nat), n := (v 1 : Nat) } := by subst h; rfl
theorem done1 {d : Nat} (v : Nat → Nat) (text : ByteArray) (h : d = 1) : doneL d v text = { OpD.zero with act := d, vol := (v 0 : Nat) } := by subst h; rfl
theorem done2 {d : Nat} (v : Nat → Nat) (text : ByteArray) (h : d = 2) : doneL d v text = { OpD.zero with act := d, vol := (v 0 : Nat), n := (v 1 : Nat) } := by subst h; rfl
theorem done3 {d : Nat} (v : Nat → Nat) (text : ByteArray) (h : d = 3) : doneL d v text = { OpD.zero with act := d, vol := (v 0 : Nat), block := (v 1 : Nat) } := by subst h; rfl
theorem done5 {d : Nat} (v : Nat → Nat) (text : ByteArray) (h : d = 5) : doneL d v text = { OpD.zero with act := d, vol := (v 0 : Nat), block := (v 1 : Nat), n := (v 2 : Nat) } := by subst h; rfl
theorem done6 {d : Nat} (v : Nat → Nat) (text : ByteArray) (h : d = 6) : doneL d v text = { OpD.zero with act := d, vol := (v 0 : Nat), dest := (v 1 : Nat) } := by subst h; rfl
theorem done7 {d : Nat} (v : Nat → Nat) (text : ByteArray) (h : d = 7) : doneL d v text = { OpD.zero with act := d } := by subst h; rfl
theorem done8 {d : Nat} (v : Nat → Nat) (text : ByteArray) (h : d = 8) : doneL d v text = { OpD.zero with act := d } := by subst h; rfl
theorem done9 {d : Nat} (v : Nat → Nat) (text : ByteArray) (h : d = 9) : doneL d v text = { OpD.zero with act := d, n := (v 0 : Nat) } := by subst h; rfl
theorem fold_ok (ar : List ByteArray) (d : Nat) (hd : d < 10) (h4 : d ≠ 4) (hm : manyL d = ar.length) (hall : ∀ j a, j < manyL d → ¬ (d = 4 ∧ j = 2) → ar[j]? = some a → numB a.data.toList = true) :
    foldK (kindsL d) (ar.map fun x => x.data.toList) { OpD.zero with act := d } = some (doneL d (valsL ar d (manyL d)) ⟨#[]⟩) := by
  match d, hd with
  | 0, _ | 2, _ | 3, _ | 6, _ =>
    match ar, hm with
    | [a, b], _ =>
      have h0 := hall 0 a (by decide) (by simp) rfl; have h1 := hall 1 b (by decide) (by simp) rfl
      simp [kindsL, shapeRows, foldK, applyK, h0, h1, doneL, valsL, manyL, OpD.zero]
  | 1, _ | 9, _ =>
    match ar, hm with
    | [a], _ =>
      have h0 := hall 0 a (by decide) (by simp) rfl
      simp [kindsL, shapeRows, foldK, applyK, h0, doneL, valsL, manyL, OpD.zero]
  | 5, _ =>
    match ar, hm with
    | [a, b, c], _ =>
      have h0 := hall 0 a (by decide) (by simp) rfl; have h1 := hall 1 b (by decide) (by simp) rfl; have h2 := hall 2 c (by decide) (by simp) rfl
      simp [kindsL, shapeRows, foldK, applyK, h0, h1, h2, doneL, valsL, manyL, OpD.zero]
  | 7, _ | 8, _ =>
    match ar, hm with
    | [], _ => simp [kindsL, shapeRows, foldK, doneL, OpD.zero]
  | 4, _ => exact absurd rfl h4
theorem fold_fill (ar : List ByteArray) (hm : manyL 4 = ar.length) (hall : ∀ j a, j < manyL 4 → ¬ (4 = 4 ∧ j = 2) → ar[j]? = some a → numB a.data.toList = true) (c : ByteArray) (hc : ar[2]? = some c) :
    foldK (kindsL 4) (ar.map fun x => x.data.toList) { OpD.zero with act := 4 } = if (fillL c.data.toList).isSome then some (doneL 4 (valsL ar 4 (manyL 4)) ⟨((fillL c.data.toList).getD []).toArray⟩) else none := by
  match ar, hm with
  | [a, b, c'], _ =>
    obtain rfl : c' = c := by simpa using hc
    have h0 := hall 0 a (by decide) (by simp) rfl; have h1 := hall 1 b (by decide) (by simp) rfl
    simp [kindsL, shapeRows, foldK, applyK, h0, h1, doneL, valsL, manyL, OpD.zero]
end Go.Proofs.YtolegljmaacabaaDoor
