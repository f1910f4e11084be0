/- Texts in parts between blanks, in plain Lean. No program in sight. -/
import Derived.Lib.Bytealg
import Derived.Lib.IndexLaws
namespace Go.Proofs.YtolegljmaacabaaDoor

/-- the parts between bytes 32, empty ones too -/
def splitL : List UInt8 → List (List UInt8)
  | [] => [[]]
  | b :: r => if b = 32 then [] :: splitL r else match splitL r with
    | [] => [[b]]
    | p :: ps => (b :: p) :: ps
def wordsL (l : List UInt8) : List (List UInt8) := (splitL l).filter fun p => decide (p ≠ [])

theorem splitL_ne (l : List UInt8) : splitL l ≠ [] := by
  cases l with
  | nil => simp [splitL]
  | cons b r => unfold splitL; split
                · simp
                · split <;> simp
theorem splitL_plain : ∀ (l : List UInt8), (∀ b ∈ l, b ≠ 32) → splitL l = [l]
  | [], _ => rfl
  | b :: r, h => by
    have hb : b ≠ 32 := h b (by simp)
    rw [splitL, if_neg hb, splitL_plain r (fun c hc => h c (by simp [hc]))]
theorem splitL_at : ∀ (p : List UInt8) (r : List UInt8), (∀ b ∈ p, b ≠ 32) → splitL (p ++ 32 :: r) = p :: splitL r
  | [], r, _ => by rw [List.nil_append, splitL, if_pos rfl]
  | b :: p, r, h => by
    have hb : b ≠ 32 := h b (by simp)
    rw [List.cons_append, splitL, if_neg hb, splitL_at p r (fun c hc => h c (by simp [hc]))]
theorem splitL_none {l : List UInt8} (h : Lib.indexByte l 32 = -1) : splitL l = [l] := by
  refine splitL_plain l fun b hb e => ?_
  obtain ⟨i, hi, rfl⟩ := List.mem_iff_getElem.1 hb
  exact Lib.indexByte_none h i (by rw [List.getElem?_eq_getElem hi, e])
theorem splitL_some {l : List UInt8} {o : Nat} (h : Lib.indexByte l 32 = o) : o < l.length ∧ splitL l = l.take o :: splitL (l.drop (o + 1)) := by
  obtain ⟨h1, h2⟩ := Lib.indexByte_some h
  have hlt : o < l.length := (List.getElem?_eq_some_iff.1 h1).1
  refine ⟨hlt, ?_⟩
  have e : l = l.take o ++ 32 :: l.drop (o + 1) := by
    have := (List.getElem?_eq_some_iff.1 h1).2
    rw [← this, List.getElem_cons_drop]; exact (List.take_append_drop o l).symm
  have key := splitL_at (l.take o) (l.drop (o + 1)) (by
    intro b hb hb2
    obtain ⟨i, hi, rfl⟩ := List.mem_iff_getElem.1 hb
    have hi' : i < o := by have : i < min o l.length := by simpa using hi
                           omega
    rw [List.getElem_take] at hb2
    exact h2 i hi' (by rw [List.getElem?_eq_getElem (by omega), hb2]))
  rw [← e] at key; exact key
theorem splitL_length (l : List UInt8) : (splitL l).length ≤ l.length + 1 := by
  induction l with
  | nil => simp [splitL]
  | cons b r ih =>
    unfold splitL; split
    · simp; omega
    · split
      · simp
      · rename_i p ps h; rw [h] at ih; simp at ih ⊢; omega
theorem splitL_mem (l : List UInt8) : ∀ p ∈ splitL l, p.length ≤ l.length := by
  induction l with
  | nil => simp [splitL]
  | cons b r ih =>
    unfold splitL; split
    · intro p hp
      rcases List.mem_cons.1 hp with rfl | hp
      · simp
      · have := ih p hp; simp; omega
    · split
      · simp
      · rename_i p ps h; rw [h] at ih
        intro q hq
        rcases List.mem_cons.1 hq with rfl | hq
        · have := ih p (by simp); simp; omega
        · have := ih q (by simp [hq]); simp; omega
theorem wordsL_mem (l : List UInt8) (p : List UInt8) (h : p ∈ wordsL l) : p.length ≤ l.length := splitL_mem l p (List.mem_filter.1 h).1
theorem wordsL_length (l : List UInt8) : (wordsL l).length ≤ l.length := by
  induction l with
  | nil => simp [wordsL, splitL]
  | cons b r ih =>
    unfold wordsL at ih ⊢
    unfold splitL; split
    · simp at ih ⊢; omega
    · split
      · rename_i h; exact absurd h (splitL_ne r)
      · rename_i p ps h; rw [h] at ih
        rw [List.filter_cons_of_pos (by simp)]
        by_cases hp : p = []
        · rw [List.filter_cons_of_neg (by simp [hp])] at ih; simp only [List.length_cons]; omega
        · rw [List.filter_cons_of_pos (by simp [hp])] at ih; simp only [List.length_cons] at ih ⊢; omega
end Go.Proofs.YtolegljmaacabaaDoor
