/- Sorted lists as plain data: what stands where in a model that may be. No program in sight. -/
import Derived.Test.YtgabifkechofnaaDoorModQ
namespace Go.Proofs.YtgabifkechofnaaDoor
open Go.RowKit

variable {α : Type}
def Rising (f : α → Int) (l : List α) : Prop := l.Pairwise fun a b => f a < f b
/-- x in the place of what has its key, or at its place -/
def putG (f : α → Int) (l : List α) (x : α) : List α := (l.filter fun y => decide (f y < f x)) ++ x :: l.filter fun y => decide (f x < f y)
def lookG (f : α → Int) (l : List α) (k : Int) : Option α := l.find? fun y => f y == k

theorem rising_of_next {f : α → Int} : ∀ {l : List α}, (∀ (i : Nat) a b, l[i]? = some a → l[i + 1]? = some b → f a < f b) → Rising f l
  | [], _ => List.Pairwise.nil
  | [a], _ => List.pairwise_singleton _ _
  | a :: b :: l, h => by
    have ih := rising_of_next (l := b :: l) (fun i x y hx hy => h (i + 1) x y hx hy)
    have h0 := h 0 a b rfl rfl
    refine List.Pairwise.cons (fun c hc => ?_) ih
    rcases List.mem_cons.1 hc with rfl | hc
    · exact h0
    · have := (List.pairwise_cons.1 ih).1 c hc; omega
theorem Rising.next {f : α → Int} {l : List α} (h : Rising f l) {i : Nat} {a b : α} (ha : l[i]? = some a) (hb : l[i + 1]? = some b) : f a < f b := by
  obtain ⟨h1, rfl⟩ := List.getElem?_eq_some_iff.1 ha
  obtain ⟨h2, rfl⟩ := List.getElem?_eq_some_iff.1 hb
  exact List.pairwise_iff_getElem.1 h i (i + 1) h1 h2 (by omega)
theorem Rising.filter {f : α → Int} {l : List α} (h : Rising f l) (p : α → Bool) : Rising f (l.filter p) := List.Pairwise.filter p h
theorem Rising.map {β : Type} {f : α → Int} {g : β → Int} {l : List β} (t : β → α) (h : Rising g l) (ht : ∀ b ∈ l, f (t b) = g b) : Rising f (l.map t) := by
  unfold Rising
  rw [List.pairwise_map]
  exact List.Pairwise.imp_of_mem (fun {a b} ha hb hab => by rw [ht a ha, ht b hb]; exact hab) h
theorem rising_put {f : α → Int} {l : List α} (h : Rising f l) (x : α) : Rising f (putG f l x) := by
  unfold putG Rising
  rw [List.pairwise_append, List.pairwise_cons]
  refine ⟨h.filter _, ⟨fun y hy => ?_, h.filter _⟩, fun a ha b hb => ?_⟩
  · simpa using (List.mem_filter.1 hy).2
  · have h1 : f a < f x := by simpa using (List.mem_filter.1 ha).2
    rcases List.mem_cons.1 hb with rfl | hb
    · exact h1
    · have h2 : f x < f b := by simpa using (List.mem_filter.1 hb).2
      omega
theorem mem_put {f : α → Int} {l : List α} {x y : α} (h : y ∈ putG f l x) : y = x ∨ y ∈ l := by
  unfold putG at h
  rcases List.mem_append.1 h with h | h
  · exact .inr (List.mem_filter.1 h).1
  · rcases List.mem_cons.1 h with h | h
    · exact .inl h
    · exact .inr (List.mem_filter.1 h).1
theorem len_parts (f : α → Int) (k : Int) (l : List α) : (l.filter fun y => decide (f y < k)).length + (l.filter fun y => decide (k < f y)).length + (l.filter fun y => f y == k).length = l.length := by
  induction l with
  | nil => rfl
  | cons a l ih =>
    simp only [List.filter_cons, List.length_cons]
    rcases Int.lt_trichotomy (f a) k with h | h | h
    · rw [if_pos (by simpa using h), if_neg (by simp; omega), if_neg (by simp; omega), List.length_cons]; omega
    · rw [if_neg (by simp; omega), if_neg (by simp; omega), if_pos (by simpa using h), List.length_cons]; omega
    · rw [if_neg (by simp; omega), if_pos (by simpa using h), if_neg (by simp; omega), List.length_cons]; omega
theorem put_len (f : α → Int) (l : List α) (x : α) : (putG f l x).length + (l.filter fun y => f y == f x).length = l.length + 1 := by
  have := len_parts f (f x) l
  unfold putG
  rw [List.length_append, List.length_cons]; omega
theorem put_len_le (f : α → Int) (l : List α) (x : α) : (putG f l x).length ≤ l.length + 1 := by have := put_len f l x; omega
theorem put_len_in {f : α → Int} {l : List α} {x d : α} (h : lookG f l (f x) = some d) : (putG f l x).length ≤ l.length := by
  have h1 := put_len f l x
  have h2 : 0 < (l.filter fun y => f y == f x).length := List.length_pos_iff_exists_mem.2 ⟨d, List.mem_filter.2 ⟨List.mem_of_find?_eq_some h, List.find?_some (p := fun y => f y == f x) h⟩⟩
  omega
theorem look_filter (f : α → Int) (l : List α) (p : α → Bool) (k : Int) (h : ∀ y ∈ l, f y = k → p y = true) : lookG f (l.filter p) k = lookG f l k := by
  unfold lookG
  induction l with
  | nil => rfl
  | cons a l ih =>
    have ih := ih (fun y hy => h y (by simp [hy]))
    by_cases hk : f a = k
    · rw [List.filter_cons, if_pos (h a (by simp) hk), List.find?_cons_of_pos (by simpa using hk), List.find?_cons_of_pos (by simpa using hk)]
    · rw [List.find?_cons_of_neg (by simpa using hk), List.filter_cons]
      split
      · rw [List.find?_cons_of_neg (by simpa using hk)]; exact ih
      · exact ih
theorem look_filter_out (f : α → Int) (l : List α) (p : α → Bool) (k : Int) (h : ∀ y ∈ l, f y = k → p y = false) : lookG f (l.filter p) k = none := by
  unfold lookG
  rw [List.find?_eq_none]
  intro y hy he
  have h1 := List.mem_filter.1 hy
  rw [h y h1.1 (by simpa using he)] at h1
  exact absurd h1.2 (by simp)
theorem look_append (f : α → Int) (a b : List α) (k : Int) : lookG f (a ++ b) k = (lookG f a k).or (lookG f b k) := by unfold lookG; rw [List.find?_append]
theorem look_cons (f : α → Int) (a : α) (l : List α) (k : Int) : lookG f (a :: l) k = if f a = k then some a else lookG f l k := by
  unfold lookG
  by_cases h : f a = k
  · rw [List.find?_cons_of_pos (by simpa using h), if_pos h]
  · rw [List.find?_cons_of_neg (by simpa using h), if_neg h]
theorem look_put (f : α → Int) (l : List α) (x : α) (k : Int) : lookG f (putG f l x) k = if k = f x then some x else lookG f l k := by
  unfold putG
  rw [look_append, look_cons]
  rcases Int.lt_trichotomy k (f x) with h | h | h
  · rw [if_neg (by omega), if_neg (by omega), look_filter f l _ k (fun y _ hy => by simpa [hy] using h)]
    rw [look_filter_out f l (fun y => decide (f x < f y)) k (fun y _ hy => by simp; omega)]
    cases lookG f l k <;> rfl
  · rw [if_pos h.symm, if_pos h, look_filter_out f l _ k (fun y _ hy => by simp; omega)]; rfl
  · rw [if_neg (by omega), if_neg (by omega), look_filter_out f l _ k (fun y _ hy => by simp; omega), look_filter f l (fun y => decide (f x < f y)) k (fun y _ hy => by simp; omega)]; rfl
theorem look_mem {f : α → Int} {l : List α} {k : Int} {d : α} (h : lookG f l k = some d) : d ∈ l ∧ f d = k := ⟨List.mem_of_find?_eq_some h, by simpa using List.find?_some (p := fun y => f y == k) h⟩
theorem look_none {f : α → Int} {l : List α} {k : Int} (h : lookG f l k = none) : ∀ d ∈ l, f d ≠ k := by
  intro d hd he
  have := List.find?_eq_none.1 h d hd
  exact this (by simpa using he)
theorem look_of_mem {f : α → Int} {l : List α} (h : Rising f l) {d : α} (hd : d ∈ l) : lookG f l (f d) = some d := by
  induction l with
  | nil => cases hd
  | cons a l ih =>
    rw [look_cons]
    have h2 := List.pairwise_cons.1 h
    rcases List.mem_cons.1 hd with rfl | hd
    · rw [if_pos rfl]
    · rw [if_neg (by have := h2.1 d hd; omega)]; exact ih h2.2 hd
/-- rising lists that answer alike are the same -/
theorem rising_ext {f : α → Int} : ∀ {a b : List α}, Rising f a → Rising f b → (∀ k, lookG f a k = lookG f b k) → a = b
  | [], [], _, _, _ => rfl
  | [], y :: b, _, _, h => by have := h (f y); rw [look_cons, if_pos rfl] at this; cases this
  | x :: a, [], _, _, h => by have := h (f x); rw [look_cons, if_pos rfl] at this; cases this
  | x :: a, y :: b, ha, hb, h => by
    have a2 := List.pairwise_cons.1 ha
    have b2 := List.pairwise_cons.1 hb
    have hxy : x = y := by
      have h1 := h (f x)
      have h2 := h (f y)
      rw [look_cons, if_pos rfl, look_cons] at h1
      rw [look_cons, look_cons, if_pos rfl] at h2
      split at h1
      · cases h1; rfl
      · split at h2
        · cases h2; rfl
        · have m1 := b2.1 x (look_mem h1.symm).1
          have m2 := a2.1 y (look_mem h2).1
          omega
    subst hxy
    refine congrArg (x :: ·) (rising_ext a2.2 b2.2 fun k => ?_)
    have hk := h k
    rw [look_cons, look_cons] at hk
    split at hk
    · rename_i e
      have n1 : lookG f a k = none := by
        cases hq : lookG f a k with
        | none => rfl
        | some d => have := a2.1 d (look_mem hq).1; have := (look_mem hq).2; omega
      have n2 : lookG f b k = none := by
        cases hq : lookG f b k with
        | none => rfl
        | some d => have := b2.1 d (look_mem hq).1; have := (look_mem hq).2; omega
      rw [n1, n2]
    · exact hk
theorem tw_filter {f : α → Int} {k : Int} : ∀ {l : List α}, Rising f l → (l.takeWhile fun d => decide (f d < k)) = l.filter fun d => decide (f d < k)
  | [], _ => rfl
  | a :: l, h => by
    have h2 := List.pairwise_cons.1 h
    by_cases hk : f a < k
    · rw [List.takeWhile_cons_of_pos (by simpa using hk), List.filter_cons_of_pos (by simpa using hk), tw_filter h2.2]
    · rw [List.takeWhile_cons_of_neg (by simpa using hk), List.filter_cons_of_neg (by simpa using hk)]
      symm; rw [List.filter_eq_nil_iff]
      intro d hd
      have := h2.1 d hd
      simp; omega
theorem dw_filter {f : α → Int} {k : Int} : ∀ {l : List α}, Rising f l → (l.dropWhile fun d => decide (f d < k)) = l.filter fun d => !decide (f d < k)
  | [], _ => rfl
  | a :: l, h => by
    have h2 := List.pairwise_cons.1 h
    by_cases hk : f a < k
    · rw [List.dropWhile_cons_of_pos (by simpa using hk), List.filter_cons_of_neg (by simpa using hk), dw_filter h2.2]
    · rw [List.dropWhile_cons_of_neg (by simpa using hk)]
      symm; rw [List.filter_eq_self]
      intro d hd
      rcases List.mem_cons.1 hd with rfl | hd
      · simp; omega
      · have := h2.1 d hd; simp; omega
theorem take_tw (p : α → Bool) (l : List α) : l.take (l.takeWhile p).length = l.takeWhile p := by
  conv => lhs; rw [← List.takeWhile_append_dropWhile (p := p) (l := l)]
  rw [List.takeWhile_append_dropWhile]
  induction l with
  | nil => rfl
  | cons a l ih =>
    by_cases h : p a = true
    · rw [List.takeWhile_cons_of_pos h, List.length_cons, List.take_succ_cons, ih]
    · rw [List.takeWhile_cons_of_neg (by simpa using h)]; rfl
theorem drop_tw (p : α → Bool) (l : List α) : l.drop (l.takeWhile p).length = l.dropWhile p := by
  induction l with
  | nil => rfl
  | cons a l ih =>
    by_cases h : p a = true
    · rw [List.takeWhile_cons_of_pos h, List.dropWhile_cons_of_pos h, List.length_cons, List.drop_succ_cons, ih]
    · rw [List.takeWhile_cons_of_neg (by simpa using h), List.dropWhile_cons_of_neg (by simpa using h)]; rfl
/-- put at its place, where its key is not -/
theorem ins_put {f : α → Int} {l : List α} (h : Rising f l) (x : α) (hx : lookG f l (f x) = none) :
    l.take (l.takeWhile fun d => decide (f d < f x)).length ++ x :: l.drop (l.takeWhile fun d => decide (f d < f x)).length = putG f l x := by
  rw [take_tw, drop_tw, tw_filter h, dw_filter h]
  unfold putG
  congr 2
  refine List.filter_congr fun d hd => ?_
  have := look_none hx d hd
  rw [Bool.eq_iff_iff]; simp; omega
/-- put in the place of what has its key -/
theorem set_put {f : α → Int} {l : List α} (h : Rising f l) (x : α) (i : Nat) {d : α} (hd : l[i]? = some d) (hx : f d = f x) : l.set i x = putG f l x := by
  refine rising_ext ?_ (rising_put h x) fun k => ?_
  · obtain ⟨hi, rfl⟩ := List.getElem?_eq_some_iff.1 hd
    unfold Rising
    rw [List.pairwise_iff_getElem]
    intro a b ha hb hab
    rw [List.getElem_set, List.getElem_set]
    have key := List.pairwise_iff_getElem.1 h
    rw [List.length_set] at ha hb
    split
    · rename_i e; subst e
      rw [if_neg (by omega), ← hx]; exact key i b ha hb hab
    · split
      · rename_i e; subst e; rw [← hx]; exact key a i ha hb hab
      · exact key a b ha hb hab
  · rw [look_put]
    induction l generalizing i with
    | nil => simp at hd
    | cons a l ih =>
      cases i with
      | zero =>
        simp only [List.getElem?_cons_zero, Option.some.injEq] at hd
        subst hd
        rw [List.set_cons_zero, look_cons, look_cons, hx]
        by_cases e : f x = k
        · rw [if_pos e, if_pos e.symm]
        · rw [if_neg e, if_neg e, if_neg (fun h => e h.symm)]
      | succ i =>
        rw [List.set_cons_succ, look_cons, look_cons]
        have h2 := List.pairwise_cons.1 h
        have hd' : l[i]? = some d := by simpa using hd
        rw [ih h2.2 i hd']
        by_cases e : f a = k
        · have := h2.1 d (List.mem_of_getElem? hd')
          rw [if_pos e, if_pos e, if_neg (by omega)]
        · rw [if_neg e, if_neg e]
end Go.Proofs.YtgabifkechofnaaDoor
